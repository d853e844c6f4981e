/- hermite.reduce over the identity of 3 rows. -/
import Derived.Test.YtmjlglnolgaekaaGreatDoorV11
set_option linter.unusedSimpArgs false
set_option linter.unusedVariables false
set_option linter.unusedSimpArgs false
set_option linter.unusedVariables false
set_option maxRecDepth 100000
set_option maxHeartbeats 40000000
namespace Go.Vm
open Go
attribute [local simp] EV_seqL EV_condL EV_blockL EV_regionL EV_loopL stms_nil stms_cons stm_op stm_opg stm_pre stm_frz stm_junk stm_ownt stm_frzc stm_ownnil op_callL

theorem red3 {a0 a1 a2 : Int} (h0 : S9 a0) (p0 : 1 ≤ a0) (h1 : S9 a1) (p1 : 1 ≤ a1) (h2 : S9 a2) (p2 : 1 ≤ a2) : Ret (CT T2 152 [.i (idM 3), .i (rI [a0, a1, a2])] ([], 1000)) (.tup [.sl 1 [zB 0, zB 0, zB 0], .sl 1 [zB a0, zB a1, zB a2]]) := by
  have z0 : sI [48] = zB 0 := z48
  have z1 : sI [49] = zB 1 := z49
  have e1 := zl_zero 1
  have e0 := zl_zero 0
  have o0 := of_T2 (x := 0) (by omega)
  have o1 := of_T2 (x := 1) (by omega)
  have oa0 := of_T2 (x := a0) ⟨by omega, by omega⟩
  have da0 := div1_T2 h0
  have ma0 := mul_T2 h0 (y := 1) (by omega)
  rw [Int.mul_one] at ma0
  have sa0 := sub_T2 h0 h0
  rw [Int.sub_self] at sa0
  have za0 := zl_zero a0
  rw [decide_eq_false (by omega)] at za0
  have oa1 := of_T2 (x := a1) ⟨by omega, by omega⟩
  have da1 := div1_T2 h1
  have ma1 := mul_T2 h1 (y := 1) (by omega)
  rw [Int.mul_one] at ma1
  have sa1 := sub_T2 h1 h1
  rw [Int.sub_self] at sa1
  have za1 := zl_zero a1
  rw [decide_eq_false (by omega)] at za1
  have oa2 := of_T2 (x := a2) ⟨by omega, by omega⟩
  have da2 := div1_T2 h2
  have ma2 := mul_T2 h2 (y := 1) (by omega)
  rw [Int.mul_one] at ma2
  have sa2 := sub_T2 h2 h2
  rw [Int.sub_self] at sa2
  have za2 := zl_zero a2
  rw [decide_eq_false (by omega)] at za2
  have na0 : ¬ a0 = 0 := by omega
  have nb0 : ¬ 0 = a0 := by omega
  have na1 : ¬ a1 = 0 := by omega
  have nb1 : ¬ 0 = a1 := by omega
  have na2 : ¬ a2 = 0 := by omega
  have nb2 : ¬ 0 = a2 := by omega
  have id1 : idM 3 = .sl 1 [.sl 1 [iI 1, iI 0, iI 0], .sl 1 [iI 0, iI 1, iI 0], .sl 1 [iI 0, iI 0, iI 1]] := by simp [idM, idR, List.range, List.range.loop]
  rw [id1, L152]
  simp (maxSteps := 100000000) [mkFn, St.copyTo, noMent, F.isI, v152, v152_0, v183, v183_0, v183_1, v185, v209, v209_0, v208, v208_0, v117, v117_0, v184, L183, L185, L209, L208, L117, L184, iso_L, resK, passHp, passed, passArgs, hdrop, isPassed, snap3_i, snap3_own, snap3_agg, snap2_i, snap2_own, mapO, takeBack, takeRes, takeResL, backLabel, killGone, callOp_thr (show thrOf T2 183 = true from rfl), callOp_thr (show thrOf T2 185 = true from rfl), callOp_thr (show thrOf T2 209 = true from rfl), callOp_iso (show thrOf T2 208 = false from rfl), callOp_iso (show thrOf T2 117 = false from rfl), callOp_iso (show thrOf T2 184 = false from rfl), z0, z1, I.at, F.at, fillF, St.parts, St.source, Blk.ext, call1 (show thrOf T2 96 = false from rfl) o0, call1 (show thrOf T2 96 = false from rfl) o1, call1 (show thrOf T2 96 = false from rfl) oa0, call2 (show thrOf T2 112 = false from rfl) da0, call2 (show thrOf T2 95 = false from rfl) ma0, call2 (show thrOf T2 156 = false from rfl) sa0, call1 (show thrOf T2 96 = false from rfl) oa1, call2 (show thrOf T2 112 = false from rfl) da1, call2 (show thrOf T2 95 = false from rfl) ma1, call2 (show thrOf T2 156 = false from rfl) sa1, call1 (show thrOf T2 96 = false from rfl) oa2, call2 (show thrOf T2 112 = false from rfl) da2, call2 (show thrOf T2 95 = false from rfl) ma2, call2 (show thrOf T2 156 = false from rfl) sa2, zeqb, zeq, e0, e1, na0, na1, na2, nb0, nb1, nb2, wi1, wi2, wi3, wi4, wi5, wi6, wi7, wu1, wu2, wu3, wu4, wu5, wu6, wu7, call2 (show thrOf T2 232 = false from rfl) M1, call2 (show thrOf T2 232 = false from rfl) M3, za0, za1, za2]
end Go.Vm
