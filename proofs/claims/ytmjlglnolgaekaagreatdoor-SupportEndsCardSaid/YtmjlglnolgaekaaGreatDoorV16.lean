/- support.Coordinates of the Just temperament. -/
import Derived.Test.YtmjlglnolgaekaaGreatDoorV12
import Derived.Test.YtmjlglnolgaekaaGreatDoorV13
import Derived.Test.YtmjlglnolgaekaaGreatDoorV14
import Derived.Test.YtmjlglnolgaekaaGreatDoorV15
set_option linter.unusedSimpArgs false
set_option linter.unusedVariables false
set_option linter.unusedSimpArgs false
set_option linter.unusedVariables false
set_option maxRecDepth 100000
set_option maxHeartbeats 4000000
namespace Go.Vm
open Go
attribute [local simp] EV_seqL EV_condL EV_blockL EV_regionL EV_loopL stms_nil stms_cons stm_op stm_opg stm_pre stm_frz stm_junk stm_ownt stm_frzc stm_ownnil op_callL
theorem form_fin : ([1, 2, 3, 4] : List Nat).all (fun n => evI T2 200 100 [idM n] (.tup [.bool true, iI 0])) = true := by decide +kernel
theorem form_100 {n : Nat} (h : n ∈ ([1, 2, 3, 4] : List Nat)) : Ret (CT T2 100 [.i (idM n)] ([], 1000)) (.tup [.bool true, iI 0]) := evI_eq (List.all_eq_true.1 form_fin n h)
theorem nz_153 : Ret (CT T2 153 [.i (zB 0)] ([], 1000)) (.bool false) := by
  have z0 : sI [48] = zB 0 := z48
  rw [CT_L (vf := v153) rfl rfl]
  simp [v153, z0]

theorem zer76_1 : Ret (CT T2 76 [.i (.sl 1 [zB 0]), .i (.fn 153 [])] ([], 1000)) (.bool false) := by
  have c : Ret (CT T2 117 [.i (.sl 1 [zB 0]), .i (.fn 153 [])] ([], 1000)) (iI (-1)) := by
    rw [CT_L (vf := v117) rfl rfl]
    simp [v117, v117_0, I.at, call1 (show thrOf T2 153 = false from rfl) nz_153, wi1, wi2, wi3, wi4, wi5]
  rw [CT_L (vf := v76) rfl rfl]
  simp [v76, call2 (show thrOf T2 117 = false from rfl) c]
theorem con1 {a0 : Int} (h0 : S9 a0) (p0 : 1 ≤ a0) : Ret (CT T2 106 [.i (idM 1), .i (rI [a0])] ([], 1000)) (.tup [.sl 1 [zB a0], .bool true]) := by
  have r := red1 h0 p0
  rw [CT_L (vf := v106) rfl rfl]
  simp [v106, call2 (show thrOf T2 152 = false from rfl) r, call2 (show thrOf T2 76 = false from rfl) zer76_1]
theorem sm1 {a0 : Int} (h0 : S9 a0) (p0 : 1 ≤ a0) : Ret (CT T2 107 [.i (.sl 1 [zB a0])] ([], 1000)) (.tup [rI [a0], iI 0]) := by
  have s0 := small_T2 h0
  have c0 : ¬ a0 > 1000000000 := by omega
  have d0 : ¬ a0 < -1000000000 := by omega
  have e0 : ¬ 1000000000 < a0 := by omega
  rw [CT_L (vf := v107) rfl rfl]
  simp [v107, v107_0, I.at, fillF, St.parts, St.source, Blk.ext, wi1, wi2, wi3, wi4, wi5, call1 (show thrOf T2 116 = false from rfl) s0, c0, d0, e0]
theorem open1 {a0 : Int} (h0 : S9 a0) (p0 : 1 ≤ a0) : Ret (CT T2 105 [.i (idM 1), .i (rI [a0])] ([], 1000)) (iI 0) := by
  have f := form_100 (n := 1) (by decide)
  have rc := rowCheck_22 (v := [a0]) ⟨by simp, fun n hn => by simp only [List.mem_cons, List.not_mem_nil, or_false] at hn; omega⟩
  have id1 : idM 1 = .sl 1 [.sl 1 [iI 1]] := by simp [idM, idR, List.range, List.range.loop]
  rw [id1] at f ⊢
  rw [CT_L (vf := v105) rfl rfl]
  simp [v105, I.at, call1 (show thrOf T2 100 = false from rfl) f, call1 (show thrOf T2 22 = false from rfl) rc]
theorem coo1 {a0 : Int} (h0 : S9 a0) (p0 : 1 ≤ a0) : Ret (CT T2 68 [.i (idM 1), .i (rI [a0])] ([], 1000)) (.tup [rI [a0], .bool true, iI 0]) := by
  have o := open1 h0 p0
  have c := con1 h0 p0
  have s := sm1 h0 p0
  rw [CT_L (vf := v68) rfl rfl]
  simp [v68, call2 (show thrOf T2 105 = false from rfl) o, call2 (show thrOf T2 106 = false from rfl) c, call1 (show thrOf T2 107 = false from rfl) s]
theorem eqr1 {a0 : Int} : Ret (CT T2 27 [.i (rI [a0]), .i (rI [a0])] ([], 1000)) (.bool true) := by
  rw [CT_L (vf := v27) rfl rfl]
  simp [v27, v27_0, I.at, wi1, wi2, wi3, wi4, wi5]
theorem zer76_2 : Ret (CT T2 76 [.i (.sl 1 [zB 0, zB 0]), .i (.fn 153 [])] ([], 1000)) (.bool false) := by
  have c : Ret (CT T2 117 [.i (.sl 1 [zB 0, zB 0]), .i (.fn 153 [])] ([], 1000)) (iI (-1)) := by
    rw [CT_L (vf := v117) rfl rfl]
    simp [v117, v117_0, I.at, call1 (show thrOf T2 153 = false from rfl) nz_153, wi1, wi2, wi3, wi4, wi5]
  rw [CT_L (vf := v76) rfl rfl]
  simp [v76, call2 (show thrOf T2 117 = false from rfl) c]
theorem con2 {a0 a1 : Int} (h0 : S9 a0) (p0 : 1 ≤ a0) (h1 : S9 a1) (p1 : 1 ≤ a1) : Ret (CT T2 106 [.i (idM 2), .i (rI [a0, a1])] ([], 1000)) (.tup [.sl 1 [zB a0, zB a1], .bool true]) := by
  have r := red2 h0 p0 h1 p1
  rw [CT_L (vf := v106) rfl rfl]
  simp [v106, call2 (show thrOf T2 152 = false from rfl) r, call2 (show thrOf T2 76 = false from rfl) zer76_2]
theorem sm2 {a0 a1 : Int} (h0 : S9 a0) (p0 : 1 ≤ a0) (h1 : S9 a1) (p1 : 1 ≤ a1) : Ret (CT T2 107 [.i (.sl 1 [zB a0, zB a1])] ([], 1000)) (.tup [rI [a0, a1], iI 0]) := by
  have s0 := small_T2 h0
  have c0 : ¬ a0 > 1000000000 := by omega
  have d0 : ¬ a0 < -1000000000 := by omega
  have e0 : ¬ 1000000000 < a0 := by omega
  have s1 := small_T2 h1
  have c1 : ¬ a1 > 1000000000 := by omega
  have d1 : ¬ a1 < -1000000000 := by omega
  have e1 : ¬ 1000000000 < a1 := by omega
  rw [CT_L (vf := v107) rfl rfl]
  simp [v107, v107_0, I.at, fillF, St.parts, St.source, Blk.ext, wi1, wi2, wi3, wi4, wi5, call1 (show thrOf T2 116 = false from rfl) s0, c0, d0, e0, call1 (show thrOf T2 116 = false from rfl) s1, c1, d1, e1]
theorem open2 {a0 a1 : Int} (h0 : S9 a0) (p0 : 1 ≤ a0) (h1 : S9 a1) (p1 : 1 ≤ a1) : Ret (CT T2 105 [.i (idM 2), .i (rI [a0, a1])] ([], 1000)) (iI 0) := by
  have f := form_100 (n := 2) (by decide)
  have rc := rowCheck_22 (v := [a0, a1]) ⟨by simp, fun n hn => by simp only [List.mem_cons, List.not_mem_nil, or_false] at hn; omega⟩
  have id1 : idM 2 = .sl 1 [.sl 1 [iI 1, iI 0], .sl 1 [iI 0, iI 1]] := by simp [idM, idR, List.range, List.range.loop]
  rw [id1] at f ⊢
  rw [CT_L (vf := v105) rfl rfl]
  simp [v105, I.at, call1 (show thrOf T2 100 = false from rfl) f, call1 (show thrOf T2 22 = false from rfl) rc]
theorem coo2 {a0 a1 : Int} (h0 : S9 a0) (p0 : 1 ≤ a0) (h1 : S9 a1) (p1 : 1 ≤ a1) : Ret (CT T2 68 [.i (idM 2), .i (rI [a0, a1])] ([], 1000)) (.tup [rI [a0, a1], .bool true, iI 0]) := by
  have o := open2 h0 p0 h1 p1
  have c := con2 h0 p0 h1 p1
  have s := sm2 h0 p0 h1 p1
  rw [CT_L (vf := v68) rfl rfl]
  simp [v68, call2 (show thrOf T2 105 = false from rfl) o, call2 (show thrOf T2 106 = false from rfl) c, call1 (show thrOf T2 107 = false from rfl) s]
theorem eqr2 {a0 a1 : Int} : Ret (CT T2 27 [.i (rI [a0, a1]), .i (rI [a0, a1])] ([], 1000)) (.bool true) := by
  rw [CT_L (vf := v27) rfl rfl]
  simp [v27, v27_0, I.at, wi1, wi2, wi3, wi4, wi5]
theorem zer76_3 : Ret (CT T2 76 [.i (.sl 1 [zB 0, zB 0, zB 0]), .i (.fn 153 [])] ([], 1000)) (.bool false) := by
  have c : Ret (CT T2 117 [.i (.sl 1 [zB 0, zB 0, zB 0]), .i (.fn 153 [])] ([], 1000)) (iI (-1)) := by
    rw [CT_L (vf := v117) rfl rfl]
    simp [v117, v117_0, I.at, call1 (show thrOf T2 153 = false from rfl) nz_153, wi1, wi2, wi3, wi4, wi5]
  rw [CT_L (vf := v76) rfl rfl]
  simp [v76, call2 (show thrOf T2 117 = false from rfl) c]
theorem con3 {a0 a1 a2 : Int} (h0 : S9 a0) (p0 : 1 ≤ a0) (h1 : S9 a1) (p1 : 1 ≤ a1) (h2 : S9 a2) (p2 : 1 ≤ a2) : Ret (CT T2 106 [.i (idM 3), .i (rI [a0, a1, a2])] ([], 1000)) (.tup [.sl 1 [zB a0, zB a1, zB a2], .bool true]) := by
  have r := red3 h0 p0 h1 p1 h2 p2
  rw [CT_L (vf := v106) rfl rfl]
  simp [v106, call2 (show thrOf T2 152 = false from rfl) r, call2 (show thrOf T2 76 = false from rfl) zer76_3]
theorem sm3 {a0 a1 a2 : Int} (h0 : S9 a0) (p0 : 1 ≤ a0) (h1 : S9 a1) (p1 : 1 ≤ a1) (h2 : S9 a2) (p2 : 1 ≤ a2) : Ret (CT T2 107 [.i (.sl 1 [zB a0, zB a1, zB a2])] ([], 1000)) (.tup [rI [a0, a1, a2], iI 0]) := by
  have s0 := small_T2 h0
  have c0 : ¬ a0 > 1000000000 := by omega
  have d0 : ¬ a0 < -1000000000 := by omega
  have e0 : ¬ 1000000000 < a0 := by omega
  have s1 := small_T2 h1
  have c1 : ¬ a1 > 1000000000 := by omega
  have d1 : ¬ a1 < -1000000000 := by omega
  have e1 : ¬ 1000000000 < a1 := by omega
  have s2 := small_T2 h2
  have c2 : ¬ a2 > 1000000000 := by omega
  have d2 : ¬ a2 < -1000000000 := by omega
  have e2 : ¬ 1000000000 < a2 := by omega
  rw [CT_L (vf := v107) rfl rfl]
  simp [v107, v107_0, I.at, fillF, St.parts, St.source, Blk.ext, wi1, wi2, wi3, wi4, wi5, call1 (show thrOf T2 116 = false from rfl) s0, c0, d0, e0, call1 (show thrOf T2 116 = false from rfl) s1, c1, d1, e1, call1 (show thrOf T2 116 = false from rfl) s2, c2, d2, e2]
theorem open3 {a0 a1 a2 : Int} (h0 : S9 a0) (p0 : 1 ≤ a0) (h1 : S9 a1) (p1 : 1 ≤ a1) (h2 : S9 a2) (p2 : 1 ≤ a2) : Ret (CT T2 105 [.i (idM 3), .i (rI [a0, a1, a2])] ([], 1000)) (iI 0) := by
  have f := form_100 (n := 3) (by decide)
  have rc := rowCheck_22 (v := [a0, a1, a2]) ⟨by simp, fun n hn => by simp only [List.mem_cons, List.not_mem_nil, or_false] at hn; omega⟩
  have id1 : idM 3 = .sl 1 [.sl 1 [iI 1, iI 0, iI 0], .sl 1 [iI 0, iI 1, iI 0], .sl 1 [iI 0, iI 0, iI 1]] := by simp [idM, idR, List.range, List.range.loop]
  rw [id1] at f ⊢
  rw [CT_L (vf := v105) rfl rfl]
  simp [v105, I.at, call1 (show thrOf T2 100 = false from rfl) f, call1 (show thrOf T2 22 = false from rfl) rc]
theorem coo3 {a0 a1 a2 : Int} (h0 : S9 a0) (p0 : 1 ≤ a0) (h1 : S9 a1) (p1 : 1 ≤ a1) (h2 : S9 a2) (p2 : 1 ≤ a2) : Ret (CT T2 68 [.i (idM 3), .i (rI [a0, a1, a2])] ([], 1000)) (.tup [rI [a0, a1, a2], .bool true, iI 0]) := by
  have o := open3 h0 p0 h1 p1 h2 p2
  have c := con3 h0 p0 h1 p1 h2 p2
  have s := sm3 h0 p0 h1 p1 h2 p2
  rw [CT_L (vf := v68) rfl rfl]
  simp [v68, call2 (show thrOf T2 105 = false from rfl) o, call2 (show thrOf T2 106 = false from rfl) c, call1 (show thrOf T2 107 = false from rfl) s]
theorem eqr3 {a0 a1 a2 : Int} : Ret (CT T2 27 [.i (rI [a0, a1, a2]), .i (rI [a0, a1, a2])] ([], 1000)) (.bool true) := by
  rw [CT_L (vf := v27) rfl rfl]
  simp [v27, v27_0, I.at, wi1, wi2, wi3, wi4, wi5]
theorem zer76_4 : Ret (CT T2 76 [.i (.sl 1 [zB 0, zB 0, zB 0, zB 0]), .i (.fn 153 [])] ([], 1000)) (.bool false) := by
  have c : Ret (CT T2 117 [.i (.sl 1 [zB 0, zB 0, zB 0, zB 0]), .i (.fn 153 [])] ([], 1000)) (iI (-1)) := by
    rw [CT_L (vf := v117) rfl rfl]
    simp [v117, v117_0, I.at, call1 (show thrOf T2 153 = false from rfl) nz_153, wi1, wi2, wi3, wi4, wi5]
  rw [CT_L (vf := v76) rfl rfl]
  simp [v76, call2 (show thrOf T2 117 = false from rfl) c]
theorem con4 {a0 a1 a2 a3 : Int} (h0 : S9 a0) (p0 : 1 ≤ a0) (h1 : S9 a1) (p1 : 1 ≤ a1) (h2 : S9 a2) (p2 : 1 ≤ a2) (h3 : S9 a3) (p3 : 1 ≤ a3) : Ret (CT T2 106 [.i (idM 4), .i (rI [a0, a1, a2, a3])] ([], 1000)) (.tup [.sl 1 [zB a0, zB a1, zB a2, zB a3], .bool true]) := by
  have r := red4 h0 p0 h1 p1 h2 p2 h3 p3
  rw [CT_L (vf := v106) rfl rfl]
  simp [v106, call2 (show thrOf T2 152 = false from rfl) r, call2 (show thrOf T2 76 = false from rfl) zer76_4]
theorem sm4 {a0 a1 a2 a3 : Int} (h0 : S9 a0) (p0 : 1 ≤ a0) (h1 : S9 a1) (p1 : 1 ≤ a1) (h2 : S9 a2) (p2 : 1 ≤ a2) (h3 : S9 a3) (p3 : 1 ≤ a3) : Ret (CT T2 107 [.i (.sl 1 [zB a0, zB a1, zB a2, zB a3])] ([], 1000)) (.tup [rI [a0, a1, a2, a3], iI 0]) := by
  have s0 := small_T2 h0
  have c0 : ¬ a0 > 1000000000 := by omega
  have d0 : ¬ a0 < -1000000000 := by omega
  have e0 : ¬ 1000000000 < a0 := by omega
  have s1 := small_T2 h1
  have c1 : ¬ a1 > 1000000000 := by omega
  have d1 : ¬ a1 < -1000000000 := by omega
  have e1 : ¬ 1000000000 < a1 := by omega
  have s2 := small_T2 h2
  have c2 : ¬ a2 > 1000000000 := by omega
  have d2 : ¬ a2 < -1000000000 := by omega
  have e2 : ¬ 1000000000 < a2 := by omega
  have s3 := small_T2 h3
  have c3 : ¬ a3 > 1000000000 := by omega
  have d3 : ¬ a3 < -1000000000 := by omega
  have e3 : ¬ 1000000000 < a3 := by omega
  rw [CT_L (vf := v107) rfl rfl]
  simp [v107, v107_0, I.at, fillF, St.parts, St.source, Blk.ext, wi1, wi2, wi3, wi4, wi5, call1 (show thrOf T2 116 = false from rfl) s0, c0, d0, e0, call1 (show thrOf T2 116 = false from rfl) s1, c1, d1, e1, call1 (show thrOf T2 116 = false from rfl) s2, c2, d2, e2, call1 (show thrOf T2 116 = false from rfl) s3, c3, d3, e3]
theorem open4 {a0 a1 a2 a3 : Int} (h0 : S9 a0) (p0 : 1 ≤ a0) (h1 : S9 a1) (p1 : 1 ≤ a1) (h2 : S9 a2) (p2 : 1 ≤ a2) (h3 : S9 a3) (p3 : 1 ≤ a3) : Ret (CT T2 105 [.i (idM 4), .i (rI [a0, a1, a2, a3])] ([], 1000)) (iI 0) := by
  have f := form_100 (n := 4) (by decide)
  have rc := rowCheck_22 (v := [a0, a1, a2, a3]) ⟨by simp, fun n hn => by simp only [List.mem_cons, List.not_mem_nil, or_false] at hn; omega⟩
  have id1 : idM 4 = .sl 1 [.sl 1 [iI 1, iI 0, iI 0, iI 0], .sl 1 [iI 0, iI 1, iI 0, iI 0], .sl 1 [iI 0, iI 0, iI 1, iI 0], .sl 1 [iI 0, iI 0, iI 0, iI 1]] := by simp [idM, idR, List.range, List.range.loop]
  rw [id1] at f ⊢
  rw [CT_L (vf := v105) rfl rfl]
  simp [v105, I.at, call1 (show thrOf T2 100 = false from rfl) f, call1 (show thrOf T2 22 = false from rfl) rc]
theorem coo4 {a0 a1 a2 a3 : Int} (h0 : S9 a0) (p0 : 1 ≤ a0) (h1 : S9 a1) (p1 : 1 ≤ a1) (h2 : S9 a2) (p2 : 1 ≤ a2) (h3 : S9 a3) (p3 : 1 ≤ a3) : Ret (CT T2 68 [.i (idM 4), .i (rI [a0, a1, a2, a3])] ([], 1000)) (.tup [rI [a0, a1, a2, a3], .bool true, iI 0]) := by
  have o := open4 h0 p0 h1 p1 h2 p2 h3 p3
  have c := con4 h0 p0 h1 p1 h2 p2 h3 p3
  have s := sm4 h0 p0 h1 p1 h2 p2 h3 p3
  rw [CT_L (vf := v68) rfl rfl]
  simp [v68, call2 (show thrOf T2 105 = false from rfl) o, call2 (show thrOf T2 106 = false from rfl) c, call1 (show thrOf T2 107 = false from rfl) s]
theorem eqr4 {a0 a1 a2 a3 : Int} : Ret (CT T2 27 [.i (rI [a0, a1, a2, a3]), .i (rI [a0, a1, a2, a3])] ([], 1000)) (.bool true) := by
  rw [CT_L (vf := v27) rfl rfl]
  simp [v27, v27_0, I.at, wi1, wi2, wi3, wi4, wi5]
/-- A val of a few steps: positive, small. -/
def Vl (v : List Int) : Prop := 1 ≤ v.length ∧ v.length ≤ 4 ∧ ∀ x ∈ v, S9 x ∧ 1 ≤ x
theorem coo_68 {v : List Int} (h : Vl v) : Ret (CT T2 68 [.i (idM v.length), .i (rI v)] ([], 1000)) (.tup [rI v, .bool true, iI 0]) := by
  obtain ⟨h1, h2, h3⟩ := h
  match v with
  | [] => simp at h1
  | [a] => exact coo1 (h3 a (by simp)).1 (h3 a (by simp)).2
  | [a, b] => exact coo2 (h3 a (by simp)).1 (h3 a (by simp)).2 (h3 b (by simp)).1 (h3 b (by simp)).2
  | [a, b, c] => exact coo3 (h3 a (by simp)).1 (h3 a (by simp)).2 (h3 b (by simp)).1 (h3 b (by simp)).2 (h3 c (by simp)).1 (h3 c (by simp)).2
  | [a, b, c, d] => exact coo4 (h3 a (by simp)).1 (h3 a (by simp)).2 (h3 b (by simp)).1 (h3 b (by simp)).2 (h3 c (by simp)).1 (h3 c (by simp)).2 (h3 d (by simp)).1 (h3 d (by simp)).2
  | _ :: _ :: _ :: _ :: _ :: _ => simp at h2
theorem eqr_27 {v : List Int} (h : Vl v) : Ret (CT T2 27 [.i (rI v), .i (rI v)] ([], 1000)) (.bool true) := by
  obtain ⟨h1, h2, h3⟩ := h
  match v with
  | [] => simp at h1
  | [a] => exact eqr1
  | [a, b] => exact eqr2
  | [a, b, c] => exact eqr3
  | [a, b, c, d] => exact eqr4
  | _ :: _ :: _ :: _ :: _ :: _ => simp at h2
theorem Vl.rw {v : List Int} (h : Vl v) : Rw v := ⟨by have := h.2.1; omega, fun n hn => by have := h.2.2 n hn; omega⟩
theorem coordJ_34 {p v : List Int} (hc : Ret (CT T2 32 [.i (tJ p)] ([], 1000)) (iI 0)) (hp : chkP p = 0) (h : Vl v) (hl : v.length = p.length) : Ret (CT T2 34 [.i (tJ p), .i (rI v)] ([], 1000)) (.tup [rI v, iI 0]) := by
  have b := begin_56 hc hp h.rw hl
  have s := supJ_57 (p := p) (v := v) (M := idM p.length)
  have c := coo_68 h
  rw [hl] at c
  unfold tJ at *
  rw [CT_L (vf := v34) rfl rfl]
  simp [v34, I.at, fillF, St.parts, callS2 (show thrOf T2 56 = false from rfl) b rfl, call2 (show thrOf T2 57 = false from rfl) s, call2 (show thrOf T2 68 = false from rfl) c]
theorem supportsT_33 {p v : List Int} (hc : Ret (CT T2 32 [.i (tT p)] ([], 1000)) (iI 0)) (hp : chkP p = 0) (h : Vl v) (hl : v.length = p.length) : Ret (CT T2 33 [.i (tT p), .i (rI v)] ([], 1000)) (.tup [.bool false, iI 0]) := by
  have b := begin_56 hc hp h.rw hl
  have h0 : 0 < v.length := h.1
  have s := supT_57 (p := p) (v := v) (M := .sl 1 []) (chkP_len hp).2 (chkP_len hp).1 hl (fun x hx => (h.2.2 x hx).1) (by have := (h.2.2 _ (List.getElem_mem h0)).2; omega)
  unfold tT at *
  rw [CT_L (vf := v33) rfl rfl]
  simp [v33, I.at, fillF, St.parts, callS2 (show thrOf T2 56 = false from rfl) b rfl, call2 (show thrOf T2 57 = false from rfl) s]
theorem primes_fin : (List.range 256).all (fun n => evI T2 100 12 [.int .u8 (n : Int)] (rI (pLs.getD (n % 10) []))) = true := by decide +kernel
end Go.Vm
