/- SupportEnds, in the machine: true at every input. -/
import Derived.Test.YtmjlglnolgaekaaGreatDoorV16
import Derived.Test.YtmjlglnolgaekaaGreatDoorV17
import Derived.Test.YtmjlglnolgaekaaGreatDoorV18
import Derived.Test.YtmjlglnolgaekaaGreatDoorV19
import Derived.Test.YtmjlglnolgaekaaGreatDoorV20
import Derived.Test.YtmjlglnolgaekaaGreatDoorV21
set_option linter.unusedSimpArgs false
set_option linter.unusedVariables false
set_option linter.unusedSimpArgs false
set_option linter.unusedVariables false
set_option maxRecDepth 1000000
set_option maxHeartbeats 4000000
namespace Go.Vm
open Go
attribute [local simp] EV_seqL EV_condL EV_blockL EV_regionL EV_loopL stms_nil stms_cons stm_op stm_opg stm_pre stm_frz stm_junk stm_ownt stm_frzc stm_ownnil op_callL

theorem dec_fin : pLs.all (fun p => (List.range 300).all fun k => (List.range p.length).all fun i => dec p ((k : Int) + 1) i && leI 1 (rnd p ((k : Int) + 1) i)) = true := by decide +kernel
theorem lists_fin : pLs.all (fun p => intB (chkP p) 0 && p.all isF && Nat.ble p.length 4) = true := by decide +kernel
theorem facts_all : ∀ p ∈ pLs, factsB p = true := by
  intro p hp
  simp only [pLs, List.mem_cons, List.not_mem_nil, or_false] at hp
  rcases hp with rfl | rfl | rfl | rfl | rfl | rfl | rfl | rfl | rfl | rfl
  · exact facts0
  · exact facts1
  · exact facts2
  · exact facts3
  · exact facts4
  · exact facts5
  · exact facts6
  · exact facts7
  · exact facts8
  · exact facts9
theorem intsL_map : ∀ p : List Int, intsL (p.map iI) = some p := by
  intro p
  induction p with
  | nil => rfl
  | cons a p ih => simp [intsL, ih]
/-- The patent val. -/
def pV (p : List Int) (k : Int) : List Int := (List.range p.length).map (rnd p k)
theorem pV_rI (p : List Int) (k : Int) : rI (pV p k) = .sl 1 (pR p k p.length) := by
  unfold pV pR rI
  rw [List.map_map]
  rfl
section
variable {p : List Int} (hp : p ∈ pLs) {k : Int} (h1 : 1 ≤ k) (h2 : k ≤ 300)
include hp h1 h2
theorem dec_at {i : Nat} (hi : i < p.length) : dec p k i = true ∧ 1 ≤ rnd p k i := by
  have a := List.all_eq_true.1 dec_fin p hp
  have b := List.all_eq_true.1 a (k.toNat - 1) (List.mem_range.2 (by omega))
  have c := List.all_eq_true.1 b i (List.mem_range.2 hi)
  have e : ((k.toNat - 1 : Nat) : Int) + 1 = k := by omega
  rw [e] at c
  simpa [leI] using c
theorem list_ok : chkP p = 0 ∧ (∀ q ∈ p, isF q = true) ∧ p.length ≤ 4 := by
  have _ := h1; have _ := h2
  have a := List.all_eq_true.1 lists_fin p hp
  simp only [Bool.and_eq_true, List.all_eq_true] at a
  exact ⟨intB_eq a.1.1, a.1.2, Nat.le_of_ble_eq_true a.2⟩
theorem patent_T2 : Ret (CT T2 14 [.i (rI p), .i (iI k)] ([], 1000)) (.tup [rI (pV p k), iI 0]) := by
  obtain ⟨c, f, l⟩ := list_ok hp h1 h2
  refine ⟨_, CT_p (l := [rI p, iI k]) (show T2.prim 14 = some q14 from rfl) ?_⟩
  have d : (List.range p.length).all (dec p k) = true := List.all_eq_true.2 fun i hi => (dec_at hp h1 h2 (List.mem_range.1 hi)).1
  simp only [q14, intsL_map, c, List.all_eq_true.2 f, leI, decide_eq_true h1, decide_eq_true (show k ≤ 50000 by omega), d]
  rw [pV_rI]
  rfl
theorem pV_len : (pV p k).length = p.length := by
  have _ := hp; have _ := h1; have _ := h2
  simp [pV]
theorem pV_ok : Vl (pV p k) := by
  obtain ⟨c, f, l⟩ := list_ok hp h1 h2
  have cl := chkP_len c
  refine ⟨by rw [pV_len hp h1 h2]; omega, by rw [pV_len hp h1 h2]; omega, fun x hx => ?_⟩
  simp only [pV, List.mem_map, List.mem_range] at hx
  obtain ⟨i, hi, rfl⟩ := hx
  have d := (dec_at hp h1 h2 hi).2
  refine ⟨?_, d⟩
  unfold rnd
  split
  · omega
  · have b := lowQ_bd (gd_F c f h1 (by omega) cl.1) (gd_F c f h1 (by omega) hi) (show 0 ≤ 2 * k by omega) (by omega)
    omega
end
theorem call0 {T : Tab} {C : CallSem} {st : St} {g : FuncId} {hint : Option (Option Nat)} {v : I} (ht : thrOf T g = false) (hc : Ret (C g [] ([], 1000)) v) : callOp T C st g [] hint = some (some v.seen, st) := by obtain ⟨q, h⟩ := hc; exact callOp_i [] ht h
theorem known_11 : Ret (CT T2 11 [] ([], 1000)) (.bool true) := evI_eq known_ev
theorem primes_12 {n : Nat} (h : n < 256) : Ret (CT T2 12 [.i (.int .u8 (n : Int))] ([], 1000)) (rI (pLs.getD (n % 10) [])) := evI_eq (List.all_eq_true.1 primes_fin n (List.mem_range.2 h))
theorem ends_7 {n s : Nat} (hn : n < 256) (hs : s < 65536) : Ret (CT T2 7 [.i (.int .u8 (n : Int)), .i (.int .u16 (s : Int))] ([], 1000)) (.bool true) := by
  have hp : pLs.getD (n % 10) [] ∈ pLs := by
    have : n % 10 < pLs.length := by simp [pLs]; omega
    rw [List.getD_eq_getElem?_getD, List.getElem?_eq_getElem this]
    exact List.getElem_mem _
  have pr := primes_12 hn
  generalize pLs.getD (n % 10) [] = p at hp pr
  have e1 : ((s : Int)).tmod 300 = ((s % 300 : Nat) : Int) := by rw [Int.tmod_eq_emod_of_nonneg (by omega)]; omega
  generalize hk : s % 300 = k at e1
  have k1 : (1 : Int) ≤ 1 + (k : Int) := by omega
  have k2 : (1 : Int) + (k : Int) ≤ 300 := by omega
  have w1 : IntKind.i64.wrap (k : Int) = k := wr2 (by omega) (by omega)
  have w2 : IntKind.i64.wrap (1 + (k : Int)) = 1 + (k : Int) := wr2 (by omega) (by omega)
  obtain ⟨c, f, l⟩ := list_ok hp k1 k2
  have fa := facts_all p hp
  simp only [factsB, Bool.and_eq_true] at fa
  obtain ⟨⟨⟨f1, f2⟩, f3⟩, f4⟩ := fa
  have j1 := evI_eq f1
  have j2 := evI_eq f2
  have j3 := evI_eq f3
  have j4 := evI_eq f4
  simp only [List.map_cons, List.map_nil] at j1 j2 j3 j4
  have pt := patent_T2 hp k1 k2
  have ok := pV_ok hp k1 k2
  have ln := pV_len hp k1 k2
  have s1 := supportsJ_33 (v := pV p (1 + (k : Int))) j3 c ok.rw ln
  have s2 := supportsT_33 j4 c ok ln
  have s3 := coordJ_34 j3 c ok ln
  have s4 := eqr_27 ok
  unfold tJ at j1 s1 s3
  unfold tT at j2 s2
  obtain ⟨R, hR⟩ : ∃ R, idM p.length = .sl 1 R := ⟨_, rfl⟩
  rw [hR] at j1 j2 s1 s2 s3
  rw [CT_L (vf := v7) rfl rfl]
  simp [v7, I.at, F.at, call0 (show thrOf T2 11 = false from rfl) known_11, call1 (show thrOf T2 12 = false from rfl) pr, bin_rem, e1, w1, w2, call2 (show thrOf T2 14 = false from rfl) pt, call1 (show thrOf T2 35 = false from rfl) j1, call1 (show thrOf T2 36 = false from rfl) j2, call2 (show thrOf T2 33 = false from rfl) s1, call2 (show thrOf T2 33 = false from rfl) s2, call2 (show thrOf T2 34 = false from rfl) s3, call2 (show thrOf T2 27 = false from rfl) s4]
end Go.Vm
