/- SupportEnds: whatever the two numbers, the call returns true and leaves them as they were. No condition beyond the row's own. -/
import Derived.Test.YtmjlglnolgaekaaGreatDoorRows
import Derived.Test.YtmjlglnolgaekaaGreatDoorV22
import Derived.WalkKit
import Derived.ProofKit
import Derived.OpenShut
import Derived.LaidMore
import Derived.Stop.Joined
import Derived.Lib.LaidTab
set_option linter.unusedSimpArgs false
set_option linter.unusedVariables false
namespace Go.Proofs.YtmjlglnolgaekaaGreatDoor.supportEnds
open Go Go.ChangeShapes Go.WideShapes Go.ChangeAt Go.RowKit
set_option linter.unusedVariables false

theorem own : ownKnob Tryz.prog.godebug = none := by kernel_rfl
abbrev laid5 : List (String × DataW Unit) := Rows.supportEndsRow.laid
theorem gPow : Tryz.prog.globalNamed "internal/strconv.uint64pow10" = some 2 := by kernel_rfl
theorem tPow : (Tryz.prog.globals[2]?).map (·.type) = some 306 := by kernel_rfl
theorem c224 : Tryz.prog.cellsOf 224 = 1 := by kernel_rfl
theorem c306 : Tryz.prog.cellsOf 306 = 20 := by kernel_rfl
theorem powTab : (Rows.laid_internal_strconv_uint64pow10 : DataW Unit) = Lib.tabData .u64 Lib.pow10Tab := by kernel_rfl
/-- The door's own heap meets the condition. -/
theorem door_met (os : Os) (args : Array Value) : laidMetH Tryz.prog laid5 ((World.doorLaid Tryz.prog 400 os).forCall (fun _ _ => 0) ⟨#[], args, []⟩).memory :=
  laidMetH_of_parts3 (fuel := 8) (laidMet_of_run' 8 (by kernel_rfl) (by kernel_rfl)) (by kernel_rfl) (by kernel_rfl)
/-- What the condition gives: the table of powers of ten. -/
theorem of_laid {W : World} (h : laidMetH Tryz.prog laid5 W) : Vm.Γ0.ok (fun b => b = 2) W ∧ 2 < W.heap.size := by
  rw [MakeChecks.laidMetH_plain _ _ _ (by kernel_rfl)] at h
  obtain ⟨ps, ⟨g0, t0, cs0, f0, p0, q0, _, _, _, _, ⟨g1, t1, cs1, f1, p1, q1, _, _, _, _, ⟨g2, t2, cs2, f2, p2, q2, hg2, ht2, hv2, hd2, _, _⟩, _⟩, _⟩, _, _⟩ := h
  obtain rfl := Option.some.inj (gPow.symm.trans hg2)
  obtain rfl := Option.some.inj (tPow.symm.trans ht2)
  rw [powTab] at hd2
  have hc := Lib.cells_of_tab Tryz.underlying306 Tryz.underlying224 c224 c306 hd2
  have htab : Lib.TabIs Tryz.prog W "internal/strconv.uint64pow10" .u64 Lib.pow10Tab := by
    unfold Lib.TabIs
    rw [hv2, ← hc]
  have hcell : ∃ c e fr, W.heap[2]? = some (.cells c e fr) := by
    unfold World.var? at hv2
    rw [gPow] at hv2
    simp only [Option.bind_some] at hv2
    split at hv2
    · rename_i c e fr hh; exact ⟨_, _, _, hh⟩
    · simp at hv2
  obtain ⟨c, e, fr, hh⟩ := hcell
  exact ⟨⟨htab, 2, gPow, rfl, c, e, fr, hh⟩, (Array.getElem?_eq_some_iff.1 hh).1⟩
theorem kept {W W' : World} {may : MemPlace → Prop} (h1 : W'.os = W.os) (h2 : W'.output = W.output) (h3 : ∀ i, i < W.heap.size → W'.heap[i]? = W.heap[i]?) : W.keptBut W' may :=
  ⟨h1, h2, fun i hi => by
    rw [h3 i hi]
    exact (World.keptBut_refl W may).2.2 i hi⟩
/-! ### THE WALK: the machine's run, sound. -/
theorem walk (a0 : Int) (a1 : Int) (w0 : (Lit.int .u8 a0).wf = true) (w1 : (Lit.int .u16 a1).wf = true) (w : World) (hL : laidMetH Tryz.prog laid5 w) :
    Calls Tryz.prog 7 #[.int .u8 a0, .int .u16 a1] w fun e w' => e = .returned (.bool true) ∧ w'.os = w.os ∧ w'.output = w.output ∧ ∀ i, i < w.heap.size → w'.heap[i]? = w.heap[i]? := by
  obtain ⟨hG, hlt⟩ := of_laid hL
  have b0 : 0 ≤ a0 ∧ a0 ≤ 255 := by simpa [Lit.wf, IntKind.min, IntKind.max, IntKind.signed, IntKind.bits] using w0
  have b1 : 0 ≤ a1 ∧ a1 ≤ 65535 := by simpa [Lit.wf, IntKind.min, IntKind.max, IntKind.signed, IntKind.bits] using w1
  obtain ⟨n, rfl⟩ : ∃ n : Nat, a0 = n := ⟨a0.toNat, by omega⟩
  obtain ⟨s, rfl⟩ : ∃ n : Nat, a1 = n := ⟨a1.toNat, by omega⟩
  obtain ⟨⟨h', x'⟩, hc⟩ := Vm.ends_7 (n := n) (s := s) (by omega) (by omega)
  refine (Vm.CT_sound Vm.T2_ok 7 _ [] 1000 _ h' x' hc w (fun b => b = 2) (fun _ => none) #[.int .u8 n, .int .u16 s] ⟨rfl, fun j y u hy hu => ?_⟩ ⟨fun l blk h => by simp [Vm.hget] at h, fun l l' blk blk' b base base' h => by simp [Vm.hget] at h, hG⟩ (fun b hb => by rw [hb]; exact hlt) (fun l blk h => by simp [Vm.hget] at h) (fun l h => by simp at h) (Nat.le_refl _)).mono ?_
  · match j with
    | 0 => simp at hy hu; subst hy; subst hu; exact .i _ _ (.int _ _)
    | 1 => simp at hy hu; subst hy; subst hu; exact .i _ _ (.int _ _)
    | j + 2 => simp at hy
  · rintro e w' ⟨u, S', β', rfl, h1, h2, h3, _, _, _, h4⟩
    refine ⟨?_, h4.os, h4.output, fun i hi => h4.same i hi fun ⟨l, blk, base, h, _⟩ => by simp [Vm.hget] at h⟩
    cases h1 with
    | i _ _ h => cases h; rfl

/-! ### THE ROW's STEP -/
set_option maxRecDepth 100000 in
theorem lifted (os : Os) (started : os.Started) (H : Type) (enc : TypeId × Value → H) :
    ReturnsInHanded {} Tryz.checked os 7 .any (fun w args => (Rows.supportEndsSpec.pre enc Tryz.prog Tryz.f7 [] false w args ∧ laidMetH Tryz.prog laid5 w) ∧ sizedMet enc Tryz.prog Tryz.f7 (OpenSpec.ofChange Rows.supportEndsSpec) false w args)
      (Rows.supportEndsSpec.post enc Tryz.prog Tryz.f7 false true false false) := by
  refine returnsInHanded_of_change_and (C := Tryz.checked) (X := fun w _ => laidMetH Tryz.prog laid5 w) (fun _ _ _ hh h => h.of_heap hh) own started (by kernel_rfl) Tryz.func7
    (ChangeSpec.witness_shaped (enc := enc) (C := Tryz.checked) (os := os) (X := fun w _ => laidMetH Tryz.prog laid5 w) false (World.doorLaid Tryz.prog 400 os) #[.int .u8 0, .int .u16 0] 8 rfl (World.shaped_of_RefB (by kernel_rfl) (by kernel_rfl)) (by kernel_rfl) (by kernel_rfl) (by kernel_rfl) (door_met os _)) ?_
  intro W base args ds gs before hval0 hW _ _ hL _
  have hval : ∀ (j : Nat) t v, Tryz.f7.params[j]? = some t → args[j]? = some v → Value.okWide Tryz.prog W .any base t v := hval0
  have hW' := hW
  obtain ⟨p, q, hA0, hV, rfl, hfz, hnd⟩ := hW
  have hA : DataW.TrodAll enc Tryz.prog W 0 (fun _ => true) true Tryz.f7.params.toList args.toList ds p := hA0
  rw [Tryz.params7] at hA hval
  obtain ⟨v0, vs0, d0, ds0, p0, q0, hargs, rfl, rfl, h0, r0⟩ := trodAll_cons hA
  obtain ⟨v1, vs1, d1, ds1, p1, q1, rfl, rfl, rfl, h1, r1⟩ := trodAll_cons r0
  obtain ⟨rfl, rfl, rfl⟩ := trodAll_nil r1
  obtain rfl : args = #[v0, v1] := by cases args; simp_all
  obtain ⟨rfl, rfl⟩ := trodVars_none hV
  obtain ⟨a0, rfl, rfl, rfl, w0⟩ := open_int Tryz.underlying5 (hval 0 5 v0 rfl rfl) h0
  obtain ⟨a1, rfl, rfl, rfl, w1⟩ := open_int Tryz.underlying71 (hval 1 71 v1 rfl rfl) h1
  clear hA0 hval0
  simp only [List.append_nil] at hW'
  refine (walk a0 a1 w0 w1 W hL).mono fun e W' ⟨he, ho, hu, hs⟩ => ?_
  subst he
  exact ⟨_, rfl, _, _, _, [], [], [], hW', (trodAll_cons_mk (shut_bool Tryz.underlying4 _) trodAll_mk0), (trodAll_cons_mk (shut_int Tryz.underlying5 w0) (trodAll_cons_mk (shut_int Tryz.underlying71 w1) trodAll_mk0)), rfl,
    kept ho hu hs, fun h => by cases h⟩

theorem over : Rows.supportEndsRow.holds Tryz.pinned (OpenSpec.ofChange Rows.supportEndsSpec) :=
  OpenClaim.holds_of_wide 7 Tryz.f7 rfl rfl rfl rfl rfl rfl rfl ⟨rfl, rfl, rfl, rfl, rfl⟩ rfl rfl rfl rfl rfl (by kernel_rfl) Tryz.func7 (by kernel_rfl)
    (of_decide_eq_true (by kernel_rfl)) (by unfold Func.isWrapper; first | (rw [if_pos (by decide +kernel)]; kernel_rfl) | (rw [if_neg (by decide +kernel)]; exact ⟨rfl, rfl⟩))
    (fun os started H enc _ => lifted os started H enc)
theorem proved : Rows.SupportEndsSaid :=
  over
end Go.Proofs.YtmjlglnolgaekaaGreatDoor.supportEnds
