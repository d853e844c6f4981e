/- The machine without fuel. -/
import Derived.Test.YtmjlglnolgaekaaGreatDoorV05
import Derived.Test.YtmjlglnolgaekaaGreatDoorV03
set_option linter.unusedSimpArgs false
set_option linter.unusedVariables false
set_option linter.unusedSimpArgs false
set_option linter.unusedVariables false
namespace Go.Vm
variable {Γ : GlobP}

section
variable {T : Tab} {st : St}

theorem fuel_le {n m : Nat} (h : n ≤ m) : (∀ c st r, exec T n c st = some r → exec T m c st = some r) ∧ CLe (fun g as h => call T n g as h) (fun g as h => call T m g as h) := by
  induction h with
  | refl => exact ⟨fun _ _ _ h => h, fun _ _ _ _ h => h⟩
  | step _ ih => exact ⟨fun c st r h => (fuel_succ _).1 c st r (ih.1 c st r h), fun g as h r e => (fuel_succ _).2.1 g as h r (ih.2 g as h r e)⟩

/-- A call, with whatever fuel it wants. -/
noncomputable def CT (T : Tab) : CallSem := fun g as h =>
  open Classical in if hx : ∃ n r, call T n g as h = some r then some (Classical.choose (Classical.choose_spec hx)) else none
theorem CT_some {g : FuncId} {as : List F} {h : HS} {r : F × HS} (e : CT T g as h = some r) : ∃ n, call T n g as h = some r := by
  unfold CT at e
  split at e
  · rename_i hx
    simp only [Option.some.injEq] at e
    rw [← e]
    exact ⟨Classical.choose hx, Classical.choose_spec (Classical.choose_spec hx)⟩
  · simp at e
theorem CT_of {g : FuncId} {as : List F} {h : HS} {r : F × HS} {n : Nat} (e : call T n g as h = some r) : CT T g as h = some r := by
  have hx : ∃ n r, call T n g as h = some r := ⟨n, r, e⟩
  have h1 := Classical.choose_spec (Classical.choose_spec hx)
  have h2 : CT T g as h = some (Classical.choose (Classical.choose_spec hx)) := by unfold CT; rw [dif_pos hx]
  rw [h2]
  have a1 := (fuel_le (T := T) (Nat.le_max_left (Classical.choose hx) n)).2 g as h _ h1
  have a2 := (fuel_le (T := T) (Nat.le_max_right (Classical.choose hx) n)).2 g as h _ e
  exact a1.symm.trans a2

abbrev Cn (T : Tab) (n : Nat) : CallSem := fun g as h => call T n g as h

theorem iso_lim {g : FuncId} {vs : List (Bool × F)} {hint : Option (Option Nat)} {r : F × St} (h : isoCall (CT T) g vs hint st = some r) : ∃ n, isoCall (Cn T n) g vs hint st = some r := by
  simp only [isoCall] at h ⊢
  split at h
  · rename_i hp as bo h1 h2
    split at h
    · simp at h
    · rename_i v h' n hc
      obtain ⟨k, hk⟩ := CT_some hc
      refine ⟨k, ?_⟩
      simp only [Cn, hk]
      exact h
  · simp at h
theorem thr_lim {g : FuncId} {vs : List F} {r : F × St} (h : thrCall (CT T) g vs st = some r) : ∃ n, thrCall (Cn T n) g vs st = some r := by
  simp only [thrCall] at h ⊢
  split at h
  · simp at h
  · rename_i v h' n hc
    obtain ⟨k, hk⟩ := CT_some hc
    refine ⟨k, ?_⟩
    simp only [Cn, hk]
    exact h
theorem callOp_lim {g : FuncId} {vs : List (Bool × F)} {hint : Option (Option Nat)} {r : Option F × St} (h : callOp T (CT T) st g vs hint = some r) : ∃ n, callOp T (Cn T n) st g vs hint = some r := by
  simp only [callOp] at h ⊢
  split at h
  · split at h
    · rename_i hthr
      split at h
      · rename_i v st' hc
        obtain ⟨k, hk⟩ := thr_lim hc
        exact ⟨k, by rw [if_pos hthr, hk]; exact h⟩
      · simp at h
    · rename_i hthr
      split at h
      · rename_i v st' hc
        obtain ⟨k, hk⟩ := iso_lim hc
        exact ⟨k, by rw [if_neg hthr, hk]; exact h⟩
      · simp at h
  · split at h
    · rename_i v st' hc
      obtain ⟨k, hk⟩ := iso_lim hc
      exact ⟨k, by rw [hk]; exact h⟩
    · simp at h
theorem stepOp_lim {o : VOp} {r : Option F × St} (h : stepOp T (CT T) st o = some r) : ∃ n, stepOp T (Cn T n) st o = some r := by
  cases o
  case call g args hint =>
    simp only [stepOp] at h ⊢
    split at h
    · exact callOp_lim h
    · simp at h
  case callv x args hint =>
    simp only [stepOp] at h ⊢
    split at h
    · exact callOp_lim h
    · exact callOp_lim h
    · simp at h
  case calli g args =>
    simp only [stepOp] at h ⊢
    split at h
    · split at h
      · rename_i hi
        split at h
        · rename_i v st' hc
          obtain ⟨k, hk⟩ := callOp_lim hc
          exact ⟨k, by rw [if_pos hi, hk]; exact h⟩
        · simp at h
      · simp at h
    · simp at h
  all_goals exact ⟨0, h⟩
theorem stepStm_lim : ∀ {s : Stm} {st st' : St}, stepStm T (CT T) st s = some st' → ∃ n, stepStm T (Cn T n) st s = some st'
  | .op dst none o, st, st', h => by
    simp only [stepStm] at h ⊢
    split at h
    · rename_i v st1 h1
      obtain ⟨k, hk⟩ := stepOp_lim h1
      exact ⟨k, by rw [hk]; exact h⟩
    · simp at h
  | .op dst (some (g, want)) o, st, st', h => by
    simp only [stepStm] at h ⊢
    split at h
    · rename_i b hb
      split at h
      · rename_i hbw
        split at h
        · rename_i v st1 h1
          obtain ⟨k, hk⟩ := stepOp_lim h1
          exact ⟨k, by rw [if_pos hbw, hk]; exact h⟩
        · simp at h
      · rename_i hbw
        exact ⟨0, by rw [if_neg hbw]; exact h⟩
    · exact ⟨0, h⟩
    · simp at h
  | .frz .., st, st', h => ⟨0, h⟩
  | .ownnil .., st, st', h => ⟨0, h⟩
  | .junk .., st, st', h => ⟨0, h⟩
  | .ownt .., st, st', h => ⟨0, h⟩
  | .frzc .., st, st', h => ⟨0, h⟩
  | .pre g s, st, st', h => by
    simp only [stepStm] at h ⊢
    split at h
    · rename_i st1 h1
      obtain ⟨k1, hk1⟩ := stepStm_lim h1
      obtain ⟨k2, hk2⟩ := stepStm_lim h
      refine ⟨max k1 k2, ?_⟩
      rw [stepStm_mono (fuel_le (Nat.le_max_left k1 k2)).2 hk1]
      exact stepStm_mono (fuel_le (Nat.le_max_right k1 k2)).2 hk2
    · simp at h
theorem stepStms_lim : ∀ {ss : List Stm} {st st' : St}, stepStms T (CT T) ss st = some st' → ∃ n, stepStms T (Cn T n) ss st = some st'
  | [], st, st', h => ⟨0, h⟩
  | s :: ss, st, st', h => by
    simp only [stepStms] at h ⊢
    split at h
    · rename_i st1 h1
      obtain ⟨k1, hk1⟩ := stepStm_lim h1
      obtain ⟨k2, hk2⟩ := stepStms_lim h
      refine ⟨max k1 k2, ?_⟩
      rw [stepStm_mono (fuel_le (Nat.le_max_left k1 k2)).2 hk1]
      exact stepStms_mono (fuel_le (Nat.le_max_right k1 k2)).2 hk2
    · simp at h

/-- Code, with whatever fuel it wants. -/
def EX (T : Tab) (c : VC) (st : St) (r : Ex × St) : Prop := ∃ n, exec T n c st = some r

theorem EX.skip : EX T .skip st (.normal, st) := ⟨1, rfl⟩
theorem EX.ret : EX T .ret st (.ret, st) := ⟨1, rfl⟩
theorem EX.exit {id : Nat} : EX T (.exit id) st (.exit id, st) := ⟨1, rfl⟩
theorem EX.seq {a b : VC} {st1 : St} {r : Ex × St} (h : EX T a st (.normal, st1)) (k : EX T b st1 r) : EX T (.seq a b) st r := by
  obtain ⟨n, hn⟩ := h
  obtain ⟨m, hm⟩ := k
  refine ⟨max n m + 1, ?_⟩
  rw [exec, (fuel_le (Nat.le_max_left n m)).1 _ _ _ hn]
  exact (fuel_le (Nat.le_max_right n m)).1 _ _ _ hm
theorem EX.seq_out {a b : VC} {r : Ex × St} (h : EX T a st r) (hr : r.1 ≠ .normal) : EX T (.seq a b) st r := by
  obtain ⟨n, hn⟩ := h
  refine ⟨n + 1, ?_⟩
  rw [exec, hn]
  obtain ⟨e, st1⟩ := r
  cases e with
  | normal => exact absurd rfl hr
  | ret => rfl
  | exit id => rfl
theorem EX.cond {o : Opd} {a b : VC} {t : Bool} {r : Ex × St} (ht : st.val o = some (.i (.bool t))) (h : EX T (if t then a else b) st r) : EX T (.cond o a b) st r := by
  obtain ⟨n, hn⟩ := h
  refine ⟨n + 1, ?_⟩
  rw [exec, ht]
  cases t <;> exact hn
theorem EX.block {id : Nat} {b : VC} {r : Ex × St} (h : EX T b st r) : EX T (.block id b) st (if r.1 = .exit id then .normal else r.1, r.2) := by
  obtain ⟨n, hn⟩ := h
  refine ⟨n + 1, ?_⟩
  rw [exec, hn]
  obtain ⟨e, st1⟩ := r
  cases e with
  | normal => rfl
  | ret => rfl
  | exit id' => by_cases h : id' = id <;> simp [h]
theorem EX.loop {b : VC} {st1 : St} {r : Ex × St} (h : EX T b st (.normal, st1)) (k : EX T (.loop b) st1 r) : EX T (.loop b) st r := by
  obtain ⟨n, hn⟩ := h
  obtain ⟨m, hm⟩ := k
  refine ⟨max n m + 1, ?_⟩
  rw [exec, (fuel_le (Nat.le_max_left n m)).1 _ _ _ hn]
  exact (fuel_le (Nat.le_max_right n m)).1 _ _ _ hm
theorem EX.loop_out {b : VC} {r : Ex × St} (h : EX T b st r) (hr : r.1 ≠ .normal) : EX T (.loop b) st r := by
  obtain ⟨n, hn⟩ := h
  refine ⟨n + 1, ?_⟩
  rw [exec, hn]
  obtain ⟨e, st1⟩ := r
  cases e with
  | normal => exact absurd rfl hr
  | ret => rfl
  | exit id => rfl
theorem EX.region {ss : List Stm} {keep : List Nat} {st1 : St} (h : stepStms T (CT T) ss st = some st1) : EX T (.region ss keep) st (.normal, { st1 with env := pruneEnv st1.env keep }) := by
  obtain ⟨n, hn⟩ := stepStms_lim h
  exact ⟨n + 1, by rw [exec, hn]⟩

/-- A function's call. -/
theorem CT_fun {g : FuncId} {vf : VFun} {args : List F} {h : Heap} {x : Nat} {ex : Ex} {st1 st2 : St} {vs : List F} (hp : T.prim g = none) (hf : T.fn g = some vf) (hl : args.length = vf.params)
    (he : EX T vf.body { env := enterEnv 0 args, hp := h, nxt := x, prot := h.map (·.1) } (ex, st1)) (hx : ex = .normal ∨ ex = .ret) (h2 : stepStms T (fun _ _ _ => none) vf.fin st1 = some st2) (hv : loadResL st2 vf.results = some vs) (hn : x ≤ st2.nxt) :
    CT T g args (h, x) = some (retVal vs, (st2.hp, st2.nxt)) := by
  obtain ⟨n, hn'⟩ := he
  refine CT_of (n := n + 1) ?_
  rw [call]
  simp only [hp, hf, hl, if_true, hn']
  rcases hx with rfl | rfl <;> simp [h2, hv, hn]
theorem CT_prim {g : FuncId} {p : List I → Option I} {args : List F} {h : HS} (hp : T.prim g = some p) : CT T g args h = primCall p args h := by
  cases hq : primCall p args h with
  | some r =>
    obtain ⟨h, x⟩ := h
    exact CT_of (n := 1) (by rw [call]; simp only [hp]; exact hq)
  | none =>
    cases hc : CT T g args h with
    | none => rfl
    | some r =>
      obtain ⟨n, hn⟩ := CT_some hc
      obtain ⟨h, x⟩ := h
      cases n with
      | zero => simp [call] at hn
      | succ n => rw [call] at hn; simp only [hp] at hn; rw [hq] at hn; cases hn

theorem CT_sound {P : Program} (hT : TabOk Γ P T) : SoundCall Γ P (CT T) := fun f args h x r h' x' hc => by
  obtain ⟨n, hn⟩ := CT_some hc
  exact (all_sound hT n).2.2.1 f args h x r h' x' hn
end
end Go.Vm

/- Evaluation by rewriting. -/
namespace Go.Vm
variable {Γ : GlobP}
section
variable {T : Tab} {st : St}
/-- Code, as a function: without fuel. -/
noncomputable def EV (T : Tab) (c : VC) (st : St) : Option (Ex × St) :=
  open Classical in if h : ∃ r, EX T c st r then some (Classical.choose h) else none
theorem EX.unique {c : VC} {r q : Ex × St} (h : EX T c st r) (k : EX T c st q) : r = q := by
  obtain ⟨n, hn⟩ := h
  obtain ⟨m, hm⟩ := k
  have a1 := (fuel_le (T := T) (Nat.le_max_left n m)).1 _ _ _ hn
  have a2 := (fuel_le (T := T) (Nat.le_max_right n m)).1 _ _ _ hm
  exact Option.some.inj (a1.symm.trans a2)
theorem EV_iff {c : VC} {r : Ex × St} : EV T c st = some r ↔ EX T c st r := by
  constructor
  · intro h
    unfold EV at h
    split at h
    · rename_i hx; simp only [Option.some.injEq] at h; rw [← h]; exact Classical.choose_spec hx
    · simp at h
  · intro h
    unfold EV
    rw [dif_pos ⟨r, h⟩]
    exact congrArg some ((Classical.choose_spec (p := fun r => EX T c st r) ⟨r, h⟩).unique h)
theorem EV_skip : EV T .skip st = some (.normal, st) := EV_iff.2 EX.skip
theorem EV_ret : EV T .ret st = some (.ret, st) := EV_iff.2 EX.ret
theorem EV_exit {id : Nat} : EV T (.exit id) st = some (.exit id, st) := EV_iff.2 EX.exit
theorem EV_seq {a b : VC} : EV T (.seq a b) st = match EV T a st with | some (.normal, st') => EV T b st' | r => r := by
  refine Option.ext fun r => ?_
  rw [EV_iff]
  constructor
  · rintro ⟨n, hn⟩
    cases n with
    | zero => simp [exec] at hn
    | succ n =>
      rw [exec] at hn
      cases he : exec T n a st with
      | none => rw [he] at hn; simp at hn
      | some q =>
        rw [he] at hn
        obtain ⟨e, st1⟩ := q
        rw [EV_iff.2 ⟨n, he⟩]
        cases e with
        | normal => exact EV_iff.2 ⟨n, hn⟩
        | ret => exact hn
        | exit id => exact hn
  · intro h
    cases he : EV T a st with
    | none => rw [he] at h; simp at h
    | some q =>
      rw [he] at h
      obtain ⟨e, st1⟩ := q
      cases e with
      | normal => exact EX.seq (EV_iff.1 he) (EV_iff.1 h)
      | ret => simp at h; subst h; exact EX.seq_out (EV_iff.1 he) (by simp)
      | exit id => simp at h; subst h; exact EX.seq_out (EV_iff.1 he) (by simp)
theorem EV_cond {o : Opd} {a b : VC} : EV T (.cond o a b) st = match st.val o with | some (.i (.bool t)) => if t then EV T a st else EV T b st | _ => none := by
  refine Option.ext fun r => ?_
  rw [EV_iff]
  constructor
  · rintro ⟨n, hn⟩
    cases n with
    | zero => simp [exec] at hn
    | succ n =>
      rw [exec] at hn
      split at hn
      · rename_i t ht
        rw [ht]
        cases t
        · exact EV_iff.2 ⟨n, hn⟩
        · exact EV_iff.2 ⟨n, hn⟩
      · simp at hn
  · intro h
    split at h
    · rename_i t ht
      refine EX.cond ht ?_
      cases t
      · exact EV_iff.1 h
      · exact EV_iff.1 h
    · simp at h
theorem EV_block {id : Nat} {b : VC} : EV T (.block id b) st = match EV T b st with | some (.exit id', st') => if id' = id then some (.normal, st') else some (.exit id', st') | r => r := by
  refine Option.ext fun r => ?_
  rw [EV_iff]
  constructor
  · rintro ⟨n, hn⟩
    cases n with
    | zero => simp [exec] at hn
    | succ n =>
      rw [exec] at hn
      cases he : exec T n b st with
      | none => rw [he] at hn; simp at hn
      | some q => rw [he] at hn; rw [EV_iff.2 ⟨n, he⟩]; exact hn
  · intro h
    cases he : EV T b st with
    | none => rw [he] at h; simp at h
    | some q =>
      rw [he] at h
      obtain ⟨n, hn⟩ := EV_iff.1 he
      exact ⟨n + 1, by rw [exec, hn]; exact h⟩
theorem EV_loop {b : VC} : EV T (.loop b) st = match EV T b st with | some (.normal, st') => EV T (.loop b) st' | r => r := by
  refine Option.ext fun r => ?_
  rw [EV_iff]
  constructor
  · rintro ⟨n, hn⟩
    cases n with
    | zero => simp [exec] at hn
    | succ n =>
      rw [exec] at hn
      cases he : exec T n b st with
      | none => rw [he] at hn; simp at hn
      | some q =>
        rw [he] at hn
        obtain ⟨e, st1⟩ := q
        rw [EV_iff.2 ⟨n, he⟩]
        cases e with
        | normal => exact EV_iff.2 ⟨n, hn⟩
        | ret => exact hn
        | exit id => exact hn
  · intro h
    cases he : EV T b st with
    | none => rw [he] at h; simp at h
    | some q =>
      rw [he] at h
      obtain ⟨e, st1⟩ := q
      cases e with
      | normal => exact EX.loop (EV_iff.1 he) (EV_iff.1 h)
      | ret => simp at h; subst h; exact EX.loop_out (EV_iff.1 he) (by simp)
      | exit id => simp at h; subst h; exact EX.loop_out (EV_iff.1 he) (by simp)
theorem EV_region {ss : List Stm} {keep : List Nat} : EV T (.region ss keep) st = match stepStms T (CT T) ss st with | some st' => some (.normal, { st' with env := pruneEnv st'.env keep }) | none => none := by
  refine Option.ext fun r => ?_
  rw [EV_iff]
  constructor
  · rintro ⟨n, hn⟩
    cases n with
    | zero => simp [exec] at hn
    | succ n =>
      rw [exec] at hn
      split at hn
      · rename_i st1 h1
        rw [stepStms_mono (C' := CT T) (fun g as h r e => CT_of e) h1]
        exact hn
      · simp at hn
  · intro h
    split at h
    · rename_i st1 h1
      simp at h; subst h
      exact EX.region h1
    · simp at h

/-- A function's call, as an equation. -/
theorem CT_eq {g : FuncId} {vf : VFun} {args : List F} {h : Heap} {x : Nat} (hp : T.prim g = none) (hf : T.fn g = some vf) : CT T g args (h, x) =
    if args.length = vf.params then match EV T vf.body { env := enterEnv 0 args, hp := h, nxt := x, prot := h.map (·.1) } with
      | some (.exit _, _) => none
      | some (_, st) => match stepStms T (fun _ _ _ => none) vf.fin st with
        | some st => match loadResL st vf.results with
          | some vs => if x ≤ st.nxt then some (retVal vs, (st.hp, st.nxt)) else none
          | none => none
        | none => none
      | none => none
    else none := by
  refine Option.ext fun r => ?_
  constructor
  · intro h1
    obtain ⟨n, hn⟩ := CT_some h1
    cases n with
    | zero => simp [call] at hn
    | succ n =>
      rw [call] at hn
      simp only [hp, hf] at hn
      split at hn
      · rename_i hl
        rw [if_pos hl]
        cases he : exec T n vf.body { env := enterEnv 0 args, hp := h, nxt := x, prot := h.map (·.1) } with
        | none => rw [he] at hn; simp at hn
        | some q => rw [he] at hn; rw [EV_iff.2 ⟨n, he⟩]; exact hn
      · simp at hn
  · intro h1
    split at h1
    · rename_i hl
      cases he : EV T vf.body { env := enterEnv 0 args, hp := h, nxt := x, prot := h.map (·.1) } with
      | none => rw [he] at h1; simp at h1
      | some q =>
        rw [he] at h1
        obtain ⟨n, hn⟩ := EV_iff.1 he
        exact CT_of (n := n + 1) (by rw [call]; simp only [hp, hf]; rw [if_pos hl, hn]; exact h1)
    · simp at h1
end
section
variable {ty : Nat} {k : IntKind} {a b : Int} {s t : ByteArray} {p q : Bool}
theorem bin_add : binI ty .add (.int k a) (.int k b) = some (.int k (k.wrap (a + b))) := by unfold binI; simp
theorem bin_sub : binI ty .sub (.int k a) (.int k b) = some (.int k (k.wrap (a - b))) := by unfold binI; simp
theorem bin_mul : binI ty .mul (.int k a) (.int k b) = some (.int k (k.wrap (a * b))) := by unfold binI; simp
theorem bin_quo (h : b ≠ 0) : binI ty .quo (.int k a) (.int k b) = some (.int k (k.wrap (a.tdiv b))) := by unfold binI; simp [h]
theorem bin_rem (h : b ≠ 0) : binI ty .rem (.int k a) (.int k b) = some (.int k (a.tmod b)) := by unfold binI; simp [h]
theorem bin_eql : binI ty .eql (.int k a) (.int k b) = some (.bool (a == b)) := by unfold binI; simp
theorem bin_neq : binI ty .neq (.int k a) (.int k b) = some (.bool (a != b)) := by unfold binI; simp
theorem bin_lss : binI ty .lss (.int k a) (.int k b) = some (.bool (decide (a < b))) := by unfold binI; simp
theorem bin_leq : binI ty .leq (.int k a) (.int k b) = some (.bool (decide (a ≤ b))) := by unfold binI; simp
theorem bin_gtr : binI ty .gtr (.int k a) (.int k b) = some (.bool (decide (a > b))) := by unfold binI; simp
theorem bin_geq : binI ty .geq (.int k a) (.int k b) = some (.bool (decide (a ≥ b))) := by unfold binI; simp
theorem bin_seql : binI ty .eql (.str s) (.str t) = some (.bool (s.data.toList == t.data.toList)) := by unfold binI; simp
theorem bin_sneq : binI ty .neq (.str s) (.str t) = some (.bool !(s.data.toList == t.data.toList)) := by unfold binI; simp
theorem bin_sadd (h : s.size + t.size ≤ 9223372036854775807) : binI ty .add (.str s) (.str t) = some (.str (s ++ t)) := by unfold binI; simp [h]
theorem bin_beql : binI 1 .eql (.bool p) (.bool q) = some (.bool (p == q)) := by unfold binI; simp
theorem bin_bneq : binI 1 .neq (.bool p) (.bool q) = some (.bool !(p == q)) := by unfold binI; simp
theorem un_not : unI .not (.bool p) = some (.bool !p) := by unfold unI; simp
theorem un_neg : unI .neg (.int k a) = some (.int k (k.wrap (0 - a))) := by unfold unI; simp
end
end Go.Vm

/- Tables with more primitives. -/
namespace Go.Vm
variable {Γ : GlobP} {P : Program}

section
variable {T T' : Tab} (h : thrOf T = thrOf T')
include h
theorem cls_fn (s : Stm) : s.cls T = s.cls T' := by cases s <;> simp only [Stm.cls, h]
theorem indep0_fn (s u : Stm) : indep0 T s u = indep0 T' s u := by unfold indep0; rw [cls_fn h s, cls_fn h u]
theorem thrS_fn (s : Stm) : thrS T s = thrS T' s := by unfold thrS; rw [h]
theorem opni_fn (o : VOp) : o.ni T = o.ni T' := by unfold VOp.ni; rw [h]
theorem ni_fn (s : Stm) : s.ni T = s.ni T' := by unfold Stm.ni; simp only [opni_fn h]
theorem indep_fn (s u : Stm) : indep T s u = indep T' s u := by unfold indep niPair; rw [indep0_fn h s u, thrS_fn h s, ni_fn h s, ni_fn h u]
theorem chkPair_fn (tab : List (List Nat)) (ss : List Stm) (i k : Nat) : chkPair T tab ss i k = chkPair T' tab ss i k := by unfold chkPair; simp only [indep_fn h]
theorem chkOrder_fn0 (os : List Oper) (ss : List Stm) : chkOrder T os ss = chkOrder T' os ss := by unfold chkOrder; simp only [chkPair_fn h]
end
theorem chkOrder_fn (fn : FuncId → Option VFun) (p p' : FuncId → Option (List I → Option I)) (g g' : FuncId → Bool) (os : List Oper) (ss : List Stm) : chkOrder ⟨fn, p, g⟩ os ss = chkOrder ⟨fn, p', g'⟩ os ss := chkOrder_fn0 (by funext g; rfl) os ss
theorem chkC_fn (fn : FuncId → Option VFun) (p p' : FuncId → Option (List I → Option I)) (g g' : FuncId → Bool) (N : Nat) : ∀ (c : VC) (r : Bool) (d : Code), chkC P ⟨fn, p, g⟩ N r c d = chkC P ⟨fn, p', g'⟩ N r c d := by
  intro c
  induction c with
  | die => intro r d; simp [chkC]
  | skip => intro r d; cases d <;> simp [chkC]
  | ret => intro r d; cases d <;> simp [chkC]
  | exit id => intro r d; cases d <;> simp [chkC]
  | seq a b iha ihb => intro r d; cases d <;> simp [chkC, iha, ihb]
  | cond o a b iha ihb => intro r d; cases d <;> simp [chkC, iha, ihb]
  | block id b ih => intro r d; cases d <;> simp [chkC, ih]
  | loop b ih => intro r d; cases d <;> simp [chkC, ih]
  | region ops keep => intro r d; cases d <;> simp [chkC, chkOrder_fn fn p p' g g']
  | rangef o ps asg body iha ihb => intro r d; cases d <;> simp [chkC, iha, ihb]
theorem chkFun_fn (fn : FuncId → Option VFun) (p p' : FuncId → Option (List I → Option I)) (g g' : FuncId → Bool) (f : FuncId) (v : VFun) : chkFun P ⟨fn, p, g⟩ f v = chkFun P ⟨fn, p', g'⟩ f v := by
  unfold chkFun
  simp only [chkC_fn fn p p' g g']

/-- A list of primitives. -/
abbrev PL := List (FuncId × (List I → Option I))
def PL.at : PL → FuncId → Option (List I → Option I)
  | [], _ => none
  | (k, p) :: r, g => bif Nat.beq g k then some p else PL.at r g
def mkT (fn : FuncId → Option VFun) (gen : FuncId → Bool) (l : PL) : Tab := ⟨fn, l.at, gen⟩

def PLOk (Γ : GlobP) (P : Program) : PL → Prop
  | [] => True
  | (g, p) :: r => (chkFn P g = true ∧ PrimSound Γ P g p) ∧ PLOk Γ P r
theorem PLOk.at {l : PL} (h : PLOk Γ P l) : ∀ g p, l.at g = some p → chkFn P g = true ∧ PrimSound Γ P g p := by
  induction l with
  | nil => intro g p h; simp [PL.at] at h
  | cons a l ih =>
    obtain ⟨k, q⟩ := a
    intro g p e
    simp only [PL.at] at e
    cases hb : Nat.beq g k with
    | false => rw [hb] at e; exact ih h.2 g p e
    | true =>
      rw [hb] at e
      simp at e; subst e
      have := Nat.eq_of_beq_eq_true hb
      subst this
      exact h.1
theorem mkT_ok {fn : FuncId → Option VFun} {gen : FuncId → Bool} (h : TabOk Γ P (mkT fn gen [])) {l : PL} (hl : PLOk Γ P l) : TabOk Γ P (mkT fn gen l) where
  mixed := h.mixed
  fn := fun g vf e => (chkFun_fn fn _ _ gen gen g vf).trans (h.fn g vf e)
  prim := fun g p e => hl.at g p e
  gen := h.gen

/-- What the machine's call gives for immutable arguments is a primitive. -/
theorem prim_of_CT {T : Tab} (hT : TabOk Γ P T) {g : FuncId} {p : List I → Option I} (h : ∀ l v, p l = some v → ∃ q, CT T g (l.map .i) ([], 1000) = some (.i v, q)) : PrimSound Γ P g p := by
  intro args v hp S w cargs hs hrel hb hG
  obtain ⟨⟨h', n⟩, hc⟩ := h args v hp
  refine (CT_sound hT g _ [] 1000 _ h' n hc w S (fun _ => none) cargs ⟨by simpa using hs, fun j y u hy hu => ?_⟩ ⟨fun l blk h => by simp [hget] at h, fun l l' blk blk' b base base' h => by simp [hget] at h, hG⟩ hb (fun l blk h => by simp [hget] at h) (fun l h => by simp at h) (Nat.le_refl _)).mono ?_
  · simp only [List.getElem?_map] at hy
    cases hx : args[j]? with
    | none => rw [hx] at hy; simp at hy
    | some x =>
      rw [hx] at hy; simp at hy; subst hy
      exact .i _ _ (hrel j x u hx hu)
  · rintro e w' ⟨u, S', β', rfl, h1, h2, h3, _, _, _, h4⟩
    refine ⟨u, S', rfl, ?_, h3, h4.os, h4.tape, h4.output, h4.size, fun b hlt => h4.same b hlt fun ⟨l, blk, base, h, _⟩ => by simp [hget] at h, h4.sub, fun b hb' => ?_⟩
    · cases h1 with
      | i _ _ h => exact h
    · rcases h4.new b hb' with h | ⟨l, blk, base, h, _⟩ | h
      · exact .inl h
      · simp [hget] at h
      · exact .inr h
/-- The same out of a reckoned call. -/
theorem prim_of_call {T : Tab} (hT : TabOk Γ P T) {g : FuncId} {p : List I → Option I} (h : ∀ l v, p l = some v → ∃ k q, call T k g (l.map .i) ([], 1000) = some (.i v, q)) : PrimSound Γ P g p :=
  prim_of_CT hT fun l v e => by
    obtain ⟨k, n, hk⟩ := h l v e
    exact ⟨n, CT_of hk⟩
end Go.Vm

/- The table of the code. -/
set_option maxRecDepth 100000
namespace Go.Vm
/-- A search tree. -/
inductive BT where
  | leaf (k : Nat) (v : VFun)
  | node (k : Nat) (l r : BT)
noncomputable def BT.at (t : BT) (g : Nat) : Option VFun := BT.rec (fun k v => Bool.rec none (some v) (Nat.beq g k)) (fun k _ _ l r => Bool.rec r l (Nat.blt g k)) t
def BT.All (Q : Nat → VFun → Prop) : BT → Prop
  | .leaf k v => Q k v
  | .node _ l r => l.All Q ∧ r.All Q
theorem BT.at_all {Q : Nat → VFun → Prop} : ∀ {t : BT} {g : Nat} {v : VFun}, t.All Q → t.at g = some v → Q g v
  | .leaf k w, g, v, h, e => by
    have e : (Bool.rec none (some w) (Nat.beq g k) : Option VFun) = some v := e
    cases hb : Nat.beq g k with
    | false => rw [hb] at e; cases e
    | true => rw [hb] at e; cases e; have := Nat.eq_of_beq_eq_true hb; subst this; exact h
  | .node k l r, g, v, h, e => by
    have e : (Bool.rec (r.at g) (l.at g) (Nat.blt g k) : Option VFun) = some v := e
    cases hb : Nat.blt g k with
    | false => rw [hb] at e; exact BT.at_all h.2 e
    | true => rw [hb] at e; exact BT.at_all h.1 e
def codeT : BT := (.node 153 (.node 88 (.node 50 (.node 30 (.node 22 (.node 12 (.node 11 (.leaf 7 v7) (.leaf 11 v11)) (.node 13 (.leaf 12 v12) (.node 14 (.leaf 13 v13) (.leaf 14 v14)))) (.node 26 (.node 23 (.leaf 22 v22) (.node 25 (.leaf 23 v23) (.leaf 25 v25))) (.node 27 (.leaf 26 v26) (.node 28 (.leaf 27 v27) (.leaf 28 v28))))) (.node 43 (.node 34 (.node 32 (.leaf 30 v30) (.node 33 (.leaf 32 v32) (.leaf 33 v33))) (.node 35 (.leaf 34 v34) (.node 36 (.leaf 35 v35) (.leaf 36 v36)))) (.node 46 (.node 44 (.leaf 43 v43) (.node 45 (.leaf 44 v44) (.leaf 45 v45))) (.node 48 (.leaf 46 v46) (.node 49 (.leaf 48 v48) (.leaf 49 v49)))))) (.node 64 (.node 58 (.node 55 (.node 53 (.leaf 50 v50) (.node 54 (.leaf 53 v53) (.leaf 54 v54))) (.node 56 (.leaf 55 v55) (.node 57 (.leaf 56 v56) (.leaf 57 v57)))) (.node 61 (.node 59 (.leaf 58 v58) (.node 60 (.leaf 59 v59) (.leaf 60 v60))) (.node 62 (.leaf 61 v61) (.node 63 (.leaf 62 v62) (.leaf 63 v63))))) (.node 70 (.node 67 (.node 65 (.leaf 64 v64) (.node 66 (.leaf 65 v65) (.leaf 66 v66))) (.node 68 (.leaf 67 v67) (.node 69 (.leaf 68 v68) (.leaf 69 v69)))) (.node 76 (.node 73 (.leaf 70 v70) (.node 74 (.leaf 73 v73) (.leaf 74 v74))) (.node 83 (.leaf 76 v76) (.node 84 (.leaf 83 v83) (.leaf 84 v84))))))) (.node 113 (.node 100 (.node 94 (.node 91 (.node 89 (.leaf 88 v88) (.node 90 (.leaf 89 v89) (.leaf 90 v90))) (.node 92 (.leaf 91 v91) (.node 93 (.leaf 92 v92) (.leaf 93 v93)))) (.node 97 (.node 95 (.leaf 94 v94) (.node 96 (.leaf 95 v95) (.leaf 96 v96))) (.node 98 (.leaf 97 v97) (.node 99 (.leaf 98 v98) (.leaf 99 v99))))) (.node 106 (.node 103 (.node 101 (.leaf 100 v100) (.node 102 (.leaf 101 v101) (.leaf 102 v102))) (.node 104 (.leaf 103 v103) (.node 105 (.leaf 104 v104) (.leaf 105 v105)))) (.node 109 (.node 107 (.leaf 106 v106) (.node 108 (.leaf 107 v107) (.leaf 108 v108))) (.node 110 (.leaf 109 v109) (.node 112 (.leaf 110 v110) (.leaf 112 v112)))))) (.node 141 (.node 134 (.node 116 (.node 114 (.leaf 113 v113) (.node 115 (.leaf 114 v114) (.leaf 115 v115))) (.node 117 (.leaf 116 v116) (.node 133 (.leaf 117 v117) (.leaf 133 v133)))) (.node 138 (.node 136 (.leaf 134 v134) (.node 137 (.leaf 136 v136) (.leaf 137 v137))) (.node 139 (.leaf 138 v138) (.node 140 (.leaf 139 v139) (.leaf 140 v140))))) (.node 147 (.node 144 (.node 142 (.leaf 141 v141) (.node 143 (.leaf 142 v142) (.leaf 143 v143))) (.node 145 (.leaf 144 v144) (.node 146 (.leaf 145 v145) (.leaf 146 v146)))) (.node 150 (.node 148 (.leaf 147 v147) (.node 149 (.leaf 148 v148) (.leaf 149 v149))) (.node 151 (.leaf 150 v150) (.node 152 (.leaf 151 v151) (.leaf 152 v152)))))))) (.node 217 (.node 186 (.node 174 (.node 166 (.node 156 (.node 155 (.leaf 153 v153) (.leaf 155 v155)) (.node 157 (.leaf 156 v156) (.node 165 (.leaf 157 v157) (.leaf 165 v165)))) (.node 171 (.node 169 (.leaf 166 v166) (.node 170 (.leaf 169 v169) (.leaf 170 v170))) (.node 172 (.leaf 171 v171) (.node 173 (.leaf 172 v172) (.leaf 173 v173))))) (.node 180 (.node 177 (.node 175 (.leaf 174 v174) (.node 176 (.leaf 175 v175) (.leaf 176 v176))) (.node 178 (.leaf 177 v177) (.node 179 (.leaf 178 v178) (.leaf 179 v179)))) (.node 183 (.node 181 (.leaf 180 v180) (.node 182 (.leaf 181 v181) (.leaf 182 v182))) (.node 184 (.leaf 183 v183) (.node 185 (.leaf 184 v184) (.leaf 185 v185)))))) (.node 204 (.node 195 (.node 189 (.node 187 (.leaf 186 v186) (.node 188 (.leaf 187 v187) (.leaf 188 v188))) (.node 190 (.leaf 189 v189) (.node 194 (.leaf 190 v190) (.leaf 194 v194)))) (.node 198 (.node 196 (.leaf 195 v195) (.node 197 (.leaf 196 v196) (.leaf 197 v197))) (.node 199 (.leaf 198 v198) (.node 203 (.leaf 199 v199) (.leaf 203 v203))))) (.node 210 (.node 207 (.node 205 (.leaf 204 v204) (.node 206 (.leaf 205 v205) (.leaf 206 v206))) (.node 208 (.leaf 207 v207) (.node 209 (.leaf 208 v208) (.leaf 209 v209)))) (.node 214 (.node 212 (.leaf 210 v210) (.node 213 (.leaf 212 v212) (.leaf 213 v213))) (.node 215 (.leaf 214 v214) (.node 216 (.leaf 215 v215) (.leaf 216 v216))))))) (.node 245 (.node 230 (.node 224 (.node 221 (.node 218 (.leaf 217 v217) (.node 219 (.leaf 218 v218) (.leaf 219 v219))) (.node 222 (.leaf 221 v221) (.node 223 (.leaf 222 v222) (.leaf 223 v223)))) (.node 227 (.node 225 (.leaf 224 v224) (.node 226 (.leaf 225 v225) (.leaf 226 v226))) (.node 228 (.leaf 227 v227) (.node 229 (.leaf 228 v228) (.leaf 229 v229))))) (.node 238 (.node 235 (.node 231 (.leaf 230 v230) (.node 232 (.leaf 231 v231) (.leaf 232 v232))) (.node 236 (.leaf 235 v235) (.node 237 (.leaf 236 v236) (.leaf 237 v237)))) (.node 241 (.node 239 (.leaf 238 v238) (.node 240 (.leaf 239 v239) (.leaf 240 v240))) (.node 243 (.leaf 241 v241) (.node 244 (.leaf 243 v243) (.leaf 244 v244)))))) (.node 257 (.node 251 (.node 248 (.node 246 (.leaf 245 v245) (.node 247 (.leaf 246 v246) (.leaf 247 v247))) (.node 249 (.leaf 248 v248) (.node 250 (.leaf 249 v249) (.leaf 250 v250)))) (.node 254 (.node 252 (.leaf 251 v251) (.node 253 (.leaf 252 v252) (.leaf 253 v253))) (.node 255 (.leaf 254 v254) (.node 256 (.leaf 255 v255) (.leaf 256 v256))))) (.node 263 (.node 260 (.node 258 (.leaf 257 v257) (.node 259 (.leaf 258 v258) (.leaf 259 v259))) (.node 261 (.leaf 260 v260) (.node 262 (.leaf 261 v261) (.leaf 262 v262)))) (.node 266 (.node 264 (.leaf 263 v263) (.node 265 (.leaf 264 v264) (.leaf 265 v265))) (.node 267 (.leaf 266 v266) (.node 268 (.leaf 267 v267) (.leaf 268 v268)))))))))
noncomputable def fnT (g : Nat) : Option VFun := codeT.at g
def genT (g : Nat) : Bool := [97, 99, 251].contains g
noncomputable def T0 : Tab := mkT fnT genT []
end Go.Vm
