/- Slicing, building, and the views of owned values. -/
import Derived.Test.YtmjlglnolgaekaaGreatDoorV03
import Derived.Laws.MakeOwn
import Derived.Laws.IdiomStrings
import Derived.Laws.IdiomCopy
import Derived.Laws.BytesArg
import Derived.Lib.AppendZeros
import Derived.Laws.Cover3
import Derived.Below
set_option linter.unusedSimpArgs false
set_option linter.unusedVariables false
set_option linter.unusedSimpArgs false
set_option linter.unusedVariables false
namespace Go.Vm
variable {Γ : GlobP}

theorem setAt_length {α : Type} (cs : List α) (off : Nat) (xs : List α) (h : off + xs.length ≤ cs.length) : (setAt cs off xs).length = cs.length := by
  unfold setAt
  split
  · simp
  · simp; omega
theorem splice_at {α : Type} (cs : List α) (off : Nat) (xs : List α) (h : off + xs.length ≤ cs.length) (j : Nat) :
    (cs.take off ++ xs ++ cs.drop (off + xs.length))[j]? = if off ≤ j ∧ j < off + xs.length then xs[j - off]? else cs[j]? := by
  have ht : (cs.take off).length = off := by simp; omega
  by_cases h1 : j < off
  · rw [List.append_assoc, List.getElem?_append_left (by omega), List.getElem?_take, if_pos h1, if_neg (by omega)]
  · by_cases h2 : j < off + xs.length
    · rw [List.append_assoc, List.getElem?_append_right (by omega), List.getElem?_append_left (by omega), if_pos ⟨by omega, h2⟩, ht]
    · rw [List.append_assoc, List.getElem?_append_right (by omega), List.getElem?_append_right (by omega), List.getElem?_drop, if_neg (by omega), ht]
      congr 1
      omega
theorem setAt_at {α : Type} (cs : List α) (off : Nat) (xs : List α) (h : off + xs.length ≤ cs.length) (j : Nat) :
    (setAt cs off xs)[j]? = if off ≤ j ∧ j < off + xs.length then xs[j - off]? else cs[j]? := by
  unfold setAt
  split
  · rename_i x
    simp only [List.length_cons, List.length_nil] at h ⊢
    rw [List.getElem?_set]
    by_cases e : off = j
    · subst e
      simp [show off < cs.length by omega]
    · rw [if_neg e, if_neg (by omega)]
  · exact splice_at cs off _ h j

theorem foldl_set (cells : Array Value) (off : Nat) : ∀ (xs : List Value) (i : Nat) (cs : Array Value), cs.size = cells.size →
    ((xs.zipIdx i).foldl (fun cs (c, j) => cs.setIfInBounds (off + j) c) cs).size = cs.size ∧
    ∀ j, off + i + xs.length ≤ cs.size → ((xs.zipIdx i).foldl (fun cs (c, j) => cs.setIfInBounds (off + j) c) cs)[j]? = if off + i ≤ j ∧ j < off + i + xs.length then xs[j - (off + i)]? else cs[j]?
  | [], i, cs, h => ⟨by simp, fun j hj => by simp; omega⟩
  | x :: xs, i, cs, h => by
    obtain ⟨e1, e2⟩ := foldl_set cells off xs (i + 1) (cs.setIfInBounds (off + i) x) (by simpa using h)
    refine ⟨by simpa [List.zipIdx_cons] using e1, fun j hj => ?_⟩
    simp only [List.zipIdx_cons, List.foldl_cons]
    simp only [List.length_cons] at hj ⊢
    rw [e2 j (by simp; omega)]
    by_cases h1 : off + (i + 1) ≤ j ∧ j < off + (i + 1) + xs.length
    · rw [if_pos h1, if_pos (by omega)]
      have : j - (off + i) = (j - (off + (i + 1))) + 1 := by omega
      rw [this, List.getElem?_cons_succ]
    · rw [if_neg h1]
      by_cases h2 : j = off + i
      · subst h2
        rw [if_pos (by omega)]
        simp [show off + i < cs.size by omega]
      · rw [if_neg (by omega)]
        simp [Array.getElem?_setIfInBounds, show ¬ off + i = j by omega]

section
variable {P : Program} {N : Nat} {S : Nat → Prop} {β : Beta} {st st' : St} {a : Act} {w w' : World}

theorem cells_rel {hp : Heap} {x : F} {v : Value} (h : RF S w β hp x v) : v.cells.size = x.cells.length ∧ ∀ (j : Nat) (y) (u), x.cells[j]? = some y → v.cells[j]? = some u → RF S w β hp y u := by
  have one : ∀ {x : F} {v : Value}, RF S w β hp x v → x.cells = [x] → v.cells = #[v] → v.cells.size = x.cells.length ∧ ∀ (j : Nat) (y) (u), x.cells[j]? = some y → v.cells[j]? = some u → RF S w β hp y u := by
    intro x v h e1 e2
    rw [e1, e2]
    refine ⟨rfl, fun j y u hy hu => ?_⟩
    cases j with
    | zero => simp at hy hu; subst hy; subst hu; exact h
    | succ j => simp at hy
  cases h with
  | i x v h =>
    cases h with
    | agg cs vs hv h =>
      refine ⟨by simp [Value.cells, F.cells, I.cells, hv], fun j y u hy hu => ?_⟩
      simp only [F.cells, I.cells, List.getElem?_map] at hy
      cases hc : cs[j]? with
      | none => simp [hc] at hy
      | some c => simp [hc] at hy; subst hy; exact .i _ _ (h j c u hc hu)
    | bool b => exact one (.i _ _ (.bool b)) rfl rfl
    | int k n => exact one (.i _ _ (.int k n)) rfl rfl
    | str s => exact one (.i _ _ (.str s)) rfl rfl
    | slE k a cap => exact one (.i _ _ (.slE k a cap)) rfl rfl
    | slN k cs b off len cap vs h1 h2 h3 h4 h5 h6 h7 h8 => exact one (.i _ _ (.slN k cs b off len cap vs h1 h2 h3 h4 h5 h6 h7 h8)) rfl rfl
    | tup cs vs hv h => exact one (.i _ _ (.tup cs vs hv h)) rfl rfl
    | fn f cs vs hv h => exact one (.i _ _ (.fn f cs vs hv h)) rfl rfl
    | nilfn => exact one (.i _ _ .nilfn) rfl rfl
    | pim cs off b base vs h1 h2 h3 h4 h5 => exact one (.i _ _ (.pim cs off b base vs h1 h2 h3 h4 h5)) rfl rfl
    | nilp => exact one (.i _ _ .nilp) rfl rfl
    | nils k => exact one (.i _ _ (.nils k)) rfl rfl
    | ifc t x v h => exact one (.i _ _ (.ifc t x v h)) rfl rfl
    | nilifc => exact one (.i _ _ .nilifc) rfl rfl
    | junk v h1 => exact one (.i _ _ (.junk v h1)) rfl (by cases v <;> first | rfl | simp [Value.oneCell'] at h1)
  | agg cs vs hv h => exact ⟨hv, h⟩
  | own0 l off k blk a h1 h2 h3 => exact one (.own0 l off k blk a h1 h2 h3) rfl rfl
  | ownS l off len k blk b base cap n e h1 h2 h3 h4 h5 h6 h7 => exact one (.ownS l off len k blk b base cap n e h1 h2 h3 h4 h5 h6 h7) rfl rfl
  | ref l off blk b base h1 h2 => exact one (.ref l off blk b base h1 h2) rfl rfl
  | tup cs vs hv h => exact one (.tup cs vs hv h) rfl rfl
  | fn f cs vs hv h => exact one (.fn f cs vs hv h) rfl rfl

/-- Pointwise related cells. -/
def Rels (S : Nat → Prop) (w : World) (β : Beta) (hp : Heap) (cs : List F) (vs : Array Value) : Prop :=
  vs.size = cs.length ∧ ∀ (j : Nat) (y) (u), cs[j]? = some y → vs[j]? = some u → RF S w β hp y u

theorem fill_rel {hp : Heap} (place : Nat → Option (Nat × Nat)) : ∀ (ps : List (Nat × Nat × Option F)) (cps : List (Nat × Value)) (cs cs' : List F) (vs : Array Value), Rels S w β hp cs vs → cps.length = ps.length →
    (∀ (j : Nat) (p : Nat × Nat × Option F) (q : Nat × Value), ps[j]? = some p → cps[j]? = some q → place q.1 = some (p.1, p.2.1) ∧ ∀ v, p.2.2 = some v → RF S w β hp v q.2) →
    fillF cs ps = some cs' → ∃ vs', Instr.fill place vs cps = some vs' ∧ Rels S w β hp cs' vs' ∧ cs'.length = cs.length
  | [], cps, cs, cs', vs, hR, hl, hp', hf => by
    have : cps = [] := List.eq_nil_of_length_eq_zero (by simpa using hl)
    subst this
    simp [fillF] at hf; subst hf
    exact ⟨vs, rfl, hR, rfl⟩
  | (off, n, none) :: ps, cps, cs, cs', vs, hR, hl, hp', hf => by simp [fillF] at hf
  | (off, n, some v) :: ps, [], cs, cs', vs, hR, hl, hp', hf => by simp at hl
  | (off, n, some v) :: ps, (q, u) :: cps, cs, cs', vs, hR, hl, hp', hf => by
    simp only [fillF] at hf
    split at hf
    · rename_i hc
      obtain ⟨h1, h2⟩ := hc
      obtain ⟨hpl, hrel⟩ := hp' 0 (off, n, some v) (q, u) rfl rfl
      have hu : RF S w β hp v u := hrel v rfl
      obtain ⟨c1, c2⟩ := cells_rel hu
      simp only at hpl
      have hsz : u.cells.size = n := by omega
      obtain ⟨f1, f2⟩ := foldl_set vs off u.cells.toList 0 vs rfl
      have hvs := hR.1
      have hfold : (u.cells.zipIdx.foldl (fun cs (c, j) => cs.setIfInBounds (off + j) c) vs) = ((u.cells.toList.zipIdx 0).foldl (fun cs (c, j) => cs.setIfInBounds (off + j) c) vs) := by
        rw [← Array.foldl_toList]; simp
      obtain ⟨vs', g1, g2, g3⟩ := fill_rel place ps cps (setAt cs off v.cells) cs' ((u.cells.toList.zipIdx 0).foldl (fun cs (c, j) => cs.setIfInBounds (off + j) c) vs) ⟨by
          rw [f1, setAt_length _ _ _ (by omega)]; exact hR.1, fun j y z hy hz => by
          rw [setAt_at _ _ _ (by omega)] at hy
          rw [f2 j (by simp; omega)] at hz
          simp only [Nat.add_zero, Array.length_toList] at hz
          by_cases hj : off ≤ j ∧ j < off + v.cells.length
          · rw [if_pos hj] at hy
            rw [if_pos (by omega)] at hz
            exact c2 (j - off) y z hy (by simpa using hz)
          · rw [if_neg hj] at hy
            rw [if_neg (by omega)] at hz
            exact hR.2 j y z hy hz⟩ (by simpa using hl) (fun j p q h3 h4 => hp' (j + 1) p q (by simpa using h3) (by simpa using h4)) hf
      refine ⟨vs', ?_, g2, by rw [g3, setAt_length _ _ _ (by omega)]⟩
      simp only [Instr.fill, hpl]
      rw [if_neg (by simp; omega), hfold]
      exact g1
    · simp at hf

def chkParts (place : Nat → Option (Nat × Nat)) : List (Nat × Nat × Opd) → List (Nat × Operand) → Bool
  | [], [] => true
  | (off, n, x) :: ps, (i, y) :: qs => (place i == some (off, n)) && chkOpd x y && chkParts place ps qs
  | _, _ => false
theorem chkParts_ok {place : Nat → Option (Nat × Nat)} : ∀ {ps : List (Nat × Nat × Opd)} {qs : List (Nat × Operand)}, chkParts place ps qs = true →
    qs.length = ps.length ∧ ∀ (j : Nat) (p : Nat × Nat × Opd) (q : Nat × Operand), ps[j]? = some p → qs[j]? = some q → place q.1 = some (p.1, p.2.1) ∧ chkOpd p.2.2 q.2 = true
  | [], [], _ => ⟨rfl, fun _ _ _ h => by simp at h⟩
  | (off, n, x) :: ps, (i, y) :: qs, h => by
    simp [chkParts] at h
    obtain ⟨e1, e2⟩ := chkParts_ok h.2
    refine ⟨by simp [e1], fun j p q hp hq => ?_⟩
    cases j with
    | zero => simp at hp hq; subst hp; subst hq; exact ⟨h.1.1, h.1.2⟩
    | succ j => exact e2 j p q (by simpa using hp) (by simpa using hq)
theorem Rel.fill (hr : Rel Γ N S β st a w) {place : Nat → Option (Nat × Nat)} {ps : List (Nat × Nat × Opd)} {qs : Array (Nat × Operand)} (hc : chkParts place ps qs.toList = true)
    {zero : List I} {z : Value} (hz : chkIL zero z.cells.toList = true) {cs : List F} (h : fillF (zero.map .i) (st.parts ps) = some cs) :
    ∃ vs, Instr.fill place z.cells (qs.map fun (i, x) => (i, a.eval x)).toList = some vs ∧ Rels S w β st.hp cs vs ∧ cs.length = zero.length := by
  obtain ⟨e1, e2⟩ := chkParts_ok hc
  obtain ⟨z1, z2⟩ := chkIL_ok (S := S) (w := w) hz
  have := fill_rel (S := S) (w := w) (β := β) (hp := st.hp) place (st.parts ps) (qs.map fun (i, x) => (i, a.eval x)).toList (zero.map .i) cs z.cells ⟨by simpa using z1, fun j y u hy hu => by
    simp only [List.getElem?_map] at hy
    cases hj : zero[j]? with
    | none => simp [hj] at hy
    | some x => simp [hj] at hy; subst hy; exact .i _ _ (z2 j x u hj (by simpa using hu))⟩ (by simp [St.parts]; simpa using e1) (fun j p q hp hq => by
    simp only [St.parts, List.getElem?_map] at hp
    simp only [Array.toList_map, List.getElem?_map] at hq
    cases hj : ps[j]? with
    | none => simp [hj] at hp
    | some p' =>
      cases hk : qs.toList[j]? with
      | none => simp [hk] at hq
      | some q' =>
        simp [hj] at hp; simp [hk] at hq
        subst hp; subst hq
        obtain ⟨g1, g2⟩ := e2 j p' q' hj hk
        exact ⟨g1, fun v hv => hr.val g2 hv⟩) h
  obtain ⟨vs, h1, h2, h3⟩ := this
  exact ⟨vs, h1, h2, by simpa using h3⟩

def chkBuild (P : Program) (t : TypeId) (zero : List I) (ps : List (Nat × Nat × Opd)) (qs : Array (Nat × Operand)) : Bool :=
  match P.info? t, P.underlying t with
  | some it, some (.array _ e) => (match it.zero, P.info? e with
    | some z, some ie => chkIL zero z.cells.toList && chkParts (fun i => some (i * ie.size, ie.size)) ps qs.toList
    | _, _ => false)
  | some it, some (.struct fields) => (match it.zero, fields.toList.mapM (fun f => (P.info? f.type).map fun i => (f.offset, i.size)) with
    | some z, some places => chkIL zero z.cells.toList && chkParts (places.toArray[·]?) ps qs.toList
    | _, _ => false)
  | _, _ => false

theorem op_build (hr : Rel Γ N S β st a w) {o : Oper} {t : TypeId} {zero : List I} {ps : List (Nat × Nat × Opd)} {qs : Array (Nat × Operand)} (ho : o.op = .build t qs) (hc : chkBuild P t zero ps qs = true)
    {ov : Option F} (h : evalOp st (.build zero ps) = some (ov, st')) : OpPost Γ N S β st a w ((execOp a.eval o).run P w) ov st' := by
  simp only [evalOp] at h
  split at h
  case h_2 => simp at h
  rename_i cs hf
  simp at h; obtain ⟨rfl, rfl⟩ := h
  have key : ∃ vs, P.built t (qs.map fun (i, x) => (i, a.eval x)).toList = some vs ∧ Rels S w β st.hp cs vs := by
    unfold chkBuild at hc
    split at hc
    · rename_i it m e hit hu
      split at hc
      · rename_i z ie hz hie
        simp at hc
        obtain ⟨vs, h1, h2, _⟩ := hr.fill (by simpa using hc.2) hc.1 hf
        exact ⟨vs, by simp only [Program.built, hit, hu, hz, hie]; exact h1, h2⟩
      · simp at hc
    · rename_i it fields hit hu
      split at hc
      · rename_i z places hz hpl
        simp only [Bool.and_eq_true] at hc
        obtain ⟨vs, h1, h2, _⟩ := hr.fill hc.2 hc.1 hf
        exact ⟨vs, by simp only [Program.built, hit, hu, hz, hpl]; exact h1, h2⟩
      · simp at hc
    · simp at hc
  obtain ⟨vs, h1, h2⟩ := key
  have := run_build (P := P) w t (qs.map fun (i, x) => (i, a.eval x)) vs h1
  refine OpPost.pure hr (cv := .agg vs) ?_ (mkAgg_rel h2.1 h2.2)
  simp [execOp, ho, this]

def chkSlice (P : Program) (t : TypeId) (k : Nat) : Bool :=
  match P.underlying t with
  | some .string => k == 0
  | some (.slice e) => (match P.info? e with | some i => i.size == k && k != 0 | none => false)
  | _ => false
def chkOpt : Option Opd → Option Operand → Bool
  | none, none => true
  | some x, some y => chkOpd x y
  | _, _ => false

/-- A bound: the machine's natural number. -/
theorem Rel.bnd (hr : Rel Γ N S β st a w) {x : Option Opd} {y : Option Operand} (hc : chkOpt x y = true) {d l : Nat} (h : optNat st d x = some l) :
    (y = none ∧ l = d) ∨ ∃ z q n, y = some z ∧ a.eval z = .int q n ∧ 0 ≤ n ∧ n.toNat = l := by
  cases x with
  | none =>
    cases y with
    | none => simp [optNat] at h; exact .inl ⟨rfl, h.symm⟩
    | some y => simp [chkOpt] at hc
  | some x =>
    cases y with
    | none => simp [chkOpt] at hc
    | some y =>
      simp only [chkOpt] at hc
      simp only [optNat] at h
      split at h
      · rename_i v hv
        have h1 := hr.val hc hv
        unfold natI at h
        split at h
        · split at h
          · simp at h
            exact .inr ⟨y, _, _, rfl, h1.inv_i.inv_int, by assumption, h⟩
          · simp at h
        · simp at h
      · simp at h

theorem run_bounds (isSlice : Bool) (len cap : Nat) (lo hi mx : Option Value) (l h m : Nat)
    (hl : (lo = none ∧ l = 0) ∨ ∃ q n, lo = some (.int q n) ∧ 0 ≤ n ∧ n.toNat = l) (hh : (hi = none ∧ h = len) ∨ ∃ q n, hi = some (.int q n) ∧ 0 ≤ n ∧ n.toNat = h)
    (hm : (mx = none ∧ m = cap) ∨ ((hi.isSome) ∧ ∃ q n, mx = some (.int q n) ∧ 0 ≤ n ∧ n.toNat = m)) (h1 : l ≤ h) (h2 : h ≤ m) (h3 : m ≤ cap) :
    (Instr.sliceBounds isSlice len cap lo hi mx).run P w = .ok (l, h, m) w := by
  have sb : ∀ (q : IntKind) (n : Int) (y : Nat) (code : BoundsCode), 0 ≤ n → n.toNat ≤ y → (Instr.sliceBound (.int q n) y code).run P w = .ok n.toNat w := fun q n y code h0 h1 => by
    have : n ≤ (y : Int) := by omega
    simp [Instr.sliceBound, asIntOf, h0, this]
  unfold Instr.sliceBounds
  rcases hm with ⟨rfl, rfl⟩ | ⟨his, q3, n3, rfl, p3, rfl⟩ <;> rcases hh with ⟨rfl, rfl⟩ | ⟨q2, n2, rfl, p2, rfl⟩ <;> rcases hl with ⟨rfl, rfl⟩ | ⟨q1, n1, rfl, p1, rfl⟩
  all_goals first | (simp at his; done) | skip
  all_goals simp [sb, *]

theorem chkOpt_eval {x : Option Opd} {y : Option Operand} : True := trivial

theorem Rel.bnd' (hr : Rel Γ N S β st a w) {x : Option Opd} {y : Option Operand} (hc : chkOpt x y = true) {d l : Nat} (h : optNat st d x = some l) :
    (y.map a.eval = none ∧ l = d) ∨ ∃ q n, y.map a.eval = some (.int q n) ∧ 0 ≤ n ∧ n.toNat = l := by
  rcases hr.bnd hc h with ⟨rfl, h⟩ | ⟨z, q, n, rfl, h1, h2, h3⟩
  · exact .inl ⟨rfl, h⟩
  · exact .inr ⟨q, n, by simp [h1], h2, h3⟩

theorem op_slice (hr : Rel Γ N S β st a w) {o : Oper} {x : Opd} {x' : Operand} {lo hi mx : Option Opd} {lo' hi' mx' : Option Operand} {t : TypeId} {k : Nat} (ho : o.op = .slice t x' lo' hi' mx') (hx : chkOpd x x' = true) (hc : chkSlice P t k = true)
    (hlo : chkOpt lo lo' = true) (hhi : chkOpt hi hi' = true) (hmx : chkOpt mx mx' = true) (hm3 : mx'.isSome → hi'.isSome)
    {ov : Option F} (h : evalOp st (.slice k x lo hi mx) = some (ov, st')) : OpPost Γ N S β st a w ((execOp a.eval o).run P w) ov st' := by
  have hstr : k = 0 → P.underlying t = some .string := fun hk => by
    unfold chkSlice at hc
    split at hc
    · assumption
    · split at hc <;> simp [hk] at hc
    · simp at hc
  have hsl : k ≠ 0 → ∃ e i, P.underlying t = some (.slice e) ∧ P.info? e = some i ∧ i.size = k := fun hk => by
    unfold chkSlice at hc
    split at hc
    · simp at hc; exact absurd hc hk
    · split at hc
      · simp at hc; exact ⟨_, _, by assumption, by assumption, hc.1⟩
      · simp at hc
    · simp at hc
  have hrun : ∀ (y : Option Addr) (len cap l h m : Nat), k ≠ 0 → ((lo'.map a.eval = none ∧ l = 0) ∨ ∃ q n, lo'.map a.eval = some (.int q n) ∧ 0 ≤ n ∧ n.toNat = l) → ((hi'.map a.eval = none ∧ h = len) ∨ ∃ q n, hi'.map a.eval = some (.int q n) ∧ 0 ≤ n ∧ n.toNat = h) →
      ((mx'.map a.eval = none ∧ m = cap) ∨ ∃ q n, mx'.map a.eval = some (.int q n) ∧ 0 ≤ n ∧ n.toNat = m) → l ≤ h → h ≤ m → m ≤ cap →
      (Instr.sliceAt t (.slice y len cap) (lo'.map a.eval) (hi'.map a.eval) (mx'.map a.eval)).run P w = .ok (.slice (if m = l then y else y.map (·.add (l * k))) (h - l) (m - l)) w := fun y len cap l h m hk a1 a2 a3 h1 h2 h3 => by
    obtain ⟨e, i, hu, hi, hsz⟩ := hsl hk
    have hb := run_bounds (P := P) (w := w) true len cap (lo'.map a.eval) (hi'.map a.eval) (mx'.map a.eval) l h m a1 a2 (by
      rcases a3 with a3 | a3
      · exact .inl a3
      · refine .inr ⟨?_, a3⟩
        obtain ⟨q, n, hq, _⟩ := a3
        cases mx' with
        | none => simp at hq
        | some _ => simpa using hm3 rfl) h1 h2 h3
    simp [Instr.sliceAt, run_underlying hu, Instr.slice, hb, sizeOf, typeInfo, hi, hsz]
  simp only [evalOp] at h
  split at h
  · rename_i s hv
    split at h
    · rename_i l h' hl hh
      split at h
      · rename_i hcond
        simp at h; obtain ⟨rfl, rfl⟩ := h
        obtain ⟨h1, h2, rfl, h4⟩ := hcond
        have e1 := (hr.val hx hv).inv_i.inv_str
        have hmn : mx' = none := by
          cases mx with
          | none => cases mx' with
            | none => rfl
            | some _ => simp [chkOpt] at hmx
          | some _ => simp at h4
        subst hmn
        have hb := run_bounds (P := P) (w := w) false s.size s.size (lo'.map a.eval) (hi'.map a.eval) none l h' s.size (hr.bnd' hlo hl) (hr.bnd' hhi hh) (.inl ⟨rfl, rfl⟩) h1 h2 (Nat.le_refl _)
        refine OpPost.pure hr ?_ (.i _ _ (.str _))
        simp [execOp, ho, e1, Instr.sliceAt, run_underlying (hstr rfl), Instr.slice, hb]
      · simp at h
    · simp at h
  · rename_i k' cs hv
    split at h
    · rename_i l h' m hl hh hm
      split at h
      · rename_i hcond
        simp at h; obtain ⟨rfl, rfl⟩ := h
        obtain ⟨rfl, hk, h1, h2, h3⟩ := hcond
        obtain ⟨y, len, cap, he, hlen, hcap, hd⟩ := (hr.val hx hv).inv_i.inv_sl
        have hdiv : cs.length / k = len := by rw [← hlen]; exact Nat.mul_div_cancel _ hk
        rw [hdiv] at hh hm
        have hml : m ≤ len := by
          rw [← hlen] at h3
          exact Nat.le_of_mul_le_mul_right h3 hk
        -- the machine's own bound: m, or the capacity
        have hbm := hr.bnd' hmx hm
        obtain ⟨m', hm1, hm2, hm3'⟩ : ∃ m', ((mx'.map a.eval = none ∧ m' = cap) ∨ ∃ q n, mx'.map a.eval = some (.int q n) ∧ 0 ≤ n ∧ n.toNat = m') ∧ m ≤ m' ∧ m' ≤ cap := by
          rcases hbm with ⟨e1, e2⟩ | hh
          · exact ⟨cap, .inl ⟨e1, rfl⟩, by omega, Nat.le_refl _⟩
          · exact ⟨m, .inr hh, Nat.le_refl _, by omega⟩
        have hres := hrun y len cap l h' m' (by omega) (hr.bnd' hlo hl) (hr.bnd' hhi hh) hm1 h1 (by omega) hm3'
        refine OpPost.pure hr (cv := .slice (if m' = l then y else y.map (·.add (l * k))) (h' - l) (m' - l)) (by simp [execOp, ho, he, hres]) ?_
        by_cases hz : h' - l = 0
        · rw [hz]
          simp
          exact .i _ _ (.slE _ _ _)
        · rcases hd with rfl | ⟨_, hl0, b, off, vs, rfl, hS, hlv, hcell, hrel⟩
          · have h0 : len * k = 0 := hlen
            rcases Nat.mul_eq_zero.1 h0 with h | h <;> omega
          · rw [if_neg (by omega)]
            simp only [Option.map_some, addr_add]
            have hcl : cs.length = len * k := hlen.symm
            have hle : (h' - l) * k + l * k ≤ cs.length := by
              rw [← Nat.add_mul, hcl]; exact Nat.mul_le_mul_right _ (by omega)
            obtain ⟨p1, p2⟩ := cells_part hlv hrel (l * k) ((h' - l) * k)
            refine .i _ _ (.slN k _ b (off + l * k) (h' - l) (m' - l) ((vs.drop (l * k)).take ((h' - l) * k)) hk (by simp; omega) (by omega) (by omega) hS p1 (fun j v hj => ?_) p2)
            rw [List.getElem?_take] at hj
            split at hj
            · rw [List.getElem?_drop] at hj
              rw [Nat.add_assoc]
              exact hcell _ _ hj
            · simp at hj
      · simp at h
    · simp at h
  · rename_i l0 off len k' hv
    split at h
    · rename_i l h' m hl hh hm
      split at h
      · rename_i hcond
        simp at h; obtain ⟨rfl, rfl⟩ := h
        obtain ⟨rfl, h1, h2, h3⟩ := hcond
        obtain ⟨blk, y, cap, hb, he, hk, hlen, hcap, hd⟩ := (hr.val hx hv).inv_own
        have hbm := hr.bnd' hmx hm
        obtain ⟨m', hm1, hm2, hm3'⟩ : ∃ m', ((mx'.map a.eval = none ∧ m' = cap) ∨ ∃ q n, mx'.map a.eval = some (.int q n) ∧ 0 ≤ n ∧ n.toNat = m') ∧ m ≤ m' ∧ m' ≤ cap := by
          rcases hbm with ⟨e1, e2⟩ | hh
          · exact ⟨cap, .inl ⟨e1, rfl⟩, by omega, Nat.le_refl _⟩
          · exact ⟨m, .inr hh, Nat.le_refl _, by omega⟩
        have hres := hrun y len cap l h' m' (by omega) (hr.bnd' hlo hl) (hr.bnd' hhi hh) hm1 h1 (by omega) hm3'
        refine OpPost.pure hr (cv := .slice (if m' = l then y else y.map (·.add (l * k))) (h' - l) (m' - l)) (by simp [execOp, ho, he, hres]) ?_
        have hle : off + l * k + (h' - l) * k ≤ off + len * k := by
          rw [Nat.add_assoc, ← Nat.add_mul]; exact Nat.add_le_add_left (Nat.mul_le_mul_right _ (by omega)) _
        have hll : l * k ≤ len * k := Nat.mul_le_mul_right _ (by omega)
        by_cases hz : m' = l
        · subst hz
          have : h' - m' = 0 := by omega
          rw [this]
          simp
          exact .own0 l0 _ k blk y hb (by omega) hk
        · rw [if_neg hz]
          rcases hd with ⟨hz0, hz1⟩ | ⟨b, base, n, e, rfl, hβ, hs, hn⟩
          · omega
          · simp only [Option.map_some, addr_add]
            have := RF.ownS (S := S) (w := w) (β := β) (hp := st.hp) l0 (off + l * k) (h' - l) k blk b base (m' - l) n e hb hβ (by omega) (by omega) hk hs (by
              have : l * k + (m' - l) * k ≤ cap * k := by rw [← Nat.add_mul]; exact Nat.mul_le_mul_right _ (by omega)
              omega)
            rw [Nat.add_assoc]
            exact this
      · simp at h
    · simp at h
  · simp at h
end
end Go.Vm

/- Labels: taking away, laying, and the world's turns. -/
set_option linter.unusedSimpArgs false
set_option linter.unusedVariables false
namespace Go.Vm
variable {Γ : GlobP}

section
variable {P : Program} {N : Nat} {S : Nat → Prop} {β : Beta} {st st' st1 : St} {a : Act} {w w' : World}

theorem get_killEnv {l : Nat} : ∀ {e : Env} {t : Nat} {v : F}, get (killEnv l e) t = some v → get e t = some v ∧ v.mentions l = false
  | [], t, v, h => by simp [killEnv, get] at h
  | (k, u) :: e, t, v, h => by
    simp only [killEnv, get] at h ⊢
    split at h
    · rename_i hk
      rw [if_pos hk]
      cases u with
      | none => simp at h
      | some x =>
        simp only at h
        split at h
        · simp at h
        · simp at h; subst h; exact ⟨rfl, by simpa using (by assumption : ¬ x.mentions l = true)⟩
    · rename_i hk
      rw [if_neg hk]
      exact get_killEnv h
theorem killH_get {l : Nat} : ∀ {h h' : Heap}, killH l h = some h' → hget h' l = none ∧ (∀ m, m ≠ l → hget h' m = hget h m) ∧ ∀ m blk, m ≠ l → hget h m = some blk → blk.mentions l = false
  | [], h', e => by simp [killH] at e; subst e; exact ⟨rfl, fun _ _ => rfl, fun _ _ _ h => by simp [hget] at h⟩
  | (k, v) :: r, h', e => by
    simp only [killH] at e
    split at e
    · rename_i hk
      obtain ⟨e1, e2, e3⟩ := killH_get e
      refine ⟨e1, fun m hm => ?_, fun m blk hm hb => ?_⟩
      · rw [e2 m hm]; simp [hget, show ¬ k = m by omega]
      · simp only [hget, show ¬ k = m by omega, if_false] at hb; exact e3 m blk hm hb
    · rename_i hk
      split at e
      · simp at e
      · rename_i hv
        split at e
        · rename_i r' hr
          simp at e; subst e
          obtain ⟨e1, e2, e3⟩ := killH_get hr
          refine ⟨by simp [hget, hk, e1], fun m hm => ?_, fun m blk hm hb => ?_⟩
          · simp only [hget]; split
            · rfl
            · exact e2 m hm
          · simp only [hget] at hb
            split at hb
            · simp at hb; subst hb; simpa using hv
            · exact e3 m blk hm hb
        · simp at e

theorem Blk.mentions_at {l : Nat} {blk : Blk} (h : blk.mentions l = false) {j : Nat} {x : F} (hx : blk.cells[j]? = some x) : x.mentions l = false := by
  cases blk with
  | flat cs =>
    simp only [Blk.cells, List.getElem?_map] at hx
    cases hc : cs[j]? with
    | none => simp [hc] at hx
    | some c => simp [hc] at hx; subst hx; rfl
  | deep cs => exact mentionsL_at h hx
theorem Blk.len_cells (blk : Blk) : blk.cells.length = blk.len := by cases blk <;> simp [Blk.cells, Blk.len]

/-- The relation of a heap's blocks under turns that keep what the cells mention. -/
theorem BlkRel.mono {S' : Nat → Prop} {β' : Beta} {hp hp' : Heap} {blk : Blk} {b base : Nat} (h : BlkRel S w β hp blk b base) (hS : ∀ b, S b → S' b) (hw : ∀ b, S b → w'.heap[b]? = w.heap[b]?) (hb : w'.heap[b]? = w.heap[b]?)
    (hk : ∀ l, blk.mentions l = true → Keeps w w' β β' hp hp' l) : BlkRel S' w' β' hp' blk b base := by
  obtain ⟨c, e, fr, hc, hfr, hlen, hcells⟩ := h
  refine ⟨c, e, fr, by rw [hb]; exact hc, hfr, hlen, fun j x hx => ?_⟩
  obtain ⟨v, hv, hrel⟩ := hcells j x hx
  refine ⟨v, hv, hrel.mono hS hw fun l hl => hk l ?_⟩
  refine Classical.byContradiction fun hn => ?_
  have := Blk.mentions_at (by simpa using hn) hx
  simp [this] at hl

theorem kill_rel (hr : Rel Γ N S β st a w) {l : Nat} (h : st.kill l = some st1) : Rel Γ N S β st1 a w ∧ hget st1.hp l = none ∧ (∀ m, m ≠ l → hget st1.hp m = hget st.hp m) ∧ st1.nxt = st.nxt ∧ st1.prot = st.prot ∧
    (∀ m blk, m ≠ l → hget st.hp m = some blk → blk.mentions l = false) ∧ ∀ t v, get st1.env t = some v → v.mentions l = false := by
  unfold St.kill at h
  split at h
  case h_2 => simp at h
  rename_i h' hh
  simp at h; subst h
  obtain ⟨e1, e2, e3⟩ := killH_get hh
  have keeps : ∀ m, m ≠ l → Keeps w w β β st.hp h' m := fun m hm blk hb => ⟨rfl, ⟨blk, by rw [e2 m hm]; exact hb, Nat.le_refl _⟩, fun _ _ _ _ _ h => h⟩
  refine ⟨⟨hr.size, hr.defers, fun t v hv => ?_, ⟨fun m blk hb => ?_, fun m m' blk blk' b base base' h1 h2 h3 h4 => ?_, hr.hp.glob⟩, hr.bound, fun m blk hb => ?_, hr.nxt, hr.prot⟩, e1, e2, rfl, rfl, e3, fun t v hv => (get_killEnv hv).2⟩
  · obtain ⟨g1, g2⟩ := get_killEnv hv
    obtain ⟨h1, h2⟩ := hr.env t v g1
    exact ⟨h1, h2.mono (fun _ h => h) (fun _ _ => rfl) fun m hm => keeps m (fun e => by subst e; simp [g2] at hm)⟩
  · have hm : m ≠ l := fun e => by subst e; simp [e1] at hb
    have hb0 : hget st.hp m = some blk := by rw [← e2 m hm]; exact hb
    rcases hr.hp.blk m blk hb0 with h1 | ⟨b, base, h1, h2, h3⟩
    · exact .inl h1
    · refine .inr ⟨b, base, h1, h2, h3.mono (fun _ h => h) (fun _ _ => rfl) rfl fun k hk => keeps k fun e => ?_⟩
      subst e
      simp [e3 m blk hm hb0] at hk
  · have hm : m ≠ l := fun e => by subst e; simp [e1] at h1
    have hm' : m' ≠ l := fun e => by subst e; simp [e1] at h2
    exact hr.hp.inj m m' blk blk' b base base' (by rw [← e2 m hm]; exact h1) (by rw [← e2 m' hm']; exact h2) h3 h4
  · have hm : m ≠ l := fun e => by subst e; simp [e1] at hb
    exact hr.lab m blk (by rw [← e2 m hm]; exact hb)

/-- The world turns, but no block that is owned or immutable. -/
theorem world_rel (hr : Rel Γ N S β st a w) (hsz : w.heap.size ≤ w'.heap.size) (hS : ∀ b, S b → w'.heap[b]? = w.heap[b]?) (hO : ∀ b, Own β st.hp b → w'.heap[b]? = w.heap[b]?) : Rel Γ N S β st a w' := by
  have keeps : ∀ m, Keeps w w' β β st.hp st.hp m := fun m blk hb => ⟨rfl, ⟨blk, hb, Nat.le_refl _⟩, fun b base hβ e n h => by
    simp only [World.shape?] at h ⊢; rw [hO b ⟨m, blk, base, hb, hβ⟩]; exact h⟩
  refine ⟨hr.size, hr.defers, fun t v hv => ?_, ⟨fun m blk hb => ?_, hr.hp.inj, Γ.mono _ _ _ _ hr.hp.glob (fun _ h => h) hS⟩, fun b hb => Nat.lt_of_lt_of_le (hr.bound b hb) hsz, hr.lab, hr.nxt, hr.prot⟩
  · obtain ⟨h1, h2⟩ := hr.env t v hv
    exact ⟨h1, h2.mono (fun _ h => h) hS fun m _ => keeps m⟩
  · rcases hr.hp.blk m blk hb with h1 | ⟨b, base, h1, h2, h3⟩
    · exact .inl h1
    · exact .inr ⟨b, base, h1, h2, h3.mono (fun _ h => h) hS (hO b ⟨m, blk, base, hb, h1⟩) fun k _ => keeps k⟩

def upd (β : Beta) (l : Nat) (x : Option (Nat × Nat)) : Beta := fun m => if m = l then x else β m
theorem upd_ne {l m : Nat} {x : Option (Nat × Nat)} (h : m ≠ l) : upd β l x m = β m := by simp [upd, h]
theorem upd_eq {l : Nat} {x : Option (Nat × Nat)} : upd β l x l = x := by simp [upd]

/-- A label is laid: on a block that no label owns, or on none. -/
theorem insert_rel (hr : Rel Γ N S β st a w) {l n' : Nat} {blk : Blk} {x : Option (Nat × Nat)} (hl : hget st.hp l = none) (hlt : l < n') (hn : st.nxt ≤ n')
    (hx : (x = none ∧ blk.len = 0) ∨ ∃ b base, x = some (b, base) ∧ ¬ S b ∧ ¬ Own β st.hp b ∧ BlkRel S w β st.hp blk b base) :
    Rel Γ N S (upd β l x) { st with hp := (l, blk) :: st.hp, nxt := n' } a w := by
  have keeps : ∀ m, Keeps w w β (upd β l x) st.hp ((l, blk) :: st.hp) m := fun m blk' hb => by
    have hm : m ≠ l := fun e => by subst e; simp [hl] at hb
    exact ⟨upd_ne hm, ⟨blk', by simp [hget, show ¬ l = m from fun e => hm e.symm, hb], Nat.le_refl _⟩, fun _ _ _ _ _ h => h⟩
  have hget' : ∀ m, m ≠ l → hget ((l, blk) :: st.hp) m = hget st.hp m := fun m hm => by simp [hget, show ¬ l = m from fun e => hm e.symm]
  have hget0 : hget ((l, blk) :: st.hp) l = some blk := by simp [hget]
  refine ⟨hr.size, hr.defers, fun t v hv => ?_, ⟨fun m blk' hb => ?_, fun m m' blk1 blk2 b base base' h1 h2 h3 h4 => ?_, hr.hp.glob⟩, hr.bound, fun m blk' hb => ?_, Nat.le_trans hr.nxt hn, fun m hm => Nat.lt_of_lt_of_le (hr.prot m hm) hn⟩
  · obtain ⟨h1, h2⟩ := hr.env t v hv
    exact ⟨h1, h2.mono (fun _ h => h) (fun _ _ => rfl) fun m _ => keeps m⟩
  · simp only at hb
    by_cases hm : m = l
    · subst hm
      rw [hget0] at hb; simp at hb; subst hb
      rcases hx with ⟨rfl, h⟩ | ⟨b, base, rfl, h1, h2, h3⟩
      · exact .inl ⟨upd_eq, h⟩
      · exact .inr ⟨b, base, upd_eq, h1, h3.mono (fun _ h => h) (fun _ _ => rfl) rfl fun k _ => keeps k⟩
    · rw [hget' m hm] at hb
      rcases hr.hp.blk m blk' hb with ⟨h1, h2⟩ | ⟨b, base, h1, h2, h3⟩
      · exact .inl ⟨(upd_ne hm).trans h1, h2⟩
      · exact .inr ⟨b, base, (upd_ne hm).trans h1, h2, h3.mono (fun _ h => h) (fun _ _ => rfl) rfl fun k _ => keeps k⟩
  · simp only at h1 h2
    by_cases hm : m = l
    · by_cases hm' : m' = l
      · omega
      · exfalso
        subst hm
        rw [upd_eq] at h3; rw [upd_ne hm'] at h4; rw [hget' m' hm'] at h2
        rcases hx with ⟨rfl, h⟩ | ⟨b', base1, rfl, _, g2, _⟩
        · simp at h3
        · simp at h3; obtain ⟨rfl, rfl⟩ := h3
          exact g2 ⟨m', blk2, base', h2, h4⟩
    · by_cases hm' : m' = l
      · exfalso
        subst hm'
        rw [upd_eq] at h4; rw [upd_ne hm] at h3; rw [hget' m hm] at h1
        rcases hx with ⟨rfl, h⟩ | ⟨b', base1, rfl, _, g2, _⟩
        · simp at h4
        · simp at h4; obtain ⟨rfl, rfl⟩ := h4
          exact g2 ⟨m, blk1, base, h1, h3⟩
      · rw [upd_ne hm] at h3; rw [upd_ne hm'] at h4; rw [hget' m hm] at h1; rw [hget' m' hm'] at h2
        exact hr.hp.inj m m' blk1 blk2 b base base' h1 h2 h3 h4
  · simp only at hb
    by_cases hm : m = l
    · subst hm; exact hlt
    · rw [hget' m hm] at hb; exact Nat.lt_of_lt_of_le (hr.lab m blk' hb) hn

/-- What 'create' does: perhaps a label is taken away; a label is laid. -/
theorem create_split (hr : Rel Γ N S β st a w) {hint : Option Nat} {blk : Blk} {l : Nat} (h : st.create hint blk = some (l, st')) :
    ∃ st1 n', Rel Γ N S β st1 a w ∧ hget st1.hp l = none ∧ l < n' ∧ st1.nxt ≤ n' ∧ st1.prot = st.prot ∧ l ∉ st.prot ∧ st' = { st1 with hp := (l, blk) :: st1.hp, nxt := n' } ∧
      (∀ m, m ≠ l → hget st1.hp m = hget st.hp m) ∧ (∀ m, blk.mentions m = true → (∃ b, hget st.hp m = some b) → m ≠ l) := by
  unfold St.create at h
  split at h
  · split at h
    case h_2 => simp at h
    simp at h; obtain ⟨rfl, rfl⟩ := h
    have h0 : hget st.hp st.nxt = none := by
      cases hh : hget st.hp st.nxt with
      | none => rfl
      | some b => exact absurd (hr.lab _ _ hh) (by omega)
    exact ⟨st, st.nxt + 1, hr, h0, by omega, by omega, rfl, fun hm => absurd (hr.prot _ hm) (by omega), rfl, fun _ _ => rfl, fun m _ ⟨b, hb⟩ e => by subst e; simp [h0] at hb⟩
  · rename_i l0
    split at h
    · simp at h
    · rename_i hc
      simp at hc
      split at h
      · rename_i st1 hk
        simp at h; obtain ⟨rfl, rfl⟩ := h
        obtain ⟨k1, k2, k3, k4, k5, _⟩ := kill_rel hr hk
        have := hr.nxt
        exact ⟨st1, st1.nxt, k1, k2, by omega, Nat.le_refl _, k5, hc.1.1, rfl, k3, fun m hm _ e => by subst e; simp [hc.2] at hm⟩
      · simp at h

/-- The whole step: the world turns on blocks that nobody holds, and a label is laid. -/
theorem create_rel (hr : Rel Γ N S β st a w) {hint : Option Nat} {blk : Blk} {l : Nat} (h : st.create hint blk = some (l, st')) {x : Option (Nat × Nat)}
    (hos : w'.os = w.os) (htape : w'.tape = w.tape) (hout : w'.output = w.output) (hsz : w.heap.size ≤ w'.heap.size) (hsame : ∀ b, b < w.heap.size → w'.heap[b]? = w.heap[b]?)
    (hx : (x = none ∧ blk.len = 0) ∨ ∃ b base, x = some (b, base) ∧ w.heap.size ≤ b ∧ ∃ c e fr, w'.heap[b]? = some (.cells c e fr) ∧ (∀ o, o < c.size → ¬ (fr.1 ≤ o ∧ o < fr.2)) ∧ base + blk.len ≤ c.size ∧
      ∀ (j : Nat) (y), blk.cells[j]? = some y → ∃ v, c[base + j]? = some v ∧ RF S w β st.hp y v) :
    Rel Γ N S (upd β l x) st' a w' ∧ Ext st.prot S β st.hp w S (upd β l x) st'.hp w' ∧ st'.prot = st.prot ∧ hget st'.hp l = some blk := by
  obtain ⟨st1, n', hr1, h0, hlt, hn, hp, hnp, rfl, hg, hm⟩ := create_split hr h
  have ownlt : ∀ b, Own β st1.hp b → b < w.heap.size := fun b ⟨m, blk', base, hb, hβ⟩ => by
    rcases hr1.hp.blk m blk' hb with ⟨h1, _⟩ | ⟨b', base', h1, _, c, e, fr, hc, _⟩
    · rw [hβ] at h1; simp at h1
    · rw [hβ] at h1; simp at h1; obtain ⟨rfl, rfl⟩ := h1
      exact (Array.getElem?_eq_some_iff.1 hc).1
  have hr2 : Rel Γ N S β st1 a w' := world_rel hr1 hsz (fun b hb => hsame b (hr.bound b hb)) (fun b hb => hsame b (ownlt b hb))
  have hown : ∀ b, Own β st1.hp b → Own β st.hp b := fun b ⟨m, blk', base, hb, hβ⟩ => ⟨m, blk', base, by rw [← hg m (fun e => by subst e; simp [h0] at hb)]; exact hb, hβ⟩
  refine ⟨insert_rel hr2 h0 hlt hn ?_, ⟨hos, htape, hout, hsz, fun b hb _ => hsame b hb, fun _ h => h, fun _ h => .inl h, fun b ⟨m, blk', base, hb, hβ⟩ => ?_, fun m hmp blk' hb => ?_⟩, hp, by simp [hget]⟩
  · rcases hx with hx | ⟨b, base, rfl, hb, c, e, fr, hc, hfr, hlen, hcells⟩
    · exact .inl hx
    · refine .inr ⟨b, base, rfl, fun hS => absurd (hr.bound b hS) (by omega), fun ho => absurd (ownlt b ho) (by omega), c, e, fr, hc, hfr, hlen, fun j y hy => ?_⟩
      obtain ⟨v, hv, hrel⟩ := hcells j y hy
      refine ⟨v, hv, hrel.mono (fun _ h => h) (fun b hb => hsame b (hr.bound b hb)) fun m hmm => ?_⟩
      intro blk' hb'
      have hml : m ≠ l := hm m (by
        refine Classical.byContradiction fun hn => ?_
        have := Blk.mentions_at (by simpa using hn) hy
        simp [this] at hmm) ⟨blk', hb'⟩
      refine ⟨rfl, ⟨blk', by rw [hg m hml]; exact hb', Nat.le_refl _⟩, fun b base hβ e n hs => ?_⟩
      have : b < w.heap.size := by
        simp only [World.shape?] at hs
        split at hs
        · rename_i hh; exact (Array.getElem?_eq_some_iff.1 hh).1
        · simp at hs
      simp only [World.shape?] at hs ⊢
      rw [hsame b this]; exact hs
  · simp only [hget] at hb
    split at hb
    · rename_i e
      subst e
      rw [upd_eq] at hβ; subst hβ
      rcases hx with ⟨h1, _⟩ | ⟨b', base', h1, h2, _⟩
      · simp at h1
      · simp at h1; obtain ⟨rfl, rfl⟩ := h1; exact .inr h2
    · rename_i e
      rw [upd_ne (fun e' => e e'.symm)] at hβ
      exact .inl (hown b ⟨m, blk', base, hb, hβ⟩)
  · have hml : m ≠ l := fun e => by subst e; exact hnp hmp
    have hb' : hget st.hp m = some blk' := by
      simp only [hget] at hb
      rw [if_neg (fun e => hml e.symm)] at hb
      rw [← hg m hml]; exact hb
    refine ⟨blk', hb', upd_ne hml, rfl, fun b base hβ e n hs => ?_⟩
    have : b < w.heap.size := by
      simp only [World.shape?] at hs
      split at hs
      · rename_i hh; exact (Array.getElem?_eq_some_iff.1 hh).1
      · simp at hs
    simp only [World.shape?] at hs ⊢
    rw [hsame b this]; exact hs
end
end Go.Vm

/- Operations that make blocks, and stores. -/
set_option linter.unusedSimpArgs false
set_option linter.unusedVariables false
namespace Go.Vm
variable {Γ : GlobP}

section
variable {P : Program} {N : Nat} {S : Nat → Prop} {β : Beta} {st st' st1 : St} {a : Act} {w w' : World}

/-- A new block behind the heap's end. -/
theorem create_new (hr : Rel Γ N S β st a w) {hint : Option Nat} {blk : Blk} {l : Nat} (h : st.create hint blk = some (l, st')) {c : Array Value} {e : TypeId} {fr : Nat × Nat}
    (hos : w'.os = w.os) (htape : w'.tape = w.tape) (hout : w'.output = w.output) (hheap : w'.heap = w.heap.push (.cells c e fr)) (hfr : ∀ o, o < c.size → ¬ (fr.1 ≤ o ∧ o < fr.2)) (hlen : blk.len ≤ c.size)
    (hcells : ∀ (j : Nat) (y), blk.cells[j]? = some y → ∃ v, c[j]? = some v ∧ RF S w β st.hp y v) :
    Rel Γ N S (upd β l (some (w.heap.size, 0))) st' a w' ∧ Ext st.prot S β st.hp w S (upd β l (some (w.heap.size, 0))) st'.hp w' ∧ st'.prot = st.prot ∧ hget st'.hp l = some blk ∧ w'.shape? w.heap.size = some (e, c.size) := by
  have hb : w'.heap[w.heap.size]? = some (.cells c e fr) := by rw [hheap]; simp
  obtain ⟨h1, h2, h3, h4⟩ := create_rel (w' := w') (x := some (w.heap.size, 0)) hr h hos htape hout (by rw [hheap]; simp) (fun b hb => by rw [hheap, Array.getElem?_push, if_neg (by omega)])
    (.inr ⟨w.heap.size, 0, rfl, Nat.le_refl _, c, e, fr, hb, hfr, by omega, fun j y hy => by simpa using hcells j y hy⟩)
  exact ⟨h1, h2, h3, h4, by simp [World.shape?, hb]⟩

theorem op_nil (hr : Rel Γ N S β st a w) {o : Oper} {k : Nat} {hint : Option Nat} (ho : o.op = .assign (.const (.slice none 0 0)) ∨ o.op = .move (.const (.slice none 0 0)))
    {ov : Option F} (h : evalOp st (.nil k hint) = some (ov, st')) : OpPost Γ N S β st a w ((execOp a.eval o).run P w) ov st' := by
  simp only [evalOp] at h
  split at h
  · simp at h
  · rename_i hk
    split at h
    · rename_i l st2 hc
      simp at h; obtain ⟨rfl, rfl⟩ := h
      obtain ⟨h1, h2, h3, h4⟩ := create_rel (w' := w) (x := none) hr hc rfl rfl rfl (Nat.le_refl _) (fun _ _ => rfl) (.inl ⟨rfl, rfl⟩)
      refine ⟨.value (.slice none 0 0), w, S, _, ?_, ⟨_, rfl, .own0 l 0 k _ none h4 (by simp [Blk.len]) (by omega)⟩, h1, h2, h3⟩
      rcases ho with ho | ho <;> simp [execOp, ho, Act.eval]
    · simp at h

def chkZero (P : Program) (t : TypeId) (zero : List I) : Bool :=
  match P.info? t with
  | some i => (match i.zero with | some z => chkIL zero z.cells.toList | none => false)
  | none => false
theorem chkZero_ok {t : TypeId} {zero : List I} (h : chkZero P t zero = true) : ∃ i z, P.info? t = some i ∧ i.zero = some z ∧ chkIL zero z.cells.toList = true := by
  unfold chkZero at h
  split at h
  · split at h
    · exact ⟨_, _, by assumption, by assumption, h⟩
    · simp at h
  · simp at h
theorem flat_cells {zero : List I} {c : Array Value} (hz : chkIL zero c.toList = true) : (Blk.flat zero).len = c.size ∧ ∀ (j : Nat) (y), (Blk.flat zero).cells[j]? = some y → ∃ v, c[j]? = some v ∧ RF S w β st.hp y v := by
  obtain ⟨z1, z2⟩ := chkIL_ok (S := S) (w := w) hz
  refine ⟨by simpa [Blk.len] using z1.symm, fun j y hy => ?_⟩
  simp only [Blk.cells, List.getElem?_map] at hy
  cases hj : zero[j]? with
  | none => simp [hj] at hy
  | some x =>
    simp [hj] at hy; subst hy
    have hlt := (List.getElem?_eq_some_iff.1 hj).1
    have hlt' : j < c.size := by simp at z1; omega
    exact ⟨c[j], by simp [hlt'], .i _ _ (z2 j x _ hj (by simp [hlt']))⟩

theorem op_alloc (hr : Rel Γ N S β st a w) {o : Oper} {t : TypeId} {zero : List I} {hint : Option Nat} (ho : o.op = .alloc t) (hc : chkZero P t zero = true)
    {ov : Option F} (h : evalOp st (.alloc zero hint) = some (ov, st')) : OpPost Γ N S β st a w ((execOp a.eval o).run P w) ov st' := by
  obtain ⟨i, z, hi, hz, hcz⟩ := chkZero_ok hc
  simp only [evalOp] at h
  split at h
  · rename_i l st2 hcr
    simp at h; obtain ⟨rfl, rfl⟩ := h
    obtain ⟨f1, f2⟩ := flat_cells (S := S) (w := w) (β := β) (st := st) hcz
    obtain ⟨h1, h2, h3, h4, h5⟩ := create_new (w' := w.alloc (.cells z.cells t)) hr hcr rfl rfl rfl rfl (by simp) (by omega) f2
    refine ⟨.value (.pointer (some ⟨w.heap.size, 0, none⟩)), _, S, _, ?_, ⟨_, rfl, ?_⟩, h1, h2, h3⟩
    · simp [execOp, ho, Instr.alloc, zeroValue, typeInfo, hi, hz, newVar, newRow]
    · exact .ref l 0 _ w.heap.size 0 h4 upd_eq
  · simp at h

theorem mkBlk_rel {hp : Heap} {cs : List F} {vs : Array Value} (h : Rels S w β hp cs vs) : (mkBlk cs).len = vs.size ∧ ∀ (j : Nat) (y), (mkBlk cs).cells[j]? = some y → ∃ v, vs[j]? = some v ∧ RF S w β hp y v := by
  unfold mkBlk
  split
  · rename_i l hl
    obtain ⟨e1, e2⟩ := toIL_at hl
    refine ⟨by simp [Blk.len, e1, h.1], fun j y hy => ?_⟩
    simp only [Blk.cells, List.getElem?_map] at hy
    cases hj : l[j]? with
    | none => simp [hj] at hy
    | some x =>
      simp [hj] at hy; subst hy
      have hlt := (List.getElem?_eq_some_iff.1 hj).1
      have hlt' : j < vs.size := by rw [h.1]; omega
      have hcj : cs[j]? = some (cs[j]'(by omega)) := by simp [show j < cs.length by omega]
      exact ⟨vs[j], by simp [hlt'], .i _ _ (toI_rel (h.2 j _ _ hcj (by simp [hlt'])) _ (e2 j _ _ hcj hj))⟩
  · refine ⟨by simp [Blk.len, h.1], fun j y hy => ?_⟩
    simp only [Blk.cells] at hy
    have hlt := (List.getElem?_eq_some_iff.1 hy).1
    have hlt' : j < vs.size := by rw [h.1]; omega
    exact ⟨vs[j], by simp [hlt'], h.2 j _ _ hy (by simp [hlt'])⟩

theorem op_box (hr : Rel Γ N S β st a w) {o : Oper} {t : TypeId} {x : Opd} {x' : Operand} {hint : Option Nat} (ho : o.op = .box t x') (hx : chkOpd x x' = true)
    {ov : Option F} (h : evalOp st (.box x hint) = some (ov, st')) : OpPost Γ N S β st a w ((execOp a.eval o).run P w) ov st' := by
  simp only [evalOp] at h
  split at h
  · rename_i v hv
    split at h
    · rename_i l st2 hcr
      simp at h; obtain ⟨rfl, rfl⟩ := h
      have hrel := hr.val hx hv
      obtain ⟨f1, f2⟩ := mkBlk_rel (cells_rel hrel)
      obtain ⟨h1, h2, h3, h4, h5⟩ := create_new (w' := w.alloc (.cells (a.eval x').cells t)) hr hcr rfl rfl rfl rfl (by simp) (by omega) f2
      refine ⟨.value (.pointer (some ⟨w.heap.size, 0, none⟩)), _, S, _, ?_, ⟨_, rfl, ?_⟩, h1, h2, h3⟩
      · simp [execOp, ho, Instr.box, newVar, newRow]
      · exact .ref l 0 _ w.heap.size 0 h4 upd_eq
    · simp at h
  · simp at h

def chkBsl (P : Program) (t : TypeId) (k n : Nat) (zero : List I) (ps : List (Nat × Nat × Opd)) (qs : Array (Nat × Operand)) : Bool :=
  match P.underlying t with
  | some (.slice e) => (match P.info? e with
    | some i => i.size == k && decide (n * k ≤ 16777216) && (match (if n * k = 0 then some (.agg #[]) else i.zero : Option Value) with
      | some z => chkIL zero ((Array.range (n * k)).map (z.cells[· % z.cells.size]!)).toList && chkParts (fun j => some (j * k, k)) ps qs.toList
      | none => false)
    | none => false)
  | _ => false

theorem op_bsl (hr : Rel Γ N S β st a w) {o : Oper} {t : TypeId} {k n : Nat} {zero : List I} {ps : List (Nat × Nat × Opd)} {qs : Array (Nat × Operand)} {hint : Option Nat} (ho : o.op = .buildSlice t n qs) (hc : chkBsl P t k n zero ps qs = true)
    {ov : Option F} (h : evalOp st (.bsl k n zero ps hint) = some (ov, st')) : OpPost Γ N S β st a w ((execOp a.eval o).run P w) ov st' := by
  simp only [evalOp] at h
  split at h
  · simp at h
  rename_i hk
  split at h
  case h_2 => simp at h
  rename_i cs hf
  split at h
  case h_2 => simp at h
  rename_i l st2 hcr
  simp at h; obtain ⟨rfl, rfl⟩ := h
  unfold chkBsl at hc
  split at hc
  case h_2 => simp at hc
  rename_i e hu
  split at hc
  case h_2 => simp at hc
  rename_i i hi
  simp only [Bool.and_eq_true, decide_eq_true_eq, beq_iff_eq] at hc
  obtain ⟨⟨hsz, hmax⟩, hc⟩ := hc
  split at hc
  case h_2 => simp at hc
  rename_i z hz
  simp only [Bool.and_eq_true] at hc
  obtain ⟨vs, g1, g2, g3⟩ := hr.fill (z := .agg ((Array.range (n * k)).map (z.cells[· % z.cells.size]!))) hc.2 (by simpa [Value.cells] using hc.1) hf
  have hzl : zero.length = n * k := by
    have := (chkIL_ok (S := S) (w := w) hc.1).1
    simpa using this.symm
  obtain ⟨f1, f2⟩ := mkBlk_rel g2
  obtain ⟨h1, h2, h3, h4, h5⟩ := create_new (w' := w.alloc (.cells vs e)) hr hcr rfl rfl rfl rfl (by simp) (by omega) f2
  have hvs : vs.size = n * k := by rw [g2.1, g3, hzl]
  have hrun : (Instr.buildSlice t n (qs.map fun (i, x) => (i, a.eval x))).run P w = .ok (.slice (some ⟨w.heap.size, 0, none⟩) n n) (w.alloc (.cells vs e)) := by
    have hmax' : ¬ (16777216 < n * k) := by omega
    have g1' : Instr.fill (fun j => some (j * k, k)) ((Array.range (n * k)).map (z.cells[· % z.cells.size]!)) (qs.toList.map fun (i, x) => (i, a.eval x)) = some vs := by
      rw [← g1]; simp [Value.cells]
    by_cases h0 : n * k = 0
    · rw [h0] at g1'
      have e0 : ∀ f : Nat → Value, (Array.range 0).map f = #[] := fun f => by simp [Array.range]
      rw [e0] at g1'
      have e1 : Array.range 0 = #[] := rfl
      simp [Instr.buildSlice, run_underlying hu, sizeOf, typeInfo, hi, hsz, h0, newRow, e1, g1']
    · rw [if_neg h0] at hz
      simp [Instr.buildSlice, run_underlying hu, sizeOf, typeInfo, hi, hsz, h0, hmax', zeroValue, hz, newRow, g1']
  refine ⟨.value (.slice (some ⟨w.heap.size, 0, none⟩) n n), w.alloc (.cells vs e), S, _, by simp [execOp, ho, hrun], ⟨_, rfl, ?_⟩, h1, h2, h3⟩
  have := RF.ownS (S := S) (w := w.alloc (.cells vs e)) (β := upd β l (some (w.heap.size, 0))) (hp := st2.hp) l 0 n k _ w.heap.size 0 n vs.size e h4 upd_eq (by rw [f1, hvs]; omega) (Nat.le_refl _) (by omega) h5 (by omega)
  simpa using this

def chkBytes (P : Program) (s d : TypeId) : Bool :=
  match P.underlying s, P.underlying d with
  | some .string, some (.slice e) => (match P.underlying e with | some (.int .u8) => true | _ => false)
  | _, _ => false

theorem op_s2b (hr : Rel Γ N S β st a w) {o : Oper} {s d : TypeId} {x : Opd} {x' : Operand} {hint : Option Nat} (ho : o.op = .convert s d x') (hx : chkOpd x x' = true) (hc : chkBytes P s d = true)
    {ov : Option F} (h : evalOp st (.s2b x hint) = some (ov, st')) : OpPost Γ N S β st a w ((execOp a.eval o).run P w) ov st' := by
  simp only [evalOp] at h
  split at h
  case h_2 => simp at h
  rename_i bs hv
  split at h
  case h_2 => simp at h
  rename_i l st2 hcr
  simp at h; obtain ⟨rfl, rfl⟩ := h
  unfold chkBytes at hc
  split at hc
  case h_2 => simp at hc
  rename_i e hs hd
  split at hc
  case h_2 => simp at hc
  rename_i he
  have e1 := (hr.val hx hv).inv_i.inv_str
  have hrun := run_bytes_of_string (P := P) w s d e bs hs hd he
  have hcap : bs.size ≤ grownCap w bs.size 0 e := grownCap_ge w bs.size 0 e
  have hbs : ∀ cap, bs.size ≤ cap → (bytesRow bs cap).size = cap ∧ ∀ (j : Nat) (b : UInt8), bs.data.toList[j]? = some b → (bytesRow bs cap)[j]? = some (Value.int .u8 b.toNat) := fun cap hcap => by
    refine ⟨?_, fun j b hb => ?_⟩
    · have : bs.data.size = bs.size := rfl
      simp [bytesRow]; omega
    · have hlt := (List.getElem?_eq_some_iff.1 hb).1
      simp at hlt
      have hb' : bs.data[j]? = some b := by simpa using hb
      simp [bytesRow, Array.getElem?_append, hlt]
      have : bs.data[j] = b := by simpa [hlt] using hb'
      rw [this]
  obtain ⟨b1, b2⟩ := hbs _ hcap
  obtain ⟨h1, h2, h3, h4, h5⟩ := create_new (w' := w.drew.alloc (.cells (bytesRow bs (grownCap w bs.size 0 e)) e ((bytesRow bs (grownCap w bs.size 0 e)).size, (bytesRow bs (grownCap w bs.size 0 e)).size + 1))) hr hcr rfl rfl rfl rfl (by simp; omega)
    (by simp [Blk.len]; rw [b1]; exact hcap) (fun j y hy => by
      simp only [Blk.cells, List.getElem?_map] at hy
      cases hj : bs.data.toList[j]? with
      | none => simp [hj] at hy
      | some b => simp [hj] at hy; subst hy; exact ⟨_, b2 j b hj, .i _ _ (.int _ _)⟩)
  refine ⟨.value (.slice (some ⟨w.heap.size, 0, none⟩) bs.size (grownCap w bs.size 0 e)), _, S, _, by simp [execOp, ho, e1, hrun], ⟨_, rfl, ?_⟩, h1, h2, h3⟩
  have := RF.ownS (S := S) (β := upd β l (some (w.heap.size, 0))) (hp := st2.hp) l 0 bs.size 1 _ w.heap.size 0 (grownCap w bs.size 0 e) _ e h4 upd_eq (by simp [Blk.len]) hcap (by omega) h5 (by rw [b1]; omega)
  simpa using this

def chkMks (P : Program) (t : TypeId) (k bytes : Nat) (zero : List I) : Bool :=
  match P.underlying t with
  | some (.slice e) => (match P.info? e with
    | some i => i.size == k && i.bytes == bytes && (match i.zero with | some z => chkIL zero z.cells.toList && z.cells.size == k | none => false)
    | none => false)
  | _ => false
theorem flatten_replicate {zero : List I} (hz : 0 < zero.length) : ∀ (n j : Nat) (x : I), (List.replicate n zero).flatten[j]? = some x → j < n * zero.length ∧ zero[j % zero.length]? = some x
  | 0, j, x, h => by simp at h
  | n + 1, j, x, h => by
    simp only [List.replicate_succ, List.flatten_cons] at h
    by_cases hj : j < zero.length
    · rw [List.getElem?_append_left hj] at h
      refine ⟨?_, by rw [Nat.mod_eq_of_lt hj]; exact h⟩
      rw [Nat.succ_mul]; omega
    · rw [List.getElem?_append_right (by omega)] at h
      obtain ⟨h1, h2⟩ := flatten_replicate hz n (j - zero.length) x h
      refine ⟨by rw [Nat.succ_mul]; omega, ?_⟩
      rw [← h2]
      congr 1
      rw [Nat.mod_eq_sub_mod (by omega)]

theorem op_mks (hr : Rel Γ N S β st a w) {o : Oper} {t : TypeId} {k bytes : Nat} {zero : List I} {x y : Opd} {x' y' : Operand} {hint : Option Nat} (ho : o.op = .makeSlice t x' y') (hx : chkOpd x x' = true) (hy : chkOpd y y' = true) (hc : chkMks P t k bytes zero = true)
    {ov : Option F} (h : evalOp st (.mks k bytes zero x y hint) = some (ov, st')) : OpPost Γ N S β st a w ((execOp a.eval o).run P w) ov st' := by
  simp only [evalOp] at h
  split at h
  case h_2 => simp at h
  rename_i n c hvx hvy
  split at h
  case isFalse => simp at h
  rename_i hcond
  obtain ⟨hk, hn0, hnc, hb1, hb2⟩ := hcond
  split at h
  case h_2 => simp at h
  rename_i l st2 hcr
  simp at h; obtain ⟨rfl, rfl⟩ := h
  unfold chkMks at hc
  split at hc
  case h_2 => simp at hc
  rename_i e hu
  split at hc
  case h_2 => simp at hc
  rename_i i hi
  simp only [Bool.and_eq_true, beq_iff_eq] at hc
  obtain ⟨⟨hsz, hby⟩, hc⟩ := hc
  split at hc
  case h_2 => simp at hc
  rename_i z hz
  simp only [Bool.and_eq_true, beq_iff_eq] at hc
  obtain ⟨hcz, hzk⟩ := hc
  obtain ⟨z1, z2⟩ := chkIL_ok (S := S) (w := w) hcz
  have hzl : zero.length = k := by simpa [hzk] using z1.symm
  have e1 := (hr.val hx hvx).inv_i.inv_int
  have e2 := (hr.val hy hvy).inv_i.inv_int
  have hrun := run_make (P := P) w t e i z hu hi hz .i64 .i64 n c hn0 hnc (by rw [hby, Int.mul_comm]; exact hb1) (by omega)
  have hlenf : ∀ m, (List.replicate m zero).flatten.length = m * k := fun m => by simp [List.length_flatten, hzl]
  have hle : n.toNat * k ≤ c.toNat * k := Nat.mul_le_mul_right _ (by omega)
  obtain ⟨h1, h2, h3, h4, h5⟩ := create_new (w' := w.alloc (.cells (madeCells z.cells (c.toNat * i.size)) e)) hr hcr rfl rfl rfl rfl (by simp)
    (by simp only [Blk.len, hlenf, size_madeCells, hsz]; exact hle) (fun j y hy => by
      simp only [Blk.cells, List.getElem?_map] at hy
      cases hj : (List.replicate n.toNat zero).flatten[j]? with
      | none => simp [hj] at hy
      | some q =>
        simp [hj] at hy; subst hy
        obtain ⟨p1, p2⟩ := flatten_replicate (by omega) _ _ _ hj
        rw [hzl] at p1 p2
        have hjc : j < c.toNat * i.size := by rw [hsz]; omega
        have hmod : j % k < z.cells.size := by rw [hzk]; exact Nat.mod_lt _ hk
        refine ⟨z.cells[j % k], ?_, .i _ _ (z2 (j % k) q _ p2 (by simp [hmod]))⟩
        simp [madeCells, hjc, hzk]
        simp [hmod])
  refine ⟨.value (.slice (some ⟨w.heap.size, 0, none⟩) n.toNat c.toNat), _, S, _, by simp [execOp, ho, e1, e2, hrun], ⟨_, rfl, ?_⟩, h1, h2, h3⟩
  have := RF.ownS (S := S) (w := w.alloc (.cells (madeCells z.cells (c.toNat * i.size)) e)) (β := upd β l (some (w.heap.size, 0))) (hp := st2.hp) l 0 n.toNat k _ w.heap.size 0 c.toNat _ e h4 upd_eq (by simp only [Blk.len, hlenf]; omega) (by omega) hk h5 (by rw [size_madeCells, hsz]; omega)
  simpa using this
end
end Go.Vm

/- Stores and appends. -/
set_option linter.unusedSimpArgs false
set_option linter.unusedVariables false
namespace Go.Vm
variable {Γ : GlobP}

theorem setCells_heap (b : Nat) : ∀ (vs : List Value) (o : Nat) (w : World) (c : Array Value) (e : TypeId) (fr : Nat × Nat), w.heap[b]? = some (.cells c e fr) → o + vs.length ≤ c.size →
    ∃ c', (w.setCells b o vs).heap[b]? = some (.cells c' e fr) ∧ c'.size = c.size ∧ (∀ j : Nat, c'[j]? = if o ≤ j ∧ j < o + vs.length then vs[j - o]? else c[j]?) ∧
      (∀ b', b' ≠ b → (w.setCells b o vs).heap[b']? = w.heap[b']?) ∧ (w.setCells b o vs).heap.size = w.heap.size ∧ (w.setCells b o vs).os = w.os ∧ (w.setCells b o vs).tape = w.tape ∧ (w.setCells b o vs).output = w.output
  | [], o, w, c, e, fr, h, hl => ⟨c, h, rfl, fun j => by rw [if_neg (by intro hh; simp only [List.length_nil] at hh; omega)], fun _ _ => rfl, rfl, rfl, rfl, rfl⟩
  | v :: r, o, w, c, e, fr, h, hl => by
    simp only [List.length_cons] at hl
    have h1 : (w.setCell ⟨b, o, none⟩ v).heap[b]? = some (.cells (c.setIfInBounds o v) e fr) := by
      simp [World.setCell, Array.getElem?_modify, h]
    have h2 : ∀ b', b' ≠ b → (w.setCell ⟨b, o, none⟩ v).heap[b']? = w.heap[b']? := fun b' hb => by
      simp [World.setCell, Array.getElem?_modify, show ¬ b = b' from fun e => hb e.symm]
    obtain ⟨c', g1, g2, g3, g4, g5, g6, g7, g8⟩ := setCells_heap b r (o + 1) (w.setCell ⟨b, o, none⟩ v) _ e fr h1 (by simp; omega)
    refine ⟨c', g1, by simpa using g2, fun j => ?_, fun b' hb => (g4 b' hb).trans (h2 b' hb), by rw [World.setCells, g5]; simp [World.setCell], by rw [World.setCells, g6]; rfl, by rw [World.setCells, g7]; rfl, by rw [World.setCells, g8]; rfl⟩
    rw [g3 j]
    simp only [List.length_cons]
    by_cases hj : o + 1 ≤ j ∧ j < o + 1 + r.length
    · rw [if_pos hj, if_pos (by omega), show j - o = (j - (o + 1)) + 1 by omega, List.getElem?_cons_succ]
    · rw [if_neg hj]
      by_cases e : j = o
      · subst e
        rw [if_pos (by omega)]
        simp [show j < c.size by omega]
      · rw [if_neg (by omega)]
        simp [Array.getElem?_setIfInBounds, show ¬ o = j from fun h => e h.symm]

theorem hget_hset {l : Nat} {b : Blk} : ∀ {h : Heap} {m : Nat}, hget (hset l b h) m = if m = l then (hget h l).map (fun _ => b) else hget h m
  | [], m => by simp [hset, hget]
  | (k, v) :: e, m => by
    simp only [hset]
    by_cases hk : k = l
    · subst hk
      simp only [if_true, hget]
      by_cases hm : k = m
      · subst hm; simp
      · simp [hm, show ¬ m = k from fun h => hm h.symm]
    · rw [if_neg hk]
      simp only [hget, if_neg hk]
      by_cases hm : k = m
      · subst hm; simp [hk]
      · rw [if_neg hm, if_neg hm]
        exact hget_hset

section
variable {P : Program} {N : Nat} {S : Nat → Prop} {β : Beta} {st st' st1 : St} {a : Act} {w w' : World}

theorem one_rel {hp : Heap} {x : F} {v : Value} (h : RF S w β hp x v) (h1 : x.one = true) : v.oneCell' = true := by
  cases h with
  | i x v h => cases h <;> first | rfl | assumption | simp [F.one, I.one] at h1
  | agg => simp [F.one] at h1
  | tup => simp [F.one] at h1
  | own0 => rfl
  | ownS => rfl
  | ref => rfl
  | fn => rfl

theorem store_len {blk : Blk} {off : Nat} {xs : List F} (h : off + xs.length ≤ blk.len) : (blk.store off xs).len = blk.len := by
  unfold Blk.store
  split
  · rename_i cs is hl
    have := (toIL_at hl).1
    simp [Blk.len] at h ⊢
    exact setAt_length _ _ _ (by omega)
  · simp only [Blk.len]
    rw [setAt_length _ _ _ (by rw [Blk.len_cells]; exact h), Blk.len_cells]
    rfl
theorem store_cells {hp : Heap} {blk : Blk} {off : Nat} {xs : List F} {us : List Value} (h : off + xs.length ≤ blk.len) (hu : us.length = xs.length) (hr : ∀ (j : Nat) (y) (u), xs[j]? = some y → us[j]? = some u → RF S w β hp y u) :
    ∀ (j : Nat) (y), (blk.store off xs).cells[j]? = some y → (off ≤ j ∧ j < off + xs.length ∧ ∃ u, us[j - off]? = some u ∧ RF S w β hp y u) ∨ (¬ (off ≤ j ∧ j < off + xs.length) ∧ blk.cells[j]? = some y) := by
  intro j y hy
  unfold Blk.store at hy
  split at hy
  · rename_i cs is hl
    obtain ⟨e1, e2⟩ := toIL_at hl
    simp only [Blk.cells, List.getElem?_map] at hy
    simp only [Blk.len] at h
    rw [setAt_at _ _ _ (by omega)] at hy
    by_cases hj : off ≤ j ∧ j < off + is.length
    · rw [if_pos hj] at hy
      rw [e1] at hj
      refine .inl ⟨hj.1, hj.2, us[j - off]'(by omega), by simp [show j - off < us.length by omega], ?_⟩
      cases hi : is[j - off]? with
      | none => simp [hi] at hy
      | some q =>
        simp [hi] at hy; subst hy
        have hx : xs[j - off]? = some (xs[j - off]'(by omega)) := by simp [show j - off < xs.length by omega]
        exact .i _ _ (toI_rel (hr _ _ _ hx (by simp [show j - off < us.length by omega])) _ (e2 _ _ _ hx hi))
    · rw [if_neg hj] at hy
      rw [e1] at hj
      exact .inr ⟨hj, by simpa [Blk.cells, List.getElem?_map] using hy⟩
  · rename_i blk0 _ _ _
    change (setAt blk0.cells off xs)[j]? = some y at hy
    rw [setAt_at _ _ _ (by rw [Blk.len_cells]; exact h)] at hy
    by_cases hj : off ≤ j ∧ j < off + xs.length
    · rw [if_pos hj] at hy
      exact .inl ⟨hj.1, hj.2, us[j - off]'(by omega), by simp [show j - off < us.length by omega], hr _ _ _ hy (by simp [show j - off < us.length by omega])⟩
    · rw [if_neg hj] at hy
      exact .inr ⟨hj, hy⟩

/-- A block's content turns: in the world, and in the heap. -/
theorem turn_rel (hr : Rel Γ N S β st a w) {l : Nat} {blk blk' : Blk} {b base : Nat} (hb : hget st.hp l = some blk) (hβ : β l = some (b, base)) (hlen : blk'.len = blk.len)
    (hos : w'.os = w.os) (htape : w'.tape = w.tape) (hout : w'.output = w.output) (hsz : w'.heap.size = w.heap.size) (hsame : ∀ b', b' ≠ b → w'.heap[b']? = w.heap[b']?)
    {c c' : Array Value} {e : TypeId} {fr : Nat × Nat} (hc : w.heap[b]? = some (.cells c e fr)) (hc' : w'.heap[b]? = some (.cells c' e fr)) (hcs : c'.size = c.size)
    (hcells : ∀ (j : Nat) (y), blk'.cells[j]? = some y → ∃ v, c'[base + j]? = some v ∧ RF S w β st.hp y v) :
    Rel Γ N S β { st with hp := hset l blk' st.hp } a w' ∧ Ext st.prot S β st.hp w S β (hset l blk' st.hp) w' := by
  have hSb : ¬ S b := (hr.blkRel hb hβ).1
  have hblk := (hr.blkRel hb hβ).2
  have hS : ∀ b', S b' → w'.heap[b']? = w.heap[b']? := fun b' h => hsame b' fun e => by subst e; exact hSb h
  have hsh : ∀ b' e n, w.shape? b' = some (e, n) → w'.shape? b' = some (e, n) := fun b' e' n h => by
    by_cases hbb : b' = b
    · subst hbb
      simp [World.shape?, hc] at h
      simp [World.shape?, hc', hcs, h]
    · simp only [World.shape?] at h ⊢; rw [hsame b' hbb]; exact h
  have hg : ∀ m blk0, hget st.hp m = some blk0 → ∃ blk1, hget (hset l blk' st.hp) m = some blk1 ∧ blk1.len = blk0.len := fun m blk0 h => by
    rw [hget_hset]
    by_cases hm : m = l
    · subst hm
      rw [hb] at h; simp at h; subst h
      exact ⟨blk', by simp [hb], hlen⟩
    · exact ⟨blk0, by simp [hm, h], rfl⟩
  have hg' : ∀ m blk1, hget (hset l blk' st.hp) m = some blk1 → (m = l ∧ blk1 = blk') ∨ (m ≠ l ∧ hget st.hp m = some blk1) := fun m blk1 h => by
    rw [hget_hset] at h
    by_cases hm : m = l
    · subst hm; simp [hb] at h; exact .inl ⟨rfl, h.symm⟩
    · simp [hm] at h; exact .inr ⟨hm, h⟩
  have keeps : ∀ m, Keeps w w' β β st.hp (hset l blk' st.hp) m := fun m blk0 h => by
    obtain ⟨blk1, h1, h2⟩ := hg m blk0 h
    exact ⟨rfl, ⟨blk1, h1, by omega⟩, fun b' base' _ e n hs => hsh b' e n hs⟩
  refine ⟨⟨hr.size, hr.defers, fun t v hv => ?_, ⟨fun m blk0 h => ?_, fun m m' blk0 blk1 b0 base0 base1 h1 h2 h3 h4 => ?_, Γ.mono _ _ _ _ hr.hp.glob (fun _ h => h) hS⟩, fun b' h => by rw [hsz]; exact hr.bound b' h, fun m blk0 h => ?_, hr.nxt, hr.prot⟩,
    ⟨hos, htape, hout, by omega, fun b' _ ho => hsame b' fun e => ho ⟨l, blk, base, hb, by rw [e]; exact hβ⟩, fun _ h => h, fun _ h => .inl h, fun b0 ⟨m, blk0, base0, h, h1⟩ => ?_, fun m hm blk0 h => ?_⟩⟩
  · obtain ⟨h1, h2⟩ := hr.env t v hv
    exact ⟨h1, h2.mono (fun _ h => h) hS fun m _ => keeps m⟩
  · rcases hg' m blk0 h with ⟨rfl, rfl⟩ | ⟨hm, h⟩
    · obtain ⟨c0, e0, fr0, q1, q2, q3, _⟩ := hblk
      rw [hc] at q1; simp at q1; obtain ⟨rfl, rfl, rfl⟩ := q1
      refine .inr ⟨b, base, hβ, hSb, c', e, fr, hc', fun o ho => q2 o (by omega), by omega, fun j y hy => ?_⟩
      obtain ⟨v, hv, hrel⟩ := hcells j y hy
      exact ⟨v, hv, hrel.mono (fun _ h => h) hS fun m _ => keeps m⟩
    · rcases hr.hp.blk m blk0 h with h1 | ⟨b0, base0, h1, h2, h3⟩
      · exact .inl h1
      · have hne : b0 ≠ b := fun e => hm (hr.hp.inj m l blk0 blk b0 base0 base h hb h1 (by rw [e]; exact hβ))
        exact .inr ⟨b0, base0, h1, h2, h3.mono (fun _ h => h) hS (hsame b0 hne) fun k _ => keeps k⟩
  · have : ∀ m blk0, hget (hset l blk' st.hp) m = some blk0 → ∃ blk1, hget st.hp m = some blk1 := fun m blk0 h => by
      rcases hg' m blk0 h with ⟨rfl, _⟩ | ⟨_, h⟩
      · exact ⟨blk, hb⟩
      · exact ⟨blk0, h⟩
    obtain ⟨x1, h1'⟩ := this m blk0 h1
    obtain ⟨x2, h2'⟩ := this m' blk1 h2
    exact hr.hp.inj m m' x1 x2 b0 base0 base1 h1' h2' h3 h4
  · rcases hg' m blk0 h with ⟨rfl, _⟩ | ⟨_, h⟩
    · exact hr.lab m blk hb
    · exact hr.lab m blk0 h
  · rcases hg' m blk0 h with ⟨rfl, _⟩ | ⟨_, h⟩
    · exact .inl ⟨m, blk, base0, hb, h1⟩
    · exact .inl ⟨m, blk0, base0, h, h1⟩
  · rcases hg' m blk0 h with ⟨rfl, rfl⟩ | ⟨_, h⟩
    · exact ⟨blk, hb, rfl, hlen, fun b' base' _ e n hs => hsh b' e n hs⟩
    · exact ⟨blk0, h, rfl, rfl, fun b' base' _ e n hs => hsh b' e n hs⟩

theorem op_store (hr : Rel Γ N S β st a w) {o : Oper} {x y : Opd} {x' y' : Operand} {t : TypeId} {n : Nat} (ho : o.op = .store t x' y') (hx : chkOpd x x' = true) (hy : chkOpd y y' = true) (hc : (P.info? t).map (·.size) = some n)
    {ov : Option F} (h : evalOp st (.store n x y) = some (ov, st')) : OpPost Γ N S β st a w ((execOp a.eval o).run P w) ov st' := by
  simp only [evalOp] at h
  split at h
  case h_2 => simp at h
  rename_i l off v hvx hvy
  split at h
  case h_2 => simp at h
  rename_i blk hb
  split at h
  case isFalse => simp at h
  rename_i hcond
  simp at h; obtain ⟨rfl, rfl⟩ := h
  obtain ⟨hn, hone, hoff⟩ := hcond
  obtain ⟨blk', b, base, hb', hβ, he⟩ := (hr.val hx hvx).inv_ref
  rw [hb] at hb'; simp at hb'; subst hb'
  obtain ⟨hSb, c, e, fr, hcb, hfr, hlen, hcells⟩ := hr.blkRel hb hβ
  have hrelv := hr.val hy hvy
  obtain ⟨e1, e2⟩ := cells_rel hrelv
  obtain ⟨i, hi, hisz⟩ : ∃ i, P.info? t = some i ∧ i.size = n := by
    cases hh : P.info? t with
    | none => simp [hh] at hc
    | some i => simp [hh] at hc; exact ⟨i, rfl, hc⟩
  have hcell : ∀ j, j < (a.eval y').cells.toList.length → (w.cell? ⟨b, base + off + 0 + j, none⟩).isSome = true := fun j hj => by
    simp at hj
    simp [World.cell?, hcb, show base + off + j < c.size by omega]
  have hfrz : ∀ j, j < (a.eval y').cells.toList.length → w.frozen? ⟨b, base + off + 0 + j, none⟩ = false := fun j hj => by
    simp at hj
    have := hfr (base + off + j) (by omega)
    simp [World.frozen?, hcb]
    intro h1
    simp at this
    have := this h1
    omega
  have hones : ∀ u ∈ (a.eval y').cells.toList, u.oneCell' = true := fun u hu => by
    obtain ⟨j, hj, rfl⟩ := List.mem_iff_getElem.1 hu
    simp at hj
    have hj' : j < v.cells.length := by omega
    refine one_rel (e2 j v.cells[j] _ (by simp [hj']) (by simp [hj])) ?_
    exact List.all_eq_true.1 hone _ (by simp)
  have hst := run_storeCells_cells (P := P) b (base + off) (a.eval y').cells.toList 0 w hcell hfrz hones
  obtain ⟨c', g1, g2, g3, g4, g5, g6, g7, g8⟩ := setCells_heap b (a.eval y').cells.toList (base + off) w c e fr hcb (by simp; omega)
  obtain ⟨t1, t2⟩ := turn_rel (w' := w.setCells b (base + off) (a.eval y').cells.toList) (blk' := blk.store off v.cells) hr hb hβ (store_len (by omega)) g6 g7 g8 g5 g4 hcb g1 g2 (fun j q hq => by
    rcases store_cells (us := (a.eval y').cells.toList) (S := S) (w := w) (β := β) (hp := st.hp) (by omega) (by simpa using e1) (fun j y u h1 h2 => e2 j y u h1 (by simpa using h2)) j q hq with ⟨h1, h2, u, hu, hrel⟩ | ⟨h1, h2⟩
    · refine ⟨u, ?_, hrel⟩
      rw [g3, if_pos (by simp; omega), show base + j - (base + off) = j - off by omega]
      exact hu
    · obtain ⟨u, hu, hrel⟩ := hcells j q h2
      refine ⟨u, ?_, hrel⟩
      rw [g3, if_neg (by simp; omega)]
      exact hu)
  refine ⟨.skip, _, S, β, ?_, rfl, t1, t2, rfl⟩
  have hsz : ¬ ((a.eval y').cells.size ≠ n) := by omega
  simp only [Nat.add_zero] at hst
  simp [execOp, ho, he, Instr.storeAt, Instr.sureAddr, storeVar, sizeOf, typeInfo, hi, hisz, hsz, hst]
end
end Go.Vm

/- Appends. -/
set_option linter.unusedSimpArgs false
set_option linter.unusedVariables false
namespace Go.Vm
variable {Γ : GlobP}

section
variable {P : Program} {N : Nat} {S : Nat → Prop} {β : Beta} {st st' st1 : St} {a : Act} {w w' : World}

/-- The appended type: a slice, or a string. -/
def chkSrc (P : Program) (t : TypeId) (str : Bool) : Bool :=
  match P.underlying t with
  | some (.slice _) => !str
  | some .string => str
  | _ => false
def chkApp (P : Program) (t tx : TypeId) (k bytes : Nat) (str : Bool) : Bool :=
  match P.underlying t with
  | some (.slice e) => (match P.info? e with
    | some i => i.size == k && i.bytes == bytes && i.bytes != 0 && (match i.zero with | some z => z.cells.size == k | none => false) && chkSrc P tx str
    | none => false)
  | _ => false

theorem ones_rel {hp : Heap} {xs : List F} {us : List Value} (hu : us.length = xs.length) (hr : ∀ (j : Nat) (y) (u), xs[j]? = some y → us[j]? = some u → RF S w β hp y u) (h1 : xs.all F.one = true) : ∀ u ∈ us, u.oneCell' = true := fun u hm => by
  obtain ⟨j, hj, rfl⟩ := List.mem_iff_getElem.1 hm
  have hj' : j < xs.length := by omega
  exact one_rel (hr j xs[j] _ (by simp [hj']) (by simp [hj])) (List.all_eq_true.1 h1 _ (by simp))

/-- What is appended, in the machine. -/
theorem source_rel (hr : Rel Γ N S β st a w) {k : Nat} {str : Bool} {yv : F} {u : Value} (hu : RF S w β st.hp yv u) {tx : TypeId} (hc : chkSrc P tx str = true) {news : List F} {n : Nat} (h : st.source k str yv = some (news, n)) (hk : 0 < k) (h1 : news.all F.one = true) :
    ∃ us, Src P k tx u n us w ∧ us.length = news.length ∧ ∀ (j : Nat) (y) (u), news[j]? = some y → us[j]? = some u → RF S w β st.hp y u := by
  have hsl : str = false → ∃ e, P.underlying tx = some (.slice e) := fun hs => by
    unfold chkSrc at hc
    split at hc
    · exact ⟨_, by assumption⟩
    · simp [hs] at hc
    · simp at hc
  unfold St.source at h
  split at h
  · rename_i k' cs
    split at h
    · rename_i hcond
      simp at h; obtain ⟨rfl, rfl⟩ := h
      obtain ⟨rfl, _, hs⟩ := hcond
      obtain ⟨e, he⟩ := hsl hs
      obtain ⟨x, len, cap, rfl, hlen, hcap, hd⟩ := hu.inv_i.inv_sl
      have hdiv : cs.length / k' = len := by rw [← hlen]; exact Nat.mul_div_cancel _ hk
      rw [hdiv]
      rcases hd with rfl | ⟨_, h0, b, off, vs, rfl, hS, hl, hcell, hrel⟩
      · have h0 : len = 0 := by
          have : len * k' = 0 := hlen
          rcases Nat.mul_eq_zero.1 this with h | h <;> omega
        subst h0
        cases x with
        | none => exact ⟨[], Src.ofNil w he cap, by simp, fun j y u h => by simp at h⟩
        | some x => exact ⟨[], Src.ofSlice w he x 0 cap [] (by simp) (fun j u h => by simp at h) (fun u h => by simp at h), by simp, fun j y u h => by simp at h⟩
      · have hr' : ∀ (j : Nat) (y) (u), (cs.map F.i)[j]? = some y → vs[j]? = some u → RF S w β st.hp y u := fun j y u hy hu => by
          simp only [List.getElem?_map] at hy
          cases hj : cs[j]? with
          | none => simp [hj] at hy
          | some c => simp [hj] at hy; subst hy; exact .i _ _ (hrel j c u hj hu)
        refine ⟨vs, Src.ofSlice w he _ len cap vs (by omega) (fun j u h => by rw [addr_add]; exact hcell j u h) (ones_rel (by simp [hl]) hr' h1), by simp [hl], hr'⟩
    · simp at h
  · rename_i s
    split at h
    · rename_i hcond
      simp at h; obtain ⟨rfl, rfl⟩ := h
      obtain ⟨rfl, hs⟩ := hcond
      have e1 := hu.inv_i.inv_str
      subst e1
      have he : P.underlying tx = some .string := by
        unfold chkSrc at hc
        split at hc
        · simp [hs] at hc
        · assumption
        · simp at hc
      refine ⟨byteCells s, Src.ofString w he s, by simp [byteCells], fun j y u hy hu => ?_⟩
      simp only [byteCells, List.getElem?_map] at hy hu
      cases hj : s.data.toList[j]? with
      | none => simp [hj] at hy
      | some b => simp [hj] at hy hu; subst hy; subst hu; exact .i _ _ (.int _ _)
    · simp at h
  · split at h
    · simp at h
    · rename_i hs
      simp at h; obtain ⟨rfl, rfl⟩ := h
      obtain ⟨e, he⟩ := hsl (by simpa using hs)
      have : u = .slice none 0 0 := by have := hu.inv_i; cases this; rfl
      subst this
      exact ⟨[], Src.ofNil w he 0, rfl, fun j y u h => by simp at h⟩
  · rename_i l off len k'
    split at h
    · rename_i hcond
      split at h
      · rename_i blk hb
        split at h
        · rename_i hle
          simp at h; obtain ⟨rfl, rfl⟩ := h
          obtain ⟨rfl, hs⟩ := hcond
          obtain ⟨e, he⟩ := hsl hs
          obtain ⟨blk', x, cap, hb', rfl, hk', hlen, hcap, hd⟩ := hu.inv_own
          rw [hb] at hb'; simp at hb'; subst hb'
          rcases hd with ⟨rfl, rfl⟩ | ⟨b, base, m, e', rfl, hβ, hsh, hm⟩
          · refine ⟨[], ?_, by simp, fun j y u h => by simp at h⟩
            cases x with
            | none => exact Src.ofNil w he 0
            | some x => exact Src.ofSlice w he x 0 0 [] (by simp) (fun j u h => by simp at h) (fun u h => by simp at h)
          · obtain ⟨vs, hl, hcell, hrel⟩ := (hr.blkRel hb hβ).2.vals
            obtain ⟨p1, p2⟩ := cells_part hl hrel off (len * k')
            refine ⟨(vs.drop off).take (len * k'), Src.ofSlice w he _ len cap _ ?_ (fun j u hj => ?_) (ones_rel p1 p2 h1), p1, p2⟩
            · have := Blk.len_cells blk
              simp; omega
            · rw [List.getElem?_take] at hj
              split at hj
              · rw [List.getElem?_drop] at hj
                rw [addr_add, Nat.add_assoc]
                exact hcell _ _ hj
              · simp at hj
        · simp at h
      · simp at h
    · simp at h
  · simp at h

theorem ext_len {blk : Blk} {off n : Nat} {xs : List F} (h : off + n ≤ blk.len) : (blk.ext off n xs).len = n + xs.length := by
  unfold Blk.ext
  split
  · rename_i cs is hl
    have := (toIL_at hl).1
    simp [Blk.len] at h ⊢
    omega
  · rename_i blk0 _ _ _
    have := Blk.len_cells blk0
    simp [Blk.len]
    omega
theorem ext_cells {hp : Heap} {blk : Blk} {off n : Nat} {xs : List F} {us : List Value} (h : off + n ≤ blk.len) (hu : us.length = xs.length) (hr : ∀ (j : Nat) (y) (u), xs[j]? = some y → us[j]? = some u → RF S w β hp y u) :
    ∀ (j : Nat) (y), (blk.ext off n xs).cells[j]? = some y → (j < n ∧ blk.cells[off + j]? = some y) ∨ (n ≤ j ∧ j < n + xs.length ∧ ∃ u, us[j - n]? = some u ∧ RF S w β hp y u) := by
  intro j y hy
  unfold Blk.ext at hy
  split at hy
  · rename_i cs is hl
    obtain ⟨e1, e2⟩ := toIL_at hl
    simp only [Blk.cells, List.getElem?_map] at hy
    simp only [Blk.len] at h
    have ht : ((cs.drop off).take n).length = n := by simp; omega
    by_cases hj : j < n
    · rw [List.getElem?_append_left (by omega), List.getElem?_take, if_pos hj, List.getElem?_drop] at hy
      exact .inl ⟨hj, by simpa [Blk.cells, List.getElem?_map] using hy⟩
    · rw [List.getElem?_append_right (by omega), ht] at hy
      cases hi : is[j - n]? with
      | none => simp [hi] at hy
      | some q =>
        simp [hi] at hy; subst hy
        have hlt := (List.getElem?_eq_some_iff.1 hi).1
        have hx : xs[j - n]? = some (xs[j - n]'(by omega)) := by simp [show j - n < xs.length by omega]
        exact .inr ⟨by omega, by omega, us[j - n]'(by omega), by simp [show j - n < us.length by omega], .i _ _ (toI_rel (hr _ _ _ hx (by simp [show j - n < us.length by omega])) _ (e2 _ _ _ hx hi))⟩
  · rename_i blk0 _ _ _
    have hy : ((blk0.cells.drop off).take n ++ xs)[j]? = some y := hy
    have hlc := Blk.len_cells blk0
    have ht : ((blk0.cells.drop off).take n).length = n := by simp; omega
    by_cases hj : j < n
    · rw [List.getElem?_append_left (by omega), List.getElem?_take, if_pos hj, List.getElem?_drop] at hy
      exact .inl ⟨hj, hy⟩
    · rw [List.getElem?_append_right (by omega), ht] at hy
      have hlt := (List.getElem?_eq_some_iff.1 hy).1
      exact .inr ⟨by omega, by omega, us[j - n]'(by omega), by simp [show j - n < us.length by omega], hr _ _ _ hy (by simp [show j - n < us.length by omega])⟩

theorem kill_ext (hr : Rel Γ N S β st a w) {l : Nat} (h : st.kill l = some st1) : Ext st.prot S β st.hp w S β st1.hp w := by
  obtain ⟨k1, k2, k3, k4, k5, k6, k7⟩ := kill_rel hr h
  have hg : ∀ m blk, hget st1.hp m = some blk → hget st.hp m = some blk := fun m blk hb => by
    rw [← k3 m (fun e => by subst e; simp [k2] at hb)]; exact hb
  exact ⟨rfl, rfl, rfl, Nat.le_refl _, fun _ _ _ => rfl, fun _ h => h, fun _ h => .inl h, fun b ⟨m, blk, base, hb, hβ⟩ => .inl ⟨m, blk, base, hg m blk hb, hβ⟩, fun m _ blk hb => ⟨blk, hg m blk hb, rfl, rfl, fun _ _ _ _ _ h => h⟩⟩

/-- What a run of an append asks of what comes. -/
structure AppRun (P : Program) (w : World) (t tx e ty : TypeId) (i : TypeInfo) (z x : Value) (n : Nat) (us : List Value) : Prop where
  newsLen : us.length = n * i.size
  empty : n = 0 → ∀ X, (Builtin.append_ #[t, tx] ty #[.slice X 0 0, x]).run P w = .ok (.slice X 0 0) w
  room : ∀ (b off sLen sCap : Nat), sLen + n ≤ sCap → (∀ j, j < us.length → (w.cell? ⟨b, off + sLen * i.size + j, none⟩).isSome = true) → (∀ j, j < us.length → w.frozen? ⟨b, off + sLen * i.size + j, none⟩ = false) →
    (Builtin.append_ #[t, tx] ty #[.slice (some ⟨b, off, none⟩) sLen sCap, x]).run P w = .ok (.slice (some ⟨b, off, none⟩) (sLen + n) sCap) (w.setCells b (off + sLen * i.size) us)
  grow : ∀ (base : Option Addr) (sLen sCap : Nat) (olds : List Value), (Builtin.firstCells i.size sLen (.slice base sLen sCap)).run P w.drew = .ok olds.toArray w.drew → sCap < sLen + n → ((sLen + n : Nat) : Int) ≤ 9223372036854775807 →
    Builtin.nextslicecap (sLen + n) sCap * i.bytes ≤ 281474976710656 → (Builtin.append_ #[t, tx] ty #[.slice base sLen sCap, x]).run P w =
      .ok (.slice (some ⟨w.heap.size, 0, none⟩) (sLen + n) (grownCap w (sLen + n) sCap e))
        (w.drew.alloc (.cells ((olds ++ us).toArray ++ Builtin.zeroCells z.cells (grownCap w (sLen + n) sCap e - (sLen + n))) e))

theorem app_core (hr : Rel Γ N S β st a w) {o : Oper} {x' y' : Operand} {t tx : TypeId} (ho : o.op = .call { callee := .builtin .append, args := #[x', y'], argTypes := #[t, tx] }) {l off len k' : Nat} (hvx : RF S w β st.hp (.own l off len k') (a.eval x'))
    {blk : Blk} {news : List F} {n : Nat} (hb : hget st.hp l = some blk) (hk : 0 < k') (hoff : off + len * k' ≤ blk.len) (hment : (blk.ext off (len * k') news).mentions l = false) {st1 : St} (hkill : st.kill l = some st1) {hint : Option Nat} {l' : Nat} {st2 : St}
    (hcreate : st1.create hint (blk.ext off (len * k') news) = some (l', st2)) {e : TypeId} {i : TypeInfo} {z : Value} (hsz : i.size = k') (hzk : z.cells.size = k') (hby0 : ¬ i.bytes = 0) (hbytes : (len + n) * i.bytes ≤ 140737488355328)
    {us : List Value} (hsr : AppRun P w t tx e o.type i z (a.eval y') n us) (husl : us.length = news.length) (husr : ∀ (j : Nat) (y) (u), news[j]? = some y → us[j]? = some u → RF S w β st.hp y u) :
    OpPost Γ N S β st a w ((execOp a.eval o).run P w) (some (.own l' 0 (len + n) k')) st2 := by
  obtain ⟨blk', X, cap, hb', he, _, hlen, hcap, hd⟩ := hvx.inv_own
  rw [hb] at hb'; simp at hb'; subst hb'
  obtain ⟨k1, k2, k3, k4, k5, k6, k7⟩ := kill_rel hr hkill
  have hext := kill_ext hr hkill
  have hnl : news.length = n * k' := by rw [← husl]; exact (hsr.newsLen.trans (by rw [hsz]))
  have hblen : (blk.ext off (len * k') news).len = (len + n) * k' := by rw [ext_len hoff, hnl, Nat.add_mul]
  -- cells of the new block, related behind the label's going
  have hre : ∀ {y : F} {u : Value}, RF S w β st.hp y u → y.mentions l = false → RF S w β st1.hp y u := fun h hm => h.mono (fun _ h => h) (fun _ _ => rfl) fun m hmm => by
    intro blk0 hb0
    have : m ≠ l := fun e => by subst e; simp [hm] at hmm
    exact ⟨rfl, ⟨blk0, by rw [k3 m this]; exact hb0, Nat.le_refl _⟩, fun _ _ _ _ _ h => h⟩
  -- the old cells
  have holds : ∃ olds : List Value, olds.length = len * k' ∧ (Builtin.firstCells k' len (.slice X len cap)).run P w.drew = .ok olds.toArray w.drew ∧
      ∀ (j : Nat) (y), j < len * k' → blk.cells[off + j]? = some y → ∃ v, olds[j]? = some v ∧ RF S w β st.hp y v := by
    rcases hd with ⟨rfl, rfl⟩ | ⟨b, base, m, e', rfl, hβ, hsh, hm⟩
    · refine ⟨[], by simp, ?_, fun j y hj => by simp at hj⟩
      cases X with
      | none => exact run_firstCells_none _ _ _ _ _
      | some X => exact run_firstCells_some (P := P) w.drew k' 0 X 0 0 [] (by simp) (fun j v h => by simp at h)
    · obtain ⟨vs, hl, hcell, hrel⟩ := (hr.blkRel hb hβ).2.vals
      have hlc := Blk.len_cells blk
      refine ⟨(vs.drop off).take (len * k'), by simp; omega, run_firstCells_some (P := P) w.drew k' len _ len cap _ (by simp; omega) (fun j v hj => ?_), fun j y hj hy => ?_⟩
      · rw [List.getElem?_take] at hj
        split at hj
        · rw [List.getElem?_drop] at hj
          have := hcell _ _ hj
          rw [addr_add, Nat.add_assoc]
          exact this
        · simp at hj
      · have hlt := (List.getElem?_eq_some_iff.1 hy).1
        refine ⟨vs[off + j]'(by omega), ?_, hrel _ _ _ hy (by simp [show off + j < vs.length by omega])⟩
        rw [List.getElem?_take, if_pos hj, List.getElem?_drop]
        simp [show off + j < vs.length by omega]
  obtain ⟨olds, ho1, ho2, ho3⟩ := holds
  have hexec : ∀ {v : Value} {w' : World}, (Builtin.append_ #[t, tx] o.type #[.slice X len cap, a.eval y']).run P w = .ok v w' → (execOp a.eval o).run P w = .ok (.value v) w' := fun hrun => by
    simp [execOp, ho, resolve, invoke, builtin, he, hrun]
  by_cases hroom : len + n ≤ cap
  · rcases hd with ⟨rfl, rfl⟩ | ⟨b, base, m, e', rfl, hβ, hsh, hm⟩
    · -- nothing is there, nothing comes
      have hn0 : n = 0 := by omega
      subst hn0
      have hus : us = [] := List.eq_nil_of_length_eq_zero (by rw [(hsr.newsLen.trans (by rw [hsz]))]; simp)
      subst hus
      have hrun : (Builtin.append_ #[t, tx] o.type #[.slice X 0 0, a.eval y']).run P w = .ok (.slice X 0 0) w := by
        exact hsr.empty rfl X
      obtain ⟨h1, h2, h3, h4⟩ := create_rel (w' := w) (x := none) k1 hcreate rfl rfl rfl (Nat.le_refl _) (fun _ _ => rfl) (.inl ⟨rfl, by rw [hblen]; simp⟩)
      refine ⟨.value (.slice X 0 0), w, S, _, hexec hrun, ⟨_, rfl, .own0 l' 0 k' _ X h4 (by omega) hk⟩, h1, hext.trans (k5 ▸ h2), h3.trans k5⟩
    · -- there is room
      obtain ⟨hSb, c, e0, fr, hcb, hfr, hclen, hcells⟩ := hr.blkRel hb hβ
      have hmc : m = c.size := by simp [World.shape?, hcb] at hsh; exact hsh.2.symm
      have hle : (len + n) * k' ≤ cap * k' := Nat.mul_le_mul_right _ hroom
      rw [Nat.add_mul] at hle
      have hul : us.length = n * k' := (hsr.newsLen.trans (by rw [hsz]))
      have hrun := hsr.room b (base + off) len cap hroom
        (fun j hj => by rw [hsz]; simp [World.cell?, hcb, show base + off + len * k' + j < c.size by omega])
        (fun j hj => by
          rw [hsz]
          have := hfr (base + off + len * k' + j) (by omega)
          simp [World.frozen?, hcb]
          intro h1
          simp at this
          have := this h1
          omega)
      rw [hsz] at hrun
      obtain ⟨c', g1, g2, g3, g4, g5, g6, g7, g8⟩ := setCells_heap b us (base + off + len * k') w c e0 fr hcb (by omega)
      obtain ⟨st3, n', q1, q2, q3, q4, q5, q6, rfl, q8, q9⟩ := create_split k1 hcreate
      have hnb : ¬ Own β st3.hp b := fun ⟨m', blk0, base0, hb0, hβ0⟩ => by
        have hml' : m' ≠ l' := fun e => by subst e; simp [q2] at hb0
        rw [q8 m' hml'] at hb0
        have hml : m' ≠ l := fun e => by subst e; simp [k2] at hb0
        rw [k3 m' hml] at hb0
        exact hml (hr.hp.inj m' l blk0 blk b base0 base hb0 hb hβ0 hβ)
      have hrw := world_rel (w' := w.setCells b (base + off + len * k') us) q1 (by omega) (fun b' hb' => g4 b' fun e => by subst e; exact hSb hb') (fun b' hb' => g4 b' fun e => by subst e; exact hnb hb')
      have hS' : ∀ b', S b' → (w.setCells b (base + off + len * k') us).heap[b']? = w.heap[b']? := fun b' hb' => g4 b' fun e => by subst e; exact hSb hb'
      have hre2 : ∀ {y : F} {u : Value}, RF S w β st.hp y u → (blk.ext off (len * k') news).mentions l = false → (∀ m, y.mentions m = true → (blk.ext off (len * k') news).mentions m = true) →
          RF S (w.setCells b (base + off + len * k') us) β st3.hp y u := fun h hm hmm => h.mono (fun _ h => h) hS' fun m hym => by
        intro blk0 hb0
        have hml : m ≠ l := fun e => by subst e; simp [hmm m hym] at hm
        have hb1 : hget st1.hp m = some blk0 := by rw [k3 m hml]; exact hb0
        have hml' : m ≠ l' := q9 m (hmm m hym) ⟨blk0, hb1⟩
        refine ⟨rfl, ⟨blk0, by rw [q8 m hml']; exact hb1, Nat.le_refl _⟩, fun b1 base1 hβ1 e1 n1 hs1 => ?_⟩
        have : b1 ≠ b := fun e => hml (hr.hp.inj m l blk0 blk b1 base1 base hb0 hb hβ1 (by rw [e]; exact hβ))
        simp only [World.shape?] at hs1 ⊢
        rw [g4 b1 this]; exact hs1
      have hfin := insert_rel (x := some (b, base + off)) hrw q2 q3 q4 (.inr ⟨b, base + off, rfl, hSb, hnb, c', e0, fr, g1, fun o ho => hfr o (by omega), by rw [hblen, Nat.add_mul]; omega, fun j y hj => by
        have hmy : ∀ m, y.mentions m = true → (blk.ext off (len * k') news).mentions m = true := fun m hm => by
          refine Classical.byContradiction fun hn => ?_
          have := Blk.mentions_at (by simpa using hn) hj
          simp [this] at hm
        rcases ext_cells (S := S) (w := w) (β := β) (hp := st.hp) (us := us) hoff husl husr j y hj with ⟨h1, h2⟩ | ⟨h1, h2, u, hu', hrel⟩
        · obtain ⟨v, hv, hrel⟩ := hcells (off + j) y h2
          refine ⟨v, ?_, hre2 hrel hment hmy⟩
          rw [g3, if_neg (by omega), Nat.add_assoc]
          exact hv
        · refine ⟨u, ?_, hre2 hrel hment hmy⟩
          rw [g3, if_pos (by omega), show base + off + j - (base + off + len * k') = j - len * k' by omega]
          exact hu'⟩)
      refine ⟨.value (.slice (some ⟨b, base + off, none⟩) (len + n) cap), _, S, _, hexec hrun, ⟨_, rfl, ?_⟩, hfin, ?_, q5.trans k5⟩
      · have := RF.ownS (S := S) (w := w.setCells b (base + off + len * k') us) (β := upd β l' (some (b, base + off))) (hp := (l', blk.ext off (len * k') news) :: st3.hp) l' 0 (len + n) k' (blk.ext off (len * k') news) b (base + off) cap c'.size e0 (by simp [hget]) upd_eq (by rw [hblen]; omega) hroom hk (by simp [World.shape?, g1]) (by omega)
        simpa using this
      · refine ⟨g6, g7, g8, by omega, fun b' hb' ho => g4 b' fun e => ho ⟨l, blk, base, hb, by rw [e]; exact hβ⟩, fun _ h => h, fun _ h => .inl h, fun b' ⟨m', blk0, base0, hb0, hβ0⟩ => ?_, fun m' hm' blk0 hb0 => ?_⟩
        · simp only [hget] at hb0
          split at hb0
          · rename_i e; subst e
            rw [upd_eq] at hβ0; simp at hβ0; obtain ⟨rfl, rfl⟩ := hβ0
            exact .inl ⟨l, blk, base, hb, hβ⟩
          · rename_i e
            rw [upd_ne (fun e' => e e'.symm)] at hβ0
            have hml' : m' ≠ l' := fun e' => e e'.symm
            rw [q8 m' hml'] at hb0
            have hml : m' ≠ l := fun e => by subst e; simp [k2] at hb0
            rw [k3 m' hml] at hb0
            exact .inl ⟨m', blk0, base0, hb0, hβ0⟩
        · have hml' : m' ≠ l' := fun e => by subst e; rw [k5] at q6; exact q6 hm'
          simp only [hget] at hb0
          rw [if_neg (fun e => hml' e.symm), q8 m' hml'] at hb0
          have hml : m' ≠ l := fun e => by subst e; simp [k2] at hb0
          rw [k3 m' hml] at hb0
          refine ⟨blk0, hb0, upd_ne hml', rfl, fun b1 base1 hβ1 e1 n1 hs1 => ?_⟩
          have : b1 ≠ b := fun e => hml (hr.hp.inj m' l blk0 blk b1 base1 base hb0 hb hβ1 (by rw [e]; exact hβ))
          simp only [World.shape?] at hs1 ⊢
          rw [g4 b1 this]; exact hs1
  · -- a new row
    have hgrow : cap < len + n := by omega
    have hle : len + n ≤ (len + n) * i.bytes := Nat.le_mul_of_pos_right _ (by omega)
    have hrun := hsr.grow X len cap olds (hsz ▸ ho2) hgrow (by omega) (growslice_fits hgrow hbytes)
    have hcg := grownCap_ge w (len + n) cap e
    have hul : us.length = n * k' := (hsr.newsLen.trans (by rw [hsz]))
    have hcsz : ((olds ++ us).toArray ++ Builtin.zeroCells z.cells (grownCap w (len + n) cap e - (len + n))).size = (len + n) * k' + (grownCap w (len + n) cap e - (len + n)) * z.cells.size := by
      simp [size_zeroCells, ho1, hul, Nat.add_mul]
    obtain ⟨h1, h2, h3, h4, h5⟩ := create_new (w' := w.drew.alloc (.cells ((olds ++ us).toArray ++ Builtin.zeroCells z.cells (grownCap w (len + n) cap e - (len + n))) e)) k1 hcreate rfl rfl rfl rfl (by simp)
      (by rw [hblen, hcsz]; omega) (fun j y hj => by
        have hmy : y.mentions l = false := Blk.mentions_at hment hj
        rcases ext_cells (S := S) (w := w) (β := β) (hp := st.hp) (us := us) hoff husl husr j y hj with ⟨g1, g2⟩ | ⟨g1, g2, u, hu', hrel⟩
        · obtain ⟨v, hv, hrel⟩ := ho3 j y g1 g2
          refine ⟨v, ?_, hre hrel hmy⟩
          rw [Array.getElem?_append_left (by simp [ho1]; omega)]
          simp only [List.getElem?_toArray]
          rw [List.getElem?_append_left (by omega)]
          exact hv
        · refine ⟨u, ?_, hre hrel hmy⟩
          rw [Array.getElem?_append_left (by simp [ho1]; omega)]
          simp only [List.getElem?_toArray]
          rw [List.getElem?_append_right (by omega), ho1]
          exact hu')
    rw [hzk] at hcsz
    have hcap2 : (len + n) * k' + (grownCap w (len + n) cap e - (len + n)) * k' = grownCap w (len + n) cap e * k' := by rw [← Nat.add_mul]; congr 1; omega
    refine ⟨.value (.slice (some ⟨w.heap.size, 0, none⟩) (len + n) (grownCap w (len + n) cap e)), _, S, _, hexec hrun, ⟨_, rfl, ?_⟩, h1, hext.trans (k5 ▸ h2), h3.trans k5⟩
    have := RF.ownS (S := S) (β := upd β l' (some (w.heap.size, 0))) (hp := st2.hp) l' 0 (len + n) k' _ w.heap.size 0 (grownCap w (len + n) cap e) _ e h4 upd_eq (by rw [hblen]; omega) hcg hk h5 (by rw [hcsz]; omega)
    simpa using this

theorem op_app (hr : Rel Γ N S β st a w) {o : Oper} {x y : Opd} {x' y' : Operand} {t tx : TypeId} {k bytes : Nat} {str : Bool} {hint : Option Nat} (ho : o.op = .call { callee := .builtin .append, args := #[x', y'], argTypes := #[t, tx] })
    (hx : chkOpd x x' = true) (hy : chkOpd y y' = true) (hc : chkApp P t tx k bytes str = true)
    {ov : Option F} (h : evalOp st (.app k bytes str x y hint) = some (ov, st')) : OpPost Γ N S β st a w ((execOp a.eval o).run P w) ov st' := by
  simp only [evalOp] at h
  split at h
  case h_2 => simp at h
  rename_i l off len k' yv hvx hvy
  split at h
  case h_2 => simp at h
  rename_i blk news n hb hsrc
  split at h
  case isFalse => simp at h
  rename_i hcond
  obtain ⟨rfl, hk, hoff, hbytes, hone, hment⟩ := hcond
  split at h
  case h_2 => simp at h
  rename_i st1 hkill
  split at h
  case h_2 => simp at h
  rename_i l' st2 hcreate
  simp at h; obtain ⟨rfl, rfl⟩ := h
  unfold chkApp at hc
  split at hc
  case h_2 => simp at hc
  rename_i e hu
  split at hc
  case h_2 => simp at hc
  rename_i i hi
  simp only [Bool.and_eq_true, beq_iff_eq, bne_iff_ne, ne_eq] at hc
  obtain ⟨⟨⟨⟨hsz, hby⟩, hby0⟩, hzero⟩, hcs⟩ := hc
  split at hzero
  case h_2 => simp at hzero
  rename_i z hz
  have hzk : z.cells.size = k' := by simpa using hzero
  obtain ⟨us, hsr, husl, husr⟩ := source_rel (P := P) (tx := tx) hr (hr.val hy hvy) hcs hsrc hk hone
  have hap : AppRun P w t tx e o.type i z (a.eval y') n us := by
    subst hsz
    refine ⟨hsr.newsLen, fun hn X => ?_, fun b off sLen sCap h1 h2 h3 => run_append_room_src (P := P) w t tx o.type e i hu hi b off sLen sCap (a.eval y') n us hsr h1 h2 h3, fun base sLen sCap olds h1 h2 h3 h4 => run_append_grow_src (P := P) w t tx o.type e i z hu hi hz base sLen sCap olds h1 (a.eval y') n us hsr h2 h3 h4⟩
    subst hn
    have hus : us = [] := List.eq_nil_of_length_eq_zero (by rw [hsr.newsLen]; simp)
    subst hus
    have h1 := hsr.len w
    have h2 := hsr.cells
    rcases hsr.kind with ⟨e', hk⟩ | hk <;> cases X <;> simp [Builtin.append_, run_underlying hu, run_underlying hk, sizeOf, typeInfo, hi, h1, h2, storeCells]
  exact app_core hr ho (hr.val hx hvx) hb hk hoff hment hkill hcreate hsz hzk hby0 (hby ▸ hbytes) hap husl husr
end
end Go.Vm

/- Views of owned values, freezing. -/
set_option linter.unusedSimpArgs false
set_option linter.unusedVariables false
namespace Go.Vm
variable {Γ : GlobP}

theorem snapL_at {h : Heap} {n : Nat} : ∀ {cs : List F} {l : List I}, snapL h n cs = some l → l.length = cs.length ∧ ∀ (j : Nat) (x) (y), cs[j]? = some x → l[j]? = some y → snap h n x = some y
  | [], l, e => by simp [snapL, mapO] at e; subst e; exact ⟨rfl, fun _ _ _ h => by simp at h⟩
  | c :: cs, l, e => by
    simp only [snapL, mapO] at e
    split at e
    · rename_i x0 l0 hx hl
      simp at e; subst e
      obtain ⟨e1, e2⟩ := snapL_at (cs := cs) (n := n) (h := h) hl
      refine ⟨by simp [e1], fun j x y hx' hy => ?_⟩
      cases j with
      | zero => simp at hx' hy; subst hx'; subst hy; exact hx
      | succ j => exact e2 j x y (by simpa using hx') (by simpa using hy)
    · simp at e

section
variable {P : Program} {N : Nat} {S : Nat → Prop} {β : Beta} {st st' st1 : St} {a : Act} {w w' : World}

/-- The immutable view reads in the owned blocks too. -/
theorem snap_rel' {hp hq : Heap} (hh : HpRel Γ S w β hp) (hsub : ∀ l blk, hget hq l = some blk → hget hp l = some blk) : ∀ (n : Nat) (x : F) (y : I) (v : Value), snap hq n x = some y → RF S w β hp x v → RI (fun b => S b ∨ Own β hq b) w y v := by
  have up : ∀ {y : I} {v : Value}, RI S w y v → RI (fun b => S b ∨ Own β hq b) w y v := fun h => h.mono (fun _ h => .inl h) (fun _ _ => rfl)
  intro n
  induction n with
  | zero =>
    intro x y v hs hr
    cases x with
    | i x => simp [snap] at hs; subst hs; exact up hr.inv_i
    | own => simp [snap] at hs
    | ref => simp [snap] at hs
    | agg => simp [snap] at hs
    | tup => simp [snap] at hs
    | fn => simp [snap] at hs
  | succ n ih =>
    intro x y v hs hr
    have list : ∀ {cs : List F} {l : List I} {vs : List Value}, snapL hq n cs = some l → vs.length = cs.length → (∀ (j : Nat) (x) (v), cs[j]? = some x → vs[j]? = some v → RF S w β hp x v) →
        vs.length = l.length ∧ ∀ (j : Nat) (y) (v), l[j]? = some y → vs[j]? = some v → RI (fun b => S b ∨ Own β hq b) w y v := fun {cs l vs} hl hv h => by
      obtain ⟨e1, e2⟩ := snapL_at hl
      refine ⟨by omega, fun j y v hy hj => ?_⟩
      have hlt := (List.getElem?_eq_some_iff.1 hy).1
      have hc : cs[j]? = some (cs[j]'(by omega)) := by simp [show j < cs.length by omega]
      exact ih _ _ _ (e2 j _ _ hc hy) (h j _ _ hc hj)
    -- the cells of an owned slice
    have slice : ∀ {l off len k : Nat} {blk : Blk} {v : Value} {cs : List F} {l' : List I}, hget hq l = some blk → off + len * k ≤ blk.len → RF S w β hp (.own l off len k) v → cs = (blk.cells.drop off).take (len * k) →
        (∀ {vs : List Value}, vs.length = cs.length → (∀ (j : Nat) (x) (v), cs[j]? = some x → vs[j]? = some v → RF S w β hp x v) → vs.length = l'.length ∧ ∀ (j : Nat) (y) (v), l'[j]? = some y → vs[j]? = some v → RI (fun b => S b ∨ Own β hq b) w y v) →
        RI (fun b => S b ∨ Own β hq b) w (.sl k l') v := fun {l off len k blk v cs l'} hb hle hr hcs hl' => by
      have hlc := Blk.len_cells blk
      have hbp := hsub l blk hb
      obtain ⟨blk', X, cap, hb', rfl, hk, hlen, hcap, hd⟩ := hr.inv_own
      rcases hd with ⟨rfl, rfl⟩ | ⟨b, base, m, e', rfl, hβ, hsh, hm⟩
      · have : l' = [] := by
          have := (hl' (vs := []) (by subst hcs; simp) (fun j x v h h' => by simp at h')).1
          exact List.eq_nil_of_length_eq_zero (by simpa using this.symm)
        subst this
        exact .slE _ _ _
      · rcases Nat.eq_zero_or_pos len with rfl | h0
        · have : l' = [] := by
            have := (hl' (vs := []) (by subst hcs; simp) (fun j x v h h' => by simp at h')).1
            exact List.eq_nil_of_length_eq_zero (by simpa using this.symm)
          subst this
          exact .slE _ _ _
        · have hbr : BlkRel S w β hp blk b base := by
            rcases hh.blk l blk hbp with ⟨h, _⟩ | ⟨b', base', h, _, h2⟩
            · rw [hβ] at h; simp at h
            · rw [hβ] at h; simp at h; obtain ⟨rfl, rfl⟩ := h; exact h2
          obtain ⟨vs, hl, hcell, hrel⟩ := hbr.vals
          obtain ⟨p1, p2⟩ := cells_part hl hrel off (len * k)
          rw [← hcs] at p1 p2
          obtain ⟨q1, q2⟩ := hl' p1 p2
          have hcl : cs.length = len * k := by subst hcs; simp; omega
          refine .slN k l' b (base + off) len cap _ hk (by omega) hcap h0 (.inr ⟨l, blk, base, hb, hβ⟩) q1 (fun j v hj => ?_) q2
          rw [List.getElem?_take] at hj
          split at hj
          · rw [List.getElem?_drop] at hj
            rw [Nat.add_assoc]
            exact hcell _ _ hj
          · simp at hj
    have flat : ∀ {cs : List I} {vs : List Value}, vs.length = (cs.map F.i).length → (∀ (j : Nat) (x) (v), (cs.map F.i)[j]? = some x → vs[j]? = some v → RF S w β hp x v) →
        vs.length = cs.length ∧ ∀ (j : Nat) (y) (v), cs[j]? = some y → vs[j]? = some v → RI (fun b => S b ∨ Own β hq b) w y v := fun {cs vs} hl h => by
      refine ⟨by simpa using hl, fun j y v hy hv => up (h j (.i y) v (by simp [hy]) hv).inv_i⟩
    cases x with
    | i x => simp [snap] at hs; subst hs; exact up hr.inv_i
    | own l off len k =>
      simp only [snap] at hs
      split at hs
      · rename_i cs hb
        split at hs
        · rename_i hle
          simp at hs; subst hs
          refine slice hb hle hr (cs := ((cs.drop off).take (len * k)).map F.i) (by simp [Blk.cells, List.map_drop, List.map_take]) fun h1 h2 => flat h1 h2
        · simp at hs
      · rename_i cs hb
        split at hs
        · rename_i hle
          split at hs
          · rename_i l' hl'
            simp at hs; subst hs
            exact slice hb hle hr rfl fun h1 h2 => list hl' h1 h2
          · simp at hs
        · simp at hs
      · simp at hs
    | ref l off =>
      obtain ⟨blk, b, base, hb, hβ, rfl⟩ := hr.inv_ref
      have hq0 : ∀ blk0, hget hq l = some blk0 → blk0 = blk := fun blk0 h0 => by
        have := hsub l blk0 h0
        rw [hb] at this; simpa using this.symm
      have hbr : BlkRel S w β hp blk b base := by
        rcases hh.blk l blk hb with ⟨h, _⟩ | ⟨b', base', h, _, h2⟩
        · rw [hβ] at h; simp at h
        · rw [hβ] at h; simp at h; obtain ⟨rfl, rfl⟩ := h; exact h2
      obtain ⟨vs, hl, hcell, hrel⟩ := hbr.vals
      simp only [snap] at hs
      split at hs
      · rename_i cs heq
        have := hq0 _ heq
        subst this
        simp at hs; subst hs
        obtain ⟨q1, q2⟩ := flat hl hrel
        exact .pim _ _ b base vs (.inr ⟨l, _, base, heq, hβ⟩) q1 hcell q2 hbr.isC
      · rename_i cs heq
        have := hq0 _ heq
        subst this
        split at hs
        · rename_i l' hl'
          simp at hs; subst hs
          obtain ⟨q1, q2⟩ := list hl' hl hrel
          exact .pim _ _ b base vs (.inr ⟨l, _, base, heq, hβ⟩) q1 hcell q2 hbr.isC
        · simp at hs
      · simp at hs
    | agg cs =>
      simp only [snap] at hs
      split at hs
      · rename_i l' hl'
        simp at hs; subst hs
        obtain ⟨vs, rfl, hv, h⟩ := hr.inv_agg
        obtain ⟨q1, q2⟩ := list (vs := vs.toList) hl' (by simpa using hv) (fun j x v h1 h2 => h j x v h1 (by simpa using h2))
        exact .agg _ vs (by simpa using q1) fun j x v h1 h2 => q2 j x v h1 (by simpa using h2)
      · simp at hs
    | tup cs =>
      simp only [snap] at hs
      split at hs
      · rename_i l' hl'
        simp at hs; subst hs
        obtain ⟨vs, rfl, hv, h⟩ := hr.inv_tup
        obtain ⟨q1, q2⟩ := list (vs := vs.toList) hl' (by simpa using hv) (fun j x v h1 h2 => h j x v h1 (by simpa using h2))
        exact .tup _ vs (by simpa using q1) fun j x v h1 h2 => q2 j x v h1 (by simpa using h2)
      · simp at hs
    | fn f cs =>
      simp only [snap] at hs
      split at hs
      · rename_i l' hl'
        simp at hs; subst hs
        cases hr with
        | fn _ _ vs hv h =>
        obtain ⟨q1, q2⟩ := list (vs := vs.toList) hl' (by simpa using hv) (fun j x v h1 h2 => h j x v h1 (by simpa using h2))
        exact .fn f _ vs (by simpa using q1) fun j x v h1 h2 => q2 j x v h1 (by simpa using h2)
      · simp at hs

theorem snap_rel {hp : Heap} (hh : HpRel Γ S w β hp) (n : Nat) (x : F) (y : I) (v : Value) (h : snap hp n x = some y) (hr : RF S w β hp x v) : RI (fun b => S b ∨ Own β hp b) w y v :=
  snap_rel' hh (fun _ _ h => h) n x y v h hr

def chkB2s (P : Program) (s d : TypeId) : Bool :=
  match P.underlying s, P.underlying d with
  | some (.slice e), some .string => (match P.underlying e with | some (.int .u8) => true | _ => false)
  | _, _ => false

theorem bytesOf_at : ∀ {cs : List I} {bs : List UInt8}, bytesOf cs = some bs → bs.length = cs.length ∧ ∀ (j : Nat) (b : UInt8), bs[j]? = some b → ∃ n : Int, cs[j]? = some (.int .u8 n) ∧ 0 ≤ n ∧ n < 256 ∧ b = UInt8.ofNat n.toNat
  | [], bs, h => by simp [bytesOf] at h; subst h; exact ⟨rfl, fun _ _ h => by simp at h⟩
  | .int .u8 n :: r, bs, h => by
    simp only [bytesOf] at h
    split at h
    case isFalse => simp at h
    rename_i hn
    split at h
    · rename_i l hl
      simp at h; subst h
      obtain ⟨e1, e2⟩ := bytesOf_at hl
      refine ⟨by simp [e1], fun j b hb => ?_⟩
      cases j with
      | zero => simp at hb; exact ⟨n, by simp, hn.1, hn.2, hb.symm⟩
      | succ j => simpa using e2 j b (by simpa using hb)
    · simp at h

theorem op_b2s (hr : Rel Γ N S β st a w) {o : Oper} {x : Opd} {x' : Operand} {s d : TypeId} (ho : o.op = .convert s d x') (hx : chkOpd x x' = true) (hc : chkB2s P s d = true)
    {ov : Option F} (h : evalOp st (.b2s x) = some (ov, st')) : OpPost Γ N S β st a w ((execOp a.eval o).run P w) ov st' := by
  simp only [evalOp] at h
  split at h
  case h_2 => simp at h
  rename_i v hv
  split at h
  case h_2 => simp at h
  rename_i cs hs
  split at h
  case h_2 => simp at h
  rename_i bs hbs
  simp at h; obtain ⟨rfl, rfl⟩ := h
  unfold chkB2s at hc
  split at hc
  case h_2 => simp at hc
  rename_i e hs' hd'
  split at hc
  case h_2 => simp at hc
  rename_i he
  have hri := snap_rel hr.hp 1 v _ _ hs (hr.val hx hv)
  obtain ⟨X, len, cap, hev, hlen, hcap, hd⟩ := hri.inv_sl
  obtain ⟨b1, b2⟩ := bytesOf_at hbs
  refine OpPost.pure hr (cv := .string ⟨bs.toArray⟩) ?_ (.i _ _ (.str _))
  rcases hd with rfl | ⟨hk, hl0, b, off, vs, rfl, hS, hl, hcell, hrel⟩
  · have : bs = [] := List.eq_nil_of_length_eq_zero (by simpa using b1)
    subst this
    have : len = 0 := by simpa using hlen
    subst this
    cases X with
    | none =>
      have := run_convert_bytes_nil (P := P) w s e hs' he 0 cap d hd'
      simp [execOp, ho, hev, this]
      rfl
    | some X =>
      have := run_convert_bytes_back (P := P) w s d e X cap [] hs' he hd' (fun j hj => by simp at hj)
      simp only [List.length_nil] at this
      simp [execOp, ho, hev, this]
  · have hll : len = bs.length := by omega
    subst hll
    -- bytes are less than 256
    have hcell' : ∀ j (hj : j < bs.length), w.cell? ((⟨b, off, none⟩ : Addr).add j) = some (.int .u8 (bs[j].toNat : Int)) := fun j hj => by
      obtain ⟨n, hn, hn0, hn1, hb⟩ := b2 j bs[j] (by simp [hj])
      have hv' : vs[j]? = some (vs[j]'(by omega)) := by simp [show j < vs.length by omega]
      have := (hrel j _ _ hn hv').inv_int
      rw [addr_add, hcell j _ hv', this, hb]
      have : ((UInt8.ofNat n.toNat).toNat : Int) = n := by
        rw [UInt8.toNat_ofNat']
        omega
      rw [this]
    have := run_convert_bytes_back (P := P) w s d e ⟨b, off, none⟩ cap bs hs' he hd' hcell'
    simp [execOp, ho, hev, this]
end
end Go.Vm

/- Freezing, and nil slices taken as one's own. -/
set_option linter.unusedSimpArgs false
set_option linter.unusedVariables false
namespace Go.Vm
variable {Γ : GlobP}

section
variable {P : Program} {N : Nat} {S : Nat → Prop} {β : Beta} {st st' st1 : St} {a : Act} {w w' : World}

theorem substL_at {l : Nat} {cs : List I} : ∀ {xs ys : List F}, substL l cs xs = some ys → ys.length = xs.length ∧ ∀ (j : Nat) (x) (y), xs[j]? = some x → ys[j]? = some y → x.subst l cs = some y
  | [], ys, e => by simp [substL] at e; subst e; exact ⟨rfl, fun _ _ _ h => by simp at h⟩
  | x :: xs, ys, e => by
    simp only [substL] at e
    split at e
    · rename_i y0 ys0 hx hl
      simp at e; subst e
      obtain ⟨e1, e2⟩ := substL_at hl
      refine ⟨by simp [e1], fun j x y hx' hy => ?_⟩
      cases j with
      | zero => simp at hx' hy; subst hx'; subst hy; exact hx
      | succ j => exact e2 j x y (by simpa using hx') (by simpa using hy)
    · simp at e

/-- The relation behind a freeze. -/
theorem subst_rel {hp hp' : Heap} {l : Nat} {cs : List I} (hl : hget hp l = some (.flat cs)) (hh : HpRel Γ S w β hp) (hk : ∀ m, m ≠ l → ∀ blk, hget hp m = some blk → ∃ blk', hget hp' m = some blk' ∧ blk.len ≤ blk'.len)
    {S' : Nat → Prop} (hS : ∀ b, S b → S' b) (hS' : ∀ b base, β l = some (b, base) → S' b) {x : F} {v : Value} (h : RF S w β hp x v) : ∀ y, x.subst l cs = some y → RF S' w β hp' y v := by
  have hblk : ∀ b base, β l = some (b, base) → BlkRel S w β hp (.flat cs) b base := fun b base hβ => by
    rcases hh.blk l _ hl with ⟨h, _⟩ | ⟨b', base', h, _, h2⟩
    · rw [hβ] at h; simp at h
    · rw [hβ] at h; simp at h; obtain ⟨rfl, rfl⟩ := h; exact h2
  have up : ∀ {y : I} {v : Value}, RI S w y v → RI S' w y v := fun h => h.mono hS (fun _ _ => rfl)
  have keeps : ∀ m, m ≠ l → Keeps w w β β hp hp' m := fun m hm blk hb => ⟨rfl, hk m hm blk hb, fun _ _ _ _ _ h => h⟩
  induction h with
  | i x v h => intro y hy; simp [F.subst] at hy; subst hy; exact .i _ _ (up h)
  | own0 m off k blk X hb ho hk0 =>
    intro y hy
    simp only [F.subst] at hy
    split at hy
    · simp at hy
      obtain ⟨_, rfl⟩ := hy
      exact .i _ _ (.slE _ _ _)
    · rename_i hm
      simp at hy; subst hy
      exact (RF.own0 m off k blk X hb ho hk0).mono hS (fun _ _ => rfl) fun m' hm' => keeps m' (by simp [F.mentions] at hm'; omega)
  | ownS m off len k blk b base cap n e hb hβ ho hc hk0 hs hn =>
    intro y hy
    simp only [F.subst] at hy
    split at hy
    · rename_i hm
      subst hm
      split at hy
      · rename_i hle
        simp at hy; subst hy
        rcases Nat.eq_zero_or_pos len with rfl | h0
        · simp; exact .i _ _ (.slE _ _ _)
        · obtain ⟨vs, hl', hcell, hrel⟩ := (hblk b base hβ).vals
          have hrel' : ∀ (j : Nat) (x) (v), cs[j]? = some x → vs[j]? = some v → RI S' w x v := fun j x v hx hj => up (hrel j (.i x) v (by simp [Blk.cells, hx]) hj).inv_i
          obtain ⟨p1, p2⟩ := cells_part (by simpa [Blk.cells] using hl') hrel' off (len * k)
          refine .i _ _ (.slN k _ b (base + off) len cap _ hk0 (by simp; omega) hc h0 (hS' b base hβ) p1 (fun j v hj => ?_) p2)
          rw [List.getElem?_take] at hj
          split at hj
          · rw [List.getElem?_drop] at hj
            rw [Nat.add_assoc]
            exact hcell _ _ hj
          · simp at hj
      · simp at hy
    · rename_i hm
      simp at hy; subst hy
      exact (RF.ownS m off len k blk b base cap n e hb hβ ho hc hk0 hs hn).mono hS (fun _ _ => rfl) fun m' hm' => keeps m' (by simp [F.mentions] at hm'; omega)
  | ref m off blk b base hb hβ =>
    intro y hy
    simp only [F.subst] at hy
    split at hy
    · rename_i hm
      subst hm
      simp at hy; subst hy
      obtain ⟨vs, hl', hcell, hrel⟩ := (hblk b base hβ).vals
      exact .i _ _ (.pim cs off b base vs (hS' b base hβ) (by simpa [Blk.cells] using hl') hcell (fun j x v hx hj => up (hrel j (.i x) v (by simp [Blk.cells, hx]) hj).inv_i) (hblk b base hβ).isC)
    · rename_i hm
      simp at hy; subst hy
      exact (RF.ref m off blk b base hb hβ).mono hS (fun _ _ => rfl) fun m' hm' => keeps m' (by simp [F.mentions] at hm'; omega)
  | agg xs vs hv h ih =>
    intro y hy
    simp only [F.subst] at hy
    split at hy
    · rename_i ys hys
      simp at hy; subst hy
      obtain ⟨e1, e2⟩ := substL_at hys
      refine mkAgg_rel (by omega) fun j y v hy hj => ?_
      have hlt := (List.getElem?_eq_some_iff.1 hy).1
      have hx : xs[j]? = some (xs[j]'(by omega)) := by simp [show j < xs.length by omega]
      exact ih j _ v hx hj y (e2 j _ y hx hy)
    · simp at hy
  | tup xs vs hv h ih =>
    intro y hy
    simp only [F.subst] at hy
    split at hy
    · rename_i ys hys
      simp at hy; subst hy
      obtain ⟨e1, e2⟩ := substL_at hys
      refine mkTup_rel (by omega) fun j y v hy hj => ?_
      have hlt := (List.getElem?_eq_some_iff.1 hy).1
      have hx : xs[j]? = some (xs[j]'(by omega)) := by simp [show j < xs.length by omega]
      exact ih j _ v hx hj y (e2 j _ y hx hy)
    · simp at hy
  | fn f xs vs hv h ih =>
    intro y hy
    simp only [F.subst] at hy
    split at hy
    · rename_i ys hys
      simp at hy; subst hy
      obtain ⟨e1, e2⟩ := substL_at hys
      refine mkFn_rel (by omega) fun j y v hy hj => ?_
      have hlt := (List.getElem?_eq_some_iff.1 hy).1
      have hx : xs[j]? = some (xs[j]'(by omega)) := by simp [show j < xs.length by omega]
      exact ih j _ v hx hj y (e2 j _ y hx hy)
    · simp at hy

theorem get_substEnv {l : Nat} {cs : List I} : ∀ {e : Env} {t : Nat} {v : F}, get (substEnv l cs e) t = some v → ∃ x, get e t = some x ∧ x.subst l cs = some v
  | [], t, v, h => by simp [substEnv, get] at h
  | (k, u) :: e, t, v, h => by
    simp only [substEnv, get] at h ⊢
    split at h
    · rename_i hk
      rw [if_pos hk]
      cases u with
      | none => simp at h
      | some x => exact ⟨x, rfl, h⟩
    · rename_i hk
      rw [if_neg hk]
      exact get_substEnv h
theorem substH_get {l : Nat} {cs : List I} : ∀ {h h' : Heap}, substH l cs h = some h' → hget h' l = none ∧ (∀ m blk', m ≠ l → hget h' m = some blk' → ∃ blk, hget h m = some blk ∧ ((∃ xs, blk = .flat xs ∧ blk' = .flat xs) ∨ ∃ xs ys, blk = .deep xs ∧ substL l cs xs = some ys ∧ blk' = mkBlk ys)) ∧
    ∀ m blk, m ≠ l → hget h m = some blk → ∃ blk', hget h' m = some blk'
  | [], h', e => by simp [substH] at e; subst e; exact ⟨rfl, fun _ _ _ h => by simp [hget] at h, fun _ _ _ h => by simp [hget] at h⟩
  | (k, v) :: r, h', e => by
    simp only [substH] at e
    split at e
    · rename_i hk
      obtain ⟨e1, e2, e3⟩ := substH_get e
      exact ⟨e1, fun m blk' hm hb => by simpa [hget, show ¬ k = m by omega] using e2 m blk' hm hb, fun m blk hm hb => e3 m blk hm (by simpa [hget, show ¬ k = m by omega] using hb)⟩
    · rename_i hk
      split at e
      · rename_i b' e' hb' he'
        simp at e; subst e
        obtain ⟨e1, e2, e3⟩ := substH_get he'
        refine ⟨by simp [hget, hk, e1], fun m blk' hm hb => ?_, fun m blk hm hb => ?_⟩
        · simp only [hget] at hb ⊢
          split at hb
          · rename_i hkm
            simp at hb; subst hb
            rw [if_pos hkm]
            refine ⟨v, rfl, ?_⟩
            cases v with
            | flat xs => simp at hb'; exact .inl ⟨xs, rfl, hb'.symm⟩
            | deep xs =>
              simp only at hb'
              split at hb'
              · rename_i ys hys
                simp at hb'
                exact .inr ⟨xs, ys, rfl, hys, hb'.symm⟩
              · simp at hb'
          · rename_i hkm
            rw [if_neg hkm]
            exact e2 m blk' hm hb
        · simp only [hget] at hb ⊢
          split
          · exact ⟨_, rfl⟩
          · rename_i hkm
            rw [if_neg hkm] at hb
            exact e3 m blk hm hb
      · simp at e
theorem mkBlk_len (xs : List F) : (mkBlk xs).len = xs.length := by
  unfold mkBlk
  split
  · rename_i l hl; simp [Blk.len, (toIL_at hl).1]
  · rfl

theorem freeze_rel (hr : Rel Γ N S β st a w) {l : Nat} (h : st.freeze l = some st') : ∃ S', Rel Γ N S' β st' a w ∧ Ext st.prot S β st.hp w S' β st'.hp w ∧ st'.prot = st.prot := by
  unfold St.freeze at h
  split at h
  case h_2 => simp at h
  rename_i cs hl
  split at h
  case h_2 => simp at h
  rename_i h' hs
  simp at h; subst h
  obtain ⟨g1, g2, g3⟩ := substH_get hs
  let S' : Nat → Prop := fun b => S b ∨ ∃ base, β l = some (b, base)
  have hS : ∀ b, S b → S' b := fun b h => .inl h
  have hS' : ∀ b base, β l = some (b, base) → S' b := fun b base h => .inr ⟨base, h⟩
  have hlen : ∀ m blk', m ≠ l → hget h' m = some blk' → ∃ blk, hget st.hp m = some blk ∧ blk'.len = blk.len := fun m blk' hm hb => by
    obtain ⟨blk, h1, h2⟩ := g2 m blk' hm hb
    refine ⟨blk, h1, ?_⟩
    rcases h2 with ⟨xs, rfl, rfl⟩ | ⟨xs, ys, rfl, h3, rfl⟩
    · rfl
    · rw [mkBlk_len]; exact (substL_at h3).1
  have hk : ∀ m, m ≠ l → ∀ blk, hget st.hp m = some blk → ∃ blk', hget h' m = some blk' ∧ blk.len ≤ blk'.len := fun m hm blk hb => by
    obtain ⟨blk', h1⟩ := g3 m blk hm hb
    obtain ⟨blk0, h2, h3⟩ := hlen m blk' hm h1
    rw [hb] at h2; simp at h2; subst h2
    exact ⟨blk', h1, by omega⟩
  have hsub : ∀ {x : F} {v : Value} {y : F}, RF S w β st.hp x v → x.subst l cs = some y → RF S' w β h' y v := fun h hy => subst_rel hl hr.hp hk hS hS' h _ hy
  have hne : ∀ m blk', hget h' m = some blk' → m ≠ l := fun m blk' hb e => by subst e; simp [g1] at hb
  refine ⟨S', ⟨hr.size, hr.defers, fun t v hv => ?_, ⟨fun m blk' hb => ?_, fun m m' blk1 blk2 b base base' h1 h2 h3 h4 => ?_, Γ.mono _ _ _ _ hr.hp.glob hS (fun _ _ => rfl)⟩, fun b hb => ?_, fun m blk' hb => ?_, hr.nxt, hr.prot⟩,
    ⟨rfl, rfl, rfl, Nat.le_refl _, fun _ _ _ => rfl, hS, fun b hb => ?_, fun b ⟨m, blk', base, hb, hβ⟩ => ?_, fun m hm blk' hb => ?_⟩, rfl⟩
  · obtain ⟨x, hx, hy⟩ := get_substEnv hv
    obtain ⟨h1, h2⟩ := hr.env t x hx
    exact ⟨h1, hsub h2 hy⟩
  · have hm := hne m blk' hb
    obtain ⟨blk, h1, h2⟩ := g2 m blk' hm hb
    obtain ⟨blk0, e1, e2⟩ := hlen m blk' hm hb
    rw [h1] at e1; simp at e1; subst e1
    rcases hr.hp.blk m blk h1 with ⟨q1, q2⟩ | ⟨b, base, q1, q2, c, e, fr, q3, q4, q5, q6⟩
    · exact .inl ⟨q1, by omega⟩
    · refine .inr ⟨b, base, q1, fun hb' => ?_, c, e, fr, q3, q4, by omega, fun j y hy => ?_⟩
      · rcases hb' with hb' | ⟨base', hb'⟩
        · exact q2 hb'
        · exact hm (hr.hp.inj m l blk _ b base base' h1 hl q1 hb')
      · rcases h2 with ⟨xs, rfl, rfl⟩ | ⟨xs, ys, rfl, h3, rfl⟩
        · obtain ⟨v, hv, hrel⟩ := q6 j y hy
          refine ⟨v, hv, ?_⟩
          simp only [Blk.cells, List.getElem?_map] at hy
          cases hj : xs[j]? with
          | none => simp [hj] at hy
          | some q => simp [hj] at hy; subst hy; exact .i _ _ (hrel.inv_i.mono hS (fun _ _ => rfl))
        · obtain ⟨e1, e2⟩ := substL_at h3
          -- the values under the block's cells
          obtain ⟨vs, hvl, hcell, hrel⟩ := (show BlkRel S w β st.hp (.deep xs) b base from ⟨c, e, fr, q3, q4, q5, q6⟩).vals
          simp only [Blk.cells] at hvl hrel
          obtain ⟨m1, m2⟩ := mkBlk_rel (S := S') (w := w) (β := β) (hp := h') (cs := ys) (vs := vs.toArray) ⟨by simp; omega, fun j y u hy hu => by
            have hlt := (List.getElem?_eq_some_iff.1 hy).1
            have hx : xs[j]? = some (xs[j]'(by omega)) := by simp [show j < xs.length by omega]
            exact hsub (hrel j _ u hx (by simpa using hu)) (e2 j _ y hx hy)⟩
          obtain ⟨v, hv, hr'⟩ := m2 j y hy
          refine ⟨v, ?_, hr'⟩
          have := hcell j v (by simpa using hv)
          simpa [World.cell?, q3] using this
  · have e1 := hne m blk1 h1
    have e2 := hne m' blk2 h2
    obtain ⟨x1, f1, _⟩ := hlen m blk1 e1 h1
    obtain ⟨x2, f2, _⟩ := hlen m' blk2 e2 h2
    exact hr.hp.inj m m' x1 x2 b base base' f1 f2 h3 h4
  · rcases hb with hb | ⟨base, hb⟩
    · exact hr.bound b hb
    · obtain ⟨_, c, e, fr, hc, _⟩ := hr.blkRel hl hb
      exact (Array.getElem?_eq_some_iff.1 hc).1
  · obtain ⟨blk, h1, _⟩ := hlen m blk' (hne m blk' hb) hb
    exact hr.lab m blk h1
  · rcases hb with hb | ⟨base, hb⟩
    · exact .inl hb
    · exact .inr (.inl ⟨l, _, base, hl, hb⟩)
  · obtain ⟨blk, h1, _⟩ := hlen m blk' (hne m blk' hb) hb
    exact .inl ⟨m, blk, base, h1, hβ⟩
  · obtain ⟨blk, h1, h2⟩ := hlen m blk' (hne m blk' hb) hb
    exact ⟨blk, h1, rfl, h2, fun _ _ _ _ _ h => h⟩
end
end Go.Vm

/- Calls: what is handed over. -/
set_option linter.unusedSimpArgs false
set_option linter.unusedVariables false
namespace Go.Vm
variable {Γ : GlobP}

section
variable {P : Program} {N : Nat} {S : Nat → Prop} {β : Beta} {st st' st1 : St} {a : Act} {w w' : World}

theorem nn_rel {x : I} {v : Value} (h : RI S w x v) : RI S w x.nn v := by
  cases h with
  | nils k => exact .slE k none 0
  | agg cs vs hv h =>
    refine .agg _ vs (by simpa using hv) fun j x v hx hj => ?_
    simp only [List.getElem?_map] at hx
    cases hc : cs[j]? with
    | none => simp [hc] at hx
    | some c =>
      simp [hc] at hx
      have := h j c v hc hj
      split at hx
      · subst hx; cases this; exact .slE _ none 0
      · subst hx; exact this
  | bool b => exact .bool b
  | int k n => exact .int k n
  | str s => exact .str s
  | slE k a cap => exact .slE k a cap
  | slN k cs b off len cap vs h1 h2 h3 h4 h5 h6 h7 h8 => exact .slN k cs b off len cap vs h1 h2 h3 h4 h5 h6 h7 h8
  | tup cs vs hv h => exact .tup cs vs hv h
  | fn f cs vs hv h => exact .fn f cs vs hv h
  | nilfn => exact .nilfn
  | pim cs off b base vs h1 h2 h3 h4 h5 => exact .pim cs off b base vs h1 h2 h3 h4 h5
  | nilp => exact .nilp
  | ifc t x v h => exact .ifc t x v h
  | nilifc => exact .nilifc
  | junk v h1 => exact .junk v h1

theorem plainL_at : ∀ {cs : List I}, plainL cs = true → ∀ (j : Nat) (x : I), cs[j]? = some x → x.plain = true
  | [], _, j, x, h => by simp at h
  | c :: cs, hp, j, x, h => by
    simp only [plainL, Bool.and_eq_true] at hp
    cases j with
    | zero => simp at h; exact h ▸ hp.1
    | succ j => exact plainL_at hp.2 j x (by simpa using h)
theorem plain_rel {S' : Nat → Prop} {x : I} {v : Value} (h : RI S w x v) : x.plain = true → RI S' w' x v := by
  induction h with
  | bool b => intro _; exact .bool b
  | int k n => intro _; exact .int k n
  | str s => intro _; exact .str s
  | slE k a cap => intro hp; simp [I.plain] at hp
  | slN k cs b off len cap vs hk hl hc h0 hb hv hcl h ih => intro hp; simp [I.plain] at hp
  | agg cs vs hv h ih => intro hp; exact .agg cs vs hv fun j x v hx hj => ih j x v hx hj (plainL_at (by simpa [I.plain] using hp) j x hx)
  | tup cs vs hv h ih => intro hp; exact .tup cs vs hv fun j x v hx hj => ih j x v hx hj (plainL_at (by simpa [I.plain] using hp) j x hx)
  | fn f cs vs hv h ih => intro hp; simp [I.plain] at hp
  | nilfn => intro _; exact .nilfn
  | pim cs off b base vs hb hv hcl h hc ih => intro hp; simp [I.plain] at hp
  | nilp => intro _; exact .nilp
  | nils k => intro _; exact .nils k
  | ifc t x v h ih => intro hp; exact .ifc t x v (ih (by simpa [I.plain] using hp))
  | nilifc => intro _; exact .nilifc
  | junk v h1 => intro _; exact .junk v h1

/-! What a call is proved to do. -/
def CallPost (Γ : GlobP) (S : Nat → Prop) (β : Beta) (h : Heap) (w : World) (x : Nat) (r : F) (h' : Heap) (x' : Nat) (e : Ending) (w' : World) : Prop :=
  ∃ v S' β', e = .returned v ∧ RF S' w' β' h' r v ∧ HpRel Γ S' w' β' h' ∧ (∀ b, S' b → b < w'.heap.size) ∧ (∀ l blk, hget h' l = some blk → l < x') ∧ 1000 ≤ x' ∧ x ≤ x' ∧ Ext (h.map (·.1)) S β h w S' β' h' w'
def SoundCall (Γ : GlobP) (P : Program) (C : CallSem) : Prop :=
  ∀ f args h x r h' x', C f args (h, x) = some (r, (h', x')) → ∀ (w : World) (S : Nat → Prop) (β : Beta) (cargs : Array Value), Rels S w β h args cargs → HpRel Γ S w β h → (∀ b, S b → b < w.heap.size) →
    (∀ l blk, hget h l = some blk → l < x) → (∀ l, l ∈ h.map (·.1) → l < x) → 1000 ≤ x → Calls P f cargs w (CallPost Γ S β h w x r h' x')

/-! The handed blocks -/
theorem passed_le : ∀ {n : Nat} {vs : List (Bool × F)} {j l : Nat}, backLabel j (passed n vs) = some l → n ≤ j ∧ j < n + vs.length
  | n, [], j, l, h => by simp [passed, backLabel] at h
  | n, (m, v) :: vs, j, l, h => by
    have rec' : backLabel j (passed (n + 1) vs) = some l → n ≤ j ∧ j < n + (vs.length + 1) := fun h => by
      obtain ⟨h1, h2⟩ := passed_le h; omega
    simp only [List.length_cons]
    cases m with
    | false =>
      have : passed n ((false, v) :: vs) = passed (n + 1) vs := by cases v <;> rfl
      rw [this] at h
      exact rec' h
    | true =>
      cases v with
      | own m off len k =>
        simp only [passed, backLabel] at h
        split at h
        · omega
        · exact rec' h
      | ref m off =>
        simp only [passed, backLabel] at h
        split at h
        · omega
        · exact rec' h
      | i x => exact rec' h
      | agg x => exact rec' h
      | tup x => exact rec' h
      | fn x y => exact rec' h
theorem isPassed_of {j l : Nat} : ∀ {back : List (Nat × Nat)}, backLabel j back = some l → isPassed l back = true
  | [], h => by simp [backLabel] at h
  | (a, m) :: r, h => by
    simp only [backLabel] at h
    split at h
    · simp at h; subst h; simp [isPassed]
    · simp [isPassed, isPassed_of h]

structure PassOk (h : Heap) (back : List (Nat × Nat)) (hp : Heap) : Prop where
  fwd : ∀ j blk, hget hp j = some blk → ∃ l cs, backLabel j back = some l ∧ blk = .flat cs ∧ hget h l = some (.flat cs)
  bwd : ∀ j l, backLabel j back = some l → ∃ cs, hget hp j = some (.flat cs) ∧ hget h l = some (.flat cs)
  inj : ∀ j j' l, backLabel j back = some l → backLabel j' back = some l → j = j'
  dom : ∀ j, j ∈ hp.map (·.1) → (∃ l, backLabel j back = some l) ∧ j < 1000

theorem passHp_ok {h : Heap} : ∀ {n : Nat} {vs : List (Bool × F)} {hp : Heap}, passHp h (passed n vs) = some hp → PassOk h (passed n vs) hp
  | n, [], hp, e => by simp [passed, passHp] at e; subst e; exact ⟨fun _ _ h => by simp [hget] at h, fun _ _ h => by simp [passed, backLabel] at h, fun _ _ _ h => by simp [passed, backLabel] at h, fun _ h => by simp at h⟩
  | n, (m, v) :: vs, hp, e => by
    have skip : passed n ((m, v) :: vs) = passed (n + 1) vs → PassOk h (passed n ((m, v) :: vs)) hp := fun h => by
      rw [h] at e ⊢; exact passHp_ok e
    have add : ∀ l, passed n ((m, v) :: vs) = (n, l) :: passed (n + 1) vs → PassOk h (passed n ((m, v) :: vs)) hp := fun l h0 => by
      rw [h0] at e ⊢
      simp only [passHp] at e
      split at e
      · rename_i cs hp' hl hr
        split at e
        · simp at e
        · rename_i hnp
          simp at e; subst e
          obtain ⟨i1, i2, i3, i4⟩ := passHp_ok hr
          simp at hnp
          obtain ⟨hnp, hn1000⟩ := hnp
          have hge : ∀ j l', backLabel j (passed (n + 1) vs) = some l' → j ≠ n := fun j l' hb => by have := passed_le hb; omega
          refine ⟨fun j blk hj => ?_, fun j l' hj => ?_, fun j j' l' h1 h2 => ?_, fun j hj => ?_⟩
          · simp only [hget] at hj
            split at hj
            · rename_i hn; subst hn
              simp at hj; subst hj
              exact ⟨l, cs, by simp [backLabel], rfl, hl⟩
            · rename_i hn
              obtain ⟨l', cs', e1, e2, e3⟩ := i1 j blk hj
              exact ⟨l', cs', by simp [backLabel, hn, e1], e2, e3⟩
          · simp only [backLabel] at hj
            split at hj
            · rename_i hn; subst hn
              simp at hj; subst hj
              exact ⟨cs, by simp [hget], hl⟩
            · rename_i hn
              obtain ⟨cs', e1, e2⟩ := i2 j l' hj
              exact ⟨cs', by simp [hget, hn, e1], e2⟩
          · simp only [backLabel] at h1 h2
            split at h1
            · rename_i hn; subst hn
              simp at h1; subst h1
              split at h2
              · assumption
              · exact absurd (isPassed_of h2) (by simp [hnp])
            · split at h2
              · simp at h2; subst h2
                exact absurd (isPassed_of h1) (by simp [hnp])
              · exact i3 j j' l' h1 h2
          · simp at hj
            rcases hj with rfl | ⟨b, hj⟩
            · exact ⟨⟨l, by simp [backLabel]⟩, hn1000⟩
            · obtain ⟨⟨l', hl'⟩, hlt⟩ := i4 j (by simp; exact ⟨b, hj⟩)
              exact ⟨⟨l', by simp [backLabel, show ¬ n = j from fun e => hge j l' hl' e.symm, hl']⟩, hlt⟩
      · simp at e
    cases m with
    | false => exact skip (by cases v <;> rfl)
    | true =>
      cases v with
      | own l off len k => exact add l rfl
      | ref l off => exact add l rfl
      | i x => exact skip rfl
      | agg x => exact skip rfl
      | tup x => exact skip rfl
      | fn x y => exact skip rfl

theorem hdrop_get {back : List (Nat × Nat)} : ∀ {h : Heap} {l : Nat}, hget (hdrop back h) l = if isPassed l back then none else hget h l
  | [], l => by simp [hdrop, hget]
  | (k, b) :: r, l => by
    simp only [hdrop]
    by_cases hk : isPassed k back = true
    · rw [if_pos hk, hdrop_get]
      by_cases hl : isPassed l back = true
      · simp [hl]
      · have : ¬ k = l := fun e => hl (e ▸ hk)
        simp [hl, hget, this]
    · rw [if_neg hk]
      simp only [hget]
      by_cases e : k = l
      · subst e; simp [hk]
      · rw [if_neg e, if_neg e, hdrop_get]

/-- What the callee may not see change. -/
def SC (S : Nat → Prop) (β : Beta) (hR : Heap) (borrowed : Bool) (b : Nat) : Prop := S b ∨ (borrowed = true ∧ Own β hR b)
def BC (β : Beta) (back : List (Nat × Nat)) (j : Nat) : Option (Nat × Nat) := (backLabel j back).bind β

theorem passArgs_ok (hr : HpRel Γ S w β st.hp) {back : List (Nat × Nat)} {hp : Heap} (hP : PassOk st.hp back hp) : ∀ {n : Nat} {vs : List (Bool × F)} {as : List F} {bo : Bool} {cv : List Value},
    passArgs (hdrop back st.hp) n vs = some (as, bo) → (∀ j l, backLabel j (passed n vs) = some l → backLabel j back = some l) → cv.length = vs.length → (∀ (j : Nat) (x) (v), vs[j]? = some x → cv[j]? = some v → RF S w β st.hp x.2 v) →
    as.length = vs.length ∧ ∀ (j : Nat) (x) (v), as[j]? = some x → cv[j]? = some v → RF (SC S β (hdrop back st.hp) bo) w (BC β back) hp x v
  | n, [], as, bo, cv, e, _, _, _ => by simp [passArgs] at e; obtain ⟨rfl, rfl⟩ := e; exact ⟨rfl, fun _ _ _ h => by simp at h⟩
  | n, (m, v) :: vs, as, bo, [], e, _, hl, _ => by simp at hl
  | n, (m, v) :: vs, as, bo, u :: cv, e, hb, hl, hrel => by
    have hu : RF S w β st.hp v u := hrel 0 (m, v) u rfl rfl
    have hsub : ∀ l blk, hget (hdrop back st.hp) l = some blk → hget st.hp l = some blk := fun l blk h => by
      rw [hdrop_get] at h
      split at h
      · simp at h
      · exact h
    -- one argument more
    have step : ∀ {y : F} {as' : List F} {bo' bo : Bool}, passArgs (hdrop back st.hp) (n + 1) vs = some (as', bo') → (bo' = true → bo = true) → RF (SC S β (hdrop back st.hp) bo) w (BC β back) hp y u →
        (y :: as').length = ((m, v) :: vs).length ∧ ∀ (j : Nat) (x) (v), (y :: as')[j]? = some x → (u :: cv)[j]? = some v → RF (SC S β (hdrop back st.hp) bo) w (BC β back) hp x v := fun {y as' bo' bo} h1 hbo h2 => by
      obtain ⟨e1, e2⟩ := passArgs_ok hr hP h1 (fun j l hj => hb j l (by
          cases m with
          | false => have : passed n ((false, v) :: vs) = passed (n + 1) vs := by cases v <;> rfl
                     rw [this]; exact hj
          | true =>
            have := passed_le hj
            cases v <;> simp only [passed, backLabel] <;> first | exact hj | (rw [if_neg (by omega)]; exact hj))) (by simpa using hl) (fun j x v h3 h4 => hrel (j + 1) x v (by simpa using h3) (by simpa using h4))
      refine ⟨by simp [e1], fun j x v h3 h4 => ?_⟩
      cases j with
      | zero => simp at h3 h4; subst h3; subst h4; exact h2
      | succ j =>
        refine (e2 j x v (by simpa using h3) (by simpa using h4)).mono (fun b hb => ?_) (fun _ _ => rfl) (fun l _ blk hb => ⟨rfl, ⟨blk, hb, Nat.le_refl _⟩, fun _ _ _ _ _ h => h⟩)
        rcases hb with hb | ⟨hb1, hb2⟩
        · exact .inl hb
        · exact .inr ⟨hbo hb1, hb2⟩
    have viewed : ∀ {x : I} {as' : List F} {bo' : Bool}, snap (hdrop back st.hp) 3 v = some x → passArgs (hdrop back st.hp) (n + 1) vs = some (as', bo') → as = .i x :: as' → bo = true → as.length = ((m, v) :: vs).length ∧ ∀ (j : Nat) (x) (v), as[j]? = some x → (u :: cv)[j]? = some v → RF (SC S β (hdrop back st.hp) bo) w (BC β back) hp x v := fun {x as' bo'} h1 h2 h3 h4 => by
      subst h3; subst h4
      refine step h2 (fun _ => rfl) (.i _ _ ((snap_rel' hr hsub 3 v x u h1 hu).mono (fun b hb => ?_) (fun _ _ => rfl)))
      rcases hb with hb | hb
      · exact .inl hb
      · exact .inr ⟨rfl, hb⟩
    have handed : ∀ {l off len k : Nat}, v = .own l off len k → backLabel n back = some l → RF (SC S β (hdrop back st.hp) bo) w (BC β back) hp (.own n off len k) u := fun {l off len k} hv hbl => by
      subst hv
      obtain ⟨cs, hc1, hc2⟩ := hP.bwd n l hbl
      have hβ : BC β back n = β l := by simp [BC, hbl]
      obtain ⟨blk, X, cap, hb', rfl, hk, hlen, hcap, hd⟩ := hu.inv_own
      rw [hc2] at hb'; simp at hb'; subst hb'
      rcases hd with ⟨rfl, rfl⟩ | ⟨b, base, m', e', rfl, hβ', hsh, hm⟩
      · exact .own0 n off k _ X hc1 (by omega) hk
      · exact .ownS n off len k _ b base cap m' e' hc1 (by rw [hβ]; exact hβ') hlen hcap hk hsh hm
    cases m with
    | false =>
      cases v with
      | i x =>
        simp only [passArgs] at e
        split at e
        · rename_i l b h1
          simp at e; obtain ⟨rfl, rfl⟩ := e
          exact step h1 (fun h => h) (.i _ _ (hu.inv_i.mono (fun _ h => .inl h) (fun _ _ => rfl)))
        · simp at e
      | own l off len k =>
        simp only [passArgs] at e
        split at e
        · rename_i x l b h1 h2; simp at e; exact viewed h1 h2 e.1.symm e.2
        · simp at e
      | ref l off =>
        simp only [passArgs] at e
        split at e
        · rename_i x l b h1 h2; simp at e; exact viewed h1 h2 e.1.symm e.2
        · simp at e
      | agg cs =>
        simp only [passArgs] at e
        split at e
        · rename_i x l b h1 h2; simp at e; exact viewed h1 h2 e.1.symm e.2
        · simp at e
      | tup cs =>
        simp only [passArgs] at e
        split at e
        · rename_i x l b h1 h2; simp at e; exact viewed h1 h2 e.1.symm e.2
        · simp at e
      | fn f cs =>
        simp only [passArgs] at e
        split at e
        · rename_i x l b h1 h2; simp at e; exact viewed h1 h2 e.1.symm e.2
        · simp at e
    | true =>
      cases v with
      | own l off len k =>
        simp only [passArgs] at e
        split at e
        · rename_i l' b h1
          simp at e; obtain ⟨rfl, rfl⟩ := e
          exact step h1 (fun h => h) (handed rfl (hb n l (by simp [passed, backLabel])))
        · simp at e
      | ref l off =>
        simp only [passArgs] at e
        split at e
        · rename_i l' b h1
          simp at e; obtain ⟨rfl, rfl⟩ := e
          refine step h1 (fun h => h) ?_
          have hbl := hb n l (by simp [passed, backLabel])
          obtain ⟨cs, hc1, hc2⟩ := hP.bwd n l hbl
          obtain ⟨blk, b', base, hb', hβ', rfl⟩ := hu.inv_ref
          exact .ref n off _ b' base hc1 (by simp [BC, hbl, hβ'])
        · simp at e
      | i x => simp [passArgs] at e
      | agg cs => simp [passArgs] at e
      | tup cs => simp [passArgs] at e
      | fn f cs => simp [passArgs] at e

/-- The callee's heap. -/
theorem passHp_rel (hr : HpRel Γ S w β st.hp) {back : List (Nat × Nat)} {hp : Heap} (hP : PassOk st.hp back hp) (bo : Bool) : HpRel Γ (SC S β (hdrop back st.hp) bo) w (BC β back) hp where
  glob := Γ.mono _ _ _ _ hr.glob (fun _ h => .inl h) (fun _ _ => rfl)
  blk := fun j blk hj => by
    obtain ⟨l, cs, h1, rfl, h3⟩ := hP.fwd j blk hj
    have hβ : BC β back j = β l := by simp [BC, h1]
    rcases hr.blk l _ h3 with ⟨g1, g2⟩ | ⟨b, base, g1, g2, c, e, fr, g3, g4, g5, g6⟩
    · exact .inl ⟨by rw [hβ]; exact g1, g2⟩
    · refine .inr ⟨b, base, by rw [hβ]; exact g1, fun hS => ?_, c, e, fr, g3, g4, g5, fun j' y hy => ?_⟩
      · rcases hS with hS | ⟨_, l', blk', base', h4, h5⟩
        · exact g2 hS
        · rw [hdrop_get] at h4
          split at h4
          · simp at h4
          · rename_i hnp
            have : l' = l := hr.inj l' l blk' _ b base' base h4 h3 h5 g1
            subst this
            exact hnp (isPassed_of h1)
      · obtain ⟨v, hv, hrel⟩ := g6 j' y hy
        refine ⟨v, hv, ?_⟩
        simp only [Blk.cells, List.getElem?_map] at hy
        cases hc : cs[j']? with
        | none => simp [hc] at hy
        | some q => simp [hc] at hy; subst hy; exact .i _ _ (hrel.inv_i.mono (fun _ h => .inl h) (fun _ _ => rfl))
  inj := fun j j' blk blk' b base base' h1 h2 h3 h4 => by
    obtain ⟨l, cs, e1, rfl, e3⟩ := hP.fwd j blk h1
    obtain ⟨l', cs', f1, rfl, f3⟩ := hP.fwd j' blk' h2
    simp [BC, e1] at h3
    simp [BC, f1] at h4
    have : l = l' := hr.inj l l' _ _ b base base' e3 f3 h3 h4
    subst this
    exact hP.inj j j' l e1 f1
end
end Go.Vm

/- Calls: what comes back. -/
set_option linter.unusedSimpArgs false
set_option linter.unusedVariables false
namespace Go.Vm
variable {Γ : GlobP}

section
variable {P : Program} {N : Nat} {S : Nat → Prop} {β : Beta} {st st' st1 : St} {a : Act} {w w' : World}

def ShapeRel (w : World) (blk : Blk) (b base : Nat) : Prop :=
  ∃ c e fr, w.heap[b]? = some (.cells c e fr) ∧ (∀ o, o < c.size → ¬ (fr.1 ≤ o ∧ o < fr.2)) ∧ base + blk.len ≤ c.size

/-- The relation, but for the content of some labels' blocks. -/
structure RelX (Γ : GlobP) (K : Nat → Prop) (N : Nat) (S : Nat → Prop) (β : Beta) (st : St) (a : Act) (w : World) : Prop where
  size : a.tmps.size = N
  defers : a.defers = []
  env : ∀ t v, get st.env t = some v → t < N ∧ RF S w β st.hp v (a.tmps.getD t undef)
  blk : ∀ l blk, hget st.hp l = some blk → (β l = none ∧ blk.len = 0) ∨ ∃ b base, β l = some (b, base) ∧ ¬ S b ∧ ShapeRel w blk b base ∧ (K l ∨ BlkRel S w β st.hp blk b base)
  inj : ∀ l l' blk blk' b base base', hget st.hp l = some blk → hget st.hp l' = some blk' → β l = some (b, base) → β l' = some (b, base') → l = l'
  glob : Γ.ok S w
  bound : ∀ b, S b → b < w.heap.size
  lab : ∀ l blk, hget st.hp l = some blk → l < st.nxt
  nxt : 1000 ≤ st.nxt
  prot : ∀ l, l ∈ st.prot → l < st.nxt

theorem Rel.toX (hr : Rel Γ N S β st a w) : RelX Γ (fun _ => False) N S β st a w where
  size := hr.size
  defers := hr.defers
  env := hr.env
  blk := fun l blk hb => by
    rcases hr.hp.blk l blk hb with h | ⟨b, base, h1, h2, h3⟩
    · exact .inl h
    · obtain ⟨c, e, fr, q1, q2, q3, q4⟩ := h3
      exact .inr ⟨b, base, h1, h2, ⟨c, e, fr, q1, q2, q3⟩, .inr ⟨c, e, fr, q1, q2, q3, q4⟩⟩
  inj := hr.hp.inj
  glob := hr.hp.glob
  bound := hr.bound
  lab := hr.lab
  nxt := hr.nxt
  prot := hr.prot

theorem killX {K : Nat → Prop} (hr : RelX Γ K N S β st a w) {l : Nat} (h : st.kill l = some st1) : RelX Γ K N S β st1 a w ∧ hget st1.hp l = none ∧ (∀ m, m ≠ l → hget st1.hp m = hget st.hp m) ∧ st1.nxt = st.nxt ∧ st1.prot = st.prot ∧ ∀ t v, get st1.env t = some v → v.mentions l = false := by
  unfold St.kill at h
  split at h
  case h_2 => simp at h
  rename_i h' hh
  simp at h; subst h
  obtain ⟨e1, e2, e3⟩ := killH_get hh
  have keeps : ∀ m, m ≠ l → Keeps w w β β st.hp h' m := fun m hm blk hb => ⟨rfl, ⟨blk, by rw [e2 m hm]; exact hb, Nat.le_refl _⟩, fun _ _ _ _ _ h => h⟩
  have hne : ∀ m blk, hget h' m = some blk → m ≠ l := fun m blk hb e => by subst e; simp [e1] at hb
  refine ⟨⟨hr.size, hr.defers, fun t v hv => ?_, fun m blk hb => ?_, fun m m' blk blk' b base base' h1 h2 h3 h4 => ?_, hr.glob, hr.bound, fun m blk hb => ?_, hr.nxt, hr.prot⟩, e1, e2, rfl, rfl, fun t v hv => (get_killEnv hv).2⟩
  · obtain ⟨g1, g2⟩ := get_killEnv hv
    obtain ⟨h1, h2⟩ := hr.env t v g1
    exact ⟨h1, h2.mono (fun _ h => h) (fun _ _ => rfl) fun m hm => keeps m (fun e => by subst e; simp [g2] at hm)⟩
  · have hm := hne m blk hb
    have hb0 : hget st.hp m = some blk := by rw [← e2 m hm]; exact hb
    rcases hr.blk m blk hb0 with h1 | ⟨b, base, h1, h2, h3, h4⟩
    · exact .inl h1
    · refine .inr ⟨b, base, h1, h2, h3, h4.imp id fun h4 => h4.mono (fun _ h => h) (fun _ _ => rfl) rfl fun k hk => keeps k fun e => ?_⟩
      subst e
      simp [e3 m blk hm hb0] at hk
  · exact hr.inj m m' blk blk' b base base' (by rw [← e2 m (hne m blk h1)]; exact h1) (by rw [← e2 m' (hne m' blk' h2)]; exact h2) h3 h4
  · exact hr.lab m blk (by rw [← e2 m (hne m blk hb)]; exact hb)

theorem setX {K : Nat → Prop} (hr : RelX Γ K N S β st a w) {l : Nat} {blk blk' : Blk} (hb : hget st.hp l = some blk) (hlen : blk'.len = blk.len) : RelX Γ (fun m => m = l ∨ K m) N S β { st with hp := hset l blk' st.hp } a w := by
  have hg : ∀ m blk0, hget st.hp m = some blk0 → ∃ blk1, hget (hset l blk' st.hp) m = some blk1 ∧ blk1.len = blk0.len := fun m blk0 h => by
    rw [hget_hset]
    by_cases hm : m = l
    · subst hm; rw [hb] at h; simp at h; subst h; exact ⟨blk', by simp [hb], hlen⟩
    · exact ⟨blk0, by simp [hm, h], rfl⟩
  have hg' : ∀ m blk1, hget (hset l blk' st.hp) m = some blk1 → (m = l ∧ blk1 = blk') ∨ (m ≠ l ∧ hget st.hp m = some blk1) := fun m blk1 h => by
    rw [hget_hset] at h
    by_cases hm : m = l
    · subst hm; simp [hb] at h; exact .inl ⟨rfl, h.symm⟩
    · simp [hm] at h; exact .inr ⟨hm, h⟩
  have hg2 : ∀ m blk1, hget (hset l blk' st.hp) m = some blk1 → ∃ blk0, hget st.hp m = some blk0 ∧ blk1.len = blk0.len := fun m blk1 h => by
    rcases hg' m blk1 h with ⟨rfl, rfl⟩ | ⟨_, h⟩
    · exact ⟨blk, hb, hlen⟩
    · exact ⟨blk1, h, rfl⟩
  have keeps : ∀ m, Keeps w w β β st.hp (hset l blk' st.hp) m := fun m blk0 h => by
    obtain ⟨blk1, h1, h2⟩ := hg m blk0 h
    exact ⟨rfl, ⟨blk1, h1, by omega⟩, fun _ _ _ _ _ h => h⟩
  refine ⟨hr.size, hr.defers, fun t v hv => ?_, fun m blk1 h => ?_, fun m m' blk0 blk1 b0 base0 base1 h1 h2 h3 h4 => ?_, hr.glob, hr.bound, fun m blk1 h => ?_, hr.nxt, hr.prot⟩
  · obtain ⟨h1, h2⟩ := hr.env t v hv
    exact ⟨h1, h2.mono (fun _ h => h) (fun _ _ => rfl) fun m _ => keeps m⟩
  · rcases hg' m blk1 h with ⟨rfl, rfl⟩ | ⟨hm, h⟩
    · rcases hr.blk m blk hb with ⟨h1, h2⟩ | ⟨b, base, h1, h2, ⟨c, e, fr, h3, h4, h5⟩, _⟩
      · exact .inl ⟨h1, by omega⟩
      · exact .inr ⟨b, base, h1, h2, ⟨c, e, fr, h3, h4, by omega⟩, .inl (.inl rfl)⟩
    · rcases hr.blk m blk1 h with h1 | ⟨b, base, h1, h2, h3, h4⟩
      · exact .inl h1
      · refine .inr ⟨b, base, h1, h2, h3, ?_⟩
        rcases h4 with h4 | h4
        · exact .inl (.inr h4)
        · exact .inr (h4.mono (fun _ h => h) (fun _ _ => rfl) rfl fun k _ => keeps k)
  · obtain ⟨x1, h1', _⟩ := hg2 m blk0 h1
    obtain ⟨x2, h2', _⟩ := hg2 m' blk1 h2
    exact hr.inj m m' x1 x2 b0 base0 base1 h1' h2' h3 h4
  · obtain ⟨x1, h1', _⟩ := hg2 m blk1 h
    exact hr.lab m x1 h1'

/-- What has come back of the handed blocks. -/
theorem takeBack_rel {h' : Heap} {bo : Bool} : ∀ {back : List (Nat × Nat)} {K : Nat → Prop} {st st1 : St}, RelX Γ K N S β st a w → takeBack h' bo back st = some st1 →
    (∀ j l cs, (j, l) ∈ back → hget h' j = some (.flat cs) → ∀ blk, hget st.hp l = some blk → cs.length = blk.len) →
    RelX Γ (fun m => K m ∨ ∃ j, (j, m) ∈ back) N S β st1 a w ∧ st1.nxt = st.nxt ∧ st1.prot = st.prot ∧
      (∀ m blk1, hget st1.hp m = some blk1 → ∃ blk, hget st.hp m = some blk ∧ blk1.len = blk.len) ∧
      (∀ m blk1, hget st1.hp m = some blk1 → (∀ j, (j, m) ∉ back) → hget st.hp m = some blk1) ∧
      (∀ j m blk1, (j, m) ∈ back → hget st1.hp m = some blk1 → ∃ j' cs, (j', m) ∈ back ∧ hget h' j' = some (.flat cs) ∧ blk1 = .flat cs ∧ (bo = true → plainL cs = true)) ∧
      (∀ j m, (j, m) ∈ back → hget h' j = none → hget st1.hp m = none)
  | [], K, st, st1, hr, e, _ => by
    simp [takeBack] at e; subst e
    refine ⟨⟨hr.size, hr.defers, hr.env, fun l blk hb => ?_, hr.inj, hr.glob, hr.bound, hr.lab, hr.nxt, hr.prot⟩, rfl, rfl, fun m blk1 h => ⟨blk1, h, rfl⟩, fun m blk1 h _ => h, fun j m _ h => by simp at h, fun j m h => by simp at h⟩
    rcases hr.blk l blk hb with h | ⟨b, base, h1, h2, h3, h4⟩
    · exact .inl h
    · exact .inr ⟨b, base, h1, h2, h3, h4.imp .inl id⟩
  | (j, l) :: r, K, st, st1, hr, e, hlen => by
    simp only [takeBack] at e
    split at e
    · rename_i cs hj
      split at e
      · simp at e
      · rename_i hpl
        cases hb : hget st.hp l with
        | none =>
          have hs : hset l (.flat cs) st.hp = st.hp := by
            have : ∀ h : Heap, hget h l = none → hset l (.flat cs) h = h := by
              intro h
              induction h with
              | nil => intro _; rfl
              | cons p t ih =>
                obtain ⟨k, v⟩ := p
                intro hn
                simp only [hget] at hn
                split at hn
                · simp at hn
                · rename_i hk; simp [hset, hk, ih hn]
            exact this _ hb
          rw [hs] at e
          obtain ⟨i1, i2, i3, i4, i5, i6, i7⟩ := takeBack_rel (K := K) hr e (fun j' l' cs' hm => hlen j' l' cs' (List.mem_cons_of_mem _ hm))
          refine ⟨⟨i1.size, i1.defers, i1.env, fun m blk1 h => ?_, i1.inj, i1.glob, i1.bound, i1.lab, i1.nxt, i1.prot⟩, i2, i3, i4, fun m blk1 h hn => i5 m blk1 h fun j' hm => hn j' (List.mem_cons_of_mem _ hm), fun j' m blk1 hm h => ?_, fun j' m hm h => ?_⟩
          · rcases i1.blk m blk1 h with h1 | ⟨b, base, h1, h2, h3, h4⟩
            · exact .inl h1
            · refine .inr ⟨b, base, h1, h2, h3, h4.imp (fun h => ?_) id⟩
              rcases h with h | ⟨j', h⟩
              · exact .inl h
              · exact .inr ⟨j', List.mem_cons_of_mem _ h⟩
          · obtain ⟨blk0, h0, _⟩ := i4 m blk1 h
            have hml : m ≠ l := fun e => by subst e; simp [hb] at h0
            simp at hm
            rcases hm with ⟨_, h1⟩ | hm
            · exact absurd h1 hml
            · obtain ⟨j'', cs', q1, q2⟩ := i6 j' m blk1 hm h
              exact ⟨j'', cs', List.mem_cons_of_mem _ q1, q2⟩
          · simp at hm
            rcases hm with ⟨rfl, _⟩ | hm
            · simp [hj] at h
            · exact i7 j' m hm h
        | some blk =>
          have hr' := setX (blk' := .flat cs) hr hb (hlen j l cs (by simp) hj blk hb)
          obtain ⟨i1, i2, i3, i4, i5, i6, i7⟩ := takeBack_rel hr' e (fun j' l' cs' hm h1 blk0 h2 => by
            have h2' := h2
            rw [hget_hset] at h2
            by_cases hl : l' = l
            · subst hl
              simp [hb] at h2; subst h2
              have e1 := hlen j' l' cs' (List.mem_cons_of_mem _ hm) h1 blk hb
              have e2 := hlen j l' cs (by simp) hj blk hb
              simp [Blk.len]; omega
            · simp [hl] at h2
              exact hlen j' l' cs' (List.mem_cons_of_mem _ hm) h1 blk0 h2)
          refine ⟨⟨i1.size, i1.defers, i1.env, fun m blk1 h => ?_, i1.inj, i1.glob, i1.bound, i1.lab, i1.nxt, i1.prot⟩, i2, i3, fun m blk1 h => ?_, fun m blk1 h hn => ?_, fun j' m blk1 hm h => ?_, fun j' m hm h => ?_⟩
          · rcases i1.blk m blk1 h with h1 | ⟨b, base, h1, h2, h3, h4⟩
            · exact .inl h1
            · refine .inr ⟨b, base, h1, h2, h3, h4.imp (fun h => ?_) id⟩
              rcases h with (rfl | h) | ⟨j', h⟩
              · exact .inr ⟨j, by simp⟩
              · exact .inl h
              · exact .inr ⟨j', List.mem_cons_of_mem _ h⟩
          · obtain ⟨blk0, h0, h1⟩ := i4 m blk1 h
            simp only at h0
            rw [hget_hset] at h0
            by_cases hm : m = l
            · subst hm
              simp [hb] at h0; subst h0
              exact ⟨blk, hb, by rw [h1]; exact hlen j m cs (by simp) hj blk hb⟩
            · simp [hm] at h0; exact ⟨blk0, h0, h1⟩
          · have := i5 m blk1 h fun j' hm => hn j' (List.mem_cons_of_mem _ hm)
            simp only at this
            rw [hget_hset, if_neg (fun e => hn j (by subst e; simp))] at this
            exact this
          · simp at hm
            by_cases hr2 : ∃ j'', (j'', m) ∈ r
            · obtain ⟨j'', hj''⟩ := hr2
              obtain ⟨j3, cs', q1, q2⟩ := i6 j'' m blk1 hj'' h
              exact ⟨j3, cs', List.mem_cons_of_mem _ q1, q2⟩
            · have hml : m = l := by
                rcases hm with ⟨_, h1⟩ | hm
                · exact h1
                · exact absurd ⟨j', hm⟩ hr2
              subst hml
              have := i5 m blk1 h fun j'' hj'' => hr2 ⟨j'', hj''⟩
              simp only at this
              rw [hget_hset, if_pos rfl, hb] at this
              simp at this
              exact ⟨j, cs, by simp, hj, this.symm, fun h => by simp [h] at hpl; exact hpl⟩
          · simp at hm
            rcases hm with ⟨rfl, _⟩ | hm
            · simp [hj] at h
            · exact i7 j' m hm h
    · simp at e
    · rename_i hj
      split at e
      · rename_i st2 hk
        obtain ⟨k1, k2, k3, k4, k5, _⟩ := killX hr hk
        obtain ⟨i1, i2, i3, i4, i5, i6, i7⟩ := takeBack_rel k1 e (fun j' l' cs' hm h1 blk0 h2 => by
          have hl : l' ≠ l := fun e => by subst e; simp [k2] at h2
          exact hlen j' l' cs' (List.mem_cons_of_mem _ hm) h1 blk0 (by rw [← k3 l' hl]; exact h2))
        have gone : ∀ m blk1, hget st1.hp m = some blk1 → m ≠ l := fun m blk1 h e => by
          subst e
          obtain ⟨blk0, h0, _⟩ := i4 m blk1 h
          simp [k2] at h0
        refine ⟨⟨i1.size, i1.defers, i1.env, fun m blk1 h => ?_, i1.inj, i1.glob, i1.bound, i1.lab, i1.nxt, i1.prot⟩, i2.trans k4, i3.trans k5, fun m blk1 h => ?_, fun m blk1 h hn => ?_, fun j' m blk1 hm h => ?_, fun j' m hm h => ?_⟩
        · rcases i1.blk m blk1 h with h1 | ⟨b, base, h1, h2, h3, h4⟩
          · exact .inl h1
          · refine .inr ⟨b, base, h1, h2, h3, h4.imp (fun h => ?_) id⟩
            rcases h with h | ⟨j', h⟩
            · exact .inl h
            · exact .inr ⟨j', List.mem_cons_of_mem _ h⟩
        · obtain ⟨blk0, h0, h1⟩ := i4 m blk1 h
          exact ⟨blk0, by rw [← k3 m (gone m blk1 h)]; exact h0, h1⟩
        · rw [← k3 m (gone m blk1 h)]
          exact i5 m blk1 h fun j' hm => hn j' (List.mem_cons_of_mem _ hm)
        · simp at hm
          rcases hm with ⟨_, h1⟩ | hm
          · exact absurd h1 (gone m blk1 h)
          · obtain ⟨j'', cs', q1, q2⟩ := i6 j' m blk1 hm h
            exact ⟨j'', cs', List.mem_cons_of_mem _ q1, q2⟩
        · simp at hm
          rcases hm with ⟨_, rfl⟩ | hm
          · cases hh : hget st1.hp m with
            | none => rfl
            | some blk1 => exact absurd rfl (gone m blk1 hh)
          · exact i7 j' m hm h
      · simp at e
end
end Go.Vm

/- Calls: the whole. -/
set_option linter.unusedSimpArgs false
set_option linter.unusedVariables false
namespace Go.Vm
variable {Γ : GlobP}

section
variable {P : Program} {N : Nat} {S : Nat → Prop} {β : Beta} {st st' st1 : St} {a : Act} {w w' : World}

theorem backLabel_mem : ∀ {back : List (Nat × Nat)} {j l : Nat}, backLabel j back = some l → (j, l) ∈ back
  | [], j, l, h => by simp [backLabel] at h
  | (k, m) :: r, j, l, h => by
    simp only [backLabel] at h
    split at h
    · rename_i hk; subst hk; simp at h; subst h; simp
    · exact List.mem_cons_of_mem _ (backLabel_mem h)
theorem passed_mem_le : ∀ {n : Nat} {vs : List (Bool × F)} {j l : Nat}, (j, l) ∈ passed n vs → n ≤ j
  | n, [], j, l, h => by simp [passed] at h
  | n, (m, v) :: vs, j, l, h => by
    have rec' : (j, l) ∈ passed (n + 1) vs → n ≤ j := fun h => by have := passed_mem_le h; omega
    cases m with
    | false =>
      have e : passed n ((false, v) :: vs) = passed (n + 1) vs := by cases v <;> rfl
      rw [e] at h; exact rec' h
    | true =>
      cases v with
      | own m off len k => simp only [passed, List.mem_cons] at h; rcases h with h | h; (simp at h; omega); exact rec' h
      | ref m off => simp only [passed, List.mem_cons] at h; rcases h with h | h; (simp at h; omega); exact rec' h
      | i x => exact rec' h
      | agg x => exact rec' h
      | tup x => exact rec' h
      | fn x y => exact rec' h
theorem mem_backLabel : ∀ {n : Nat} {vs : List (Bool × F)} {j l : Nat}, (j, l) ∈ passed n vs → backLabel j (passed n vs) = some l
  | n, [], j, l, h => by simp [passed] at h
  | n, (m, v) :: vs, j, l, h => by
    have add : ∀ q, passed n ((m, v) :: vs) = (n, q) :: passed (n + 1) vs → backLabel j (passed n ((m, v) :: vs)) = some l := fun q e => by
      rw [e] at h ⊢
      simp only [List.mem_cons] at h
      rcases h with h | h
      · simp at h; obtain ⟨rfl, rfl⟩ := h; simp [backLabel]
      · have := passed_mem_le h
        simp only [backLabel]
        rw [if_neg (by omega)]
        exact mem_backLabel h
    cases m with
    | false =>
      have e : passed n ((false, v) :: vs) = passed (n + 1) vs := by cases v <;> rfl
      rw [e] at h ⊢; exact mem_backLabel h
    | true =>
      cases v with
      | own l off len k => exact add l rfl
      | ref l off => exact add l rfl
      | i x => exact mem_backLabel (n := n + 1) h
      | agg x => exact mem_backLabel (n := n + 1) h
      | tup x => exact mem_backLabel (n := n + 1) h
      | fn x y => exact mem_backLabel (n := n + 1) h
theorem hget_dom : ∀ {h : Heap} {l : Nat} {b : Blk}, hget h l = some b → l ∈ h.map (·.1)
  | [], l, b, e => by simp [hget] at e
  | (k, v) :: r, l, b, e => by
    simp only [hget] at e
    split at e
    · rename_i hk; subst hk; simp
    · simp only [List.map_cons, List.mem_cons]; exact .inr (hget_dom e)

/-- What the callee has left, as the caller sees it. -/
structure Ready (Γ : GlobP) (back : List (Nat × Nat)) (bo : Bool) (h' : Heap) (S1 S2 : Nat → Prop) (β1 β : Beta) (w' : World) (st : St) : Prop where
  ri : ∀ {x : I} {v : Value}, RI S1 w' x v → (bo = true → x.plain = true) → RI S2 w' x v
  hp1 : HpRel Γ S1 w' β1 h'
  alive : ∀ j l, backLabel j back = some l → ∀ blk, hget st.hp l = some blk → ∃ cs, hget h' j = some (.flat cs) ∧ blk = .flat cs ∧ β1 j = β l
  fresh : ∀ j cs b base, backLabel j back = none → hget h' j = some (.flat cs) → β1 j = some (b, base) → ¬ S2 b ∧ ¬ Own β st.hp b

theorem takeRes_rel {back : List (Nat × Nat)} {bo : Bool} {h' : Heap} {S1 S2 : Nat → Prop} {β1 : Beta} {hint : Option (Option Nat)} (hR : Ready Γ back bo h' S1 S2 β1 β w' st) (hr : Rel Γ N S2 β st a w') {v x : F} {u : Value} (hv : RF S1 w' β1 h' v u)
    (h : takeRes h' back bo hint v st = some (x, st')) : ∃ β2, Rel Γ N S2 β2 st' a w' ∧ RF S2 w' β2 st'.hp x u ∧ st'.prot = st.prot ∧
      (∀ l, l ∈ st.prot → ∀ blk, hget st'.hp l = some blk → hget st.hp l = some blk ∧ β2 l = β l) ∧
      (∀ b, Own β2 st'.hp b → Own β st.hp b ∨ Own β1 h' b) ∧ ((∃ y, v = .i y) → st' = st ∧ β2 = β ∧ ∃ y, x = .i y) := by
  unfold takeRes at h
  split at h
  · rename_i y
    split at h
    · simp at h
    · rename_i hpl
      simp at h; obtain ⟨rfl, rfl⟩ := h
      refine ⟨β, hr, .i _ _ (nn_rel (hR.ri hv.inv_i fun hb => ?_)), rfl, fun l _ blk hb => ⟨hb, rfl⟩, fun b hb => .inl hb, fun _ => ⟨rfl, rfl, _, rfl⟩⟩
      simp [hb] at hpl; exact hpl
  · rename_i j off len k
    split at h
    · rename_i l hbl
      split at h
      · rename_i hs
        simp at h; obtain ⟨rfl, rfl⟩ := h
        obtain ⟨blk, hb⟩ := Option.isSome_iff_exists.1 hs
        obtain ⟨cs, e1, rfl, e3⟩ := hR.alive j l hbl blk hb
        refine ⟨β, hr, ?_, rfl, fun l _ blk hb => ⟨hb, rfl⟩, fun b hb => .inl hb, fun ⟨y, hy⟩ => by simp at hy⟩
        obtain ⟨blk', X, cap, hb', rfl, hk, hlen, hcap, hd⟩ := hv.inv_own
        rw [e1] at hb'; simp at hb'; subst hb'
        rcases hd with ⟨rfl, rfl⟩ | ⟨b, base, m, e', rfl, hβ, hsh, hm⟩
        · exact .own0 l off k _ X hb (by omega) hk
        · exact .ownS l off len k _ b base cap m e' hb (by rw [← e3]; exact hβ) hlen hcap hk hsh hm
      · simp at h
    · rename_i hbl
      split at h
      · rename_i hn cs hj
        split at h
        · simp at h
        · rename_i hpl
          split at h
          · rename_i l st2 hcr
            simp at h; obtain ⟨rfl, rfl⟩ := h
            obtain ⟨st3, n', q1, q2, q3, q4, q5, q6, rfl, q8, q9⟩ := create_split hr hcr
            have hsub3 : ∀ b, Own β st3.hp b → Own β st.hp b := fun b ⟨m, blk, base, hb, hβ⟩ => ⟨m, blk, base, by rw [← q8 m fun e => by subst e; simp [q2] at hb]; exact hb, hβ⟩
            have hx : (β1 j = none ∧ (Blk.flat cs).len = 0) ∨ ∃ b base, β1 j = some (b, base) ∧ ¬ S2 b ∧ ¬ Own β st3.hp b ∧ BlkRel S2 w' β st3.hp (.flat cs) b base := by
              rcases hR.hp1.blk j _ hj with h0 | ⟨b, base, g1, g2, c, e, fr, g3, g4, g5, g6⟩
              · exact .inl h0
              · obtain ⟨f1, f2⟩ := hR.fresh j cs b base hbl hj g1
                refine .inr ⟨b, base, g1, f1, fun ho => f2 (hsub3 b ho), c, e, fr, g3, g4, g5, fun i y hy => ?_⟩
                obtain ⟨v', hv', hrel⟩ := g6 i y hy
                refine ⟨v', hv', ?_⟩
                simp only [Blk.cells, List.getElem?_map] at hy
                cases hc : cs[i]? with
                | none => simp [hc] at hy
                | some q =>
                  simp [hc] at hy; subst hy
                  refine .i _ _ (hR.ri hrel.inv_i fun hb => plainL_at ?_ i q hc)
                  simp [hb] at hpl; exact hpl
            have hfin := insert_rel (x := β1 j) q1 q2 q3 q4 hx
            refine ⟨upd β l (β1 j), hfin, ?_, q5, fun m hm blk hb => ?_, fun b ⟨m, blk, base, hb, hβ⟩ => ?_, fun ⟨y, hy⟩ => by simp at hy⟩
            · have hg : hget ((l, Blk.flat cs) :: st3.hp) l = some (.flat cs) := by simp [hget]
              obtain ⟨blk', X, cap, hb', rfl, hk, hlen, hcap, hd⟩ := hv.inv_own
              rw [hj] at hb'; simp at hb'; subst hb'
              rcases hd with ⟨rfl, rfl⟩ | ⟨b, base, m, e', rfl, hβ, hsh, hm⟩
              · exact .own0 l off k _ X hg (by omega) hk
              · exact .ownS l off len k _ b base cap m e' hg (by rw [upd_eq]; exact hβ) hlen hcap hk hsh hm
            · have hml : m ≠ l := fun e => by subst e; exact q6 hm
              simp only [hget] at hb
              rw [if_neg (fun e => hml e.symm), q8 m hml] at hb
              exact ⟨hb, upd_ne hml⟩
            · simp only [hget] at hb
              split at hb
              · rename_i e; subst e
                rw [upd_eq] at hβ
                exact .inr ⟨j, _, base, hj, hβ⟩
              · rename_i e
                rw [upd_ne (fun e' => e e'.symm)] at hβ
                exact .inl (hsub3 b ⟨m, blk, base, hb, hβ⟩)
          · simp at h
      · simp at h
  · simp at h

theorem takeResL_rel {back : List (Nat × Nat)} {bo : Bool} {h' : Heap} {S1 S2 : Nat → Prop} {β1 : Beta} {hint : Option (Option Nat)} : ∀ {vs xs : List F} {us : List Value} {st st' : St} {β : Beta}, Ready Γ back bo h' S1 S2 β1 β w' st → Rel Γ N S2 β st a w' → owns vs ≤ 1 → us.length = vs.length →
    (∀ (j : Nat) (x) (v), vs[j]? = some x → us[j]? = some v → RF S1 w' β1 h' x v) → takeResL h' back bo hint vs st = some (xs, st') →
    ∃ β2, Rel Γ N S2 β2 st' a w' ∧ (us.length = xs.length ∧ ∀ (j : Nat) (x) (v), xs[j]? = some x → us[j]? = some v → RF S2 w' β2 st'.hp x v) ∧ st'.prot = st.prot ∧
      (∀ l, l ∈ st.prot → ∀ blk, hget st'.hp l = some blk → hget st.hp l = some blk ∧ β2 l = β l) ∧ (∀ b, Own β2 st'.hp b → Own β st.hp b ∨ Own β1 h' b) ∧ (owns vs = 0 → st' = st ∧ β2 = β ∧ ∀ x ∈ xs, ∃ y, x = .i y)
  | [], xs, us, st, st', β, hR, hr, _, hl, _, h => by
    simp [takeResL] at h; obtain ⟨rfl, rfl⟩ := h
    exact ⟨β, hr, ⟨hl, fun _ _ _ h => by simp at h⟩, rfl, fun l _ blk hb => ⟨hb, rfl⟩, fun b hb => .inl hb, fun _ => ⟨rfl, rfl, fun _ h => by simp at h⟩⟩
  | v :: vs, xs, [], st, st', β, hR, hr, ho, hl, hrel, h => by simp at hl
  | v :: vs, xs, u :: us, st, st', β, hR, hr, ho, hl, hrel, h => by
    simp only [takeResL] at h
    split at h
    case h_2 => simp at h
    rename_i x st1 hx
    split at h
    case h_2 => simp at h
    rename_i xs' st2 hxs
    simp at h; obtain ⟨rfl, rfl⟩ := h
    have hv := hrel 0 v u rfl rfl
    obtain ⟨β2, t1, t2, t3, t4, t5, t6⟩ := takeRes_rel hR hr hv hx
    have hrel' : ∀ (j : Nat) (x) (v), vs[j]? = some x → us[j]? = some v → RF S1 w' β1 h' x v := fun j x v h1 h2 => hrel (j + 1) x v (by simpa using h1) (by simpa using h2)
    by_cases hvi : ∃ y, v = .i y
    · obtain ⟨rfl, rfl, y', rfl⟩ := t6 hvi
      have ho' : owns vs ≤ 1 := by obtain ⟨y, rfl⟩ := hvi; exact ho
      obtain ⟨β3, s1, ⟨s2, s2'⟩, s3, s4, s5, s6⟩ := takeResL_rel hR hr ho' (by simpa using hl) hrel' hxs
      refine ⟨β3, s1, ⟨by simp [s2], fun j x v h1 h2 => ?_⟩, s3, s4, s5, fun h0 => ?_⟩
      · cases j with
        | zero => simp at h1 h2; subst h1; subst h2; exact .i _ _ t2.inv_i
        | succ j => exact s2' j x v (by simpa using h1) (by simpa using h2)
      · have h0' : owns vs = 0 := by obtain ⟨y, rfl⟩ := hvi; exact h0
        obtain ⟨e1, e2, e3⟩ := s6 h0'
        exact ⟨e1, e2, fun x hx => by simp at hx; rcases hx with rfl | hx; exact ⟨_, rfl⟩; exact e3 x hx⟩
    · -- an owned result: the others are none
      have hv' : ∃ j off len k, v = .own j off len k := by
        unfold takeRes at hx
        split at hx
        · exact absurd ⟨_, rfl⟩ hvi
        · exact ⟨_, _, _, _, rfl⟩
        · simp at hx
      obtain ⟨j, off, len, k, rfl⟩ := hv'
      have ho' : owns vs = 0 := by simp [owns] at ho; omega
      -- the rest leaves the state alone
      have rest : ∀ {vs : List F} {xs : List F} {us : List Value} {st2 : St}, owns vs = 0 → takeResL h' back bo hint vs st1 = some (xs, st2) → us.length = vs.length → (∀ (j : Nat) (x) (v), vs[j]? = some x → us[j]? = some v → RF S1 w' β1 h' x v) →
          st2 = st1 ∧ us.length = xs.length ∧ ∀ (j : Nat) (x) (v), xs[j]? = some x → us[j]? = some v → ∃ y, x = .i y ∧ RI S2 w' y v := by
        intro vs
        induction vs with
        | nil => intro xs us st2 _ h hl _; simp [takeResL] at h; obtain ⟨rfl, rfl⟩ := h; exact ⟨rfl, hl, fun _ _ _ h => by simp at h⟩
        | cons v vs ih =>
          intro xs us st2 h0 h hl hrel
          cases us with
          | nil => simp at hl
          | cons u us =>
          simp only [takeResL] at h
          split at h
          case h_2 => simp at h
          rename_i x st3 hx
          split at h
          case h_2 => simp at h
          rename_i xs2 st4 hxs2
          simp at h; obtain ⟨rfl, rfl⟩ := h
          have : ∃ y, v = .i y ∧ x = .i y.nn ∧ st3 = st1 ∧ (bo = true → y.plain = true) := by
            unfold takeRes at hx
            split at hx
            · rename_i y
              split at hx
              · simp at hx
              · rename_i hpl
                simp at hx; obtain ⟨rfl, rfl⟩ := hx
                exact ⟨y, rfl, rfl, rfl, fun hb => by simp [hb] at hpl; exact hpl⟩
            · simp [owns] at h0
            · simp at hx
          obtain ⟨y, rfl, rfl, rfl, hpl⟩ := this
          obtain ⟨e1, e2, e3⟩ := ih (by simpa [owns] using h0) hxs2 (by simpa using hl) (fun j x v h1 h2 => hrel (j + 1) x v (by simpa using h1) (by simpa using h2))
          refine ⟨e1, by simp [e2], fun j x v h1 h2 => ?_⟩
          cases j with
          | zero => simp at h1 h2; subst h1; subst h2; exact ⟨_, rfl, nn_rel (hR.ri (hrel 0 _ _ rfl rfl).inv_i hpl)⟩
          | succ j => exact e3 j x v (by simpa using h1) (by simpa using h2)
      obtain ⟨rfl, e2, e3⟩ := rest ho' hxs (by simpa using hl) hrel'
      refine ⟨β2, t1, ⟨by simp [e2], fun j x v h1 h2 => ?_⟩, t3, t4, t5, fun h0 => by simp [owns] at h0⟩
      cases j with
      | zero => simp at h1 h2; subst h1; subst h2; exact t2
      | succ j =>
        obtain ⟨y, rfl, hy⟩ := e3 j x v (by simpa using h1) (by simpa using h2)
        exact .i _ _ hy
end
end Go.Vm

/- Calls: sound. -/
set_option linter.unusedSimpArgs false
set_option linter.unusedVariables false
namespace Go.Vm
variable {Γ : GlobP}

section
variable {P : Program} {N : Nat} {S : Nat → Prop} {β : Beta} {st st' st1 : St} {a : Act} {w w' : World}

theorem owns_map : ∀ (l : List I), owns (l.map F.i) = 0
  | [] => rfl
  | c :: cs => by simpa [owns] using owns_map cs

/-- What a call leaves in the caller. -/
def CallDone (Γ : GlobP) (N : Nat) (S : Nat → Prop) (β : Beta) (st : St) (a : Act) (w : World) (v : F) (st' : St) (e : Ending) (w' : World) : Prop :=
  ∃ u S' β', e = .returned u ∧ RF S' w' β' st'.hp v u ∧ Rel Γ N S' β' st' a w' ∧ Ext st.prot S β st.hp w S' β' st'.hp w' ∧ st'.prot = st.prot

theorem isoCall_sound {C : CallSem} (hC : SoundCall Γ P C) (hr : Rel Γ N S β st a w) {g : FuncId} {vs : List (Bool × F)} {hint : Option (Option Nat)} {cv : Array Value} (hl : cv.size = vs.length)
    (hrel : ∀ (j : Nat) (x) (v), vs[j]? = some x → cv[j]? = some v → RF S w β st.hp x.2 v) {v : F} (h : isoCall C g vs hint st = some (v, st')) : Calls P g cv w (CallDone Γ N S β st a w v st') := by
  unfold isoCall at h
  simp only at h
  split at h
  case h_2 => simp at h
  rename_i hp as bo hhp has
  split at h
  · simp at h
  rename_i r h' x' hcall
  split at h
  · simp at h
  rename_i st1 htb
  have hP := passHp_ok hhp
  obtain ⟨a1, a2⟩ := passArgs_ok (cv := cv.toList) hr.hp hP has (fun _ _ h => h) (by simpa using hl) (fun j x v h1 h2 => hrel j x v h1 (by simpa using h2))
  have hown : ∀ b, Own (BC β (passed 0 vs)) hp b → Own β st.hp b := fun b ⟨j, blk, base, hb, hβ⟩ => by
    obtain ⟨l, cs, e1, rfl, e3⟩ := hP.fwd j blk hb
    simp [BC, e1] at hβ
    exact ⟨l, _, base, e3, hβ⟩
  have ownlt : ∀ b, Own β st.hp b → b < w.heap.size := fun b ⟨m, blk', base, hb, hβ⟩ => by
    rcases hr.hp.blk m blk' hb with ⟨h1, _⟩ | ⟨b', base', h1, _, c, e, fr, hc, _⟩
    · rw [hβ] at h1; simp at h1
    · rw [hβ] at h1; simp at h1; obtain ⟨rfl, rfl⟩ := h1
      exact (Array.getElem?_eq_some_iff.1 hc).1
  have hSO : ∀ b, S b → ¬ Own β st.hp b := fun b hS ⟨m, blk', base, hb, hβ⟩ => by
    rcases hr.hp.blk m blk' hb with ⟨h1, _⟩ | ⟨b', base', h1, h2, _⟩
    · rw [hβ] at h1; simp at h1
    · rw [hβ] at h1; simp at h1; obtain ⟨rfl, rfl⟩ := h1; exact h2 hS
  have hboundC : ∀ b, SC S β (hdrop (passed 0 vs) st.hp) bo b → b < w.heap.size := fun b hb => by
    rcases hb with hb | ⟨_, l, blk, base, h1, h2⟩
    · exact hr.bound b hb
    · rw [hdrop_get] at h1
      split at h1
      · simp at h1
      · exact ownlt b ⟨l, blk, base, h1, h2⟩
  have hlab : ∀ j, j ∈ hp.map (·.1) → j < 1000 := fun j hj => (hP.dom j hj).2
  have := hC g as hp 1000 r h' x' hcall w (SC S β (hdrop (passed 0 vs) st.hp) bo) (BC β (passed 0 vs)) cv ⟨by omega, fun j y u h1 h2 => a2 j y u h1 (by simpa using h2)⟩
    (passHp_rel hr.hp hP bo) hboundC (fun j blk hb => hlab j (hget_dom hb)) hlab (Nat.le_refl _)
  refine this.mono fun e w' hpost => ?_
  obtain ⟨u, S1, β1, rfl, hu, hhp1, hb1, hl1, _, _, hext⟩ := hpost
  -- the labels that were handed over and are alive
  have hpal : ∀ j l, backLabel j (passed 0 vs) = some l → ∀ blk', hget h' j = some blk' → β1 j = β l ∧ ∃ cs, hget st.hp l = some (.flat cs) ∧ blk'.len = cs.length ∧ ∀ b base, β l = some (b, base) → ∀ e n, w.shape? b = some (e, n) → w'.shape? b = some (e, n) := fun j l hbl blk' hb' => by
    obtain ⟨cs, e1, e2⟩ := hP.bwd j l hbl
    obtain ⟨blk, f1, f2, f3, f4⟩ := hext.prot j (hget_dom e1) blk' hb'
    rw [e1] at f1; simp at f1; subst f1
    have hβ : BC β (passed 0 vs) j = β l := by simp [BC, hbl]
    exact ⟨f2.trans hβ, cs, e2, f3, fun b base hb e n hs => f4 b base (by rw [hβ]; exact hb) e n hs⟩
  obtain ⟨t1, t2, t3, t4, t5, t6, t7⟩ := takeBack_rel hr.toX htb (fun j l cs hm hj blk hb => by
    obtain ⟨_, cs0, e1, e2, _⟩ := hpal j l (mem_backLabel hm) _ hj
    rw [hb] at e1; simp at e1; subst e1
    simpa [Blk.len] using e2)
  -- what is handed over and stands in st1
  have hK : ∀ j m, (j, m) ∈ passed 0 vs → ∀ blk1, hget st1.hp m = some blk1 → ∃ cs, hget h' j = some (.flat cs) ∧ blk1 = .flat cs ∧ (bo = true → plainL cs = true) := fun j m hm blk1 hb => by
    obtain ⟨j', cs, e1, e2, e3, e4⟩ := t6 j m blk1 hm hb
    have : j' = j := hP.inj j' j m (mem_backLabel e1) (mem_backLabel hm)
    subst this
    exact ⟨cs, e2, e3, e4⟩
  have hsame : ∀ b, b < w.heap.size → ¬ Own (BC β (passed 0 vs)) hp b → w'.heap[b]? = w.heap[b]? := hext.same
  have hSsame : ∀ b, S b → w'.heap[b]? = w.heap[b]? := fun b hb => hsame b (hr.bound b hb) fun ho => hSO b hb (hown b ho)
  -- a label that was not handed over keeps its block
  have hnp : ∀ m blk b base, hget st.hp m = some blk → β m = some (b, base) → (∀ j, (j, m) ∉ passed 0 vs) → ¬ Own (BC β (passed 0 vs)) hp b := fun m blk b base hb hβ hn ⟨j, blk', base', h1, h2⟩ => by
    obtain ⟨l, cs, e1, rfl, e3⟩ := hP.fwd j blk' h1
    simp [BC, e1] at h2
    have : m = l := hr.hp.inj m l blk _ b base base' hb e3 hβ h2
    subst this
    exact hn j (backLabel_mem e1)
  let S2 : Nat → Prop := fun b => (bo = true ∧ S b) ∨ (bo = false ∧ S1 b)
  have hSS2 : ∀ b, S b → S2 b := fun b hb => by
    by_cases hbo : bo = true
    · exact .inl ⟨hbo, hb⟩
    · exact .inr ⟨by simpa using hbo, hext.sub b (.inl hb)⟩
  have hri : ∀ {x : I} {v : Value}, RI S1 w' x v → (bo = true → x.plain = true) → RI S2 w' x v := fun {x v} hin hpl => by
    by_cases hbo : bo = true
    · exact plain_rel hin (hpl hbo)
    · exact hin.mono (fun b hb => .inr ⟨by simpa using hbo, hb⟩) (fun _ _ => rfl)
  have hshape : ∀ m blk1, hget st1.hp m = some blk1 → ∀ b base, β m = some (b, base) → ∀ e n, w.shape? b = some (e, n) → w'.shape? b = some (e, n) := fun m blk1 hb b base hβ e n hs => by
    by_cases hm : ∃ j, (j, m) ∈ passed 0 vs
    · obtain ⟨j, hj⟩ := hm
      obtain ⟨cs, e1, _⟩ := hK j m hj blk1 hb
      obtain ⟨_, _, _, _, e5⟩ := hpal j m (mem_backLabel hj) _ e1
      exact e5 b base hβ e n hs
    · obtain ⟨blk, hb0, _⟩ := t4 m blk1 hb
      have h1 := hnp m blk b base hb0 hβ (fun j hj => hm ⟨j, hj⟩)
      simp only [World.shape?] at hs ⊢
      rw [hsame b (ownlt b ⟨m, blk, base, hb0, hβ⟩) h1]; exact hs
  have keeps : ∀ m, Keeps w w' β β st1.hp st1.hp m := fun m blk hb => ⟨rfl, ⟨blk, hb, Nat.le_refl _⟩, fun b base hβ e n hs => hshape m blk hb b base hβ e n hs⟩
  have hnS2 : ∀ m blk1 b base, hget st1.hp m = some blk1 → β m = some (b, base) → ¬ S b → ¬ S2 b := fun m blk1 b base hb hβ hnS hS2 => by
    rcases hS2 with ⟨_, h⟩ | ⟨hbo, h⟩
    · exact hnS h
    · by_cases hm : ∃ j, (j, m) ∈ passed 0 vs
      · obtain ⟨j, hj⟩ := hm
        obtain ⟨cs, e1, _⟩ := hK j m hj blk1 hb
        obtain ⟨e2, _⟩ := hpal j m (mem_backLabel hj) _ e1
        rcases hhp1.blk j _ e1 with ⟨g1, _⟩ | ⟨b', base', g1, g2, _⟩
        · rw [e2, hβ] at g1; simp at g1
        · rw [e2, hβ] at g1; simp at g1; obtain ⟨rfl, rfl⟩ := g1; exact g2 h
      · obtain ⟨blk, hb0, _⟩ := t4 m blk1 hb
        rcases hext.new b h with (h1 | ⟨h1, _⟩) | h1 | h1
        · exact hnS h1
        · rw [hbo] at h1; simp at h1
        · exact hnp m blk b base hb0 hβ (fun j hj => hm ⟨j, hj⟩) h1
        · have := ownlt b ⟨m, blk, base, hb0, hβ⟩; omega
  have hr1 : Rel Γ N S2 β st1 a w' := by
    refine ⟨t1.size, t1.defers, fun t v hv => ?_, ⟨fun m blk1 hb => ?_, t1.inj, Γ.mono _ _ _ _ hr.hp.glob hSS2 hSsame⟩, fun b hb => ?_, t1.lab, t1.nxt, t1.prot⟩
    · obtain ⟨h1, h2⟩ := t1.env t v hv
      exact ⟨h1, h2.mono hSS2 hSsame fun m _ => keeps m⟩
    · rcases t1.blk m blk1 hb with h1 | ⟨b, base, h1, h2, h3, h4⟩
      · exact .inl h1
      · refine .inr ⟨b, base, h1, hnS2 m blk1 b base hb h1 h2, ?_⟩
        by_cases hm : ∃ j, (j, m) ∈ passed 0 vs
        · obtain ⟨j, hj⟩ := hm
          obtain ⟨cs, e1, rfl, e3⟩ := hK j m hj blk1 hb
          obtain ⟨e2, _⟩ := hpal j m (mem_backLabel hj) _ e1
          rcases hhp1.blk j _ e1 with ⟨g1, _⟩ | ⟨b', base', g1, g2, c, e, fr, g3, g4, g5, g6⟩
          · rw [e2, h1] at g1; simp at g1
          · rw [e2, h1] at g1; simp at g1; obtain ⟨rfl, rfl⟩ := g1
            refine ⟨c, e, fr, g3, g4, g5, fun i y hy => ?_⟩
            obtain ⟨v, hv, hrl⟩ := g6 i y hy
            refine ⟨v, hv, ?_⟩
            simp only [Blk.cells, List.getElem?_map] at hy
            cases hc : cs[i]? with
            | none => simp [hc] at hy
            | some q => simp [hc] at hy; subst hy; exact .i _ _ (hri hrl.inv_i fun hb => plainL_at (e3 hb) i q hc)
        · have h4' : BlkRel S w β st1.hp blk1 b base := by
            rcases h4 with (h | h) | h
            · exact h.elim
            · exact absurd h hm
            · exact h
          obtain ⟨blk, hb0, _⟩ := t4 m blk1 hb
          exact h4'.mono hSS2 hSsame (hsame b (ownlt b ⟨m, blk, base, hb0, h1⟩) (hnp m blk b base hb0 h1 fun j hj => hm ⟨j, hj⟩)) fun k _ => keeps k
    · rcases hb with ⟨_, h⟩ | ⟨_, h⟩
      · exact Nat.lt_of_lt_of_le (hr.bound b h) hext.size
      · exact hb1 b h
  have hown1 : ∀ b, Own β st1.hp b → Own β st.hp b := fun b ⟨m, blk1, base, hb, hβ⟩ => by
    obtain ⟨blk, h0, _⟩ := t4 m blk1 hb
    exact ⟨m, blk, base, h0, hβ⟩
  have hready : Ready Γ (passed 0 vs) bo h' S1 S2 β1 β w' st1 := by
    refine ⟨hri, hhp1, fun j l hbl blk hb => ?_, fun j cs b base hbl hj hβ => ⟨fun hS2 => ?_, fun ⟨m, blk1, base', hb, hβm⟩ => ?_⟩⟩
    · obtain ⟨cs, e1, e2, _⟩ := hK j l (backLabel_mem hbl) blk hb
      exact ⟨cs, e1, e2, (hpal j l hbl _ e1).1⟩
    · rcases hS2 with ⟨_, h⟩ | ⟨_, h⟩
      · rcases hext.own b ⟨j, _, base, hj, hβ⟩ with h1 | h1
        · exact hSO b h (hown b h1)
        · have := hr.bound b h; omega
      · rcases hhp1.blk j _ hj with ⟨g1, _⟩ | ⟨b', base', g1, g2, _⟩
        · rw [hβ] at g1; simp at g1
        · rw [hβ] at g1; simp at g1; obtain ⟨rfl, rfl⟩ := g1; exact g2 h
    · by_cases hm : ∃ j', (j', m) ∈ passed 0 vs
      · obtain ⟨j', hj'⟩ := hm
        obtain ⟨cs', e1, _⟩ := hK j' m hj' blk1 hb
        obtain ⟨e2, _⟩ := hpal j' m (mem_backLabel hj') _ e1
        have : j = j' := hhp1.inj j j' _ _ b base base' hj e1 hβ (by rw [e2]; exact hβm)
        subst this
        rw [mem_backLabel hj'] at hbl; simp at hbl
      · obtain ⟨blk, hb0, _⟩ := t4 m blk1 hb
        rcases hext.own b ⟨j, _, base, hj, hβ⟩ with h1 | h1
        · exact hnp m blk b base' hb0 hβm (fun j hj => hm ⟨j, hj⟩) h1
        · have := ownlt b ⟨m, blk, base', hb0, hβm⟩; omega
  -- the whole
  have finish : ∀ {β2 : Beta} {st2 : St} {y : F}, Rel Γ N S2 β2 st2 a w' → RF S2 w' β2 st2.hp y u → st2.prot = st1.prot → (∀ l, l ∈ st1.prot → ∀ blk, hget st2.hp l = some blk → hget st1.hp l = some blk ∧ β2 l = β l) →
      (∀ b, Own β2 st2.hp b → Own β st1.hp b ∨ Own β1 h' b) → CallDone Γ N S β st a w y st2 (.returned u) w' := fun {β2 st2 y} g1 g2 g3 g4 g5 => by
    refine ⟨u, S2, β2, rfl, g2, g1, ⟨hext.os, hext.tape, hext.output, hext.size, fun b hb ho => hsame b hb fun h => ho (hown b h), hSS2, fun b hb => ?_, fun b hb => ?_, fun l hl blk2 hb2 => ?_⟩, g3.trans t3⟩
    · rcases hb with ⟨_, h⟩ | ⟨hbo, h⟩
      · exact .inl h
      · rcases hext.new b h with (h1 | ⟨h1, _⟩) | h1 | h1
        · exact .inl h1
        · rw [hbo] at h1; simp at h1
        · exact .inr (.inl (hown b h1))
        · exact .inr (.inr h1)
    · rcases g5 b hb with h1 | h1
      · exact .inl (hown1 b h1)
      · rcases hext.own b h1 with h2 | h2
        · exact .inl (hown b h2)
        · exact .inr h2
    · obtain ⟨e1, e2⟩ := g4 l (by rw [t3]; exact hl) blk2 hb2
      obtain ⟨blk, e3, e4⟩ := t4 l blk2 e1
      exact ⟨blk, e3, e2, e4, fun b base hβ e n hs => hshape l blk2 e1 b base hβ e n hs⟩
  split at h
  · rename_i vs'
    split at h
    · rename_i xs st2 hxs
      simp at h; obtain ⟨rfl, rfl⟩ := h
      obtain ⟨us, rfl, hul, hur⟩ := hu.inv_i.inv_tup
      have ho : owns (vs'.map F.i) = 0 := owns_map vs'
      obtain ⟨β2, s1, s2, s3, s4, s5, _⟩ := takeResL_rel (us := us.toList) hready hr1 (by omega) (by simpa using hul) (fun j x v h1 h2 => by
        simp only [List.getElem?_map] at h1
        cases hc : vs'[j]? with
        | none => simp [hc] at h1
        | some q => simp [hc] at h1; subst h1; exact .i _ _ (hur j q v hc (by simpa using h2))) hxs
      exact finish s1 (mkTup_rel (by simpa using s2.1) fun j x v h1 h2 => s2.2 j x v h1 (by simpa using h2)) s3 s4 s5
    · simp at h
  · rename_i vs'
    split at h
    · rename_i ho
      split at h
      · rename_i xs st2 hxs
        simp at h; obtain ⟨rfl, rfl⟩ := h
        obtain ⟨us, rfl, hul, hur⟩ := hu.inv_tup
        obtain ⟨β2, s1, s2, s3, s4, s5, _⟩ := takeResL_rel (us := us.toList) hready hr1 ho (by simpa using hul) (fun j x v h1 h2 => hur j x v h1 (by simpa using h2)) hxs
        exact finish s1 (mkTup_rel (by simpa using s2.1) fun j x v h1 h2 => s2.2 j x v h1 (by simpa using h2)) s3 s4 s5
      · simp at h
    · simp at h
  · obtain ⟨β2, s1, s2, s3, s4, s5, _⟩ := takeRes_rel hready hr1 hu h
    exact finish s1 s2 s3 s4 s5
end
end Go.Vm

/- Calls with the whole heap; the operation that calls; ghosts. -/
set_option linter.unusedSimpArgs false
set_option linter.unusedVariables false
namespace Go.Vm
variable {Γ : GlobP}

section
variable {P : Program} {N : Nat} {S : Nat → Prop} {β : Beta} {st st' st1 : St} {a : Act} {w w' : World}

theorem killGone_get {h' : Heap} : ∀ {h : Heap} {e : Env} {t : Nat} {v : F}, get (killGone h' h e) t = some v → get e t = some v ∧ ∀ l, l ∈ h.map (·.1) → hget h' l = none → v.mentions l = false
  | [], e, t, v, h => ⟨h, fun l hl => by simp at hl⟩
  | (k, b) :: r, e, t, v, h => by
    simp only [killGone] at h
    obtain ⟨h1, h2⟩ := killGone_get h
    by_cases hk : (hget h' k).isNone = true
    · rw [if_pos hk] at h1
      obtain ⟨g1, g2⟩ := get_killEnv h1
      refine ⟨g1, fun l hl hn => ?_⟩
      simp at hl
      rcases hl with rfl | ⟨b, hl⟩
      · exact g2
      · exact h2 l (by simp; exact ⟨b, hl⟩) hn
    · rw [if_neg hk] at h1
      refine ⟨h1, fun l hl hn => ?_⟩
      simp at hl
      rcases hl with rfl | ⟨b, hl⟩
      · simp [hn] at hk
      · exact h2 l (by simp; exact ⟨b, hl⟩) hn
theorem dom_hget : ∀ {h : Heap} {l : Nat}, l ∈ h.map (·.1) → ∃ b, hget h l = some b
  | [], l, e => by simp at e
  | (k, v) :: r, l, e => by
    simp only [List.map_cons, List.mem_cons] at e
    simp only [hget]
    by_cases hk : k = l
    · exact ⟨v, by simp [hk]⟩
    · rw [if_neg hk]
      rcases e with e | e
      · exact absurd e.symm hk
      · exact dom_hget e

theorem thrCall_sound {C : CallSem} (hC : SoundCall Γ P C) (hr : Rel Γ N S β st a w) {g : FuncId} {vs : List F} {cv : Array Value} (hrel : Rels S w β st.hp vs cv) {v : F} (h : thrCall C g vs st = some (v, st')) : Calls P g cv w (CallDone Γ N S β st a w v st') := by
  unfold thrCall at h
  split at h
  · simp at h
  rename_i r h' n' hcall
  split at h
  case isFalse => simp at h
  rename_i hprot
  simp at h; obtain ⟨rfl, rfl⟩ := h
  refine (hC g vs st.hp st.nxt r h' n' hcall w S β cv hrel hr.hp hr.bound hr.lab (fun l hl => by obtain ⟨b, hb⟩ := dom_hget hl; exact hr.lab l b hb) hr.nxt).mono fun e w' hpost => ?_
  obtain ⟨u, S', β', rfl, hu, hhp, hb, hl, hn, hnn, hext⟩ := hpost
  refine ⟨u, S', β', rfl, hu, ⟨hr.size, hr.defers, fun t v hv => ?_, hhp, hb, hl, hn, fun l hl => Nat.lt_of_lt_of_le (hr.prot l hl) hnn⟩, ⟨hext.os, hext.tape, hext.output, hext.size, hext.same, hext.sub, hext.new, hext.own, fun l hl blk' hb' => ?_⟩, rfl⟩
  · obtain ⟨g1, g2⟩ := killGone_get hv
    obtain ⟨h1, h2⟩ := hr.env t v g1
    refine ⟨h1, h2.mono hext.sub (fun b hb => hext.same b (hr.bound b hb) fun ⟨m, blk, base, q1, q2⟩ => ?_) fun l hl blk hbl => ?_⟩
    · rcases hr.hp.blk m blk q1 with ⟨z, _⟩ | ⟨b', base', z, z2, _⟩
      · rw [q2] at z; simp at z
      · rw [q2] at z; simp at z; obtain ⟨rfl, rfl⟩ := z; exact z2 hb
    · have hd := hget_dom hbl
      cases hh : hget h' l with
      | none => have := g2 l hd hh; simp [this] at hl
      | some blk' =>
        obtain ⟨blk0, e1, e2, e3, e4⟩ := hext.prot l hd blk' hh
        rw [hbl] at e1; simp at e1; subst e1
        exact ⟨e2, ⟨blk', rfl, by omega⟩, e4⟩
  · have := List.all_eq_true.1 hprot l hl
    simp only [Bool.or_eq_true, hb'] at this
    rcases this with h1 | h1
    · obtain ⟨blk, hblk⟩ := Option.isSome_iff_exists.1 h1
      exact hext.prot l (hget_dom hblk) blk' hb'
    · simp at h1

/-! Operands of calls -/
theorem vals_rel (hr : Rel Γ N S β st a w) : ∀ {args : List (Bool × Opd)} {args' : List Operand} {vs : List (Bool × F)}, st.vals args = some vs → args'.length = args.length → (∀ (j : Nat) (x) (y), args[j]? = some x → args'[j]? = some y → chkOpd x.2 y = true) →
    vs.length = args.length ∧ ∀ (j : Nat) (x) (y), vs[j]? = some x → args'[j]? = some y → RF S w β st.hp x.2 (a.eval y)
  | [], args', vs, h, _, _ => by simp [St.vals] at h; subst h; exact ⟨rfl, fun _ _ _ h => by simp at h⟩
  | (m, o) :: args, [], vs, h, hl, _ => by simp at hl
  | (m, o) :: args, q :: args', vs, h, hl, hc => by
    simp only [St.vals] at h
    split at h
    · rename_i v l hv hvs
      simp at h; subst h
      obtain ⟨e1, e2⟩ := vals_rel hr hvs (by simpa using hl) (fun j x y h1 h2 => hc (j + 1) x y (by simpa using h1) (by simpa using h2))
      refine ⟨by simp [e1], fun j x y h1 h2 => ?_⟩
      cases j with
      | zero => simp at h1 h2; subst h1; subst h2; exact hr.val (hc 0 (m, o) q rfl rfl) hv
      | succ j => exact e2 j x y (by simpa using h1) (by simpa using h2)
    · simp at h

def chkArgs : List (Bool × Opd) → List Operand → Bool
  | [], [] => true
  | (_, x) :: xs, y :: ys => chkOpd x y && chkArgs xs ys
  | _, _ => false
theorem chkArgs_ok : ∀ {xs : List (Bool × Opd)} {ys : List Operand}, chkArgs xs ys = true → ys.length = xs.length ∧ ∀ (j : Nat) (x) (y), xs[j]? = some x → ys[j]? = some y → chkOpd x.2 y = true
  | [], [], _ => ⟨rfl, fun _ _ _ h => by simp at h⟩
  | (_, x) :: xs, y :: ys, h => by
    simp [chkArgs] at h
    obtain ⟨e1, e2⟩ := chkArgs_ok h.2
    refine ⟨by simp [e1], fun j p q hp hq => ?_⟩
    cases j with
    | zero => simp at hp hq; subst hp; subst hq; exact h.1
    | succ j => exact e2 j p q (by simpa using hp) (by simpa using hq)

/-- A function that is entered. -/
def chkFn (P : Program) (g : FuncId) : Bool :=
  match P.funcs[g]? with
  | some fn => fn.body.isSome && !(fn.name == "runtime.NumGoroutine")
  | none => false
theorem run_callFunc {g : FuncId} (h : chkFn P g = true) (args : Array Value) : (callFunc g args).run P w = .ok (.enter g args) w := by
  unfold chkFn at h
  split at h
  · rename_i fn hf
    simp at h
    obtain ⟨h1, h2⟩ := h
    obtain ⟨b, hb⟩ := Option.isSome_iff_exists.1 h1
    simp [callFunc, hf, h2, hb]
  · simp at h

theorem callOp_sound {T : Tab} {C : CallSem} (hC : SoundCall Γ P C) (hr : Rel Γ N S β st a w) {g : FuncId} {vs : List (Bool × F)} {hint : Option (Option Nat)} {cv : Array Value} (hl : cv.size = vs.length)
    (hrel : ∀ (j : Nat) (x) (v), vs[j]? = some x → cv[j]? = some v → RF S w β st.hp x.2 v) {ov : Option F} (h : callOp T C st g vs hint = some (ov, st')) : ∃ v, ov = some v ∧ Calls P g cv w (CallDone Γ N S β st a w v st') := by
  have iso : (match isoCall C g vs hint st with | some (v, st') => some (some v, st') | none => none) = some (ov, st') → ∃ v, ov = some v ∧ Calls P g cv w (CallDone Γ N S β st a w v st') := fun h => by
    split at h
    · rename_i v st2 hi
      simp at h; obtain ⟨rfl, rfl⟩ := h
      exact ⟨v, rfl, isoCall_sound hC hr hl hrel hi⟩
    · simp at h
  unfold callOp at h
  split at h
  · split at h
    · split at h
      · rename_i v st2 hi
        simp at h; obtain ⟨rfl, rfl⟩ := h
        refine ⟨v, rfl, thrCall_sound hC hr ⟨by simpa using hl, fun j y u h1 h2 => ?_⟩ hi⟩
        simp only [List.getElem?_map] at h1
        cases hc : vs[j]? with
        | none => simp [hc] at h1
        | some x => simp [hc] at h1; subst h1; exact hrel j x u hc h2
      · simp at h
    · exact iso h
  · exact iso h

/-- The operation that calls a function by its name. -/
theorem op_call {T : Tab} {C : CallSem} (hC : SoundCall Γ P C) (hr : Rel Γ N S β st a w) {o : Oper} {g : FuncId} {args : List (Bool × Opd)} {args' : Array Operand} {ts : Array TypeId} {hint : Option (Option Nat)}
    (ho : o.op = .call { callee := .value (.func g), args := args', argTypes := ts }) (hf : chkFn P g = true) (hc : chkArgs args args'.toList = true) {ov : Option F} (h : stepOp T C st (.call g args hint) = some (ov, st'))
    {K : Act → World → Prop} {Q : Exit → Act → World → Prop} (hK : ∀ v u w' S' β', ov = some v → RF S' w' β' st'.hp v u → Rel Γ N S' β' st' a w' → Ext st.prot S β st.hp w S' β' st'.hp w' → st'.prot = st.prot → K (a.put o.dst u) w') : o.wp P a w K Q := by
  simp only [stepOp] at h
  split at h
  case h_2 => simp at h
  rename_i vs hvs
  obtain ⟨c1, c2⟩ := chkArgs_ok hc
  obtain ⟨v1, v2⟩ := vals_rel hr hvs c1 c2
  obtain ⟨v, rfl, hcalls⟩ := callOp_sound (cv := args'.map a.eval) hC hr (by simp at c1 ⊢; omega) (fun j x u h1 h2 => by
    simp only [Array.getElem?_map] at h2
    cases hj : args'[j]? with
    | none => simp [hj] at h2
    | some y => simp [hj] at h2; subst h2; exact v2 j x y h1 (by simpa using hj)) h
  have hrun : (execOp a.eval o).run P w = .ok (.enter g (args'.map a.eval)) w := by
    simp [execOp, ho, resolve, Act.eval, Deferred.ofValue, invoke, run_callFunc hf]
  unfold Oper.wp
  rw [hrun]
  refine hcalls.mono fun e w' ⟨u, S', β', he, h1, h2, h3, h4⟩ => ?_
  subst he
  exact hK v u w' S' β' rfl h1 h2 h3 h4

/-- The operation that calls a function value. -/
theorem op_callv {T : Tab} {C : CallSem} (hC : SoundCall Γ P C) (hF : ∀ g vf, T.fn g = some vf → chkFn P g = true) (hP : ∀ g p, T.prim g = some p → chkFn P g = true) (hCT : ∀ g args h r, C g args h = some r → (T.fn g).isSome ∨ (T.prim g).isSome)
    (hr : Rel Γ N S β st a w) {o : Oper} {x : Opd} {x' : Operand} {args : List (Bool × Opd)} {args' : Array Operand} {ts : Array TypeId} {hint : Option (Option Nat)}
    (ho : o.op = .call { callee := .value x', args := args', argTypes := ts }) (hx : chkOpd x x' = true) (hc : chkArgs args args'.toList = true) {ov : Option F} (h : stepOp T C st (.callv x args hint) = some (ov, st'))
    {K : Act → World → Prop} {Q : Exit → Act → World → Prop} (hK : ∀ v u w' S' β', ov = some v → RF S' w' β' st'.hp v u → Rel Γ N S' β' st' a w' → Ext st.prot S β st.hp w S' β' st'.hp w' → st'.prot = st.prot → K (a.put o.dst u) w') : o.wp P a w K Q := by
  have key : ∀ {g : FuncId} {caps : List F} {cc : Array Value} {vs : List (Bool × F)}, a.eval x' = .func (.func g) #[] cc → Rels S w β st.hp caps cc → st.vals args = some vs → callOp T C st g (vs ++ caps.map fun c => (false, c)) hint = some (ov, st') → o.wp P a w K Q := fun {g caps cc vs} he hcaps hvs h => by
    obtain ⟨c1, c2⟩ := chkArgs_ok hc
    obtain ⟨v1, v2⟩ := vals_rel hr hvs c1 c2
    have hsz : (args'.map a.eval).size = vs.length := by simp at c1 ⊢; omega
    obtain ⟨v, rfl, hcalls⟩ := callOp_sound (cv := args'.map a.eval ++ cc) hC hr (by simp [hcaps.1] at hsz ⊢; omega) (fun j x u h1 h2 => by
      by_cases hj : j < vs.length
      · rw [List.getElem?_append_left hj] at h1
        rw [Array.getElem?_append_left (by omega)] at h2
        simp only [Array.getElem?_map] at h2
        cases hj : args'[j]? with
        | none => simp [hj] at h2
        | some y => simp [hj] at h2; subst h2; exact v2 j x y h1 (by simpa using hj)
      · rw [List.getElem?_append_right (by omega)] at h1
        rw [Array.getElem?_append_right (by omega), hsz] at h2
        simp only [List.getElem?_map] at h1
        cases hcj : caps[j - vs.length]? with
        | none => simp [hcj] at h1
        | some c => simp [hcj] at h1; subst h1; exact hcaps.2 _ c u hcj h2) h
    have hfn : chkFn P g = true := by
      -- the call came to something
      have : ∃ as hs r, C g as hs = some r := by
        unfold callOp at h
        split at h
        · split at h
          · unfold thrCall at h
            split at h
            · rename_i heq; split at heq
              · simp at heq
              · rename_i r h' n' hcall; exact ⟨_, _, _, hcall⟩
            · simp at h
          · unfold isoCall at h
            simp only at h
            split at h
            · rename_i heq; split at heq
              · split at heq
                · simp at heq
                · rename_i hcall; exact ⟨_, _, _, hcall⟩
              · simp at heq
            · simp at h
        · unfold isoCall at h
          simp only at h
          split at h
          · rename_i heq; split at heq
            · split at heq
              · simp at heq
              · rename_i hcall; exact ⟨_, _, _, hcall⟩
            · simp at heq
          · simp at h
      obtain ⟨as, hs, r, hcall⟩ := this
      rcases hCT g as hs r hcall with h1 | h1
      · obtain ⟨vf, hvf⟩ := Option.isSome_iff_exists.1 h1; exact hF g vf hvf
      · obtain ⟨p, hp⟩ := Option.isSome_iff_exists.1 h1; exact hP g p hp
    have hrun : (execOp a.eval o).run P w = .ok (.enter g (args'.map a.eval ++ cc)) w := by
      simp [execOp, ho, resolve, he, Deferred.ofValue, invoke, run_callFunc hfn]
    unfold Oper.wp
    rw [hrun]
    refine hcalls.mono fun e w' ⟨u, S', β', he, h1, h2, h3, h4⟩ => ?_
    subst he
    exact hK v u w' S' β' rfl h1 h2 h3 h4
  simp only [stepOp] at h
  split at h
  · rename_i g caps vs hv hvs
    have hrel := (hr.val hx hv).inv_i
    cases hrel' : a.eval x' with
    | func f1 f2 f3 =>
      rw [hrel'] at hrel
      cases hrel with
      | fn _ _ _ hs hcap =>
      refine key (caps := caps.map F.i) hrel' ⟨by simpa using hs, fun j y u h1 h2 => ?_⟩ hvs (by rw [List.map_map]; exact h)
      simp only [List.getElem?_map] at h1
      cases hc : caps[j]? with
      | none => simp [hc] at h1
      | some c => simp [hc] at h1; subst h1; exact .i _ _ (hcap j c u hc h2)
    | _ => rw [hrel'] at hrel; cases hrel
  · rename_i g caps vs hv hvs
    have hrel := hr.val hx hv
    cases hrel' : a.eval x' with
    | func f1 f2 f3 =>
      rw [hrel'] at hrel
      cases hrel with
      | fn _ _ _ hs hcap => exact key hrel' ⟨hs, hcap⟩ hvs h
    | _ => rw [hrel'] at hrel; cases hrel
  · simp at h

/-- The ghost that takes a nil slice's cell for its own. -/
theorem ownnil_rel {T : Tab} {C : CallSem} (hr : Rel Γ N S β st a w) {t off k : Nat} {hint : Option Nat} (h : stepStm T C st (.ownnil t off k hint) = some st') : ∃ β', Rel Γ N S β' st' a w ∧ Ext st.prot S β st.hp w S β' st'.hp w ∧ st'.prot = st.prot := by
  simp only [stepStm] at h
  split at h
  case h_2 => simp at h
  rename_i l o hv
  split at h
  case h_2 => simp at h
  rename_i blk hb
  split at h
  case h_2 => simp at h
  rename_i kk hat
  split at h
  · simp at h
  rename_i hk
  split at h
  case h_2 => simp at h
  rename_i m st2 hcr
  split at h
  · simp at h
  rename_i hml
  simp at h; subst h
  obtain ⟨c1, c2, c3, c4⟩ := create_rel (w' := w) (x := none) hr hcr rfl rfl rfl (Nat.le_refl _) (fun _ _ => rfl) (.inl ⟨rfl, rfl⟩)
  obtain ⟨st3, n', q1, q2, q3, q4, q5, q6, rfl, q8, q9⟩ := create_split hr hcr
  have hb2 : hget ((m, Blk.flat []) :: st3.hp) l = some blk := by
    simp only [hget]
    rw [if_neg hml, q8 l (fun e => hml e.symm)]
    exact hb
  have hF := blkAt_F hat
  simp only [F.at] at hF
  have hlt := (List.getElem?_eq_some_iff.1 hF).1
  have hlc := Blk.len_cells blk
  cases hβ : β l with
  | none =>
    rcases hr.hp.blk l blk hb with ⟨_, h0⟩ | ⟨b, base, h0, _⟩
    · omega
    · rw [hβ] at h0; simp at h0
  | some p =>
    obtain ⟨b, base⟩ := p
    have hβ2 : upd β m none l = some (b, base) := by rw [upd_ne (fun e => hml e.symm)]; exact hβ
    obtain ⟨_, c, e, fr, hc, hfr, hlen, hcells⟩ := c1.blkRel hb2 hβ2
    obtain ⟨u, hu, hru⟩ := hcells (o + off) _ hF
    have hun : u = .slice none 0 0 := by have := hru.inv_i; cases this; rfl
    subst hun
    obtain ⟨t1, t2⟩ := turn_rel (w' := w) (blk' := blk.store (o + off) [.own m 0 0 k]) c1 hb2 hβ2 (store_len (by simp; omega)) rfl rfl rfl rfl (fun _ _ => rfl) hc hc rfl (fun j y hy => by
      rcases store_cells (S := S) (w := w) (β := upd β m none) (hp := (m, Blk.flat []) :: st3.hp) (us := [.slice none 0 0]) (by simp; omega) rfl (fun j y u h1 h2 => by
        cases j with
        | zero => simp at h1 h2; subst h1; subst h2; exact .own0 m 0 k _ none c4 (by simp) (by omega)
        | succ j => simp at h1) j y hy with ⟨h1, h2, u, h3, h4⟩ | ⟨h1, h2⟩
      · simp at h2
        have : j = o + off := by omega
        subst this
        simp at h3; subst h3
        exact ⟨_, hu, h4⟩
      · exact hcells j y h2)
    exact ⟨_, t1, c2.trans (c3 ▸ t2), c3⟩
end
end Go.Vm

/- append(xs, make(T, n)...): the second argument is the number. -/
set_option linter.unusedSimpArgs false
set_option linter.unusedVariables false
namespace Go.Vm
variable {Γ : GlobP}
section
variable {P : Program} {w : World}

theorem run_append_room_z (t tn ty e : TypeId) (i : TypeInfo) (z : Value) (k kn : IntKind) (ht : P.underlying t = some (.slice e)) (htn : P.underlying tn = some (.int kn)) (hi : P.info? e = some i) (hz : i.zero = some z) (b off sLen sCap n : Nat) (hs : 0 < i.size)
    (h63 : (n : Int) ≤ 9223372036854775807) (h48 : n * i.bytes ≤ 281474976710656) (hroom : sLen + n ≤ sCap) (news : List Value) (hn : news = (Builtin.zeroCells z.cells n).toList)
    (hc : ∀ j, j < news.length → (w.cell? ⟨b, off + sLen * i.size + j, none⟩).isSome = true) (hf : ∀ j, j < news.length → w.frozen? ⟨b, off + sLen * i.size + j, none⟩ = false) (h1 : ∀ u ∈ news, u.oneCell' = true) :
    (Builtin.append_ #[t, tn] ty #[.slice (some ⟨b, off, none⟩) sLen sCap, .int k n]).run P w = .ok (.slice (some ⟨b, off, none⟩) (sLen + n) sCap) (w.setCells b (off + sLen * i.size) news) := by
  have hst := run_storeCells_cells (P := P) b (off + sLen * i.size) news 0 w (by simpa using hc) (by simpa using hf) h1
  simp only [Nat.add_zero] at hst
  have hw : IntKind.i64.wrap (n : Int) = n := by rw [IntKind.wrap_i64]; omega
  have hneg : ¬ ((n : Int) < 0) := by omega
  have h48i : ¬ (281474976710656 < (n : Int) * (i.bytes : Int)) := by rw [← Int.natCast_mul]; omega
  by_cases h0 : n * i.size = 0
  · have hn0 : n = 0 := by rcases Nat.mul_eq_zero.1 h0 with h | h <;> omega
    subst hn0
    have hnil : news = [] := by rw [hn]; simp [Builtin.zeroCells]
    subst hnil
    have hw0 : IntKind.i64.wrap 0 = 0 := by simpa using hw
    have hr0 : sLen ≤ sCap := by omega
    simp [Builtin.append_, run_underlying ht, run_underlying htn, sizeOf, typeInfo, zeroValue, hi, hz, asInt, asIntOf, hr0, hw0, Addr.add_lit, hst]
  · subst hn
    simp [Builtin.append_, run_underlying ht, run_underlying htn, sizeOf, typeInfo, zeroValue, hi, hz, asInt, asIntOf, hw, hneg, h48i, h0, hroom, Addr.add_lit, hst]

theorem run_append_grow_z (t tn ty e : TypeId) (i : TypeInfo) (z : Value) (k kn : IntKind) (ht : P.underlying t = some (.slice e)) (htn : P.underlying tn = some (.int kn)) (hi : P.info? e = some i) (hz : i.zero = some z) (base : Option Addr) (sLen sCap n : Nat) (hs : 0 < i.size)
    (h63n : (n : Int) ≤ 9223372036854775807) (h48 : n * i.bytes ≤ 281474976710656) (olds news : List Value) (hold : (Builtin.firstCells i.size sLen (.slice base sLen sCap)).run P w.drew = .ok olds.toArray w.drew)
    (hn : news = (Builtin.zeroCells z.cells n).toList) (hg : sCap < sLen + n) (h63 : ((sLen + n : Nat) : Int) ≤ 9223372036854775807) (hfit : Builtin.nextslicecap (sLen + n) sCap * i.bytes ≤ 281474976710656) :
    (Builtin.append_ #[t, tn] ty #[.slice base sLen sCap, .int k n]).run P w =
      .ok (.slice (some ⟨w.heap.size, 0, none⟩) (sLen + n) (grownCap w (sLen + n) sCap e))
        (w.drew.alloc (.cells ((olds ++ news).toArray ++ Builtin.zeroCells z.cells (grownCap w (sLen + n) sCap e - (sLen + n))) e)) := by
  have hnn : ¬ (sLen + n ≤ sCap) := by omega
  have h63' : ¬ (9223372036854775807 < ((sLen : Int) + (n : Int))) := by omega
  have h48' : ¬ (281474976710656 < Builtin.nextslicecap (sLen + n) sCap * i.bytes) := by omega
  have hw : IntKind.i64.wrap (n : Int) = n := by rw [IntKind.wrap_i64]; omega
  have hneg : ¬ ((n : Int) < 0) := by omega
  have h48i : ¬ (281474976710656 < (n : Int) * (i.bytes : Int)) := by rw [← Int.natCast_mul]; omega
  subst hn
  by_cases h0 : n * i.size = 0
  · have hn0 : n = 0 := by rcases Nat.mul_eq_zero.1 h0 with h | h <;> omega
    subst hn0
    have hw0 : IntKind.i64.wrap 0 = 0 := by simpa using hw
    have hr0 : ¬ sLen ≤ sCap := by omega
    have h64 : ¬ (9223372036854775807 < (sLen : Int)) := by omega
    have h65 : ¬ (281474976710656 < Builtin.nextslicecap sLen sCap * i.bytes) := by simpa using h48'
    simp [Builtin.append_, run_underlying ht, run_underlying htn, sizeOf, typeInfo, zeroValue, hi, hz, asInt, asIntOf, hw0, hr0, h64, h65, Question.forced, hold, newRow, grownCap]
    congr 2
    apply Array.ext'
    simp [List.append_assoc, Builtin.zeroCells]
  · simp [Builtin.append_, run_underlying ht, run_underlying htn, sizeOf, typeInfo, zeroValue, hi, hz, asInt, asIntOf, hw, hneg, h48i, h0, hnn, h63', h48', Question.forced, hold, newRow, grownCap]
    congr 2
    apply Array.ext'
    simp [List.append_assoc]
end
end Go.Vm

/- append(xs, make(T, n)...), in the machine. -/
set_option linter.unusedSimpArgs false
set_option linter.unusedVariables false
namespace Go.Vm
variable {Γ : GlobP}
section
variable {P : Program} {N : Nat} {S : Nat → Prop} {β : Beta} {st st' st1 : St} {a : Act} {w w' : World}

def chkAppz (P : Program) (t tx : TypeId) (k bytes : Nat) (zero : List I) : Bool :=
  (match P.underlying tx with | some (.int _) => true | _ => false) &&
  match P.underlying t with
  | some (.slice e) => (match P.info? e with
    | some i => i.size == k && i.bytes == bytes && i.bytes != 0 && (match i.zero with | some z => z.cells.size == k && chkIL zero z.cells.toList | none => false)
    | none => false)
  | _ => false

theorem chkI_one {x : I} {v : Value} (h : chkI x v = true) : v.oneCell' = true := by
  unfold chkI at h
  split at h <;> first | rfl | simp at h
theorem chkIL_one : ∀ {xs : List I} {vs : List Value}, chkIL xs vs = true → ∀ v ∈ vs, v.oneCell' = true
  | [], [], _, v, h => by simp at h
  | [], _ :: _, h, _, _ => by simp [chkIL] at h
  | _ :: _, [], h, _, _ => by simp [chkIL] at h
  | x :: xs, u :: vs, h, v, hv => by
    simp only [chkIL, Bool.and_eq_true] at h
    rcases List.mem_cons.1 hv with rfl | hv
    · exact chkI_one h.1
    · exact chkIL_one h.2 v hv

theorem op_appz (hr : Rel Γ N S β st a w) {o : Oper} {x y : Opd} {x' y' : Operand} {t tx : TypeId} {k bytes : Nat} {zero : List I} {hint : Option Nat} (ho : o.op = .call { callee := .builtin .append, args := #[x', y'], argTypes := #[t, tx] })
    (hx : chkOpd x x' = true) (hy : chkOpd y y' = true) (hc : chkAppz P t tx k bytes zero = true)
    {ov : Option F} (h : evalOp st (.appz k bytes zero x y hint) = some (ov, st')) : OpPost Γ N S β st a w ((execOp a.eval o).run P w) ov st' := by
  simp only [evalOp] at h
  split at h
  case h_2 => simp at h
  rename_i l off len k' kk m hvx hvy
  split at h
  case h_2 => simp at h
  rename_i blk hb
  split at h
  case isFalse => simp at h
  rename_i hcond
  obtain ⟨rfl, hk, hm, hoff, hbytes, hment⟩ := hcond
  split at h
  case h_2 => simp at h
  rename_i st1 hkill
  split at h
  case h_2 => simp at h
  rename_i l' st2 hcreate
  simp at h; obtain ⟨rfl, rfl⟩ := h
  simp only [chkAppz, Bool.and_eq_true] at hc
  obtain ⟨hct, hc⟩ := hc
  obtain ⟨kn, htn⟩ : ∃ kn, P.underlying tx = some (.int kn) := by
    split at hct
    · exact ⟨_, by assumption⟩
    · simp at hct
  split at hc
  case h_2 => simp at hc
  rename_i e hu
  split at hc
  case h_2 => simp at hc
  rename_i i hi
  simp only [Bool.and_eq_true, beq_iff_eq, bne_iff_ne, ne_eq] at hc
  obtain ⟨⟨⟨hsz, hby⟩, hby0⟩, hzero⟩ := hc
  split at hzero
  case h_2 => simp at hzero
  rename_i z hz
  simp only [Bool.and_eq_true, beq_iff_eq] at hzero
  obtain ⟨hzk, hzz⟩ := hzero
  obtain ⟨z1, z2⟩ := chkIL_ok (S := S) (w := w) hzz
  have hye := (hr.val hy hvy).inv_i.inv_int
  obtain ⟨n, rfl⟩ : ∃ n : Nat, m = n := ⟨m.toNat, by omega⟩
  simp only [Int.toNat_natCast] at hbytes hment hcreate ⊢
  have hzl : zero.length = k' := by have : z.cells.toList.length = z.cells.size := by simp
                                    omega
  have hone : ∀ u ∈ (Builtin.zeroCells z.cells n).toList, u.oneCell' = true := fun u hu => by
    simp [Builtin.zeroCells] at hu
    obtain ⟨j, hj, rfl⟩ := hu
    have hlt : j % z.cells.size < z.cells.size := Nat.mod_lt _ (by omega)
    rw [getElem!_pos z.cells _ hlt]
    exact chkIL_one hzz _ (by simp)
  have hb1 : n ≤ n * i.bytes := Nat.le_mul_of_pos_right _ (by omega)
  have hb2 : n * i.bytes ≤ (len + n) * i.bytes := Nat.mul_le_mul_right _ (by omega)
  rw [← hby] at hbytes
  have hap : AppRun P w t tx e o.type i z (a.eval y') n (Builtin.zeroCells z.cells n).toList := by
    rw [hye]
    refine ⟨by simp [size_zeroCells, hzk, hsz], fun hn X => ?_, fun b off sLen sCap h1 h2 h3 => run_append_room_z t tx o.type e i z kk kn hu htn hi hz b off sLen sCap n (by omega) (by omega) (by omega) h1 _ rfl h2 h3 hone,
      fun base sLen sCap olds h1 h2 h3 h4 => run_append_grow_z t tx o.type e i z kk kn hu htn hi hz base sLen sCap n (by omega) (by omega) (by omega) olds _ h1 rfl h2 h3 h4⟩
    subst hn
    have hw0 : IntKind.i64.wrap 0 = 0 := by rw [IntKind.wrap_i64]; rfl
    cases X <;> simp [Builtin.append_, run_underlying hu, run_underlying htn, sizeOf, typeInfo, zeroValue, hi, hz, asInt, asIntOf, hw0, storeCells]
  refine app_core hr ho (hr.val hx hvx) hb hk hoff hment hkill hcreate hsz hzk hby0 hbytes hap (by simp [size_zeroCells, hzk, hzl]) fun j y u hy hu => ?_
  simp only [List.getElem?_map] at hy
  cases hj : (List.replicate n zero).flatten[j]? with
  | none => simp [hj] at hy
  | some c =>
    simp [hj] at hy; subst hy
    obtain ⟨q1, q2⟩ := flatten_replicate (by omega) n j c hj
    refine .i _ _ (z2 (j % zero.length) c u q2 ?_)
    have hlt : j % z.cells.size < z.cells.size := Nat.mod_lt _ (by omega)
    simp [Builtin.zeroCells, show j < n * z.cells.size by rw [hzk, ← hzl]; exact q1] at hu
    rw [getElem!_pos z.cells _ hlt] at hu
    rw [hzl, ← hzk]
    simp [hlt, hu]
end
end Go.Vm

/- Comparing a slice with nil; copying into an owned slice. -/
set_option linter.unusedSimpArgs false
set_option linter.unusedVariables false
namespace Go.Vm
variable {Γ : GlobP}

section
variable {P : Program} {N : Nat} {S : Nat → Prop} {β : Beta} {st st' : St} {a : Act} {w : World}

def chkNil (P : Program) (t : TypeId) : Bool := match P.underlying t with | some (.slice _) => true | _ => false

theorem op_isnil (hr : Rel Γ N S β st a w) {o : Oper} {x : Opd} {x' : Operand} {t t' : TypeId} {neg : Bool} (ho : o.op = .binOp (if neg then .neq else .eql) t x' (.const (.slice none 0 0)) t') (hx : chkOpd x x' = true) (hc : chkNil P t = true)
    {ov : Option F} (h : evalOp st (.isnil neg x) = some (ov, st')) : OpPost Γ N S β st a w ((execOp a.eval o).run P w) ov st' := by
  obtain ⟨e, he⟩ : ∃ e, P.underlying t = some (.slice e) := by
    unfold chkNil at hc
    split at hc
    · rename_i e he; exact ⟨e, he⟩
    · simp at hc
  have hrun : ∀ (q : Option Addr) (len cap : Nat), a.eval x' = .slice q len cap → (execOp a.eval o).run P w = .ok (.value (.bool (q.isNone != neg))) w := fun q len cap hq => by
    have hk : a.eval (.const (.slice none 0 0)) = .slice none 0 0 := rfl
    cases neg
    · simp only [if_neg (show ¬ (false = true) by simp)] at ho
      simp [execOp, ho, hq, hk, eqGuard, binOp, run_equal_slice_nil w t e q len cap he]
    · simp only [if_true] at ho
      simp [execOp, ho, hq, hk, eqGuard, binOp, run_equal_slice_nil w t e q len cap he]
  simp only [evalOp] at h
  split at h
  · rename_i k hv
    simp at h; obtain ⟨rfl, rfl⟩ := h
    have h1 : a.eval x' = .slice none 0 0 := by
      have := (hr.val hx hv).inv_i
      generalize a.eval x' = q at this
      cases this; rfl
    refine OpPost.pure hr (hrun _ _ _ h1) (.i _ _ ?_)
    cases neg <;> exact .bool _
  · rename_i k cs hv
    split at h
    · simp at h
    · rename_i hne
      simp at h; obtain ⟨rfl, rfl⟩ := h
      obtain ⟨q, len, cap, e1, hlen, hcap, hd⟩ := (hr.val hx hv).inv_i.inv_sl
      rcases hd with rfl | ⟨hk, hl0, b, off, vs, rfl, _⟩
      · simp at hne
      · refine OpPost.pure hr (hrun _ _ _ e1) (.i _ _ ?_)
        cases neg <;> exact .bool _
  · rename_i l off len k hv
    split at h
    · simp at h
    · rename_i hne
      simp at h; obtain ⟨rfl, rfl⟩ := h
      obtain ⟨blk, q, cap, hb, e1, hk, hlen, hcap, hd⟩ := (hr.val hx hv).inv_own
      rcases hd with ⟨rfl, _⟩ | ⟨b, base, m, e', rfl, hβ, hs, hm⟩
      · exact absurd rfl hne
      · refine OpPost.pure hr (hrun _ _ _ e1) (.i _ _ ?_)
        cases neg <;> exact .bool _
  · simp at h

def chkCopy (P : Program) (t tx : TypeId) : Bool :=
  match P.underlying t with
  | some (.slice e) => (match P.info? e with | some i => i.size == 1 | none => false)
  | _ => false

theorem copyTo_rel (hr : Rel Γ N S β st a w) {o : Oper} {x' y' : Operand} {t tx : TypeId} (ho : o.op = .call { callee := .builtin .copy, args := #[x', y'], argTypes := #[t, tx] }) (hc : chkCopy P t tx = true)
    {l off len : Nat} (hvx : RF S w β st.hp (.own l off len 1) (a.eval x')) {news : List F} {us : List Value} {a2 : Addr} {sLen sCap : Nat} (hy : a.eval y' = .slice (some a2) sLen sCap) (hl : us.length = news.length) (hsl : us.length = sLen)
    (hsrc : ∀ (j : Nat) (v), us[j]? = some v → w.cell? (a2.add j) = some v) (hrel : ∀ (j : Nat) (x) (v), news[j]? = some x → us[j]? = some v → RF S w β st.hp x v)
    {ov : Option F} (h : st.copyTo l off len news = some (ov, st')) : OpPost Γ N S β st a w ((execOp a.eval o).run P w) ov st' := by
  unfold St.copyTo at h
  split at h
  case h_2 => simp at h
  rename_i blk hb
  split at h
  case isFalse => simp at h
  rename_i hcond
  obtain ⟨hpos, hoff, hone⟩ := hcond
  simp only [Option.some.injEq, Prod.mk.injEq] at h
  obtain ⟨rfl, rfl⟩ := h
  obtain ⟨m, hm⟩ : ∃ m, m = min news.length len := ⟨_, rfl⟩
  rw [← hm] at hpos hoff hone ⊢
  obtain ⟨blk', q, cap, hb', he, hk, hlen', hcap, hd⟩ := hvx.inv_own
  rw [hb] at hb'; simp at hb'; subst hb'
  rcases hd with ⟨rfl, _⟩ | ⟨b, base, n, e', rfl, hβ, hs, hn⟩
  · simp at hm; omega
  obtain ⟨hSb, c, e, fr, hcb, hfr, hlen, hcells⟩ := hr.blkRel hb hβ
  have hml : m ≤ news.length := by omega
  have hmlen : m ≤ len := by omega
  have hcs : (us.take m).length = m := by simp; omega
  have hnl : (news.take m).length = m := by simp; omega
  have hrel' : ∀ (j : Nat) (x) (v), (news.take m)[j]? = some x → (us.take m)[j]? = some v → RF S w β st.hp x v := fun j x v h1 h2 => by
    rw [List.getElem?_take] at h1 h2
    split at h1
    · rw [if_pos (by assumption)] at h2; exact hrel j x v h1 h2
    · simp at h1
  have hcell : ∀ j, j < (us.take m).length → (w.cell? ⟨b, base + off + j, none⟩).isSome = true := fun j hj => by
    simp [World.cell?, hcb, show base + off + j < c.size by omega]
  have hfrz : ∀ j, j < (us.take m).length → w.frozen? ⟨b, base + off + j, none⟩ = false := fun j hj => by
    have := hfr (base + off + j) (by omega)
    simp [World.frozen?, hcb]
    intro h1
    simp at this
    have := this h1
    omega
  have hones : ∀ u ∈ us.take m, u.oneCell' = true := fun u hu => by
    obtain ⟨j, hj, rfl⟩ := List.mem_iff_getElem.1 hu
    refine one_rel (hrel' j ((news.take m)[j]'(by omega)) _ (List.getElem?_eq_getElem _) (List.getElem?_eq_getElem _)) ?_
    exact List.all_eq_true.1 hone _ (List.getElem_mem _)
  obtain ⟨el, hel, hsz⟩ : ∃ el, P.underlying t = some (.slice el) ∧ (P.info? el).map (·.size) = some 1 := by
    unfold chkCopy at hc
    split at hc
    · rename_i el hel
      refine ⟨el, hel, ?_⟩
      split at hc
      · rename_i i hi; simp [hi]; simpa using hc
      · simp at hc
    · simp at hc
  have hrun := run_copy_cells (P := P) w t tx o.type el b (base + off) len cap a2 sLen sCap (us.take m) hel hsz (by rw [hcs, hm, ← hl, hsl]) (fun j v hj => by
    rw [List.getElem?_take] at hj
    split at hj
    · exact hsrc j v hj
    · simp at hj) hcell hfrz hones
  obtain ⟨c', g1, g2, g3, g4, g5, g6, g7, g8⟩ := setCells_heap b (us.take m) (base + off) w c e fr hcb (by omega)
  obtain ⟨t1, t2⟩ := turn_rel (w' := w.setCells b (base + off) (us.take m)) (blk' := blk.store off (news.take m)) hr hb hβ (store_len (by omega)) g6 g7 g8 g5 g4 hcb g1 g2 (fun j q hq => by
    rcases store_cells (us := us.take m) (S := S) (w := w) (β := β) (hp := st.hp) (by omega) (by omega) hrel' j q hq with ⟨h1, h2, u, hu, hrel⟩ | ⟨h1, h2⟩
    · refine ⟨u, ?_, hrel⟩
      rw [g3, if_pos (by omega), show base + j - (base + off) = j - off by omega]
      exact hu
    · obtain ⟨u, hu, hrel⟩ := hcells j q h2
      refine ⟨u, ?_, hrel⟩
      rw [g3, if_neg (by omega)]
      exact hu)
  refine ⟨.value (goInt (us.take m).length), _, S, β, ?_, ⟨_, rfl, ?_⟩, t1, t2, rfl⟩
  · simp [execOp, ho, resolve, invoke, builtin, he, hy, hrun]
  · rw [hcs]
    exact .i _ _ (.int _ _)

theorem op_copy (hr : Rel Γ N S β st a w) {o : Oper} {x y : Opd} {x' y' : Operand} {t tx : TypeId} (ho : o.op = .call { callee := .builtin .copy, args := #[x', y'], argTypes := #[t, tx] })
    (hx : chkOpd x x' = true) (hy : chkOpd y y' = true) (hc : chkCopy P t tx = true)
    {ov : Option F} (h : evalOp st (.copy x y) = some (ov, st')) : OpPost Γ N S β st a w ((execOp a.eval o).run P w) ov st' := by
  simp only [evalOp] at h
  split at h
  · rename_i l off len cs hvx hvy
    obtain ⟨q, sl, cap, e1, hlen, hcap, hd⟩ := (hr.val hy hvy).inv_i.inv_sl
    rcases hd with rfl | ⟨hk, hl0, b, off2, vs, rfl, hS, hl, hcell, hrel⟩
    · exfalso
      unfold St.copyTo at h
      split at h
      · split at h
        · rename_i hcond; simp at hcond
        · simp at h
      · simp at h
    · refine copyTo_rel hr ho hc (hr.val hx hvx) e1 (us := vs) (by simpa using hl) (by omega) (fun j v hj => by rw [addr_add]; exact hcell j v hj) (fun j x v h1 h2 => ?_) h
      simp only [List.getElem?_map] at h1
      cases hj : cs[j]? with
      | none => simp [hj] at h1
      | some c => simp [hj] at h1; subst h1; exact .i _ _ (hrel j c v hj h2)
  · rename_i l off len l2 off2 len2 hvx hvy
    split at h
    case h_2 => simp at h
    rename_i b2 hb2
    split at h
    case isFalse => simp at h
    rename_i hle
    obtain ⟨blk, q, cap, hb, e1, hk, hlen, hcap, hd⟩ := (hr.val hy hvy).inv_own
    rw [hb2] at hb; simp at hb; subst hb
    rcases hd with ⟨rfl, _⟩ | ⟨b, base, n, e', rfl, hβ, hs, hn⟩
    · exfalso
      unfold St.copyTo at h
      split at h
      · split at h
        · rename_i hcond; simp at hcond
        · simp at h
      · simp at h
    · obtain ⟨vs, hl, hcell, hrel⟩ := (hr.blkRel hb2 hβ).2.vals
      obtain ⟨p1, p2⟩ := cells_part hl hrel off2 len2
      have hbl := Blk.len_cells b2
      refine copyTo_rel hr ho hc (hr.val hx hvx) e1 p1 (by simp; omega) (fun j v hj => ?_) p2 h
      rw [addr_add]
      rw [List.getElem?_take] at hj
      split at hj
      · rw [List.getElem?_drop] at hj
        have := hcell _ _ hj
        rw [← Nat.add_assoc] at this
        exact this
      · simp at hj
  · simp at h

theorem fadi_fad {off : Nat} {x : Opd} {r : Option F × St} (h : evalOp st (.fadi off x) = some r) : evalOp st (.fad off x) = some r := by
  simp only [evalOp] at h ⊢
  split at h
  · rename_i cs o hv; simp only [hv]; exact h
  · simp at h
theorem loadi_load {n : Option Nat} {x : Opd} {r : Option F × St} (h : evalOp st (.loadi n x) = some r) : evalOp st (.load n x) = some r := by
  simp only [evalOp] at h ⊢
  split at h
  · rename_i cs o hv; simp only [hv]; exact h
  · simp at h
theorem loadl_load {lab : Nat} {n : Option Nat} {x : Opd} {r : Option F × St} (h : evalOp st (.loadl lab n x) = some r) : evalOp st (.load n x) = some r := by
  simp only [evalOp] at h ⊢
  split at h
  · rename_i l o hv
    split at h
    · rename_i hl; subst hl; simp only [hv]; exact h
    · simp at h
  · simp at h
theorem storel_store {lab n : Nat} {x y : Opd} {r : Option F × St} (h : evalOp st (.storel lab n x y) = some r) : evalOp st (.store n x y) = some r := by
  simp only [evalOp] at h ⊢
  split at h
  · rename_i l o v hv hu
    split at h
    · rename_i hl; subst hl; first | exact h | (simp only [hv, hu]; exact h)
    · simp at h
  · simp at h

/-- A box that nobody writes: it is immutable from the start. -/
theorem op_boxi (hr : Rel Γ N S β st a w) {o : Oper} {t : TypeId} {x : Opd} {x' : Operand} (ho : o.op = .box t x') (hx : chkOpd x x' = true)
    {ov : Option F} (h : evalOp st (.boxi x) = some (ov, st')) : OpPost Γ N S β st a w ((execOp a.eval o).run P w) ov st' := by
  simp only [evalOp] at h
  split at h
  case h_2 => simp at h
  rename_i v hv
  simp at h; obtain ⟨rfl, rfl⟩ := h
  have hrel := hr.val hx hv
  obtain ⟨e1, e2⟩ := cells_rel hrel
  have hsz : (w.alloc (.cells (a.eval x').cells t)).heap.size = w.heap.size + 1 := by simp
  have hsame : ∀ b, b < w.heap.size → (w.alloc (.cells (a.eval x').cells t)).heap[b]? = w.heap[b]? := fun b hb => Go.RowKit.Below.heap_alloc _ _ b hb
  have hnew : (w.alloc (.cells (a.eval x').cells t)).heap[w.heap.size]? = some (.cells (a.eval x').cells t) := by
    show (w.heap.push _)[w.heap.size]? = _
    simp
  have hcells : (F.cells (.i v)) = v.cells.map .i := rfl
  rw [hcells] at e1 e2
  have hlen : (a.eval x').cells.size = v.cells.length := by simpa using e1
  have ownlt : ∀ b, Own β st.hp b → b < w.heap.size ∧ ¬ S b := fun b ⟨l, blk, base, h1, h2⟩ => by
    rcases hr.hp.blk l blk h1 with ⟨h3, _⟩ | ⟨b', base', h3, h4, c, e, fr, h5, _⟩
    · rw [h2] at h3; simp at h3
    · rw [h2] at h3; simp at h3; obtain ⟨rfl, rfl⟩ := h3
      exact ⟨(Array.getElem?_eq_some_iff.1 h5).1, h4⟩
  have keeps : ∀ m, Keeps w (w.alloc (.cells (a.eval x').cells t)) β β st.hp st.hp m := fun m blk hb => ⟨rfl, ⟨blk, hb, Nat.le_refl _⟩, fun b base hβ e n h => by
    simp only [World.shape?] at h ⊢; rw [hsame b (ownlt b ⟨m, blk, base, hb, hβ⟩).1]; exact h⟩
  have hS : ∀ b, S b → (S b ∨ b = w.heap.size) := fun b hb => .inl hb
  have hSw : ∀ b, S b → (w.alloc (.cells (a.eval x').cells t)).heap[b]? = w.heap[b]? := fun b hb => hsame b (hr.bound b hb)
  refine ⟨.value (.pointer (some ⟨w.heap.size, 0, none⟩)), w.alloc (.cells (a.eval x').cells t), fun b => S b ∨ b = w.heap.size, β, ?_, ⟨_, rfl, .i _ _ ?_⟩, ?_, ?_, rfl⟩
  · simp [execOp, ho, Instr.box, newVar, newRow]
  · have := RI.pim (S := fun b => S b ∨ b = w.heap.size) (w := w.alloc (.cells (a.eval x').cells t)) v.cells 0 w.heap.size 0 (a.eval x').cells.toList (.inr rfl) (by simpa using hlen) (fun j u hj => by
      simp only [World.cell?]
      rw [hnew]
      simpa using hj) (fun j y u h1 h2 => ((e2 j (.i y) u (by simp [h1]) (by simpa using h2)).inv_i).mono hS hSw) ⟨_, _, _, hnew⟩
    simpa using this
  · refine ⟨hr.size, hr.defers, fun q z hz => ⟨(hr.env q z hz).1, (hr.env q z hz).2.mono hS hSw fun m _ => keeps m⟩, ⟨fun l blk hb => ?_, hr.hp.inj, Γ.mono _ _ _ _ hr.hp.glob hS hSw⟩, fun b hb => ?_, hr.lab, hr.nxt, hr.prot⟩
    · rcases hr.hp.blk l blk hb with q | ⟨b, base, q1, q2, q3⟩
      · exact .inl q
      · have := ownlt b ⟨l, blk, base, hb, q1⟩
        refine .inr ⟨b, base, q1, fun hb' => ?_, q3.mono hS hSw (hsame b this.1) fun m _ => keeps m⟩
        rcases hb' with hb' | rfl
        · exact q2 hb'
        · omega
    · rw [hsz]
      rcases hb with hb | rfl
      · have := hr.bound b hb; omega
      · omega
  · refine ⟨rfl, rfl, rfl, by rw [hsz]; omega, fun b hb _ => hsame b hb, fun b hb => .inl hb, fun b hb => ?_, fun b hb => .inl hb, fun l hl blk' hb' => ⟨blk', hb', rfl, rfl, fun b base hβ e n hs => ?_⟩⟩
    · rcases hb with hb | rfl
      · exact .inl hb
      · exact .inr (.inr (Nat.le_refl _))
    · have := (ownlt b ⟨l, blk', base, hb', hβ⟩).1
      simp only [World.shape?] at hs ⊢
      rw [hsame b this]; exact hs
end
end Go.Vm

/- Operations that drawn regions may hold in any order: sound. -/
set_option linter.unusedSimpArgs false
set_option linter.unusedVariables false
namespace Go.Vm
variable {Γ : GlobP}

section
variable {P : Program} {N : Nat} {S : Nat → Prop} {β : Beta} {st st' st1 : St} {a : Act} {w w' : World}

theorem fadl_fad {lab off : Nat} {x : Opd} {r : Option F × St} (h : evalOp st (.fadl lab off x) = some r) : evalOp st (.fad off x) = some r := by
  simp only [evalOp] at h ⊢
  split at h
  · rename_i l o hv
    split at h
    · simp only [hv]; exact h
    · simp at h
  · simp at h
theorem mvi_mv {x : Opd} {r : Option F × St} (h : evalOp st (.mvi x) = some r) : evalOp st (.mv x) = some r := by
  simp only [evalOp] at h ⊢
  split at h
  · rename_i v hv; simp only [hv]; exact h
  · simp at h
theorem iadi_iad {k : Nat} {x i : Opd} {r : Option F × St} (h : evalOp st (.iadi k x i) = some r) : evalOp st (.iad k x i) = some r := by
  simp only [evalOp] at h ⊢
  split at h
  · rename_i k' cs q n hv hi; simp only [hv, hi]; exact h
  · simp at h
theorem loadli_load {lab : Nat} {n : Option Nat} {x : Opd} {r : Option F × St} (h : evalOp st (.loadli lab n x) = some r) : evalOp st (.load n x) = some r := by
  simp only [evalOp] at h ⊢
  split at h
  · rename_i l o hv
    split at h
    · rename_i hl; subst hl
      simp only [hv]
      split at h
      · rename_i b hb
        split at h
        · rename_i v hat
          simp only [hat]; exact h
        · simp at h
      · simp at h
    · simp at h
  · simp at h
theorem calli_call {T : Tab} {C : CallSem} {g : FuncId} {args : List (Bool × Opd)} {r : Option F × St} (h : stepOp T C st (.calli g args) = some r) : stepOp T C st (.call g args none) = some r := by
  simp only [stepOp] at h ⊢
  split at h
  · rename_i vs hvs
    split at h
    · split at h
      · rename_i v st2 hc
        rw [hc]; exact h
      · simp at h
    · simp at h
  · simp at h

/-- Heaps that answer alike. -/
theorem Rel.heaps (hr : Rel Γ N S β st a w) {hp : Heap} (e : ∀ l, hget hp l = hget st.hp l) : Rel Γ N S β { st with hp := hp } a w := by
  have keeps : ∀ m, Keeps w w β β st.hp hp m := fun m blk hb => ⟨rfl, ⟨blk, by rw [e]; exact hb, Nat.le_refl _⟩, fun _ _ _ _ _ h => h⟩
  refine ⟨hr.size, hr.defers, fun t v hv => ⟨(hr.env t v hv).1, (hr.env t v hv).2.mono (fun _ h => h) (fun _ _ => rfl) fun m _ => keeps m⟩, ⟨fun m blk hb => ?_, fun m m' blk blk' b base base' h1 h2 h3 h4 => hr.hp.inj m m' blk blk' b base base' (by rw [← e]; exact h1) (by rw [← e]; exact h2) h3 h4, hr.hp.glob⟩, hr.bound, fun m blk hb => hr.lab m blk (by rw [← e]; exact hb), hr.nxt, hr.prot⟩
  have hb : hget hp m = some blk := hb
  rw [e] at hb
  rcases hr.hp.blk m blk hb with h1 | ⟨b, base, h1, h2, h3⟩
  · exact .inl h1
  · exact .inr ⟨b, base, h1, h2, h3.mono (fun _ h => h) (fun _ _ => rfl) rfl fun k _ => keeps k⟩
theorem Ext.heaps {prot : List Nat} {S' : Nat → Prop} {β' : Beta} {hp hp1 hp2 : Heap} (h : Ext prot S β hp w S' β' hp1 w') (e : ∀ l, hget hp2 l = hget hp1 l) : Ext prot S β hp w S' β' hp2 w' :=
  ⟨h.os, h.tape, h.output, h.size, h.same, h.sub, h.new, fun b ⟨l, blk, base, hb, hβ⟩ => h.own b ⟨l, blk, base, by rw [← e]; exact hb, hβ⟩, fun l hl blk' hb => h.prot l hl blk' (by rw [← e]; exact hb)⟩

theorem killH_noMent {l : Nat} : ∀ {h : Heap}, noMent l h = true → ∃ h', killH l h = some h' ∧ noMent l h' = true ∧ ∀ m, hget h' m = if m = l then none else hget h m
  | [], _ => ⟨[], rfl, rfl, fun m => by simp [hget]⟩
  | (k, v) :: e, h => by
    simp only [noMent, List.all_cons, Bool.and_eq_true, Bool.or_eq_true, beq_iff_eq, Bool.not_eq_true'] at h
    obtain ⟨h', e1, e2, e3⟩ := killH_noMent (h := e) h.2
    by_cases hk : k = l
    · refine ⟨h', by simp [killH, hk, e1], e2, fun m => ?_⟩
      rw [e3]
      simp only [hget]
      by_cases hm : m = l
      · simp [hm]
      · rw [if_neg hm, if_neg hm, if_neg (fun q => hm (by rw [← q, hk]))]
    · have hv : v.mentions l = false := by rcases h.1 with h1 | h1; exact absurd h1 hk; exact h1
      refine ⟨(k, v) :: h', by simp [killH, hk, hv, e1], ?_, fun m => ?_⟩
      · simp only [noMent, List.all_cons, Bool.and_eq_true, Bool.or_eq_true, Bool.not_eq_true']
        exact ⟨.inr hv, e2⟩
      · simp only [hget]
        by_cases hm : k = m
        · subst hm; simp [hk]
        · rw [if_neg hm, if_neg hm, e3]
theorem killEnv_idem {l : Nat} : ∀ (e : Env), killEnv l (killEnv l e) = killEnv l e
  | [] => rfl
  | (k, v) :: e => by
    simp only [killEnv]
    rw [killEnv_idem e]
    cases v with
    | none => rfl
    | some x =>
      by_cases hx : x.mentions l
      · simp [hx]
      · simp [hx]
theorem toIL_map_i : ∀ (cs : List I), toIL (cs.map F.i) = some cs
  | [] => rfl
  | c :: cs => by simp [toIL, F.toI, toIL_map_i cs]
theorem hget_hset' {l m : Nat} {b : Blk} : ∀ {h : Heap}, hget (hset l b h) m = if m = l then (hget h l).map (fun _ => b) else hget h m
  | [] => by simp [hset, hget]
  | (k, v) :: e => by
    have ih := hget_hset' (l := l) (m := m) (b := b) (h := e)
    by_cases hk : k = l
    · subst hk
      by_cases hm : m = k
      · subst hm; simp [hset, hget]
      · simp [hset, hget, hm, Ne.symm hm]
    · by_cases hm : m = l
      · subst hm; simp [hset, hget, hk, ih]
      · by_cases hkm : k = m
        · simp [hset, hget, hk, hkm, hm]
        · simp [hset, hget, hk, hkm, hm, ih]

/-- The append of an immutable slice: the label stays. -/
theorem op_apl (hr : Rel Γ N S β st a w) {o : Oper} {lab : Nat} {x y : Opd} {x' y' : Operand} {t tx : TypeId} {k bytes : Nat} (ho : o.op = .call { callee := .builtin .append, args := #[x', y'], argTypes := #[t, tx] })
    (hx : chkOpd x x' = true) (hy : chkOpd y y' = true) (hc : chkApp P t tx k bytes false = true)
    {ov : Option F} (h : evalOp st (.apl lab k bytes x y) = some (ov, st')) : OpPost Γ N S β st a w ((execOp a.eval o).run P w) ov st' := by
  simp only [evalOp] at h
  split at h
  case h_2 => simp at h
  rename_i l off len k' k2 ds hvx hvy
  split at h
  case h_2 => simp at h
  rename_i cs hb
  split at h
  case isFalse => simp at h
  rename_i hcond
  obtain ⟨rfl, rfl, rfl, hk, hoff, hbytes, hone, hment, hprot⟩ := hcond
  simp only [Option.some.injEq, Prod.mk.injEq] at h
  obtain ⟨rfl, rfl⟩ := h
  obtain ⟨h1, e1, e2, e3⟩ := killH_noMent hment
  obtain ⟨h2, f1, f2, f3⟩ := killH_noMent e2
  have hone' : (ds.map F.i).all F.one = true := by
    rw [List.all_map]
    exact hone
  have hext : Blk.ext (.flat cs) off (len * k2) (ds.map F.i) = .flat ((cs.drop off).take (len * k2) ++ ds) := by
    simp only [Blk.ext]; rw [toIL_map_i]
  have happ : evalOp st (.app k2 bytes false x y (some l)) = some (some (.own l 0 (len + ds.length / k2) k2), { st with env := killEnv l (killEnv l st.env), hp := (l, .flat ((cs.drop off).take (len * k2) ++ ds)) :: h2 }) := by
    simp only [evalOp, hvx, hvy, hb, St.source]
    simp only [hk, and_self, if_true]
    rw [if_pos ⟨trivial, trivial, hoff, hbytes, hone', by rw [hext]; rfl⟩]
    simp only [St.kill, e1]
    simp only [St.create, hprot, hext, Blk.mentions, Bool.or_false]
    rw [if_neg (by simp [hprot])]
    simp only [St.kill, f1]
  have hget2 : ∀ m, hget (hset l (.flat ((cs.drop off).take (len * k2) ++ ds)) st.hp) m = hget ((l, Blk.flat ((cs.drop off).take (len * k2) ++ ds)) :: h2) m := fun m => by
    rw [hget_hset']
    simp only [hget]
    by_cases hm : m = l
    · subst hm; simp [hb]
    · rw [if_neg hm, if_neg (Ne.symm hm), f3, if_neg hm, e3, if_neg hm]
  obtain ⟨cn, w', S', β', q1, ⟨cv, q2, q2'⟩, q3, q4, q5⟩ := op_app hr ho hx hy hc happ
  have hst : ({ st with env := killEnv l st.env, hp := hset l (.flat ((cs.drop off).take (len * k2) ++ ds)) st.hp } : St) = { ({ st with env := killEnv l (killEnv l st.env), hp := (l, Blk.flat ((cs.drop off).take (len * k2) ++ ds)) :: h2 } : St) with hp := hset l (.flat ((cs.drop off).take (len * k2) ++ ds)) st.hp } := by
    rw [killEnv_idem]
  refine ⟨cn, w', S', β', q1, ⟨cv, q2, q2'.mono (fun _ h => h) (fun _ _ => rfl) fun m _ blk hb' => ⟨rfl, ⟨blk, (hget2 m).trans hb', Nat.le_refl _⟩, fun _ _ _ _ _ h => h⟩⟩, ?_, q4.heaps hget2, q5⟩
  rw [hst]
  exact q3.heaps hget2

/-- A new slice that nobody writes: it is immutable from the start. -/
theorem op_bsli (hr : Rel Γ N S β st a w) {o : Oper} {t : TypeId} {k n : Nat} {zero : List I} {ps : List (Nat × Nat × Opd)} {qs : Array (Nat × Operand)} (ho : o.op = .buildSlice t n qs) (hc : chkBsl P t k n zero ps qs = true)
    {ov : Option F} (h : evalOp st (.bsli k n zero ps) = some (ov, st')) : OpPost Γ N S β st a w ((execOp a.eval o).run P w) ov st' := by
  simp only [evalOp] at h
  split at h
  · simp at h
  rename_i hk
  split at h
  case h_2 => simp at h
  rename_i cs hf
  split at h
  case h_2 => simp at h
  rename_i is his
  simp at h; obtain ⟨rfl, rfl⟩ := h
  unfold chkBsl at hc
  split at hc
  case h_2 => simp at hc
  rename_i e hu
  split at hc
  case h_2 => simp at hc
  rename_i i hi
  simp only [Bool.and_eq_true, decide_eq_true_eq, beq_iff_eq] at hc
  obtain ⟨⟨hsz, hmax⟩, hc⟩ := hc
  split at hc
  case h_2 => simp at hc
  rename_i z hz
  simp only [Bool.and_eq_true] at hc
  obtain ⟨vs, g1, g2, g3⟩ := hr.fill (z := .agg ((Array.range (n * k)).map (z.cells[· % z.cells.size]!))) hc.2 (by simpa [Value.cells] using hc.1) hf
  have hzl : zero.length = n * k := by
    have := (chkIL_ok (S := S) (w := w) hc.1).1
    simpa using this.symm
  have hvs : vs.size = n * k := by rw [g2.1, g3, hzl]
  have hrun : (Instr.buildSlice t n (qs.map fun (i, x) => (i, a.eval x))).run P w = .ok (.slice (some ⟨w.heap.size, 0, none⟩) n n) (w.alloc (.cells vs e)) := by
    have hmax' : ¬ (16777216 < n * k) := by omega
    have g1' : Instr.fill (fun j => some (j * k, k)) ((Array.range (n * k)).map (z.cells[· % z.cells.size]!)) (qs.toList.map fun (i, x) => (i, a.eval x)) = some vs := by
      rw [← g1]; simp [Value.cells]
    by_cases h0 : n * k = 0
    · rw [h0] at g1'
      have e0 : ∀ f : Nat → Value, (Array.range 0).map f = #[] := fun f => by simp [Array.range]
      rw [e0] at g1'
      have e1 : Array.range 0 = #[] := rfl
      simp [Instr.buildSlice, run_underlying hu, sizeOf, typeInfo, hi, hsz, h0, newRow, e1, g1']
    · rw [if_neg h0] at hz
      simp [Instr.buildSlice, run_underlying hu, sizeOf, typeInfo, hi, hsz, h0, hmax', zeroValue, hz, newRow, g1']
  obtain ⟨i1, i2⟩ := toIL_at his
  have hlen : is.length = n * k := by rw [i1, ← g2.1]; exact hvs
  have hwsz : (w.alloc (.cells vs e)).heap.size = w.heap.size + 1 := by simp
  have hsame : ∀ b, b < w.heap.size → (w.alloc (.cells vs e)).heap[b]? = w.heap[b]? := fun b hb => Go.RowKit.Below.heap_alloc _ _ b hb
  have hnew : (w.alloc (.cells vs e)).heap[w.heap.size]? = some (.cells vs e) := by
    show (w.heap.push _)[w.heap.size]? = _
    simp
  have ownlt : ∀ b, Own β st.hp b → b < w.heap.size ∧ ¬ S b := fun b ⟨l, blk, base, h1, h2⟩ => by
    rcases hr.hp.blk l blk h1 with ⟨h3, _⟩ | ⟨b', base', h3, h4, c, e, fr, h5, _⟩
    · rw [h2] at h3; simp at h3
    · rw [h2] at h3; simp at h3; obtain ⟨rfl, rfl⟩ := h3
      exact ⟨(Array.getElem?_eq_some_iff.1 h5).1, h4⟩
  have keeps : ∀ m, Keeps w (w.alloc (.cells vs e)) β β st.hp st.hp m := fun m blk hb => ⟨rfl, ⟨blk, hb, Nat.le_refl _⟩, fun b base hβ e n h => by
    simp only [World.shape?] at h ⊢; rw [hsame b (ownlt b ⟨m, blk, base, hb, hβ⟩).1]; exact h⟩
  have hS : ∀ b, S b → (S b ∨ b = w.heap.size) := fun b hb => .inl hb
  have hSw : ∀ b, S b → (w.alloc (.cells vs e)).heap[b]? = w.heap[b]? := fun b hb => hsame b (hr.bound b hb)
  refine ⟨.value (.slice (some ⟨w.heap.size, 0, none⟩) n n), w.alloc (.cells vs e), fun b => S b ∨ b = w.heap.size, β, by simp [execOp, ho, hrun], ⟨_, rfl, .i _ _ ?_⟩, ?_, ?_, rfl⟩
  · have := RI.slN (S := fun b => S b ∨ b = w.heap.size) (w := w.alloc (.cells vs e)) k is w.heap.size 0 n n vs.toList (by omega) (by omega) (Nat.le_refl _) (by omega) (.inr rfl) (by simp; omega) (fun j u hj => by
      simp only [World.cell?]
      rw [hnew]
      simpa using hj) (fun j y u h1 h2 => by
        have hlt := (List.getElem?_eq_some_iff.1 h1).1
        have hcj : cs[j]? = some (cs[j]'(by omega)) := by simp [show j < cs.length by omega]
        exact (toI_rel (g2.2 j _ u hcj (by simpa using h2)) _ (i2 j _ _ hcj h1)).mono hS hSw)
    exact this
  · refine ⟨hr.size, hr.defers, fun q z hz => ⟨(hr.env q z hz).1, (hr.env q z hz).2.mono hS hSw fun m _ => keeps m⟩, ⟨fun l blk hb => ?_, hr.hp.inj, Γ.mono _ _ _ _ hr.hp.glob hS hSw⟩, fun b hb => ?_, hr.lab, hr.nxt, hr.prot⟩
    · rcases hr.hp.blk l blk hb with q | ⟨b, base, q1, q2, q3⟩
      · exact .inl q
      · have := ownlt b ⟨l, blk, base, hb, q1⟩
        refine .inr ⟨b, base, q1, fun hb' => ?_, q3.mono hS hSw (hsame b this.1) fun m _ => keeps m⟩
        rcases hb' with hb' | rfl
        · exact q2 hb'
        · omega
    · rw [hwsz]
      rcases hb with hb | rfl
      · have := hr.bound b hb; omega
      · omega
  · refine ⟨rfl, rfl, rfl, by rw [hwsz]; omega, fun b hb _ => hsame b hb, fun b hb => .inl hb, fun b hb => ?_, fun b hb => .inl hb, fun l hl blk' hb' => ⟨blk', hb', rfl, rfl, fun b base hβ e n hs => ?_⟩⟩
    · rcases hb with hb | rfl
      · exact .inl hb
      · exact .inr (.inr (Nat.le_refl _))
    · have := (ownlt b ⟨l, blk', base, hb', hβ⟩).1
      simp only [World.shape?] at hs ⊢
      rw [hsame b this]; exact hs
end
end Go.Vm
