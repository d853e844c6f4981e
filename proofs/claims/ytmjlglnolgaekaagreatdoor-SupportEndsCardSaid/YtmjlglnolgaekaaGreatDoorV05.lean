/- One operation, checked against the translation's. -/
import Derived.Test.YtmjlglnolgaekaaGreatDoorV04
import Derived.OrdersIn
import Derived.AtR
import Derived.Laws.StructEq
import Derived.LoopNIn
import Derived.Tactics
import Derived.RangeFuncSeq
set_option linter.unusedSimpArgs false
set_option linter.unusedVariables false
set_option linter.unusedSimpArgs false
set_option linter.unusedVariables false
namespace Go.Vm
variable {Γ : GlobP}

def chkIntTo (P : Program) (s d : TypeId) (k : IntKind) : Bool :=
  match P.underlying s, P.underlying d with
  | some _, some (.int q) => decide (q = k)
  | _, _ => false
def chkStrTo (P : Program) (s d : TypeId) : Bool :=
  match P.underlying s, P.underlying d with
  | some _, some .string => true
  | _, _ => false
def chkConcrete (P : Program) (t : TypeId) : Bool :=
  match P.underlying t with
  | some (.interface _) => false
  | some _ => true
  | none => false
def chkString (P : Program) (t : TypeId) : Bool :=
  match P.underlying t with
  | some .string => true
  | _ => false
def chkSize (P : Program) (t : TypeId) (n : Nat) : Bool :=
  match P.info? t with
  | some i => i.size == n
  | none => false
def chkOpds : List Opd → List Operand → Bool
  | [], [] => true
  | x :: xs, y :: ys => chkOpd x y && chkOpds xs ys
  | _, _ => false
theorem chkOpds_ok : ∀ {xs : List Opd} {ys : List Operand}, chkOpds xs ys = true → ys.length = xs.length ∧ ∀ (j : Nat) (x) (y), xs[j]? = some x → ys[j]? = some y → chkOpd x y = true
  | [], [], _ => ⟨rfl, fun _ _ _ h => by simp at h⟩
  | x :: xs, y :: ys, h => by
    simp [chkOpds] at h
    obtain ⟨e1, e2⟩ := chkOpds_ok h.2
    refine ⟨by simp [e1], fun j p q hp hq => ?_⟩
    cases j with
    | zero => simp at hp hq; subst hp; subst hq; exact h.1
    | succ j => exact e2 j p q (by simpa using hp) (by simpa using hq)

def chkEqF (P : Program) : Nat → List Field → Bool
  | _, [] => true
  | j, f :: fs => !(f.name == "_") && f.offset == j && (match P.underlying f.type with | some .string => true | _ => false) && chkEqF P (j + 1) fs
def chkEqs (P : Program) (t : TypeId) (n : Nat) : Bool :=
  (match P.underlying t with | some (.struct fs) => chkEqF P 0 fs.toList && fs.toList.length == n | _ => false) && !P.stoodInHeld t && !P.eqGuardType P.depth t

def chkOp (P : Program) : VOp → Op → Bool
  | .die, _ => true
  | .isnil false x, .binOp .eql t y (.const (.slice none 0 0)) _ => chkOpd x y && chkNil P t
  | .isnil true x, .binOp .neq t y (.const (.slice none 0 0)) _ => chkOpd x y && chkNil P t
  | .boxi x, .box _ y => chkOpd x y
  | .fadi off x, .fieldAddr s y f => chkOpd x y && chkFad P s f off
  | .loadi n x, .load t y => chkOpd x y && chkLoad P t n
  | .loadl _ n x, .load t y => chkOpd x y && chkLoad P t n
  | .storel _ n x y, .store t x' y' => chkOpd x x' && chkOpd y y' && chkSize P t n
  | .fadl _ off x, .fieldAddr s y f => chkOpd x y && chkFad P s f off
  | .mvi x, .move y => chkOpd x y
  | .mvi x, .assign y => chkOpd x y
  | .iadi k x i, .indexAddr t x' i' => chkOpd x x' && chkOpd i i' && chkSl P t k
  | .loadli _ n x, .load t y => chkOpd x y && chkLoad P t n
  | .calli g args, .call ⟨.value (.func g'), args', _⟩ => g == g' && chkFn P g && chkArgs args args'.toList
  | .takel _ _ _ x, .load t y => chkOpd x y && chkLoad P t none
  | .bsli k n z ps, .buildSlice t m qs => n == m && chkBsl P t k n z ps qs
  | .apl _ k b x y, .call ⟨.builtin .append, ⟨[x', y']⟩, ⟨[t, tx]⟩⟩ => chkOpd x x' && chkOpd y y' && chkApp P t tx k b false
  | .copy x y, .call ⟨.builtin .copy, ⟨[x', y']⟩, ⟨[t, tx]⟩⟩ => chkOpd x x' && chkOpd y y' && chkCopy P t tx
  | .eqs false n x y, .binOp .eql t x' y' _ => chkOpd x x' && chkOpd y y' && chkEqs P t n
  | .eqs true n x y, .binOp .neq t x' y' _ => chkOpd x x' && chkOpd y y' && chkEqs P t n
  | .mv x, .move y => chkOpd x y
  | .mv x, .assign y => chkOpd x y
  | .nil _ _, .assign (.const (.slice none 0 0)) => true
  | .nil _ _, .move (.const (.slice none 0 0)) => true
  | .pick c x y, .pick c' x' y' => chkOpd c c' && chkOpd x x' && chkOpd y y'
  | .alloc z _, .alloc t => chkZero P t z
  | .box x _, .box _ y => chkOpd x y
  | .build z ps, .build t qs => chkBuild P t z ps qs
  | .bsl k n z ps _, .buildSlice t m qs => n == m && chkBsl P t k n z ps qs
  | .load n x, .load t y => chkOpd x y && chkLoad P t n
  | .store n x y, .store t x' y' => chkOpd x x' && chkOpd y y' && chkSize P t n
  | .bin ty op x y, .binOp op' t x' y' _ => decide (op = op') && chkOpd x x' && chkOpd y y' && chkBin P ty op t x' y'
  | .un op x, .unOp op' _ y => decide (op = op') && chkOpd x y
  | .cint k x, .convert s d y => chkOpd x y && chkIntTo P s d k
  | .cstr x, .convert s d y => chkOpd x y && chkStrTo P s d
  | .s2b x _, .convert s d y => chkOpd x y && chkBytes P s d
  | .b2s x, .convert s d y => chkOpd x y && chkB2s P s d
  | .ifc t x, .makeInterface t' y => t == t' && chkOpd x y && chkConcrete P t
  | .mkfn g caps, .makeFunc (.func g') ⟨[]⟩ caps' => g == g' && chkOpds caps caps'.toList
  | .mks k b z l c _, .makeSlice t l' c' => chkOpd l l' && chkOpd c c' && chkMks P t k b z
  | .slice k x lo hi mx, .slice t x' lo' hi' mx' => chkOpd x x' && chkSlice P t k && chkOpt lo lo' && chkOpt hi hi' && chkOpt mx mx' && (mx'.isNone || hi'.isSome)
  | .fad off x, .fieldAddr s y f => chkOpd x y && chkFad P s f off
  | .fld off n x, .field s y f => chkOpd x y && chkFld P s f off n
  | .iad k x i, .indexAddr t x' i' => chkOpd x x' && chkOpd i i' && chkSl P t k
  | .iada k len x i, .indexAddr t x' i' => chkOpd x x' && chkOpd i i' && chkArr P t k len
  | .ixs x i, .index t x' i' => chkOpd x x' && chkOpd i i' && chkString P t
  | .ixa k len n x i, .index t x' i' => chkOpd x x' && chkOpd i i' && chkArrAt P t k len n
  | .ext x j, .extract y j' => j == j' && chkOpd x y
  | .len str x, .call ⟨.builtin .len, ⟨[y]⟩, ⟨[t]⟩⟩ => chkOpd x y && chkLen P t str
  | .app k b str x y _, .call ⟨.builtin .append, ⟨[x', y']⟩, ⟨[t, tx]⟩⟩ => chkOpd x x' && chkOpd y y' && chkApp P t tx k b str
  | .appz k b z x y _, .call ⟨.builtin .append, ⟨[x', y']⟩, ⟨[t, tx]⟩⟩ => chkOpd x x' && chkOpd y y' && chkAppz P t tx k b z
  | .mnmx true x y, .call ⟨.builtin .max, ⟨[x', y']⟩, _⟩ => chkOpd x x' && chkOpd y y'
  | .mnmx false x y, .call ⟨.builtin .min, ⟨[x', y']⟩, _⟩ => chkOpd x x' && chkOpd y y'
  | .nilchk x, .nilCheck y => chkOpd x y
  | .call g args _, .call ⟨.value (.func g'), args', _⟩ => g == g' && chkFn P g && chkArgs args args'.toList
  | .callv x args _, .call ⟨.value y, args', _⟩ => chkOpd x y && chkArgs args args'.toList
  | _, _ => false

def chkGuard (ops : Array Oper) : Option (Nat × Bool) → Option (Nat × Bool) → Bool
  | none, none => true
  | some (g, want), some (j, want') => want == want' && (match (ops[j]?).bind (·.dst) with | some d => d == g | none => false)
  | _, _ => false
def chkDst (N : Nat) : Option Nat → Option Tmp → Bool
  | none, none => true
  | some d, some d' => d == d' && decide (d < N)
  | _, _ => false
def chkStm (P : Program) (N : Nat) (ops : Array Oper) : Stm → Oper → Bool
  | .op dst guard vop, o => chkDst N dst o.dst && chkGuard ops guard o.guard && chkOp P vop o.op
  | _, _ => false

def isGhost : Stm → Bool
  | .frz _ => true
  | .ownnil .. => true
  | .junk .. => true
  | .ownt .. => true
  | .frzc .. => true
  | _ => false
def chkStms (P : Program) (N : Nat) (ops : Array Oper) : Stm → Oper → Bool
  | .pre g s, o => isGhost g && chkStms P N ops s o
  | s, o => chkStm P N ops s o

section
variable {P : Program} {N : Nat} {S : Nat → Prop} {β : Beta} {st st' st1 : St} {a : Act} {w w' : World}

theorem eqF_run : ∀ (fs : List Field) (j d : Nat) (xs ys : List I) (vs us : Array Value), chkEqF P j fs = true → (fs.length = xs.length) → vs.size = j + xs.length → us.size = j + ys.length →
    (∀ (i : Nat) (x) (v), xs[i]? = some x → vs[j + i]? = some v → RI S w x v) → (∀ (i : Nat) (y) (u), ys[i]? = some y → us[j + i]? = some u → RI S w y u) → ∀ b, eqL xs ys = some b →
    (Op.eqFields (d + 1) vs us fs).run P w = .ok b w
  | [], j, d, xs, ys, vs, us, _, hl, _, _, _, _, b, h => by
    cases xs with
    | nil => cases ys <;> simp [eqL] at h; subst h; simp [Op.eqFields]
    | cons => simp at hl
  | f :: fs, j, d, xs, ys, vs, us, hc, hl, hv, hu, hx, hy, b, h => by
    cases xs with
    | nil => simp at hl
    | cons x xs =>
      cases ys with
      | nil => simp [eqL] at h
      | cons y ys =>
        simp only [eqL] at h
        split at h
        case h_2 => simp at h
        rename_i p q hp hq
        simp at h; subst h
        simp only [chkEqF, Bool.and_eq_true, beq_iff_eq] at hc
        obtain ⟨⟨⟨hn, ho⟩, ht⟩, hc⟩ := hc
        have hn' : f.name ≠ "_" := by simpa using hn
        simp at hv hu
        obtain ⟨v, hv0⟩ : ∃ v, vs[j]? = some v := ⟨vs[j]'(by omega), by simp [show j < vs.size by omega]⟩
        obtain ⟨u, hu0⟩ : ∃ u, us[j]? = some u := ⟨us[j]'(by omega), by simp [show j < us.size by omega]⟩
        have hrx := hx 0 x v rfl (by simpa using hv0)
        have hry := hy 0 y u rfl (by simpa using hu0)
        have hstr : P.underlying f.type = some .string := by
          split at ht
          · assumption
          · simp at ht
        have hagg : (isAgg f.type).run P w = .ok false w := by simp [isAgg, run_underlying hstr]
        have e1 : (part f.type vs f.offset).run P w = .ok v w := by simp [part, hagg, ho, hv0]
        have e2 : (part f.type us f.offset).run P w = .ok u w := by simp [part, hagg, ho, hu0]
        have e3 : (Op.equalIn (d + 1) f.type v u).run P w = .ok p w := by
          unfold eqI at hp
          split at hp
          · rename_i s1 s2
            have hp' : (s1.toList == s2.toList) = p := by rw [ByteArray.toList_eq, ByteArray.toList_eq]; exact Option.some.inj hp
            rw [← hp', hrx.inv_str, hry.inv_str]
            exact run_equalIn_string w d f.type _ _ hstr
          · simp at hp
        have e4 := eqF_run fs (j + 1) d xs ys vs us hc (by simpa using hl) (by omega) (by omega) (fun i x v h1 h2 => hx (i + 1) x v (by simpa using h1) (by rw [show j + (i + 1) = j + 1 + i by omega]; exact h2))
          (fun i x v h1 h2 => hy (i + 1) x v (by simpa using h1) (by rw [show j + (i + 1) = j + 1 + i by omega]; exact h2)) q hq
        rw [Op.eqFields]
        simp only [if_pos hn', Sem.run_bind, e1, e2, e3, Result.andThen_ok]
        cases p
        · simp
        · simpa using e4

theorem op_eqs (hr : Rel Γ N S β st a w) {o : Oper} {neg : Bool} {n : Nat} {x y : Opd} {x' y' : Operand} {t t' : TypeId} (ho : o.op = .binOp (if neg then .neq else .eql) t x' y' t') (hx : chkOpd x x' = true) (hy : chkOpd y y' = true) (hc : chkEqs P t n = true)
    {ov : Option F} (h : evalOp st (.eqs neg n x y) = some (ov, st')) : OpPost Γ N S β st a w ((execOp a.eval o).run P w) ov st' := by
  simp only [evalOp] at h
  split at h
  case h_2 => simp at h
  rename_i xs ys hxv hyv
  split at h
  case isFalse => simp at h
  rename_i hxn
  split at h
  case h_2 => simp at h
  rename_i b hb
  simp at h; obtain ⟨rfl, rfl⟩ := h
  simp only [chkEqs, Bool.and_eq_true, Bool.not_eq_true'] at hc
  obtain ⟨⟨h1, h2⟩, h3⟩ := hc
  split at h1
  case h_2 => simp at h1
  rename_i fs ht
  simp only [Bool.and_eq_true, beq_iff_eq] at h1
  obtain ⟨h1, hfn⟩ := h1
  have hfs : P.fieldsOf t = fs := by simp [Program.fieldsOf, ht]
  have hrx := (hr.val hx hxv).inv_i
  have hry := (hr.val hy hyv).inv_i
  generalize hvx : a.eval x' = vx at hrx
  generalize hvy : a.eval y' = vy at hry
  cases hrx with
  | agg _ vs e1 r1 =>
  cases hry with
  | agg _ us e2 r2 =>
  have hlen : fs.toList.length = xs.length := hfn.trans hxn.symm
  have key : (Op.equalIn 10000 t (.agg vs) (.agg us)).run P w = .ok b w := by
    rw [show (10000 : Nat) = 9998 + 1 + 1 from rfl, run_equalIn_agg w _ t vs us (by rw [hfs]; exact ht) h2, hfs]
    exact eqF_run fs.toList 0 9998 xs ys vs us h1 hlen (by simp [e1]) (by simp [e2]) (fun i x v h1 h2 => r1 i x v h1 (by simpa using h2)) (fun i x v h1 h2 => r2 i x v h1 (by simpa using h2)) b hb
  cases neg
  · refine OpPost.pure hr ?_ (.i _ _ (.bool _))
    simp only [execOp, ho, hvx, hvy]
    simp [run_eqGuard_agg w _ t x' y' vs us h3, run_eql_struct w t vs us, key]
  · refine OpPost.pure hr ?_ (.i _ _ (.bool _))
    simp only [execOp, ho, hvx, hvy]
    simp [run_eqGuard_agg w _ t x' y' vs us h3, run_neq_struct w t vs us, key]

/-- The ghost that forgets a cell. -/
theorem junk_rel {T : Tab} {C : CallSem} (hr : Rel Γ N S β st a w) {t off : Nat} (h : stepStm T C st (.junk t off) = some st') : Rel Γ N S β st' a w ∧ Ext st.prot S β st.hp w S β st'.hp w ∧ st'.prot = st.prot := by
  simp only [stepStm] at h
  split at h
  case h_2 => simp at h
  rename_i l o hv
  split at h
  case h_2 => simp at h
  rename_i blk hb
  split at h
  case h_2 => simp at h
  rename_i y hat
  split at h
  case isFalse => simp at h
  rename_i hone
  simp at h; subst h
  have hF := blkAt_F hat
  simp only [F.at] at hF
  have hlt := (List.getElem?_eq_some_iff.1 hF).1
  have hlc := Blk.len_cells blk
  cases hβ : β l with
  | none =>
    rcases hr.hp.blk l blk hb with ⟨_, h0⟩ | ⟨b, base, h0, _⟩
    · omega
    · rw [hβ] at h0; simp at h0
  | some p =>
    obtain ⟨b, base⟩ := p
    obtain ⟨_, c, e, fr, hc, hfr, hlen, hcells⟩ := hr.blkRel hb hβ
    obtain ⟨u, hu, hru⟩ := hcells (o + off) _ hF
    obtain ⟨t1, t2⟩ := turn_rel (w' := w) (blk' := blk.store (o + off) [.i .junk]) hr hb hβ (store_len (by simp; omega)) rfl rfl rfl rfl (fun _ _ => rfl) hc hc rfl (fun j y' hy => by
      rcases store_cells (S := S) (w := w) (β := β) (hp := st.hp) (us := [u]) (by simp; omega) rfl (fun j y u' h1 h2 => by
        cases j with
        | zero => simp at h1 h2; subst h1; subst h2; exact .i _ _ (.junk u (one_rel hru hone))
        | succ j => simp at h1) j y' hy with ⟨h1, h2, u', h3, h4⟩ | ⟨h1, h2⟩
      · simp at h2
        have : j = o + off := by omega
        subst this
        simp at h3; subst h3
        exact ⟨_, hu, h4⟩
      · exact hcells j y' h2)
    exact ⟨t1, t2, rfl⟩

theorem get_ins' {d t : Nat} {v : Option F} : ∀ {e : Env}, get (ins d v e) t = if d = t then v else get e t
  | [] => rfl
  | (k, u) :: e => by
    simp only [ins]
    split
    · rename_i h; subst h
      simp only [get]; split <;> rfl
    · rename_i h
      split
      · rfl
      · simp only [get, get_ins' (e := e)]
        by_cases h1 : k = t
        · subst h1; simp [h]
        · simp [h1]

/-- A load that takes the slice out of its cell. -/
theorem op_takel {T : Tab} {C : CallSem} (hr : Rel Γ N S β st a w) {o : Oper} {lab off own : Nat} {x : Opd} {x' : Operand} {t : TypeId} (ho : o.op = .load t x') (hx : chkOpd x x' = true) (hc : chkLoad P t none = true)
    {ov : Option F} (h : evalOp st (.takel lab off own x) = some (ov, st')) : OpPost Γ N S β st a w ((execOp a.eval o).run P w) ov st' := by
  simp only [evalOp] at h
  split at h
  case h_2 => simp at h
  rename_i l o' hv
  split at h
  case isFalse => simp at h
  rename_i hcond
  obtain ⟨rfl, rfl⟩ := hcond
  split at h
  case h_2 => simp at h
  rename_i b hb
  split at h
  case h_2 => simp at h
  rename_i m p len k hat
  split at h
  case isFalse => simp at h
  rename_i hm
  simp only [Option.some.injEq, Prod.mk.injEq] at h
  obtain ⟨rfl, rfl⟩ := h
  cases x with
  | c y => simp [St.val] at hv
  | f g => simp [St.val] at hv
  | t n =>
    have hload : evalOp st (.load none (.t n)) = some (some (.own m p len k), st) := by
      simp only [evalOp, hv, hb, hat]
    obtain ⟨cn, w', S', β', q1, ⟨cv, q2, q2'⟩, q3, q4, q5⟩ := op_load hr ho hx hc hload
    have hg : get st.env n = some (.ref l o') := hv
    have hj : stepStm T C st (.junk n 0) = some { st with hp := hset l (b.store o' [.i .junk]) st.hp } := by
      simp [stepStm, hg, hb, hat, F.one]
    obtain ⟨r1, r2, r3⟩ := junk_rel q3 hj
    refine ⟨cn, w', S', β', q1, ⟨cv, q2, q2'.mono (fun _ h => h) (fun _ _ => rfl) fun m' _ blk hb' => ⟨rfl, ?_, fun _ _ _ _ _ h => h⟩⟩, r1, q4.trans r2, q5⟩
    have hF := blkAt_F hat
    simp only [F.at] at hF
    have hlt := (List.getElem?_eq_some_iff.1 hF).1
    have hlc := Blk.len_cells b
    have hsl : (b.store o' [.i .junk]).len = b.len := store_len (by simp; omega)
    refine ⟨if m' = l then b.store o' [.i .junk] else blk, ?_, ?_⟩
    · show hget (hset l _ st.hp) m' = _
      rw [hget_hset']
      by_cases h1 : m' = l
      · subst h1; simp [hb]
      · rw [if_neg h1, if_neg h1]; exact hb'
    · by_cases h1 : m' = l
      · subst h1; rw [hb] at hb'; simp at hb'; subst hb'; simp [hsl]
      · rw [if_neg h1]; exact Nat.le_refl _

/-- The ghost that takes a nil slice for its own. -/
theorem ownt_rel {T : Tab} {C : CallSem} (hr : Rel Γ N S β st a w) {t k : Nat} {hint : Option Nat} (h : stepStm T C st (.ownt t k hint) = some st') : ∃ β', Rel Γ N S β' st' a w ∧ Ext st.prot S β st.hp w S β' st'.hp w ∧ st'.prot = st.prot := by
  simp only [stepStm] at h
  split at h
  · rename_i kk hv
    split at h
    · simp at h
    rename_i hk
    split at h
    case h_2 => simp at h
    rename_i m st2 hcr
    simp at h; subst h
    obtain ⟨hlt, hru⟩ := hr.env t _ hv
    have hun : a.tmps.getD t undef = .slice none 0 0 := by have := hru.inv_i; cases hh : a.tmps.getD t undef <;> rw [hh] at this <;> cases this; rfl
    obtain ⟨c1, c2, c3, c4⟩ := create_rel (w' := w) (x := none) hr hcr rfl rfl rfl (Nat.le_refl _) (fun _ _ => rfl) (.inl ⟨rfl, rfl⟩)
    refine ⟨_, ⟨c1.size, c1.defers, fun u x hx => ?_, c1.hp, c1.bound, c1.lab, c1.nxt, c1.prot⟩, c2, c3⟩
    simp only [St.put, get_ins'] at hx
    show _ ∧ RF S w _ st2.hp _ _
    split at hx
    · rename_i e; subst e
      simp at hx; subst hx
      refine ⟨hlt, ?_⟩
      rw [hun]
      exact .own0 m 0 k _ none c4 (by simp) (by omega)
    · exact c1.env u x hx
  · simp at h; subst h; exact ⟨β, hr, Ext.refl .., rfl⟩
  · simp at h

theorem ghost_rel {T : Tab} {C : CallSem} {g : Stm} (hg : isGhost g = true) (hr : Rel Γ N S β st a w) (h : stepStm T C st g = some st') : ∃ S' β', Rel Γ N S' β' st' a w ∧ Ext st.prot S β st.hp w S' β' st'.hp w ∧ st'.prot = st.prot := by
  cases g with
  | op => simp [isGhost] at hg
  | pre => simp [isGhost] at hg
  | frz t =>
    simp only [stepStm] at h
    split at h
    · obtain ⟨S', h1, h2, h3⟩ := freeze_rel hr h; exact ⟨S', β, h1, h2, h3⟩
    · obtain ⟨S', h1, h2, h3⟩ := freeze_rel hr h; exact ⟨S', β, h1, h2, h3⟩
    · simp at h; subst h; exact ⟨S, β, hr, Ext.refl .., rfl⟩
    · simp at h
  | ownnil t off k hint => obtain ⟨β', h1, h2, h3⟩ := ownnil_rel hr h; exact ⟨S, β', h1, h2, h3⟩
  | junk t off => exact ⟨S, β, junk_rel hr h⟩
  | frzc t off =>
    simp only [stepStm] at h
    split at h
    · split at h
      · split at h
        · obtain ⟨S', h1, h2, h3⟩ := freeze_rel hr h; exact ⟨S', β, h1, h2, h3⟩
        · simp at h; subst h; exact ⟨S, β, hr, Ext.refl .., rfl⟩
        · simp at h
      · simp at h
    · simp at h
  | ownt t k hint => obtain ⟨β', h1, h2, h3⟩ := ownt_rel hr h; exact ⟨S, β', h1, h2, h3⟩

theorem ghosts_rel {T : Tab} {C : CallSem} : ∀ {gs : List Stm} {S : Nat → Prop} {β : Beta} {st st' : St}, gs.all isGhost = true → Rel Γ N S β st a w → stepStms T C gs st = some st' → ∃ S' β', Rel Γ N S' β' st' a w ∧ Ext st.prot S β st.hp w S' β' st'.hp w ∧ st'.prot = st.prot
  | [], S, β, st, st', _, hr, h => by simp [stepStms] at h; subst h; exact ⟨S, β, hr, Ext.refl .., rfl⟩
  | g :: gs, S, β, st, st', hg, hr, h => by
    simp only [List.all_cons, Bool.and_eq_true] at hg
    simp only [stepStms] at h
    split at h
    · rename_i st1 h1
      obtain ⟨S1, β1, hr1, he1, hp1⟩ := ghost_rel hg.1 hr h1
      obtain ⟨S2, β2, hr2, he2, hp2⟩ := ghosts_rel hg.2 hr1 h
      exact ⟨S2, β2, hr2, he1.trans (hp1 ▸ he2), hp2.trans hp1⟩
    · simp at h

/-- What the operation's value is in the machine. -/
def ValRel (S : Nat → Prop) (w : World) (β : Beta) (hp : Heap) (ov : Option F) (u : Value) : Prop :=
  match ov with
  | some v => RF S w β hp v u
  | none => u = undef

theorem OpPost.wp {o : Oper} {ov : Option F} (h : OpPost Γ N S β st a w ((execOp a.eval o).run P w) ov st') {K : Act → World → Prop} {Q : Exit → Act → World → Prop}
    (hK : ∀ u w' S' β', ValRel S' w' β' st'.hp ov u → Rel Γ N S' β' st' a w' → Ext st.prot S β st.hp w S' β' st'.hp w' → st'.prot = st.prot → K (a.put o.dst u) w') : o.wp P a w K Q := by
  obtain ⟨cn, w', S', β', he, hv, h1, h2, h3⟩ := h
  unfold Oper.wp
  rw [he]
  cases ov with
  | some v => obtain ⟨cv, rfl, hrel⟩ := hv; exact hK cv w' S' β' hrel h1 h2 h3
  | none => simp only at hv; subst hv; exact hK undef w' S' β' rfl h1 h2 h3

structure CallOk (Γ : GlobP) (P : Program) (T : Tab) (C : CallSem) : Prop where
  sound : SoundCall Γ P C
  fn : ∀ g vf, T.fn g = some vf → chkFn P g = true
  prim : ∀ g p, T.prim g = some p → chkFn P g = true
  from_ : ∀ g args h r, C g args h = some r → (T.fn g).isSome ∨ (T.prim g).isSome

theorem op_step {T : Tab} {C : CallSem} (hC : CallOk Γ P T C) (hr : Rel Γ N S β st a w) {o : Oper} {vop : VOp} (hc : chkOp P vop o.op = true) {ov : Option F} (h : stepOp T C st vop = some (ov, st'))
    {K : Act → World → Prop} {Q : Exit → Act → World → Prop} (hK : ∀ u w' S' β', ValRel S' w' β' st'.hp ov u → Rel Γ N S' β' st' a w' → Ext st.prot S β st.hp w S' β' st'.hp w' → st'.prot = st.prot → K (a.put o.dst u) w') : o.wp P a w K Q := by
  generalize ho : o.op = op at hc
  unfold chkOp at hc
  split at hc
  · simp [stepOp, evalOp] at h
  · simp only [Bool.and_eq_true] at hc
    exact (op_isnil (neg := false) hr ho hc.1 hc.2 h).wp hK
  · simp only [Bool.and_eq_true] at hc
    exact (op_isnil (neg := true) hr ho hc.1 hc.2 h).wp hK
  · exact (op_boxi hr ho hc h).wp hK
  · simp only [Bool.and_eq_true] at hc
    exact (op_fad hr ho hc.1 hc.2 (fadi_fad h)).wp hK
  · simp only [Bool.and_eq_true] at hc
    exact (op_load hr ho hc.1 hc.2 (loadi_load h)).wp hK
  · simp only [Bool.and_eq_true] at hc
    exact (op_load hr ho hc.1 hc.2 (loadl_load h)).wp hK
  · simp only [Bool.and_eq_true] at hc
    refine (op_store hr ho hc.1.1 hc.1.2 ?_ (storel_store h)).wp hK
    have := hc.2
    unfold chkSize at this
    split at this
    · rename_i i hi; simp [hi]; simpa using this
    · simp at this
  · simp only [Bool.and_eq_true] at hc
    exact (op_fad hr ho hc.1 hc.2 (fadl_fad h)).wp hK
  · have h := mvi_mv h
    simp only [evalOp] at h
    split at h
    · rename_i v hv
      simp at h; obtain ⟨rfl, rfl⟩ := h
      exact (op_mv hr (.inl ho) hc hv).wp hK
    · simp at h
  · have h := mvi_mv h
    simp only [evalOp] at h
    split at h
    · rename_i v hv
      simp at h; obtain ⟨rfl, rfl⟩ := h
      exact (op_mv hr (.inr ho) hc hv).wp hK
    · simp at h
  · simp only [Bool.and_eq_true] at hc
    exact (op_iad hr ho hc.1.1 hc.1.2 hc.2 (iadi_iad h)).wp hK
  · simp only [Bool.and_eq_true] at hc
    exact (op_load hr ho hc.1 hc.2 (loadli_load h)).wp hK
  · simp only [Bool.and_eq_true, beq_iff_eq] at hc
    obtain ⟨⟨rfl, h1⟩, h2⟩ := hc
    exact op_call hC.sound hr ho h1 h2 (calli_call h) fun v u w' S' β' hov => by
      intro q1 q2 q3 q4
      exact hK u w' S' β' (by rw [hov]; exact q1) q2 q3 q4
  · simp only [Bool.and_eq_true] at hc
    exact (op_takel (T := T) (C := C) hr ho hc.1 hc.2 h).wp hK
  · simp only [Bool.and_eq_true, beq_iff_eq] at hc
    obtain ⟨rfl, hc⟩ := hc
    exact (op_bsli hr ho hc h).wp hK
  · simp only [Bool.and_eq_true] at hc
    exact (op_apl hr ho hc.1.1 hc.1.2 hc.2 h).wp hK
  · simp only [Bool.and_eq_true] at hc
    exact (op_copy hr ho hc.1.1 hc.1.2 hc.2 h).wp hK
  · simp only [Bool.and_eq_true] at hc
    exact (op_eqs (neg := false) hr ho hc.1.1 hc.1.2 hc.2 h).wp hK
  · simp only [Bool.and_eq_true] at hc
    exact (op_eqs (neg := true) hr ho hc.1.1 hc.1.2 hc.2 h).wp hK
  · -- mv
    simp only [stepOp, evalOp] at h
    split at h
    · rename_i v hv
      simp at h; obtain ⟨rfl, rfl⟩ := h
      exact (op_mv hr (.inl ho) hc hv).wp hK
    · simp at h
  · simp only [stepOp, evalOp] at h
    split at h
    · rename_i v hv
      simp at h; obtain ⟨rfl, rfl⟩ := h
      exact (op_mv hr (.inr ho) hc hv).wp hK
    · simp at h
  · exact (op_nil hr (.inl ho) h).wp hK
  · exact (op_nil hr (.inr ho) h).wp hK
  · -- pick
    simp only [Bool.and_eq_true] at hc
    simp only [stepOp, evalOp] at h
    split at h
    · rename_i t ht
      split at h
      · rename_i htt
        split at h
        · rename_i v hv
          simp at h; obtain ⟨rfl, rfl⟩ := h
          exact (op_pick hr ho hc.1.1 hc.1.2 hc.2 ht (by rw [if_pos htt]; exact hv)).wp hK
        · simp at h
      · rename_i htt
        split at h
        · rename_i v hv
          simp at h; obtain ⟨rfl, rfl⟩ := h
          exact (op_pick hr ho hc.1.1 hc.1.2 hc.2 ht (by rw [if_neg htt]; exact hv)).wp hK
        · simp at h
    · simp at h
  · exact (op_alloc hr ho hc h).wp hK
  · exact (op_box hr ho hc h).wp hK
  · exact (op_build hr ho hc h).wp hK
  · simp only [Bool.and_eq_true, beq_iff_eq] at hc
    obtain ⟨rfl, hc⟩ := hc
    exact (op_bsl hr ho hc h).wp hK
  · simp only [Bool.and_eq_true] at hc
    exact (op_load hr ho hc.1 hc.2 h).wp hK
  · simp only [Bool.and_eq_true] at hc
    refine (op_store hr ho hc.1.1 hc.1.2 ?_ h).wp hK
    have := hc.2
    unfold chkSize at this
    split at this
    · rename_i i hi; simp [hi]; simpa using this
    · simp at this
  · simp only [Bool.and_eq_true, decide_eq_true_eq] at hc
    obtain ⟨⟨⟨rfl, h1⟩, h2⟩, h3⟩ := hc
    simp only [stepOp, evalOp] at h
    split at h
    · rename_i i j hi hj
      split at h
      · rename_i r hb
        simp at h; obtain ⟨rfl, rfl⟩ := h
        exact (op_bin hr ho h1 h2 h3 hi hj hb).wp hK
      · simp at h
    · simp at h
  · simp only [Bool.and_eq_true, decide_eq_true_eq] at hc
    obtain ⟨rfl, h1⟩ := hc
    simp only [stepOp, evalOp] at h
    split at h
    · rename_i i hi
      split at h
      · rename_i r hb
        simp at h; obtain ⟨rfl, rfl⟩ := h
        exact (op_un hr ho h1 hi hb).wp hK
      · simp at h
    · simp at h
  · simp only [Bool.and_eq_true] at hc
    obtain ⟨h1, h2⟩ := hc
    simp only [stepOp, evalOp] at h
    split at h
    · rename_i q n hv
      simp at h; obtain ⟨rfl, rfl⟩ := h
      unfold chkIntTo at h2
      split at h2
      · rename_i d q hs hd
        simp at h2; subst h2
        exact (op_cint hr ho (by simp [hs]) hd h1 hv).wp hK
      · simp at h2
    · simp at h
  · simp only [Bool.and_eq_true] at hc
    obtain ⟨h1, h2⟩ := hc
    simp only [stepOp, evalOp] at h
    split at h
    · rename_i s hv
      simp at h; obtain ⟨rfl, rfl⟩ := h
      unfold chkStrTo at h2
      split at h2
      · rename_i d hs hd
        exact (op_cstr hr ho (by simp [hs]) hd h1 hv).wp hK
      · simp at h2
    · simp at h
  · simp only [Bool.and_eq_true] at hc
    exact (op_s2b hr ho hc.1 hc.2 h).wp hK
  · simp only [Bool.and_eq_true] at hc
    exact (op_b2s hr ho hc.1 hc.2 h).wp hK
  · simp only [Bool.and_eq_true, beq_iff_eq] at hc
    obtain ⟨⟨rfl, h1⟩, h2⟩ := hc
    simp only [stepOp, evalOp] at h
    split at h
    · rename_i i hv
      simp at h; obtain ⟨rfl, rfl⟩ := h
      unfold chkConcrete at h2
      split at h2
      · simp at h2
      · rename_i d hn hd
        exact (op_ifc hr ho hd (fun m e => by subst e; exact hn m rfl) h1 hv).wp hK
      · simp at h2
    · simp at h
  · simp only [Bool.and_eq_true, beq_iff_eq] at hc
    obtain ⟨rfl, h1⟩ := hc
    obtain ⟨e1, e2⟩ := chkOpds_ok h1
    exact (op_mkfn hr ho (by simpa using e1) (fun j x y h1 h2 => e2 j x y h1 (by simpa using h2)) h).wp hK
  · simp only [Bool.and_eq_true] at hc
    exact (op_mks hr ho hc.1.1 hc.1.2 hc.2 h).wp hK
  · simp only [Bool.and_eq_true, Bool.or_eq_true] at hc
    obtain ⟨⟨⟨⟨⟨h1, h2⟩, h3⟩, h4⟩, h5⟩, h6⟩ := hc
    exact (op_slice hr ho h1 h2 h3 h4 h5 (fun hs => by rcases h6 with h6 | h6; (simp [Option.isNone_iff_eq_none.1 h6] at hs); exact h6) h).wp hK
  · simp only [Bool.and_eq_true] at hc
    exact (op_fad hr ho hc.1 hc.2 h).wp hK
  · simp only [Bool.and_eq_true] at hc
    exact (op_fld hr ho hc.1 hc.2 h).wp hK
  · simp only [Bool.and_eq_true] at hc
    exact (op_iad hr ho hc.1.1 hc.1.2 hc.2 h).wp hK
  · simp only [Bool.and_eq_true] at hc
    exact (op_iada hr ho hc.1.1 hc.1.2 hc.2 h).wp hK
  · simp only [Bool.and_eq_true] at hc
    refine (op_ixs hr ho hc.1.1 hc.1.2 ?_ h).wp hK
    have := hc.2
    unfold chkString at this
    split at this
    · assumption
    · simp at this
  · simp only [Bool.and_eq_true] at hc
    exact (op_ixa hr ho hc.1.1 hc.1.2 hc.2 h).wp hK
  · simp only [Bool.and_eq_true, beq_iff_eq] at hc
    obtain ⟨rfl, h1⟩ := hc
    exact (op_ext hr ho h1 h).wp hK
  · simp only [Bool.and_eq_true] at hc
    exact (op_len hr ho hc.1 hc.2 h).wp hK
  · simp only [Bool.and_eq_true] at hc
    exact (op_app hr ho hc.1.1 hc.1.2 hc.2 h).wp hK
  · simp only [Bool.and_eq_true] at hc
    exact (op_appz hr ho hc.1.1 hc.1.2 hc.2 h).wp hK
  · simp only [Bool.and_eq_true] at hc
    exact (op_mnmx (mx := true) hr ho hc.1 hc.2 h).wp hK
  · simp only [Bool.and_eq_true] at hc
    exact (op_mnmx (mx := false) hr ho hc.1 hc.2 h).wp hK
  · exact (op_nilchk hr ho hc h).wp hK
  · simp only [Bool.and_eq_true, beq_iff_eq] at hc
    obtain ⟨⟨rfl, h1⟩, h2⟩ := hc
    exact op_call hC.sound hr ho h1 h2 h fun v u w' S' β' hov => by
      intro q1 q2 q3 q4
      exact hK u w' S' β' (by rw [hov]; exact q1) q2 q3 q4
  · simp only [Bool.and_eq_true] at hc
    exact op_callv hC.sound hC.fn hC.prim hC.from_ hr ho hc.1 hc.2 h fun v u w' S' β' hov => by
      intro q1 q2 q3 q4
      exact hK u w' S' β' (by rw [hov]; exact q1) q2 q3 q4
  · simp at hc

theorem get_ins {d t : Nat} {v : Option F} : ∀ {e : Env}, get (ins d v e) t = if d = t then v else get e t
  | [] => rfl
  | (k, u) :: e => by
    simp only [ins]
    split
    · rename_i h; subst h
      simp only [get]; split <;> rfl
    · rename_i h
      split
      · rfl
      · simp only [get, get_ins (e := e)]
        by_cases h1 : k = t
        · subst h1; simp [h]
        · simp [h1]

/-- A value is put. -/
theorem Rel.put (hr : Rel Γ N S β st a w) {d : Nat} {v : Option F} {u : Value} (hd : d < N) (hv : ∀ x, v = some x → RF S w β st.hp x u) : Rel Γ N S β (st.put (some d) v) (a.put (some d) u) w := by
  refine ⟨by simp [Act.put, hr.size], hr.defers, fun t x hx => ?_, hr.hp, hr.bound, hr.lab, hr.nxt, hr.prot⟩
  simp only [St.put, get_ins] at hx
  show _ ∧ RF S w β st.hp _ _
  split at hx
  · rename_i e; subst e
    exact ⟨hd, by simpa [Act.put, hr.size, hd] using hv x hx⟩
  · rename_i e
    obtain ⟨h1, h2⟩ := hr.env t x hx
    refine ⟨h1, ?_⟩
    have : (a.put (some d) u).tmps.getD t undef = a.tmps.getD t undef := by simp [Act.put, Array.getElem?_setIfInBounds, e]
    rw [this]; exact h2

/-- What has no fence and no word of deferred calls. -/
def wpOpV (P : Program) (ops : Array Oper) (i : Nat) (K : Act → World → Prop) (a : Act) (w : World) : Prop :=
  match ops[i]? with
  | none => K a w
  | some o => if Region.wanted o (yielded ops a.tmps) then (∀ c, o.op ≠ .defer c) ∧ o.wp P a w K (fun _ _ _ => False) else K (a.put o.dst undef) w
theorem chkOp_defer {vop : VOp} {op : Op} (h : chkOp P vop op = true) (hd : vop ≠ .die) : ∀ c, op ≠ .defer c := by
  intro c e
  subst e
  cases vop <;> first | exact hd rfl | simp [chkOp] at h

/-- One statement, as the machine's order comes to it. -/
theorem stm_sound {T : Tab} {C : CallSem} (hC : CallOk Γ P T C) (hr : Rel Γ N S β st a w) {ops : Array Oper} {s : Stm} {i : Nat} {o : Oper} (hi : ops[i]? = some o) (hc : chkStm P N ops s o = true) (h : stepStm T C st s = some st')
    {K : Act → World → Prop} (hK : ∀ a' w' S' β', Rel Γ N S' β' st' a' w' → Ext st.prot S β st.hp w S' β' st'.hp w' → st'.prot = st.prot → K a' w') : wpOpV P ops i K a w := by
  unfold wpOpV
  simp only [hi]
  cases s with
  | frz t => simp [chkStm] at hc
  | ownnil t off k hint => simp [chkStm] at hc
  | junk t off => simp [chkStm] at hc
  | ownt t k hint => simp [chkStm] at hc
  | frzc t off => simp [chkStm] at hc
  | pre g s => simp [chkStm] at hc
  | op dst guard vop =>
    simp only [chkStm, Bool.and_eq_true] at hc
    obtain ⟨⟨hd, hg⟩, hop⟩ := hc
    have hput : ∀ {st1 : St} {ov : Option F} {u : Value} {w1 : World} {S1 : Nat → Prop} {β1 : Beta}, (∀ x, ov = some x → RF S1 w1 β1 st1.hp x u) → Rel Γ N S1 β1 st1 a w1 → Rel Γ N S1 β1 (st1.put dst ov) (a.put o.dst u) w1 ∧ (st1.put dst ov).hp = st1.hp ∧ (st1.put dst ov).prot = st1.prot := fun {st1 ov u w1 S1 β1} hv hr1 => by
      unfold chkDst at hd
      split at hd
      · rename_i e2
        rw [e2]
        exact ⟨hr1, rfl, rfl⟩
      · rename_i d d' e2
        simp at hd
        obtain ⟨rfl, hlt⟩ := hd
        rw [e2]
        exact ⟨hr1.put hlt hv, rfl, rfl⟩
      · simp at hd
    have hrun : ∀ {ov : Option F} {st1 : St}, stepOp T C st vop = some (ov, st1) → st' = st1.put dst ov → (∀ c, o.op ≠ .defer c) ∧ o.wp P a w K (fun _ _ _ => False) := fun {ov st1} h1 h2 => by
      refine ⟨chkOp_defer hop (fun e => by subst e; simp [stepOp, evalOp] at h1), ?_⟩
      refine op_step hC hr hop h1 fun u w' S' β' hv hr1 hext hp => ?_
      obtain ⟨p1, p2, p3⟩ := hput (ov := ov) (fun x hx => by subst hx; exact hv) hr1
      subst h2
      exact hK _ _ S' β' p1 (by rw [p2]; exact hext) (p3.trans hp)
    cases guard with
    | none =>
      have hog : o.guard = none := by
        unfold chkGuard at hg
        split at hg
        · assumption
        · rename_i h1 h2; simp at h1
        · simp at hg
      have hw : Region.wanted o (yielded ops a.tmps) = true := by simp [Region.wanted, hog]
      rw [if_pos hw]
      simp only [stepStm] at h
      split at h
      · rename_i v st1 hs
        simp at h
        exact hrun hs h.symm
      · simp at h
    | some gw =>
      obtain ⟨g, want⟩ := gw
      obtain ⟨j, hog, hj⟩ : ∃ j, o.guard = some (j, want) ∧ (ops[j]?).bind (·.dst) = some g := by
        generalize o.guard = og at hg
        cases og with
        | none => simp [chkGuard] at hg
        | some jw =>
          obtain ⟨j, want'⟩ := jw
          simp only [chkGuard, Bool.and_eq_true, beq_iff_eq] at hg
          obtain ⟨rfl, hg⟩ := hg
          refine ⟨j, rfl, ?_⟩
          split at hg
          · rename_i d hd; simp at hg; subst hg; exact hd
          · simp at hg
      have hskip : st' = st.put dst (some (.i (.tup []))) → K (a.put o.dst undef) w := fun h1 => by
        obtain ⟨p1, p2, p3⟩ := hput (st1 := st) (ov := some (.i (.tup []))) (u := undef) (w1 := w) (S1 := S) (β1 := β) (fun x hx => by simp at hx; subst hx; exact .i _ _ (.tup [] #[] rfl fun _ _ _ h => by simp at h)) hr
        rw [h1] at hK
        exact hK _ _ S β p1 (by rw [p2]; exact Ext.refl ..) p3
      obtain ⟨oj, hoj, hdj⟩ : ∃ oj, ops[j]? = some oj ∧ oj.dst = some g := by
        generalize ops[j]? = q at hj
        cases q with
        | none => simp at hj
        | some oj => exact ⟨oj, rfl, by simpa using hj⟩
      simp only [stepStm] at h
      split at h
      · rename_i b hb
        have hv := (hr.env g _ hb).2.inv_i.inv_bool
        have hw : Region.wanted o (yielded ops a.tmps) = (b == want) := by
          have : a.tmps[g]? = some (.bool b) := by
            have hlt : g < a.tmps.size := by rw [hr.size]; exact (hr.env g _ hb).1
            rw [Array.getElem?_eq_getElem hlt]
            simpa [Array.getD, hlt] using hv
          simp [Region.wanted, hog, yielded, hoj, hdj, this]
        rw [hw]
        split at h
        · rename_i hbw
          rw [if_pos hbw]
          split at h
          · rename_i v st1 hs
            simp at h
            exact hrun hs h.symm
          · simp at h
        · rename_i hbw
          rw [if_neg hbw]
          simp at h
          exact hskip h.symm
      · rename_i hb
        have hv := (hr.env g _ hb).2.inv_i
        have hlt : g < a.tmps.size := by rw [hr.size]; exact (hr.env g _ hb).1
        obtain ⟨vs, hv⟩ : ∃ vs, a.tmps.getD g undef = .tuple vs := by
          generalize a.tmps.getD g undef = q at hv
          cases hv with
          | tup _ vs hs _ => exact ⟨_, rfl⟩
        have hw : Region.wanted o (yielded ops a.tmps) = false := by
          have : a.tmps[g]? = some (.tuple vs) := by
            rw [Array.getElem?_eq_getElem hlt]
            simpa [Array.getD, hlt] using hv
          simp [Region.wanted, hog, yielded, hoj, hdj, this]
        rw [hw]
        simp at h
        exact hskip h.symm
      · simp at h

theorem stms_sound {T : Tab} {C : CallSem} (hC : CallOk Γ P T C) {ops : Array Oper} {i : Nat} {o : Oper} (hi : ops[i]? = some o) {K : Act → World → Prop} : ∀ {s : Stm} {S : Nat → Prop} {β : Beta} {st : St}, Rel Γ N S β st a w → chkStms P N ops s o = true → stepStm T C st s = some st' →
    (∀ a' w' S' β', Rel Γ N S' β' st' a' w' → Ext st.prot S β st.hp w S' β' st'.hp w' → st'.prot = st.prot → K a' w') → wpOpV P ops i K a w
  | .op dst guard vop, S, β, st, hr, hc, h, hK => stm_sound hC hr hi hc h hK
  | .frz t, S, β, st, hr, hc, h, hK => by simp [chkStms, chkStm] at hc
  | .ownnil .., S, β, st, hr, hc, h, hK => by simp [chkStms, chkStm] at hc
  | .junk .., S, β, st, hr, hc, h, hK => by simp [chkStms, chkStm] at hc
  | .ownt .., S, β, st, hr, hc, h, hK => by simp [chkStms, chkStm] at hc
  | .frzc .., S, β, st, hr, hc, h, hK => by simp [chkStms, chkStm] at hc
  | .pre g s, S, β, st, hr, hc, h, hK => by
    simp only [chkStms, Bool.and_eq_true] at hc
    simp only [stepStm] at h
    split at h
    · rename_i st1 h1
      obtain ⟨S1, β1, hr1, he1, hp1⟩ := ghost_rel hc.1 hr h1
      refine stms_sound hC hi hr1 hc.2 h fun a' w' S' β' hr' he' hp' => hK a' w' S' β' hr' (he1.trans (hp1 ▸ he')) (hp'.trans hp1)
    · simp at h

/-! In a fence: an activation of a function, or of a round; with whatever has been deferred. -/
def Gf (ρ : Option Nat) : Fence := { Fence.wide with round := ρ }
def withD (a : Act) (ds : List Deferred) : Act := { a with defers := ds }
theorem withD_put (a : Act) (ds : List Deferred) (d : Option Tmp) (v : Value) : (withD a ds).put d v = withD (a.put d v) ds := by cases d <;> rfl
theorem put_defers (a : Act) (d : Option Tmp) (v : Value) : (a.put d v).defers = a.defers := by cases d <;> rfl
theorem withD_eval (a : Act) (ds : List Deferred) : (withD a ds).eval = a.eval := by funext o; cases o <;> rfl
theorem gf_room (ρ : Option Nat) (n : Nat) : (Gf ρ).room n := fun _ h => by simp [Gf, Fence.wide] at h
theorem calls_gf {ρ : Option Nat} {n : Nat} {f : FuncId} {args : Array Value} {R : Ending → World → Prop} (h : Calls P f args w R) : CallsIn (Gf ρ) n P f args w R := callsIn_wide.2 h
theorem callsIn_gf {ρ : Option Nat} {n : Nat} {f : FuncId} {args : Array Value} {R : Ending → World → Prop} (h : CallsIn (Gf ρ) n P f args w R) : Calls P f args w R := callsIn_wide (n := n).1 h
theorem rows_gf {ρ : Option Nat} {n : Nat} {row : String} {args : Array Value} {R : Value → World → Prop} (h : Rows P row args w R) : RowsIn (Gf ρ) n P row args w R := fun c cs _ =>
  let ⟨v, w', r, s⟩ := h c cs
  ⟨v, w', r, stepsIn_wide.2 s⟩

theorem wpOpV_in {ρ : Option Nat} {n : Nat} {ds : List Deferred} {ops : Array Oper} {i : Nat} {K K' : Act → World → Prop} {Q : Exit → Act → World → Prop} (h : wpOpV P ops i K a w) (hd : ∀ a' w', K a' w' → a'.defers = [])
    (hK : ∀ a' w', K a' w' → (∀ o, ops[i]? = some o → ∃ u, a' = a.put o.dst u) → K' (withD a' ds) w') : wpOpIn (Gf ρ) n P ops Q i K' (withD a ds) w := by
  unfold wpOpV at h
  unfold wpOpIn
  cases ho : ops[i]? with
  | none => simp only [ho] at h ⊢; exact hK _ _ h (fun o h => by rw [ho] at h; cases h)
  | some o =>
    have hpu : ∀ v o', ops[i]? = some o' → ∃ u, a.put o.dst v = a.put o'.dst u := fun v o' h => by rw [ho] at h; cases h; exact ⟨v, rfl⟩
    simp only [ho] at h ⊢
    have ht : (withD a ds).tmps = a.tmps := rfl
    rw [ht]
    split
    · rename_i hw
      rw [if_pos hw] at h
      obtain ⟨hnd, h⟩ := h
      refine ⟨fun _ _ => trivial, ?_⟩
      rw [Oper.semAt_eq _ _ _ hnd, withD_eval]
      unfold Oper.wp at h
      generalize (execOp a.eval o).run P w = r at *
      cases r with
      | ok x w' =>
        cases x with
        | value v => simp only [Oper.upon, Oper.uponIn] at h ⊢; rw [withD_put]; exact hK _ _ h (hpu _)
        | skip => simp only [Oper.upon, Oper.uponIn] at h ⊢; rw [withD_put]; exact hK _ _ h (hpu _)
        | defer d =>
          simp only [Oper.upon] at h
          have := hd _ _ h
          rw [put_defers] at this
          cases this
        | enter f args =>
          simp only [Oper.upon, Oper.uponIn] at h ⊢
          refine ⟨fun hh => by simp [Gf, Fence.wide] at hh, calls_gf (h.mono fun e w'' he => ?_)⟩
          cases e with
          | returned v => simp only at he ⊢; rw [withD_put]; exact hK _ _ he (hpu _)
          | panicked c => exact he.elim
          | outgrown => obtain ⟨_, _, h⟩ := he; exact h.elim
        | row row args =>
          simp only [Oper.upon, Oper.uponIn] at h ⊢
          refine ⟨fun hh => by simp [Gf, Fence.wide] at hh, rows_gf (h.mono fun v w'' he => ?_)⟩
          rw [withD_put]; exact hK _ _ he (hpu _)
        | _ => exact h.elim
      | halt x w' => cases x <;> exact h.elim
    · rename_i hw
      rw [if_neg hw] at h
      refine ⟨fun _ _ => trivial, ?_⟩
      rw [withD_put]; exact hK _ _ h (hpu _)
end
end Go.Vm

/- The order of operations that a region leaves open: what an operation looks at, and which ones may change places. -/
set_option linter.unusedSimpArgs false
set_option linter.unusedVariables false
namespace Go.Vm
variable {Γ : GlobP}

def Opd.looks : Opd → List Nat
  | .t n => [n]
  | _ => []
def looksO : Option Opd → List Nat
  | some x => x.looks
  | none => []
def looksP : List (Nat × Nat × Opd) → List Nat
  | [] => []
  | (_, _, x) :: r => x.looks ++ looksP r
def looksA : List (Bool × Opd) → List Nat
  | [] => []
  | (_, x) :: r => x.looks ++ looksA r
def looksC : List Opd → List Nat
  | [] => []
  | x :: r => x.looks ++ looksC r
def VOp.looks : VOp → List Nat
  | .mv x => x.looks
  | .nil _ _ => []
  | .pick c a b => c.looks ++ (a.looks ++ b.looks)
  | .alloc _ _ => []
  | .box x _ => x.looks
  | .build _ ps => looksP ps
  | .bsl _ _ _ ps _ => looksP ps
  | .load _ a => a.looks
  | .store _ a x => a.looks ++ x.looks
  | .bin _ _ x y => x.looks ++ y.looks
  | .un _ x => x.looks
  | .cint _ x => x.looks
  | .cstr x => x.looks
  | .s2b x _ => x.looks
  | .b2s x => x.looks
  | .ifc _ x => x.looks
  | .mkfn _ caps => looksC caps
  | .mks _ _ _ l c _ => l.looks ++ c.looks
  | .slice _ x lo hi mx => x.looks ++ (looksO lo ++ (looksO hi ++ looksO mx))
  | .fad _ x => x.looks
  | .fld _ _ x => x.looks
  | .iad _ x i => x.looks ++ i.looks
  | .iada _ _ x i => x.looks ++ i.looks
  | .ixs x i => x.looks ++ i.looks
  | .ixa _ _ _ x i => x.looks ++ i.looks
  | .ext x _ => x.looks
  | .len _ x => x.looks
  | .app _ _ _ x y _ => x.looks ++ y.looks
  | .mnmx _ x y => x.looks ++ y.looks
  | .nilchk x => x.looks
  | .call _ args _ => looksA args
  | .callv x args _ => x.looks ++ looksA args
  | .eqs _ _ x y => x.looks ++ y.looks
  | .appz _ _ _ x y _ => x.looks ++ y.looks
  | .die => []
  | .isnil _ x => x.looks
  | .copy x y => x.looks ++ y.looks
  | .boxi x => x.looks
  | .fadi _ x => x.looks
  | .loadi _ a => a.looks
  | .loadl _ _ a => a.looks
  | .storel _ _ a x => a.looks ++ x.looks
  | .fadl _ _ x => x.looks
  | .mvi x => x.looks
  | .iadi _ x i => x.looks ++ i.looks
  | .loadli _ _ a => a.looks
  | .calli _ args => looksA args
  | .takel _ _ _ a => a.looks
  | .bsli _ _ _ ps => looksP ps
  | .apl _ _ _ x y => x.looks ++ y.looks
def noModes : List (Bool × Opd) → Bool
  | [] => true
  | (m, _) :: r => !m && noModes r
def clsNew : Option Nat → Nat
  | none => 3
  | some _ => 4
def clsCall (thr : FuncId → Bool) (g : FuncId) (args : List (Bool × Opd)) (hint : Option (Option Nat)) : Nat :=
  if thr g then 5 else if hint.isNone && noModes args then 1 else 4
/-- 0: looks at values alone; 1: looks at the heap; 2: writes a block; 3: makes a block with a new label; 4: comes neither before nor after its turn; 5: stands in no open region. -/
def VOp.cls (thr : FuncId → Bool) : VOp → Nat
  | .mv _ => 0
  | .nil _ h => clsNew h
  | .pick .. => 0
  | .alloc _ h => clsNew h
  | .box _ h => clsNew h
  | .build .. => 0
  | .bsl _ _ _ _ h => clsNew h
  | .load .. => 1
  | .store .. => 2
  | .bin .. => 0
  | .un .. => 0
  | .cint .. => 0
  | .cstr .. => 0
  | .s2b _ h => clsNew h
  | .b2s _ => 1
  | .ifc .. => 0
  | .mkfn .. => 0
  | .mks _ _ _ _ _ h => clsNew h
  | .slice .. => 0
  | .fad .. => 0
  | .fld .. => 0
  | .iad .. => 0
  | .iada .. => 0
  | .ixs .. => 0
  | .ixa .. => 0
  | .ext .. => 0
  | .len .. => 0
  | .app .. => 4
  | .mnmx .. => 0
  | .nilchk .. => 0
  | .call g args h => clsCall thr g args h
  | .callv .. => 5
  | .eqs .. => 0
  | .appz .. => 4
  | .die => 0
  | .isnil .. => 0
  | .copy .. => 2
  | .boxi .. => 0
  | .fadi .. => 0
  | .loadi .. => 0
  | .loadl .. => 1
  | .storel .. => 2
  | .fadl .. => 4
  | .mvi .. => 4
  | .iadi .. => 4
  | .loadli .. => 4
  | .calli .. => 4
  | .takel .. => 4
  | .bsli .. => 4
  | .apl .. => 4

theorem clsNew_lt {h : Option Nat} {n : Nat} (hc : clsNew h = n) (hn : n < 4) : h = none ∧ n = 3 := by
  cases h with
  | none => exact ⟨rfl, hc.symm⟩
  | some _ => simp [clsNew] at hc; omega
theorem clsNew_23 {h : Option Nat} (hc : clsNew h = 2 ∨ clsNew h = 3) : h = none := by
  cases h with
  | none => rfl
  | some _ => simp [clsNew] at hc
theorem clsCall_lt {thr : FuncId → Bool} {g : FuncId} {args : List (Bool × Opd)} {hint : Option (Option Nat)} {n : Nat} (hc : clsCall thr g args hint = n) (hn : n < 4) : hint = none ∧ noModes args = true ∧ thr g = false ∧ n = 1 := by
  unfold clsCall at hc
  split at hc
  · omega
  · split at hc
    · rename_i h1 h2
      simp at h1 h2
      exact ⟨h2.1, h2.2, h1, hc.symm⟩
    · omega

def Agree (vs : List Nat) (e e2 : Env) : Prop := ∀ t, t ∈ vs → get e2 t = get e t
theorem Agree.left {u v : List Nat} {e e2 : Env} (h : Agree (u ++ v) e e2) : Agree u e e2 := fun t ht => h t (List.mem_append_left _ ht)
theorem Agree.right {u v : List Nat} {e e2 : Env} (h : Agree (u ++ v) e e2) : Agree v e e2 := fun t ht => h t (List.mem_append_right _ ht)

section
variable {st st2 : St}
theorem val_agree {x : Opd} (h : Agree x.looks st.env st2.env) : st2.val x = st.val x := by
  cases x with
  | t n => exact h n (by simp [Opd.looks])
  | c x => rfl
  | f g => rfl
theorem optNat_agree {d : Nat} : ∀ {x : Option Opd}, Agree (looksO x) st.env st2.env → optNat st2 d x = optNat st d x
  | none, _ => rfl
  | some x, h => by simp only [optNat, val_agree (x := x) h]
theorem parts_agree : ∀ {ps : List (Nat × Nat × Opd)}, Agree (looksP ps) st.env st2.env → st2.parts ps = st.parts ps
  | [], _ => rfl
  | (o, n, x) :: r, h => by
    have h1 := val_agree (x := x) h.left
    have h2 := parts_agree (ps := r) h.right
    simp only [St.parts, List.map_cons] at h2 ⊢
    rw [h1, h2]
theorem vals_agree : ∀ {ps : List (Bool × Opd)}, Agree (looksA ps) st.env st2.env → st2.vals ps = st.vals ps
  | [], _ => rfl
  | (m, x) :: r, h => by
    have h1 := val_agree (x := x) h.left
    have h2 := vals_agree (ps := r) h.right
    simp only [St.vals]
    rw [h1, h2]
theorem caps_agree : ∀ {ps : List Opd}, Agree (looksC ps) st.env st2.env → ps.mapM st2.val = ps.mapM st.val
  | [], _ => rfl
  | x :: r, h => by
    have h1 := val_agree (x := x) h.left
    have h2 := caps_agree (ps := r) h.right
    simp only [List.mapM_cons]
    rw [h1, h2]

theorem pure_agree {thr : FuncId → Bool} {o : VOp} (hc : o.cls thr = 0) (h : Agree o.looks st.env st2.env) : evalOp st2 o = (evalOp st o).map fun p => (p.1, st2) := by
  cases o <;> simp only [VOp.looks] at h
  case mv x => simp only [evalOp, val_agree h]; split <;> simp_all
  case pick c a b =>
    simp only [evalOp, val_agree h.left, val_agree h.right.left, val_agree h.right.right]
    split
    · split
      · split <;> simp_all
      · split <;> simp_all
    · simp_all
  case build zero ps => simp only [evalOp, parts_agree h]; split <;> simp_all
  case bin ty op x y =>
    simp only [evalOp, val_agree h.left, val_agree h.right]
    split
    · split <;> simp_all
    · rfl
  case un op x =>
    simp only [evalOp, val_agree h]
    split
    · split <;> simp_all
    · rfl
  case cint k x => simp only [evalOp, val_agree h]; split <;> simp_all
  case cstr x => simp only [evalOp, val_agree h]; split <;> simp_all
  case ifc t x => simp only [evalOp, val_agree h]; split <;> simp_all
  case mkfn g caps => simp only [evalOp, caps_agree h]; split <;> simp_all
  case slice kk x lo hi mx =>
    simp only [evalOp, val_agree h.left, optNat_agree h.right.left, optNat_agree h.right.right.left, optNat_agree h.right.right.right]
    split
    · split
      · split <;> simp_all
      · rfl
    · split
      · split <;> simp_all
      · rfl
    · split
      · split <;> simp_all
      · rfl
    · rfl
  case fad off x => simp only [evalOp, val_agree h]; split <;> simp_all
  case fld off n x =>
    simp only [evalOp, val_agree h]
    split
    · split <;> simp_all
    · split <;> simp_all
    · rfl
  case iad k x i =>
    simp only [evalOp, val_agree h.left, val_agree h.right]
    split
    · split <;> simp_all
    · split <;> simp_all
    · rfl
  case iada k len x i =>
    simp only [evalOp, val_agree h.left, val_agree h.right]
    split
    · split <;> simp_all
    · split <;> simp_all
    · rfl
  case ixs x i =>
    simp only [evalOp, val_agree h.left, val_agree h.right]
    split
    · split <;> simp_all
    · rfl
  case ixa k len n x i =>
    simp only [evalOp, val_agree h.left, val_agree h.right]
    split
    · split
      · split <;> simp_all
      · rfl
    · rfl
  case ext x j =>
    simp only [evalOp, val_agree h]
    split
    · split <;> simp_all
    · split <;> simp_all
    · rfl
  case len str x =>
    simp only [evalOp, val_agree h]
    split
    · split <;> simp_all
    · split <;> simp_all
    · split <;> simp_all
    · split <;> simp_all
    · rfl
  case mnmx mx x y => simp only [evalOp, val_agree h.left, val_agree h.right]; split <;> simp_all
  case nilchk x => simp only [evalOp, val_agree h]; split <;> simp_all
  case eqs neg n x y =>
    simp only [evalOp, val_agree h.left, val_agree h.right]
    split
    · split
      · split <;> simp_all
      · rfl
    · rfl
  case die => simp [evalOp]
  case boxi x => simp only [evalOp, val_agree h]; split <;> simp_all
  case fadi off x => simp only [evalOp, val_agree h]; split <;> simp_all
  case loadi n a =>
    simp only [evalOp, val_agree h]
    split
    · split <;> simp_all
    · rfl
  case isnil neg x =>
    simp only [evalOp, val_agree h]
    split
    · simp_all
    · split <;> simp_all
    · split <;> simp_all
    · rfl
  all_goals exfalso
  all_goals simp only [VOp.cls] at hc
  all_goals first
    | (cases hc; done)
    | (have := (clsNew_lt hc (by omega)).2; omega)
    | (have := (clsCall_lt hc (by omega)).2.2.2; omega)
end

/-! What an operation reads of the heap stays under more blocks. -/
def HLe (h h2 : Heap) : Prop := ∀ l b, hget h l = some b → hget h2 l = some b
theorem HLe.refl (h : Heap) : HLe h h := fun _ _ h => h
theorem HLe.cons {h : Heap} {x : Nat} {b : Blk} (hx : hget h x = none) : HLe h ((x, b) :: h) := fun l blk hl => by
  have : ¬ x = l := fun e => by subst e; simp [hx] at hl
  simp [hget, this, hl]

theorem mapO_mono {α β : Type} {f g : α → Option β} (h : ∀ c x, f c = some x → g c = some x) : ∀ {l : List α} {r : List β}, mapO f l = some r → mapO g l = some r
  | [], r, e => e
  | c :: cs, r, e => by
    simp only [mapO] at e ⊢
    split at e
    · rename_i x l h1 h2; rw [h _ _ h1, mapO_mono h h2]; exact e
    · simp at e
theorem snap_mono {h h2 : Heap} (hh : HLe h h2) : ∀ {n : Nat} {v : F} {x : I}, snap h n v = some x → snap h2 n v = some x
  | n, .i y, x, e => by cases n <;> simpa [snap] using e
  | 0, .own .., x, e => by simp [snap] at e
  | 0, .ref .., x, e => by simp [snap] at e
  | 0, .agg _, x, e => by simp [snap] at e
  | 0, .tup _, x, e => by simp [snap] at e
  | 0, .fn _ _, x, e => by simp [snap] at e
  | n + 1, .own l off len k, x, e => by
    simp only [snap] at e ⊢
    split at e
    · rename_i cs hl; rw [hh _ _ hl]; exact e
    · rename_i cs hl
      rw [hh _ _ hl]
      simp only
      split at e
      · rename_i hle
        rw [if_pos hle]
        split at e
        · rename_i l hs; rw [mapO_mono (g := fun c => snap h2 n c) (fun c x => snap_mono hh) hs]; exact e
        · simp at e
      · simp at e
    · simp at e
  | n + 1, .ref l off, x, e => by
    simp only [snap] at e ⊢
    split at e
    · rename_i cs hl; rw [hh _ _ hl]; exact e
    · rename_i cs hl
      rw [hh _ _ hl]
      simp only
      split at e
      · rename_i l hs; rw [mapO_mono (g := fun c => snap h2 n c) (fun c x => snap_mono hh) hs]; exact e
      · simp at e
    · simp at e
  | n + 1, .agg cs, x, e => by
    simp only [snap] at e ⊢
    split at e
    · rename_i l hs; rw [mapO_mono (g := fun c => snap h2 n c) (fun c x => snap_mono hh) hs]; exact e
    · simp at e
  | n + 1, .tup cs, x, e => by
    simp only [snap] at e ⊢
    split at e
    · rename_i l hs; rw [mapO_mono (g := fun c => snap h2 n c) (fun c x => snap_mono hh) hs]; exact e
    · simp at e
  | n + 1, .fn f cs, x, e => by
    simp only [snap] at e ⊢
    split at e
    · rename_i l hs; rw [mapO_mono (g := fun c => snap h2 n c) (fun c x => snap_mono hh) hs]; exact e
    · simp at e
theorem hdrop_nil : ∀ (h : Heap), hdrop [] h = h
  | [] => rfl
  | (l, b) :: r => by simp [hdrop, isPassed, hdrop_nil r]

def allView : List (Bool × F) → Bool
  | [] => true
  | (m, _) :: r => !m && allView r
theorem passed_view : ∀ {vs : List (Bool × F)} {j : Nat}, allView vs = true → passed j vs = []
  | [], j, _ => rfl
  | (false, v) :: r, j, h => by
    simp [allView] at h
    have := passed_view (vs := r) (j := j + 1) h
    cases v <;> simpa [passed] using this
  | (true, v) :: r, j, h => by simp [allView] at h
theorem vals_view {st : St} : ∀ {ps : List (Bool × Opd)} {vs : List (Bool × F)}, noModes ps = true → st.vals ps = some vs → allView vs = true
  | [], vs, _, h => by simp [St.vals] at h; subst h; rfl
  | (m, x) :: r, vs, hm, h => by
    simp [noModes] at hm
    simp only [St.vals] at h
    split at h
    · rename_i v l h1 h2
      simp at h; subst h
      simp [allView, hm.1, vals_view hm.2 h2]
    · simp at h
theorem passArgs_mono {h h2 : Heap} (hh : HLe h h2) : ∀ {vs : List (Bool × F)} {j : Nat} {r : List F × Bool}, allView vs = true → passArgs h j vs = some r → passArgs h2 j vs = some r
  | [], j, r, _, e => by simpa [passArgs] using e
  | (true, v) :: vs, j, r, ha, e => by simp [allView] at ha
  | (false, v) :: vs, j, r, ha, e => by
    simp [allView] at ha
    cases v with
    | i x =>
      simp only [passArgs] at e ⊢
      split at e
      · rename_i l b h1; rw [passArgs_mono hh ha h1]; exact e
      · simp at e
    | _ =>
      simp only [passArgs] at e ⊢
      split at e
      · rename_i x l b h1 h2; rw [snap_mono hh h1, passArgs_mono hh ha h2]; exact e
      · simp at e

theorem takeRes_view {h' : Heap} {bo : Bool} {v x : F} {st st' : St} (h : takeRes h' [] bo none v st = some (x, st')) : st' = st ∧ ∀ st2, takeRes h' [] bo none v st2 = some (x, st2) := by
  cases v with
  | i y =>
    simp only [takeRes] at h ⊢
    split at h
    · simp at h
    · rename_i hc
      simp at h
      refine ⟨h.2.symm, fun st2 => ?_⟩
      rw [if_neg hc, h.1]
  | own => simp [takeRes, backLabel] at h
  | _ => simp [takeRes] at h
theorem takeResL_view {h' : Heap} {bo : Bool} : ∀ {vs xs : List F} {st st' : St}, takeResL h' [] bo none vs st = some (xs, st') → st' = st ∧ ∀ st2, takeResL h' [] bo none vs st2 = some (xs, st2)
  | [], xs, st, st', h => by simp [takeResL] at h; exact ⟨h.2.symm, fun st2 => by simp [takeResL, h.1]⟩
  | v :: vs, xs, st, st', h => by
    simp only [takeResL] at h ⊢
    split at h
    · rename_i x st1 h1
      obtain ⟨rfl, h1'⟩ := takeRes_view h1
      split at h
      · rename_i ys st2 h2
        obtain ⟨rfl, h2'⟩ := takeResL_view h2
        simp at h
        refine ⟨h.2.symm, fun st3 => ?_⟩
        rw [h1' st3]; simp only; rw [h2' st3]; simp [h.1]
      · simp at h
    · simp at h

theorem iso_view {C : CallSem} {g : FuncId} {vs : List (Bool × F)} {st st' : St} {v : F} (ha : allView vs = true) (h : isoCall C g vs none st = some (v, st')) :
    st' = st ∧ ∀ st2, HLe st.hp st2.hp → isoCall C g vs none st2 = some (v, st2) := by
  simp only [isoCall, passed_view ha, passHp, hdrop_nil, takeBack] at h ⊢
  split at h
  · rename_i hp as bo h1 h2
    cases h1
    split at h
    · simp at h
    · rename_i r h' n hC
      have fin : ∀ {st2 : St}, HLe st.hp st2.hp → passArgs st2.hp 0 vs = some (as, bo) := fun hh => passArgs_mono hh ha h2
      split at h
      · rename_i us
        split at h
        · rename_i xs st1 h3
          obtain ⟨rfl, h3'⟩ := takeResL_view h3
          simp at h
          refine ⟨h.2.symm, fun st2 hh => ?_⟩
          rw [fin hh]; simp only; rw [hC]; simp only; rw [h3' st2]; simp [h.1]
        · simp at h
      · rename_i us
        split at h
        · rename_i ho
          split at h
          · rename_i xs st1 h3
            obtain ⟨rfl, h3'⟩ := takeResL_view h3
            simp at h
            refine ⟨h.2.symm, fun st2 hh => ?_⟩
            rw [fin hh]; simp only; rw [hC]; simp only; rw [if_pos ho, h3' st2]; simp [h.1]
          · simp at h
        · simp at h
      · rename_i hn1 hn2
        obtain ⟨rfl, h3⟩ := takeRes_view h
        refine ⟨rfl, fun st2 hh => ?_⟩
        rw [fin hh]; simp only; rw [hC]; simp only
        exact h3 st2
  · simp at h

def thrOf (T : Tab) (g : FuncId) : Bool := match T.fn g with | some vf => vf.thr | none => false

theorem read_agree {T : Tab} {C : CallSem} {st st' : St} {o : VOp} {v : Option F} (hc : o.cls (thrOf T) = 1) (h : stepOp T C st o = some (v, st')) :
    st' = st ∧ ∀ st2, Agree o.looks st.env st2.env → HLe st.hp st2.hp → stepOp T C st2 o = some (v, st2) := by
  cases o
  case loadl lab n a =>
    simp only [stepOp, evalOp] at h ⊢
    split at h
    · rename_i l off hv
      split at h
      · rename_i hlab
        split at h
        · rename_i b hb
          split at h
          · rename_i x hx
            simp at h
            refine ⟨h.2.symm, fun st2 ha hh => ?_⟩
            rw [val_agree ha, hv]; simp only; rw [if_pos hlab, hh _ _ hb]; simp only; rw [hx]; simp [h.1]
          · simp at h
        · simp at h
      · simp at h
    · simp at h
  case load n a =>
    simp only [stepOp, evalOp] at h ⊢
    split at h
    · rename_i l off hv
      split at h
      · rename_i b hb
        split at h
        · rename_i x hx
          simp at h
          refine ⟨h.2.symm, fun st2 ha hh => ?_⟩
          rw [val_agree ha, hv]; simp only; rw [hh _ _ hb]; simp only; rw [hx]; simp [h.1]
        · simp at h
      · simp at h
    · rename_i cs off hv
      split at h
      · rename_i x hx
        simp at h
        refine ⟨h.2.symm, fun st2 ha hh => ?_⟩
        rw [val_agree ha, hv]; simp only; rw [hx]; simp [h.1]
      · simp at h
    · simp at h
  case b2s x =>
    simp only [stepOp, evalOp] at h ⊢
    split at h
    · rename_i y hv
      split at h
      · rename_i cs hs
        split at h
        · rename_i bs hb
          simp at h
          refine ⟨h.2.symm, fun st2 ha hh => ?_⟩
          rw [val_agree ha, hv]; simp only; rw [snap_mono hh hs]; simp only; rw [hb]; simp [h.1]
        · simp at h
      · simp at h
    · simp at h
  case call g args hint =>
    obtain ⟨rfl, hm, ht, _⟩ := clsCall_lt (n := 1) hc (by omega)
    simp only [stepOp] at h ⊢
    split at h
    · rename_i vs hvs
      have hview := vals_view hm hvs
      have hiso : ∀ {r : Option F × St}, callOp T C st g vs none = some r → (match isoCall C g vs none st with | some (v, st') => some (some v, st') | none => none) = some r ∧ ∀ st2, callOp T C st2 g vs none = (match isoCall C g vs none st2 with | some (v, st') => some (some v, st') | none => none) := fun {r} hr => by
        unfold callOp at hr ⊢
        cases hf : T.fn g with
        | none => rw [hf] at hr; exact ⟨hr, fun st2 => rfl⟩
        | some vf =>
          have : vf.thr = false := by simpa [thrOf, hf] using ht
          rw [hf] at hr
          simp only [this, Bool.false_eq_true, if_false] at hr ⊢
          exact ⟨hr, fun st2 => rfl⟩
      obtain ⟨h1, h2⟩ := hiso h
      split at h1
      · rename_i u st1 hi
        obtain ⟨rfl, hi'⟩ := iso_view hview hi
        simp at h1
        refine ⟨h1.2.symm, fun st2 ha hh => ?_⟩
        rw [vals_agree ha, hvs]; simp only; rw [h2, hi' st2 hh]; simp [h1.1]
      · simp at h1
    · simp at h
  all_goals exfalso
  all_goals simp only [VOp.cls] at hc
  all_goals first
    | (cases hc; done)
    | (have := (clsNew_lt hc (by omega)).2; omega)

theorem write_agree {T : Tab} {C : CallSem} {st st' : St} {o : VOp} {v : Option F} (hc : o.cls (thrOf T) = 2 ∨ o.cls (thrOf T) = 3) (h : stepOp T C st o = some (v, st')) :
    ∃ hp' n', st' = { st with hp := hp', nxt := n' } ∧ (o.cls (thrOf T) = 3 → HLe st.hp hp') ∧ ∀ st2, Agree o.looks st.env st2.env → st2.hp = st.hp → st2.nxt = st.nxt → stepOp T C st2 o = some (v, { st2 with hp := hp', nxt := n' }) := by
  have new : ∀ {blk : Blk} {l : Nat} {st1 : St}, st.create none blk = some (l, st1) → ∃ hp' n', st1 = { st with hp := hp', nxt := n' } ∧ HLe st.hp hp' ∧ ∀ st2 : St, st2.hp = st.hp → st2.nxt = st.nxt → st2.create none blk = some (l, { st2 with hp := hp', nxt := n' }) := fun {blk l st1} hcr => by
    simp only [St.create] at hcr ⊢
    split at hcr
    · rename_i h0
      simp at hcr
      obtain ⟨rfl, rfl⟩ := hcr
      refine ⟨_, _, rfl, HLe.cons h0, fun st2 e1 e2 => ?_⟩
      rw [e1, e2, h0]
    · simp at hcr
  cases o
  case storel lab n a x =>
    simp only [stepOp, evalOp] at h ⊢
    split at h
    · rename_i l off u hv hu
      split at h
      · rename_i hlab
        split at h
        · rename_i b hb
          split at h
          · rename_i hcond
            simp at h
            refine ⟨_, st.nxt, h.2.symm, fun hc => by simp [VOp.cls] at hc, fun st2 ha e1 e2 => ?_⟩
            rw [val_agree ha.left, val_agree ha.right, hv, hu]; simp only
            rw [if_pos hlab, e1, hb]; simp only
            rw [if_pos hcond]
            simp [h.1, ← e2]
          · simp at h
        · simp at h
      · simp at h
    · simp at h
  case store n a x =>
    simp only [stepOp, evalOp] at h ⊢
    split at h
    · rename_i l off u hv hu
      split at h
      · rename_i b hb
        split at h
        · rename_i hcond
          simp at h
          refine ⟨_, st.nxt, h.2.symm, fun hc => by simp [VOp.cls] at hc, fun st2 ha e1 e2 => ?_⟩
          rw [val_agree ha.left, val_agree ha.right, hv, hu]; simp only
          rw [e1, hb]; simp only
          rw [if_pos hcond]
          simp [h.1, ← e2]
        · simp at h
      · simp at h
    · simp at h
  case copy x y =>
    have cp : ∀ {l off len : Nat} {news : List F}, st.copyTo l off len news = some (v, st') → ∃ hp' n', st' = { st with hp := hp', nxt := n' } ∧ ∀ st2 : St, st2.hp = st.hp → st2.nxt = st.nxt → st2.copyTo l off len news = some (v, { st2 with hp := hp', nxt := n' }) := fun {l off len news} h => by
      unfold St.copyTo at h ⊢
      split at h
      · rename_i b hb
        split at h
        · rename_i hcond
          simp only [Option.some.injEq, Prod.mk.injEq] at h
          refine ⟨_, st.nxt, h.2.symm, fun st2 e1 e2 => ?_⟩
          rw [e1, hb]; simp only
          rw [if_pos hcond, ← h.1, ← e2]
        · simp at h
      · simp at h
    simp only [stepOp, evalOp] at h ⊢
    split at h
    · rename_i l off len cs hv hu
      obtain ⟨hp', n', rfl, hn⟩ := cp h
      refine ⟨hp', n', rfl, fun hc => by simp [VOp.cls] at hc, fun st2 ha e1 e2 => ?_⟩
      rw [val_agree ha.left, val_agree ha.right, hv, hu]
      exact hn st2 e1 e2
    · rename_i l off len l2 off2 len2 hv hu
      split at h
      · rename_i b2 hb2
        split at h
        · rename_i hcond
          obtain ⟨hp', n', rfl, hn⟩ := cp h
          refine ⟨hp', n', rfl, fun hc => by simp [VOp.cls] at hc, fun st2 ha e1 e2 => ?_⟩
          rw [val_agree ha.left, val_agree ha.right, hv, hu]
          simp only
          rw [e1, hb2]
          simp only
          rw [if_pos hcond]
          exact hn st2 e1 e2
        · simp at h
      · simp at h
    · simp at h
  case nil k hint =>
    obtain rfl := clsNew_23 hc
    simp only [stepOp, evalOp] at h ⊢
    split at h
    · simp at h
    · rename_i hk
      split at h
      · rename_i l st1 hcr
        simp at h
        obtain ⟨hp', n', rfl, hle, hn⟩ := new hcr
        refine ⟨hp', n', h.2.symm, fun _ => hle, fun st2 ha e1 e2 => ?_⟩
        rw [if_neg hk, hn st2 e1 e2]; simp [h.1]
      · simp at h
  case alloc zero hint =>
    obtain rfl := clsNew_23 hc
    simp only [stepOp, evalOp] at h ⊢
    split at h
    · rename_i l st1 hcr
      simp at h
      obtain ⟨hp', n', rfl, hle, hn⟩ := new hcr
      refine ⟨hp', n', h.2.symm, fun _ => hle, fun st2 ha e1 e2 => ?_⟩
      rw [hn st2 e1 e2]; simp [h.1]
    · simp at h
  case box x hint =>
    obtain rfl := clsNew_23 hc
    simp only [stepOp, evalOp] at h ⊢
    split at h
    · rename_i u hu
      split at h
      · rename_i l st1 hcr
        simp at h
        obtain ⟨hp', n', rfl, hle, hn⟩ := new hcr
        refine ⟨hp', n', h.2.symm, fun _ => hle, fun st2 ha e1 e2 => ?_⟩
        rw [val_agree ha, hu]; simp only; rw [hn st2 e1 e2]; simp [h.1]
      · simp at h
    · simp at h
  case bsl k n zero ps hint =>
    obtain rfl := clsNew_23 hc
    simp only [stepOp, evalOp] at h ⊢
    split at h
    · simp at h
    · rename_i hk
      split at h
      · rename_i cs hcs
        split at h
        · rename_i l st1 hcr
          simp at h
          obtain ⟨hp', n', rfl, hle, hn⟩ := new hcr
          refine ⟨hp', n', h.2.symm, fun _ => hle, fun st2 ha e1 e2 => ?_⟩
          rw [if_neg hk, parts_agree ha, hcs]; simp only; rw [hn st2 e1 e2]; simp [h.1]
        · simp at h
      · simp at h
  case s2b x hint =>
    obtain rfl := clsNew_23 hc
    simp only [stepOp, evalOp] at h ⊢
    split at h
    · rename_i u hu
      split at h
      · rename_i l st1 hcr
        simp at h
        obtain ⟨hp', n', rfl, hle, hn⟩ := new hcr
        refine ⟨hp', n', h.2.symm, fun _ => hle, fun st2 ha e1 e2 => ?_⟩
        rw [val_agree ha, hu]; simp only; rw [hn st2 e1 e2]; simp [h.1]
      · simp at h
    · simp at h
  case mks k bytes zero l c hint =>
    obtain rfl := clsNew_23 hc
    simp only [stepOp, evalOp] at h ⊢
    split at h
    · rename_i n0 c0 hl hcc
      split at h
      · rename_i hcond
        split at h
        · rename_i lb st1 hcr
          simp at h
          obtain ⟨hp', n', rfl, hle, hn⟩ := new hcr
          refine ⟨hp', n', h.2.symm, fun _ => hle, fun st2 ha e1 e2 => ?_⟩
          rw [val_agree ha.left, val_agree ha.right, hl, hcc]; simp only; rw [if_pos hcond, hn st2 e1 e2]; simp [h.1]
        · simp at h
      · simp at h
    · simp at h
  all_goals exfalso
  all_goals simp only [VOp.cls] at hc
  all_goals first
    | (rcases hc with hc | hc <;> cases hc; done)
    | (rcases hc with hc | hc <;> (have := (clsCall_lt hc (by omega)).2.2.2; omega))

/-! Statements -/
def Stm.cls (T : Tab) : Stm → Nat
  | .op _ _ o => o.cls (thrOf T)
  | _ => 4
def looksG : Option (Nat × Bool) → List Nat
  | none => []
  | some (g, _) => [g]
def Stm.looks : Stm → List Nat
  | .op _ g o => looksG g ++ o.looks
  | _ => []
def Stm.dst : Stm → Option Nat
  | .op d _ _ => d
  | _ => none

def wrap (st : St) (b : Bool) (hp : Heap) (n : Nat) : St := if b then { st with hp := hp, nxt := n } else st

theorem op_agree {T : Tab} {C : CallSem} {st st' : St} {o : VOp} {v : Option F} (hc : o.cls (thrOf T) < 4) (h : stepOp T C st o = some (v, st')) :
    ∃ hp' n', st' = wrap st (decide (1 < o.cls (thrOf T))) hp' n' ∧ (o.cls (thrOf T) = 3 → HLe st.hp hp') ∧
      ∀ st2, Agree o.looks st.env st2.env → (o.cls (thrOf T) = 0 ∨ (o.cls (thrOf T) = 1 ∧ HLe st.hp st2.hp) ∨ (st2.hp = st.hp ∧ st2.nxt = st.nxt)) → stepOp T C st2 o = some (v, wrap st2 (decide (1 < o.cls (thrOf T))) hp' n') := by
  have hcases : o.cls (thrOf T) = 0 ∨ o.cls (thrOf T) = 1 ∨ (o.cls (thrOf T) = 2 ∨ o.cls (thrOf T) = 3) := by omega
  rcases hcases with h0 | h1 | h2
  · have key : ∀ st2 : St, stepOp T C st2 o = evalOp st2 o := fun st2 => by
      cases o
      case call g args hint => have := (clsCall_lt (n := 0) h0 (by omega)).2.2.2; omega
      case callv => simp [VOp.cls] at h0
      case calli => simp [VOp.cls] at h0
      all_goals rfl
    rw [key] at h
    have h1 := pure_agree (st := st) (st2 := st) h0 (fun _ _ => rfl)
    rw [h] at h1
    simp at h1
    subst h1
    refine ⟨[], 0, by simp [wrap, h0], fun h => by omega, fun st2 ha _ => ?_⟩
    rw [key, pure_agree h0 ha, h]
    simp [wrap, h0]
  · obtain ⟨rfl, h2⟩ := read_agree h1 h
    refine ⟨[], 0, by simp [wrap, h1], fun h => by omega, fun st2 ha hh => ?_⟩
    have hh : HLe st'.hp st2.hp := by
      rcases hh with hh | hh | hh
      · omega
      · exact hh.2
      · rw [hh.1]; exact HLe.refl _
    rw [h2 st2 ha hh]
    simp [wrap, h1]
  · obtain ⟨hp', n', h3, h4, h5⟩ := write_agree h2 h
    refine ⟨hp', n', by simp [wrap, show 1 < o.cls (thrOf T) by omega, h3], h4, fun st2 ha hh => ?_⟩
    have hh : st2.hp = st.hp ∧ st2.nxt = st.nxt := by
      rcases hh with hh | hh | hh
      · omega
      · omega
      · exact hh
    rw [h5 st2 ha hh.1 hh.2]
    simp [wrap, show 1 < o.cls (thrOf T) by omega]

theorem wrap_same (st : St) (b : Bool) : wrap st b st.hp st.nxt = st := by cases b <;> rfl

theorem stm_agree {T : Tab} {C : CallSem} {st st' : St} {s : Stm} (hc : s.cls T < 4) (h : stepStm T C st s = some st') :
    ∃ v hp' n', st' = (wrap st (decide (1 < s.cls T)) hp' n').put s.dst v ∧ (s.cls T = 3 → HLe st.hp hp') ∧
      ∀ st2, Agree s.looks st.env st2.env → (s.cls T = 0 ∨ (s.cls T = 1 ∧ HLe st.hp st2.hp) ∨ (st2.hp = st.hp ∧ st2.nxt = st.nxt)) → stepStm T C st2 s = some ((wrap st2 (decide (1 < s.cls T)) hp' n').put s.dst v) := by
  cases s with
  | frz => simp [Stm.cls] at hc
  | ownnil => simp [Stm.cls] at hc
  | junk => simp [Stm.cls] at hc
  | ownt => simp [Stm.cls] at hc
  | frzc => simp [Stm.cls] at hc
  | pre => simp [Stm.cls] at hc
  | op dst guard o =>
    simp only [Stm.cls, Stm.looks, Stm.dst] at hc ⊢
    have hskip : st' = st.put dst (some (.i (.tup []))) → (∀ st2, Agree (looksG guard ++ o.looks) st.env st2.env → stepStm T C st2 (.op dst guard o) = some (st2.put dst (some (.i (.tup []))))) →
        ∃ v hp' n', st' = (wrap st (decide (1 < o.cls (thrOf T))) hp' n').put dst v ∧ (o.cls (thrOf T) = 3 → HLe st.hp hp') ∧
      ∀ st2, Agree (looksG guard ++ o.looks) st.env st2.env → (o.cls (thrOf T) = 0 ∨ (o.cls (thrOf T) = 1 ∧ HLe st.hp st2.hp) ∨ (st2.hp = st.hp ∧ st2.nxt = st.nxt)) → stepStm T C st2 (.op dst guard o) = some ((wrap st2 (decide (1 < o.cls (thrOf T))) hp' n').put dst v) := fun e1 e2 => by
      refine ⟨some (.i (.tup [])), st.hp, st.nxt, by rw [wrap_same]; exact e1, fun _ => HLe.refl _, fun st2 ha hh => ?_⟩
      rw [e2 st2 ha]
      by_cases h1 : 1 < o.cls (thrOf T)
      · have hh : st2.hp = st.hp ∧ st2.nxt = st.nxt := by
          rcases hh with hh | hh | hh
          · omega
          · omega
          · exact hh
        rw [← hh.1, ← hh.2, wrap_same]
      · simp [wrap, h1]
    cases guard with
    | none =>
      simp only [stepStm] at h ⊢
      split at h
      · rename_i v st1 hs
        obtain ⟨hp', n', rfl, h3, h4⟩ := op_agree hc hs
        simp at h
        refine ⟨v, hp', n', h.symm, h3, fun st2 ha hh => ?_⟩
        rw [h4 st2 ha.right hh]
        rfl
      · simp at h
    | some gw =>
      obtain ⟨g, want⟩ := gw
      have hgg : ∀ {st2 : St}, Agree (looksG (some (g, want)) ++ o.looks) st.env st2.env → get st2.env g = get st.env g := fun ha => ha g (by simp [looksG])
      simp only [stepStm] at h ⊢ hskip
      split at h
      · rename_i b hb
        split at h
        · rename_i hbw
          split at h
          · rename_i v st1 hs
            obtain ⟨hp', n', rfl, h3, h4⟩ := op_agree hc hs
            simp at h
            refine ⟨v, hp', n', h.symm, h3, fun st2 ha hh => ?_⟩
            rw [hgg ha, hb]; simp only; rw [if_pos hbw, h4 st2 ha.right hh]
            rfl
          · simp at h
        · rename_i hbw
          simp at h
          refine hskip h.symm fun st2 ha => ?_
          rw [hgg ha, hb]; simp only; rw [if_neg hbw]
      · rename_i hb
        simp at h
        refine hskip h.symm fun st2 ha => ?_
        rw [hgg ha, hb]
      · simp at h

theorem ins_comm {a b : Nat} {x y : Option F} (hab : a ≠ b) : ∀ (e : Env), ins a x (ins b y e) = ins b y (ins a x e)
  | [] => by
    simp only [ins]
    by_cases h : a < b
    · simp [h, hab, Ne.symm hab, show ¬ b < a by omega]
    · simp [h, hab, Ne.symm hab, show b < a by omega]
  | (k, u) :: e => by
    have ih := ins_comm (x := x) (y := y) hab e
    by_cases h1 : a = k
    · subst h1
      by_cases h3 : b < a
      · simp [ins, hab, Ne.symm hab, h3, show ¬ a < b by omega]
      · simp [ins, hab, Ne.symm hab, h3, show a < b by omega]
    · by_cases h2 : b = k
      · subst h2
        by_cases h3 : b < a
        · simp [ins, hab, Ne.symm hab, h3, show ¬ a < b by omega]
        · simp [ins, hab, Ne.symm hab, h3, show a < b by omega]
      · by_cases h3 : a < k <;> by_cases h4 : b < k <;> by_cases h5 : a < b <;>
          first
            | omega
            | (simp [ins, h1, h2, h3, h4, h5, hab, Ne.symm hab, ih, show ¬ b < a by omega]; done)
            | (simp [ins, h1, h2, h3, h4, h5, hab, Ne.symm hab, ih, show b < a by omega]; done)

def allowed (i j : Nat) : Bool := (decide (i ≤ 1) && decide (j ≤ 1)) || (i == 0 && decide (j ≤ 3)) || (decide (i ≤ 3) && j == 0) || (i == 1 && j == 3)
def disj (d : Option Nat) (l : List Nat) : Bool := match d with | some d => !l.contains d | none => true
/-- The two may change places: s stands first in the text. -/
def indep0 (T : Tab) (s u : Stm) : Bool :=
  allowed (s.cls T) (u.cls T) && disj s.dst u.looks && disj u.dst s.looks && (match s.dst, u.dst with | some d, some e => d != e | _, _ => true)

theorem put_comm {d e : Option Nat} {x y : Option F} {st : St} (h : (match d, e with | some d, some e => d != e | _, _ => true) = true) : (st.put d x).put e y = (st.put e y).put d x := by
  cases d with
  | none => rfl
  | some d =>
    cases e with
    | none => rfl
    | some e =>
      have h : d ≠ e := by simpa using h
      simp only [St.put, ins_comm h]
theorem put_agree {d : Option Nat} {x : Option F} {st : St} {l : List Nat} (h : disj d l = true) : Agree l st.env (st.put d x).env := fun t ht => by
  cases d with
  | none => rfl
  | some d =>
    have hne : d ≠ t := fun e => by subst e; simp [disj, ht] at h
    simp only [St.put, get_ins, if_neg hne]
theorem put_agree' {d : Option Nat} {x : Option F} {st : St} {l : List Nat} (h : disj d l = true) : Agree l (st.put d x).env st.env := fun t ht => (put_agree (x := x) (st := st) h t ht).symm
theorem put_hp {d : Option Nat} {x : Option F} {st : St} : (st.put d x).hp = st.hp := by cases d <;> rfl
theorem put_nxt {d : Option Nat} {x : Option F} {st : St} : (st.put d x).nxt = st.nxt := by cases d <;> rfl
theorem wrap_put {st : St} {d : Option Nat} {x : Option F} {b : Bool} {h : Heap} {n : Nat} : wrap (st.put d x) b h n = (wrap st b h n).put d x := by cases b <;> cases d <;> rfl
theorem wrap_env {st : St} {b : Bool} {h : Heap} {n : Nat} : (wrap st b h n).env = st.env := by cases b <;> rfl

theorem swap0 {T : Tab} {C : CallSem} {st s1 s2 : St} {s u : Stm} (hi : indep0 T s u = true) (h1 : stepStm T C st s = some s1) (h2 : stepStm T C s1 u = some s2) :
    ∃ s3, stepStm T C st u = some s3 ∧ stepStm T C s3 s = some s2 := by
  simp only [indep0, Bool.and_eq_true] at hi
  obtain ⟨⟨⟨ha, hd1⟩, hd2⟩, hd3⟩ := hi
  have hcs : s.cls T < 4 ∧ u.cls T < 4 := by simp [allowed] at ha; omega
  obtain ⟨x, hp1, n1, rfl, hle1, k1⟩ := stm_agree hcs.1 h1
  obtain ⟨y, hp2, n2, rfl, hle2, k2⟩ := stm_agree hcs.2 h2
  have ha : (s.cls T ≤ 1 ∧ u.cls T ≤ 1) ∨ (s.cls T = 0 ∧ u.cls T ≤ 3) ∨ (s.cls T ≤ 3 ∧ u.cls T = 0) ∨ (s.cls T = 1 ∧ u.cls T = 3) := by
    simp [allowed] at ha; omega
  refine ⟨(wrap st (decide (1 < u.cls T)) hp2 n2).put u.dst y, k2 st ?_ ?_, ?_⟩
  · intro t ht
    have := put_agree' (x := x) (st := wrap st (decide (1 < s.cls T)) hp1 n1) hd1 t ht
    rw [wrap_env] at this
    exact this
  · by_cases h0 : s.cls T ≤ 1
    · refine .inr (.inr ?_)
      simp [put_hp, put_nxt, wrap, show ¬ 1 < s.cls T by omega]
    · exact .inl (by omega)
  · rw [k1 ((wrap st (decide (1 < u.cls T)) hp2 n2).put u.dst y) ?_ ?_]
    · congr 1
      rw [wrap_put, wrap_put, put_comm hd3]
      by_cases hs : 1 < s.cls T <;> by_cases hu : 1 < u.cls T
      · omega
      · simp [wrap, hs, hu]
      · simp [wrap, hs, hu]
      · simp [wrap, hs, hu]
    · intro t ht
      have := put_agree (x := y) (st := wrap st (decide (1 < u.cls T)) hp2 n2) hd2 t ht
      rw [this, wrap_env]
    · by_cases h0 : s.cls T = 0
      · exact .inl h0
      · by_cases h1 : s.cls T = 1
        · refine .inr (.inl ⟨h1, ?_⟩)
          rw [put_hp]
          by_cases hu : u.cls T = 3
          · have := hle2 hu
            simp [put_hp, wrap, h1] at this
            simpa [wrap, hu] using this
          · simp [wrap, show ¬ 1 < u.cls T by omega]; exact HLe.refl _
        · refine .inr (.inr ?_)
          simp [put_hp, put_nxt, wrap, show ¬ 1 < u.cls T by omega]

/-! Loads and stores whose block's label is written in the text. -/
def VOp.lab : VOp → Option Nat
  | .loadl l _ _ => some l
  | .storel l _ _ _ => some l
  | _ => none
def Stm.lab : Stm → Option Nat
  | .op _ _ o => o.lab
  | _ => none
def upH (l : Nat) (fb : Option Blk) (h : Heap) : Heap := match fb with | none => h | some b => hset l b h
theorem op_lab {T : Tab} {C : CallSem} {st st1 : St} {o : VOp} {L : Nat} {v : Option F} (hl : o.lab = some L) (h : stepOp T C st o = some (v, st1)) :
    ∃ fb, st1 = { st with hp := upH L fb st.hp } ∧ ∀ st2 : St, Agree o.looks st.env st2.env → hget st2.hp L = hget st.hp L → stepOp T C st2 o = some (v, { st2 with hp := upH L fb st2.hp }) := by
  cases o <;> simp only [VOp.lab, Option.some.injEq] at hl <;> try (cases hl; done)
  case loadl lab n a =>
    subst hl
    simp only [stepOp, evalOp] at h ⊢
    split at h
    · rename_i l off hv
      split at h
      · rename_i hlab
        split at h
        · rename_i b hb
          split at h
          · rename_i x hx
            simp only [Option.some.injEq, Prod.mk.injEq] at h
            refine ⟨none, h.2.symm, fun st2 ha e => ?_⟩
            rw [val_agree (x := a) (fun t ht => ha t (by simpa [VOp.looks] using ht)), hv]; simp only
            rw [if_pos hlab, e, hb]; simp only
            rw [hx, ← h.1]
            rfl
          · simp at h
        · simp at h
      · simp at h
    · simp at h
  case storel lab n a x =>
    subst hl
    simp only [stepOp, evalOp] at h ⊢
    split at h
    · rename_i l off u hv hu
      split at h
      · rename_i hlab
        split at h
        · rename_i b hb
          split at h
          · rename_i hcond
            simp only [Option.some.injEq, Prod.mk.injEq] at h
            refine ⟨some (b.store off u.cells), h.2.symm, fun st2 ha e => ?_⟩
            rw [val_agree (x := a) (fun t ht => ha t (by simp [VOp.looks, ht])), val_agree (x := x) (fun t ht => ha t (by simp [VOp.looks, ht])), hv, hu]; simp only
            rw [if_pos hlab, e, hb]; simp only
            rw [if_pos hcond, ← h.1]
            rfl
          · simp at h
        · simp at h
      · simp at h
    · simp at h
theorem stm_lab {T : Tab} {C : CallSem} {st st1 : St} {s : Stm} {L : Nat} (hl : s.lab = some L) (h : stepStm T C st s = some st1) :
    ∃ x fb, st1 = ({ st with hp := upH L fb st.hp } : St).put s.dst x ∧ ∀ st2 : St, Agree s.looks st.env st2.env → hget st2.hp L = hget st.hp L → stepStm T C st2 s = some (({ st2 with hp := upH L fb st2.hp } : St).put s.dst x) := by
  cases s with
  | op dst guard o =>
    simp only [Stm.lab] at hl
    simp only [Stm.looks, Stm.dst]
    cases guard with
    | none =>
      simp only [stepStm] at h ⊢
      split at h
      · rename_i v st2 hs
        obtain ⟨fb, rfl, h2⟩ := op_lab hl hs
        simp at h
        refine ⟨v, fb, h.symm, fun st2 ha e => ?_⟩
        rw [h2 st2 ha.right e]
      · simp at h
    | some gw =>
      obtain ⟨g, want⟩ := gw
      have hgg : ∀ {st2 : St}, Agree (looksG (some (g, want)) ++ o.looks) st.env st2.env → get st2.env g = get st.env g := fun ha => ha g (by simp [looksG])
      simp only [stepStm] at h ⊢
      split at h
      · rename_i b hb
        split at h
        · rename_i hbw
          split at h
          · rename_i v st2 hs
            obtain ⟨fb, rfl, h2⟩ := op_lab hl hs
            simp at h
            refine ⟨v, fb, h.symm, fun st2 ha e => ?_⟩
            rw [hgg ha, hb]; simp only; rw [if_pos hbw, h2 st2 ha.right e]
          · simp at h
        · rename_i hbw
          simp at h
          refine ⟨some (.i (.tup [])), none, h.symm, fun st2 ha e => ?_⟩
          rw [hgg ha, hb]; simp only; rw [if_neg hbw]
          rfl
      · rename_i hb
        simp at h
        refine ⟨some (.i (.tup [])), none, h.symm, fun st2 ha e => ?_⟩
        rw [hgg ha, hb]
        rfl
      · simp at h
  | _ => simp [Stm.lab] at hl
theorem hset_comm {l m : Nat} {x y : Blk} (hlm : l ≠ m) : ∀ (h : Heap), hset l x (hset m y h) = hset m y (hset l x h)
  | [] => rfl
  | (k, v) :: h => by
    by_cases h1 : k = l
    · subst h1
      simp [hset, hlm]
    · by_cases h2 : k = m
      · subst h2
        simp [hset, h1]
      · simp [hset, h1, h2, hset_comm hlm h]
theorem hget_upH {l m : Nat} {fb : Option Blk} {h : Heap} (hlm : l ≠ m) : hget (upH l fb h) m = hget h m := by
  cases fb with
  | none => rfl
  | some b => simp [upH, hget_hset, Ne.symm hlm]
theorem upH_comm {l m : Nat} {x y : Option Blk} (hlm : l ≠ m) (h : Heap) : upH l x (upH m y h) = upH m y (upH l x h) := by
  cases x <;> cases y <;> simp [upH]
  exact hset_comm hlm h
theorem put_hpu {st : St} {d : Option Nat} {x : Option F} {h : Heap} : ({ st.put d x with hp := h } : St) = ({ st with hp := h } : St).put d x := by cases d <;> rfl
theorem swap_lab {T : Tab} {C : CallSem} {st s1 s2 : St} {s u : Stm} {L M : Nat} (hs : s.lab = some L) (hu : u.lab = some M) (hne : L ≠ M) (hd1 : disj s.dst u.looks = true) (hd2 : disj u.dst s.looks = true)
    (hd3 : (match s.dst, u.dst with | some d, some e => d != e | _, _ => true) = true) (h1 : stepStm T C st s = some s1) (h2 : stepStm T C s1 u = some s2) :
    ∃ s3, stepStm T C st u = some s3 ∧ stepStm T C s3 s = some s2 := by
  obtain ⟨x, fb, rfl, k1⟩ := stm_lab hs h1
  obtain ⟨y, fc, rfl, k2⟩ := stm_lab hu h2
  refine ⟨_, k2 st (fun t ht => put_agree' (x := x) (st := { st with hp := upH L fb st.hp }) hd1 t ht) (by rw [put_hp]; exact (hget_upH hne).symm), ?_⟩
  rw [k1 _ (fun t ht => put_agree (x := y) (st := { st with hp := upH M fc st.hp }) hd2 t ht) (by rw [put_hp]; exact hget_upH (Ne.symm hne))]
  congr 1
  simp only [put_hpu, put_hp]
  rw [put_comm hd3, upH_comm hne]

/-! What looks at immutable values alone, and a call to which the whole heap is handed. -/
def VOp.imm : VOp → Bool
  | .fadi .. => true
  | .loadi .. => true
  | _ => false
def immS : Stm → Bool
  | .op (some _) none o => o.imm
  | _ => false
def thrS (T : Tab) : Stm → Bool
  | .op _ none (.call g _ _) => thrOf T g
  | _ => false
theorem op_imm {T : Tab} {C : CallSem} {st s1 : St} {o : VOp} {v : Option F} (ho : o.imm = true) (h : stepOp T C st o = some (v, s1)) :
    s1 = st ∧ (∃ x, v = some (.i x)) ∧ ∀ st2 : St, (∀ t x, t ∈ o.looks → get st.env t = some (.i x) → get st2.env t = some (.i x)) → stepOp T C st2 o = some (v, st2) := by
  have hval : ∀ {x : Opd} {y : I} {st2 : St}, (∀ t z, t ∈ x.looks → get st.env t = some (.i z) → get st2.env t = some (.i z)) → st.val x = some (.i y) → st2.val x = some (.i y) := fun {x y st2} ha hv => by
    cases x with
    | t n => exact ha n y (by simp [Opd.looks]) hv
    | c _ => exact hv
    | f _ => exact hv
  cases o <;> simp only [VOp.imm] at ho <;> try (cases ho; done)
  case fadi off x =>
    simp only [stepOp, evalOp] at h ⊢
    split at h
    · rename_i cs p hv
      simp only [Option.some.injEq, Prod.mk.injEq] at h
      obtain ⟨rfl, rfl⟩ := h
      refine ⟨rfl, ⟨_, rfl⟩, fun st2 ha => ?_⟩
      rw [hval (x := x) (fun t z ht => ha t z (by simpa [VOp.looks] using ht)) hv]
    · simp at h
  case loadi n x =>
    simp only [stepOp, evalOp] at h ⊢
    split at h
    · rename_i cs p hv
      split at h
      · rename_i u hu
        simp only [Option.some.injEq, Prod.mk.injEq] at h
        obtain ⟨rfl, rfl⟩ := h
        refine ⟨rfl, ⟨_, rfl⟩, fun st2 ha => ?_⟩
        rw [hval (x := x) (fun t z ht => ha t z (by simpa [VOp.looks] using ht)) hv]
        simp only [hu]
      · simp at h
    · simp at h
theorem killEnv_ins {l d : Nat} {x : I} : ∀ (e : Env), killEnv l (ins d (some (.i x)) e) = ins d (some (.i x)) (killEnv l e)
  | [] => by simp [ins, killEnv, F.mentions]
  | (k, u) :: e => by
    by_cases h1 : d = k
    · simp [ins, killEnv, h1, F.mentions]
    · by_cases h2 : d < k
      · simp [ins, killEnv, h1, h2, F.mentions]
      · simp [ins, killEnv, h1, h2, killEnv_ins e]
theorem killGone_ins {h' : Heap} {d : Nat} {x : I} : ∀ (h : Heap) (e : Env), killGone h' h (ins d (some (.i x)) e) = ins d (some (.i x)) (killGone h' h e)
  | [], e => rfl
  | (l, b) :: r, e => by
    simp only [killGone]
    split
    · rw [killEnv_ins, killGone_ins r]
    · rw [killGone_ins r]
theorem swap_thr {T : Tab} {C : CallSem} {st s1 s2 : St} {s u : Stm} (hs : thrS T s = true) (hu : immS u = true) (hd1 : disj s.dst u.looks = true) (hd2 : disj u.dst s.looks = true)
    (hd3 : (match s.dst, u.dst with | some d, some e => d != e | _, _ => true) = true) (h1 : stepStm T C st s = some s1) (h2 : stepStm T C s1 u = some s2) :
    ∃ s3, stepStm T C st u = some s3 ∧ stepStm T C s3 s = some s2 := by
  unfold immS at hu
  split at hu
  case h_2 => simp at hu
  rename_i e o
  unfold thrS at hs
  split at hs
  case h_2 => simp at hs
  rename_i d g args hint
  simp only [Stm.dst, Stm.looks, looksG, List.nil_append] at hd1 hd2 hd3
  have hd2 : disj (some e) (looksA args) = true := hd2
  simp only [stepStm] at h1 h2 ⊢
  split at h2
  case h_2 => simp at h2
  rename_i v st2 hv
  simp at h2; subst h2
  obtain ⟨rfl, ⟨x, rfl⟩, k⟩ := op_imm hu hv
  split at h1
  case h_2 => simp at h1
  rename_i r st3 hr
  simp at h1; subst h1
  unfold thrOf at hs
  split at hs
  case h_2 => simp at hs
  rename_i vf hvf
  simp only [stepOp] at hr
  split at hr
  case h_2 => simp at hr
  rename_i vs hvs
  simp only [callOp, hvf, hs, if_true] at hr
  split at hr
  case h_2 => simp at hr
  rename_i rv st4 hthr
  simp only [Option.some.injEq, Prod.mk.injEq] at hr
  obtain ⟨rfl, rfl⟩ := hr
  unfold thrCall at hthr
  split at hthr
  · simp at hthr
  rename_i r' h' n' hC
  split at hthr
  case isFalse => simp at hthr
  rename_i hprot
  simp only [Option.some.injEq, Prod.mk.injEq] at hthr
  obtain ⟨rfl, rfl⟩ := hthr
  have hk := k st (fun t z ht hz => by
    have hne : d ≠ some t := fun hh => by subst hh; simp [disj, ht] at hd1
    have : get (killGone h' st.hp st.env) t = some (.i z) := by
      cases d with
      | none => exact hz
      | some d =>
        simp only [St.put, get_ins] at hz
        rw [if_neg (fun hh => hne (by rw [hh]))] at hz
        exact hz
    exact (killGone_get this).1)
  have hs2 : stepOp T C (st.put (some e) (some (.i x))) (.call g args hint) = some (some r', { st.put (some e) (some (.i x)) with env := killGone h' st.hp (ins e (some (.i x)) st.env), hp := h', nxt := n' }) := by
    simp only [stepOp]
    rw [vals_agree (fun t ht => put_agree (x := some (.i x)) (st := st) (d := some e) hd2 t ht), hvs]
    simp only [callOp, hvf, hs, if_true]
    unfold thrCall
    have e1 : (st.put (some e) (some (.i x))).hp = st.hp := rfl
    have e2 : (st.put (some e) (some (.i x))).nxt = st.nxt := rfl
    have e3 : (st.put (some e) (some (.i x))).prot = st.prot := rfl
    have e4 : (st.put (some e) (some (.i x))).env = ins e (some (.i x)) st.env := rfl
    rw [e1, e2, hC]
    simp only
    rw [e3, if_pos hprot, e4]
  rw [hk]
  refine ⟨_, rfl, ?_⟩
  rw [hs2]
  simp only
  congr 1
  rw [killGone_ins]
  exact (put_comm (st := { st with env := killGone h' st.hp st.env, hp := h', nxt := n' }) (d := d) (e := some e) (x := some r') (y := some (.i x)) hd3).symm

/-! Operations whose footprint is written in the text. -/
inductive Rd where
  | no
  | blk (l : Nat)
  | cell (l off : Nat)
  | apl (l : Nat)
inductive Wr where
  | no
  | junk (l off own : Nat)
  | set (l : Nat)
structure NI where
  kl : Option Nat
  rd : Rd
  wr : Wr
  mt : Option Nat
def VOp.ni (T : Tab) : VOp → Option NI
  | .mvi _ => some ⟨none, .no, .no, none⟩
  | .iadi .. => some ⟨none, .no, .no, none⟩
  | .fadi .. => some ⟨none, .no, .no, none⟩
  | .loadi .. => some ⟨none, .no, .no, none⟩
  | .bsli .. => some ⟨none, .no, .no, none⟩
  | .calli g _ => if thrOf T g then none else some ⟨none, .no, .no, none⟩
  | .fadl lab _ _ => some ⟨none, .no, .no, some lab⟩
  | .loadli lab _ _ => some ⟨none, .blk lab, .no, none⟩
  | .takel lab off own _ => some ⟨none, .cell lab off, .junk lab off own, some own⟩
  | .apl lab _ _ _ _ => some ⟨some lab, .apl lab, .set lab, some lab⟩
  | _ => none
def killO : Option Nat → Env → Env
  | none, e => e
  | some l, e => killEnv l e
def Wr.run (b : Blk) : Wr → Heap → Heap
  | .no, h => h
  | .junk l off _, h => match hget h l with | some c => hset l (c.store off [.i .junk]) h | none => h
  | .set l, h => hset l b h
def Wr.fact (h : Heap) : Wr → Prop
  | .junk l off own => ∃ b p len k, hget h l = some b ∧ b.at none off = some (.own own p len k)
  | _ => True
def cellAt (h : Heap) (l off : Nat) : Option F := match hget h l with | some b => b.at none off | none => none
def Rd.same (h h2 : Heap) : Rd → Prop
  | .no => True
  | .blk l => hget h2 l = hget h l
  | .cell l off => cellAt h2 l off = cellAt h l off
  | .apl l => hget h2 l = hget h l ∧ noMent l h2 = noMent l h
def rdOk : Wr → Rd → Bool
  | .no, _ => true
  | _, .no => true
  | .junk l _ _, .blk m => l != m
  | .junk l off _, .cell m o => l != m || off != o
  | .junk l _ own, .apl m => l != m && own != m
  | .set l, .blk m => l != m
  | .set l, .cell m _ => l != m
  | .set _, .apl _ => false
def wrOk : Wr → Wr → Bool
  | .no, _ => true
  | _, .no => true
  | .junk l off _, .junk m o _ => l != m || off != o
  | .junk l _ _, .set m => l != m
  | .set l, .junk m _ _ => l != m
  | .set l, .set m => l != m
def Agree2 (vs : List Nat) (e e2 : Env) : Prop := ∀ t, t ∈ vs → ∀ y, get e t = some y → get e2 t = some y
theorem Agree2.left {u v : List Nat} {e e2 : Env} (h : Agree2 (u ++ v) e e2) : Agree2 u e e2 := fun t ht => h t (List.mem_append_left _ ht)
theorem Agree2.right {u v : List Nat} {e e2 : Env} (h : Agree2 (u ++ v) e e2) : Agree2 v e e2 := fun t ht => h t (List.mem_append_right _ ht)
section
variable {st st2 : St}
theorem val_agree2 {x : Opd} {v : F} (h : Agree2 x.looks st.env st2.env) (hv : st.val x = some v) : st2.val x = some v := by
  cases x with
  | t n => exact h n (by simp [Opd.looks]) v hv
  | c x => exact hv
  | f g => exact hv
theorem vals_agree2 : ∀ {ps : List (Bool × Opd)} {vs : List (Bool × F)}, Agree2 (looksA ps) st.env st2.env → st.vals ps = some vs → st2.vals ps = some vs
  | [], vs, _, h => h
  | (m, x) :: r, vs, ha, h => by
    simp only [St.vals] at h ⊢
    split at h
    · rename_i v l h1 h2
      rw [val_agree2 ha.left h1, vals_agree2 ha.right h2]; exact h
    · simp at h
theorem fill_agree2 : ∀ {ps : List (Nat × Nat × Opd)} {cs r : List F}, Agree2 (looksP ps) st.env st2.env → fillF cs (st.parts ps) = some r → fillF cs (st2.parts ps) = some r
  | [], cs, r, _, h => h
  | (o, n, x) :: ps, cs, r, ha, h => by
    simp only [St.parts, List.map_cons] at h ⊢
    cases hv : st.val x with
    | none => rw [hv] at h; simp [fillF] at h
    | some v =>
      rw [hv] at h
      rw [val_agree2 ha.left hv]
      simp only [fillF] at h ⊢
      split at h
      · rename_i hc
        rw [if_pos hc]
        exact fill_agree2 (ps := ps) ha.right h
      · simp at h
end
theorem passArgs_imm : ∀ {vs : List (Bool × F)} {j : Nat} (h h2 : Heap), vs.all (fun p => !p.1 && p.2.isI) = true → passArgs h j vs = passArgs h2 j vs
  | [], _, _, _, _ => rfl
  | (true, v) :: vs, j, h, h2, ha => by simp at ha
  | (false, v) :: vs, j, h, h2, ha => by
    simp only [List.all_cons, Bool.and_eq_true] at ha
    cases v with
    | i x => simp only [passArgs]; rw [passArgs_imm (vs := vs) h h2 ha.2]
    | _ => simp [F.isI] at ha
theorem imm_view : ∀ {vs : List (Bool × F)}, vs.all (fun p => !p.1 && p.2.isI) = true → allView vs = true
  | [], _ => rfl
  | (true, v) :: vs, ha => by simp at ha
  | (false, v) :: vs, ha => by
    simp only [List.all_cons, Bool.and_eq_true] at ha
    simp [allView, imm_view ha.2]
theorem iso_imm {C : CallSem} {g : FuncId} {vs : List (Bool × F)} {st st' : St} {v : F} (ha : vs.all (fun p => !p.1 && p.2.isI) = true) (h : isoCall C g vs none st = some (v, st')) :
    st' = st ∧ ∀ st2, isoCall C g vs none st2 = some (v, st2) := by
  have hp : passed 0 vs = [] := passed_view (imm_view ha)
  have fix : ∀ st2 : St, isoCall C g vs none st2 = match passArgs [] 0 vs with
      | some (as, bo) => match C g as ([], 1000) with
        | none => none
        | some (r, (h', _)) => match r with
          | .i (.tup vs) => match takeResL h' [] bo none (vs.map .i) st2 with | some (xs, st2) => some (mkTup xs, st2) | none => none
          | .tup vs => if owns vs ≤ 1 then match takeResL h' [] bo none vs st2 with | some (xs, st2) => some (mkTup xs, st2) | none => none else none
          | v => takeRes h' [] bo none v st2
      | none => none := fun st2 => by
    unfold isoCall
    simp only [hp, passHp, takeBack]
    rw [passArgs_imm (hdrop [] st2.hp) [] ha]
    cases passArgs [] 0 vs with
    | none => rfl
    | some p => obtain ⟨as, bo⟩ := p; rfl
  rw [fix] at h
  simp only [fix]
  split at h
  case h_2 => simp at h
  rename_i as bo has
  split at h
  · simp at h
  rename_i r h' n' hC
  split at h
  · split at h
    · rename_i xs st1 h1
      obtain ⟨rfl, h2⟩ := takeResL_view h1
      simp only [Option.some.injEq, Prod.mk.injEq] at h
      obtain ⟨rfl, rfl⟩ := h
      exact ⟨rfl, fun st2 => by simp only [h2 st2]⟩
    · simp at h
  · split at h
    · rename_i ho
      split at h
      · rename_i xs st1 h1
        obtain ⟨rfl, h2⟩ := takeResL_view h1
        simp only [Option.some.injEq, Prod.mk.injEq] at h
        obtain ⟨rfl, rfl⟩ := h
        exact ⟨rfl, fun st2 => by simp only [if_pos ho, h2 st2]⟩
      · simp at h
    · simp at h
  · obtain ⟨h1, h2⟩ := takeRes_view h
    exact ⟨h1, h2⟩

theorem ni_step {T : Tab} {C : CallSem} {st s1 : St} {o : VOp} {ni : NI} {v : Option F} (hn : o.ni T = some ni) (h : stepOp T C st o = some (v, s1)) :
    ∃ x blk, v = some x ∧ (∀ l, x.mentions l = true → ni.mt = some l) ∧ s1 = { st with env := killO ni.kl st.env, hp := ni.wr.run blk st.hp } ∧ ni.wr.fact st.hp ∧
      ∀ st2 : St, st2.prot = st.prot → Agree2 o.looks st.env st2.env → ni.rd.same st.hp st2.hp → stepOp T C st2 o = some (some x, { st2 with env := killO ni.kl st2.env, hp := ni.wr.run blk st2.hp }) := by
  cases o <;> simp only [VOp.ni, Option.some.injEq] at hn <;> try (cases hn; done)
  case mvi x =>
    subst hn
    simp only [stepOp, evalOp] at h ⊢
    split at h
    · rename_i u hu
      simp only [Option.some.injEq, Prod.mk.injEq] at h
      obtain ⟨rfl, rfl⟩ := h
      refine ⟨_, .flat [], rfl, fun l hl => by simp [F.mentions] at hl, rfl, trivial, fun st2 _ ha _ => ?_⟩
      rw [val_agree2 (x := x) (by simpa [VOp.looks] using ha) hu]; rfl
    · simp at h
  case iadi k x i =>
    subst hn
    simp only [stepOp, evalOp] at h ⊢
    split at h
    · rename_i k' cs q n hu hi
      split at h
      · rename_i hc
        simp only [Option.some.injEq, Prod.mk.injEq] at h
        obtain ⟨rfl, rfl⟩ := h
        refine ⟨_, .flat [], rfl, fun l hl => by simp [F.mentions] at hl, rfl, trivial, fun st2 _ ha _ => ?_⟩
        simp only [VOp.looks] at ha
        rw [val_agree2 ha.left hu, val_agree2 ha.right hi]; simp only; rw [if_pos hc]; rfl
      · simp at h
    · simp at h
  case fadi off x =>
    subst hn
    simp only [stepOp, evalOp] at h ⊢
    split at h
    · rename_i cs q hu
      simp only [Option.some.injEq, Prod.mk.injEq] at h
      obtain ⟨rfl, rfl⟩ := h
      refine ⟨_, .flat [], rfl, fun l hl => by simp [F.mentions] at hl, rfl, trivial, fun st2 _ ha _ => ?_⟩
      rw [val_agree2 (x := x) (by simpa [VOp.looks] using ha) hu]; rfl
    · simp at h
  case loadi n x =>
    subst hn
    simp only [stepOp, evalOp] at h ⊢
    split at h
    · rename_i cs q hu
      split at h
      · rename_i u hat
        simp only [Option.some.injEq, Prod.mk.injEq] at h
        obtain ⟨rfl, rfl⟩ := h
        refine ⟨_, .flat [], rfl, fun l hl => by simp [F.mentions] at hl, rfl, trivial, fun st2 _ ha _ => ?_⟩
        rw [val_agree2 (x := x) (by simpa [VOp.looks] using ha) hu]; simp only [hat]; rfl
      · simp at h
    · simp at h
  case bsli k n zero ps =>
    subst hn
    simp only [stepOp, evalOp] at h ⊢
    split at h
    · simp at h
    rename_i hk
    split at h
    · rename_i cs hf
      split at h
      · rename_i is his
        simp only [Option.some.injEq, Prod.mk.injEq] at h
        obtain ⟨rfl, rfl⟩ := h
        refine ⟨_, .flat [], rfl, fun l hl => by simp [F.mentions] at hl, rfl, trivial, fun st2 _ ha _ => ?_⟩
        simp only [VOp.looks] at ha
        rw [if_neg hk, fill_agree2 ha hf]; simp only [his]; rfl
      · simp at h
    · simp at h
  case calli g args =>
    split at hn
    · simp at hn
    rename_i hthr
    simp only [Option.some.injEq] at hn; subst hn
    simp only [stepOp] at h ⊢
    split at h
    · rename_i vs hvs
      split at h
      · rename_i himm
        split at h
        · rename_i u st1 hc
          simp only [Option.some.injEq, Prod.mk.injEq] at h
          obtain ⟨rfl, rfl⟩ := h
          have hiso : ∀ st2 : St, callOp T C st2 g vs none = (match isoCall C g vs none st2 with | some (v, st') => some (some v, st') | none => none) := fun st2 => by
            unfold callOp
            cases hf : T.fn g with
            | none => rfl
            | some vf =>
              have : vf.thr = false := by simpa [thrOf, hf] using hthr
              simp only [this, Bool.false_eq_true, if_false]
              cases isoCall C g vs none st2 <;> rfl
          rw [hiso] at hc
          split at hc
          · rename_i v' st' hi
            simp only [Option.some.injEq, Prod.mk.injEq] at hc
            obtain ⟨rfl, rfl⟩ := hc
            obtain ⟨rfl, h2⟩ := iso_imm himm hi
            refine ⟨_, .flat [], rfl, fun l hl => by simp [F.mentions] at hl, rfl, trivial, fun st2 _ ha _ => ?_⟩
            simp only [VOp.looks] at ha
            rw [vals_agree2 ha hvs]; simp only
            rw [if_pos himm, hiso, h2 st2]; rfl
          · simp at hc
        · simp at h
      · simp at h
    · simp at h
  case fadl lab off x =>
    subst hn
    simp only [stepOp, evalOp] at h ⊢
    split at h
    · rename_i l o hu
      split at h
      · rename_i hl
        simp only [Option.some.injEq, Prod.mk.injEq] at h
        obtain ⟨rfl, rfl⟩ := h
        refine ⟨_, .flat [], rfl, fun m hm => by simp [F.mentions] at hm; rw [← hm, hl], rfl, trivial, fun st2 _ ha _ => ?_⟩
        rw [val_agree2 (x := x) (by simpa [VOp.looks] using ha) hu]; simp only; rw [if_pos hl]; rfl
      · simp at h
    · simp at h
  case loadli lab n x =>
    subst hn
    simp only [stepOp, evalOp] at h ⊢
    split at h
    · rename_i l o hu
      split at h
      · rename_i hl
        split at h
        · rename_i b hb
          split at h
          · rename_i y hat
            simp only [Option.some.injEq, Prod.mk.injEq] at h
            obtain ⟨rfl, rfl⟩ := h
            refine ⟨_, .flat [], rfl, fun m hm => by simp [F.mentions] at hm, rfl, trivial, fun st2 _ ha hs => ?_⟩
            have hs : hget st2.hp lab = hget st.hp lab := hs
            rw [val_agree2 (x := x) (by simpa [VOp.looks] using ha) hu]; simp only; rw [if_pos hl, hs, hb]; simp only [hat]; rfl
          · simp at h
        · simp at h
      · simp at h
    · simp at h
  case takel lab off own x =>
    subst hn
    simp only [stepOp, evalOp] at h ⊢
    split at h
    · rename_i l o hu
      split at h
      · rename_i hl
        split at h
        · rename_i b hb
          split at h
          · rename_i m p len k hat
            split at h
            · rename_i hm
              simp only [Option.some.injEq, Prod.mk.injEq] at h
              obtain ⟨rfl, rfl⟩ := h
              refine ⟨_, .flat [], rfl, fun q hq => by simp [F.mentions] at hq; rw [← hq, hm], by simp [killO, Wr.run, hb], ⟨b, p, len, k, hb, by rw [hat, hm]⟩, fun st2 _ ha hs => ?_⟩
              have hs : cellAt st2.hp lab off = cellAt st.hp lab off := hs
              rw [val_agree2 (x := x) (by simpa [VOp.looks] using ha) hu]; simp only; rw [if_pos hl]
              simp only [cellAt, hb, hat] at hs
              cases hb2 : hget st2.hp lab with
              | none => rw [hb2] at hs; simp at hs
              | some b2 =>
                rw [hb2] at hs
                simp only at hs ⊢
                rw [hs]
                simp only [hm, if_true]
                simp [killO, Wr.run, hb2]
            · simp at h
          · simp at h
        · simp at h
      · simp at h
    · simp at h
  case apl lab k bytes x y =>
    subst hn
    simp only [stepOp, evalOp] at h ⊢
    split at h
    · rename_i l off len k' k2 ds hu hy
      split at h
      · rename_i cs hb
        split at h
        · rename_i hc
          simp only [Option.some.injEq, Prod.mk.injEq] at h
          obtain ⟨rfl, rfl⟩ := h
          refine ⟨_, .flat ((cs.drop off).take (len * k) ++ ds), rfl, fun q hq => by simp [F.mentions] at hq; rw [← hq], rfl, trivial, fun st2 hp ha hs => ?_⟩
          obtain ⟨hs1, hs2⟩ : hget st2.hp lab = hget st.hp lab ∧ noMent lab st2.hp = noMent lab st.hp := hs
          simp only [VOp.looks] at ha
          rw [val_agree2 ha.left hu, val_agree2 ha.right hy]; simp only
          rw [hs1, hb]; simp only
          rw [hp, hs2, if_pos hc]; rfl
        · simp at h
      · simp at h
    · simp at h

theorem at_own_deep {b : Blk} {off m p len k : Nat} (h : b.at none off = some (.own m p len k)) : ∃ cs, b = .deep cs ∧ cs[off]? = some (.own m p len k) := by
  cases b with
  | flat cs =>
    simp only [Blk.at, I.at] at h
    cases hc : cs[off]? with
    | none => simp [hc] at h
    | some x => simp [hc] at h
  | deep cs => exact ⟨cs, rfl, by simpa [Blk.at, F.at] using h⟩
theorem store_deep {cs : List F} {off : Nat} : (Blk.deep cs).store off [.i .junk] = .deep (cs.set off (.i .junk)) := by
  simp [Blk.store, toIL, F.toI, setAt, Blk.cells]
theorem mentionsL_set {l : Nat} {x : F} : ∀ {cs : List F} {off : Nat}, cs[off]? = some x → x.mentions l = false → mentionsL l (cs.set off (.i .junk)) = mentionsL l cs
  | [], off, h, _ => by simp at h
  | c :: cs, 0, h, hx => by simp at h; subst h; simp [mentionsL, F.mentions, hx]
  | c :: cs, off + 1, h, hx => by simp [mentionsL, mentionsL_set (cs := cs) (off := off) (by simpa using h) hx]
theorem noMent_hset {m l : Nat} {b b2 : Blk} : ∀ {h : Heap}, hget h l = some b → b2.mentions m = b.mentions m → noMent m (hset l b2 h) = noMent m h
  | [], h, _ => by simp [hget] at h
  | (k, v) :: e, h, hm => by
    simp only [hget] at h
    by_cases hk : k = l
    · rw [if_pos hk] at h
      simp at h; subst h
      simp [hset, hk, noMent, hm]
    · rw [if_neg hk] at h
      have := noMent_hset (h := e) h hm
      simp only [noMent] at this
      simp [hset, hk, noMent, this]
theorem same_run {w : Wr} {r : Rd} {b : Blk} {h : Heap} (hf : w.fact h) (hok : rdOk w r = true) : r.same h (w.run b h) := by
  cases w with
  | no => cases r <;> simp [Rd.same, Wr.run]
  | junk l off own =>
    obtain ⟨c, p, len, k, hc, hat⟩ := hf
    obtain ⟨cs, rfl, hcs⟩ := at_own_deep hat
    simp only [Wr.run, hc, store_deep]
    cases r with
    | no => trivial
    | blk m =>
      have hm : l ≠ m := by simpa [rdOk] using hok
      simp only [Rd.same]
      rw [hget_hset', if_neg (Ne.symm hm)]
    | cell m o =>
      simp only [Rd.same, cellAt]
      rw [hget_hset']
      by_cases hm : m = l
      · subst hm
        have ho : off ≠ o := by simpa [rdOk] using hok
        simp only [if_true, hc, Option.map_some, Blk.at, F.at]
        rw [List.getElem?_set_ne ho]
      · rw [if_neg hm]
    | apl m =>
      have hm : l ≠ m ∧ own ≠ m := by simpa [rdOk] using hok
      refine ⟨by rw [hget_hset', if_neg (Ne.symm hm.1)], noMent_hset hc ?_⟩
      exact mentionsL_set hcs (by simp [F.mentions, hm.2])
  | set l =>
    simp only [Wr.run]
    cases r with
    | no => trivial
    | blk m =>
      have hm : l ≠ m := by simpa [rdOk] using hok
      simp only [Rd.same]
      rw [hget_hset', if_neg (Ne.symm hm)]
    | cell m o =>
      have hm : l ≠ m := by simpa [rdOk] using hok
      simp only [Rd.same, cellAt]
      rw [hget_hset', if_neg (Ne.symm hm)]
    | apl m => simp [rdOk] at hok
theorem Rd.same.symm {r : Rd} {h h2 : Heap} (hs : r.same h h2) : r.same h2 h := by
  cases r with
  | no => trivial
  | blk l => exact Eq.symm hs
  | cell l off => exact Eq.symm hs
  | apl l => exact ⟨hs.1.symm, hs.2.symm⟩
theorem hset_hset {l : Nat} {b c : Blk} : ∀ (h : Heap), hset l b (hset l c h) = hset l b h
  | [] => rfl
  | (k, v) :: e => by
    by_cases hk : k = l
    · simp [hset, hk]
    · simp [hset, hk, hset_hset e]
theorem store_comm {b : Blk} {i j : Nat} (hij : i ≠ j) : (b.store i [.i .junk]).store j [.i .junk] = (b.store j [.i .junk]).store i [.i .junk] := by
  cases b with
  | flat cs => simp only [Blk.store, toIL, F.toI, setAt, List.set_comm _ _ hij]
  | deep cs => simp only [store_deep, List.set_comm _ _ hij]
theorem run_comm {w w2 : Wr} {b b2 : Blk} {h : Heap} (hok : wrOk w w2 = true) : w.run b (w2.run b2 h) = w2.run b2 (w.run b h) := by
  cases w <;> cases w2 <;> simp only [wrOk] at hok <;> try rfl
  · rename_i l off own m o own2
    simp only [Wr.run]
    by_cases hm : l = m
    · subst hm
      have ho : off ≠ o := by simpa using hok
      cases hc : hget h l with
      | none => simp [hc]
      | some c =>
        simp only [hget_hset', hc, if_true, Option.map_some, hset_hset]
        rw [store_comm (Ne.symm ho)]
    · cases hc : hget h l with
      | none =>
        cases hd : hget h m with
        | none => simp [hc, hd]
        | some d => simp [hc, hget_hset', hm, hd]
      | some c =>
        cases hd : hget h m with
        | none => simp [hc, hget_hset', hm, hd, Ne.symm hm]
        | some d =>
          simp only [hget_hset', hm, Ne.symm hm, if_false, hc, hd]
          exact hset_comm hm h
  · rename_i l off own m
    have hm : l ≠ m := by simpa using hok
    simp only [Wr.run]
    rw [hget_hset', if_neg hm]
    cases hc : hget h l with
    | none => rfl
    | some c => exact hset_comm hm h
  · rename_i l m o own2
    have hm : l ≠ m := by simpa using hok
    simp only [Wr.run]
    rw [hget_hset', if_neg (Ne.symm hm)]
    cases hc : hget h m with
    | none => rfl
    | some c => exact hset_comm hm h
  · rename_i l m
    have hm : l ≠ m := by simpa using hok
    exact hset_comm hm h

def Stm.ni (T : Tab) : Stm → Option NI
  | .op (some _) none o => o.ni T
  | _ => none
def niOk (a b : NI) : Bool := b.kl.isNone && (match a.kl, b.mt with | some l, some m => l != m | _, _ => true) && rdOk a.wr b.rd && rdOk b.wr a.rd && wrOk a.wr b.wr
def niPair (T : Tab) (s u : Stm) : Bool := match s.ni T, u.ni T with | some a, some b => niOk a b | _, _ => false
theorem killEnv_ins' {l d : Nat} {x : F} (hx : x.mentions l = false) : ∀ (e : Env), killEnv l (ins d (some x) e) = ins d (some x) (killEnv l e)
  | [] => by simp [ins, killEnv, hx]
  | (k, u) :: e => by
    by_cases h1 : d = k
    · simp [ins, killEnv, h1, hx]
    · by_cases h2 : d < k
      · simp [ins, killEnv, h1, h2, hx]
      · simp [ins, killEnv, h1, h2, killEnv_ins' hx e]
theorem swap_ni {T : Tab} {C : CallSem} {st s1 s2 : St} {s u : Stm} (hp : niPair T s u = true) (hd1 : disj s.dst u.looks = true) (hd2 : disj u.dst s.looks = true)
    (hd3 : (match s.dst, u.dst with | some d, some e => d != e | _, _ => true) = true) (h1 : stepStm T C st s = some s1) (h2 : stepStm T C s1 u = some s2) :
    ∃ s3, stepStm T C st u = some s3 ∧ stepStm T C s3 s = some s2 := by
  unfold niPair at hp
  split at hp
  case h_2 => simp at hp
  rename_i a b ha hb
  unfold Stm.ni at ha hb
  split at ha
  case h_2 => simp at ha
  rename_i d o
  split at hb
  case h_2 => simp at hb
  rename_i e q
  simp only [niOk, Bool.and_eq_true] at hp
  obtain ⟨⟨⟨⟨hk, hmt⟩, hr1⟩, hr2⟩, hw⟩ := hp
  simp only [Stm.dst, Stm.looks, looksG, List.nil_append] at hd1 hd2 hd3
  have hde : d ≠ e := by simpa using hd3
  have hkb : b.kl = none := by simpa using hk
  simp only [stepStm] at h1 h2 ⊢
  split at h1
  case h_2 => simp at h1
  rename_i v st1 hs
  simp only [Option.some.injEq] at h1; subst h1
  obtain ⟨x, ba, rfl, hxm, rfl, hfa, ka⟩ := ni_step ha hs
  split at h2
  case h_2 => simp at h2
  rename_i v2 st2 hu
  simp only [Option.some.injEq] at h2; subst h2
  obtain ⟨y, bb, rfl, hym, rfl, hfb, kb⟩ := ni_step hb hu
  -- the second one first
  have hu0 := kb st rfl (fun t ht z hz => by
    have hne : d ≠ t := fun hh => by subst hh; simp [disj, ht] at hd1
    simp only [St.put, get_ins, if_neg hne] at hz
    cases hkl : a.kl with
    | none => rw [hkl] at hz; exact hz
    | some l => rw [hkl] at hz; exact (get_killEnv hz).1) (same_run (b := ba) hfa hr1).symm
  rw [hkb] at hu0
  obtain ⟨y', bb', e1, hym', e2, hfb', kb'⟩ := ni_step hb hu0
  have hs0 := ka (({ st with env := killO none st.env, hp := b.wr.run bb st.hp } : St).put (some e) (some y)) rfl (fun t ht z hz => by
    have hne : e ≠ t := fun hh => by subst hh; simp [disj, ht] at hd2
    simp only [St.put, get_ins, if_neg hne, killO]
    exact hz) (same_run (b := bb) hfb' hr2)
  rw [hu0]
  refine ⟨_, rfl, ?_⟩
  rw [hs0]
  simp only
  congr 1
  have hkn : ∀ e : Env, killO none e = e := fun _ => rfl
  simp only [St.put, hkb, hkn]
  have hke : killO a.kl (ins e (some y) st.env) = ins e (some y) (killO a.kl st.env) := by
    cases hkl : a.kl with
    | none => rfl
    | some l =>
      refine killEnv_ins' ?_ _
      refine Classical.byContradiction fun hn => ?_
      have h1 := hym l (by simpa using hn)
      rw [hkl, h1] at hmt
      simp at hmt
  rw [hke, ins_comm hde, run_comm hw]

def indep (T : Tab) (s u : Stm) : Bool :=
  indep0 T s u || (((match s.lab, u.lab with | some a, some b => !(a == b) | _, _ => false) || (thrS T s && immS u) || niPair T s u) && disj s.dst u.looks && disj u.dst s.looks && (match s.dst, u.dst with | some d, some e => d != e | _, _ => true))
theorem swap {T : Tab} {C : CallSem} {st s1 s2 : St} {s u : Stm} (hi : indep T s u = true) (h1 : stepStm T C st s = some s1) (h2 : stepStm T C s1 u = some s2) :
    ∃ s3, stepStm T C st u = some s3 ∧ stepStm T C s3 s = some s2 := by
  simp only [indep, Bool.or_eq_true, Bool.and_eq_true] at hi
  rcases hi with hi | ⟨⟨⟨hi, hd1⟩, hd2⟩, hd3⟩
  · exact swap0 hi h1 h2
  · rcases hi with (hi | ⟨hs, hu⟩) | hi
    · split at hi
      · rename_i a b ha hb
        exact swap_lab ha hb (by simpa using hi) hd1 hd2 hd3 h1 h2
      · simp at hi
    · exact swap_thr hs hu hd1 hd2 hd3 h1 h2
    · exact swap_ni hi hd1 hd2 hd3 h1 h2
end Go.Vm

/- Regions: in the text's order, and in any order. -/
set_option linter.unusedSimpArgs false
set_option linter.unusedVariables false
namespace Go.Vm
variable {Γ : GlobP}

def chkAll (P : Program) (N : Nat) (ops : Array Oper) : List Stm → List Oper → Bool
  | [], [] => true
  | s :: ss, o :: os => chkStms P N ops s o && chkAll P N ops ss os
  | _, _ => false
theorem chkAll_at {P : Program} {N : Nat} {ops : Array Oper} {ss : List Stm} {os : List Oper} (h : chkAll P N ops ss os = true) : os.length = ss.length ∧ ∀ (i : Nat) (s) (o), ss[i]? = some s → os[i]? = some o → chkStms P N ops s o = true := by
  induction ss generalizing os with
  | nil =>
    cases os with
    | nil => exact ⟨rfl, fun i s o h => by simp at h⟩
    | cons o os => simp [chkAll] at h
  | cons s ss ih =>
    cases os with
    | nil => simp [chkAll] at h
    | cons o os =>
      simp only [chkAll, Bool.and_eq_true] at h
      obtain ⟨h1, h2⟩ := ih h.2
      refine ⟨by simp [h1], fun i u q hu hq => ?_⟩
      cases i with
      | zero => simp only [List.getElem?_cons_zero, Option.some.injEq] at hu hq; rw [← hu, ← hq]; exact h.1
      | succ i => exact h2 i u q (by simpa using hu) (by simpa using hq)

def befOf (acc : List (List Nat)) (o : Oper) : List Nat := o.after.toList.flatMap fun e => if Region.binds .any e then e.on :: acc.getD e.on [] else []
def befs : List Oper → List (List Nat) → List (List Nat)
  | [], acc => acc
  | o :: os, acc => befs os (acc ++ [befOf acc o])
theorem befs_old : ∀ {os : List Oper} {acc : List (List Nat)} {i : Nat}, i < acc.length → (befs os acc).getD i [] = acc.getD i []
  | [], acc, i, h => rfl
  | o :: os, acc, i, h => by
    simp only [befs]
    rw [befs_old (by simp; omega)]
    simp [List.getElem?_append_left h]
theorem befs_mem : ∀ {os : List Oper} {acc : List (List Nat)} {i : Nat} {o : Oper}, os[i]? = some o → ∀ k, k ∈ (befs os acc).getD (acc.length + i) [] →
    ∃ e, e ∈ o.after ∧ Region.binds .any e = true ∧ (k = e.on ∨ e.on < acc.length + i ∧ k ∈ (befs os acc).getD e.on [])
  | [], acc, i, o, h, k, hk => by simp at h
  | o' :: os, acc, 0, o, h, k, hk => by
    simp at h; subst h
    simp only [befs] at hk ⊢
    rw [befs_old (by simp)] at hk
    simp [befOf] at hk
    obtain ⟨e, he, hb, hk⟩ := hk
    refine ⟨e, he, hb, ?_⟩
    rcases hk with hk | hk
    · exact .inl hk
    · by_cases hl : e.on < acc.length
      · refine .inr ⟨by omega, ?_⟩
        rw [befs_old (by simp; omega)]
        simpa [List.getElem?_append_left hl] using hk
      · simp [List.getElem?_eq_none (show acc.length ≤ e.on by omega)] at hk
  | o' :: os, acc, i + 1, o, h, k, hk => by
    simp only [befs] at hk ⊢
    have := befs_mem (os := os) (acc := acc ++ [befOf acc o']) (i := i) (o := o) (by simpa using h) k (by simpa [Nat.add_assoc, Nat.add_comm 1 i] using hk)
    obtain ⟨e, he, hb, hk⟩ := this
    refine ⟨e, he, hb, hk.imp id fun hk => ⟨by have := hk.1; simp at this; omega, hk.2⟩⟩

def chkPair (T : Tab) (tab : List (List Nat)) (ss : List Stm) (i k : Nat) : Bool :=
  (tab.getD i []).contains k || match ss[k]?, ss[i]? with | some s, some u => indep T s u | _, _ => false
def chkOrder (T : Tab) (os : List Oper) (ss : List Stm) : Bool :=
  ((List.range os.length).all fun i => (List.range i).all fun k => chkPair T (befs os []) ss i k) &&
  ((List.range os.length).all fun i => match os[i]? with | some o => o.after.toList.all fun e => !Region.binds .any e || decide (e.on < i) | none => true)

def runL (T : Tab) (C : CallSem) (ss : List Stm) : List Nat → St → Option St
  | [], st => some st
  | i :: r, st => match ss[i]? with
    | some s => match stepStm T C st s with
      | some st' => runL T C ss r st'
      | none => none
    | none => none

theorem bubble {T : Tab} {C : CallSem} {ss : List Stm} {i : Nat} {u : Stm} (hu : ss[i]? = some u) {L2 : List Nat} : ∀ {L1 : List Nat} {st stf : St}, runL T C ss (L1 ++ i :: L2) st = some stf →
    (∀ k, k ∈ L1 → ∀ s, ss[k]? = some s → indep T s u = true) → ∃ st1, stepStm T C st u = some st1 ∧ runL T C ss (L1 ++ L2) st1 = some stf
  | [], st, stf, h, _ => by
    simp only [List.nil_append, runL, hu] at h ⊢
    split at h
    · rename_i st1 h1; exact ⟨st1, h1, h⟩
    · simp at h
  | k :: L1, st, stf, h, hi => by
    simp only [List.cons_append, runL] at h ⊢
    split at h
    · rename_i s hs
      split at h
      · rename_i s1 h1
        obtain ⟨s2, h2, h3⟩ := bubble hu (L1 := L1) h fun m hm => hi m (List.mem_cons_of_mem _ hm)
        obtain ⟨s3, h4, h5⟩ := swap (hi k List.mem_cons_self s hs) h1 h2
        exact ⟨s3, h4, by rw [h5]; exact h3⟩
      · simp at h
    · simp at h

section
variable {P : Program} {N : Nat} {T : Tab} {C : CallSem}

def Settled (ops : Array Oper) (listed : Array Bool) (i : Nat) : Prop := ∀ o, ops[i]? = some o → ∀ e ∈ o.after, Region.binds .any e = true → listed.getD e.on false = true

theorem closed_listed {ops : Array Oper} {listed : Array Bool} (hdc : ∀ i, listed.getD i false = true → Settled ops listed i) : ∀ (n i : Nat), i ≤ n → Settled ops listed i → ∀ o, ops[i]? = some o → ∀ k, k ∈ (befs ops.toList []).getD i [] → listed.getD k false = true := by
  intro n
  induction n with
  | zero =>
    intro i hi hs o ho k hk
    obtain ⟨e, he, hb, h1 | ⟨h1, _⟩⟩ := befs_mem (os := ops.toList) (acc := []) (i := i) (by simpa using ho) k (by simpa using hk)
    · subst h1; exact hs o ho e he hb
    · simp at h1; omega
  | succ n ih =>
    intro i hi hs o ho k hk
    obtain ⟨e, he, hb, h1 | ⟨h1, h2⟩⟩ := befs_mem (os := ops.toList) (acc := []) (i := i) (by simpa using ho) k (by simpa using hk)
    · subst h1; exact hs o ho e he hb
    · simp at h1
      have hl := hs o ho e he hb
      have hlt : e.on < ops.size := Nat.lt_trans h1 (Array.getElem?_eq_some_iff.1 ho).1
      exact ih e.on (by omega) (hdc _ hl) ops[e.on] (by simp [hlt]) k h2

theorem any_sound {ρ : Option Nat} {m : Nat} {ds : List Deferred} (hC : CallOk Γ P T C) {ops : Array Oper} {ss : List Stm} (hall : chkAll P N ops ss ops.toList = true) (hord : chkOrder T ops.toList ss = true) {stf : St} {Q : Exit → Act → World → Prop} :
    ∀ (fuel : Nat) (L : List Nat) (listed : Array Bool) (st : St) (a : Act) (w : World) (S : Nat → Prop) (β : Beta), L.length ≤ fuel → L.Pairwise (· < ·) → listed.size = ops.size → (∀ i, i ∈ L ↔ i < ops.size ∧ listed.getD i true = false) →
      (∀ i, listed.getD i false = true → Settled ops listed i) → Rel Γ N S β st a w → runL T C ss L st = some stf →
      (∀ a' w' S' β', Rel Γ N S' β' stf a' w' → Ext st.prot S β st.hp w S' β' stf.hp w' → stf.prot = st.prot → Q .normal (withD a' ds) w') → wpAnyIn (Gf ρ) m P .any ops Q fuel listed (withD a ds) w := by
  obtain ⟨hlen, hat⟩ := chkAll_at hall
  simp only [chkOrder, Bool.and_eq_true, List.all_eq_true, List.mem_range] at hord
  obtain ⟨hpair, hback⟩ := hord
  have hin : ∀ {L : List Nat} {listed : Array Bool}, (∀ i, i ∈ L ↔ i < ops.size ∧ listed.getD i true = false) → ∀ j, j ∈ Region.ready .any ops listed → j ∈ L := fun hL j hj => by
    obtain ⟨h1, o, ho, _⟩ := mem_ready.1 hj
    exact (hL j).2 ⟨(Array.getElem?_eq_some_iff.1 ho).1, h1⟩
  have hdone : ∀ {L : List Nat} {listed : Array Bool}, L.Pairwise (· < ·) → listed.size = ops.size → (∀ i, i ∈ L ↔ i < ops.size ∧ listed.getD i true = false) → Region.ready .any ops listed = [] → L = [] := fun {L listed} hp hsz hL hr => by
    cases L with
    | nil => rfl
    | cons i L' =>
      exfalso
      obtain ⟨h1, h2⟩ := (hL i).1 List.mem_cons_self
      have : i ∈ Region.ready .any ops listed := mem_ready.2 ⟨h2, ops[i], by simp [h1], fun e he hb => by
        have h3 := hback i (by simpa using h1)
        have h4 : e.on < i := by
          have hi' : ops.toList[i]? = some ops[i] := by simp [h1]
          rw [hi'] at h3
          have := List.all_eq_true.1 h3 e (by simpa using he)
          simpa [hb] using this
        have h5 : e.on ∉ i :: L' := fun hm => by
          rcases List.mem_cons.1 hm with hm | hm
          · omega
          · have := (List.pairwise_cons.1 hp).1 _ hm; omega
        have h6 : ¬ (e.on < ops.size ∧ listed.getD e.on true = false) := fun h => h5 ((hL _).2 h)
        have hlt : e.on < listed.size := by omega
        have h7 : listed.getD e.on true = true := by
          cases hq : listed.getD e.on true with
          | true => rfl
          | false => exact absurd ⟨by omega, hq⟩ h6
        simpa [Array.getD, hlt] using h7⟩
      rw [hr] at this
      cases this
  intro fuel
  induction fuel with
  | zero =>
    intro L listed st a w S β hf hp hsz hL hdc hr hrun hK
    have : L = [] := List.eq_nil_of_length_eq_zero (by omega)
    subst this
    simp [runL] at hrun; subst hrun
    refine ⟨?_, hK a w S β hr (Ext.refl ..) rfl⟩
    refine List.eq_nil_iff_forall_not_mem.2 fun j hj => ?_
    have := hin hL j hj
    cases this
  | succ fuel ih =>
    intro L listed st a w S β hf hp hsz hL hdc hr hrun hK
    refine ⟨fun h => ?_, fun i hi => ?_⟩
    · have := hdone hp hsz hL h
      subst this
      simp [runL] at hrun; subst hrun
      exact hK a w S β hr (Ext.refl ..) rfl
    · have hiL := hin hL i hi
      obtain ⟨hi1, o, ho, hready⟩ := mem_ready.1 hi
      have hiS : Settled ops listed i := fun o' ho' e he hb => by rw [ho] at ho'; simp at ho'; subst ho'; exact hready e he hb
      obtain ⟨L1, L2, rfl⟩ := List.append_of_mem hiL
      have hlt : i < ops.size := (Array.getElem?_eq_some_iff.1 ho).1
      have hlt' : i < ss.length := by simp at hlen; omega
      have hu : ss[i]? = some ss[i] := by simp [hlt']
      have hpa := List.pairwise_append.1 hp
      have hind : ∀ k, k ∈ L1 → ∀ s, ss[k]? = some s → indep T s ss[i] = true := fun k hk s hs => by
        have hki : k < i := hpa.2.2 k hk i List.mem_cons_self
        have := hpair i (by simpa using hlt) k hki
        simp only [chkPair, Bool.or_eq_true, hs, hu] at this
        rcases this with h1 | h1
        · exfalso
          have h2 := closed_listed hdc i i (Nat.le_refl _) hiS o ho k (by simpa using h1)
          have h3 := ((hL k).1 (List.mem_append_left _ hk)).2
          have hkl : k < listed.size := by omega
          simp [Array.getD, hkl] at h2 h3
          rw [h2] at h3; cases h3
        · exact h1
      obtain ⟨st1, h1, h2⟩ := bubble hu hrun hind
      refine wpOpV_in (K := fun a' w' => ∃ S' β', Rel Γ N S' β' st1 a' w' ∧ Ext st.prot S β st.hp w S' β' st1.hp w' ∧ st1.prot = st.prot) (stms_sound hC ho hr (hat i _ o hu (by simpa using ho)) h1 fun a' w' S' β' hr' hext hpr => ⟨S', β', hr', hext, hpr⟩) (fun a' w' ⟨_, _, h, _⟩ => h.defers) fun a' w' ⟨S', β', hr', hext, hpr⟩ _ => ?_
      have hni : ∀ k, k ∈ L1 ++ L2 → k ≠ i := fun k hk e => by
        subst e
        rcases List.mem_append.1 hk with hk | hk
        · have := hpa.2.2 k hk k List.mem_cons_self; omega
        · have := (List.pairwise_cons.1 hpa.2.1).1 k hk; omega
      refine ih (L1 ++ L2) (listed.setIfInBounds i true) st1 a' w' S' β' (by simp at hf ⊢; omega) ?_ (by simp [hsz]) (fun k => ?_) (fun k hk => ?_) hr' h2 fun a'' w'' S'' β'' hr'' hext' hpr' => hK a'' w'' S'' β'' hr'' (hext.trans (hpr ▸ hext')) (hpr'.trans hpr)
      · refine List.pairwise_append.2 ⟨hpa.1, (List.pairwise_cons.1 hpa.2.1).2, fun x hx y hy => hpa.2.2 x hx y (List.mem_cons_of_mem _ hy)⟩
      · constructor
        · intro hk
          have hne := hni k hk
          rw [getD_set_ne true (Ne.symm hne)]
          refine (hL k).1 ?_
          rcases List.mem_append.1 hk with hk | hk
          · exact List.mem_append_left _ hk
          · exact List.mem_append_right _ (List.mem_cons_of_mem _ hk)
        · rintro ⟨hk1, hk2⟩
          have hne : k ≠ i := fun e => by
            subst e
            have : k < listed.size := by omega
            simp [this] at hk2
          rw [getD_set_ne true (Ne.symm hne)] at hk2
          have := (hL k).2 ⟨hk1, hk2⟩
          rcases List.mem_append.1 this with h | h
          · exact List.mem_append_left _ h
          · rcases List.mem_cons.1 h with h | h
            · exact absurd h hne
            · exact List.mem_append_right _ h
      · intro o' ho' e he hb
        refine getD_set_true ?_
        by_cases hki : k = i
        · subst hki; exact hiS o' ho' e he hb
        · rw [getD_set_ne false (Ne.symm hki)] at hk
          exact hdc k hk o' ho' e he hb

theorem runL_range' {ss : List Stm} : ∀ (r : List Stm) (i : Nat) (st : St), (∀ j, ss[i + j]? = r[j]?) → runL T C ss (List.range' i r.length) st = stepStms T C r st := by
  intro r
  induction r with
  | nil => intro i st _; rfl
  | cons s r ih =>
    intro i st h
    have h0 := h 0
    simp at h0
    simp only [List.length_cons, List.range'_succ, runL, h0, stepStms]
    cases hs : stepStm T C st s with
    | none => rfl
    | some st' =>
      exact ih (i + 1) st' fun j => by
        have := h (j + 1)
        rw [show i + 1 + j = i + (j + 1) by omega, this]
        rfl

/-- A region whose order is drawn. -/
theorem region_any {ρ : Option Nat} {m : Nat} {ds : List Deferred} (hm : P.follows .mixedOrders = true) (hC : CallOk Γ P T C) {id : Nat} {ops : Array Oper} {ss : List Stm} (hall : chkAll P N ops ss ops.toList = true) (hord : chkOrder T ops.toList ss = true) {st stf : St} {a : Act} {w : World} {S : Nat → Prop} {β : Beta} (hr : Rel Γ N S β st a w)
    (h : stepStms T C ss st = some stf) {Q : Exit → Act → World → Prop}
    (hK : ∀ a' w' S' β', Rel Γ N S' β' stf a' w' → Ext st.prot S β st.hp w S' β' stf.hp w' → stf.prot = st.prot → Q .normal (withD a' ds) w') : (Code.region id ops true).wpIn (Gf ρ) m P Q (withD a ds) w := by
  have hlen := (chkAll_at hall).1
  simp at hlen
  refine wpIn_region_any hm (any_sound hC hall hord (stf := stf) ops.size (List.range ops.size) _ st a _ S β (by simp) List.pairwise_lt_range (by simp) (fun i => ?_) (fun i hi => ?_) (world_rel (w' := { w with drawn := w.drawn + 1 }) hr (Nat.le_refl _) (fun _ _ => rfl) (fun _ _ => rfl)) ?_ fun a' w' S' β' h1 h2 h3 => hK a' w' S' β' h1 (Ext.trans (S1 := S) (β1 := β) (hp1 := st.hp) (w1 := { w with drawn := w.drawn + 1 }) ⟨rfl, rfl, rfl, Nat.le_refl _, fun _ _ _ => rfl, fun _ h => h, fun _ h => .inl h, fun _ h => .inl h, fun l _ blk' hb => ⟨blk', hb, rfl, rfl, fun _ _ _ _ _ h => h⟩⟩ h2) h3)
  · constructor
    · intro hi; simp at hi; simp [hi]
    · intro hi; simpa using hi.1
  · exfalso
    by_cases hlt : i < ops.size <;> simp [hlt] at hi
  · rw [hlen, List.range_eq_range']
    rw [runL_range' ss 0 st (by simp)]
    exact h

/-- A region in the text's order. -/
theorem region_text {ρ : Option Nat} {m : Nat} {ds : List Deferred} (hC : CallOk Γ P T C) {id : Nat} {ops : Array Oper} {ss : List Stm} (hall : chkAll P N ops ss ops.toList = true) {st stf : St} {a : Act} {w : World} {S : Nat → Prop} {β : Beta} (hr : Rel Γ N S β st a w)
    (h : stepStms T C ss st = some stf) {Q : Exit → Act → World → Prop}
    (hK : ∀ a' w' S' β', Rel Γ N S' β' stf a' w' → Ext st.prot S β st.hp w S' β' stf.hp w' → stf.prot = st.prot → Q .normal (withD a' ds) w') : (Code.region id ops false).wpIn (Gf ρ) m P Q (withD a ds) w := by
  obtain ⟨hlen, hat⟩ := chkAll_at hall
  simp at hlen
  refine wpIn_region ?_
  rw [List.range_eq_range', hlen]
  have key : ∀ (r : List Stm) (i : Nat) (st : St) (a : Act) (w : World) (S : Nat → Prop) (β : Beta), (∀ j, ss[i + j]? = r[j]?) → Rel Γ N S β st a w → stepStms T C r st = some stf →
      (∀ a' w' S' β', Rel Γ N S' β' stf a' w' → Ext st.prot S β st.hp w S' β' stf.hp w' → stf.prot = st.prot → Q .normal (withD a' ds) w') → wpOpsIn (Gf ρ) m P ops Q (List.range' i r.length) (withD a ds) w := by
    intro r
    induction r with
    | nil =>
      intro i st a w S β _ hr h hK
      simp [stepStms] at h; subst h
      exact hK a w S β hr (Ext.refl ..) rfl
    | cons s r ih =>
      intro i st a w S β hs hr h hK
      have h0 := hs 0
      simp at h0
      simp only [stepStms] at h
      split at h
      · rename_i st1 h1
        simp only [List.length_cons, List.range'_succ]
        rw [wpOpsIn_cons]
        have hlt : i < ops.size := by
          have := (List.getElem?_eq_some_iff.1 h0).1; omega
        refine wpOpV_in (K := fun a' w' => ∃ S' β', Rel Γ N S' β' st1 a' w' ∧ Ext st.prot S β st.hp w S' β' st1.hp w' ∧ st1.prot = st.prot) (stms_sound hC (o := ops[i]) (by simp [hlt]) hr (hat i s ops[i] h0 (by simp [hlt])) h1 fun a' w' S' β' hr' hext hpr => ⟨S', β', hr', hext, hpr⟩) (fun a' w' ⟨_, _, h, _⟩ => h.defers) fun a' w' ⟨S', β', hr', hext, hpr⟩ _ => ?_
        refine ih (i + 1) st1 a' w' S' β' (fun j => ?_) hr' h fun a'' w'' S'' β'' hr'' hext' hpr' => hK a'' w'' S'' β'' hr'' (hext.trans (hpr ▸ hext')) (hpr'.trans hpr)
        have := hs (j + 1)
        simpa [Nat.add_assoc, Nat.add_comm 1 j] using this
      · simp at h
  exact key ss 0 st a w S β (by simp) hr h hK
end
end Go.Vm

/- Code and functions: what the machine computes, the translation computes. -/
set_option linter.unusedSimpArgs false
set_option linter.unusedVariables false
namespace Go.Vm
variable {Γ : GlobP}
open Go.RowKit

def chkC (P : Program) (T : Tab) (N : Nat) : Bool → VC → Code → Bool
  | _, .die, _ => true
  | _, .skip, .skip => true
  | _, .ret, .ret => true
  | _, .exit i, .exit j => i == j
  | r, .seq a b, .seq a' b' => chkC P T N r a a' && chkC P T N r b b'
  | r, .cond o a b, .cond o' a' b' => chkOpd o o' && chkC P T N r a a' && chkC P T N r b b'
  | r, .block i b, .block j b' => i == j && chkC P T N r b b'
  | r, .loop b, .loop b' => chkC P T N r b b'
  | _, .region ss _, .region _ ops d => chkAll P N ops ss ops.toList && (!d || chkOrder T ops.toList ss)
  | r, .rangef g ps asg b, .rangeFunc g' ps' asg' b' => !r && chkOpd g g' && ps == ps'.toList && ps.all (fun p => decide (p < N)) && chkC P T N true asg asg' && chkC P T N true b b'
  | _, _, _ => false

def chkRes (P : Program) : List VRes → List ResultVar → Bool
  | [], [] => true
  | .tmp t :: r, .tmp u :: s => t == u && chkRes P r s
  | .cell t n :: r, .cell u ty :: s => t == u && chkLoad P ty n && chkRes P r s
  | _, _ => false

def chkFun (P : Program) (T : Tab) (g : FuncId) (vf : VFun) : Bool :=
  chkFn P g && vf.fin.all isGhost && match P.funcs[g]? with
    | some fn => (match fn.body with
      | some c => chkC P T fn.ntmps false vf.body c
      | none => false) && chkRes P vf.results fn.results.toList && decide (vf.params ≤ fn.ntmps)
    | none => false

/-! Ranges over functions -/
/-- New blocks, and nothing else. -/
structure Grown (w w' : World) : Prop where
  os : w'.os = w.os
  tape : w'.tape = w.tape
  output : w'.output = w.output
  size : w.heap.size ≤ w'.heap.size
  same : ∀ b, b < w.heap.size → w'.heap[b]? = w.heap[b]?
theorem Grown.refl (w : World) : Grown w w := ⟨rfl, rfl, rfl, Nat.le_refl _, fun _ _ => rfl⟩
/-- An iterator's code draws no order. -/
def noDraw : Code → Bool
  | .region _ _ d => !d
  | .seq a b => noDraw a && noDraw b
  | .cond _ a b => noDraw a && noDraw b
  | .block _ b => noDraw b
  | .loop b => noDraw b
  | .skip => true
  | .ret => true
  | .exit _ => true
  | _ => false
def chkGen (P : Program) (f : FuncId) : Bool :=
  match P.funcs[f]? with
  | some fn => match fn.body with | some c => noDraw c | none => false
  | none => false

/-- A library function that the machine takes as a whole. -/
def PrimSound (Γ : GlobP) (P : Program) (g : FuncId) (p : List I → Option I) : Prop :=
  ∀ (args : List I) (v : I), p args = some v → ∀ (S : Nat → Prop) (w : World) (cargs : Array Value), cargs.size = args.length → (∀ (j : Nat) (x) (u), args[j]? = some x → cargs[j]? = some u → RI S w x u) → (∀ b, S b → b < w.heap.size) → Γ.ok S w →
    Calls P g cargs w fun e w' => ∃ u S', e = .returned u ∧ RI S' w' v u ∧ (∀ b, S' b → b < w'.heap.size) ∧ w'.os = w.os ∧ w'.tape = w.tape ∧ w'.output = w.output ∧ w.heap.size ≤ w'.heap.size ∧
      (∀ b, b < w.heap.size → w'.heap[b]? = w.heap[b]?) ∧ (∀ b, S b → S' b) ∧ (∀ b, S' b → S b ∨ w.heap.size ≤ b)

structure TabOk (Γ : GlobP) (P : Program) (T : Tab) : Prop where
  mixed : P.follows .mixedOrders = true
  fn : ∀ g vf, T.fn g = some vf → chkFun P T g vf = true
  prim : ∀ g p, T.prim g = some p → chkFn P g = true ∧ PrimSound Γ P g p
  gen : ∀ f vf, T.fn f = some vf → T.gen f = true → chkGen P f = true

def toExit : Ex → Exit
  | .normal => .normal
  | .ret => .ret
  | .exit id => .exit id

theorem get_prune {e : Env} : ∀ {l : List Nat} {t : Nat} {v : F}, get (pruneEnv e l) t = some v → get e t = some v
  | [], t, v, h => by simp [pruneEnv, get] at h
  | k :: r, t, v, h => by
    simp only [pruneEnv] at h
    split at h
    · rename_i u hu
      simp only [get] at h
      split at h
      · rename_i hk; subst hk; rw [hu]; exact h
      · exact get_prune h
    · exact get_prune h

theorem get_enter : ∀ {l : List F} {j t : Nat} {v : F}, get (enterEnv j l) t = some v → j ≤ t ∧ l[t - j]? = some v
  | [], j, t, v, h => by simp [enterEnv, get] at h
  | x :: r, j, t, v, h => by
    simp only [enterEnv, get] at h
    split at h
    · rename_i e; subst e; simpa using h
    · rename_i hne
      obtain ⟨h1, h2⟩ := get_enter h
      refine ⟨by omega, ?_⟩
      rw [show t - j = (t - (j + 1)) + 1 by omega]
      simpa using h2

section
variable {P : Program} {N : Nat} {T : Tab}

theorem tab_callOk (hT : TabOk Γ P T) {n : Nat} (hs : SoundCall Γ P (fun g args h => call T n g args h)) : CallOk Γ P T (fun g args h => call T n g args h) where
  sound := hs
  fn := fun g vf h => by
    have := hT.fn g vf h
    simp only [chkFun, Bool.and_eq_true] at this
    exact this.1.1
  prim := fun g p h => (hT.prim g p h).1
  from_ := fun g args h r e => by
    cases n with
    | zero => simp [call] at e
    | succ n =>
      obtain ⟨h, x⟩ := h
      simp only [call] at e
      split at e
      · rename_i p hp; exact .inr (by simp [hp])
      · split at e
        · simp at e
        · rename_i vf hf; exact .inl (by simp [hf])

/-! Deferred calls: the marks of loops over functions. -/
def mark (D : Nat) : Deferred := { target := .collected D, args := #[] }
def Marks (B : Nat) (ds : List Deferred) (w : World) : Prop :=
  B ≤ w.heap.size ∧ ∃ Ds : List Nat, Ds.Nodup ∧ ds = Ds.map mark ∧ ∀ D, D ∈ Ds → B ≤ D ∧ w.heap[D]? = some (.deferred (some []))
theorem Marks.nil {B : Nat} {w : World} (h : B ≤ w.heap.size) : Marks B [] w := ⟨h, [], List.nodup_nil, rfl, fun D h => by simp at h⟩

theorem own_isC {S : Nat → Prop} {w : World} {β : Beta} {hp : Heap} (h : HpRel Γ S w β hp) {b : Nat} (ho : Own β hp b) : IsC w b ∧ ¬ S b := by
  obtain ⟨l, blk, base, h1, h2⟩ := ho
  rcases h.blk l blk h1 with ⟨h3, _⟩ | ⟨b', base', h3, h4, h5⟩
  · rw [h2] at h3; simp at h3
  · rw [h2] at h3; simp at h3; obtain ⟨rfl, rfl⟩ := h3
    exact ⟨h5.isC, h4⟩
theorem IsC.lt {w : World} {b : Nat} (h : IsC w b) : b < w.heap.size := by
  obtain ⟨c, e, fr, h⟩ := h
  exact (Array.getElem?_eq_some_iff.1 h).1
theorem Marks.ext {B : Nat} {ds : List Deferred} {w w' : World} {S S' : Nat → Prop} {β β' : Beta} {hp hp' : Heap} {prot : List Nat} (h : Marks B ds w) (hh : HpRel Γ S w β hp) (he : Ext prot S β hp w S' β' hp' w') : Marks B ds w' := by
  obtain ⟨h0, Ds, h1, h2, h3⟩ := h
  refine ⟨Nat.le_trans h0 he.size, Ds, h1, h2, fun D hD => ⟨(h3 D hD).1, ?_⟩⟩
  have h4 := (h3 D hD).2
  rw [he.same D (Array.getElem?_eq_some_iff.1 h4).1 fun ho => ?_]
  · exact h4
  · obtain ⟨⟨c, e, fr, hc⟩, _⟩ := own_isC hh ho
    rw [h4] at hc; simp at hc

theorem not_isC_loop {w : World} {l : Nat} {r : Loop} (h : w.heap[l]? = some (.loop r)) : ¬ IsC w l := fun ⟨c, e, fr, hc⟩ => by rw [h] at hc; simp at hc
theorem not_isC_def {w : World} {l : Nat} {r : Option (List Deferred)} (h : w.heap[l]? = some (.deferred r)) : ¬ IsC w l := fun ⟨c, e, fr, hc⟩ => by rw [h] at hc; simp at hc

/-- A block that is no cells turns. -/
theorem put_rel {S : Nat → Prop} {w : World} {β : Beta} {st : St} {a : Act} (hr : Rel Γ N S β st a w) {k : Nat} (o : Obj) (hk : ¬ IsC w k) (hS : ¬ S k) : Rel Γ N S β st a (w.putObj k o) := by
  refine world_rel hr (by simp) (fun b hb => ?_) fun b hb => ?_
  · exact World.putObj_heap_other fun e => hS (e ▸ hb)
  · exact World.putObj_heap_other fun e => hk (e ▸ (own_isC hr.hp hb).1)
theorem shape_put {w : World} {k b n : Nat} {o : Obj} {e : TypeId} (hk : ¬ IsC w k) (h : w.shape? b = some (e, n)) : (w.putObj k o).shape? b = some (e, n) := by
  have hne : b ≠ k := fun e' => by
    subst e'
    refine hk ?_
    simp only [World.shape?] at h
    split at h
    · rename_i c e fr hh; exact ⟨c, e, fr, hh⟩
    · simp at h
  simp only [World.shape?] at h ⊢
  rw [World.putObj_heap_other hne]; exact h
theorem ext_put {prot : List Nat} {S S' : Nat → Prop} {w w' : World} {β β' : Beta} {hp hp' : Heap} (he : Ext prot S β hp w S' β' hp' w') {k : Nat} (o : Obj) (hk : ¬ IsC w' k) (hle : w.heap.size ≤ k) : Ext prot S β hp w S' β' hp' (w'.putObj k o) where
  os := he.os
  tape := he.tape
  output := he.output
  size := by simpa using he.size
  same := fun b hb ho => by rw [World.putObj_heap_other (by omega)]; exact he.same b hb ho
  sub := he.sub
  new := he.new
  own := he.own
  prot := fun l hl blk' hb' => by
    obtain ⟨blk, e1, e2, e3, e4⟩ := he.prot l hl blk' hb'
    exact ⟨blk, e1, e2, e3, fun b base hβ e n hs => shape_put hk (e4 b base hβ e n hs)⟩
/-- Both worlds with the same object in a block that is no cells. -/
theorem ext_norm {prot : List Nat} {S S' : Nat → Prop} {w w' : World} {β β' : Beta} {hp hp' : Heap} (he : Ext prot S β hp w S' β' hp' w') {k : Nat} (o : Obj) (hk : ¬ IsC w' k) (hlt : k < w.heap.size) (hs : ∀ b e n, (w.putObj k o).shape? b = some (e, n) → w.shape? b = some (e, n)) : Ext prot S β hp (w.putObj k o) S' β' hp' (w'.putObj k o) where
  os := he.os
  tape := he.tape
  output := he.output
  size := by simpa using he.size
  same := fun b hb ho => by
    simp at hb
    by_cases e : b = k
    · subst e
      rw [World.putObj_heap_same hlt, World.putObj_heap_same (Nat.lt_of_lt_of_le hlt he.size)]
    · rw [World.putObj_heap_other e, World.putObj_heap_other e]; exact he.same b hb ho
  sub := he.sub
  new := fun b hb => by simpa using he.new b hb
  own := fun b hb => by simpa using he.own b hb
  prot := fun l hl blk' hb' => by
    obtain ⟨blk, e1, e2, e3, e4⟩ := he.prot l hl blk' hb'
    exact ⟨blk, e1, e2, e3, fun b base hβ e n h => shape_put hk (e4 b base hβ e n (hs b e n h))⟩
theorem grown_rel {S : Nat → Prop} {w w' : World} {β : Beta} {st : St} {a : Act} (hr : Rel Γ N S β st a w) (hg : Grown w w') : Rel Γ N S β st a w' ∧ ∀ prot, Ext prot S β st.hp w S β st.hp w' := by
  refine ⟨world_rel hr hg.size (fun b hb => hg.same b (hr.bound b hb)) fun b hb => hg.same b (own_isC hr.hp hb).1.lt, fun prot => ⟨hg.os, hg.tape, hg.output, hg.size, fun b hb _ => hg.same b hb, fun _ h => h, fun _ h => .inl h, fun _ h => .inl h, fun l _ blk' hb' => ⟨blk', hb', rfl, rfl, fun b base hβ e n hs => ?_⟩⟩⟩
  have hlt := (own_isC hr.hp ⟨l, blk', base, hb', hβ⟩).1.lt
  simp only [World.shape?] at hs ⊢
  rw [hg.same b hlt]; exact hs

/-- Back from a round's frame. -/
theorem carry_rel {S S' : Nat → Prop} {w w' : World} {β β' : Beta} {st st2 st3 : St} {a a2 : Act} (hr : Rel Γ N S β st a w) (hr2 : Rel Γ N S' β' st2 a2 w') (he : Ext (st.hp.map (·.1)) S β st.hp w S' β' st2.hp w') (h : carry st st2 = some st3) :
    Rel Γ N S' β' st3 a w' ∧ Ext st.prot S β st.hp w S' β' st3.hp w' ∧ st3.prot = st.prot := by
  unfold carry at h
  split at h
  case isFalse => simp at h
  rename_i hc
  simp only [Bool.and_eq_true, decide_eq_true_eq] at hc
  obtain ⟨hprot, hnn⟩ := hc
  simp at h; subst h
  refine ⟨⟨hr.size, hr.defers, fun t v hv => ?_, hr2.hp, hr2.bound, hr2.lab, hr2.nxt, fun l hl => Nat.lt_of_lt_of_le (hr.prot l hl) hnn⟩, ⟨he.os, he.tape, he.output, he.size, he.same, he.sub, he.new, he.own, fun l hl blk' hb' => ?_⟩, rfl⟩
  · obtain ⟨g1, g2⟩ := killGone_get hv
    obtain ⟨h1, h2⟩ := hr.env t v g1
    refine ⟨h1, h2.mono he.sub (fun b hb => he.same b (hr.bound b hb) fun ho => (own_isC hr.hp ho).2 hb) fun l hl blk hbl => ?_⟩
    have hd := hget_dom hbl
    cases hh : hget st2.hp l with
    | none => have := g2 l hd hh; simp [this] at hl
    | some blk' =>
      obtain ⟨blk0, e1, e2, e3, e4⟩ := he.prot l hd blk' hh
      rw [hbl] at e1; simp at e1; subst e1
      exact ⟨e2, ⟨blk', rfl, by omega⟩, e4⟩
  · have := List.all_eq_true.1 hprot l hl
    simp only [Bool.or_eq_true] at this
    rcases this with h1 | h1
    · obtain ⟨blk, hblk⟩ := Option.isSome_iff_exists.1 h1
      exact he.prot l (hget_dom hblk) blk' hb'
    · simp at hb'
      simp [hb'] at h1

theorem putL_rel {S : Nat → Prop} {w : World} {β : Beta} : ∀ {ps : List Nat} {x : List I} {vs : List Value} {st : St} {a : Act} {e : Env}, Rel Γ N S β st a w → putL ps x st.env = some e → (∀ p, p ∈ ps → p < N) → vs.length = x.length → (∀ (j : Nat) (y) (v), x[j]? = some y → vs[j]? = some v → RI S w y v) →
    Rel Γ N S β { st with env := e } { tmps := (ps.zip vs).foldl (fun t (p, v) => t.setIfInBounds p v) a.tmps, defers := a.defers } w
  | [], [], [], st, a, e, hr, h, _, _, _ => by simp [putL] at h; subst h; exact hr
  | p :: ps, y :: x, v :: vs, st, a, e, hr, h, hp, hl, hx => by
    simp only [putL] at h
    have := Rel.put (d := p) (v := some (.i y)) (u := v) hr (hp p List.mem_cons_self) (fun z hz => by simp at hz; subst hz; exact .i _ _ (hx 0 y v rfl rfl))
    exact putL_rel (st := st.put (some p) (some (.i y))) (a := a.put (some p) v) this h (fun q hq => hp q (List.mem_cons_of_mem _ hq)) (by simpa using hl) fun j z u h1 h2 => hx (j + 1) z u (by simpa using h1) (by simpa using h2)
  | [], _ :: _, _, _, _, _, _, h, _, _, _ => by simp [putL] at h
  | _ :: _, [], _, _, _, _, _, h, _, _, _ => by simp [putL] at h
  | [], [], _ :: _, _, _, _, _, _, _, hl, _ => by simp at hl
  | _ :: _, _ :: _, [], _, _, _, _, _, _, hl, _ => by simp at hl
theorem putL_len : ∀ {ps : List Nat} {x : List I} {e e' : Env}, putL ps x e = some e' → x.length = ps.length
  | [], [], e, e', h => rfl
  | p :: ps, y :: x, e, e', h => by
    simp only [putL] at h
    have := putL_len h
    simpa using this
  | [], _ :: _, e, e', h => by simp [putL] at h
  | _ :: _, [], e, e', h => by simp [putL] at h

/-- What a function's code does. -/
def ExecOk (Γ : GlobP) (P : Program) (T : Tab) (n : Nat) : Prop :=
  ∀ (ρ : Option Nat) (m N B : Nat) (vc : VC) (c : Code) (st st' : St) (ex : Ex) (S : Nat → Prop) (β : Beta) (a : Act) (ds : List Deferred) (w : World) (Q : Exit → Act → World → Prop), chkC P T N ρ.isSome vc c = true → exec T n vc st = some (ex, st') → Rel Γ N S β st a w → Marks B ds w →
    (∀ a' w' S' β' ds', Rel Γ N S' β' st' a' w' → Ext st.prot S β st.hp w S' β' st'.hp w' → st'.prot = st.prot → Marks B ds' w' → Q (toExit ex) (withD a' ds') w') → c.wpIn (Gf ρ) m P Q (withD a ds) w
def LoopOk (Γ : GlobP) (P : Program) (T : Tab) (n : Nat) : Prop :=
  ∀ (ρ : Option Nat) (m N B : Nat) (vc : VC) (c : Code) (st st' : St) (ex : Ex) (S : Nat → Prop) (β : Beta) (a : Act) (ds : List Deferred) (w : World) (Q : Exit → Act → World → Prop), chkC P T N ρ.isSome vc c = true → exec T n (.loop vc) st = some (ex, st') → Rel Γ N S β st a w → Marks B ds w →
    (∀ a' w' S' β' ds', Rel Γ N S' β' st' a' w' → Ext st.prot S β st.hp w S' β' st'.hp w' → st'.prot = st.prot → Marks B ds' w' → Q (toExit ex) (withD a' ds') w') → Code.roundsIn (Gf ρ) m P c Q n (withD a ds) w

theorem loop_step {n : Nat} (he : ExecOk Γ P T n) (hl : LoopOk Γ P T n) : LoopOk Γ P T (n + 1) := by
  intro ρ m N B vc c st st' ex S β a ds w Q hc h hr hm hK
  rw [roundsIn_succ]
  simp only [exec] at h
  split at h
  · rename_i st1 h1
    refine he ρ m N B vc c st st1 .normal S β a ds w _ hc h1 hr hm fun a' w' S' β' ds' hr' hext hp hm' => ?_
    exact hl ρ m N B vc c st1 st' ex S' β' a' ds' w' Q hc h hr' hm' fun a'' w'' S'' β'' ds'' hr'' hext' hp' hm'' => hK a'' w'' S'' β'' ds'' hr'' (hext.trans (hp ▸ hext')) (hp'.trans hp) hm''
  · rename_i r hn
    refine he ρ m N B vc c st st' ex S β a ds w _ hc h hr hm fun a' w' S' β' ds' hr' hext hp hm' => ?_
    have := hK a' w' S' β' ds' hr' hext hp hm'
    cases ex with
    | normal => exact absurd h (by simpa using hn st')
    | ret => exact this
    | exit id => exact this

def exCode : Ex → Code
  | .normal => .skip
  | .ret => .ret
  | .exit id => .exit id

/-! An iterator's activation. -/
abbrev JT := Ex → St → (Nat → Prop) → World → Prop
def Yv (l : Nat) : Value := .func (.yield l) #[] #[]
def KS (l : Nat) (ks : List Nat) (a : Act) : Prop := ∀ k, k ∈ ks → a.tmps.getD k undef = Yv l
structure GInv (J : JT) (S0 : Nat → Prop) (B : Nat) (ex : Ex) (sc : St) (X S : Nat → Prop) (β : Beta) (hp : Heap) (w : World) : Prop where
  at_ : ∃ W0, J ex sc X W0 ∧ Grown W0 w ∧ (∀ b, Own β hp b → W0.heap.size ≤ b) ∧ (∀ b, X b → b < W0.heap.size) ∧ B ≤ W0.heap.size
  apart : ∀ b, S b → ¬ X b
  base : ∀ b, S b → S0 b ∨ B ≤ b
def RoundOk (P : Program) (R : Rnd) (J : JT) (S0 : Nat → Prop) (B l : Nat) : Prop :=
  ∀ (sc : St) (X : Nat → Prop) (W : World) (S : Nat → Prop) (xs : List I) (vs : Array Value) (ex' : Ex) (sc' : St), J .normal sc X W → R xs sc = some (ex', sc') → vs.size = xs.length → (∀ (j : Nat) (x) (v), xs[j]? = some x → vs[j]? = some v → RI S W x v) →
    (∀ b, S b → (S0 b ∨ B ≤ b) ∧ b < W.heap.size ∧ ¬ X b) → ∀ m, YieldAt (Gf none) m P l vs W fun e W' => e = .returned (.bool (exN ex')) ∧ ∃ X', J ex' sc' X' W' ∧ W.heap.size ≤ W'.heap.size ∧ (∀ b, b < W.heap.size → ¬ X b → W'.heap[b]? = W.heap[b]?) ∧
      (∀ b, X' b → X b ∨ W.heap.size ≤ b) ∧ ∀ b, X' b → b < W'.heap.size
def GOk (Γ : GlobP) (P : Program) (T : Tab) (n : Nat) : Prop :=
  ∀ (R : Rnd) (J : JT) (S0 : Nat → Prop) (B l : Nat), (∀ ex sc X W W', J ex sc X W → Grown W W' → J ex sc X W') → RoundOk P R J S0 B l →
    ∀ (m N : Nat) (vc : VC) (c : Code) (g g' : GS) (ex : Ex) (S : Nat → Prop) (β : Beta) (a : Act) (w : World) (X : Nat → Prop) (Q : Exit → Act → World → Prop), chkC P T N false vc c = true → noDraw c = true → gexec T n R vc g = some (ex, g') → Rel Γ N S β g.st a w → KS l g.ks a → GInv J S0 B g.ex g.sc X S β g.st.hp w →
      (∀ a' w' S' β' X', Rel Γ N S' β' g'.st a' w' → KS l g'.ks a' → GInv J S0 B g'.ex g'.sc X' S' β' g'.st.hp w' → Q (toExit ex) a' w') → c.wpIn (Gf none) m P Q a w
def GLoopOk (Γ : GlobP) (P : Program) (T : Tab) (n : Nat) : Prop :=
  ∀ (R : Rnd) (J : JT) (S0 : Nat → Prop) (B l : Nat), (∀ ex sc X W W', J ex sc X W → Grown W W' → J ex sc X W') → RoundOk P R J S0 B l →
    ∀ (m N : Nat) (vc : VC) (c : Code) (g g' : GS) (ex : Ex) (S : Nat → Prop) (β : Beta) (a : Act) (w : World) (X : Nat → Prop) (Q : Exit → Act → World → Prop), chkC P T N false vc c = true → noDraw c = true → gexec T n R (.loop vc) g = some (ex, g') → Rel Γ N S β g.st a w → KS l g.ks a → GInv J S0 B g.ex g.sc X S β g.st.hp w →
      (∀ a' w' S' β' X', Rel Γ N S' β' g'.st a' w' → KS l g'.ks a' → GInv J S0 B g'.ex g'.sc X' S' β' g'.st.hp w' → Q (toExit ex) a' w') → Code.roundsIn (Gf none) m P c Q n a w

theorem withD_nil {a : Act} (h : a.defers = []) : withD a [] = a := by
  cases a
  simp [withD] at h ⊢
  exact h
theorem GInv.ext {J : JT} {S0 : Nat → Prop} {B : Nat} {ex : Ex} {sc : St} {X S S' : Nat → Prop} {β β' : Beta} {hp hp' : Heap} {w w' : World} {prot : List Nat} (h : GInv J S0 B ex sc X S β hp w) (he : Ext prot S β hp w S' β' hp' w') : GInv J S0 B ex sc X S' β' hp' w' := by
  obtain ⟨⟨W0, h1, h2, h3, h4, h5⟩, h6, h7⟩ := h
  refine ⟨⟨W0, h1, ⟨he.os.trans h2.os, he.tape.trans h2.tape, he.output.trans h2.output, Nat.le_trans h2.size he.size, fun b hb => ?_⟩, fun b hb => ?_, h4, h5⟩, fun b hb hX => ?_, fun b hb => ?_⟩
  · rw [he.same b (Nat.lt_of_lt_of_le hb h2.size) fun ho => by have := h3 b ho; omega]
    exact h2.same b hb
  · rcases he.own b hb with q | q
    · exact h3 b q
    · exact Nat.le_trans h2.size q
  · rcases he.new b hb with q | q | q
    · exact h6 b q hX
    · have := h3 b q; have := h4 b hX; omega
    · have := h4 b hX; have := h2.size; omega
  · rcases he.new b hb with q | q | q
    · exact h7 b q
    · exact .inr (Nat.le_trans h5 (h3 b q))
    · exact .inr (Nat.le_trans h5 (Nat.le_trans h2.size q))
theorem wanted_of {S : Nat → Prop} {w : World} {β : Beta} {st : St} {a : Act} (hr : Rel Γ N S β st a w) {ops : Array Oper} {o : Oper} {guard : Option (Nat × Bool)} (hg : chkGuard ops guard o.guard = true) {b : Bool} (h : wants st guard = some b) : Region.wanted o (yielded ops a.tmps) = b := by
  cases guard with
  | none =>
    have hog : o.guard = none := by
      generalize o.guard = og at hg
      cases og with
      | none => rfl
      | some _ => simp [chkGuard] at hg
    simp [wants] at h
    simp [Region.wanted, hog, h]
  | some gw =>
    obtain ⟨g, want⟩ := gw
    obtain ⟨j, hog, hj⟩ : ∃ j, o.guard = some (j, want) ∧ (ops[j]?).bind (·.dst) = some g := by
      generalize o.guard = og at hg
      cases og with
      | none => simp [chkGuard] at hg
      | some jw =>
        obtain ⟨j, want'⟩ := jw
        simp only [chkGuard, Bool.and_eq_true, beq_iff_eq] at hg
        obtain ⟨rfl, hg⟩ := hg
        refine ⟨j, rfl, ?_⟩
        split at hg
        · rename_i d hd; simp at hg; subst hg; exact hd
        · simp at hg
    obtain ⟨oj, hoj, hdj⟩ : ∃ oj, ops[j]? = some oj ∧ oj.dst = some g := by
      generalize ops[j]? = q at hj
      cases q with
      | none => simp at hj
      | some oj => exact ⟨oj, rfl, by simpa using hj⟩
    simp only [wants] at h
    split at h
    · rename_i b' hb
      have hv := (hr.env g _ hb).2.inv_i.inv_bool
      have : a.tmps[g]? = some (.bool b') := by
        have hlt : g < a.tmps.size := by rw [hr.size]; exact (hr.env g _ hb).1
        rw [Array.getElem?_eq_getElem hlt]
        simpa [Array.getD, hlt] using hv
      simp at h
      simp [Region.wanted, hog, yielded, hoj, hdj, this, h]
    · rename_i hb
      have hv := (hr.env g _ hb).2.inv_i
      have hlt : g < a.tmps.size := by rw [hr.size]; exact (hr.env g _ hb).1
      obtain ⟨vs, hv⟩ : ∃ vs, a.tmps.getD g undef = .tuple vs := by
        generalize a.tmps.getD g undef = q at hv
        cases hv with
        | tup _ vs hs _ => exact ⟨_, rfl⟩
      have : a.tmps[g]? = some (.tuple vs) := by
        rw [Array.getElem?_eq_getElem hlt]
        simpa [Array.getD, hlt] using hv
      simp at h
      simp [Region.wanted, hog, yielded, hoj, hdj, this, ← h]
    · simp at h

theorem dropK_mem {dst : Option Nat} {ks : List Nat} {k : Nat} (h : k ∈ dropK dst ks) : k ∈ ks ∧ dst ≠ some k := by
  cases dst with
  | none => exact ⟨h, by simp⟩
  | some d =>
    simp [dropK] at h
    exact ⟨h.1, fun e => by cases e; exact h.2 rfl⟩
theorem KS.put {l : Nat} {ks : List Nat} {a : Act} (h : KS l ks a) (dst : Option Nat) (u : Value) : KS l (dropK dst ks) (a.put dst u) := fun k hk => by
  obtain ⟨h1, h2⟩ := dropK_mem hk
  rw [← h k h1]
  cases dst with
  | none => rfl
  | some d => simp [Act.put, Array.getElem?_setIfInBounds, show d ≠ k from fun e => h2 (by rw [e])]
theorem chkDst_eq {dst : Option Nat} {o : Oper} {N : Nat} (h : chkDst N dst o.dst = true) : o.dst = dst ∧ ∀ d, dst = some d → d < N := by
  generalize o.dst = q at h
  cases dst with
  | none =>
    cases q with
    | none => exact ⟨rfl, fun d hd => by cases hd⟩
    | some d' => simp [chkDst] at h
  | some d =>
    cases q with
    | none => simp [chkDst] at h
    | some d' =>
      simp [chkDst] at h
      obtain ⟨rfl, hlt⟩ := h
      exact ⟨rfl, fun d hd => by cases hd; exact hlt⟩

theorem chkOp_callv {k : Nat} {args : List (Bool × Opd)} {h : Option (Option Nat)} {op : Op} (hc : chkOp P (.callv (.t k) args h) op = true) : ∃ args' ts, op = .call { callee := .value (.tmp k), args := args', argTypes := ts } ∧ chkArgs args args'.toList = true := by
  cases op <;> try (simp [chkOp] at hc; done)
  rename_i c
  obtain ⟨callee, args', ts⟩ := c
  cases callee <;> try (simp [chkOp] at hc; done)
  rename_i y
  simp only [chkOp, Bool.and_eq_true] at hc
  cases y <;> try (simp [chkOpd] at hc; done)
  simp [chkOpd] at hc
  obtain ⟨rfl, hc⟩ := hc
  exact ⟨_, _, rfl, hc⟩
theorem chkOp_mv {k : Nat} {op : Op} (hc : chkOp P (.mv (.t k)) op = true) : op = .move (.tmp k) ∨ op = .assign (.tmp k) := by
  cases op <;> try (simp [chkOp] at hc; done)
  all_goals
    rename_i y
    cases y <;> try (simp [chkOp, chkOpd] at hc; done)
    simp [chkOp, chkOpd] at hc
    subst hc
    simp

theorem gstm_sound {C : CallSem} (hC : CallOk Γ P T C) {R : Rnd} {J : JT} {S0 : Nat → Prop} {B l : Nat} (hJ : ∀ ex sc X W W', J ex sc X W → Grown W W' → J ex sc X W') (hR : RoundOk P R J S0 B l) {m : Nat} {ops : Array Oper} {s : Stm} {i : Nat} {o : Oper} (hi : ops[i]? = some o) (hc : chkStms P N ops s o = true)
    {g g' : GS} (h : gstm T C R s g = some g') {S : Nat → Prop} {β : Beta} {a : Act} {w : World} {X : Nat → Prop} (hr : Rel Γ N S β g.st a w) (hks : KS l g.ks a) (hG : GInv J S0 B g.ex g.sc X S β g.st.hp w) {K : Act → World → Prop} {Q : Exit → Act → World → Prop}
    (hK : ∀ a' w' S' β' X', Rel Γ N S' β' g'.st a' w' → KS l g'.ks a' → GInv J S0 B g'.ex g'.sc X' S' β' g'.st.hp w' → K a' w') : wpOpIn (Gf none) m P ops Q i K a w := by
  have hplain : ∀ {dst : Option Nat} {guard : Option (Nat × Bool)} {vop : VOp}, s = .op dst guard vop → gplain T C s dst g = some g' → wpOpIn (Gf none) m P ops Q i K a w := fun {dst guard vop} hs h => by
    unfold gplain at h
    split at h
    case h_2 => simp at h
    rename_i st hst
    simp at h; subst h
    have hd : o.dst = dst := by
      subst hs
      simp only [chkStms, chkStm, Bool.and_eq_true] at hc
      exact (chkDst_eq hc.1.1).1
    have := wpOpV_in (ρ := none) (n := m) (ds := []) (Q := Q) (K := fun a' w' => ∃ S' β', Rel Γ N S' β' st a' w' ∧ Ext g.st.prot S β g.st.hp w S' β' st.hp w' ∧ st.prot = g.st.prot) (K' := K) (stms_sound hC hi hr hc hst fun a' w' S' β' hr' hext hpr => ⟨S', β', hr', hext, hpr⟩) (fun a' w' ⟨_, _, h, _⟩ => h.defers) fun a' w' ⟨S', β', hr', hext, hpr⟩ hput => by
      rw [withD_nil hr'.defers]
      refine hK a' w' S' β' X hr' ?_ (hG.ext hext)
      obtain ⟨u, hu⟩ := hput o hi
      rw [hu, hd]
      exact hks.put dst u
    rwa [withD_nil hr.defers] at this
  have hsp : ∀ {dst : Option Nat} {guard : Option (Nat × Bool)} {vop : VOp}, s = .op dst guard vop → (wants g.st guard).getD false = true → o.dst = dst ∧ (∀ d, dst = some d → d < N) ∧ chkOp P vop o.op = true ∧ Region.wanted o (yielded ops a.tmps) = true := fun {dst guard vop} hs hw => by
    subst hs
    simp only [chkStms, chkStm, Bool.and_eq_true] at hc
    obtain ⟨h1, h2⟩ := chkDst_eq hc.1.1
    refine ⟨h1, h2, hc.2, ?_⟩
    cases hq : wants g.st guard with
    | none => rw [hq] at hw; simp at hw
    | some b => rw [hq] at hw; simp at hw; subst hw; exact wanted_of hr hc.1.2 hq
  unfold gstm at h
  split at h
  · rename_i dst guard k args
    split at h
    case isFalse => exact hplain rfl h
    rename_i hcond
    simp only [Bool.and_eq_true, List.contains_iff_mem] at hcond
    obtain ⟨hd, hdN, hop, hw⟩ := hsp rfl hcond.2
    have hk := hks k hcond.1
    unfold gyield at h
    split at h
    case h_2 => simp at h
    rename_i vs hex hhp hvs
    split at h
    case h_2 => simp at h
    rename_i xs hxs
    split at h
    case h_2 => simp at h
    rename_i ex' sc' hRx
    simp at h; subst h
    obtain ⟨args', ts, hcall, hca⟩ := chkOp_callv hop
    obtain ⟨c1, c2⟩ := chkArgs_ok hca
    obtain ⟨v1, v2⟩ := vals_rel hr hvs c1 c2
    have hxl : xs.length = vs.length := by
      have : ∀ {l : List F} {q : List I}, toIL l = some q → q.length = l.length := fun {l} => by
        induction l with
        | nil => intro q h; simp [toIL] at h; subst h; rfl
        | cons c l ih =>
          intro q h
          simp only [toIL] at h
          split at h
          · rename_i x l' h1 h2; simp at h; subst h; simp [ih h2]
          · simp at h
      have := this hxs
      simpa using this
    have hsz : (args'.map a.eval).size = xs.length := by simp at c1 ⊢; omega
    have hRI : ∀ (j : Nat) (x) (v), xs[j]? = some x → (args'.map a.eval)[j]? = some v → RI S w x v := by
      have h0 : RF S w β g.st.hp (.tup (vs.map (·.2))) (.tuple (args'.map a.eval)) := .tup _ _ (by simp at c1 ⊢; omega) fun j x v h1 h2 => by
        simp only [List.getElem?_map] at h1
        simp only [Array.getElem?_map] at h2
        cases hj : vs[j]? with
        | none => simp [hj] at h1
        | some y =>
          simp [hj] at h1; subst h1
          cases hj' : args'[j]? with
          | none => simp [hj'] at h2
          | some z => simp [hj'] at h2; subst h2; exact v2 j y z hj (by simpa using hj')
      have := toI_rel h0 (.tup xs) (by simp [F.toI, hxs])
      cases this with
      | tup _ _ q1 q2 => exact q2
    -- the world: J stands here
    obtain ⟨⟨W0, g1, g2, g3, g4, g5⟩, g6, g7⟩ := hG
    have hJw := hJ _ _ _ _ _ g1 g2
    rw [hex] at hJw
    have hno : ∀ b, ¬ Own β g.st.hp b := fun b ⟨l, blk, base, h1, _⟩ => by rw [hhp] at h1; simp [hget] at h1
    have hy := hR g.sc X w S xs _ ex' sc' hJw hRx hsz hRI (fun b hb => ⟨g7 b hb, hr.bound b hb, g6 b hb⟩) (m - 1)
    obtain ⟨fn, tmps, asg, body, hy1, hy2⟩ := hy
    unfold wpOpIn
    simp only [hi]
    rw [if_pos hw]
    refine ⟨fun _ _ => trivial, ?_⟩
    have hrun : (o.semAt (Gf none).round a.eval).run P w = .ok (.round l fn tmps asg body) w := by
      rw [Oper.semAt_eq _ _ _ (by rw [hcall]; intro c e; cases e)]
      have hk' : a.eval (.tmp k) = Yv l := hk
      simp only [execOp, hcall, resolve, hk', Yv]
      simpa [Deferred.ofValue, invoke] using hy1
    rw [hrun]
    simp only [Oper.uponIn]
    refine ⟨fun hh => by simp [Gf, Fence.wide] at hh, hy2.mono fun e W' ⟨he, X', k1, k2, k3, k4, k5⟩ => ?_⟩
    subst he
    simp only
    have hr2 : Rel Γ N S β g.st a W' := world_rel hr k2 (fun b hb => k3 b (hr.bound b hb) (g6 b hb)) fun b hb => absurd hb (hno b)
    rw [hd]
    have hno' : ∀ b, ¬ Own β (g.st.put dst (some (.i (.bool (exN ex'))))).hp b := by cases dst <;> exact hno
    refine hK _ _ S β X' ?_ (hks.put dst _) ⟨⟨W', k1, Grown.refl _, fun b hb => absurd hb (hno' b), k5, Nat.le_trans g5 (Nat.le_trans g2.size k2)⟩, fun b hb hX => ?_, g7⟩
    · cases dst with
      | none => exact hr2
      | some d => exact hr2.put (hdN d rfl) fun x hx => by simp at hx; subst hx; exact .i _ _ (.bool _)
    · rcases k4 b hX with q | q
      · exact g6 b hb q
      · have := hr.bound b hb; omega
  · rename_i d guard k
    split at h
    case isFalse => exact hplain rfl h
    rename_i hcond
    simp only [Bool.and_eq_true, List.contains_iff_mem] at hcond
    obtain ⟨hd, hdN, hop, hw⟩ := hsp rfl hcond.2
    have hk := hks k hcond.1
    simp at h; subst h
    have hmv := chkOp_mv hop
    unfold wpOpIn
    simp only [hi]
    rw [if_pos hw]
    refine ⟨fun _ _ => trivial, ?_⟩
    have hrun : (o.semAt (Gf none).round a.eval).run P w = .ok (.value (Yv l)) w := by
      have hk' : a.eval (.tmp k) = Yv l := hk
      rw [Oper.semAt_eq _ _ _ (by intro c e; rcases hmv with hmv | hmv <;> rw [hmv] at e <;> cases e)]
      rcases hmv with hmv | hmv <;> simp [execOp, hmv, hk']
    rw [hrun]
    simp only [Oper.uponIn]
    rw [hd]
    refine hK _ _ S β X (hr.put (hdN d rfl) fun x hx => by cases hx) (fun k' hk' => ?_) hG
    rcases List.mem_cons.1 hk' with rfl | hk'
    · have hlt : k' < a.tmps.size := by rw [hr.size]; exact hdN _ rfl
      simp [Act.put, hlt]
    · exact hks.put (some d) _ k' hk'
  · exact hplain rfl h
  · simp at h

theorem gstms_sound {C : CallSem} (hC : CallOk Γ P T C) {R : Rnd} {J : JT} {S0 : Nat → Prop} {B l : Nat} (hJ : ∀ ex sc X W W', J ex sc X W → Grown W W' → J ex sc X W') (hR : RoundOk P R J S0 B l) {m : Nat} {ops : Array Oper} {ss : List Stm} (hall : chkAll P N ops ss ops.toList = true) {gf : GS} {Q : Exit → Act → World → Prop}
    {g : GS} (h : gstms T C R ss g = some gf) {S : Nat → Prop} {β : Beta} {a : Act} {w : World} {X : Nat → Prop} (hr : Rel Γ N S β g.st a w) (hks : KS l g.ks a) (hG : GInv J S0 B g.ex g.sc X S β g.st.hp w)
    (hK : ∀ a' w' S' β' X', Rel Γ N S' β' gf.st a' w' → KS l gf.ks a' → GInv J S0 B gf.ex gf.sc X' S' β' gf.st.hp w' → Q .normal a' w') : wpOpsIn (Gf none) m P ops Q (List.range ops.size) a w := by
  obtain ⟨hlen, hat⟩ := chkAll_at hall
  simp at hlen
  rw [List.range_eq_range', hlen]
  have key : ∀ (r : List Stm) (i : Nat) (g : GS) (a : Act) (w : World) (S : Nat → Prop) (β : Beta) (X : Nat → Prop), (∀ j, ss[i + j]? = r[j]?) → Rel Γ N S β g.st a w → KS l g.ks a → GInv J S0 B g.ex g.sc X S β g.st.hp w → gstms T C R r g = some gf → wpOpsIn (Gf none) m P ops Q (List.range' i r.length) a w := by
    intro r
    induction r with
    | nil =>
      intro i g a w S β X _ hr hks hG h
      simp [gstms] at h; subst h
      exact hK a w S β X hr hks hG
    | cons s r ih =>
      intro i g a w S β X hs hr hks hG h
      have h0 := hs 0
      simp at h0
      simp only [gstms] at h
      split at h
      · rename_i g1 h1
        simp only [List.length_cons, List.range'_succ]
        rw [wpOpsIn_cons]
        have hlt : i < ops.size := by
          have := (List.getElem?_eq_some_iff.1 h0).1; omega
        refine gstm_sound hC hJ hR (i := i) (o := ops[i]) (by simp [hlt]) (hat i s ops[i] h0 (by simp [hlt])) h1 hr hks hG fun a' w' S' β' X' hr' hks' hG' => ?_
        refine ih (i + 1) g1 a' w' S' β' X' (fun j => ?_) hr' hks' hG' h
        have := hs (j + 1)
        simpa [Nat.add_assoc, Nat.add_comm 1 j] using this
      · simp at h
  exact key ss 0 g a w S β X (by simp) hr hks hG h

theorem gloop_step {n : Nat} (he : GOk Γ P T n) (hl : GLoopOk Γ P T n) : GLoopOk Γ P T (n + 1) := by
  intro R J S0 B l hJ hR m N vc c g g' ex S β a w X Q hc hnd h hr hks hG hK
  rw [roundsIn_succ]
  simp only [gexec] at h
  split at h
  · rename_i g1 h1
    refine he R J S0 B l hJ hR m N vc c g g1 .normal S β a w X _ hc hnd h1 hr hks hG fun a' w' S' β' X' hr' hks' hG' => ?_
    exact hl R J S0 B l hJ hR m N vc c g1 g' ex S' β' a' w' X' Q hc hnd h hr' hks' hG' hK
  · rename_i r hn
    refine he R J S0 B l hJ hR m N vc c g g' ex S β a w X _ hc hnd h hr hks hG fun a' w' S' β' X' hr' hks' hG' => ?_
    have := hK a' w' S' β' X' hr' hks' hG'
    cases ex with
    | normal => exact absurd h (by simpa using hn g')
    | ret => exact this
    | exit id => exact this

theorem gexec_step (hT : TabOk Γ P T) {n : Nat} (hs : SoundCall Γ P (fun g args h => call T n g args h)) (he : GOk Γ P T n) (hl : GLoopOk Γ P T (n + 1)) : GOk Γ P T (n + 1) := by
  intro R J S0 B l hJ hR m N vc c g g' ex S β a w X Q hc hnd h hr hks hG hK
  cases vc with
  | die => simp [gexec] at h
  | rangef => simp [gexec] at h
  | skip =>
    cases c <;> simp [chkC] at hc
    simp [gexec] at h; obtain ⟨rfl, rfl⟩ := h
    exact wpIn_skip (hK a w S β X hr hks hG)
  | ret =>
    cases c <;> simp [chkC] at hc
    simp [gexec] at h; obtain ⟨rfl, rfl⟩ := h
    exact wpIn_ret (hK a w S β X hr hks hG)
  | exit id =>
    cases c <;> simp [chkC] at hc
    subst hc
    simp [gexec] at h; obtain ⟨rfl, rfl⟩ := h
    exact wpIn_exit (hK a w S β X hr hks hG)
  | seq x y =>
    cases c <;> simp [chkC] at hc
    simp only [noDraw, Bool.and_eq_true] at hnd
    simp only [gexec] at h
    split at h
    · rename_i g1 h1
      refine wpIn_seq (he R J S0 B l hJ hR m N x _ g g1 .normal S β a w X _ hc.1 hnd.1 h1 hr hks hG fun a' w' S' β' X' hr' hks' hG' => ?_)
      exact he R J S0 B l hJ hR m N y _ g1 g' ex S' β' a' w' X' Q hc.2 hnd.2 h hr' hks' hG' hK
    · rename_i r hn
      refine wpIn_seq (he R J S0 B l hJ hR m N x _ g g' ex S β a w X _ hc.1 hnd.1 h hr hks hG fun a' w' S' β' X' hr' hks' hG' => ?_)
      have := hK a' w' S' β' X' hr' hks' hG'
      cases ex with
      | normal => exact absurd h (by simpa using hn g')
      | ret => exact this
      | exit id => exact this
  | cond o x y =>
    cases c <;> simp [chkC] at hc
    simp only [noDraw, Bool.and_eq_true] at hnd
    simp only [gexec] at h
    split at h
    · rename_i t ht
      have hv := (hr.val hc.1.1 ht).inv_i.inv_bool
      cases t with
      | true => exact wpIn_cond_true hv (he R J S0 B l hJ hR m N x _ g g' ex S β a w X Q hc.1.2 hnd.1 (by simpa using h) hr hks hG hK)
      | false => exact wpIn_cond_false hv (he R J S0 B l hJ hR m N y _ g g' ex S β a w X Q hc.2 hnd.2 (by simpa using h) hr hks hG hK)
    · simp at h
  | block id b =>
    cases c <;> simp [chkC] at hc
    obtain ⟨rfl, hc⟩ := hc
    simp only [noDraw] at hnd
    simp only [gexec] at h
    refine wpIn_block ?_
    split at h
    · rename_i id' g1 h1
      split at h
      · rename_i hid
        simp at h; obtain ⟨rfl, rfl⟩ := h
        refine he R J S0 B l hJ hR m N b _ g g1 (.exit id') S β a w X _ hc hnd h1 hr hks hG fun a' w' S' β' X' hr' hks' hG' => ?_
        have := hK a' w' S' β' X' hr' hks' hG'
        simpa [Exit.inBlock, toExit, hid] using this
      · rename_i hid
        simp at h; obtain ⟨rfl, rfl⟩ := h
        refine he R J S0 B l hJ hR m N b _ g g1 (.exit id') S β a w X _ hc hnd h1 hr hks hG fun a' w' S' β' X' hr' hks' hG' => ?_
        have := hK a' w' S' β' X' hr' hks' hG'
        simpa [Exit.inBlock, toExit, hid] using this
    · rename_i r hn
      refine he R J S0 B l hJ hR m N b _ g g' ex S β a w X _ hc hnd h hr hks hG fun a' w' S' β' X' hr' hks' hG' => ?_
      have := hK a' w' S' β' X' hr' hks' hG'
      cases ex with
      | normal => exact this
      | ret => exact this
      | exit id => exact absurd h (by simpa using hn id g')
  | loop b =>
    cases c <;> simp [chkC] at hc
    simp only [noDraw] at hnd
    exact wpIn_loop_rounds (n + 1) (hl R J S0 B l hJ hR m N b _ g g' ex S β a w X Q hc hnd h hr hks hG hK)
  | region ss keep =>
    cases c <;> simp [chkC] at hc
    rename_i id ops d
    simp only [noDraw, Bool.not_eq_true'] at hnd
    subst hnd
    simp only [gexec] at h
    split at h
    · rename_i g1 h1
      simp at h; obtain ⟨rfl, rfl⟩ := h
      refine wpIn_region (gstms_sound (tab_callOk hT hs) hJ hR hc.1 h1 hr hks hG fun a' w' S' β' X' hr' hks' hG' => ?_)
      exact hK a' w' S' β' X' ⟨hr'.size, hr'.defers, fun t v hv => hr'.env t v (get_prune hv), hr'.hp, hr'.bound, hr'.lab, hr'.nxt, hr'.prot⟩ hks' hG'
    · simp at h

theorem rel_moreS {S S' : Nat → Prop} {w : World} {β : Beta} {st : St} {a : Act} (hr : Rel Γ N S β st a w) (h1 : ∀ b, S b → S' b) (h2 : ∀ b, Own β st.hp b → ¬ S' b) (h3 : ∀ b, S' b → b < w.heap.size) : Rel Γ N S' β st a w := by
  have kid : ∀ m, Keeps w w β β st.hp st.hp m := fun m blk hb => ⟨rfl, ⟨blk, hb, Nat.le_refl _⟩, fun _ _ _ _ _ h => h⟩
  refine ⟨hr.size, hr.defers, fun t v hv => ⟨(hr.env t v hv).1, (hr.env t v hv).2.mono h1 (fun _ _ => rfl) fun m _ => kid m⟩, ⟨fun m blk hb => ?_, hr.hp.inj, Γ.mono _ _ _ _ hr.hp.glob h1 (fun _ _ => rfl)⟩, h3, hr.lab, hr.nxt, hr.prot⟩
  rcases hr.hp.blk m blk hb with q | ⟨b, base, q1, q2, q3⟩
  · exact .inl q
  · exact .inr ⟨b, base, q1, h2 b ⟨m, blk, base, hb, q1⟩, q3.mono h1 (fun _ _ => rfl) rfl fun m _ => kid m⟩
theorem ext_moreS {prot : List Nat} {S S1 S2 : Nat → Prop} {w w' : World} {β β' : Beta} {hp hp' : Heap} (he : Ext prot S β hp w S1 β' hp' w') (h1 : ∀ b, S1 b → S2 b) (h2 : ∀ b, S2 b → S1 b ∨ S b ∨ w.heap.size ≤ b) : Ext prot S β hp w S2 β' hp' w' :=
  ⟨he.os, he.tape, he.output, he.size, he.same, fun b hb => h1 b (he.sub b hb), fun b hb => by
    rcases h2 b hb with q | q | q
    · exact he.new b q
    · exact .inl q
    · exact .inr (.inr q), he.own, he.prot⟩

def stOf : Ex → LoopState
  | .normal => .ready
  | _ => .done
def jmpOf : Ex → Option Code
  | .normal => none
  | ex => some (exCode ex)

section
variable {S : Nat → Prop} {β : Beta} {st st' : St} {a : Act} {w w' : World}
def resSem (tmps : Array Value) : ResultVar → Sem Value
  | .tmp t => pure (tmps.getD t undef)
  | .cell x t => do loadVar t (← asAddr (tmps.getD x undef))

theorem res_one (hr : Rel Γ N S β st a w) {r : VRes} {q : ResultVar} (hc : chkRes P [r] [q] = true) {v : F} (h : loadRes st r = some v) :
    ∃ u, (resSem a.tmps q).run P w = .ok u w ∧ RF S w β st.hp v u := by
  cases r with
  | tmp t =>
    cases q <;> simp [chkRes] at hc
    subst hc
    exact ⟨_, by simp [resSem], (hr.env t v h).2⟩
  | cell t n =>
    cases q <;> simp [chkRes] at hc
    rename_i u ty
    obtain ⟨rfl, hc⟩ := hc
    simp only [loadRes] at h
    split at h
    · rename_i l off hv
      split at h
      · rename_i blk hb
        obtain ⟨blk', b, base, hb', hβ, he⟩ := (hr.env t _ hv).2.inv_ref
        rw [hb] at hb'; simp at hb'; subst hb'
        obtain ⟨vs, hl, hcell, hrel⟩ := (hr.blkRel hb hβ).2.vals
        have hx : (asAddr (a.tmps.getD t undef)).run P w = .ok ⟨b, base + off, none⟩ w := by rw [he]; rfl
        cases n with
        | none =>
          obtain ⟨u, hu, hru⟩ := atF_one hl hrel (blkAt_F h)
          exact ⟨u, by simp only [resSem, Sem.run_bind, hx, Result.andThen_ok]; exact run_loadVar_one hc (hcell _ _ hu), hru⟩
        | some n =>
          obtain ⟨hn, hru⟩ := atF_agg hl hrel (blkAt_F h)
          have := run_loadVar_agg (P := P) (w := w) (b := b) (o := base + off) hc hn (fun j v hj => by
            rw [List.getElem?_take] at hj
            split at hj
            · rw [List.getElem?_drop] at hj; have := hcell _ _ hj; rw [← Nat.add_assoc] at this; exact this
            · simp at hj)
          exact ⟨_, by simp only [resSem, Sem.run_bind, hx, Result.andThen_ok]; exact this, hru⟩
      · simp at h
    · simp at h

theorem res_all (hr : Rel Γ N S β st a w) : ∀ {rs : List VRes} {qs : List ResultVar} {vs : List F}, chkRes P rs qs = true → loadResL st rs = some vs →
    ∃ us, (qs.mapM (resSem a.tmps)).run P w = .ok us w ∧ us.length = vs.length ∧ ∀ (j : Nat) (x) (u), vs[j]? = some x → us[j]? = some u → RF S w β st.hp x u := by
  intro rs
  induction rs with
  | nil =>
    intro qs vs hc h
    cases qs with
    | nil => simp [loadResL] at h; subst h; exact ⟨[], by simp, rfl, fun j x u h => by simp at h⟩
    | cons q qs => simp [chkRes] at hc
  | cons r rs ih =>
    intro qs vs hc h
    cases qs with
    | nil => cases r <;> simp [chkRes] at hc
    | cons q qs =>
      have hc2 : chkRes P [r] [q] = true ∧ chkRes P rs qs = true := by
        cases r <;> cases q <;> simp [chkRes] at hc ⊢
        · exact hc
        · exact hc
      simp only [loadResL] at h
      split at h
      · rename_i v l h1 h2
        simp at h; subst h
        obtain ⟨u, hu, hru⟩ := res_one hr hc2.1 h1
        obtain ⟨us, hus, hl, hrel⟩ := ih hc2.2 h2
        refine ⟨u :: us, by simp [List.mapM_cons, hu, hus], by simp [hl], fun j x y hx hy => ?_⟩
        cases j with
        | zero => simp at hx hy; subst hx; subst hy; exact hru
        | succ j => exact hrel j x y (by simpa using hx) (by simpa using hy)
      · simp at h

theorem results_rel (hr : Rel Γ N S β st a w) {fn : Func} {rs : List VRes} {vs : List F} (hc : chkRes P rs fn.results.toList = true) (h : loadResL st rs = some vs) :
    ∃ u, (results fn a.tmps).run P w = .ok u w ∧ RF S w β st.hp (retVal vs) u := by
  obtain ⟨us, hus, hl, hrel⟩ := res_all hr hc h
  have e1 : (results fn a.tmps).run P w = .ok (if h : us.toArray.size = 1 then us.toArray[0] else .tuple us.toArray) w := by
    have : results fn a.tmps = (fn.results.mapM (resSem a.tmps) >>= fun vs => pure (if h : vs.size = 1 then vs[0] else .tuple vs)) := by
      unfold results
      congr 1
    rw [this, Array.mapM_eq_mapM_toList]
    simp [hus]
  refine ⟨_, e1, ?_⟩
  cases vs with
  | nil =>
    have : us = [] := List.eq_nil_of_length_eq_zero (by simpa using hl)
    subst this
    simp only [retVal]
    simpa using mkTup_rel (S := S) (w := w) (β := β) (hp := st.hp) (cs := []) (vs := #[]) rfl (fun j x v h => by simp at h)
  | cons x xs =>
    cases xs with
    | nil =>
      obtain ⟨u, rfl⟩ : ∃ u, us = [u] := by
        cases us with
        | nil => simp at hl
        | cons u r => cases r with
          | nil => exact ⟨u, rfl⟩
          | cons => simp at hl
      simp only [retVal]
      simpa using hrel 0 x u (by simp) (by simp)
    | cons y ys =>
      have h1 : ¬ us.toArray.size = 1 := by simp [hl]
      rw [dif_neg h1]
      simp only [retVal]
      exact mkTup_rel (by simp [hl]) fun j p q hp hq => hrel j p q hp (by simpa using hq)

end

theorem range_sound (hT : TabOk Γ P T) {n : Nat} (he : ExecOk Γ P T n) (hGe : GOk Γ P T n) {m N B : Nat} {g : Opd} {g' : Operand} {ps : Array Tmp} {asg body : VC} {asg' body' : Code} {st st' : St} {ex : Ex} {S : Nat → Prop} {β : Beta} {a : Act} {ds : List Deferred} {w : World} {Q : Exit → Act → World → Prop}
    (hg : chkOpd g g' = true) (hps : ∀ p, p ∈ ps.toList → p < N) (hca : chkC P T N true asg asg' = true) (hcb : chkC P T N true body body' = true) (h : exec T (n + 1) (.rangef g ps.toList asg body) st = some (ex, st')) (hr : Rel Γ N S β st a w) (hm : Marks B ds w)
    (hK : ∀ a' w' S' β' ds', Rel Γ N S' β' st' a' w' → Ext st.prot S β st.hp w S' β' st'.hp w' → st'.prot = st.prot → Marks B ds' w' → Q (toExit ex) (withD a' ds') w') :
    (Code.rangeFunc g' ps asg' body').wpIn (Gf none) m P Q (withD a ds) w := by
  simp only [exec] at h
  split at h
  case h_2 => simp at h
  rename_i f caps hv
  split at h
  case h_2 => simp at h
  rename_i vf hvf
  split at h
  case isFalse => simp at h
  rename_i hcond
  simp only [Bool.and_eq_true, beq_iff_eq, List.isEmpty_iff] at hcond
  obtain ⟨⟨⟨hgen, hpar⟩, hres0⟩, hfin0⟩ := hcond
  obtain ⟨ex1, gs, hge, hexne, hexg, hst'⟩ : ∃ ex1 gs, gexec T n (fun x s => oneRound (fun c s => exec T n c s) ps.toList asg body x s) vf.body { st := { env := enterEnv 1 (caps.map .i), hp := [], nxt := 1000, prot := [] }, ks := [0], ex := .normal, sc := st } = some (ex1, gs) ∧ (ex1 = .normal ∨ ex1 = .ret) ∧ gs.ex = ex ∧ gs.sc = st' := by
    split at h
    · simp at h
    · rename_i ex1 gs hne hq
      simp at h
      refine ⟨ex1, gs, hq, ?_, h.1, h.2⟩
      cases ex1 with
      | normal => exact .inl rfl
      | ret => exact .inr rfl
      | exit id => exact absurd rfl (hne id)
    · simp at h
  have hck := hT.fn f vf hvf
  have hcg := hT.gen f vf hvf hgen
  simp only [chkFun, Bool.and_eq_true] at hck
  obtain ⟨⟨hcf, _⟩, hck⟩ := hck
  unfold chkGen at hcg
  split at hck
  case h_2 => simp at hck
  rename_i fni hfni
  rw [hfni] at hcg
  simp only [Bool.and_eq_true, decide_eq_true_eq] at hck
  obtain ⟨⟨hbodyi, hresi⟩, hpari⟩ := hck
  split at hbodyi
  case h_2 => simp at hbodyi
  rename_i ci hcbi
  simp only [hcbi] at hcg
  obtain ⟨cv, hev, hcs, hcr⟩ : ∃ cv, a.eval g' = .func (.func f) #[] cv ∧ cv.size = caps.length ∧ ∀ (j : Nat) (x) (u), caps[j]? = some x → cv[j]? = some u → RI S w x u := by
    have hrel := (hr.val hg hv).inv_i
    generalize a.eval g' = q at hrel
    cases hrel with
    | fn _ _ vs hs hcap => exact ⟨vs, rfl, hs, hcap⟩
  refine wpIn_rangeFunc ?_
  intro fn hfn
  obtain ⟨rec, hrec⟩ : ∃ rec : LoopState → Option Code → Loop, rec = fun st pe => { state := st, pending := pe, fn, tmps := a.tmps, params := ps, assign := asg', body := body', defers := w.heap.size } := ⟨_, rfl⟩
  obtain ⟨W1, hW1⟩ : ∃ W1, (w.alloc (.deferred (some []))).alloc (.loop (rec .ready none)) = W1 := ⟨_, rfl⟩
  obtain ⟨l, hl⟩ : ∃ l, l = w.heap.size + 1 := ⟨_, rfl⟩
  obtain ⟨D, hD⟩ : ∃ D, D = w.heap.size := ⟨_, rfl⟩
  have hg1 : Grown w W1 := by
    rw [← hW1]
    exact ⟨rfl, rfl, rfl, by simp; omega, fun b hb => (Below.heap_alloc _ _ b (by simp; omega)).trans (Below.heap_alloc _ _ b hb)⟩
  have hL1 : W1.heap[l]? = some (.loop (rec .ready none)) := by
    rw [← hW1, hl]; have := World.alloc_heap_new (w.alloc (.deferred (some []))) (.loop (rec .ready none)); rwa [World.size_alloc] at this
  have hD1 : W1.heap[D]? = some (.deferred (some [])) := by
    rw [← hW1, hD]; exact (Below.heap_alloc _ _ _ (by simp)).trans (World.alloc_heap_new w _)
  have hsz1 : W1.heap.size = w.heap.size + 2 := by rw [← hW1]; simp
  refine ⟨l, [mark D], W1, { target := .fn (.func f) cv, args := #[.func (.yield l) #[] #[]] }, W1, f, #[.func (.yield l) #[] #[]] ++ cv, W1, ?_, ?_, fun _ _ => trivial, ?_, fun hh => by simp [Gf, Fence.wide] at hh, ?_⟩
  · rw [← hW1, hrec, hl, hD]; exact run_enterLoop_outer _ _ _ _ _
  · have : (withD a ds).eval g' = .func (.func f) #[] cv := by rw [withD_eval]; exact hev
    simp only [resolve, rangeCall, this]
    simp [go_sem]
  · simp [invoke, go_sem, run_callFunc hcf]
  obtain ⟨J, hJ⟩ : ∃ J : JT, J = fun ex1 stk X W => ∃ S' β', Rel Γ N S' β' stk a W ∧ Ext st.prot S β st.hp w S' β' stk.hp W ∧ stk.prot = st.prot ∧
      W.heap[l]? = some (.loop (rec (stOf ex1) (jmpOf ex1))) ∧ W.heap[D]? = some (.deferred (some [])) ∧ ¬ S' l ∧ ¬ S' D ∧ X = fun b => Own β' stk.hp b ∨ b = l ∨ b = D := ⟨_, rfl⟩
  have hJg : ∀ ex sc X W W', J ex sc X W → Grown W W' → J ex sc X W' := by
    intro ex sc X W W' hs hgr
    subst hJ
    obtain ⟨S', β', h3, h4, h5, h6, h7, h8, h9, h10⟩ := hs
    obtain ⟨k1, k2⟩ := grown_rel h3 hgr
    exact ⟨S', β', k1, h4.trans (k2 _), h5, (hgr.same _ (Array.getElem?_eq_some_iff.1 h6).1).trans h6, (hgr.same _ (Array.getElem?_eq_some_iff.1 h7).1).trans h7, h8, h9, h10⟩
  have hR : RoundOk P (fun x s => oneRound (fun c s => exec T n c s) ps.toList asg body x s) J S w.heap.size l := by
    intro stk X W Si x vs ex1 st3 hs hround hvs hvr hSi mm
    rw [hJ] at hs
    obtain ⟨S1, β1, h3, h4, h5, h6, h7, h8, h9, rfl⟩ := hs
    simp only [oneRound] at hround
    split at hround
    · simp at hround
    rename_i e hput
    split at hround
    case h_2 => simp at hround
    rename_i st1 hasg
    split at hround
    case h_2 => simp at hround
    rename_i ex2 st2 hbody
    split at hround
    case h_2 => simp at hround
    rename_i st4 hcarry
    simp only [Option.some.injEq, Prod.mk.injEq] at hround
    obtain ⟨rfl, rfl⟩ := hround
    have hlW := (Array.getElem?_eq_some_iff.1 h6).1
    have hDW := (Array.getElem?_eq_some_iff.1 h7).1
    -- the iterator's blocks join
    obtain ⟨S1', hS1'⟩ : ∃ S1' : Nat → Prop, S1' = fun b => S1 b ∨ Si b := ⟨_, rfl⟩
    have h3 : Rel Γ N S1' β1 stk a W := rel_moreS h3 (fun b hb => by rw [hS1']; exact .inl hb) (fun b ho hb => by
      rw [hS1'] at hb
      rcases hb with hb | hb
      · exact (own_isC h3.hp ho).2 hb
      · exact (hSi b hb).2.2 (.inl ho)) (fun b hb => by
      rw [hS1'] at hb
      rcases hb with hb | hb
      · exact h3.bound b hb
      · exact (hSi b hb).2.1)
    have h4 : Ext st.prot S β st.hp w S1' β1 stk.hp W := ext_moreS h4 (fun b hb => by rw [hS1']; exact .inl hb) (fun b hb => by
      rw [hS1'] at hb
      rcases hb with hb | hb
      · exact .inl hb
      · exact .inr (hSi b hb).1)
    have h8 : ¬ S1' l := fun hb => by
      rw [hS1'] at hb
      rcases hb with hb | hb
      · exact h8 hb
      · exact (hSi l hb).2.2 (.inr (.inl rfl))
    have h9 : ¬ S1' D := fun hb => by
      rw [hS1'] at hb
      rcases hb with hb | hb
      · exact h9 hb
      · exact (hSi D hb).2.2 (.inr (.inr rfl))
    have hvr : ∀ (j : Nat) (y) (v), x[j]? = some y → vs[j]? = some v → RI S1' W y v := fun j y v q1 q2 => (hvr j y v q1 q2).mono (fun b hb => by rw [hS1']; exact .inr hb) fun _ _ => rfl
    clear hS1'
    have hlen := putL_len hput
    have hy := run_yield (P := P) (args := vs) h6 (by rw [hrec]; rw [hvs]; simpa using hlen)
    rw [hrec] at hy
    refine ⟨fn, _, asg', body', hy, roundIn_of_wpIn trivial ?_⟩
    have hr0 : Rel Γ N S1' β1 { stk with env := e, prot := stk.hp.map (·.1) } { tmps := (ps.toList.zip vs.toList).foldl (fun t (p, v) => t.setIfInBounds p v) a.tmps, defers := [] } W := by
      have := putL_rel (vs := vs.toList) h3 hput hps (by simpa using hvs) (fun j y v q1 q2 => hvr j y v q1 (by simpa using q2))
      exact ⟨this.size, rfl, this.env, this.hp, this.bound, this.lab, this.nxt, fun k hk => by obtain ⟨b, hb⟩ := dom_hget hk; exact this.lab k b hb⟩
    have htm : (ps.zip vs).foldl (fun tmps (t, a) => tmps.setIfInBounds t a) a.tmps = (ps.toList.zip vs.toList).foldl (fun t (p, v) => t.setIfInBounds p v) a.tmps := by
      rw [← Array.foldl_toList]
      simp
    show asg'.wpIn (Gf (some l)) _ P _ { tmps := (ps.zip vs).foldl (fun tmps (t, a) => tmps.setIfInBounds t a) a.tmps, defers := [] } W
    rw [htm]
    refine he (some l) _ N 0 asg asg' _ st1 .normal S1' β1 _ [] W _ hca hasg hr0 (Marks.nil (Nat.zero_le _)) fun a1 w1 S2 β2 ds1 hr1 hext1 hp1 hm1 => ?_
    have hl1 : w1.heap[l]? = some (.loop (rec .ready none)) := (hext1.same l hlW fun ho => not_isC_loop h6 (own_isC h3.hp ho).1).trans h6
    have nS2 : ∀ k, k < W.heap.size → ¬ S1' k → ¬ IsC W k → ¬ S2 k := fun k hk hS hc hS2 => by
      rcases hext1.new k hS2 with q | q | q
      · exact hS q
      · exact hc (own_isC h3.hp q).1
      · omega
    have hS2l := nS2 l hlW h8 (not_isC_loop h6)
    obtain ⟨o, ho⟩ : ∃ o : Obj, o = .loop (rec .busy none) := ⟨_, rfl⟩
    have hbr : (Instr.beginRound l).run P w1 = .ok () (w1.putObj l o) := by
      have := run_beginRound (P := P) hl1 (by rw [hrec])
      rw [this, ho, hrec]
    refine ⟨_, hbr, ?_⟩
    have hm2 : Marks 0 ds1 (w1.putObj l o) := by
      obtain ⟨_, Ds, q1, q2, q3⟩ := hm1
      refine ⟨Nat.zero_le _, Ds, q1, q2, fun D' hD' => ⟨Nat.zero_le _, ?_⟩⟩
      rw [World.putObj_heap_other fun e => ?_]
      · exact (q3 D' hD').2
      · have := (q3 D' hD').2; rw [e, hl1] at this; simp at this
    refine he (some l) _ N 0 body body' st1 st2 ex2 S2 β2 a1 ds1 _ _ hcb hbody (put_rel hr1 o (not_isC_loop hl1) hS2l) hm2 fun a2 w3 S3 β3 ds2 hr2 hext2 hp2 hm3 => ?_
    -- the whole round, between worlds that bear the busy record
    have hWn := put_rel h3 o (not_isC_loop h6) h8
    have hno : ∀ (w' : World), ¬ IsC (w'.putObj l o) l := fun w' ⟨c, e', fr, hc⟩ => by
      by_cases hlt : l < w'.heap.size
      · rw [World.putObj_heap_same hlt, ho] at hc; simp at hc
      · have := (Array.getElem?_eq_some_iff.1 hc).1; simp at this; omega
    have hround : Ext (stk.hp.map (·.1)) S1' β1 stk.hp (W.putObj l o) S3 β3 st2.hp w3 := by
      refine Ext.trans (ext_norm hext1 o (not_isC_loop hl1) hlW fun b e' n hs => ?_) (by have := hext2; rw [hp1] at this; exact this)
      have hne : b ≠ l := fun e'' => by
        subst e''
        simp only [World.shape?] at hs
        split at hs
        · rename_i c e fr hh; exact hno _ ⟨c, e, fr, hh⟩
        · simp at hs
      simp only [World.shape?] at hs ⊢
      rw [World.putObj_heap_other hne] at hs; exact hs
    obtain ⟨c1, c2, c3⟩ := carry_rel hWn hr2 hround hcarry
    have hfull := (ext_put h4 o (not_isC_loop h6) (by omega)).trans (h5 ▸ c2)
    have hsW : (W.putObj l o).heap.size = W.heap.size := by simp
    have hl3 : w3.heap[l]? = some (.loop (rec .busy none)) := by
      rw [hround.same l (by rw [hsW]; exact hlW) fun ho' => hno W (own_isC hWn.hp ho').1, World.putObj_heap_same hlW, ho]
    have hDl : D ≠ l := by omega
    have h7' : (W.putObj l o).heap[D]? = some (.deferred (some [])) := (World.putObj_heap_other hDl).trans h7
    have hd3 : w3.heap[D]? = some (.deferred (some [])) := by
      rw [hround.same D (by rw [hsW]; exact hDW) fun ho' => not_isC_def h7' (own_isC hWn.hp ho').1]
      exact h7'
    have nS3 : ∀ k, k < W.heap.size → ¬ S1' k → ¬ IsC (W.putObj l o) k → ¬ S3 k := fun k hk hS hc hS3 => by
      rcases hround.new k hS3 with q | q | q
      · exact hS q
      · exact hc (own_isC hWn.hp q).1
      · simp at q; omega
    have hS3l := nS3 l hlW h8 (hno W)
    have hS3D := nS3 D hDW h9 (not_isC_def h7')
    have hlw3 := (Array.getElem?_eq_some_iff.1 hl3).1
    have hdw3 := (Array.getElem?_eq_some_iff.1 hd3).1
    have fin : ∀ (jump : Option Code), (Instr.endRound l jump).run P w3 = .ok (.bool jump.isNone) (w3.putObj l (.loop (rec (if jump.isNone then .ready else .done) jump))) := fun jump => by
      have := run_endRound (P := P) jump hl3
      rw [hrec] at this ⊢
      exact this
    have done : ∃ v w', (Instr.endRound l (jmpOf ex2)).run P w3 = .ok v w' ∧ (Ending.returned v = .returned (.bool (exN ex2)) ∧ ∃ X', J ex2 st4 X' w' ∧ W.heap.size ≤ w'.heap.size ∧ (∀ b, b < W.heap.size → ¬ (Own β1 stk.hp b ∨ b = l ∨ b = D) → w'.heap[b]? = W.heap[b]?) ∧ (∀ b, X' b → (Own β1 stk.hp b ∨ b = l ∨ b = D) ∨ W.heap.size ≤ b) ∧ ∀ b, X' b → b < w'.heap.size) := by
      refine ⟨_, _, fin (jmpOf ex2), by cases ex2 <;> rfl, fun b => Own β3 st4.hp b ∨ b = l ∨ b = D, ?_, ?_, fun b hb hX => ?_, fun b hX => ?_, fun b hX => ?_⟩
      · rw [hJ]
        refine ⟨S3, β3, put_rel c1 _ (not_isC_loop hl3) hS3l, ext_put hfull _ (not_isC_loop hl3) (by omega), c3.trans h5, ?_, (World.putObj_heap_other hDl).trans hd3, hS3l, hS3D, rfl⟩
        rw [World.putObj_heap_same hlw3]
        cases ex2 <;> rfl
      · have := hround.size
        simp at this ⊢
        omega
      · rw [World.putObj_heap_other fun e => hX (.inr (.inl e))]
        rw [hround.same b (by rw [hsW]; exact hb) fun ho => hX (.inl ho)]
        exact World.putObj_heap_other fun e => hX (.inr (.inl e))
      · rcases hX with hX | hX
        · rcases c2.own b hX with q | q
          · exact .inl (.inl q)
          · exact .inr (by simpa using q)
        · exact .inl (.inr hX)
      · simp
        rcases hX with hX | rfl | rfl
        · exact (own_isC c1.hp hX).1.lt
        · exact hlw3
        · exact hdw3
    cases ex2 with
    | normal => exact done
    | ret => exact done
    | exit id => exact done
  have hcall : CallsIn (Gf none) (m - 1) P f (#[.func (.yield l) #[] #[]] ++ cv) W1 fun e W => (∃ v, e = .returned v) ∧ ∃ X, J gs.ex gs.sc X W := by
    refine callsIn_of_wp hfni hcbi trivial ?_
    have hr0 : Rel Γ fni.ntmps S (fun _ => none) { env := enterEnv 1 (caps.map .i), hp := [], nxt := 1000, prot := [] } { tmps := #[.func (.yield l) #[] #[]] ++ cv ++ Array.replicate (fni.ntmps - (#[Value.func (.yield l) #[] #[]] ++ cv).size) undef, defers := [] } W1 := by
      refine ⟨by simp; omega, rfl, fun t v hv => ?_, ⟨fun l blk hb => by simp [hget] at hb, fun l l' blk blk' b base base' hb => by simp [hget] at hb, Γ.mono _ _ _ _ hr.hp.glob (fun _ h => h) fun b hb => hg1.same b (hr.bound b hb)⟩, fun b hb => Nat.lt_of_lt_of_le (hr.bound b hb) hg1.size, fun l blk hb => by simp [hget] at hb, by simp, fun l hl => by simp at hl⟩
      obtain ⟨q1, q2⟩ := get_enter hv
      simp only [List.getElem?_map] at q2
      cases hq : caps[t - 1]? with
      | none => simp [hq] at q2
      | some x =>
        simp [hq] at q2; subst q2
        have hlt : t - 1 < caps.length := (List.getElem?_eq_some_iff.1 hq).1
        have hlt' : t - 1 < cv.size := by omega
        refine ⟨by omega, .i _ _ ?_⟩
        have hget : (#[Value.func (.yield l) #[] #[]] ++ cv ++ Array.replicate (fni.ntmps - (#[Value.func (.yield l) #[] #[]] ++ cv).size) undef).getD t undef = cv[t - 1] := by
          have h1 : t < (#[Value.func (.yield l) #[] #[]] ++ cv).size := by simp; omega
          rw [Array.getD, dif_pos (by simp; omega)]
          simp only [Array.getInternal_eq_getElem]
          rw [Array.getElem_append_left h1, Array.getElem_append_right (by simp; omega)]
          simp
        rw [hget]
        exact (hcr (t - 1) x cv[t - 1] hq (by simp [hlt'])).mono (fun _ h => h) fun b hb => hg1.same b (hr.bound b hb)
    have hno : ∀ b, ¬ Own (fun _ => none) ([] : Heap) b := fun b ⟨l, blk, base, h1, _⟩ => by simp [hget] at h1
    refine hGe _ J S w.heap.size l hJg hR _ fni.ntmps vf.body ci _ gs ex1 S (fun _ => none) _ W1 (fun b => Own β st.hp b ∨ b = l ∨ b = D) _ hbodyi hcg hge hr0 (fun k hk => ?_) ⟨⟨W1, ?_, Grown.refl _, fun b hb => absurd hb (hno b), fun b hb => ?_, hg1.size⟩, fun b hb hX => ?_, fun b hb => .inl hb⟩ fun a' w' S' β' X' hr' _ hG' => ?_
    · simp at hk; subst hk
      have h1 : 0 < (#[Value.func (.yield l) #[] #[]] ++ cv).size := by simp; omega
      rw [Array.getD, dif_pos (by simp; omega)]
      simp only [Array.getInternal_eq_getElem]
      rw [Array.getElem_append_left h1, Array.getElem_append_left (by simp)]
      rfl
    · rw [hJ]
      obtain ⟨k1, k2⟩ := grown_rel hr hg1
      exact ⟨S, β, k1, k2 _, rfl, hL1, hD1, fun hS => by have := hr.bound _ hS; omega, fun hS => by have := hr.bound _ hS; omega, rfl⟩
    · rcases hb with hb | rfl | rfl
      · exact Nat.lt_of_lt_of_le (own_isC hr.hp hb).1.lt hg1.size
      · omega
      · omega
    · have := hr.bound b hb
      rcases hX with hX | rfl | rfl
      · exact (own_isC hr.hp hX).2 hb
      · omega
      · omega
    · obtain ⟨⟨W0, k1, k2, _⟩, _, _⟩ := hG'
      have hfin : bodyPost P fni (fun e W => (∃ v, e = .returned v) ∧ ∃ X, J gs.ex gs.sc X W) .ret a' w' := by
        obtain ⟨u, hu, _⟩ := results_rel hr' (rs := []) (vs := []) (by rw [← hres0]; exact hresi) rfl
        exact ⟨hr'.defers, u, hu, ⟨u, rfl⟩, X', hJg _ _ _ _ _ k1 k2⟩
      rcases hexne with rfl | rfl
      · exact hfin
      · exact hfin
  refine hcall.mono ?_
  have hmarks : ∀ {S' : Nat → Prop} {β' : Beta} {hp' : Heap} {W : World}, Ext st.prot S β st.hp w S' β' hp' W → W.heap[D]? = some (.deferred (some [])) → Marks B ([mark D] ++ ds) W := fun hext hd => by
    obtain ⟨q0, Ds, q1, q2, q3⟩ := hm.ext hr.hp hext
    obtain ⟨p0, Ds0, _, p2, p3⟩ := hm
    have hDs : Ds0 = Ds := by
      have : Ds0.map mark = Ds.map mark := by rw [← p2, ← q2]
      exact (List.map_inj_right (fun x y h => by simpa [mark] using h)).1 this
    subst hDs
    refine ⟨q0, D :: Ds0, List.nodup_cons.2 ⟨fun hin => ?_, q1⟩, by simp [q2], fun D' hD' => ?_⟩
    · have := (Array.getElem?_eq_some_iff.1 (p3 D hin).2).1; omega
    · rcases List.mem_cons.1 hD' with rfl | hD'
      · exact ⟨by rw [hD]; exact p0, hd⟩
      · exact q3 D' hD'
  rintro e W ⟨⟨v, rfl⟩, X, hs⟩
  rw [hJ, hexg, hst'] at hs
  obtain ⟨S1, β1, h3, h4, h5, h6, h7, h8, h9, _⟩ := hs
  refine ⟨jmpOf ex, _, by have := run_endLoop (P := P) h6 (by rw [hrec]; cases ex <;> simp [stOf]); rw [hrec] at this; exact this, ?_⟩
  have hd' := fun o' => (World.putObj_heap_other (w := W) (r := l) (o := o') (show D ≠ l by omega)).trans h7
  have hdo := fun o' => hK a _ S1 β1 _ (put_rel h3 o' (not_isC_loop h6) h8) (ext_put h4 o' (not_isC_loop h6) (by omega)) h5 (hmarks (ext_put h4 o' (not_isC_loop h6) (by omega)) (hd' _))
  cases ex with
  | normal => exact hdo _
  | ret => exact wpIn_ret (hdo _)
  | exit id => exact wpIn_exit (hdo _)

theorem exec_step (hT : TabOk Γ P T) {n : Nat} (hs : SoundCall Γ P (fun g args h => call T n g args h)) (he : ExecOk Γ P T n) (hGe : GOk Γ P T n) (hl : LoopOk Γ P T (n + 1)) : ExecOk Γ P T (n + 1) := by
  intro ρ m N B vc c st st' ex S β a ds w Q hc h hr hm hK
  cases vc with
  | die => simp [exec] at h
  | skip =>
    cases c <;> simp [chkC] at hc
    simp [exec] at h; obtain ⟨rfl, rfl⟩ := h
    exact wpIn_skip (hK a w S β ds hr (Ext.refl ..) rfl hm)
  | ret =>
    cases c <;> simp [chkC] at hc
    simp [exec] at h; obtain ⟨rfl, rfl⟩ := h
    exact wpIn_ret (hK a w S β ds hr (Ext.refl ..) rfl hm)
  | exit id =>
    cases c <;> simp [chkC] at hc
    subst hc
    simp [exec] at h; obtain ⟨rfl, rfl⟩ := h
    exact wpIn_exit (hK a w S β ds hr (Ext.refl ..) rfl hm)
  | rangef g ps asg b =>
    cases c <;> simp [chkC] at hc
    obtain ⟨⟨⟨⟨⟨q1, q2⟩, q3⟩, q4⟩, q5⟩, q6⟩ := hc
    cases ρ with
    | some l => simp at q1
    | none =>
    subst q3
    exact range_sound hT he hGe q2 (by simpa using q4) q5 q6 h hr hm hK
  | seq x y =>
    cases c <;> simp [chkC] at hc
    simp only [exec] at h
    split at h
    · rename_i st1 h1
      refine wpIn_seq (he ρ m N B x _ st st1 .normal S β a ds w _ hc.1 h1 hr hm fun a' w' S' β' ds' hr' hext hp hm' => ?_)
      exact he ρ m N B y _ st1 st' ex S' β' a' ds' w' Q hc.2 h hr' hm' fun a'' w'' S'' β'' ds'' hr'' hext' hp' hm'' => hK a'' w'' S'' β'' ds'' hr'' (hext.trans (hp ▸ hext')) (hp'.trans hp) hm''
    · rename_i r hn
      refine wpIn_seq (he ρ m N B x _ st st' ex S β a ds w _ hc.1 h hr hm fun a' w' S' β' ds' hr' hext hp hm' => ?_)
      have := hK a' w' S' β' ds' hr' hext hp hm'
      cases ex with
      | normal => exact absurd h (by simpa using hn st')
      | ret => exact this
      | exit id => exact this
  | cond o x y =>
    cases c <;> simp [chkC] at hc
    simp only [exec] at h
    split at h
    · rename_i t ht
      have hv := (hr.val hc.1.1 ht).inv_i.inv_bool
      cases t with
      | true => exact wpIn_cond_true (by rw [withD_eval]; exact hv) (he ρ m N B x _ st st' ex S β a ds w Q hc.1.2 (by simpa using h) hr hm hK)
      | false => exact wpIn_cond_false (by rw [withD_eval]; exact hv) (he ρ m N B y _ st st' ex S β a ds w Q hc.2 (by simpa using h) hr hm hK)
    · simp at h
  | block id b =>
    cases c <;> simp [chkC] at hc
    obtain ⟨rfl, hc⟩ := hc
    simp only [exec] at h
    refine wpIn_block ?_
    split at h
    · rename_i id' st1 h1
      split at h
      · rename_i hid
        simp at h; obtain ⟨rfl, rfl⟩ := h
        refine he ρ m N B b _ st st1 (.exit id') S β a ds w _ hc h1 hr hm fun a' w' S' β' ds' hr' hext hp hm' => ?_
        have := hK a' w' S' β' ds' hr' hext hp hm'
        simpa [Exit.inBlock, toExit, hid] using this
      · rename_i hid
        simp at h; obtain ⟨rfl, rfl⟩ := h
        refine he ρ m N B b _ st st1 (.exit id') S β a ds w _ hc h1 hr hm fun a' w' S' β' ds' hr' hext hp hm' => ?_
        have := hK a' w' S' β' ds' hr' hext hp hm'
        simpa [Exit.inBlock, toExit, hid] using this
    · rename_i r hn
      refine he ρ m N B b _ st st' ex S β a ds w _ hc h hr hm fun a' w' S' β' ds' hr' hext hp hm' => ?_
      have := hK a' w' S' β' ds' hr' hext hp hm'
      cases ex with
      | normal => exact this
      | ret => exact this
      | exit id => exact absurd h (by simpa using hn id st')
  | loop b =>
    cases c <;> simp [chkC] at hc
    exact wpIn_loop_rounds (n + 1) (hl ρ m N B b _ st st' ex S β a ds w Q hc h hr hm hK)
  | region ss keep =>
    cases c <;> simp [chkC] at hc
    rename_i id ops d
    simp only [exec] at h
    split at h
    · rename_i st1 h1
      simp at h; obtain ⟨rfl, rfl⟩ := h
      have hK' : ∀ a' w' S' β', Rel Γ N S' β' st1 a' w' → Ext st.prot S β st.hp w S' β' st1.hp w' → st1.prot = st.prot → Q .normal (withD a' ds) w' := fun a' w' S' β' hr' hext hp =>
        hK a' w' S' β' ds ⟨hr'.size, hr'.defers, fun t v hv => hr'.env t v (get_prune hv), hr'.hp, hr'.bound, hr'.lab, hr'.nxt, hr'.prot⟩ hext hp (hm.ext hr.hp hext)
      cases d with
      | false => exact region_text (tab_callOk hT hs) hc.1 hr h1 hK'
      | true => exact region_any hT.mixed (tab_callOk hT hs) hc.1 (by simpa using hc.2) hr h1 hK'
    · simp at h
end
end Go.Vm

/- Functions: what the machine's call gives, the program's call gives. -/
set_option linter.unusedSimpArgs false
set_option linter.unusedVariables false
namespace Go.Vm
variable {Γ : GlobP}

section
variable {P : Program} {N : Nat} {S : Nat → Prop} {β : Beta} {st st' : St} {a : Act} {w w' : World} {T : Tab}

theorem prim_call {g : FuncId} {p : List I → Option I} (hp : PrimSound Γ P g p) {args : List F} {h h' : Heap} {x x' : Nat} {r : F} (hc : primCall p args (h, x) = some (r, (h', x'))) {cargs : Array Value}
    (hrel : Rels S w β h args cargs) (hh : HpRel Γ S w β h) (hb : ∀ b, S b → b < w.heap.size) (hl : ∀ l blk, hget h l = some blk → l < x) (hx : 1000 ≤ x) : Calls P g cargs w (CallPost Γ S β h w x r h' x') := by
  unfold primCall at hc
  split at hc
  · rename_i l hl0
    split at hc
    · rename_i v hv
      simp at hc; obtain ⟨rfl, rfl, rfl⟩ := hc
      obtain ⟨k1, k2⟩ : cargs.size = l.length ∧ ∀ (j : Nat) (y) (u), l[j]? = some y → cargs[j]? = some u → RI S w y u := by
        have := toI_rel (.tup args cargs hrel.1 hrel.2 : RF S w β h (.tup args) (.tuple cargs)) (.tup l) (by simp [F.toI, hl0])
        cases this with
        | tup _ _ q1 q2 => exact ⟨q1, q2⟩
      refine (hp l v hv S w cargs k1 k2 hb hh.glob).mono fun e w' ⟨u, S', e1, e2, e3, e4, e5, e6, e7, e8, e9, e10⟩ => ?_
      subst e1
      have ownlt : ∀ b, Own β h b → b < w.heap.size := fun b ⟨m, blk', base, hb', hβ⟩ => by
        rcases hh.blk m blk' hb' with ⟨h1, _⟩ | ⟨b', base', h1, _, c, e, fr, hc, _⟩
        · rw [hβ] at h1; simp at h1
        · rw [hβ] at h1; simp at h1; obtain ⟨rfl, rfl⟩ := h1
          exact (Array.getElem?_eq_some_iff.1 hc).1
      have shape : ∀ b e n, w.shape? b = some (e, n) → w'.shape? b = some (e, n) := fun b e n hs => by
        have : b < w.heap.size := by
          simp only [World.shape?] at hs
          split at hs
          · rename_i hh; exact (Array.getElem?_eq_some_iff.1 hh).1
          · simp at hs
        simp only [World.shape?] at hs ⊢
        rw [e8 b this]; exact hs
      have keeps : ∀ m, Keeps w w' β β h h m := fun m blk hb => ⟨rfl, ⟨blk, hb, Nat.le_refl _⟩, fun b _ _ e n hs => shape b e n hs⟩
      refine ⟨u, S', β, rfl, .i _ _ e2, ⟨fun l blk hb' => ?_, hh.inj, Γ.mono _ _ _ _ hh.glob e9 (fun b hb0 => e8 b (hb b hb0))⟩, e3, hl, hx, Nat.le_refl _, ⟨e4, e5, e6, e7, fun b hb _ => e8 b hb, e9, fun b hb => (e10 b hb).imp id .inr, fun b hb => .inl hb, fun l hl blk' hb' => ⟨blk', hb', rfl, rfl, fun b _ _ e n hs => shape b e n hs⟩⟩⟩
      rcases hh.blk l blk hb' with h1 | ⟨b, base, h1, h2, h3⟩
      · exact .inl h1
      · have hlt := ownlt b ⟨l, blk, base, hb', h1⟩
        refine .inr ⟨b, base, h1, fun hS => ?_, h3.mono e9 (fun b hb0 => e8 b (hb b hb0)) (e8 b hlt) fun m _ => keeps m⟩
        rcases e10 b hS with h | h
        · exact h2 h
        · omega
    · simp at hc
  · simp at hc

theorem leaves_marks {F : Fence} {n : Nat} {fn : Func} {tmps : Array Value} {R : Ending → World → Prop} : ∀ (Ds : List Nat) (w : World), Ds.Nodup → (∀ D, D ∈ Ds → w.heap[D]? = some (.deferred (some []))) →
    (∀ w' : World, w'.os = w.os → w'.tape = w.tape → w'.output = w.output → w'.heap.size = w.heap.size → (∀ b, b ∉ Ds → w'.heap[b]? = w.heap[b]?) → ∃ v, (results fn tmps).run P w' = .ok v w' ∧ R (.returned v) w') → LeavesInM F n P fn tmps R (Ds.map mark) .returning w
  | [], w, _, _, h => by
    simp only [List.map_nil, LeavesInM, LeavesIn]
    exact h w rfl rfl rfl rfl fun _ _ => rfl
  | D :: Ds, w, hn, hd, h => by
    simp only [List.map_cons, LeavesInM]
    obtain ⟨hn1, hn2⟩ := List.nodup_cons.1 hn
    refine ⟨by simp, .inl ⟨D, w.putObj D (.deferred none), rfl, run_takeDeferred (hd D List.mem_cons_self), ?_⟩⟩
    refine leaves_marks Ds _ hn2 (fun D' hD' => (World.putObj_heap_other fun e => by subst e; exact hn1 hD').trans (hd D' (List.mem_cons_of_mem _ hD'))) fun w' h1 h2 h3 h4 h5 => ?_
    exact h w' h1 h2 h3 (by simpa using h4) fun b hb => (h5 b fun hb' => hb (List.mem_cons_of_mem _ hb')).trans (World.putObj_heap_other fun e => by subst e; exact hb List.mem_cons_self)

theorem call_step (hT : TabOk Γ P T) {n : Nat} (he : ExecOk Γ P T n) : SoundCall Γ P (fun g args h => call T (n + 1) g args h) := by
  intro g args h x r h' x' hc w S β cargs hrel hh hb hl hd hx
  simp only [call] at hc
  split at hc
  · rename_i p hp
    exact prim_call (hT.prim g p hp).2 hc hrel hh hb hl hx
  · split at hc
    · simp at hc
    · rename_i vf hf
      split at hc
      case isFalse => simp at hc
      rename_i hlen
      have hck := hT.fn g vf hf
      simp only [chkFun, Bool.and_eq_true] at hck
      obtain ⟨⟨_, hfin⟩, hck⟩ := hck
      split at hck
      case h_2 => simp at hck
      rename_i fn hfn
      simp only [Bool.and_eq_true, decide_eq_true_eq] at hck
      obtain ⟨⟨hbody, hres⟩, hpar⟩ := hck
      split at hbody
      case h_2 => simp at hbody
      rename_i c hcb
      have h0 : Rel Γ fn.ntmps S β { env := enterEnv 0 args, hp := h, nxt := x, prot := h.map (·.1) } { tmps := cargs ++ Array.replicate (fn.ntmps - cargs.size) undef, defers := [] } w := by
        refine ⟨by simp [hrel.1]; omega, rfl, fun t v hv => ?_, hh, hb, hl, hx, hd⟩
        obtain ⟨_, h2⟩ := get_enter hv
        simp at h2
        have hlt : t < args.length := (List.getElem?_eq_some_iff.1 h2).1
        have hlt' : t < cargs.size := by rw [hrel.1]; exact hlt
        refine ⟨by omega, ?_⟩
        have := hrel.2 t v cargs[t] h2 (by simp [hlt'])
        simpa [Array.getElem?_append_left hlt', hlt'] using this
      have done : ∀ {ex : Ex} {st1 : St}, exec T n vf.body { env := enterEnv 0 args, hp := h, nxt := x, prot := h.map (·.1) } = some (ex, st1) → (ex = .normal ∨ ex = .ret) → ∀ st2, stepStms T (fun _ _ _ => none) vf.fin st1 = some st2 → (∀ vs, loadResL st2 vf.results = some vs → retVal vs = r ∧ st2.hp = h' ∧ st2.nxt = x') → x ≤ st2.nxt → (∃ vs, loadResL st2 vf.results = some vs) →
          Calls P g cargs w (CallPost Γ S β h w x r h' x') := fun {ex st1} hex hn st2 hst2 hv hnx ⟨vs, hvs⟩ => by
        obtain ⟨rfl, rfl, rfl⟩ := hv vs hvs
        refine callsIn_gf (ρ := none) (n := 0) (callsIn_of_wp_marks hfn hcb trivial (he none 0 fn.ntmps w.heap.size vf.body c _ st1 ex S β _ [] w _ hbody hex h0 (Marks.nil (Nat.le_refl _)) fun a' w' S' β' ds' hr' hext hp hm => ?_))
        obtain ⟨S2, β2, hr2, hext2, hp2⟩ := ghosts_rel hfin hr' hst2
        have hE := hext.trans (hp ▸ hext2)
        obtain ⟨_, Ds, hn1, rfl, hDs⟩ := hm
        have key : LeavesInM (Gf none) 0 P fn a'.tmps (CallPost Γ S β h w x (retVal vs) st2.hp st2.nxt) (Ds.map mark) .returning w' := by
          refine leaves_marks Ds w' hn1 (fun D hD => (hDs D hD).2) fun w2 k1 k2 k3 k4 k5 => ?_
          have hnc : ∀ b, IsC w' b → w2.heap[b]? = w'.heap[b]? := fun b hb => k5 b fun hin => not_isC_def (hDs b hin).2 hb
          have hr3 := world_rel hr2.restrict (w' := w2) (by omega) (fun b hb => hnc b hb.2) fun b hb => hnc b (own_isC hr2.hp hb).1
          obtain ⟨u, hu, hru⟩ := results_rel hr3 hres hvs
          have kid : ∀ m, Keeps w2 w2 β2 β2 st2.hp st2.hp m := fun m blk hb => ⟨rfl, ⟨blk, hb, Nat.le_refl _⟩, fun _ _ _ _ _ h => h⟩
          have hno : ∀ b, Own β2 st2.hp b → ¬ ((S2 b ∧ IsC w' b) ∨ S b) := fun b ho hs => by
            rcases hs with hs | hs
            · exact (own_isC hr2.hp ho).2 hs.1
            · rcases hE.own b ho with q | q
              · exact (own_isC hh q).2 hs
              · have := hb b hs; omega
          refine ⟨u, hu, u, fun b => (S2 b ∧ IsC w' b) ∨ S b, β2, rfl, hru.mono (fun b hb => .inl hb) (fun _ _ => rfl) fun m _ => kid m, ⟨fun l blk hbl => ?_, hr3.hp.inj, Γ.mono _ _ _ _ hr3.hp.glob (fun b hb => .inl hb) (fun _ _ => rfl)⟩, fun b hs => ?_, hr3.lab, hr3.nxt, hnx, ?_⟩
          · rcases hr3.hp.blk l blk hbl with q | ⟨b, base, q1, q2, q3⟩
            · exact .inl q
            · exact .inr ⟨b, base, q1, hno b ⟨l, blk, base, hbl, q1⟩, q3.mono (fun b hb => .inl hb) (fun _ _ => rfl) rfl fun m _ => kid m⟩
          · rcases hs with hs | hs
            · exact hr3.bound b hs
            · exact Nat.lt_of_lt_of_le (hb b hs) (by rw [k4]; exact hE.size)
          · refine ⟨k1.trans hE.os, k2.trans hE.tape, k3.trans hE.output, by rw [k4]; exact hE.size, fun b hlt ho => ?_, fun b hs => .inr hs, fun b hs => ?_, hE.own, fun l hl blk' hb' => ?_⟩
            · rw [k5 b fun hin => by have := (hDs b hin).1; omega]
              exact hE.same b hlt ho
            · rcases hs with hs | hs
              · exact hE.new b hs.1
              · exact .inl hs
            · obtain ⟨blk, e1, e2, e3, e4⟩ := hE.prot l hl blk' hb'
              refine ⟨blk, e1, e2, e3, fun b base hβ e n hs => ?_⟩
              have h1 := e4 b base hβ e n hs
              have hc : IsC w' b := by
                simp only [World.shape?] at h1
                split at h1
                · rename_i c e fr hh'; exact ⟨c, e, fr, hh'⟩
                · simp at h1
              simp only [World.shape?] at h1 ⊢
              rw [hnc b hc]; exact h1
        rcases hn with rfl | rfl
        · exact key
        · exact key
      split at hc
      · simp at hc
      · rename_i ex st1 hne hex
        split at hc
        case h_2 => simp at hc
        rename_i st2 hst2
        split at hc
        · rename_i vs hvs
          split at hc
          case isFalse => simp at hc
          rename_i hnx
          simp at hc; obtain ⟨rfl, rfl, rfl⟩ := hc
          refine done hex ?_ st2 hst2 (fun vs' h => by rw [hvs] at h; simp at h; subst h; exact ⟨rfl, rfl, rfl⟩) hnx ⟨vs, hvs⟩
          cases ex with
          | normal => exact .inl rfl
          | ret => exact .inr rfl
          | exit id => exact absurd rfl (hne id)
        · simp at hc
      · simp at hc

theorem all_sound (hT : TabOk Γ P T) : ∀ n, ExecOk Γ P T n ∧ LoopOk Γ P T n ∧ SoundCall Γ P (fun g args h => call T n g args h) ∧ GOk Γ P T n ∧ GLoopOk Γ P T n
  | 0 => ⟨fun ρ m N B vc c st st' ex S β a ds w Q _ h => by simp [exec] at h, fun ρ m N B vc c st st' ex S β a ds w Q _ h => by simp [exec] at h, fun g args h x r h' x' hc => by simp [call] at hc, fun R J S0 B l _ _ m N vc c g g' ex S β a w X Q _ _ h => by simp [gexec] at h, fun R J S0 B l _ _ m N vc c g g' ex S β a w X Q _ _ h => by simp [gexec] at h⟩
  | n + 1 => by
    obtain ⟨h1, h2, h3, h5, h6⟩ := all_sound hT n
    have h4 := loop_step h1 h2
    have h7 := gloop_step h5 h6
    exact ⟨exec_step hT h3 h1 h5 h4, h4, call_step hT h1, gexec_step hT h3 h5 h7, h7⟩
end
end Go.Vm

/- Fuel: more of it gives the same. -/
set_option linter.unusedSimpArgs false
set_option linter.unusedVariables false
namespace Go.Vm

def CLe (C C' : CallSem) : Prop := ∀ g as h r, C g as h = some r → C' g as h = some r

section
variable {T : Tab} {C C' : CallSem} {st : St}

theorem iso_mono (hC : CLe C C') {g : FuncId} {vs : List (Bool × F)} {hint : Option (Option Nat)} {r : F × St} (h : isoCall C g vs hint st = some r) : isoCall C' g vs hint st = some r := by
  simp only [isoCall] at h ⊢
  split at h
  · rename_i hp as bo h1 h2
    split at h
    · simp at h
    · rename_i v h' n hc
      rw [hC _ _ _ _ hc]
      exact h
  · simp at h
theorem thr_mono (hC : CLe C C') {g : FuncId} {vs : List F} {r : F × St} (h : thrCall C g vs st = some r) : thrCall C' g vs st = some r := by
  simp only [thrCall] at h ⊢
  split at h
  · simp at h
  · rename_i v h' n hc
    rw [hC _ _ _ _ hc]
    exact h
theorem callOp_mono (hC : CLe C C') {g : FuncId} {vs : List (Bool × F)} {hint : Option (Option Nat)} {r : Option F × St} (h : callOp T C st g vs hint = some r) : callOp T C' st g vs hint = some r := by
  simp only [callOp] at h ⊢
  split at h
  · split at h
    · rename_i hthr
      rw [if_pos hthr]
      split at h
      · rename_i v st' hc; rw [thr_mono hC hc]; exact h
      · simp at h
    · rename_i hthr
      rw [if_neg hthr]
      split at h
      · rename_i v st' hc; rw [iso_mono hC hc]; exact h
      · simp at h
  · split at h
    · rename_i v st' hc; rw [iso_mono hC hc]; exact h
    · simp at h
theorem stepOp_mono (hC : CLe C C') {o : VOp} {r : Option F × St} (h : stepOp T C st o = some r) : stepOp T C' st o = some r := by
  cases o
  case call g args hint =>
    simp only [stepOp] at h ⊢
    split at h
    · exact callOp_mono hC h
    · simp at h
  case callv x args hint =>
    simp only [stepOp] at h ⊢
    split at h
    · exact callOp_mono hC h
    · exact callOp_mono hC h
    · simp at h
  case calli g args =>
    simp only [stepOp] at h ⊢
    split at h
    · split at h
      · rename_i hi
        rw [if_pos hi]
        split at h
        · rename_i v st' hc; rw [callOp_mono hC hc]; exact h
        · simp at h
      · simp at h
    · simp at h
  all_goals exact h
theorem stepStm_mono (hC : CLe C C') : ∀ {s : Stm} {st st' : St}, stepStm T C st s = some st' → stepStm T C' st s = some st'
  | .op dst none o, st, st', h => by
    simp only [stepStm] at h ⊢
    split at h
    · rename_i v st1 h1; rw [stepOp_mono hC h1]; exact h
    · simp at h
  | .op dst (some (g, want)) o, st, st', h => by
    simp only [stepStm] at h ⊢
    split at h
    · rename_i b hb
      split at h
      · rename_i hbw
        rw [if_pos hbw]
        split at h
        · rename_i v st1 h1; rw [stepOp_mono hC h1]; exact h
        · simp at h
      · rename_i hbw
        rw [if_neg hbw]; exact h
    · exact h
    · simp at h
  | .frz .., st, st', h => h
  | .ownnil .., st, st', h => h
  | .junk .., st, st', h => h
  | .ownt .., st, st', h => h
  | .frzc .., st, st', h => h
  | .pre g s, st, st', h => by
    simp only [stepStm] at h ⊢
    split at h
    · rename_i st1 h1; rw [stepStm_mono hC h1]; exact stepStm_mono hC h
    · simp at h
theorem stepStms_mono (hC : CLe C C') : ∀ {ss : List Stm} {st st' : St}, stepStms T C ss st = some st' → stepStms T C' ss st = some st'
  | [], st, st', h => h
  | s :: ss, st, st', h => by
    simp only [stepStms] at h ⊢
    split at h
    · rename_i st1 h1; rw [stepStm_mono hC h1]; exact stepStms_mono hC h
    · simp at h

theorem oneRound_mono {E E' : VC → St → Option (Ex × St)} (hE : ∀ c st r, E c st = some r → E' c st = some r) {ps : List Nat} {asg body : VC} {x : List I} {st : St} {r : Ex × St} (h : oneRound E ps asg body x st = some r) : oneRound E' ps asg body x st = some r := by
  simp only [oneRound] at h ⊢
  cases hp : putL ps x st.env with
  | none => rw [hp] at h; simp at h
  | some e =>
    rw [hp] at h
    simp only at h ⊢
    cases ha : E asg { env := e, hp := st.hp, nxt := st.nxt, prot := st.hp.map (·.1) } with
    | none => rw [ha] at h; simp at h
    | some q =>
      rw [ha] at h; rw [hE _ _ _ ha]
      obtain ⟨e1, st1⟩ := q
      cases e1 with
      | ret => simp at h
      | exit id => simp at h
      | normal =>
        simp only at h ⊢
        cases hb : E body st1 with
        | none => rw [hb] at h; simp at h
        | some q => rw [hb] at h; rw [hE _ _ _ hb]; exact h
def RLe (R R' : Rnd) : Prop := ∀ x s r, R x s = some r → R' x s = some r
theorem gyield_mono {R R' : Rnd} (hR : RLe R R') {args : List (Bool × Opd)} {dst : Option Nat} {g g' : GS} (h : gyield R args dst g = some g') : gyield R' args dst g = some g' := by
  unfold gyield at h ⊢
  split at h
  · rename_i vs he hhp hvs
    split at h
    · rename_i xs hxs
      split at h
      · rename_i ex sc hr; simp only [he, hhp, hvs, hxs, hR _ _ _ hr]; exact h
      · simp at h
    · simp at h
  · simp at h
theorem gplain_mono (hC : CLe C C') {s : Stm} {dst : Option Nat} {g g' : GS} (h : gplain T C s dst g = some g') : gplain T C' s dst g = some g' := by
  unfold gplain at h ⊢
  split at h
  · rename_i st hs; rw [stepStm_mono hC hs]; exact h
  · simp at h
theorem gstm_mono (hC : CLe C C') {R R' : Rnd} (hR : RLe R R') {s : Stm} {g g' : GS} (h : gstm T C R s g = some g') : gstm T C' R' s g = some g' := by
  have key : ∀ {a b : Option GS}, gstm T C R s g = a → gstm T C' R' s g = b → (∀ g', a = some g' → b = some g') := by
    intro a b ha hb g' hg
    unfold gstm at ha hb
    split at ha
    · simp only at hb
      split at ha
      · rename_i hc; rw [if_pos hc] at hb; rw [← hb]; exact gyield_mono hR (ha.trans hg)
      · rename_i hc; rw [if_neg hc] at hb; rw [← hb]; exact gplain_mono hC (ha.trans hg)
    · simp only at hb
      split at ha
      · rename_i hc; rw [if_pos hc] at hb; rw [← hb]; exact ha.trans hg
      · rename_i hc; rw [if_neg hc] at hb; rw [← hb]; exact gplain_mono hC (ha.trans hg)
    · rename_i h1 h2
      split at hb
      · rename_i heq; cases heq; exact (h1 _ _ rfl).elim
      · rename_i heq; cases heq; exact (h2 _ _ rfl rfl).elim
      · rename_i heq; cases heq; rw [← hb]; exact gplain_mono hC (ha.trans hg)
      · rename_i h4; exact (h4 _ _ _ rfl).elim
    · rw [hg] at ha; simp at ha
  exact key rfl rfl g' h
theorem gstms_mono (hC : CLe C C') {R R' : Rnd} (hR : RLe R R') : ∀ {ss : List Stm} {g g' : GS}, gstms T C R ss g = some g' → gstms T C' R' ss g = some g'
  | [], g, g', h => h
  | s :: ss, g, g', h => by
    simp only [gstms] at h ⊢
    split at h
    · rename_i g1 h1; rw [gstm_mono hC hR h1]; exact gstms_mono hC hR h
    · simp at h

theorem fuel_succ : ∀ n, (∀ c st r, exec T n c st = some r → exec T (n + 1) c st = some r) ∧ CLe (fun g as h => call T n g as h) (fun g as h => call T (n + 1) g as h) ∧ (∀ R R', RLe R R' → ∀ c g r, gexec T n R c g = some r → gexec T (n + 1) R' c g = some r)
  | 0 => ⟨fun c st r h => by simp [exec] at h, fun g as h r e => by simp [call] at e, fun R R' _ c g r h => by simp [gexec] at h⟩
  | n + 1 => by
    obtain ⟨h1, h2, h3⟩ := fuel_succ n
    refine ⟨fun c st r h => ?_, fun g as hx r h => ?_, fun R R' hR c g r h => ?_⟩
    · cases c with
      | seq a b =>
        simp only [exec] at h
        rw [exec]
        cases he : exec T n a st with
        | none => rw [he] at h; simp at h
        | some q =>
          rw [he] at h; rw [h1 _ _ _ he]
          obtain ⟨e, st1⟩ := q
          cases e with
          | normal => exact h1 _ _ _ h
          | ret => exact h
          | exit id => exact h
      | cond o a b =>
        simp only [exec] at h
        rw [exec]
        split at h
        · rename_i t ht
          try simp only [ht]
          split at h
          · rename_i htt; rw [if_pos htt]; exact h1 _ _ _ h
          · rename_i htt; rw [if_neg htt]; exact h1 _ _ _ h
        · simp at h
      | block id b =>
        simp only [exec] at h
        rw [exec]
        cases he : exec T n b st with
        | none => rw [he] at h; simp at h
        | some q => rw [he] at h; rw [h1 _ _ _ he]; exact h
      | loop b =>
        simp only [exec] at h
        rw [exec]
        cases he : exec T n b st with
        | none => rw [he] at h; simp at h
        | some q =>
          rw [he] at h; rw [h1 _ _ _ he]
          obtain ⟨e, st1⟩ := q
          cases e with
          | normal => exact h1 _ _ _ h
          | ret => exact h
          | exit id => exact h
      | region ss keep =>
        simp only [exec] at h
        rw [exec]
        split at h
        · rename_i st1 hs; rw [stepStms_mono h2 hs]; exact h
        · simp at h
      | rangef g ps asg body =>
        simp only [exec] at h
        rw [exec]
        split at h
        · rename_i f caps hv
          split at h
          · rename_i vf hvf
            split at h
            · rename_i hc
              rw [if_pos hc]
              cases hg : gexec T n (fun x s => oneRound (fun c s => exec T n c s) ps asg body x s) vf.body { st := { env := enterEnv 1 (caps.map .i), hp := [], nxt := 1000, prot := [] }, ks := [0], ex := .normal, sc := st } with
              | none => rw [hg] at h; simp at h
              | some q => rw [hg] at h; rw [h3 _ _ (fun x s r hr => oneRound_mono h1 hr) _ _ _ hg]; exact h
            · simp at h
          · simp at h
        · simp at h
      | skip => simpa [exec] using h
      | ret => simpa [exec] using h
      | exit id => simpa [exec] using h
      | die => simp [exec] at h
    · obtain ⟨hp, x⟩ := hx
      simp only [call] at h
      show call T (n + 1 + 1) g as (hp, x) = some r
      rw [call]
      split at h
      · rename_i p hpp; try simp only [hpp]
        exact h
      · rename_i hpp
        try simp only [hpp]
        split at h
        · simp at h
        · rename_i vf hf
          try simp only [hf]
          split at h
          · rename_i hl
            rw [if_pos hl]
            cases he : exec T n vf.body { env := enterEnv 0 as, hp := hp, nxt := x, prot := hp.map (·.1) } with
            | none => rw [he] at h; simp at h
            | some q => rw [he] at h; rw [h1 _ _ _ he]; exact h
          · simp at h
    · cases c with
      | seq a b =>
        simp only [gexec] at h
        rw [gexec]
        cases he : gexec T n R a g with
        | none => rw [he] at h; simp at h
        | some q =>
          rw [he] at h; rw [h3 _ _ hR _ _ _ he]
          obtain ⟨e, st1⟩ := q
          cases e with
          | normal => exact h3 _ _ hR _ _ _ h
          | ret => exact h
          | exit id => exact h
      | cond o a b =>
        simp only [gexec] at h
        rw [gexec]
        split at h
        · rename_i t ht
          try simp only [ht]
          split at h
          · rename_i htt; rw [if_pos htt]; exact h3 _ _ hR _ _ _ h
          · rename_i htt; rw [if_neg htt]; exact h3 _ _ hR _ _ _ h
        · simp at h
      | block id b =>
        simp only [gexec] at h
        rw [gexec]
        cases he : gexec T n R b g with
        | none => rw [he] at h; simp at h
        | some q => rw [he] at h; rw [h3 _ _ hR _ _ _ he]; exact h
      | loop b =>
        simp only [gexec] at h
        rw [gexec]
        cases he : gexec T n R b g with
        | none => rw [he] at h; simp at h
        | some q =>
          rw [he] at h; rw [h3 _ _ hR _ _ _ he]
          obtain ⟨e, st1⟩ := q
          cases e with
          | normal => exact h3 _ _ hR _ _ _ h
          | ret => exact h
          | exit id => exact h
      | region ss keep =>
        simp only [gexec] at h
        rw [gexec]
        split at h
        · rename_i st1 hs; rw [gstms_mono h2 hR hs]; exact h
        · simp at h
      | skip => simpa [gexec] using h
      | ret => simpa [gexec] using h
      | exit id => simpa [gexec] using h
      | die => simp [gexec] at h
      | rangef => simp [gexec] at h
end
end Go.Vm
