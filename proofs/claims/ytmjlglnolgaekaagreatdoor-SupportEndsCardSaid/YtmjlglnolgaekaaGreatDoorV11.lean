/- size.near. -/
import Derived.Test.YtmjlglnolgaekaaGreatDoorV09
import Derived.Test.YtmjlglnolgaekaaGreatDoorV10
set_option linter.unusedSimpArgs false
set_option linter.unusedVariables false
set_option linter.unusedSimpArgs false
set_option linter.unusedVariables false
set_option maxRecDepth 100000
namespace Go.Vm
attribute [local simp] EV_seq EV_cond EV_block EV_region stepStms stepStm
open Go
attribute [simp] EVG_skip EVG_ret EVG_exit EVG_seq EVG_cond EVG_block EVG_region gstms gstm gplain gyield wants dropK exN

abbrev tP (t : List (Int × Int)) : List I := t.map fun q => iI q.1
abbrev tQ (t : List (Int × Int)) : List I := t.map fun q => zB q.2
abbrev tA (t : List (Int × Int)) : List I := [.sl 1 (tP t), .sl 1 (tQ t), zB 1]
theorem all_228 (t : List (Int × Int)) : Ret (CT T1 228 [.i (.agg (tA t))] ([], 1000)) (.fn 251 [.pim (tA t) 0]) := by
  rw [CT_eq (vf := v228) rfl rfl]
  simp [v228, mkFn]
def gs251 (t : List (Int × Int)) (s : Nat → St) (i : Nat) : GS := { st := { env := [(1, some (.i (.pim (tA t) 0))), (6, some (.i (.sl 1 (tP t)))), (7, some (.i (iI t.length))), (8, some (.i (iI i)))], hp := [], nxt := 1000, prot := [] }, ks := if i = 0 then [0] else [13, 0], ex := .normal, sc := s i }
theorem step_251 {t : List (Int × Int)} {R : Rnd} {s : Nat → St} {i : Nat} (hi : i < t.length) (hb : t.length ≤ 1000000) (hR : R [iI t[i].1, zB t[i].2] (s i) = some (.normal, s (i + 1))) : EVG T1 R v251_0 (gs251 t s i) = some (.normal, gs251 t s (i + 1)) := by
  have w1 : IntKind.i64.wrap ((i : Int) + 1) = (i : Int) + 1 := wr2 (by omega) (by omega)
  have c1 : (i : Int) + 1 ≤ t.length := by omega
  have c2 : (i : Int) < t.length := by omega
  by_cases h0 : i = 0
  · subst h0
    have c3 : (1 : Int) ≤ t.length := by omega
    have c4 : 1 ≤ t.length := by omega
    have c5 : (0 : Int) < t.length := by omega
    have w0 : IntKind.i64.wrap 1 = 1 := rfl
    simp [v251_0, gs251, I.at, hi, c3, c4, c5, w0, hR, List.mapM_cons]
  · simp [v251_0, gs251, I.at, hi, c1, c2, w1, hR, h0]
theorem all_251 {t : List (Int × Int)} {R : Rnd} {s : Nat → St} (hb : t.length ≤ 1000000) (hR : ∀ i (h : i < t.length), R [iI t[i].1, zB t[i].2] (s i) = some (.normal, s (i + 1))) :
    ∃ q : GS, EVG T1 R v251.body { st := { env := enterEnv 1 [.i (.pim (tA t) 0)], hp := [], nxt := 1000, prot := [] }, ks := [0], ex := .normal, sc := s 0 } = some (.normal, q) ∧ q.ex = .normal ∧ q.sc = s t.length := by
  have key : ∀ k i, i + k = t.length → EVG T1 R (.loop v251_0) (gs251 t s i) = EVG T1 R (.loop v251_0) (gs251 t s t.length) := by
    intro k
    induction k with
    | zero => intro i hi; have : i = t.length := by omega
              subst this; rfl
    | succ k ih =>
      intro i hi
      rw [EVG_loop, step_251 (by omega) hb (hR i (by omega))]
      exact ih (i + 1) (by omega)
  have k0 := key t.length 0 (by omega)
  have ho : EVG T1 R (.loop v251_0) (gs251 t s t.length) = some (.exit 0, { gs251 t s t.length with st := { env := [(1, some (.i (.pim (tA t) 0))), (6, some (.i (.sl 1 (tP t)))), (7, some (.i (iI t.length))), (8, some (.i (iI t.length))), (9, some (.i (.bool false)))], hp := [], nxt := 1000, prot := [] } }) := by
    rw [EVG_loop]
    by_cases h0 : t.length = 0
    · simp [v251_0, gs251, h0]
    · simp [v251_0, gs251, h0]
  rw [ho] at k0
  simp only [gs251, Int.natCast_zero, if_pos] at k0
  refine ⟨{ st := { env := [(1, some (.i (.pim (tA t) 0))), (6, some (.i (.sl 1 (tP t)))), (7, some (.i (iI t.length))), (8, some (.i (iI t.length))), (9, some (.i (.bool false)))], hp := [], nxt := 1000, prot := [] }, ks := if t.length = 0 then [0] else [13, 0], ex := .normal, sc := s t.length }, ?_, rfl, rfl⟩
  simp [v251, k0, I.at]
/-- The frame of near. -/
def s226 (t : List (Int × Int)) (most low high : Int) : St := { env := [(3, some (.i (.pim [iI most] 0))), (4, some (.ref 100 0)), (5, some (.ref 101 0)), (6, some (.ref 102 0)), (15, some (.i (.fn 251 [.pim (tA t) 0])))], hp := [(102, .flat [.bool false]), (101, .flat [iI high]), (100, .flat [iI low])], nxt := 1000, prot := [] }
abbrev FF (p : Int) : Int := fastV fastL p
abbrev GG (p : Int) : Int := if p = 2 then FF p else FF p + 1
theorem round_226 {t : List (Int × Int)} {most low high p k : Int} (hp : isF p = true) (hk : 0 ≤ k) (hk2 : k ≤ most) (hm : most ≤ 10000000) (hl : 0 ≤ low ∧ low ≤ 100000000000000000) (hh : 0 ≤ high ∧ high ≤ 100000000000000000) :
    RE T1 [16, 17] v226_0a v226_0 [iI p, zB k] (s226 t most low high) = some (.normal, s226 t most (low + k * FF p) (high + k * GG p)) := by
  have hs := small_116 (n := k) (by omega) (by omega)
  have hf := fast_250 hp
  have hb : 67108864 ≤ FF p ∧ FF p ≤ 500000000 := fastV_bd hp
  have b1 : 0 ≤ k * FF p := Int.mul_nonneg hk (by omega)
  have b2 : k * FF p ≤ 10000000 * 500000000 := Int.mul_le_mul (by omega) (by omega) (by omega) (by omega)
  have b3 : k * (FF p + 1) = k * FF p + k := by rw [Int.mul_add, Int.mul_one]
  have w0 : IntKind.i64.wrap (0 - most) = -most := by rw [wr2 (by omega) (by omega)]; omega
  have w0' : IntKind.i64.wrap (-most) = -most := wr2 (by omega) (by omega)
  have c1 : ¬ k > most := by omega
  have c2 : ¬ k < -most := by omega
  have w1 : IntKind.i64.wrap (FF p + 1) = FF p + 1 := wr2 (by omega) (by omega)
  have w2 : IntKind.i64.wrap (k * FF p) = k * FF p := wr2 (by omega) (by omega)
  have w3 : IntKind.i64.wrap (k * (FF p + 1)) = k * (FF p + 1) := wr2 (by omega) (by omega)
  have w4 : IntKind.i64.wrap (low + k * FF p) = low + k * FF p := wr2 (by omega) (by omega)
  have w5 : IntKind.i64.wrap (high + k * FF p) = high + k * FF p := wr2 (by omega) (by omega)
  have w6 : IntKind.i64.wrap (high + k * (FF p + 1)) = high + k * (FF p + 1) := wr2 (by omega) (by omega)
  have m1 : ¬ k * (FF p + 1) < k * FF p := by omega
  unfold RE oneRound
  have m2 : (if k * FF p < k * (FF p + 1) then k * (FF p + 1) else k * FF p) = k * (FF p + 1) := by split <;> omega
  by_cases h2 : p = 2
  · subst h2
    simp [putL, s226, v226_0a, v226_0, carry, killGone, callOp1 (show thrOf T1 116 = false from rfl) hs, call1 (show thrOf T1 250 = false from rfl) hf, I.at, w0, w0', c1, c2, w1, w2, w4, w5, GG]
  · simp [putL, s226, v226_0a, v226_0, carry, killGone, callOp1 (show thrOf T1 116 = false from rfl) hs, call1 (show thrOf T1 250 = false from rfl) hf, I.at, w0, w0', c1, c2, w1, w2, w3, w4, w6, m1, m2, h2, GG]
def sF (f : Int × Int → Int) : List (Int × Int) → Nat → Int
  | _, 0 => 0
  | [], _ + 1 => 0
  | q :: r, i + 1 => f q + sF f r i
theorem sF_zero (f : Int × Int → Int) (t : List (Int × Int)) : sF f t 0 = 0 := by cases t <;> rfl
theorem sF_succ (f : Int × Int → Int) : ∀ (t : List (Int × Int)) (i : Nat) (h : i < t.length), sF f t (i + 1) = sF f t i + f t[i]
  | [], i, h => by simp at h
  | q :: r, 0, h => by simp [sF, sF_zero]
  | q :: r, i + 1, h => by
    have := sF_succ f r i (by simpa using h)
    simp only [sF, List.getElem_cons_succ] at this ⊢
    omega
theorem sF_bd {f : Int × Int → Int} {B : Int} : ∀ (t : List (Int × Int)) (i : Nat), i ≤ t.length → (∀ q ∈ t, 0 ≤ f q ∧ f q ≤ B) → 0 ≤ sF f t i ∧ sF f t i ≤ B * i
  | t, 0, _, _ => by rw [sF_zero]; simp
  | [], i + 1, h, _ => by simp at h
  | q :: r, i + 1, h, hf => by
    have h1 := sF_bd r i (by simpa using h) fun q hq => hf q (List.mem_cons_of_mem _ hq)
    have h2 := hf q List.mem_cons_self
    simp only [sF]
    have e : B * ((i + 1 : Nat) : Int) = B * i + B := by rw [Int.natCast_add, Int.mul_add]; simp
    omega
/-- Right terms. -/
structure Trm (t : List (Int × Int)) (most : Int) : Prop where
  len : t.length ≤ 6
  ok : ∀ q ∈ t, isF q.1 = true ∧ 0 ≤ q.2 ∧ q.2 ≤ most
abbrev lowT (t : List (Int × Int)) : Int := sF (fun q => q.2 * FF q.1) t t.length
abbrev highT (t : List (Int × Int)) : Int := sF (fun q => q.2 * GG q.1) t t.length
theorem GG_bd {p : Int} (h : isF p = true) : 67108864 ≤ GG p ∧ GG p ≤ 500000001 := by
  have hb : 67108864 ≤ FF p ∧ FF p ≤ 500000000 := fastV_bd h
  unfold GG
  split <;> omega
theorem near_226 {t : List (Int × Int)} {most : Int} (ht : Trm t most) (hm : most ≤ 10000000) : Ret (CT T1 226 [.i (.agg (tA t)), .i (iI most)] ([], 1000)) (.tup [iI (lowT t), iI (highT t), .bool true]) := by
  have hlen := ht.len
  have bF : ∀ q ∈ t, 0 ≤ q.2 * FF q.1 ∧ q.2 * FF q.1 ≤ 10000000 * 500000001 := fun q hq => by
    obtain ⟨h1, h2, h3⟩ := ht.ok q hq
    have hb : 67108864 ≤ FF q.1 ∧ FF q.1 ≤ 500000000 := fastV_bd h1
    exact ⟨Int.mul_nonneg h2 (by omega), Int.mul_le_mul (by omega) (by omega) (by omega) (by omega)⟩
  have bG : ∀ q ∈ t, 0 ≤ q.2 * GG q.1 ∧ q.2 * GG q.1 ≤ 10000000 * 500000001 := fun q hq => by
    obtain ⟨h1, h2, h3⟩ := ht.ok q hq
    have hb := GG_bd h1
    exact ⟨Int.mul_nonneg h2 (by omega), Int.mul_le_mul (by omega) (by omega) (by omega) (by omega)⟩
  obtain ⟨q, h1, h2, h3⟩ := all_251 (t := t) (R := RE T1 [16, 17] v226_0a v226_0) (s := fun i => s226 t most (sF (fun q => q.2 * FF q.1) t i) (sF (fun q => q.2 * GG q.1) t i)) (by omega) fun i hi => by
    obtain ⟨k1, k2, k3⟩ := ht.ok _ (List.getElem_mem hi)
    have l1 := sF_bd t i (by omega) bF
    have l2 := sF_bd t i (by omega) bG
    have e1 := sF_succ (fun q => q.2 * FF q.1) t i hi
    have e2 := sF_succ (fun q => q.2 * GG q.1) t i hi
    have := round_226 (t := t) (most := most) (low := sF (fun q => q.2 * FF q.1) t i) (high := sF (fun q => q.2 * GG q.1) t i) k1 k2 k3 hm (by omega) (by omega)
    simp only [e1, e2]
    exact this
  have hr : EV T1 (.rangef (.t 15) [16, 17] v226_0a v226_0) (s226 t most 0 0) = some (.normal, s226 t most (lowT t) (highT t)) := by
    have := EV_rangef (T := T1) (ps := [16, 17]) (asg := v226_0a) (body := v226_0) (st := s226 t most 0 0) (o := .t 15) (f := 251) (caps := [.pim (tA t) 0]) (vf := v251) (e := .normal) (q := q) (by simp [s226]) rfl rfl (by simpa [sF_zero] using h1) (.inl rfl)
    rw [this, h2, h3]
  simp only [s226] at hr
  rw [CT_eq (vf := v226) rfl rfl]
  simp [v226, I.at, call1 (show thrOf T1 228 = false from rfl) (all_228 t), hr]
end Go.Vm

/- size.Floor. -/
set_option linter.unusedSimpArgs false
set_option linter.unusedVariables false
set_option maxRecDepth 100000
namespace Go.Vm
attribute [local simp] EV_seq EV_cond EV_block EV_region stepStms stepStm
open Go

theorem down_227 {a b : Int} (ha : 0 ≤ a) (hb : 0 < b) (h : a ≤ 1000000000000000000) : Ret (CT T1 227 [.i (iI a), .i (iI b)] ([], 1000)) (iI (a.tdiv b)) := by
  have h1 : ¬ a < 0 := by omega
  have h2 : b ≠ 0 := by omega
  have h3 : (a.tdiv b).natAbs ≤ a.natAbs := by rw [Int.natAbs_tdiv]; exact Nat.div_le_self _ _
  have w1 : IntKind.i64.wrap (a.tdiv b) = a.tdiv b := wr2 (by omega) (by omega)
  rw [CT_eq (vf := v227) rfl rfl]
  simp [v227, h1, bin_quo h2, w1]
theorem lowT_bd {t : List (Int × Int)} {most : Int} (ht : Trm t most) (hm : most ≤ 100000) : 0 ≤ lowT t ∧ lowT t ≤ 400000000000000 ∧ 0 ≤ highT t ∧ highT t ≤ 400000000000000 := by
  have hlen := ht.len
  have bF : ∀ q ∈ t, 0 ≤ q.2 * FF q.1 ∧ q.2 * FF q.1 ≤ 100000 * 500000001 := fun q hq => by
    obtain ⟨h1, h2, h3⟩ := ht.ok q hq
    have hb : 67108864 ≤ FF q.1 ∧ FF q.1 ≤ 500000000 := fastV_bd h1
    exact ⟨Int.mul_nonneg h2 (by omega), Int.mul_le_mul (by omega) (by omega) (by omega) (by omega)⟩
  have bG : ∀ q ∈ t, 0 ≤ q.2 * GG q.1 ∧ q.2 * GG q.1 ≤ 100000 * 500000001 := fun q hq => by
    obtain ⟨h1, h2, h3⟩ := ht.ok q hq
    have hb := GG_bd h1
    exact ⟨Int.mul_nonneg h2 (by omega), Int.mul_le_mul (by omega) (by omega) (by omega) (by omega)⟩
  have l1 := sF_bd t t.length (Nat.le_refl _) bF
  have l2 := sF_bd t t.length (Nat.le_refl _) bG
  exact ⟨l1.1, by show sF (fun q => q.2 * FF q.1) t t.length ≤ _; omega, l2.1, by show sF (fun q => q.2 * GG q.1) t t.length ≤ _; omega⟩
theorem quot_198 {x y : List (Int × Int)} (hx : Trm x 100000) (hy : Trm y 100000) (hl : 0 < lowT y) (hh : 0 < highT y) :
    Ret (CT T1 198 [.i (.agg (tA x)), .i (.agg (tA y))] ([], 1000)) (.tup [iI ((lowT x).tdiv (highT y)), .bool ((lowT x).tdiv (highT y) == (highT x).tdiv (lowT y))]) := by
  have n1 := near_226 hx (by omega)
  have n2 := near_226 hy (by omega)
  have s1 := small_116 (n := 1) (by omega) (by omega)
  obtain ⟨b1, b2, b3, b4⟩ := lowT_bd hx (by omega)
  obtain ⟨b5, b6, b7, b8⟩ := lowT_bd hy (by omega)
  have d1 := down_227 (a := lowT x) (b := highT y) b1 hh (by omega)
  have d2 := down_227 (a := highT x) (b := lowT y) b3 hl (by omega)
  have c1 : ¬ highT y ≤ 0 := by omega
  have c2 : ¬ lowT y ≤ 0 := by omega
  have c3 : ¬ lowT x < 0 := by omega
  have c4 : ¬ highT x < 0 := by omega
  have w1 : IntKind.i64.wrap (lowT x) = lowT x := wr2 (by omega) (by omega)
  have w2 : IntKind.i64.wrap (highT x) = highT x := wr2 (by omega) (by omega)
  have w3 : IntKind.i64.wrap (lowT y) = lowT y := wr2 (by omega) (by omega)
  have w4 : IntKind.i64.wrap (highT y) = highT y := wr2 (by omega) (by omega)
  rw [CT_eq (vf := v198) rfl rfl]
  simp [v198, I.at, call2 (show thrOf T1 226 = false from rfl) n1, call2 (show thrOf T1 226 = false from rfl) n2, callOp1 (show thrOf T1 116 = false from rfl) s1, call2 (show thrOf T1 227 = false from rfl) d1, call2 (show thrOf T1 227 = false from rfl) d2, c1, c2, c3, c4, w1, w2, w3, w4]

/-- The sizes that rounded makes: a 1 at the equave, and h at a place; and twice the equave. -/
def xL (n i : Nat) (h : Int) : List Int := (List.range n).map fun j => if j = 0 then 1 else if j = i then h else 0
def yL (n : Nat) : List Int := (List.range n).map fun j => if j = 0 then 2 else 0
theorem xL_len (n i : Nat) (h : Int) : (xL n i h).length = n := by simp [xL]
theorem yL_len (n : Nat) : (yL n).length = n := by simp [yL]
theorem xL_at {n i : Nat} {h : Int} (j : Nat) (hj : j < n) : (xL n i h)[j]'(by rw [xL_len]; exact hj) = if j = 0 then 1 else if j = i then h else 0 := by simp [xL]
theorem yL_at {n : Nat} (j : Nat) (hj : j < n) : (yL n)[j]'(by rw [yL_len]; exact hj) = if j = 0 then 2 else 0 := by simp [yL]
theorem xL_sm {n i : Nat} {h : Int} (h1 : 0 ≤ h) (h2 : h ≤ 100000) : Sm (xL n i h) := by
  intro m hm
  simp only [xL, List.mem_map, List.mem_range] at hm
  obtain ⟨j, _, rfl⟩ := hm
  split
  · omega
  · split <;> omega
theorem yL_sm (n : Nat) : Sm (yL n) := by
  intro m hm
  simp only [yL, List.mem_map, List.mem_range] at hm
  obtain ⟨j, _, rfl⟩ := hm
  split <;> omega
theorem szx_at {n i : Nat} {h : Int} (j : Nat) (hj : j < n) : ((szC (xL n i h)).drop (j * 2)).take 2 = [zB (if j = 0 then 1 else if j = i then h else 0), zB 1] := by
  rw [szC_at _ j (by rw [xL_len]; exact hj), xL_at j hj]
theorem szy_at {n : Nat} (j : Nat) (hj : j < n) : ((szC (yL n)).drop (j * 2)).take 2 = [zB (if j = 0 then 2 else 0), zB 1] := by
  rw [szC_at _ j (by rw [yL_len]; exact hj), yL_at j hj]
def hp196 (k : List I) (b : Heap) : Heap := b ++ [(101, .flat k), (100, .flat [sI [], sI []])]
def st196a (n i : Nat) (h : Int) (j : Nat) : St := { env := [(0, some (.i (sz (xL n i h)))), (1, some (.i (sz (yL n)))), (4, some (.ref 100 0)), (6, some (.ref 101 0)), (12, some (.i (sz (yL n)))), (13, some (.i (iI n))), (14, some (.i (iI j)))], hp := if j = 0 then hp196 [zB 0, zB 1] [] else hp196 [zB 1, zB 2] [(102, .flat [zB (if j = 1 then 2 else 0), zB 1])], nxt := 1000, prot := [] }
section
variable {n i j : Nat} {h : Int} (hn : n ≤ 6)
include hn
theorem step_196a0 (h0 : 0 < n) : EV T1 v196_0 (st196a n i h 0) = some (.normal, st196a n i h 1) := by
  have e1 : (szC (xL n i h)).length = n * 2 := by rw [szC_len, xL_len]
  have e2 : (szC (yL n)).length = n * 2 := by rw [szC_len, yL_len]
  have e3 : List.take 2 (szC (xL n i h)) = [zB 1, zB 1] := by simpa using szx_at (n := n) (i := i) (h := h) 0 h0
  have e4 : List.take 2 (szC (yL n)) = [zB 2, zB 1] := by simpa using szy_at (n := n) 0 h0
  have a1 : (0 : Int) < n := by omega
  have a2 : (2 : Int) ≤ n * 2 := by omega
  have a3 : 2 ≤ n * 2 := by omega
  have a4 : 1 ≤ n := by omega
  have a5 : (1 : Int) ≤ n := by omega
  have w1 : IntKind.i64.wrap 1 = 1 := rfl
  have z2 : ((itoaB 2).data.toList == [48]) = false := by rw [zl_zero]; rfl
  simp [v196_0, st196a, hp196, I.at, F.at, e1, e2, e3, e4, h0, a1, a2, a3, a4, a5, w1, sI_mkB, z2, call2 (show thrOf T1 224 = false from rfl) div_224]
theorem step_196a1 (h0 : 0 < j) (hj : j < n) : EV T1 v196_0 (st196a n i h j) = some (.normal, st196a n i h (j + 1)) := by
  have e2 : (szC (yL n)).length = n * 2 := by rw [szC_len, yL_len]
  have e4 := szy_at (n := n) j hj
  have hj0 : ¬ j = 0 := by omega
  rw [if_neg hj0] at e4
  have a1 : (j : Int) < n := by omega
  have a2 : ((j : Int) + 1) * 2 ≤ n * 2 := by omega
  have a3 : j * 2 + 2 ≤ n * 2 := by omega
  have a4 : (j : Int) + 1 ≤ n := by omega
  have a5 : j + 1 ≤ n := by omega
  have w1 : IntKind.i64.wrap ((j : Int) + 1) = (j : Int) + 1 := wr2 (by omega) (by omega)
  have z0 : ((itoaB 0).data.toList == [48]) = true := by rw [zl_zero]; rfl
  have hj1 : ¬ j + 1 = 1 := by omega
  simp [v196_0, st196a, hp196, I.at, F.at, e2, e4, hj, a1, a2, a3, a4, a5, w1, sI_mkB, z0, hj0, hj1]
end
theorem zeq (a b : Int) : ((itoaB a).data = (itoaB b).data) ↔ a = b := by
  constructor
  · intro h; exact itoaB_inj (ByteArray.ext h)
  · intro h; rw [h]
def st196b (n i : Nat) (h : Int) (j : Nat) : St := { env := [(0, some (.i (sz (xL n i h)))), (4, some (.ref 100 0)), (6, some (.ref 101 0)), (32, some (.i (sz (yL n)))), (33, some (.i (iI n))), (34, some (.i (iI j)))], hp := if j = 0 then hp196 [zB 1, zB 2] [(102, .flat [zB (if n = 1 then 2 else 0), zB 1])] else hp196 [zB 1, zB 2] [(103, .flat [zB (if j = 1 then 2 else 0), zB 1]), (102, .flat [zB (if n = 1 then 2 else 0), zB 1])], nxt := 1000, prot := [] }
section
variable {n i j : Nat} {h : Int} (hn : n ≤ 6)
include hn
theorem step_196b0 (h0 : 0 < n) : EV T1 v196_1 (st196b n i h 0) = some (.normal, st196b n i h 1) := by
  have e1 : (szC (xL n i h)).length = n * 2 := by rw [szC_len, xL_len]
  have e2 : (szC (yL n)).length = n * 2 := by rw [szC_len, yL_len]
  have e3 : List.take 2 (szC (xL n i h)) = [zB 1, zB 1] := by simpa using szx_at (n := n) (i := i) (h := h) 0 h0
  have e4 : List.take 2 (szC (yL n)) = [zB 2, zB 1] := by simpa using szy_at (n := n) 0 h0
  have a1 : (0 : Int) < n := by omega
  have a2 : (2 : Int) ≤ n * 2 := by omega
  have a3 : 2 ≤ n * 2 := by omega
  have a4 : 1 ≤ n := by omega
  have a5 : (1 : Int) ≤ n := by omega
  have w1 : IntKind.i64.wrap 1 = 1 := rfl
  simp [v196_1, st196b, hp196, I.at, F.at, e1, e2, e3, e4, h0, a1, a2, a3, a4, a5, w1, sI_mkB, eqL, eqI, zeq, call2 (show thrOf T1 225 = false from rfl) mul_225a]
theorem step_196b1 (h0 : 0 < j) (hj : j < n) (hi : j < i) : EV T1 v196_1 (st196b n i h j) = some (.normal, st196b n i h (j + 1)) := by
  have e1 : (szC (xL n i h)).length = n * 2 := by rw [szC_len, xL_len]
  have e2 : (szC (yL n)).length = n * 2 := by rw [szC_len, yL_len]
  have e3 := szx_at (n := n) (i := i) (h := h) j hj
  have e4 := szy_at (n := n) j hj
  have hj0 : ¬ j = 0 := by omega
  have hji : ¬ j = i := by omega
  rw [if_neg hj0, if_neg hji] at e3
  rw [if_neg hj0] at e4
  have a1 : (j : Int) < n := by omega
  have a2 : ((j : Int) + 1) * 2 ≤ n * 2 := by omega
  have a3 : j * 2 + 2 ≤ n * 2 := by omega
  have a4 : (j : Int) + 1 ≤ n := by omega
  have a5 : j + 1 ≤ n := by omega
  have w1 : IntKind.i64.wrap ((j : Int) + 1) = (j : Int) + 1 := wr2 (by omega) (by omega)
  have hj1 : ¬ j + 1 = 1 := by omega
  simp [v196_1, st196b, hp196, I.at, F.at, e1, e2, e3, e4, hj, a1, a2, a3, a4, a5, w1, sI_mkB, hj0, hj1, eqL, eqI, zeq, call2 (show thrOf T1 225 = false from rfl) mul_225b]
theorem step_196b2 (h0 : 0 < i) (hj : i < n) (hh : h ≠ 0) : EV T1 v196_1 (st196b n i h i) = some (.ret, { env := [(4, some (.ref 100 0)), (5, some (.i (.bool false)))], hp := [(103, .flat [zB 0, zB 1]), (102, .flat [zB (if n = 1 then 2 else 0), zB 1]), (101, .flat [zB 1, zB 2]), (100, .flat [zB 1, zB 2])], nxt := 1000, prot := [] }) := by
  have _ := hn
  have e1 : (szC (xL n i h)).length = n * 2 := by rw [szC_len, xL_len]
  have e2 : (szC (yL n)).length = n * 2 := by rw [szC_len, yL_len]
  have e3 := szx_at (n := n) (i := i) (h := h) i hj
  have e4 := szy_at (n := n) i hj
  have hj0 : ¬ i = 0 := by omega
  rw [if_neg hj0, if_pos rfl] at e3
  rw [if_neg hj0] at e4
  have a1 : (i : Int) < n := by omega
  have a2 : ((i : Int) + 1) * 2 ≤ n * 2 := by omega
  have a3 : i * 2 + 2 ≤ n * 2 := by omega
  have a4 : (i : Int) + 1 ≤ n := by omega
  have a5 : i + 1 ≤ n := by omega
  have hh' : ¬ 0 = h := fun e => hh e.symm
  simp [v196_1, st196b, hp196, I.at, F.at, e1, e2, e3, e4, hj, a1, a2, a3, a4, a5, sI_mkB, hj0, hh', eqL, eqI, zeq, call2 (show thrOf T1 225 = false from rfl) mul_225b]
theorem ratio_196 (h0 : 0 < i) (hj : i < n) (hh : h ≠ 0) : Ret (CT T1 196 [.i (sz (xL n i h)), .i (sz (yL n))] ([], 1000)) (.tup [.agg [zB 1, zB 2], .bool false]) := by
  have e2 : (szC (yL n)).length = n * 2 := by rw [szC_len, yL_len]
  have kA : EV T1 (.loop v196_0) (st196a n i h 0) = EV T1 (.loop v196_0) (st196a n i h n) := by
    refine EV_for (st196a n i h) n (fun j hj => ?_) rfl 0 (by omega)
    by_cases h0 : j = 0
    · subst h0; exact step_196a0 hn (by omega)
    · exact step_196a1 hn (by omega) hj
  have n0 : ¬ n = 0 := by omega
  have oA : EV T1 (.loop v196_0) (st196a n i h n) = some (.exit 0, { st196a n i h n with env := [(0, some (.i (sz (xL n i h)))), (1, some (.i (sz (yL n)))), (4, some (.ref 100 0)), (6, some (.ref 101 0)), (12, some (.i (sz (yL n)))), (13, some (.i (iI n))), (14, some (.i (iI n))), (15, some (.i (.bool false)))] }) := by
    rw [EV_loop]
    simp [v196_0, st196a, hp196]
  rw [oA] at kA
  simp only [st196a, hp196, if_neg n0, if_pos, Int.natCast_zero, List.nil_append, List.cons_append] at kA
  have kB : EV T1 (.loop v196_1) (st196b n i h 0) = EV T1 (.loop v196_1) (st196b n i h i) := by
    refine EV_for (st196b n i h) i (fun j hj2 => ?_) rfl 0 (by omega)
    by_cases h0 : j = 0
    · subst h0; exact step_196b0 hn (by omega)
    · exact step_196b1 hn (by omega) (by omega) hj2
  rw [EV_loop (st := st196b n i h i), step_196b2 hn h0 hj hh] at kB
  simp only [st196b, hp196, if_pos, Int.natCast_zero, List.nil_append, List.cons_append] at kB
  rw [CT_eq (vf := v196) rfl rfl]
  simp [v196, call1 (show thrOf T1 223 = false from rfl) number_223, e2, kA, kB, I.at]
end
end Go.Vm

/- Calls with views of what the caller owns. -/
namespace Go.Vm
open Go
def snapA (h : Heap) : F → Option I
  | .i x => some x
  | v => snap h 3 v
def snapAL (h : Heap) : List F → Option (List I)
  | [] => some []
  | v :: r => match snapA h v, snapAL h r with | some x, some l => some (x :: l) | _, _ => none
section
variable {T : Tab} {C : CallSem} {st : St} {g : FuncId} {hint : Option (Option Nat)}
theorem passArgs_s (h : Heap) : ∀ (vs : List F) (l : List I) (j : Nat), snapAL h vs = some l → ∃ b, passArgs h j (vs.map fun x => (false, x)) = some (l.map .i, b)
  | [], l, j, hs => by simp [snapAL] at hs; subst hs; exact ⟨false, rfl⟩
  | v :: r, l, j, hs => by
    simp only [snapAL] at hs
    cases hv : snapA h v with
    | none => rw [hv] at hs; simp at hs
    | some x =>
      cases hr : snapAL h r with
      | none => rw [hv, hr] at hs; simp at hs
      | some l' =>
        rw [hv, hr] at hs; simp at hs; subst hs
        obtain ⟨b, hb⟩ := passArgs_s h r l' (j + 1) hr
        cases v with
        | i y => simp only [snapA, Option.some.injEq] at hv; subst hv; exact ⟨b, by simp [passArgs, hb]⟩
        | own a b' c d => exact ⟨true, by simp only [snapA] at hv; simp [passArgs, hb, hv]⟩
        | ref a b' => exact ⟨true, by simp only [snapA] at hv; simp [passArgs, hb, hv]⟩
        | agg a => exact ⟨true, by simp only [snapA] at hv; simp [passArgs, hb, hv]⟩
        | tup a => exact ⟨true, by simp only [snapA] at hv; simp [passArgs, hb, hv]⟩
        | fn a b' => exact ⟨true, by simp only [snapA] at hv; simp [passArgs, hb, hv]⟩
theorem passed_s (vs : List F) : ∀ j, passed j (vs.map fun x => (false, x)) = [] := by
  induction vs with
  | nil => intro j; rfl
  | cons a l ih => intro j; cases a <;> simp [passed, ih]
theorem hdrop_nil' : ∀ h : Heap, hdrop [] h = h
  | [] => rfl
  | (l, b) :: r => by simp [hdrop, isPassed, hdrop_nil' r]
theorem takeResL_p (vs : List I) (hp : plainL vs = true) (b : Bool) (back : List (Nat × Nat)) (h' : Heap) : ∀ (st : St), takeResL h' back b hint (vs.map .i) st = some (vs.map fun v => .i v.nn, st) := by
  induction vs with
  | nil => intro st; rfl
  | cons v vs ih =>
    intro st
    simp only [plainL, Bool.and_eq_true] at hp
    simp [takeResL, takeRes, ih hp.2, hp.1]
theorem callOp_s {vs : List F} {l : List I} {v : I} (ht : thrOf T g = false) (hc : Ret (C g (l.map .i) ([], 1000)) v) (hp : v.plain = true) (hs : snapAL st.hp vs = some l) : callOp T C st g (vs.map fun x => (false, x)) hint = some (some v.seen, st) := by
  obtain ⟨⟨h', n'⟩, hc⟩ := hc
  have key : isoCall C g (vs.map fun x => (false, x)) hint st = some (v.seen, st) := by
    obtain ⟨b, hb⟩ := passArgs_s st.hp vs l 0 hs
    unfold isoCall
    simp only [passed_s, passHp, hdrop_nil', hb, hc, takeBack]
    cases v
    case tup ws =>
      simp only [I.plain] at hp
      simp [I.seen, takeResL_p ws hp]
    all_goals simp_all [I.seen, takeRes]
  unfold callOp
  unfold thrOf at ht
  rw [key]
  split
  · rename_i vf hf
    rw [hf] at ht
    simp only at ht
    rw [ht]
    rfl
  · rfl
theorem callS1 {a v : I} (ht : thrOf T g = false) (hc : Ret (C g [.i a] ([], 1000)) v) (hp : v.plain = true) : ∀ (st : St) (hint : Option (Option Nat)) (x : F), snapA st.hp x = some a → callOp T C st g [(false, x)] hint = some (some v.seen, st) := fun st hint x h1 =>
  callOp_s (vs := [x]) (l := [a]) ht hc hp (by simp [snapAL, h1])
theorem callS2 {a b v : I} (ht : thrOf T g = false) (hc : Ret (C g [.i a, .i b] ([], 1000)) v) (hp : v.plain = true) : ∀ (st : St) (hint : Option (Option Nat)) (x y : F), snapA st.hp x = some a → snapA st.hp y = some b → callOp T C st g [(false, x), (false, y)] hint = some (some v.seen, st) := fun st hint x y h1 h2 =>
  callOp_s (vs := [x, y]) (l := [a, b]) ht hc hp (by simp [snapAL, h1, h2])
theorem callS3 {a b c v : I} (ht : thrOf T g = false) (hc : Ret (C g [.i a, .i b, .i c] ([], 1000)) v) (hp : v.plain = true) : ∀ (st : St) (hint : Option (Option Nat)) (x y z : F), snapA st.hp x = some a → snapA st.hp y = some b → snapA st.hp z = some c → callOp T C st g [(false, x), (false, y), (false, z)] hint = some (some v.seen, st) := fun st hint x y z h1 h2 h3 =>
  callOp_s (vs := [x, y, z]) (l := [a, b, c]) ht hc hp (by simp [snapAL, h1, h2, h3])
end
@[simp] theorem snapA_i (h : Heap) (x : I) : snapA h (.i x) = some x := (rfl)
@[simp] theorem snapA_own (h : Heap) (l off len k : Nat) : snapA h (.own l off len k) = match hget h l with
    | some (.flat cs) => if off + len * k ≤ cs.length then some (.sl k ((cs.drop off).take (len * k))) else none
    | some (.deep cs) => if off + len * k ≤ cs.length then match mapO (fun c => snap h 2 c) ((cs.drop off).take (len * k)) with | some l => some (.sl k l) | none => none else none
    | none => none := (rfl)
attribute [simp] I.plain plainL
end Go.Vm

/- val.Patent. -/
set_option linter.unusedSimpArgs false
set_option linter.unusedVariables false
set_option maxRecDepth 100000
namespace Go.Vm
attribute [local simp] EV_seq EV_cond EV_block EV_region stepStms stepStm
open Go

def gd (p : List Int) (i : Nat) : Int := p.getD i 0

theorem range_fin : ∀ n, n ≤ 6 → ∀ i, i < n → 0 < i → (List.range n).filter (fun j => j == 0 || j == i) = [0, i] := by decide
theorem range_fin0 : ∀ n, n ≤ 6 → 0 < n → (List.range n).filter (fun j => j == 0) = [0] := by decide
theorem zip_range (p l : List Int) (h : l.length = p.length) : p.zip l = (List.range p.length).map fun j => (gd p j, l.getD j 0) := by
  apply List.ext_getElem
  · simp [h]
  · intro i h1 h2
    simp at h1 h2
    have h3 : i < l.length := by omega
    simp [gd, h2, h3]
theorem trm_x {p : List Int} {n i : Nat} {h : Int} (hp : p.length = n) (hn : n ≤ 6) (h0 : 0 < i) (hi : i < n) (hh : h ≠ 0) : trm p (xL n i h) n = [(gd p 0, 1), (gd p i, h)] := by
  have hl : (xL n i h).length = p.length := by rw [xL_len, hp]
  unfold trm
  rw [List.take_of_length_le (by simp [hl, hp]), zip_range p _ hl, List.filter_map, hp]
  have e : (List.range n).filter ((fun q : Int × Int => decide (q.2 ≠ 0)) ∘ fun j => (gd p j, (xL n i h).getD j 0)) = (List.range n).filter (fun j => j == 0 || j == i) := by
    apply List.filter_congr
    intro j hj
    have hj := List.mem_range.1 hj
    have := xL_at (i := i) (h := h) j hj
    simp only [Function.comp, List.getD_eq_getElem?_getD, List.getElem?_eq_getElem (show j < (xL n i h).length by rw [xL_len]; exact hj), this, Option.getD_some]
    by_cases j0 : j = 0
    · simp [j0]
    · by_cases ji : j = i
      · subst ji; simp [j0, hh]
      · simp [j0, ji]
  rw [e, range_fin n hn i hi h0]
  have g0 := xL_at (n := n) (i := i) (h := h) 0 (by omega)
  have gi := xL_at (n := n) (i := i) (h := h) i hi
  have i0 : ¬ i = 0 := by omega
  simp only [List.map_cons, List.map_nil, List.getD_eq_getElem?_getD, List.getElem?_eq_getElem (show 0 < (xL n i h).length by rw [xL_len]; omega), List.getElem?_eq_getElem (show i < (xL n i h).length by rw [xL_len]; exact hi), g0, gi, Option.getD_some, if_pos, if_neg i0]
theorem trm_y {p : List Int} {n : Nat} (hp : p.length = n) (hn : n ≤ 6) (h0 : 0 < n) : trm p (yL n) n = [(gd p 0, 2)] := by
  have hl : (yL n).length = p.length := by rw [yL_len, hp]
  unfold trm
  rw [List.take_of_length_le (by simp [hl, hp]), zip_range p _ hl, List.filter_map, hp]
  have e : (List.range n).filter ((fun q : Int × Int => decide (q.2 ≠ 0)) ∘ fun j => (gd p j, (yL n).getD j 0)) = (List.range n).filter (fun j => j == 0) := by
    apply List.filter_congr
    intro j hj
    have hj := List.mem_range.1 hj
    have := yL_at j hj
    simp only [Function.comp, List.getD_eq_getElem?_getD, List.getElem?_eq_getElem (show j < (yL n).length by rw [yL_len]; exact hj), this, Option.getD_some]
    by_cases j0 : j = 0
    · simp [j0]
    · simp [j0]
  rw [e, range_fin0 n hn h0]
  have g0 := yL_at (n := n) 0 (by omega)
  simp only [List.map_cons, List.map_nil, List.getD_eq_getElem?_getD, List.getElem?_eq_getElem (show 0 < (yL n).length by rw [yL_len]; omega), g0, Option.getD_some, if_pos]
theorem chkP_len {p : List Int} (h : chkP p = 0) : 0 < p.length ∧ p.length ≤ 6 := by
  unfold chkP at h
  split at h
  · simp at h
  · split at h
    · simp at h
    · omega
section
variable {p : List Int} {i : Nat} {h : Int} (hp : chkP p = 0) (hF : ∀ q ∈ p, isF q = true) (h0 : 0 < i) (hi : i < p.length) (hh : 0 < h) (hh2 : h ≤ 100000)
include hp hF h0 hi hh hh2
theorem term_x : Ret (CT T1 195 [.i (rI p), .i (sz (xL p.length i h))] ([], 1000)) (.agg (tA [(gd p 0, 1), (gd p i, h)])) := by
  have _ := hF
  have := termsOf_195 (p := p) (l := xL p.length i h) (by rw [xL_len]; omega) (by rw [xL_len]) (by rw [xL_len]; have := chkP_len hp; omega) (xL_sm (by omega) hh2)
  simp only [xL_len, trmP, trmQ, trm_x (h := h) rfl (chkP_len hp).2 h0 hi (by omega)] at this
  exact this
theorem term_y : Ret (CT T1 195 [.i (rI p), .i (sz (yL p.length))] ([], 1000)) (.agg (tA [(gd p 0, 2)])) := by
  have _ := hF; have _ := hh; have _ := hh2
  have := termsOf_195 (p := p) (l := yL p.length) (by rw [yL_len]; omega) (by rw [yL_len]) (by rw [yL_len]; have := chkP_len hp; omega) (yL_sm _)
  simp only [yL_len, trmP, trmQ, trm_y rfl (chkP_len hp).2 (by omega)] at this
  exact this
theorem checkQ_165 : Ret (CT T1 165 [.i (rI p), .i (sz (xL p.length i h)), .i (sz (yL p.length))] ([], 1000)) (iI 0) := by
  have c := checkAll_194 hp (xL_len p.length i h) (yL_len p.length) (xL_sm (by omega) hh2) (yL_sm _)
  have ty := term_y hp hF h0 hi hh hh2
  rw [CT_eq (vf := v165) rfl rfl]
  simp [v165, fillF, St.parts, I.at, callS2 (show thrOf T1 194 = false from rfl) c rfl, call2 (show thrOf T1 195 = false from rfl) ty]
/-- What rounded comes to, and whether a few bits decide it. -/
def lowQ (a b h : Int) : Int := (FF a + h * FF b).tdiv (2 * GG a)
def highQ (a b h : Int) : Int := (GG a + h * GG b).tdiv (2 * FF a)
theorem floor_166 (hd : lowQ (gd p 0) (gd p i) h = highQ (gd p 0) (gd p i) h) : Ret (CT T1 166 [.i (rI p), .i (sz (xL p.length i h)), .i (sz (yL p.length))] ([], 1000)) (zB (lowQ (gd p 0) (gd p i) h)) := by
  have hn := (chkP_len hp).2
  have hF0 : isF (gd p 0) = true := by
    have : gd p 0 = p[0]'(by omega) := by simp [gd, List.getD_eq_getElem?_getD, List.getElem?_eq_getElem (show 0 < p.length by omega)]
    rw [this]; exact hF _ (List.getElem_mem _)
  have hFi : isF (gd p i) = true := by
    have : gd p i = p[i] := by simp [gd, List.getD_eq_getElem?_getD, List.getElem?_eq_getElem hi]
    rw [this]; exact hF _ (List.getElem_mem _)
  have r := ratio_196 (n := p.length) hn h0 hi (by omega : h ≠ 0)
  have tx := term_x hp hF h0 hi hh hh2
  have ty := term_y hp hF h0 hi hh hh2
  have Tx : Trm [(gd p 0, 1), (gd p i, h)] 100000 := ⟨by simp, fun q hq => by
    simp only [List.mem_cons, List.not_mem_nil, or_false] at hq
    rcases hq with rfl | rfl
    · exact ⟨hF0, by simp, by simp⟩
    · exact ⟨hFi, by omega, hh2⟩⟩
  have Ty : Trm [(gd p 0, 2)] 100000 := ⟨by simp, fun q hq => by
    simp only [List.mem_cons, List.not_mem_nil, or_false] at hq
    subst hq
    exact ⟨hF0, by simp, by simp⟩⟩
  have b0 : 67108864 ≤ FF (gd p 0) ∧ FF (gd p 0) ≤ 500000000 := fastV_bd hF0
  have bi : 67108864 ≤ FF (gd p i) ∧ FF (gd p i) ≤ 500000000 := fastV_bd hFi
  have g0 := GG_bd hF0
  have l1 : lowT [(gd p 0, 1), (gd p i, h)] = FF (gd p 0) + h * FF (gd p i) := by simp [lowT, sF]
  have l2 : highT [(gd p 0, 1), (gd p i, h)] = GG (gd p 0) + h * GG (gd p i) := by simp [highT, sF]
  have l3 : lowT [(gd p 0, 2)] = 2 * FF (gd p 0) := by simp [lowT, sF]
  have l4 : highT [(gd p 0, 2)] = 2 * GG (gd p 0) := by simp [highT, sF]
  have q := quot_198 Tx Ty (by rw [l3]; omega) (by rw [l4]; omega)
  rw [l1, l2, l3, l4] at q
  have e1 : (FF (gd p 0) + h * FF (gd p i)).tdiv (2 * GG (gd p 0)) = lowQ (gd p 0) (gd p i) h := rfl
  have e2 : (GG (gd p 0) + h * GG (gd p i)).tdiv (2 * FF (gd p 0)) = lowQ (gd p 0) (gd p i) h := hd.symm
  rw [e1, e2, beq_self_eq_true] at q
  have bq : i64ok (lowQ (gd p 0) (gd p i) h) := by
    have m1 : 0 ≤ h * FF (gd p i) := Int.mul_nonneg (by omega) (by omega)
    have m2 : h * FF (gd p i) ≤ 100000 * 500000000 := Int.mul_le_mul hh2 (by omega) (by omega) (by omega)
    have h3 : ((FF (gd p 0) + h * FF (gd p i)).tdiv (2 * GG (gd p 0))).natAbs ≤ (FF (gd p 0) + h * FF (gd p i)).natAbs := by rw [Int.natAbs_tdiv]; exact Nat.div_le_self _ _
    rw [e1] at h3
    constructor <;> omega
  have o := of_96 bq
  simp only [tA, tP, tQ, List.map_cons, List.map_nil] at q tx ty
  rw [CT_eq (vf := v166) rfl rfl]
  simp [v166, call2 (show thrOf T1 196 = false from rfl) r, call2 (show thrOf T1 195 = false from rfl) tx, call2 (show thrOf T1 195 = false from rfl) ty, call2 (show thrOf T1 198 = false from rfl) q, callOp1 (show thrOf T1 96 = false from rfl) o, I.at, F.at]
end
end Go.Vm

/- val.Patent. -/
set_option linter.unusedSimpArgs false
set_option linter.unusedVariables false
set_option maxRecDepth 100000
namespace Go.Vm
attribute [local simp] EV_seq EV_cond EV_block EV_region stepStms stepStm
open Go

section
variable {p : List Int} {i : Nat} {h : Int} (hp : chkP p = 0) (hF : ∀ q ∈ p, isF q = true) (h0 : 0 < i) (hi : i < p.length) (hh : 0 < h) (hh2 : h ≤ 100000)
include hp hF h0 hi hh hh2
theorem floor_133 (hd : lowQ (gd p 0) (gd p i) h = highQ (gd p 0) (gd p i) h) : Ret (CT T1 133 [.i (rI p), .i (sz (xL p.length i h)), .i (sz (yL p.length))] ([], 1000)) (.tup [zB (lowQ (gd p 0) (gd p i) h), iI 0]) := by
  have c := checkQ_165 hp hF h0 hi hh hh2
  have f := floor_166 hp hF h0 hi hh hh2 hd
  rw [CT_eq (vf := v133) rfl rfl]
  simp [v133, call3 (show thrOf T1 165 = false from rfl) c, call3 (show thrOf T1 166 = false from rfl) f]
end
/-- logs: zeros first. -/
def zL (n j : Nat) : List I := (List.range n).flatMap fun q => if q < j then [zB 0, zB 1] else [sI [], sI []]
theorem flatMap_cg {α β : Type} {f g : α → List β} : ∀ (l : List α), (∀ q, q ∈ l → f q = g q) → l.flatMap f = l.flatMap g
  | [], _ => rfl
  | a :: l, h => by rw [List.flatMap_cons, List.flatMap_cons, h a List.mem_cons_self, flatMap_cg l fun q hq => h q (List.mem_cons_of_mem _ hq)]
theorem flat2_len (n : Nat) (f : Nat → List I) (hf : ∀ q, (f q).length = 2) : ((List.range n).flatMap f).length = n * 2 := by
  induction n with
  | zero => rfl
  | succ n ih => rw [List.range_succ, List.flatMap_append, List.length_append, ih]; simp [hf]; omega
theorem flat2_set (n j : Nat) (f : Nat → List I) (hf : ∀ q, (f q).length = 2) (xs : List I) (hx : xs.length = 2) (hj : j < n) : ((List.range n).flatMap f).take (j * 2) ++ xs ++ ((List.range n).flatMap f).drop (j * 2 + 2) = (List.range n).flatMap fun q => if q = j then xs else f q := by
  have e : List.range n = List.range j ++ j :: (List.range (n - j - 1)).map (· + (j + 1)) := by
    apply List.ext_getElem
    · simp; omega
    · intro k h1 h2
      simp at h1
      by_cases hk : k < j
      · rw [List.getElem_append_left (by simpa using hk)]; simp
      · rw [List.getElem_append_right (by simp; omega)]
        by_cases hk2 : k = j
        · subst hk2; simp
        · have : k - (List.range j).length = (k - j - 1) + 1 := by simp; omega
          simp only [this, List.getElem_cons_succ, List.getElem_map, List.getElem_range]
          omega
  have l1 := flat2_len j f hf
  rw [e]
  simp only [List.flatMap_append, List.flatMap_cons]
  rw [List.take_append_of_le_length (by omega), List.take_of_length_le (by omega)]
  rw [show j * 2 + 2 = ((List.range j).flatMap f).length + (f j).length by rw [l1, hf], List.drop_append, List.drop_of_length_le (by omega)]
  simp only [List.nil_append]
  have : ((List.range j).flatMap f).length + (f j).length - ((List.range j).flatMap f).length = (f j).length := by omega
  rw [this, List.drop_left]
  have a1 : (List.range j).flatMap (fun q => if q = j then xs else f q) = (List.range j).flatMap f := by
    apply flatMap_cg
    intro q hq
    have := List.mem_range.1 hq
    rw [if_neg (by omega)]
  have a2 : ((List.range (n - j - 1)).map (· + (j + 1))).flatMap (fun q => if q = j then xs else f q) = ((List.range (n - j - 1)).map (· + (j + 1))).flatMap f := by
    apply flatMap_cg
    intro q hq
    obtain ⟨k, _, rfl⟩ := List.mem_map.1 hq
    rw [if_neg (by omega)]
  rw [a1, a2]
  simp
theorem zL_len (n j : Nat) : (zL n j).length = n * 2 := flat2_len n _ fun q => by split <;> rfl
theorem zL_succ {n j : Nat} (hj : j < n) : (zL n j).take (j * 2) ++ [zB 0, zB 1] ++ (zL n j).drop (j * 2 + 2) = zL n (j + 1) := by
  have := flat2_set n j (fun q => if q < j then [zB 0, zB 1] else [sI [], sI []]) (fun q => by split <;> rfl) [zB 0, zB 1] rfl hj
  unfold zL
  rw [this]
  apply flatMap_cg
  intro q _
  by_cases h1 : q = j
  · subst h1; simp
  · by_cases h2 : q < j
    · rw [if_neg h1, if_pos h2, if_pos (by omega)]
    · rw [if_neg h1, if_neg h2, if_neg (by omega)]
theorem zL_zero (n : Nat) : (List.replicate n [sI [], sI []]).flatten = zL n 0 := by
  have : ∀ n, (List.replicate n [sI [], sI []]).flatten = (List.range n).flatMap fun _ => [sI [], sI []] := by
    intro n
    induction n with
    | zero => rfl
    | succ n ih => rw [List.replicate_succ', List.range_succ, List.flatten_append, ih, List.flatMap_append]; simp
  rw [this]
  unfold zL
  apply flatMap_cg
  intro q _
  rw [if_neg (by omega)]
def szR (n : Nat) (f : Nat → Int) : List I := (List.range n).flatMap fun q => [zB (f q), zB 1]
theorem szR_len (n : Nat) (f : Nat → Int) : (szR n f).length = n * 2 := flat2_len n _ fun q => rfl
theorem szR_set {n j : Nat} (f : Nat → Int) (h : Int) (hj : j < n) : (szR n f).take (j * 2) ++ [zB h, zB 1] ++ (szR n f).drop (j * 2 + 2) = szR n (fun q => if q = j then h else f q) := by
  have := flat2_set n j (fun q => [zB (f q), zB 1]) (fun q => rfl) [zB h, zB 1] rfl hj
  unfold szR
  rw [this]
  apply flatMap_cg
  intro q _
  by_cases h1 : q = j <;> simp [h1]
theorem zL_full (n : Nat) : zL n n = szR n (fun _ => 0) := by
  unfold zL szR
  apply flatMap_cg
  intro q hq
  rw [if_pos (List.mem_range.1 hq)]
theorem szR_x (n i : Nat) (h : Int) : szR n (fun j => if j = 0 then 1 else if j = i then h else 0) = szC (xL n i h) := by
  unfold szR szC xL
  rw [List.flatMap_map]
theorem szR_y (n : Nat) : szR n (fun j => if j = 0 then 2 else 0) = szC (yL n) := by
  unfold szR szC yL
  rw [List.flatMap_map]
def st134 (a i b k : Int) (n j : Nat) : St := { env := [(1, some (.i (iI a))), (2, some (.i (iI i))), (3, some (.i (iI b))), (4, some (.i (iI k))), (11, some (.own 100 0 n 2)), (17, some (.i (iI n))), (18, some (.i (iI j)))], hp := [(100, .flat (zL n j))], nxt := 1000, prot := [] }
theorem z48 : sI [48] = zB 0 := by rw [sI_mkB, zB, show itoaB 0 = mkB [48] from itoaB_dig (n := 0) (by omega)]; rfl
theorem z49 : sI [49] = zB 1 := by rw [sI_mkB, zB, itoaB_1]; rfl
theorem step_134 {a i b k : Int} {n j : Nat} (hn : n ≤ 6) (hj : j < n) : EV T1 v134_0 (st134 a i b k n j) = some (.normal, st134 a i b k n (j + 1)) := by
  have e1 := zL_len n j
  have e2 := zL_succ hj
  have a1 : (j : Int) < n := by omega
  have a3 : j * 2 + 2 ≤ n * 2 := by omega
  have w1 : IntKind.i64.wrap ((j : Int) + 1) = (j : Int) + 1 := wr2 (by omega) (by omega)
  simp only [List.append_assoc, List.cons_append, List.nil_append] at e2
  simp [v134_0, st134, z48, z49, fillF, St.parts, e1, e2, a1, a3, hj, w1]
theorem loop_134 {a i b k : Int} {n : Nat} (hn : n ≤ 6) : EV T1 (.loop v134_0) (st134 a i b k n 0) = some (.exit 0, { env := [(1, some (.i (iI a))), (2, some (.i (iI i))), (3, some (.i (iI b))), (4, some (.i (iI k))), (11, some (.own 100 0 n 2)), (17, some (.i (iI n))), (18, some (.i (iI n))), (19, some (.i (.bool false)))], hp := [(100, .flat (szR n fun _ => 0))], nxt := 1000, prot := [] }) := by
  refine EV_for (st134 a i b k n) n (fun j hj => step_134 hn hj) ?_ 0 (by omega)
  rw [EV_loop]
  simp [v134_0, st134, zL_full]
theorem logs_x {p : List Int} {i : Nat} {h : Int} (hn : p.length ≤ 6) (h0 : 0 < i) (hi : i < p.length) (hh : 0 ≤ h) (hh2 : h ≤ 100000) : Ret (CT T1 134 [.i (rI p), .i (iI h), .i (iI i), .i (iI 1), .i (iI 0)] ([], 1000)) (sz (xL p.length i h)) := by
  have l := loop_134 (a := h) (i := i) (b := 1) (k := 0) hn
  simp only [st134, Int.natCast_zero, ← zL_zero] at l
  have o1 := of_96 (n := h) ⟨by omega, by omega⟩
  have o2 := of_96 (n := 1) (by omega)
  have e1 := szR_len p.length (fun _ => 0)
  have e2 := szR_set (n := p.length) (j := i) (fun _ => 0) h hi
  have e3 := szR_len p.length (fun q => if q = i then h else 0)
  have e4 := szR_set (n := p.length) (j := 0) (fun q => if q = i then h else 0) 1 (by omega)
  have e5 : szR p.length (fun q => if q = 0 then 1 else if q = i then h else 0) = szC (xL p.length i h) := szR_x ..
  rw [e5] at e4
  simp only [List.append_assoc, List.cons_append, List.nil_append, Nat.zero_mul, List.take_zero, Nat.zero_add] at e2 e4
  have a1 : (i : Int) < p.length := by omega
  have a3 : i * 2 + 2 ≤ p.length * 2 := by omega
  have a4 : (0 : Int) < p.length := by omega
  have a5 : 2 ≤ p.length * 2 := by omega
  have a6 : ¬ (i : Int) = 0 := by omega
  have a7 : 0 < p.length := by omega
  have a8 : (p.length : Int) * 32 ≤ 281474976710656 := by omega
  have a9 : (p.length : Int) ≤ 281474976710656 := by omega
  have b1 : p.length * 32 ≤ 281474976710656 := by omega
  have b2 : p.length ≤ 281474976710656 := by omega
  have i0 : ¬ i = 0 := by omega
  have x1 := szC_len (xL p.length i h)
  rw [xL_len] at x1
  have f1 : List.take (p.length * 2) (szC (xL p.length i h)) = szC (xL p.length i h) := List.take_of_length_le (by omega)
  rw [CT_eq (vf := v134) rfl rfl]
  simp [v134, l, z49, fillF, St.parts, callOp1 (show thrOf T1 96 = false from rfl) o1, callOp1 (show thrOf T1 96 = false from rfl) o2, e1, e2, e3, e4, a1, a3, a4, a5, a6, a7, a8, a9, b1, b2, i0, hi, x1, f1]
end Go.Vm

/- val.Patent. -/
set_option linter.unusedSimpArgs false
set_option linter.unusedVariables false
set_option maxRecDepth 100000
namespace Go.Vm
attribute [local simp] EV_seq EV_cond EV_block EV_region stepStms stepStm
open Go

theorem logs_y {p : List Int} (hn : p.length ≤ 6) (h0 : 0 < p.length) : Ret (CT T1 134 [.i (rI p), .i (iI 2), .i (iI 0), .i (iI 0), .i (iI 0)] ([], 1000)) (sz (yL p.length)) := by
  have l := loop_134 (a := 2) (i := 0) (b := 0) (k := 0) hn
  simp only [st134, Int.natCast_zero, ← zL_zero] at l
  have o1 := of_96 (n := 2) (by omega)
  have e1 := szR_len p.length (fun _ => 0)
  have e2 := szR_set (n := p.length) (j := 0) (fun _ => 0) 2 h0
  have e3 := szR_len p.length (fun q => if q = 0 then 2 else 0)
  have e4 := szR_set (n := p.length) (j := 0) (fun q => if q = 0 then 2 else 0) 2 h0
  have e6 : (fun q : Nat => if q = 0 then (2 : Int) else if q = 0 then 2 else 0) = (fun q : Nat => if q = 0 then (2 : Int) else 0) := by funext q; by_cases h : q = 0 <;> simp [h]
  have e5 : szR p.length (fun q => if q = 0 then 2 else 0) = szC (yL p.length) := szR_y ..
  rw [e6] at e4
  rw [e5] at e2 e3 e4
  simp only [List.append_assoc, List.cons_append, List.nil_append, Nat.zero_mul, List.take_zero, Nat.zero_add] at e2 e4
  have a4 : (0 : Int) < p.length := by omega
  have a5 : 2 ≤ p.length * 2 := by omega
  have a8 : (p.length : Int) * 32 ≤ 281474976710656 := by omega
  have a9 : (p.length : Int) ≤ 281474976710656 := by omega
  have b1 : p.length * 32 ≤ 281474976710656 := by omega
  have b2 : p.length ≤ 281474976710656 := by omega
  have w2 : IntKind.i64.wrap 2 = 2 := rfl
  have f1 : List.take (p.length * 2) (szC (yL p.length)) = szC (yL p.length) := List.take_of_length_le (by omega)
  rw [CT_eq (vf := v134) rfl rfl]
  simp [v134, l, z49, fillF, St.parts, callOp1 (show thrOf T1 96 = false from rfl) o1, e1, e2, e3, e4, a4, a5, a8, a9, b1, b2, h0, w2, f1]
theorem bin_shr1 (a : Int) : binI 0 .shr (.int .i64 a) (.int .u64 1) = some (.int .i64 (a.fdiv 2)) := by
  unfold binI
  simp [IntKind.bits]
/-- The place of a prime, rounded. -/
def rnd (p : List Int) (k : Int) (i : Nat) : Int := if i = 0 then k else lowQ (gd p 0) (gd p i) (2 * k)
/-- A few bits decide it. -/
def dec (p : List Int) (k : Int) (i : Nat) : Bool := if i = 0 then true else lowQ (gd p 0) (gd p i) (2 * k) == highQ (gd p 0) (gd p i) (2 * k)
theorem lowQ_bd {a b h : Int} (ha : isF a = true) (hb : isF b = true) (h0 : 0 ≤ h) (h1 : h ≤ 100000) : 0 ≤ lowQ a b h ∧ lowQ a b h ≤ 1000000 := by
  have b0 : 67108864 ≤ FF a ∧ FF a ≤ 500000000 := fastV_bd ha
  have bi : 67108864 ≤ FF b ∧ FF b ≤ 500000000 := fastV_bd hb
  have g0 := GG_bd ha
  have m1 : 0 ≤ h * FF b := Int.mul_nonneg h0 (by omega)
  have m2 : h * FF b ≤ 100000 * 500000000 := Int.mul_le_mul h1 (by omega) (by omega) (by omega)
  unfold lowQ
  rw [Int.tdiv_eq_ediv_of_nonneg (by omega)]
  refine ⟨Int.ediv_nonneg (by omega) (by omega), ?_⟩
  exact Int.ediv_le_of_le_mul (by omega) (by omega)
section
variable {p : List Int} {k : Int} (hp : chkP p = 0) (hF : ∀ q ∈ p, isF q = true) (hk : 1 ≤ k) (hk2 : k ≤ 50000)
include hp hF hk hk2
theorem gd_F {i : Nat} (hi : i < p.length) : isF (gd p i) = true := by
  have _ := hp; have _ := hk; have _ := hk2
  have : gd p i = p[i] := by simp [gd, List.getD_eq_getElem?_getD, List.getElem?_eq_getElem hi]
  rw [this]; exact hF _ (List.getElem_mem _)
theorem rounded_84 {i : Nat} (hi : i < p.length) (hd : dec p k i = true) : Ret (CT T1 84 [.i (rI p), .i (iI (2 * k)), .i (iI i)] ([], 1000)) (iI (rnd p k i)) := by
  have hl := chkP_len hp
  rw [CT_eq (vf := v84) rfl rfl]
  by_cases h0 : i = 0
  · subst h0
    have w1 : IntKind.i64.wrap (2 * k + 1) = 2 * k + 1 := wr2 (by omega) (by omega)
    have e : (2 * k + 1).fdiv 2 = k := by rw [Int.fdiv_eq_ediv_of_nonneg _ (by omega)]; omega
    simp [v84, w1, bin_shr1, e, rnd]
  · have hx := logs_x (p := p) (i := i) (h := 2 * k) hl.2 (by omega) hi (by omega) (by omega)
    have hy := logs_y (p := p) hl.2 hl.1
    have hd' : lowQ (gd p 0) (gd p i) (2 * k) = highQ (gd p 0) (gd p i) (2 * k) := by simpa [dec, h0] using hd
    have f := floor_133 hp hF (by omega) hi (by omega) (by omega) hd'
    have bd := lowQ_bd (gd_F hp hF hk hk2 hl.1) (gd_F hp hF hk hk2 hi) (show 0 ≤ 2 * k by omega) (by omega)
    have s := small_116 (n := lowQ (gd p 0) (gd p i) (2 * k)) (by omega) (by omega)
    have i0 : ¬ (i : Int) = 0 := by omega
    simp [v84, i0, h0, call5 (show thrOf T1 134 = false from rfl) hx, call5 (show thrOf T1 134 = false from rfl) hy, call3 (show thrOf T1 133 = false from rfl) f, callOp1 (show thrOf T1 116 = false from rfl) s, rnd]
theorem nearest_46 {i : Nat} (hi : i < p.length) (hd : dec p k i = true) : Ret (CT T1 46 [.i (rI p), .i (iI k), .i (iI i)] ([], 1000)) (.tup [iI (rnd p k i), iI 0]) := by
  have hl := chkP_len hp
  have c := check_44 p (by omega)
  rw [hp] at c
  have r := rounded_84 hp hF hk hk2 hi hd
  have a1 : ¬ k < 1 := by omega
  have a2 : ¬ k > 100000 := by omega
  have a2' : ¬ 100000 < k := by omega
  have a3 : ¬ (i : Int) < 0 := by omega
  have a4 : ¬ (i : Int) ≥ p.length := by omega
  have a5 : ¬ p.length ≤ i := by omega
  have w1 : IntKind.i64.wrap (2 * k) = 2 * k := wr2 (by omega) (by omega)
  rw [CT_eq (vf := v46) rfl rfl]
  simp [v46, callOp1 (show thrOf T1 44 = false from rfl) c, a1, a2, a2', a3, a4, a5, w1, call3 (show thrOf T1 84 = false from rfl) r]
def pR (p : List Int) (k : Int) (j : Nat) : List I := (List.range j).map fun q => iI (rnd p k q)
def st14 (p : List Int) (k : Int) (j : Nat) : St := { env := [(0, some (.i (rI p))), (1, some (.i (iI k))), (6, some (.own (if j = 0 then 100 else 102) 0 j 1)), (12, some (.i (iI p.length))), (13, some (.i (iI j)))], hp := if j = 0 then [(100, .flat [])] else [(102, .flat (pR p k j)), (101, .flat [iI (rnd p k (j - 1))])], nxt := 1000, prot := [] }
omit hp hF hk hk2 in
theorem pR_len (j : Nat) : (pR p k j).length = j := by simp [pR]
omit hp hF hk hk2 in
theorem pR_succ (j : Nat) : pR p k j ++ [iI (rnd p k j)] = pR p k (j + 1) := by simp [pR, List.range_succ]
theorem step_14 {j : Nat} (hj : j < p.length) (hd : dec p k j = true) : EV T1 v14_0 (st14 p k j) = some (.normal, st14 p k (j + 1)) := by
  have hl := chkP_len hp
  have n := nearest_46 hp hF hk hk2 hj hd
  have a1 : (j : Int) < p.length := by omega
  have w1 : IntKind.i64.wrap ((j : Int) + 1) = (j : Int) + 1 := wr2 (by omega) (by omega)
  have e1 := pR_len (p := p) (k := k) j
  have e2 := pR_succ (p := p) (k := k) j
  have e3 : (j + 1) * 8 ≤ 140737488355328 := by omega
  have f1 : List.take j (pR p k j) = pR p k j := List.take_of_length_le (by omega)
  by_cases h0 : j = 0
  · subst h0
    have e4 : pR p k 1 = [iI (rnd p k 0)] := by simp [pR]
    have w0 : IntKind.i64.wrap 1 = 1 := rfl
    simp only [Int.natCast_zero] at n
    simp [v14_0, st14, hj, call3 (show thrOf T1 46 = false from rfl) n, fillF, St.parts, St.source, Blk.ext, e4, w0]
  · simp [v14_0, st14, hj, a1, h0, call3 (show thrOf T1 46 = false from rfl) n, fillF, St.parts, St.source, Blk.ext, w1, e1, e2, e3, f1]
theorem patent_14 (hd : ∀ i, i < p.length → dec p k i = true) : Ret (CT T1 14 [.i (rI p), .i (iI k)] ([], 1000)) (.tup [.sl 1 (pR p k p.length), iI 0]) := by
  have hl := chkP_len hp
  have n0 : ¬ p.length = 0 := by omega
  have key : EV T1 (.loop v14_0) (st14 p k 0) = some (.exit 0, { st14 p k p.length with env := [(0, some (.i (rI p))), (1, some (.i (iI k))), (6, some (.own 102 0 p.length 1)), (12, some (.i (iI p.length))), (13, some (.i (iI p.length))), (14, some (.i (.bool false)))] }) := by
    refine EV_for (st14 p k) p.length (fun j hj => step_14 hp hF hk hk2 hj (hd j hj)) ?_ 0 (by omega)
    rw [EV_loop]
    simp [v14_0, st14, n0]
  simp only [st14, Int.natCast_zero, if_pos, if_neg n0] at key
  have m : (if (p.length : Int) > 1 then (p.length : Int) else 1) = p.length := by split <;> omega
  have m' : (if 1 < (p.length : Int) then (p.length : Int) else 1) = p.length := by split <;> omega
  have m2 : (if 1 < p.length then (p.length : Int) else 1) = p.length := by split <;> omega
  have e1 := pR_len (p := p) (k := k) p.length
  have f1 : List.take p.length (pR p k p.length) = pR p k p.length := List.take_of_length_le (by omega)
  rw [CT_eq (vf := v14) rfl rfl]
  simp [v14, key, m, m', m2, e1, f1]
end
end Go.Vm

/- Primitives: whole numbers, primes, Patent. -/
set_option linter.unusedSimpArgs false
set_option linter.unusedVariables false
set_option maxRecDepth 100000
namespace Go.Vm
open Go Go.Proofs

/-- The digits, as the kernel reckons them. -/
def digK : Nat → Nat → List UInt8 → List UInt8
  | 0, _, acc => acc
  | f + 1, n, acc => bif Nat.blt n 10 then UInt8.ofNat (48 + n) :: acc else digK f (n / 10) (UInt8.ofNat (48 + n % 10) :: acc)
theorem digK_eq : ∀ (f n : Nat) (acc : List UInt8), n < 10 ^ (f + 1) → digK (f + 1) n acc = Lib.decDigits n ++ acc
  | 0, n, acc, h => by
    have h : n < 10 := by simpa using h
    have hb : Nat.blt n 10 = true := by simpa [Nat.blt_eq] using h
    rw [digK, hb, Lib.decDigits, dif_pos h]
    rfl
  | f + 1, n, acc, h => by
    rw [digK]
    by_cases hn : n < 10
    · have hb : Nat.blt n 10 = true := by simpa [Nat.blt_eq] using hn
      rw [hb, Lib.decDigits, dif_pos hn]
      rfl
    · have hb : Nat.blt n 10 = false := by
        cases he : Nat.blt n 10 with
        | false => rfl
        | true => exact absurd (by simpa [Nat.blt_eq] using he) hn
      rw [hb]
      simp only [cond_false]
      rw [digK_eq f (n / 10) _ (by rw [Nat.pow_succ] at h; omega), Lib.decDigits.eq_1 n, dif_neg hn]
      simp
def itoaL : Int → List UInt8
  | .ofNat n => digK 20 n []
  | .negSucc n => 45 :: digK 20 (n + 1) []
theorem itoaL_eq {n : Int} (h : i64ok n) : itoaL n = Lib.itoa n := by
  obtain ⟨h1, h2⟩ := h
  cases n with
  | ofNat m =>
    have hm : m < 10 ^ 20 := by have : ((Int.ofNat m : Int)) = (m : Int) := rfl; omega
    show digK 20 m [] = Lib.itoa (m : Int)
    rw [digK_eq 19 m [] hm]
    unfold Lib.itoa
    rw [if_neg (by omega)]; simp
  | negSucc m =>
    have e : Int.negSucc m = -((m + 1 : Nat) : Int) := rfl
    rw [e] at h1 h2
    have hm : m + 1 < 10 ^ 20 := by omega
    show 45 :: digK 20 (m + 1) [] = Lib.itoa (Int.negSucc m)
    rw [digK_eq 19 (m + 1) [] hm, e]
    unfold Lib.itoa
    rw [if_pos (by omega), List.append_nil]
    congr 2
def itoaK (n : Int) : I := .str ⟨(itoaL n).toArray⟩
theorem itoaK_eq {n : Int} (h : i64ok n) : itoaK n = zB n := by unfold itoaK zB itoaB; rw [itoaL_eq h]
def leI (a b : Int) : Bool := decide (a ≤ b)
def q96 : List I → Option I
  | [.int .i64 n] => bif leI (-9223372036854775808) n && leI n 9223372036854775807 then some (itoaK n) else none
  | _ => none
def q94 : List I → Option I
  | [.str s, .str t] => bif Nat.ble s.size 18 && Nat.ble t.size 18 then match Lib.atoi s.data.toList, Lib.atoi t.data.toList with | some x, some y => some (itoaK (x + y)) | _, _ => none else none
  | _ => none
def q95 : List I → Option I
  | [.str s, .str t] => bif Nat.ble s.size 9 && Nat.ble t.size 9 then match Lib.atoi s.data.toList, Lib.atoi t.data.toList with | some x, some y => some (itoaK (x * y)) | _, _ => none else none
  | _ => none
def q112 : List I → Option I
  | [.str s, .str t] => bif Nat.ble s.size 18 && Nat.ble t.size 18 then match Lib.atoi s.data.toList, Lib.atoi t.data.toList with | some x, some y => bif intB y 0 then none else some (.tup [itoaK (x.fdiv y), itoaK (x.fmod y), .int .i64 0]) | _, _ => none else none
  | _ => none
/-- A canonical text of a small number. -/
def canK (s : ByteArray) : Option Int := match Lib.atoi s.data.toList with
  | some n => bif leI (-99999999999999999) n && leI n 99999999999999999 && bytesB (itoaL n) s.data.toList then some n else none
  | none => none
theorem canK_eq {s : ByteArray} {n : Int} (h : canK s = some n) : s = itoaB n ∧ -99999999999999999 ≤ n ∧ n ≤ 99999999999999999 := by
  unfold canK at h
  split at h
  · rename_i m hm
    cases hc : (leI (-99999999999999999) m && leI m 99999999999999999 && bytesB (itoaL m) s.data.toList) with
    | false => rw [hc] at h; simp at h
    | true =>
      rw [hc] at h
      simp at h; subst h
      simp only [Bool.and_eq_true, leI, decide_eq_true_eq] at hc
      obtain ⟨⟨h1, h2⟩, h3⟩ := hc
      refine ⟨?_, h1, h2⟩
      have h4 := bytesB_eq h3
      rw [itoaL_eq ⟨by omega, by omega⟩] at h4
      apply ByteArray.ext
      apply Array.toList_inj.1
      rw [itoaB_list, h4]
  · simp at h
def q116 : List I → Option I
  | [.str s] => match canK s with | some n => some (.tup [.int .i64 n, .bool true]) | none => none
  | _ => none
def q156 : List I → Option I
  | [.str s, .str t] => match canK s, canK t with | some x, some y => some (itoaK (x - y)) | _, _ => none
  | _ => none
def intsL : List I → Option (List Int)
  | [] => some []
  | .int .i64 n :: r => match intsL r with | some l => some (n :: l) | none => none
  | _ => none
theorem intsL_eq : ∀ {cs : List I} {l : List Int}, intsL cs = some l → cs = l.map iI
  | [], l, h => by simp [intsL] at h; subst h; rfl
  | c :: r, l, h => by
    unfold intsL at h
    split at h
    · simp at *
    · rename_i n r' heq
      cases heq
      split at h
      · rename_i l' hl
        simp at h; subst h
        rw [intsL_eq hl]; rfl
      · simp at h
    · simp at h
def q44 : List I → Option I
  | [.sl 1 cs] => match intsL cs with | some p => bif Nat.ble p.length 1000000000 then some (iI (chkP p)) else none | none => none
  | _ => none
def q14 : List I → Option I
  | [.sl 1 cs, .int .i64 k] => match intsL cs with
    | some p => bif intB (chkP p) 0 && p.all isF && leI 1 k && leI k 50000 && (List.range p.length).all (dec p k) then some (.tup [.sl 1 (pR p k p.length), iI 0]) else none
    | none => none
  | _ => none
theorem ble_le {a b : Nat} (h : Nat.ble a b = true) : a ≤ b := Nat.le_of_ble_eq_true h
theorem prim96 : PrimSound Γ0 Tryz.prog 96 q96 := prim_of_CT T1_ok fun l v h => by
  unfold q96 at h
  split at h
  · rename_i n
    cases hc : (leI (-9223372036854775808) n && leI n 9223372036854775807) with
    | false => rw [hc] at h; simp at h
    | true =>
      rw [hc] at h
      simp at h; subst h
      simp only [Bool.and_eq_true, leI, decide_eq_true_eq] at hc
      rw [itoaK_eq hc]
      exact ⟨_, of_96 hc⟩
  · simp at h
theorem prim94 : PrimSound Γ0 Tryz.prog 94 q94 := prim_of_CT T1_ok fun l v h => by
  unfold q94 at h
  split at h
  · rename_i s t
    cases hc : (Nat.ble s.size 18 && Nat.ble t.size 18) with
    | false => rw [hc] at h; simp at h
    | true =>
      rw [hc] at h
      simp only [Bool.and_eq_true] at hc
      simp only [cond_true] at h
      split at h
      · rename_i x y hx hy
        have b1 := atoi_lt (ble_le hc.1) hx
        have b2 := atoi_lt (ble_le hc.2) hy
        simp at h; subst h
        rw [itoaK_eq ⟨by omega, by omega⟩]
        exact ⟨_, add_94 (ble_le hc.1) (ble_le hc.2) hx hy⟩
      · simp at h
  · simp at h
theorem prim95 : PrimSound Γ0 Tryz.prog 95 q95 := prim_of_CT T1_ok fun l v h => by
  unfold q95 at h
  split at h
  · rename_i s t
    cases hc : (Nat.ble s.size 9 && Nat.ble t.size 9) with
    | false => rw [hc] at h; simp at h
    | true =>
      rw [hc] at h
      simp only [Bool.and_eq_true] at hc
      simp only [cond_true] at h
      split at h
      · rename_i x y hx hy
        have b1 := atoi_lt9 (ble_le hc.1) hx
        have b2 := atoi_lt9 (ble_le hc.2) hy
        have hb : i64ok (x * y) := by
          have h3 : (x * y).natAbs ≤ 1000000000 * 1000000000 := by rw [Int.natAbs_mul]; exact Nat.mul_le_mul (by omega) (by omega)
          constructor <;> omega
        simp at h; subst h
        rw [itoaK_eq hb]
        exact ⟨_, mul_95 (ble_le hc.1) (ble_le hc.2) hx hy⟩
      · simp at h
  · simp at h
theorem prim112 : PrimSound Γ0 Tryz.prog 112 q112 := prim_of_CT T1_ok fun l v h => by
  unfold q112 at h
  split at h
  · rename_i s t
    cases hc : (Nat.ble s.size 18 && Nat.ble t.size 18) with
    | false => rw [hc] at h; simp at h
    | true =>
      rw [hc] at h
      simp only [Bool.and_eq_true] at hc
      simp only [cond_true] at h
      split at h
      · rename_i x y hx hy
        have b1 := atoi_lt (ble_le hc.1) hx
        have b2 := atoi_lt (ble_le hc.2) hy
        cases hz : intB y 0 with
        | true => rw [hz] at h; simp at h
        | false =>
          rw [hz] at h
          have h0 : y ≠ 0 := fun e => by subst e; simp [intB] at hz
          simp at h; subst h
          have e1 := (quo_fdiv (x := x) h0)
          have e2 : (x.fdiv y).natAbs ≤ x.natAbs + 1 := by
            have e3 : (x.tdiv y).natAbs ≤ x.natAbs := by rw [Int.natAbs_tdiv]; exact Nat.div_le_self _ _
            by_cases hq : x.tmod y ≠ 0 ∧ ¬ (x.tmod y < 0 ↔ y < 0)
            · have := (e1 true (by simp [hq])).1; simp at this; omega
            · have := (e1 false (by simp; intro h; exact Classical.byContradiction fun h2 => hq ⟨h, by simpa using h2⟩)).1; simp at this; omega
          have e4 : (x.fmod y).natAbs ≤ y.natAbs + y.natAbs := by
            have e3 : (x.tmod y).natAbs < y.natAbs := by rw [Int.natAbs_tmod]; exact Nat.mod_lt _ (by omega)
            by_cases hq : x.tmod y ≠ 0 ∧ ¬ (x.tmod y < 0 ↔ y < 0)
            · have := (e1 true (by simp [hq])).2; simp at this; omega
            · have := (e1 false (by simp; intro h; exact Classical.byContradiction fun h2 => hq ⟨h, by simpa using h2⟩)).2; simp at this; omega
          rw [itoaK_eq ⟨by omega, by omega⟩, itoaK_eq ⟨by omega, by omega⟩]
          exact ⟨_, divmod_112 (ble_le hc.1) (ble_le hc.2) hx hy h0⟩
      · simp at h
  · simp at h
theorem prim116 : PrimSound Γ0 Tryz.prog 116 q116 := prim_of_CT T1_ok fun l v h => by
  unfold q116 at h
  split at h
  · rename_i s
    split at h
    · rename_i n hn
      obtain ⟨rfl, h1, h2⟩ := canK_eq hn
      simp at h; subst h
      exact ⟨_, small_116 (by omega) (by omega)⟩
    · simp at h
  · simp at h
theorem prim156 : PrimSound Γ0 Tryz.prog 156 q156 := prim_of_CT T1_ok fun l v h => by
  unfold q156 at h
  split at h
  · rename_i s t
    split at h
    · rename_i x y hx hy
      obtain ⟨rfl, h1, h2⟩ := canK_eq hx
      obtain ⟨rfl, h3, h4⟩ := canK_eq hy
      simp at h; subst h
      rw [itoaK_eq ⟨by omega, by omega⟩]
      exact ⟨_, sub_156 (itoaB_le18 (by omega) (by omega)) (itoaB_le18 (by omega) (by omega)) (itoaB_le18 (by omega) (by omega))⟩
    · simp at h
  · simp at h
theorem prim44 : PrimSound Γ0 Tryz.prog 44 q44 := prim_of_CT T1_ok fun l v h => by
  unfold q44 at h
  split at h
  · rename_i cs
    split at h
    · rename_i p hp
      have := intsL_eq hp; subst this
      cases hc : Nat.ble p.length 1000000000 with
      | false => rw [hc] at h; simp at h
      | true =>
        rw [hc] at h
        simp at h; subst h
        exact ⟨_, check_44 p (ble_le hc)⟩
    · simp at h
  · simp at h
theorem prim14 : PrimSound Γ0 Tryz.prog 14 q14 := prim_of_CT T1_ok fun l v h => by
  unfold q14 at h
  split at h
  · rename_i cs k
    split at h
    · rename_i p hp
      have := intsL_eq hp; subst this
      cases hc : (intB (chkP p) 0 && p.all isF && leI 1 k && leI k 50000 && (List.range p.length).all (dec p k)) with
      | false => rw [hc] at h; simp at h
      | true =>
        rw [hc] at h
        simp at h; subst h
        simp only [Bool.and_eq_true, leI, decide_eq_true_eq, List.all_eq_true, List.mem_range] at hc
        obtain ⟨⟨⟨⟨h1, h2⟩, h3⟩, h4⟩, h5⟩ := hc
        exact patent_14 (intB_eq h1) h2 h3 h4 h5
    · simp at h
  · simp at h
def L2 : PL := [(94, q94), (95, q95), (96, q96), (112, q112), (156, q156), (116, q116), (44, q44), (14, q14), (127, pItoa), (202, pAtoi), (211, pUint)]
noncomputable abbrev T2 : Tab := mkT fnT genT L2
theorem L2_ok : PLOk Γ0 Tryz.prog L2 := ⟨⟨by decide +kernel, prim94⟩, ⟨by decide +kernel, prim95⟩, ⟨by decide +kernel, prim96⟩, ⟨by decide +kernel, prim112⟩, ⟨by decide +kernel, prim156⟩, ⟨by decide +kernel, prim116⟩, ⟨by decide +kernel, prim44⟩, ⟨by decide +kernel, prim14⟩, L1_ok⟩
theorem T2_ok : TabOk Γ0 Tryz.prog T2 := mkT_ok T0_ok L2_ok
end Go.Vm

/- The ten lists, with their Just and Trivial temperaments. -/
set_option maxRecDepth 1000000
namespace Go.Vm
open Go
def idR (n i : Nat) : List Int := (List.range n).map fun j => if j = i then 1 else 0
def idM (n : Nat) : I := .sl 1 ((List.range n).map fun i => rI (idR n i))
def tJ (p : List Int) : I := .agg [rI p, .sl 1 [], idM p.length]
def tT (p : List Int) : I := .agg [rI p, idM p.length, .sl 1 []]
def pLs : List (List Int) := [[2, 3, 5], [2, 3, 5, 7], [2, 3], [2, 3, 7], [2, 5, 7], [3, 5, 7], [2, 3, 5, 11], [2], [2, 3, 7, 13], [3, 5, 7, 13]]
noncomputable def factsB (p : List Int) : Bool := evI T2 200 35 [rI p] (.tup [tJ p, iI 0]) && evI T2 200 36 [rI p] (.tup [tT p, iI 0]) && evI T2 200 32 [tJ p] (iI 0) && evI T2 200 32 [tT p] (iI 0)
end Go.Vm

/- Evaluation by rewriting, one thing after the other. -/
namespace Go.Vm
open Go
section
variable {α β : Type}
def bindO (o : Option α) (k : α → Option β) : Option β := match o with | some a => k a | none => none
@[congr] theorem bindO_congr {o o' : Option α} {k : α → Option β} (h : o = o') : bindO o k = bindO o' k := by rw [h]
@[simp] theorem bindO_some {a : α} {k : α → Option β} : bindO (some a) k = k a := (rfl)
@[simp] theorem bindO_none {k : α → Option β} : bindO none k = none := (rfl)
end
def seqK (r : Option (Ex × St)) (k : St → Option (Ex × St)) : Option (Ex × St) := match r with | some (.normal, st') => k st' | r => r
@[congr] theorem seqK_congr {r r' : Option (Ex × St)} {k : St → Option (Ex × St)} (h : r = r') : seqK r k = seqK r' k := by rw [h]
@[simp] theorem seqK_n {st : St} {k : St → Option (Ex × St)} : seqK (some (.normal, st)) k = k st := (rfl)
@[simp] theorem seqK_r {st : St} {k : St → Option (Ex × St)} : seqK (some (.ret, st)) k = some (.ret, st) := (rfl)
@[simp] theorem seqK_e {id : Nat} {st : St} {k : St → Option (Ex × St)} : seqK (some (.exit id, st)) k = some (.exit id, st) := (rfl)
def blockK (id : Nat) (r : Option (Ex × St)) : Option (Ex × St) := match r with | some (.exit id', st') => if id' = id then some (.normal, st') else some (.exit id', st') | r => r
@[simp] theorem blockK_n {id : Nat} {st : St} : blockK id (some (.normal, st)) = some (.normal, st) := (rfl)
@[simp] theorem blockK_r {id : Nat} {st : St} : blockK id (some (.ret, st)) = some (.ret, st) := (rfl)
@[simp] theorem blockK_e {id j : Nat} {st : St} : blockK id (some (.exit j, st)) = if j = id then some (.normal, st) else some (.exit j, st) := (rfl)
def condK (v : Option F) (a b : Option (Ex × St)) : Option (Ex × St) := match v with | some (.i (.bool t)) => if t then a else b | _ => none
@[congr] theorem condK_congr {v v' : Option F} {a b : Option (Ex × St)} (h : v = v') : condK v a b = condK v' a b := by rw [h]
@[simp] theorem condK_t {a b : Option (Ex × St)} : condK (some (.i (.bool true))) a b = a := (rfl)
@[simp] theorem condK_f {a b : Option (Ex × St)} : condK (some (.i (.bool false))) a b = b := (rfl)
def guardK (v : Option F) (want : Bool) (a b : Option St) : Option St := match v with
  | some (.i (.bool t)) => if t == want then a else b
  | some (.i (.tup [])) => b
  | _ => none
@[congr] theorem guardK_congr {v v' : Option F} {w : Bool} {a b : Option St} (h : v = v') : guardK v w a b = guardK v' w a b := by rw [h]
@[simp] theorem guardK_tt {a b : Option St} : guardK (some (.i (.bool true))) true a b = a := (rfl)
@[simp] theorem guardK_tf {a b : Option St} : guardK (some (.i (.bool true))) false a b = b := (rfl)
@[simp] theorem guardK_ft {a b : Option St} : guardK (some (.i (.bool false))) true a b = b := (rfl)
@[simp] theorem guardK_ff {a b : Option St} : guardK (some (.i (.bool false))) false a b = a := (rfl)
@[simp] theorem guardK_u {w : Bool} {a b : Option St} : guardK (some (.i (.tup []))) w a b = b := (rfl)
section
variable {T : Tab} {C : CallSem} {st : St}
theorem EV_seqL {a b : VC} : EV T (.seq a b) st = seqK (EV T a st) (EV T b) := EV_seq
theorem EV_loopL {b : VC} : EV T (.loop b) st = seqK (EV T b st) (EV T (.loop b)) := EV_loop
theorem EV_blockL {id : Nat} {b : VC} : EV T (.block id b) st = blockK id (EV T b st) := EV_block
theorem EV_condL {o : Opd} {a b : VC} : EV T (.cond o a b) st = condK (st.val o) (EV T a st) (EV T b st) := EV_cond
theorem EV_regionL {ss : List Stm} {keep : List Nat} : EV T (.region ss keep) st = bindO (stepStms T (CT T) ss st) (fun st' => some (.normal, { st' with env := pruneEnv st'.env keep })) := by
  rw [EV_region]
  cases stepStms T (CT T) ss st <;> rfl
theorem stms_nil : stepStms T C [] st = some st := (rfl)
theorem stms_cons {s : Stm} {r : List Stm} : stepStms T C (s :: r) st = bindO (stepStm T C st s) (stepStms T C r) := by
  simp only [stepStms]
  cases stepStm T C st s <;> rfl
theorem stm_op {dst : Option Nat} {o : VOp} : stepStm T C st (.op dst none o) = bindO (stepOp T C st o) (fun p => some (p.2.put dst p.1)) := by
  simp only [stepStm, bindO]
  cases stepOp T C st o with
  | none => rfl
  | some p => rfl
theorem stm_opg {dst : Option Nat} {g : Nat} {w : Bool} {o : VOp} : stepStm T C st (.op dst (some (g, w)) o) = guardK (get st.env g) w (bindO (stepOp T C st o) (fun p => some (p.2.put dst p.1))) (some (st.put dst (some (.i (.tup []))))) := by
  simp only [stepStm, guardK, bindO]
  cases stepOp T C st o with
  | none => rfl
  | some p => rfl
theorem stm_pre {g s : Stm} : stepStm T C st (.pre g s) = bindO (stepStm T C st g) (fun st' => stepStm T C st' s) := by
  simp only [stepStm]
  cases stepStm T C st g <;> rfl
theorem stm_frz {t : Nat} : stepStm T C st (.frz t) = match get st.env t with
    | some (.own l _ _ _) => st.freeze l
    | some (.ref l _) => st.freeze l
    | some (.i _) => some st
    | _ => none := (rfl)
theorem stm_junk {t off : Nat} : stepStm T C st (.junk t off) = match get st.env t with
    | some (.ref l o) => match hget st.hp l with
      | some b => match b.at none (o + off) with
        | some y => if y.one then some { st with hp := hset l (b.store (o + off) [.i .junk]) st.hp } else none
        | none => none
      | none => none
    | _ => none := (rfl)
theorem stm_ownt {t k : Nat} {hint : Option Nat} : stepStm T C st (.ownt t k hint) = match get st.env t with
    | some (.i (.nils _)) => if k = 0 then none else match st.create hint (.flat []) with
      | some (m, st') => some (st'.put (some t) (some (.own m 0 0 k)))
      | none => none
    | some _ => some st
    | none => none := (rfl)
theorem stm_frzc {t off : Nat} : stepStm T C st (.frzc t off) = match get st.env t with
    | some (.ref l o) => match hget st.hp l with
      | some b => match b.at none (o + off) with
        | some (.own m _ _ _) => st.freeze m
        | some (.i _) => some st
        | _ => none
      | none => none
    | _ => none := (rfl)
theorem stm_ownnil {t off k : Nat} {hint : Option Nat} : stepStm T C st (.ownnil t off k hint) = match get st.env t with
    | some (.ref l o) => match hget st.hp l with
      | some b => match b.at none (o + off) with
        | some (.i (.nils _)) => if k = 0 then none else match st.create hint (.flat []) with
          | some (m, st') => if m = l then none else some { st' with hp := hset l (b.store (o + off) [.own m 0 0 k]) st'.hp }
          | none => none
        | _ => none
      | none => none
    | _ => none := (rfl)
theorem op_callL {g : FuncId} {args : List (Bool × Opd)} {hints : Option (Option Nat)} : stepOp T C st (.call g args hints) = bindO (st.vals args) (fun vs => callOp T C st g vs hints) := by
  simp only [stepOp]
  cases st.vals args <;> rfl
/-- The end of a function. -/
def endK (T : Tab) (vf : VFun) (x : Nat) (r : Option (Ex × St)) : Option (F × HS) := match r with
  | some (.exit _, _) => none
  | some (_, st) => bindO (stepStms T (fun _ _ _ => none) vf.fin st) fun st => bindO (loadResL st vf.results) fun vs => if x ≤ st.nxt then some (retVal vs, (st.hp, st.nxt)) else none
  | none => none
@[congr] theorem endK_congr {vf : VFun} {x : Nat} {r r' : Option (Ex × St)} (h : r = r') : endK T vf x r = endK T vf x r' := by rw [h]
@[simp] theorem endK_n {vf : VFun} {x : Nat} : endK T vf x (some (.normal, st)) = bindO (stepStms T (fun _ _ _ => none) vf.fin st) fun st => bindO (loadResL st vf.results) fun vs => if x ≤ st.nxt then some (retVal vs, (st.hp, st.nxt)) else none := (rfl)
@[simp] theorem endK_r {vf : VFun} {x : Nat} : endK T vf x (some (.ret, st)) = bindO (stepStms T (fun _ _ _ => none) vf.fin st) fun st => bindO (loadResL st vf.results) fun vs => if x ≤ st.nxt then some (retVal vs, (st.hp, st.nxt)) else none := (rfl)
theorem CT_L {g : FuncId} {vf : VFun} {args : List F} {h : Heap} {x : Nat} (hp : T.prim g = none) (hf : T.fn g = some vf) : CT T g args (h, x) =
    if args.length = vf.params then endK T vf x (EV T vf.body { env := enterEnv 0 args, hp := h, nxt := x, prot := h.map (·.1) }) else none := by
  rw [CT_eq hp hf]
  split
  · cases EV T vf.body { env := enterEnv 0 args, hp := h, nxt := x, prot := h.map (·.1) } with
    | none => rfl
    | some q =>
      obtain ⟨e, st⟩ := q
      have key : (match stepStms T (fun _ _ _ => none) vf.fin st with
        | some st => match loadResL st vf.results with
          | some vs => if x ≤ st.nxt then some (retVal vs, (st.hp, st.nxt)) else none
          | none => none
        | none => none) = bindO (stepStms T (fun _ _ _ => none) vf.fin st) fun st => bindO (loadResL st vf.results) fun vs => if x ≤ st.nxt then some (retVal vs, (st.hp, st.nxt)) else none := by
        cases stepStms T (fun _ _ _ => none) vf.fin st with
        | none => rfl
        | some st2 => simp only [bindO]; cases loadResL st2 vf.results <;> rfl
      cases e with
      | normal => exact key
      | ret => exact key
      | exit id => rfl
  · rfl
end
end Go.Vm

/- Whole numbers at the second table, and rows. -/
set_option linter.unusedSimpArgs false
set_option linter.unusedVariables false
set_option maxRecDepth 100000
namespace Go.Vm
open Go
attribute [local simp] EV_seqL EV_condL EV_blockL EV_regionL stms_nil stms_cons stm_op stm_opg stm_pre stm_frz stm_junk stm_ownt stm_frzc stm_ownnil op_callL

theorem size18 {x : Int} (h : -100000000 < x ∧ x < 1000000000) : Nat.ble (itoaB x).size 18 = true := Nat.ble_eq_true_of_le (itoaB_le18 (by omega) (by omega))
theorem size9 {x : Int} (h : -100000000 < x ∧ x < 1000000000) : Nat.ble (itoaB x).size 9 = true := Nat.ble_eq_true_of_le (itoaB_le9 h.1 h.2)
/-- Small enough for a product. -/
abbrev S9 (x : Int) : Prop := -100000000 < x ∧ x < 1000000000
theorem of_T2 {x : Int} (h : i64ok x) : Ret (CT T2 96 [.i (iI x)] ([], 1000)) (zB x) :=
  ⟨_, CT_p (l := [iI x]) (show T2.prim 96 = some q96 from rfl) (by simp only [q96, leI, decide_eq_true h.1, decide_eq_true h.2]; rw [itoaK_eq h]; rfl)⟩
theorem add_T2 {x y : Int} (hx : S9 x) (hy : S9 y) : Ret (CT T2 94 [.i (zB x), .i (zB y)] ([], 1000)) (zB (x + y)) :=
  ⟨_, CT_p (l := [zB x, zB y]) (show T2.prim 94 = some q94 from rfl) (by simp only [q94, size18 hx, size18 hy, itoaB_atoi]; rw [itoaK_eq ⟨by omega, by omega⟩]; rfl)⟩
theorem mul_T2 {x y : Int} (hx : S9 x) (hy : S9 y) : Ret (CT T2 95 [.i (zB x), .i (zB y)] ([], 1000)) (zB (x * y)) :=
  ⟨_, CT_p (l := [zB x, zB y]) (show T2.prim 95 = some q95 from rfl) (by
    have hb : i64ok (x * y) := by
      have h3 : (x * y).natAbs ≤ 1000000000 * 1000000000 := by rw [Int.natAbs_mul]; exact Nat.mul_le_mul (by omega) (by omega)
      constructor <;> omega
    simp only [q95, size9 hx, size9 hy, itoaB_atoi]; rw [itoaK_eq hb]; rfl)⟩
theorem canK_of {x : Int} (h1 : -99999999999999999 ≤ x) (h2 : x ≤ 99999999999999999) : canK (itoaB x) = some x := by
  unfold canK
  rw [itoaB_atoi]
  have e : bytesB (itoaL x) (itoaB x).data.toList = true := by
    rw [itoaB_list, itoaL_eq ⟨by omega, by omega⟩]
    have : ∀ l : List UInt8, bytesB l l = true := by
      intro l
      induction l with
      | nil => rfl
      | cons a l ih => simp [bytesB, ih]
    exact this _
  simp only [leI, decide_eq_true h1, decide_eq_true h2, e]
  rfl
theorem sub_T2 {x y : Int} (hx : S9 x) (hy : S9 y) : Ret (CT T2 156 [.i (zB x), .i (zB y)] ([], 1000)) (zB (x - y)) :=
  ⟨_, CT_p (l := [zB x, zB y]) (show T2.prim 156 = some q156 from rfl) (by simp only [q156, canK_of (x := x) (by omega) (by omega), canK_of (x := y) (by omega) (by omega)]; rw [itoaK_eq ⟨by omega, by omega⟩])⟩
theorem small_T2 {x : Int} (hx : S9 x) : Ret (CT T2 116 [.i (zB x)] ([], 1000)) (.tup [iI x, .bool true]) :=
  ⟨_, CT_p (l := [zB x]) (show T2.prim 116 = some q116 from rfl) (by simp only [q116, canK_of (x := x) (by omega) (by omega)])⟩
theorem div1_T2 {x : Int} (hx : S9 x) : Ret (CT T2 112 [.i (zB x), .i (zB 1)] ([], 1000)) (.tup [zB x, zB 0, iI 0]) :=
  ⟨_, CT_p (l := [zB x, zB 1]) (show T2.prim 112 = some q112 from rfl) (by
    have e1 : x.fdiv 1 = x := by rw [Int.fdiv_eq_ediv_of_nonneg _ (by omega)]; omega
    have e2 : x.fmod 1 = 0 := by rw [Int.fmod_eq_emod_of_nonneg _ (by omega)]; omega
    simp only [q112, size18 hx, size18 (x := 1) (by omega), itoaB_atoi, e1, e2]
    rw [itoaK_eq ⟨by omega, by omega⟩, itoaK_eq ⟨by omega, by omega⟩]; rfl)⟩
theorem chk_T2 {p : List Int} (h : p.length ≤ 1000000000) : Ret (CT T2 44 [.i (rI p)] ([], 1000)) (iI (chkP p)) :=
  ⟨_, CT_p (l := [rI p]) (show T2.prim 44 = some q44 from rfl) (by
    have e : ∀ p : List Int, intsL (p.map iI) = some p := by
      intro p
      induction p with
      | nil => rfl
      | cons a p ih => simp [intsL, ih]
    simp only [q44, e, Nat.ble_eq_true_of_le h]; rfl)⟩
/-- Right elements of a row. -/
def Rw (v : List Int) : Prop := v.length ≤ 64 ∧ ∀ n ∈ v, -1000000000 ≤ n ∧ n ≤ 1000000000
theorem fits_55 {n : Int} (h : -1000000000 ≤ n ∧ n ≤ 1000000000) : Ret (CT T2 55 [.i (iI n)] ([], 1000)) (.bool true) := by
  rw [CT_L (vf := v55) rfl rfl]
  simp [v55, h.1, h.2]
theorem fits_54 {n : Int} (h : -1000000000 ≤ n ∧ n ≤ 1000000000) : Ret (CT T2 54 [.i (iI n)] ([], 1000)) (.bool false) := by
  rw [CT_L (vf := v54) rfl rfl]
  simp [v54, call1 (show thrOf T2 55 = false from rfl) (fits_55 h)]
def st93 (v : List Int) (f : I) (i : Nat) : St := { env := [(0, some (.i (rI v))), (1, some (.i f)), (7, some (.i (iI v.length))), (8, some (.i (iI i)))], hp := [], nxt := 1000, prot := [] }
theorem step_93 {v : List Int} {g i : Nat} (hi : i < v.length) (hb : v.length ≤ 64) (ht : thrOf T2 g = false) (hf : Ret (CT T2 g [.i (iI v[i])] ([], 1000)) (.bool false)) : EV T2 v93_0 (st93 v (.fn g []) i) = some (.normal, st93 v (.fn g []) (i + 1)) := by
  have a1 : (i : Int) < v.length := by omega
  have a2 : (i : Int) + 1 ≤ v.length := by omega
  have a3 : i + 1 ≤ v.length := by omega
  have w1 : IntKind.i64.wrap ((i : Int) + 1) = (i : Int) + 1 := wr2 (by omega) (by omega)
  simp [v93_0, st93, I.at, hi, a1, a2, a3, w1, call1 ht hf]
theorem index_93 {v : List Int} {g : Nat} (hb : v.length ≤ 64) (ht : thrOf T2 g = false) (hf : ∀ n ∈ v, Ret (CT T2 g [.i (iI n)] ([], 1000)) (.bool false)) : Ret (CT T2 93 [.i (rI v), .i (.fn g [])] ([], 1000)) (iI (-1)) := by
  have k := EV_for (T := T2) (b := v93_0) (st93 v (.fn g [])) v.length (r := EV T2 (.loop v93_0) (st93 v (.fn g []) v.length)) (fun i hi => step_93 hi hb ht (hf _ (List.getElem_mem hi))) rfl 0 (by omega)
  have o : EV T2 (.loop v93_0) (st93 v (.fn g []) v.length) = some (.exit 0, { env := [(0, some (.i (rI v))), (1, some (.i (.fn g []))), (7, some (.i (iI v.length))), (8, some (.i (iI v.length))), (9, some (.i (.bool false)))], hp := [], nxt := 1000, prot := [] }) := by
    rw [EV_loopL]
    simp [v93_0, st93]
  rw [o] at k
  simp only [st93, Int.natCast_zero] at k
  rw [CT_L (vf := v93) rfl rfl]
  simp [v93, k]
theorem contains_53 {v : List Int} {g : Nat} (hb : v.length ≤ 64) (ht : thrOf T2 g = false) (hf : ∀ n ∈ v, Ret (CT T2 g [.i (iI n)] ([], 1000)) (.bool false)) : Ret (CT T2 53 [.i (rI v), .i (.fn g [])] ([], 1000)) (.bool false) := by
  rw [CT_L (vf := v53) rfl rfl]
  simp [v53, call2 (show thrOf T2 93 = false from rfl) (index_93 hb ht hf)]
theorem rowCheck_22 {v : List Int} (h : Rw v) : Ret (CT T2 22 [.i (rI v)] ([], 1000)) (iI 0) := by
  have c := contains_53 (g := 54) h.1 rfl fun n hn => fits_54 (h.2 n hn)
  have hl := h.1
  have a1 : ¬ (v.length : Int) > 64 := by omega
  have a2 : ¬ 64 < v.length := by omega
  rw [CT_L (vf := v22) rfl rfl]
  simp [v22, a1, a2, call2 (show thrOf T2 53 = false from rfl) c]
theorem valCheck_23 {p v : List Int} (hp : chkP p = 0) (h : Rw v) (hl : v.length = p.length) : Ret (CT T2 23 [.i (rI p), .i (rI v)] ([], 1000)) (iI 0) := by
  have c := chk_T2 (p := p) (by have := chkP_len hp; omega)
  rw [hp] at c
  rw [CT_L (vf := v23) rfl rfl]
  simp [v23, call1 (show thrOf T2 44 = false from rfl) c, call1 (show thrOf T2 22 = false from rfl) (rowCheck_22 h), hl]
end Go.Vm

/- Supports and Coordinates of the Just temperament. -/
set_option linter.unusedSimpArgs false
set_option linter.unusedVariables false
set_option maxRecDepth 100000
namespace Go.Vm
open Go
attribute [local simp] EV_seqL EV_condL EV_blockL EV_regionL stms_nil stms_cons stm_op stm_opg stm_pre stm_frz stm_junk stm_ownt stm_frzc stm_ownnil op_callL

theorem begin_56 {p v : List Int} {C M : I} (hc : Ret (CT T2 32 [.i (.agg [rI p, C, M])] ([], 1000)) (iI 0)) (hp : chkP p = 0) (h : Rw v) (hl : v.length = p.length) : Ret (CT T2 56 [.i (.agg [rI p, C, M]), .i (.sl 1 [rI v])] ([], 1000)) (iI 0) := by
  have w1 : IntKind.i64.wrap 1 = 1 := rfl
  rw [CT_L (vf := v56) rfl rfl]
  simp [v56, v56_0, I.at, EV_loopL, call1 (show thrOf T2 32 = false from rfl) hc, call2 (show thrOf T2 23 = false from rfl) (valCheck_23 hp h hl), w1]
theorem supJ_57 {p v : List Int} {M : I} : Ret (CT T2 57 [.i (.agg [rI p, .sl 1 [], M]), .i (rI v)] ([], 1000)) (.bool true) := by
  rw [CT_L (vf := v57) rfl rfl]
  simp [v57, v57_1, I.at, EV_loopL]
theorem supportsJ_33 {p v : List Int} {M : I} (hc : Ret (CT T2 32 [.i (.agg [rI p, .sl 1 [], M])] ([], 1000)) (iI 0)) (hp : chkP p = 0) (h : Rw v) (hl : v.length = p.length) : Ret (CT T2 33 [.i (.agg [rI p, .sl 1 [], M]), .i (rI v)] ([], 1000)) (.tup [.bool true, iI 0]) := by
  rw [CT_L (vf := v33) rfl rfl]
  simp [v33, I.at, fillF, St.parts, callS2 (show thrOf T2 56 = false from rfl) (begin_56 hc hp h hl) rfl, call2 (show thrOf T2 57 = false from rfl) (supJ_57 (p := p) (v := v) (M := M))]
/-- The first comma of the Trivial temperament is the first prime. -/
def st57 (v : List Int) (n : Nat) (rest : List I) (sum : Int) (i : Nat) : St := { env := [(1, some (.i (rI v))), (7, some (.i (zB sum))), (11, some (.i (.sl 1 (rI (idR n 0) :: rest)))), (12, some (.i (iI (rest.length + 1)))), (13, some (.i (iI 0))), (17, some (.i (rI (idR n 0)))), (18, some (.i (iI n))), (19, some (.i (iI i)))], hp := [], nxt := 1000, prot := [] }
theorem idR_len (n i : Nat) : (idR n i).length = n := by simp [idR]
theorem step_57 {v : List Int} {n i : Nat} {rest : List I} {sum : Int} (hn : n ≤ 6) (hl : v.length = n) (hi : i < n) (hv : ∀ x ∈ v, S9 x) (hs : S9 sum) : EV T2 v57_0 (st57 v n rest sum i) = some (.normal, st57 v n rest (sum + (if i = 0 then 1 else 0) * v[i]) (i + 1)) := by
  have l0 := idR_len n 0
  have hx := hv _ (List.getElem_mem (show i < v.length by omega))
  have e1 : (idR n 0)[i]'(by omega) = if i = 0 then 1 else 0 := by simp [idR]
  have c1 : S9 (if i = 0 then (1 : Int) else 0) := by split <;> omega
  have o1 := of_T2 (x := if i = 0 then (1 : Int) else 0) ⟨by omega, by omega⟩
  have o2 := of_T2 (x := v[i]) ⟨by omega, by omega⟩
  have m1 := mul_T2 c1 hx
  have c2 : S9 ((if i = 0 then (1 : Int) else 0) * v[i]) := by split <;> simp <;> omega
  have d1 := add_T2 hs c2
  have hiv : i < v.length := by omega
  have a1 : (i : Int) < n := by omega
  have a2 : (i : Int) + 1 ≤ n := by omega
  have a3 : i + 1 ≤ n := by omega
  have w1 : IntKind.i64.wrap ((i : Int) + 1) = (i : Int) + 1 := wr2 (by omega) (by omega)
  have hil : i < (idR n 0).length := by omega
  simp [v57_0, st57, I.at, l0, hl, hi, hiv, hil, e1, a1, a2, a3, w1, call1 (show thrOf T2 96 = false from rfl) o1, call1 (show thrOf T2 96 = false from rfl) o2, call2 (show thrOf T2 95 = false from rfl) m1, call2 (show thrOf T2 94 = false from rfl) d1]
theorem loop_57 {v : List Int} {n : Nat} {rest : List I} (hn : n ≤ 6) (h0 : 0 < n) (hl : v.length = n) (hv : ∀ x ∈ v, S9 x) : EV T2 (.loop v57_0) (st57 v n rest 0 0) = some (.exit 2, { env := [(1, some (.i (rI v))), (7, some (.i (zB (v[0]'(by omega))))), (11, some (.i (.sl 1 (rI (idR n 0) :: rest)))), (12, some (.i (iI (rest.length + 1)))), (13, some (.i (iI 0))), (17, some (.i (rI (idR n 0)))), (18, some (.i (iI n))), (19, some (.i (iI n))), (20, some (.i (.bool false)))], hp := [], nxt := 1000, prot := [] }) := by
  have hv0 := hv _ (List.getElem_mem (show 0 < v.length by omega))
  have k := EV_for (T := T2) (b := v57_0) (fun i => st57 v n rest (if i = 0 then 0 else v[0]'(by omega)) i) n (r := EV T2 (.loop v57_0) (st57 v n rest (if n = 0 then 0 else v[0]'(by omega)) n)) (fun i hi => by
    have s : S9 (if i = 0 then 0 else v[0]'(by omega)) := by split <;> omega
    have := step_57 (rest := rest) (sum := if i = 0 then 0 else v[0]'(by omega)) hn hl hi hv s
    rw [this]
    have e : (if i = 0 then (0 : Int) else v[0]'(by omega)) + (if i = 0 then (1 : Int) else 0) * v[i] = (if i + 1 = 0 then (0 : Int) else v[0]'(by omega)) := by
      by_cases hi0 : i = 0
      · subst hi0; simp
      · simp [hi0]
    rw [e]) rfl 0 (by omega)
  simp only [if_pos] at k
  rw [k, if_neg (by omega), EV_loopL]
  simp [v57_0, st57]
theorem idM_cons {n : Nat} (h : 0 < n) : ∃ rest, idM n = .sl 1 (rI (idR n 0) :: rest) ∧ rest.length + 1 = n := by
  obtain ⟨m, rfl⟩ : ∃ m, n = m + 1 := ⟨n - 1, by omega⟩
  refine ⟨((List.range m).map (· + 1)).map fun i => rI (idR (m + 1) i), ?_, by simp⟩
  unfold idM
  rw [List.range_succ_eq_map]
  rfl
theorem supT_57 {p v : List Int} {M : I} (hn : p.length ≤ 6) (h0 : 0 < p.length) (hl : v.length = p.length) (hv : ∀ x ∈ v, S9 x) (hz : v[0]'(by omega) ≠ 0) : Ret (CT T2 57 [.i (.agg [rI p, idM p.length, M]), .i (rI v)] ([], 1000)) (.bool false) := by
  obtain ⟨rest, e, hr⟩ := idM_cons h0
  have k := loop_57 (rest := rest) hn h0 hl hv
  simp only [st57, Int.natCast_zero] at k
  have l0 := idR_len p.length 0
  have z0 : zB 0 = .str (mkB [48]) := by rw [zB, show itoaB 0 = mkB [48] from itoaB_dig (n := 0) (by omega)]
  rw [z0] at k
  have hz' : ((itoaB (v[0]'(by omega))).data.toList == [48]) = false := by rw [zl_zero]; simp [hz]
  have c1 : (0 : Int) < rest.length + 1 := by omega
  have c2 : (1 : Int) ≤ rest.length + 1 := by omega
  rw [e, CT_L (vf := v57) rfl rfl]
  simp [v57, v57_1, I.at, EV_loopL, sI_mkB, l0, k, c1, c2, hz']
end Go.Vm

/- Calls unfolded, one thing after the other. -/
set_option linter.unusedSimpArgs false
set_option linter.unusedVariables false
namespace Go.Vm
open Go
section
variable {T : Tab} {C : CallSem} {st : St} {g : FuncId} {vs : List (Bool × F)} {hints : Option (Option Nat)}
theorem callOp_thr (ht : thrOf T g = true) : callOp T C st g vs hints = bindO (C g (vs.map (·.2)) (st.hp, st.nxt)) (fun q => if st.prot.all (fun l => (hget st.hp l).isSome || (hget q.2.1 l).isNone) then some (some q.1, { st with env := killGone q.2.1 st.hp st.env, hp := q.2.1, nxt := q.2.2 }) else none) := by
  unfold thrOf at ht
  unfold callOp
  cases hf : T.fn g with
  | none => rw [hf] at ht; simp at ht
  | some vf =>
    rw [hf] at ht
    simp only at ht ⊢
    rw [ht]
    simp only [if_true, thrCall, bindO]
    cases C g (vs.map (·.2)) (st.hp, st.nxt) with
    | none => rfl
    | some q =>
      obtain ⟨r, h', n'⟩ := q
      simp only
      cases hc : st.prot.all (fun l => (hget st.hp l).isSome || (hget h' l).isNone) <;> simp
/-- What comes back from a call with a heap of its own. -/
def resK (h' : Heap) (back : List (Nat × Nat)) (b : Bool) (hint : Option (Option Nat)) (r : F) (st1 : St) : Option (F × St) := match r with
  | .i (.tup vs) => bindO (takeResL h' back b hint (vs.map .i) st1) fun p => some (mkTup p.1, p.2)
  | .tup vs => if owns vs ≤ 1 then bindO (takeResL h' back b hint vs st1) fun p => some (mkTup p.1, p.2) else none
  | v => takeRes h' back b hint v st1
theorem iso_L : isoCall C g vs hints st = bindO (passHp st.hp (passed 0 vs)) fun hp => bindO (passArgs (hdrop (passed 0 vs) st.hp) 0 vs) fun p => bindO (C g p.1 (hp, 1000)) fun q => bindO (takeBack q.2.1 p.2 (passed 0 vs) st) fun st1 => resK q.2.1 (passed 0 vs) p.2 hints q.1 st1 := by
  simp only [isoCall]
  rcases h1 : passHp st.hp (passed 0 vs) with _ | hp
  · simp
  · rcases h2 : passArgs (hdrop (passed 0 vs) st.hp) 0 vs with _ | ⟨ar, b⟩
    · simp
    · simp only [bindO_some]
      rcases h3 : C g ar (hp, 1000) with _ | ⟨r, h', n'⟩
      · simp
      · simp only [bindO_some]
        rcases h4 : takeBack h' b (passed 0 vs) st with _ | st1
        · simp
        · simp only [bindO_some]
          have e1 : ∀ ws : List F, (match takeResL h' (passed 0 vs) b hints ws st1 with | some (xs, st2) => some (mkTup xs, st2) | none => none) = bindO (takeResL h' (passed 0 vs) b hints ws st1) fun p => some (mkTup p.1, p.2) := by
            intro ws
            cases takeResL h' (passed 0 vs) b hints ws st1 with
            | none => rfl
            | some p => obtain ⟨a, c⟩ := p; rfl
          cases r with
          | i x =>
            cases x with
            | tup ws => exact e1 _
            | _ => rfl
          | tup ws =>
            simp only [resK]
            split
            · exact e1 _
            · rfl
          | _ => rfl
theorem callOp_iso (ht : thrOf T g = false) : callOp T C st g vs hints = bindO (isoCall C g vs hints st) (fun p => some (some p.1, p.2)) := by
  unfold thrOf at ht
  unfold callOp
  cases hf : T.fn g with
  | none =>
    simp only
    cases isoCall C g vs hints st <;> rfl
  | some vf =>
    rw [hf] at ht
    simp only at ht ⊢
    rw [ht]
    simp only [Bool.false_eq_true, if_false]
    cases isoCall C g vs hints st <;> rfl
end
theorem snap3_i (h : Heap) (x : I) : snap h 3 (.i x) = some x := (rfl)
theorem snap3_own (h : Heap) (l off len k : Nat) : snap h 3 (.own l off len k) = match hget h l with
    | some (.flat cs) => if off + len * k ≤ cs.length then some (.sl k ((cs.drop off).take (len * k))) else none
    | some (.deep cs) => if off + len * k ≤ cs.length then match mapO (fun c => snap h 2 c) ((cs.drop off).take (len * k)) with | some l => some (.sl k l) | none => none else none
    | none => none := (rfl)
theorem snap3_agg (h : Heap) (cs : List F) : snap h 3 (.agg cs) = match mapO (fun c => snap h 2 c) cs with | some l => some (.agg l) | none => none := (rfl)
theorem snap2_i (h : Heap) (x : I) : snap h 2 (.i x) = some x := (rfl)
theorem snap2_own (h : Heap) (l off len k : Nat) : snap h 2 (.own l off len k) = match hget h l with
    | some (.flat cs) => if off + len * k ≤ cs.length then some (.sl k ((cs.drop off).take (len * k))) else none
    | some (.deep cs) => if off + len * k ≤ cs.length then match mapO (fun c => snap h 1 c) ((cs.drop off).take (len * k)) with | some l => some (.sl k l) | none => none else none
    | none => none := (rfl)
end Go.Vm

/- hermite.reduce over the identity: what is unfolded. -/
set_option linter.unusedSimpArgs false
set_option linter.unusedVariables false
set_option maxRecDepth 100000
set_option maxHeartbeats 40000000
namespace Go.Vm
open Go
attribute [local simp] EV_seqL EV_condL EV_blockL EV_regionL EV_loopL stms_nil stms_cons stm_op stm_opg stm_pre stm_frz stm_junk stm_ownt stm_frzc stm_ownnil op_callL

theorem L183 {args : List F} {h : Heap} {x : Nat} : CT T2 183 args (h, x) = if args.length = v183.params then endK T2 v183 x (EV T2 v183.body { env := enterEnv 0 args, hp := h, nxt := x, prot := h.map (·.1) }) else none := CT_L rfl rfl
theorem L185 {args : List F} {h : Heap} {x : Nat} : CT T2 185 args (h, x) = if args.length = v185.params then endK T2 v185 x (EV T2 v185.body { env := enterEnv 0 args, hp := h, nxt := x, prot := h.map (·.1) }) else none := CT_L rfl rfl
theorem L209 {args : List F} {h : Heap} {x : Nat} : CT T2 209 args (h, x) = if args.length = v209.params then endK T2 v209 x (EV T2 v209.body { env := enterEnv 0 args, hp := h, nxt := x, prot := h.map (·.1) }) else none := CT_L rfl rfl
theorem L208 {args : List F} {h : Heap} {x : Nat} : CT T2 208 args (h, x) = if args.length = v208.params then endK T2 v208 x (EV T2 v208.body { env := enterEnv 0 args, hp := h, nxt := x, prot := h.map (·.1) }) else none := CT_L rfl rfl
theorem L117 {args : List F} {h : Heap} {x : Nat} : CT T2 117 args (h, x) = if args.length = v117.params then endK T2 v117 x (EV T2 v117.body { env := enterEnv 0 args, hp := h, nxt := x, prot := h.map (·.1) }) else none := CT_L rfl rfl
theorem L184 {args : List F} {h : Heap} {x : Nat} : CT T2 184 args (h, x) = if args.length = v184.params then endK T2 v184 x (EV T2 v184.body { env := enterEnv 0 args, hp := h, nxt := x, prot := h.map (·.1) }) else none := CT_L rfl rfl
theorem L152 {args : List F} {h : Heap} {x : Nat} : CT T2 152 args (h, x) = if args.length = v152.params then endK T2 v152 x (EV T2 v152.body { env := enterEnv 0 args, hp := h, nxt := x, prot := h.map (·.1) }) else none := CT_L rfl rfl
theorem wi1 : IntKind.i64.wrap 1 = 1 := rfl
theorem wu1 : IntKind.u64.wrap 1 = 1 := rfl
theorem wi2 : IntKind.i64.wrap 2 = 2 := rfl
theorem wu2 : IntKind.u64.wrap 2 = 2 := rfl
theorem wi3 : IntKind.i64.wrap 3 = 3 := rfl
theorem wu3 : IntKind.u64.wrap 3 = 3 := rfl
theorem wi4 : IntKind.i64.wrap 4 = 4 := rfl
theorem wu4 : IntKind.u64.wrap 4 = 4 := rfl
theorem wi5 : IntKind.i64.wrap 5 = 5 := rfl
theorem wu5 : IntKind.u64.wrap 5 = 5 := rfl
theorem wi6 : IntKind.i64.wrap 6 = 6 := rfl
theorem wu6 : IntKind.u64.wrap 6 = 6 := rfl
theorem wi7 : IntKind.i64.wrap 7 = 7 := rfl
theorem wu7 : IntKind.u64.wrap 7 = 7 := rfl
theorem zeqb (a b : Int) : ((itoaB a).data == (itoaB b).data) = decide (a = b) := by rw [Bool.eq_iff_iff]; simp [zeq]
theorem M1 : Ret (CT T2 232 [.i (.int .u64 1), .i (.int .u64 1)] ([], 1000)) (.tup [.int .u64 0, .int .u64 1]) := evI_eq (n := 100) (args := [.int .u64 1, .int .u64 1]) (by decide +kernel)
theorem M2 : Ret (CT T2 232 [.i (.int .u64 1), .i (.int .u64 2)] ([], 1000)) (.tup [.int .u64 0, .int .u64 2]) := evI_eq (n := 100) (args := [.int .u64 1, .int .u64 2]) (by decide +kernel)
theorem M3 : Ret (CT T2 232 [.i (.int .u64 1), .i (.int .u64 3)] ([], 1000)) (.tup [.int .u64 0, .int .u64 3]) := evI_eq (n := 100) (args := [.int .u64 1, .int .u64 3]) (by decide +kernel)
theorem M4 : Ret (CT T2 232 [.i (.int .u64 1), .i (.int .u64 4)] ([], 1000)) (.tup [.int .u64 0, .int .u64 4]) := evI_eq (n := 100) (args := [.int .u64 1, .int .u64 4]) (by decide +kernel)
end Go.Vm
