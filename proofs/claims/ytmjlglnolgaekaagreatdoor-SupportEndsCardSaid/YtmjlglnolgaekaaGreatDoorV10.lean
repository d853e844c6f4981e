/- size.fast at small primes. -/
import Derived.Test.YtmjlglnolgaekaaGreatDoorV09
set_option linter.unusedSimpArgs false
set_option linter.unusedVariables false
set_option maxRecDepth 1000000
namespace Go.Vm
open Go
def fastL : List (Nat × Nat) := [(2, 67108864), (3, 106365032), (5, 155821956), (7, 188398399), (11, 232158526), (13, 248332305)]
theorem fast_fin : fastL.all (fun q => evI T1 200 250 [.int .i64 (q.1 : Int)] (.tup [.int .i64 (q.2 : Int), .bool true])) = true := by decide +kernel
def fastV : List (Nat × Nat) → Int → Int
  | [], _ => 0
  | (a, b) :: r, p => if p = (a : Int) then (b : Int) else fastV r p
def isF (p : Int) : Bool := fastL.any fun q => decide (p = (q.1 : Int))
theorem fastV_mem : ∀ (l : List (Nat × Nat)) (p : Int), l.any (fun q => decide (p = (q.1 : Int))) = true → ∃ q, q ∈ l ∧ p = (q.1 : Int) ∧ fastV l p = (q.2 : Int)
  | [], p, h => by simp at h
  | (a, b) :: r, p, h => by
    by_cases hp : p = (a : Int)
    · exact ⟨(a, b), List.mem_cons_self, hp, by simp [fastV, hp]⟩
    · obtain ⟨q, h1, h2, h3⟩ := fastV_mem r p (by simpa [hp] using h)
      exact ⟨q, List.mem_cons_of_mem _ h1, h2, by simp only [fastV]; rw [if_neg hp]; exact h3⟩
theorem fast_250 {p : Int} (h : isF p = true) : Ret (CT T1 250 [.i (.int .i64 p)] ([], 1000)) (.tup [.int .i64 (fastV fastL p), .bool true]) := by
  obtain ⟨q, h1, h2, h3⟩ := fastV_mem fastL p h
  have := evI_eq (List.all_eq_true.1 fast_fin q h1)
  rw [h2, ← h2, h3, h2]
  exact this
theorem fastV_bd {p : Int} (h : isF p = true) : 67108864 ≤ fastV fastL p ∧ fastV fastL p ≤ 500000000 := by
  obtain ⟨q, h1, h2, h3⟩ := fastV_mem fastL p h
  have : ∀ q ∈ fastL, 67108864 ≤ q.2 ∧ q.2 ≤ 500000000 := by decide
  have := this q h1
  rw [h3]; omega
end Go.Vm
