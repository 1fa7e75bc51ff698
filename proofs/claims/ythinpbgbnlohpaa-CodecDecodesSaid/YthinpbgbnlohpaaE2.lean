/- How many bits are set, and which is the last: plain Lean. -/
import Derived.Test.YthinpbgbnlohpaaM22
namespace Go.Proofs.Ythinpbgbnlohpaa
set_option linter.unusedSimpArgs false
set_option linter.unusedVariables false
open Go.RowKit
theorem bitAt_byte (b : B32) (k j : Nat) (hj : j < 8) : bitAt b (8 * k + j) = bbit (b.1.getD k 0) j := by
  unfold bitAt
  rw [show (8 * k + j) / 8 = k by omega, show (8 * k + j) % 8 = j by omega]
theorem depths_upto (b : B32) : ∀ k, k ≤ 32 → ((List.range (8 * k)).filter (bitAt b)).length = popN b k
  | 0, _ => by simp [popN]
  | k + 1, h => by
    rw [popN_succ b k (by omega), ← depths_upto b k (by omega), Nat.mul_succ, List.range_add, List.filter_append, List.length_append, List.filter_map, List.length_map]
    congr 1
    unfold pop8
    congr 1
    apply List.filter_congr
    intro j hj
    exact bitAt_byte b k j (by simpa using hj)
theorem depths_len (b : B32) : (depths b).length = popN b 32 := depths_upto b 32 (Nat.le_refl _)
/-- the last bit that is set below n, or -1 -/
def lastI (b : B32) (n : Nat) : Int := match ((List.range n).filter (bitAt b)).getLast? with | some i => i | none => -1
theorem lastI_succ (b : B32) (n : Nat) : lastI b (n + 1) = if bitAt b n then (n : Int) else lastI b n := by
  unfold lastI
  rw [List.range_succ, List.filter_append]
  by_cases h : bitAt b n
  · simp [h]
  · simp [h]
end Go.Proofs.Ythinpbgbnlohpaa
