/- The bits that two keys have in common: plain Lean. -/
import Derived.Test.YthinpbgbnlohpaaE1
namespace Go.Proofs.Ythinpbgbnlohpaa
set_option linter.unusedSimpArgs false
set_option linter.unusedVariables false
open Go.RowKit
theorem bbit_test (x : UInt8) (j : Nat) : bbit x j = x.toNat.testBit (7 - j) := by
  unfold bbit
  rw [Nat.testBit_eq_decide_div_mod_eq]
  rfl
theorem bbit_xor (x y : UInt8) (j : Nat) : bbit (x ^^^ y) j = (bbit x j ^^ bbit y j) := by
  rw [bbit_test, bbit_test, bbit_test, UInt8.toNat_xor, Nat.testBit_xor]
/-- the number of leading bits that two keys have in common -/
def common (a b : B32) : Nat := ((List.range 256).find? fun i => bitAt a i ^^ bitAt b i).getD 256
theorem common_self (a : B32) : common a a = 256 := by
  unfold common
  have : (List.range 256).find? (fun i => bitAt a i ^^ bitAt a i) = none := by
    rw [List.find?_eq_none]
    intro i _
    simp
  rw [this]
  rfl
theorem find_range {p : Nat → Bool} {n m : Nat} (hm : m < n) (h1 : p m = true) (h2 : ∀ j, j < m → p j = false) : (List.range n).find? p = some m := by
  rw [List.find?_range_eq_some]
  exact ⟨h1, by simpa using hm, fun j hj => by simp [h2 j hj]⟩
theorem common_at (a b : B32) (k : Nat) (hk : k < 32) (h : ∀ j, j < k → a.1.getD j 0 = b.1.getD j 0) (hne : a.1.getD k 0 ^^^ b.1.getD k 0 ≠ 0) : common a b = 8 * k + lz8 (a.1.getD k 0 ^^^ b.1.getD k 0) := by
  obtain ⟨h1, h2, h3⟩ := lz8_spec _ hne
  generalize hd : a.1.getD k 0 ^^^ b.1.getD k 0 = d at *
  have hbit : ∀ j, j < 8 → (bitAt a (8 * k + j) ^^ bitAt b (8 * k + j)) = bbit d j := fun j hj => by
    unfold bitAt
    rw [show (8 * k + j) / 8 = k by omega, show (8 * k + j) % 8 = j by omega, ← bbit_xor, hd]
  unfold common
  rw [find_range (m := 8 * k + lz8 d) (by omega) (by rw [hbit _ h1]; exact h2) (fun j hj => by
    by_cases hjk : j / 8 < k
    · unfold bitAt
      rw [h (j / 8) hjk]
      simp
    · obtain ⟨r, rfl⟩ : ∃ r, j = 8 * k + r := ⟨j - 8 * k, by omega⟩
      rw [hbit r (by omega)]
      exact h3 r (by omega))]
  rfl
theorem eq_bytes {a b : B32} (h : ∀ j, j < 32 → a.1.getD j 0 = b.1.getD j 0) : a = b := by
  have ha := a.2
  have hb := b.2
  apply Subtype.ext
  apply List.ext_getElem
  · omega
  · intro i h1 h2
    have := h i (by omega)
    simpa [List.getD, h1, h2] using this
end Go.Proofs.Ythinpbgbnlohpaa
