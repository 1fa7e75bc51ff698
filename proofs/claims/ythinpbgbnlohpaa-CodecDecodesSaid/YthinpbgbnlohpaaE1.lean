/- Bits of 32 bytes: plain Lean. -/
import Derived.Test.YthinpbgbnlohpaaB1
namespace Go.Proofs.Ythinpbgbnlohpaa
set_option linter.unusedSimpArgs false
set_option linter.unusedVariables false
open Go.RowKit
/-- bit j of a byte, the highest first -/
def bbit (x : UInt8) (j : Nat) : Bool := (x.toNat / 2 ^ (7 - j)) % 2 == 1
/-- bit i of 32 bytes -/
def bitAt (b : B32) (i : Nat) : Bool := bbit (b.1.getD (i / 8) 0) (i % 8)
def pop8 (x : UInt8) : Nat := ((List.range 8).filter (bbit x)).length
def lz8 (x : UInt8) : Nat := ((List.range 8).find? (bbit x)).getD 8
/-- a byte with bit j inverted -/
def flip8 (x : UInt8) (j : Nat) : Nat := if bbit x j then x.toNat - 2 ^ (7 - j) else x.toNat + 2 ^ (7 - j)
theorem all_bytes {p : UInt8 → Prop} (h : ∀ n : Fin 256, p (UInt8.ofNat n.val)) (x : UInt8) : p x := by
  have := h ⟨x.toNat, x.toNat_lt⟩
  rwa [UInt8.ofNat_toNat] at this
theorem pop8_le (x : UInt8) : pop8 x ≤ 8 := by
  unfold pop8
  exact Nat.le_trans (List.length_filter_le _ _) (by simp)
theorem bbit_zero (j : Nat) : bbit 0 j = false := by
  unfold bbit
  simp
theorem byte_zero : ∀ x : UInt8, (∀ j, j < 8 → bbit x j = false) → x = 0 := by
  intro x h
  have key : ∀ n : Fin 256, ((List.range 8).all fun j => !bbit (UInt8.ofNat n.val) j) = true → UInt8.ofNat n.val = 0 := by decide +kernel
  have := all_bytes (p := fun x => ((List.range 8).all fun j => !bbit x j) = true → x = 0) key x
  exact this (by simpa using h)
/-- a byte that is not zero: the first bit that is set -/
theorem lz8_spec : ∀ x : UInt8, x ≠ 0 → lz8 x < 8 ∧ bbit x (lz8 x) = true ∧ ∀ j, j < lz8 x → bbit x j = false := by
  intro x hx
  have key : ∀ n : Fin 256, UInt8.ofNat n.val ≠ 0 → (decide (lz8 (UInt8.ofNat n.val) < 8) && bbit (UInt8.ofNat n.val) (lz8 (UInt8.ofNat n.val)) && (List.range (lz8 (UInt8.ofNat n.val))).all fun j => !bbit (UInt8.ofNat n.val) j) = true := by decide +kernel
  have := all_bytes (p := fun x => x ≠ 0 → (decide (lz8 x < 8) && bbit x (lz8 x) && (List.range (lz8 x)).all fun j => !bbit x j) = true) key x hx
  simp only [Bool.and_eq_true, decide_eq_true_eq, List.all_eq_true, List.mem_range, Bool.not_eq_true'] at this
  exact ⟨this.1.1, this.1.2, this.2⟩
theorem flip8_lt : ∀ (x : UInt8) (j : Nat), j < 8 → flip8 x j < 256 := by
  intro x j hj
  have key : ∀ n : Fin 256, ∀ j : Fin 8, flip8 (UInt8.ofNat n.val) j.val < 256 := by decide +kernel
  exact all_bytes (p := fun x => ∀ j : Fin 8, flip8 x j.val < 256) key x ⟨j, hj⟩
def flipB (x : UInt8) (j : Nat) : UInt8 := UInt8.ofNat (flip8 x j)
theorem flipB_bit : ∀ (x : UInt8) (j k : Nat), j < 8 → k < 8 → bbit (flipB x j) k = if k = j then !bbit x j else bbit x k := by
  intro x j k hj hk
  have key : ∀ n : Fin 256, ∀ j k : Fin 8, bbit (flipB (UInt8.ofNat n.val) j.val) k.val = if k.val = j.val then !bbit (UInt8.ofNat n.val) j.val else bbit (UInt8.ofNat n.val) k.val := by decide +kernel
  exact all_bytes (p := fun x => ∀ j k : Fin 8, bbit (flipB x j.val) k.val = if k.val = j.val then !bbit x j.val else bbit x k.val) key x ⟨j, hj⟩ ⟨k, hk⟩
def depths (b : B32) : List Nat := (List.range 256).filter (bitAt b)
def flipAt (b : B32) (i : Nat) : B32 := ⟨b.1.set (i / 8) (flipB (b.1.getD (i / 8) 0) (i % 8)), by rw [List.length_set]; exact b.2⟩
theorem flipAt_bit (b : B32) (i k : Nat) (hi : i < 256) (hk : k < 256) : bitAt (flipAt b i) k = if k = i then !bitAt b i else bitAt b k := by
  have hb := b.2
  unfold bitAt flipAt
  simp only
  by_cases h : k / 8 = i / 8
  · have e : (b.1.set (i / 8) (flipB (b.1.getD (i / 8) 0) (i % 8))).getD (k / 8) 0 = flipB (b.1.getD (i / 8) 0) (i % 8) := by
      rw [h]
      have : i / 8 < b.1.length := by omega
      simp [List.getD, this]
    rw [e, flipB_bit _ _ _ (by omega) (by omega), h]
    by_cases hk2 : k = i
    · subst hk2; simp
    · have : ¬ k % 8 = i % 8 := by omega
      rw [if_neg this, if_neg hk2]
  · have e : (b.1.set (i / 8) (flipB (b.1.getD (i / 8) 0) (i % 8))).getD (k / 8) 0 = b.1.getD (k / 8) 0 := by
      simp [List.getD, List.getElem?_set, Ne.symm h]
    have hk2 : ¬ k = i := fun hh => h (by rw [hh])
    rw [e, if_neg hk2]
theorem bits_zero (b : B32) (h : ∀ i, i < 256 → bitAt b i = false) : b = zB32 := by
  apply Subtype.ext
  apply List.ext_getElem
  · rw [b.2]; rfl
  · intro i h1 h2
    have hi : i < 32 := by rw [← b.2]; exact h1
    have : b.1[i] = 0 := byte_zero _ (fun j hj => by
      have := h (8 * i + j) (by omega)
      unfold bitAt at this
      rw [show (8 * i + j) / 8 = i by omega, show (8 * i + j) % 8 = j by omega] at this
      simpa [List.getD, h1] using this)
    rw [this]
    exact (List.getElem_replicate (a := (0 : UInt8)) (n := 32) h2).symm
theorem bitAt_zero (i : Nat) : bitAt zB32 i = false := by
  unfold bitAt zB32
  have : (List.replicate 32 (0 : UInt8)).getD (i / 8) 0 = 0 := by
    rw [List.getD_eq_getElem?_getD, List.getElem?_replicate]
    split <;> rfl
  rw [this, bbit_zero]
end Go.Proofs.Ythinpbgbnlohpaa
