/- the reference's Bit; bitmap.Len. -/
import Derived.Test.YthinpbgbnlohpaaM20
namespace Go.Proofs.Ythinpbgbnlohpaa
set_option linter.unusedSimpArgs false
set_option linter.unusedVariables false
open Go.RowKit
attribute [local irreducible] wpStill wpList
set_option maxHeartbeats 400000 in
theorem refBit_any (b : B32) (i : Nat) (hi : i < 256) (w : World) :
    Calls Try.prog 46 #[.agg b.cells.toArray, .int .i64 i] w fun e w' => e = .returned (.int .i64 (bitI b i)) ∧ Below w.heap.size w w' := by
  have hc := B32.at_ (rangeAt_new' w b.cells 42) (i / 8) (by omega)
  rw [Nat.zero_add] at hc
  have hx : (b.1.getD (i / 8) 0).toNat < 256 := UInt8.toNat_lt _
  have HB := Lib.hid (show bitI b i = if bbit (b.1.getD (i / 8) 0) (i % 8) then 1 else 0 from rfl)
  generalize b.1.getD (i / 8) 0 = x at *
  go_enter Try.func46, Try.ntmps46
  go_wp2_with fail
  have hb := balloc (brefl w) (.cells b.cells.toArray 42)
  clear hc
  generalize w.alloc (.cells b.cells.toArray 42) = W at *
  go_loopw [5, 6] (fun v j wr => ∃ k : Nat, i % 8 ≤ k ∧ k ≤ 7 ∧ j = .int .i64 k ∧ v = .int .i64 ((x.toNat / 2 ^ (k - i % 8) : Nat) : Int) ∧ wr = W) (fun _ j _ => 7 - (intOf j).toNat)
  case atStart => exact ⟨i % 8, by omega, by omega, rfl, by simp, rfl⟩
  case round =>
    obtain ⟨k, hk1, hk2, rfl, rfl, hw⟩ := hrel
    obtain rfl := hw.symm
    have hq : x.toNat / 2 ^ (k - i % 8) < 256 := Nat.lt_of_le_of_lt (Nat.div_le_self _ _) hx
    by_cases hlt : k < 7
    · have HS := Lib.hid (show x.toNat / 2 ^ (k - i % 8) / 2 = x.toNat / 2 ^ (k + 1 - i % 8) by
        rw [Nat.div_div_eq_div_mul, ← Nat.pow_succ]
        congr 2
        omega)
      generalize x.toNat / 2 ^ (k - i % 8) = y at *
      go_wp2_with fail
      refine ⟨⟨k + 1, by omega, by omega, by go_num, ?_, trivial⟩, by simp [intOf]; omega⟩
      rw [← HS.out]
      go_num
    · obtain rfl : k = 7 := by omega
      have HE := Lib.hid (show ((x.toNat / 2 ^ (7 - i % 8) : Nat) : Int) % 2 = bitI b i by
        rw [HB.out]
        unfold bbit
        generalize x.toNat / 2 ^ (7 - i % 8) = y
        rcases (show y % 2 = 0 ∨ y % 2 = 1 by omega) with h | h
        · rw [h, if_neg (by decide)]; omega
        · rw [h, if_pos (by decide)]; omega)
      generalize x.toNat / 2 ^ (7 - i % 8) = y at *
      go_wp2_with fail
      go_ret
      exact ⟨ret_int HE.out, hb⟩
end Go.Proofs.Ythinpbgbnlohpaa
