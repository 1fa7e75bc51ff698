/- The last bit that is set, found from the first one on: plain Lean. -/
import Derived.Test.YthinpbgbnlohpaaE2
import Derived.Test.YthinpbgbnlohpaaE3
namespace Go.Proofs.Ythinpbgbnlohpaa
set_option linter.unusedSimpArgs false
set_option linter.unusedVariables false
open Go.RowKit
theorem common_zero (r : B32) (h : r ≠ zB32) : common r zB32 < 256 ∧ bitAt r (common r zB32) = true ∧ ∀ j, j < common r zB32 → bitAt r j = false := by
  unfold common
  cases hf : (List.range 256).find? (fun i => bitAt r i ^^ bitAt zB32 i) with
  | none =>
    refine (h (bits_zero r fun i hi => ?_)).elim
    have := List.find?_eq_none.1 hf i (by simpa using hi)
    simpa [bitAt_zero] using this
  | some m =>
    rw [List.find?_range_eq_some] at hf
    obtain ⟨h1, h2, h3⟩ := hf
    simp only [Option.getD_some]
    refine ⟨by simpa using h2, by simpa [bitAt_zero] using h1, fun j hj => ?_⟩
    have := h3 j hj
    simpa [bitAt_zero] using this
theorem lastI_none (b : B32) : ∀ n, (∀ j, j < n → bitAt b j = false) → lastI b n = -1
  | 0, _ => rfl
  | n + 1, h => by rw [lastI_succ, h n (by omega), if_neg (by simp)]; exact lastI_none b n fun j hj => h j (by omega)
theorem lastI_ge (b : B32) : ∀ n, (lastI b n = -1 ∧ ∀ j, j < n → bitAt b j = false) ∨ (∃ m : Nat, m < n ∧ lastI b n = m ∧ bitAt b m = true)
  | 0 => .inl ⟨rfl, fun j hj => by omega⟩
  | n + 1 => by
    rw [lastI_succ]
    by_cases h : bitAt b n = true
    · rw [if_pos h]; exact .inr ⟨n, by omega, rfl, h⟩
    · rw [if_neg h]
      rcases lastI_ge b n with ⟨h1, h2⟩ | ⟨m, h1, h2, h3⟩
      · refine .inl ⟨h1, fun j hj => ?_⟩
        by_cases e : j = n
        · subst e; simpa using h
        · exact h2 j (by omega)
      · exact .inr ⟨m, by omega, h2, h3⟩
theorem lastI_flip (r : B32) (i : Nat) (hi : i < 256) (hb : bitAt r i = true) (hl : ∀ j, j < i → bitAt r j = false) : ∀ n, n ≤ 256 → lastI r n = if lastI (flipAt r i) n = -1 then (if i < n then (i : Int) else -1) else lastI (flipAt r i) n
  | 0, _ => rfl
  | n + 1, hn => by
    have ih := lastI_flip r i hi hb hl n (by omega)
    rw [lastI_succ, lastI_succ, flipAt_bit r i n hi (by omega)]
    by_cases e : n = i
    · subst e
      have h1 : lastI (flipAt r n) n = -1 := lastI_none _ n fun j hj => by rw [flipAt_bit r n j hi (by omega), if_neg (by omega)]; exact hl j hj
      rw [if_pos hb, if_pos rfl, hb, if_neg (by simp : ¬ (!true) = true), h1, if_pos rfl, if_pos (by omega)]
    · rw [if_neg e]
      by_cases h : bitAt r n = true
      · rw [if_pos h, if_pos h, if_neg (by omega)]
      · rw [if_neg h, if_neg h, ih]
        by_cases h2 : lastI (flipAt r i) n = -1
        · rw [if_pos h2, if_pos h2]
          by_cases h3 : i < n
          · rw [if_pos h3, if_pos (by omega)]
          · rw [if_neg h3, if_neg (by omega)]
        · rw [if_neg h2, if_neg h2]
theorem last_step (r : B32) (h : r ≠ zB32) : lastI r 256 = if flipAt r (common r zB32) = zB32 then (common r zB32 : Int) else lastI (flipAt r (common r zB32)) 256 := by
  obtain ⟨h1, h2, h3⟩ := common_zero r h
  generalize common r zB32 = i at *
  rw [lastI_flip r i h1 h2 h3 256 (Nat.le_refl _)]
  by_cases e : flipAt r i = zB32
  · rw [if_pos e, e, lastI_none zB32 256 (fun j _ => bitAt_zero j), if_pos rfl, if_pos h1]
  · rw [if_neg e, if_neg]
    intro h4
    rcases lastI_ge (flipAt r i) 256 with ⟨_, h5⟩ | ⟨m, _, h5, _⟩
    · exact e (bits_zero _ h5)
    · omega
end Go.Proofs.Ythinpbgbnlohpaa
