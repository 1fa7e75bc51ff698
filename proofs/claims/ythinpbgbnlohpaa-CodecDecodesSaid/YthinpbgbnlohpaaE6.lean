/- Plain: what is decoded is encoded to the bytes again. -/
import Derived.Test.YthinpbgbnlohpaaM36
namespace Go.Proofs.Ythinpbgbnlohpaa
set_option linter.unusedSimpArgs false
set_option linter.unusedVariables false
open Go.RowKit
theorem chunks_bytes (l : List UInt8) (h : Nat) : ∀ n, h + 32 * n ≤ l.length → (chunks l h n).flatMap (·.1) ++ l.drop (h + 32 * n) = l.drop h
  | 0, _ => by simp [chunks]
  | n + 1, hn => by
    have ih := chunks_bytes l h n (by omega)
    rw [chunks_succ, List.flatMap_append, List.append_assoc, ← ih]
    congr 1
    have e : l.drop (h + 32 * (n + 1)) = (l.drop (h + 32 * n)).drop 32 := by rw [List.drop_drop]; exact congrArg (fun i => l.drop i) (by omega)
    rw [e, List.flatMap_cons, List.flatMap_nil, List.append_nil, part32_val _ _ (by omega), List.take_append_drop]
theorem part_cons (l : List UInt8) (i : Nat) (h : i + 32 ≤ l.length) : (part32 l i).1 ++ l.drop (i + 32) = l.drop i := by
  rw [part32_val _ _ h, ← List.drop_drop, List.take_append_drop]
theorem ub_of (x : UInt8) : ub (x.toNat : Int) = x := by
  apply UInt8.toNat_inj.1
  have h1 := ub_val (x.toNat : Int)
  have h2 : x.toNat < 256 := UInt8.toNat_lt _
  omega
theorem four (l : List UInt8) (h : 4 ≤ l.length) : [l.getD 0 0, l.getD 1 0, l.getD 2 0, l.getD 3 0] ++ l.drop 4 = l := by
  match l, h with
  | a :: b :: c :: d :: m, _ => simp
theorem dec_ok {l : List UInt8} (h : decErr l = 0) : ¬ l.length < 36 ∧ l.getD 0 0 = 1 ∧ ((l.getD 1 0).toNat = 0 ∨ (l.getD 1 0).toNat = 1) ∧ hdrN l ≤ l.length ∧ (l.length - hdrN l) % 32 = 0 ∧ decN l ≤ 257 ∧ ∀ A c, checkP (decP l ⟨A, decN l, c⟩) = 0 := by
  unfold decErr at h
  by_cases h36 : l.length < 36
  · rw [if_pos h36] at h; omega
  rw [if_neg h36] at h
  by_cases h0 : l.getD 0 0 ≠ 1
  · rw [if_pos h0] at h; omega
  rw [if_neg h0] at h
  by_cases h1 : 1 < (l.getD 1 0).toNat
  · rw [if_pos h1] at h; omega
  rw [if_neg h1] at h
  by_cases h2 : l.length < hdrN l ∨ (l.length - hdrN l) % 32 ≠ 0 ∨ 257 < decN l ∨ checkP (decP l ⟨none, decN l, 0⟩) ≠ 0
  · rw [if_pos h2] at h; omega
  · refine ⟨h36, by simpa using h0, by omega, by omega, by omega, by omega, fun A c => ?_⟩
    rw [checkP_decP]
    omega
theorem enc_dec {l : List UInt8} (h : decErr l = 0) (A : Option Addr) (c : Nat) : encP (decP l ⟨A, decN l, c⟩) (chunks l (hdrN l) (decN l)) = l := by
  obtain ⟨h36, h0, h1, hh, hm, -, -⟩ := dec_ok h
  have hn : hdrN l + 32 * decN l = l.length := by unfold decN; omega
  have hc := chunks_bytes l (hdrN l) (decN l) (by omega)
  rw [hn, List.drop_length, List.append_nil] at hc
  have d2 : (l.getD 2 0).toNat < 256 := UInt8.toNat_lt _
  have d3 : (l.getD 3 0).toNat < 256 := UInt8.toNat_lt _
  have b1 : ub ((l.getD 1 0).toNat : Int) = l.getD 1 0 := ub_of _
  have b2 : ub ((((l.getD 2 0).toNat : Int) * 256 + ((l.getD 3 0).toNat : Int)) / 256) = l.getD 2 0 := by
    rw [show (((l.getD 2 0).toNat : Int) * 256 + ((l.getD 3 0).toNat : Int)) / 256 = ((l.getD 2 0).toNat : Int) by omega]
    exact ub_of _
  have b3 : ub (((l.getD 2 0).toNat : Int) * 256 + ((l.getD 3 0).toNat : Int)) = l.getD 3 0 := by
    apply UInt8.toNat_inj.1
    have h1 := ub_val (((l.getD 2 0).toNat : Int) * 256 + ((l.getD 3 0).toNat : Int))
    omega
  unfold encP
  rw [hc]
  unfold decP
  simp only [b1, b2, b3]
  rw [← h0]
  rcases h1 with h1 | h1
  · have e : hdrN l = 36 := if_neg (by omega)
    rw [h1, e, if_neg (by decide), List.nil_append, part_cons l 4 (by omega)]
    exact four l (by omega)
  · have e : hdrN l = 100 := if_pos h1
    rw [e] at hh
    rw [h1, e, if_pos (by decide), if_pos rfl, List.append_assoc, part_cons l 68 (by omega), part_cons l 36 (by omega), part_cons l 4 (by omega)]
    exact four l (by omega)
end Go.Proofs.Ythinpbgbnlohpaa
