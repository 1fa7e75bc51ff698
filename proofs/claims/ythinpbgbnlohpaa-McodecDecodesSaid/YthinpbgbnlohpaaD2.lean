/- Encoding and decoding undo one another: plain Lean. -/
import Derived.Test.YthinpbgbnlohpaaD1
import Derived.Test.YthinpbgbnlohpaaM8
import Derived.Test.YthinpbgbnlohpaaM13
namespace Go.Proofs.Ythinpbgbnlohpaa
set_option linter.unusedSimpArgs false
set_option linter.unusedVariables false
open Go.RowKit
theorem check_parts {l : List Item} (h : checkM l = 0) : l.all kindOk = true ∧ l.all cleanItem = true := by
  rw [checkM_eq] at h
  by_cases h1 : l.all kindOk = true
  · rw [if_pos h1] at h
    by_cases h2 : l.all cleanItem = true
    · exact ⟨h1, h2⟩
    · rw [if_neg h2] at h; omega
  · rw [if_neg h1] at h; omega
theorem ub_toNat (n : Int) (h0 : 0 ≤ n) (h1 : n < 256) : ((ub n).toNat : Int) = n := by
  rw [ub_val]; omega
theorem ub_back (k : UInt8) : ub (k.toNat : Int) = k := u8_eq (by rw [ub_val]; have := k.toNat_lt; omega)
theorem part_of (l m : List UInt8) (h : l.length = 32) : part32 (l ++ m) 0 = ⟨l, h⟩ := by
  apply Subtype.ext
  rw [part32_val _ _ (by simp; omega)]
  simp [← h]
theorem part_of' (k l m : List UInt8) (hk : k.length = 32) (h : l.length = 32) : part32 (k ++ l ++ m) 32 = ⟨l, h⟩ := by
  apply Subtype.ext
  rw [part32_val _ _ (by simp; omega)]
  rw [List.append_assoc, List.drop_left' hk, List.take_left' h]
theorem full_enc (x : Item) (hk : kindOk x = true) (hc : cleanItem x = true) (r : List UInt8) : full (encItem x ++ r) = (full r).map (x :: ·) := by
  obtain ⟨kind, digest, leaf⟩ := x
  simp only [kindOk, Bool.and_eq_true, decide_eq_true_eq] at hk
  simp only [cleanItem, Bool.and_eq_true, Bool.or_eq_true, decide_eq_true_eq, beq_iff_eq] at hc
  have hu := ub_toNat kind hk.1 (by omega)
  by_cases k1 : kind = 1
  · subst k1
    have hd : digest = zB32 := by rcases hc.1 with h | h; · cases h
                                  · exact h
    subst hd
    have e : encItem ⟨1, zB32, leaf⟩ = ub 1 :: (leaf.key.1 ++ leaf.value.1) := by simp [encItem]
    rw [e, List.cons_append, full_cons, payN_1 hu]
    have hl : (leaf.key.1 ++ leaf.value.1).length = 64 := by simp [leaf.key.2, leaf.value.2]
    rw [if_neg (by rw [List.length_append]; omega)]
    have e1 : (leaf.key.1 ++ leaf.value.1 ++ r).take 64 = leaf.key.1 ++ leaf.value.1 := by rw [← hl, List.take_left]
    have e2 : (leaf.key.1 ++ leaf.value.1 ++ r).drop 64 = r := by rw [← hl, List.drop_left]
    rw [e1, e2]
    have e3 : itemOf ((ub 1).toNat : Int) (leaf.key.1 ++ leaf.value.1) 0 = ⟨1, zB32, leaf⟩ := by
      rw [hu]
      unfold itemOf
      rw [if_pos rfl, part_of _ _ leaf.key.2, Nat.zero_add]
      have := part_of' leaf.key.1 leaf.value.1 [] leaf.key.2 leaf.value.2
      rw [List.append_nil] at this
      rw [this]
    rw [e3]
  · have hl0 : leaf = zLeaf := by rcases hc.2 with h | h; · exact absurd h k1
                                  · exact h
    subst hl0
    by_cases k3 : kind = 3
    · subst k3
      have e : encItem ⟨3, digest, zLeaf⟩ = ub 3 :: digest.1 := by simp [encItem]
      rw [e, List.cons_append, full_cons, payN_3 hu]
      rw [if_neg (by rw [List.length_append, digest.2]; omega)]
      have e1 : (digest.1 ++ r).take 32 = digest.1 := List.take_left' digest.2
      have e2 : (digest.1 ++ r).drop 32 = r := List.drop_left' digest.2
      rw [e1, e2]
      have e3 : itemOf ((ub 3).toNat : Int) digest.1 0 = ⟨3, digest, zLeaf⟩ := by
        rw [hu]
        unfold itemOf
        rw [if_neg (by decide), if_pos rfl]
        have := part_of digest.1 [] digest.2
        rw [List.append_nil] at this
        rw [this]
      rw [e3]
    · have hd : digest = zB32 := by rcases hc.1 with h | h; · exact absurd h k3
                                    · exact h
      subst hd
      have e : encItem ⟨kind, zB32, zLeaf⟩ = [ub kind] := by simp [encItem, k1, k3]
      have hp : payN (ub kind) = 0 := by unfold payN payloadF; rw [hu, if_neg k1, if_neg k3]; rfl
      rw [e, List.cons_append, List.nil_append, full_cons, hp, if_neg (by omega), List.drop_zero, List.take_zero]
      have e3 : itemOf ((ub kind).toNat : Int) [] 0 = ⟨kind, zB32, zLeaf⟩ := by
        rw [hu]
        unfold itemOf
        rw [if_neg k1, if_neg k3]
      rw [e3]
theorem full_encs : ∀ l : List Item, l.all kindOk = true → l.all cleanItem = true → full (l.flatMap encItem) = some l
  | [], _, _ => rfl
  | x :: l, h1, h2 => by
    simp only [List.all_cons, Bool.and_eq_true] at h1 h2
    rw [List.flatMap_cons, full_enc x h1.1 h2.1, full_encs l h1.2 h2.2]
    rfl
theorem dec_enc {l : List Item} (h : checkM l = 0) (hl : l.length < 4294967296) : decRes (encM l) = (0, l) := by
  obtain ⟨h1, h2⟩ := check_parts h
  have hf := full_encs l h1 h2
  have hd : (encM l).drop 6 = l.flatMap encItem := rfl
  have hn : ¬ (encM l).length < 6 := by unfold encM encHead; simp
  rw [decRes_some (o := l) (by rw [hd]; exact hf) hn (by simp [encM, encHead]) (by simp [encM, encHead]), if_pos]
  refine ⟨?_, h⟩
  have : cntM (encM l) = 16777216 * (ub ((l.length : Int) / 16777216)).toNat + 65536 * (ub ((l.length : Int) / 65536)).toNat + 256 * (ub ((l.length : Int) / 256)).toNat + (ub (l.length : Int)).toNat := rfl
  rw [this]
  have a1 := ub_val ((l.length : Int) / 16777216)
  have a2 := ub_val ((l.length : Int) / 65536)
  have a3 := ub_val ((l.length : Int) / 256)
  have a4 := ub_val (l.length : Int)
  omega
theorem enc_itemOf (k : UInt8) (r : List UInt8) (h : payN k ≤ r.length) : encItem (itemOf k.toNat (r.take (payN k)) 0) = k :: r.take (payN k) := by
  by_cases k1 : (k.toNat : Int) = 1
  · have hp := payN_1 k1
    rw [hp] at h ⊢
    have e : itemOf (k.toNat : Int) (r.take 64) 0 = ⟨1, zB32, ⟨part32 r 0, part32 r 32⟩⟩ := by
      unfold itemOf
      rw [if_pos k1]
      have e1 := part_cut r 0 64 0 (by omega) (by omega)
      have e2 := part_cut r 0 64 32 (by omega) (by omega)
      rw [List.drop_zero] at e1 e2
      rw [e1, Nat.zero_add, e2]
    rw [e]
    have e3 : ub 1 = k := by rw [← k1]; exact ub_back k
    have : encItem ⟨1, zB32, ⟨part32 r 0, part32 r 32⟩⟩ = ub 1 :: ((part32 r 0).1 ++ (part32 r 32).1) := by simp [encItem]
    rw [this, e3, part32_val _ _ (by omega), part32_val _ _ (by omega), List.drop_zero]
    congr 1
    rw [show (64 : Nat) = 32 + 32 from rfl, List.take_add]
  · by_cases k3 : (k.toNat : Int) = 3
    · have hp := payN_3 k3
      rw [hp] at h ⊢
      have e : itemOf (k.toNat : Int) (r.take 32) 0 = ⟨3, part32 r 0, zLeaf⟩ := by
        unfold itemOf
        rw [if_neg k1, if_pos k3]
        have e1 := part_cut r 0 32 0 (by omega) (by omega)
        rw [List.drop_zero] at e1
        rw [e1]
      rw [e]
      have e3 : ub 3 = k := by rw [← k3]; exact ub_back k
      have : encItem ⟨3, part32 r 0, zLeaf⟩ = ub 3 :: (part32 r 0).1 := by simp [encItem]
      rw [this, e3, part32_val _ _ (by omega), List.drop_zero]
    · have hp : payN k = 0 := by unfold payN payloadF; rw [if_neg k1, if_neg k3]; rfl
      have e : itemOf (k.toNat : Int) (r.take (payN k)) 0 = ⟨k.toNat, zB32, zLeaf⟩ := by
        unfold itemOf
        rw [if_neg k1, if_neg k3]
      rw [e, hp, List.take_zero]
      simp [encItem, k1, k3, ub_back]
theorem enc_full : ∀ (n : Nat) (s : List UInt8) (l : List Item), s.length ≤ n → full s = some l → l.flatMap encItem = s := by
  intro n
  induction n with
  | zero =>
    intro s l hs h
    obtain rfl : s = [] := List.eq_nil_of_length_eq_zero (by omega)
    rw [full_nil] at h
    obtain rfl := Option.some.inj h
    rfl
  | succ n ih =>
    intro s l hs h
    cases s with
    | nil =>
      rw [full_nil] at h
      obtain rfl := Option.some.inj h
      rfl
    | cons k r =>
      rw [full_cons] at h
      by_cases hp : r.length < payN k
      · rw [if_pos hp] at h; cases h
      · rw [if_neg hp] at h
        cases hf : full (r.drop (payN k)) with
        | none => rw [hf] at h; cases h
        | some m =>
          rw [hf] at h
          obtain rfl := Option.some.inj h
          rw [List.flatMap_cons, enc_itemOf k r (by omega), ih (r.drop (payN k)) m (by simp at hs ⊢; omega) hf, List.cons_append, List.take_append_drop]
theorem head_enc (b : List UInt8) (h6 : 6 ≤ b.length) (h0 : b.getD 0 0 = 1) (h1 : b.getD 1 0 = 2) : encHead (cntM b) = b.take 6 := by
  match b, h6 with
  | b0 :: b1 :: b2 :: b3 :: b4 :: b5 :: rest, _ =>
    simp only [List.getD_cons_zero, List.getD_cons_succ] at h0 h1
    subst h0; subst h1
    have hc : cntM (1 :: 2 :: b2 :: b3 :: b4 :: b5 :: rest) = 16777216 * b2.toNat + 65536 * b3.toNat + 256 * b4.toNat + b5.toNat := rfl
    rw [hc]
    have t2 := b2.toNat_lt
    have t3 := b3.toNat_lt
    have t4 := b4.toNat_lt
    have t5 := b5.toNat_lt
    have e2 : ub (((16777216 * b2.toNat + 65536 * b3.toNat + 256 * b4.toNat + b5.toNat : Nat) : Int) / 16777216) = b2 := u8_eq (by rw [ub_val]; omega)
    have e3 : ub (((16777216 * b2.toNat + 65536 * b3.toNat + 256 * b4.toNat + b5.toNat : Nat) : Int) / 65536) = b3 := u8_eq (by rw [ub_val]; omega)
    have e4 : ub (((16777216 * b2.toNat + 65536 * b3.toNat + 256 * b4.toNat + b5.toNat : Nat) : Int) / 256) = b4 := u8_eq (by rw [ub_val]; omega)
    have e5 : ub ((16777216 * b2.toNat + 65536 * b3.toNat + 256 * b4.toNat + b5.toNat : Nat) : Int) = b5 := u8_eq (by rw [ub_val]; omega)
    unfold encHead
    rw [e2, e3, e4, e5]
    rfl
/-- what decoding gives: an error and no items, or a well-formed multiproof whose encoding the bytes are -/
theorem dec_cases (b : List UInt8) : ((decRes b).1 ≠ 0 ∧ (decRes b).2 = []) ∨ ((decRes b).1 = 0 ∧ checkM (decRes b).2 = 0 ∧ encM (decRes b).2 = b) := by
  by_cases h6 : b.length < 6
  · left; unfold decRes; rw [if_pos h6]; exact ⟨by decide, rfl⟩
  · by_cases h0 : b.getD 0 0 ≠ 1
    · left; unfold decRes; rw [if_neg h6, if_pos h0]; exact ⟨by decide, rfl⟩
    · by_cases h1 : b.getD 1 0 ≠ 2
      · left; unfold decRes; rw [if_neg h6, if_neg h0, if_pos h1]; exact ⟨by decide, rfl⟩
      · cases hf : full (b.drop 6) with
        | none => left; rw [decRes_bad hf h6 h0 h1]; exact ⟨by decide, rfl⟩
        | some o =>
          rw [decRes_some hf h6 h0 h1]
          by_cases hc : o.length = cntM b ∧ checkM o = 0
          · rw [if_pos hc]
            refine .inr ⟨rfl, hc.2, ?_⟩
            have he := enc_full _ _ o (Nat.le_refl _) hf
            show encM o = b
            unfold encM
            rw [he, hc.1, head_enc b (by omega) (by simpa using h0) (by simpa using h1), List.take_append_drop]
          · rw [if_neg hc]; exact .inl ⟨by decide, rfl⟩
theorem encM_len (l : List Item) : l.length ≤ (encM l).length ∧ (encM l).length ≤ 6 + 65 * l.length := by
  have h1 := encLen_le l l.length
  rw [List.take_length] at h1
  have h2 : l.length ≤ (l.flatMap encItem).length := by
    clear h1
    induction l with
    | nil => simp
    | cons x l ih =>
      have : 1 ≤ (encItem x).length := by unfold encItem; simp
      simp only [List.flatMap_cons, List.length_append, List.length_cons]
      omega
  have e : (encM l).length = 6 + (l.flatMap encItem).length := by unfold encM; rw [List.length_append]; rfl
  omega
end Go.Proofs.Ythinpbgbnlohpaa
