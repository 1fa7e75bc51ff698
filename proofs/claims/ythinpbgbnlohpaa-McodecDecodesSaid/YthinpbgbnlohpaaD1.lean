/- What decoding a multiproof computes: plain Lean. -/
import Derived.Test.YthinpbgbnlohpaaM4
import Derived.Test.YthinpbgbnlohpaaM11
import Derived.Laws.BitsAllLaws
namespace Go.Proofs.Ythinpbgbnlohpaa
set_option linter.unusedSimpArgs false
set_option linter.unusedVariables false
open Go.RowKit
/-- c * 256 and a byte -/
theorem or_byte (c b : Nat) (hc : c < 72057594037927936) (hb : b < 256) : c * 256 ||| b = c * 256 + b := by
  have := (Nat.two_pow_add_eq_or_of_lt (i := 8) (b := b) (by omega) c)
  rw [Nat.mul_comm] at this
  exact this.symm
theorem i64_or_byte (c b : Nat) (hc : c < 4294967296) (hb : b < 256) : bits .or .i64 ((c : Int) * 256) (b : Int) = ((c * 256 + b : Nat) : Int) := by
  have h1 : (BitVec.ofInt 64 ((c : Int) * 256) ||| BitVec.ofInt 64 (b : Int)).toNat = c * 256 + b := by
    have e : ((c : Int) * 256) = ((c * 256 : Nat) : Int) := by omega
    rw [e, BitVec.toNat_or, BitVec.ofInt_natCast, BitVec.ofInt_natCast, BitVec.toNat_ofNat, BitVec.toNat_ofNat, Nat.mod_eq_of_lt (by omega), Nat.mod_eq_of_lt (by omega), or_byte c b (by omega) hb]
  show IntKind.i64.wrap ((BitVec.ofInt 64 ((c : Int) * 256) ||| BitVec.ofInt 64 (b : Int)).toNat : Int) = _
  rw [h1]
  rw [IntKind.wrap_i64]
  omega
def payN (k : UInt8) : Nat := (payloadF k.toNat).toNat
theorem payN_eq (k : UInt8) : payloadF k.toNat = (payN k : Int) := by
  have := payloadF_le k.toNat
  unfold payN; omega
theorem payN_le (k : UInt8) : payN k ≤ 64 := by
  have := payloadF_le k.toNat
  unfold payN; omega
def fullN : Nat → List UInt8 → Option (List Item)
  | _, [] => some []
  | 0, _ :: _ => none
  | n + 1, k :: r => if r.length < payN k then none else (fullN n (r.drop (payN k))).map (itemOf k.toNat (r.take (payN k)) 0 :: ·)
def full (s : List UInt8) : Option (List Item) := fullN s.length s
theorem fullN_eq : ∀ (n : Nat) (s : List UInt8), s.length ≤ n → fullN n s = full s := by
  intro n
  induction n using Nat.strongRecOn with
  | ind n ih =>
    intro s hs
    cases s with
    | nil => cases n <;> rfl
    | cons k r =>
      cases n with
      | zero => simp at hs
      | succ n =>
        unfold full
        simp only [List.length_cons, fullN] at hs ⊢
        split
        · rfl
        · rw [ih n (by omega) _ (by simp; omega)]
          have h2 : fullN r.length (r.drop (payN k)) = full (r.drop (payN k)) := by
            by_cases h : r.length < n + 1
            · exact ih _ h _ (by simp)
            · omega
          rw [h2]
theorem full_nil : full [] = some [] := rfl
theorem full_cons (k : UInt8) (r : List UInt8) : full (k :: r) = if r.length < payN k then none else (full (r.drop (payN k))).map (itemOf k.toNat (r.take (payN k)) 0 :: ·) := by
  have : full (k :: r) = fullN (r.length + 1) (k :: r) := rfl
  rw [this, fullN, fullN_eq r.length _ (by simp)]
theorem full_pos {s : List UInt8} {o : List Item} (h : full s = some o) (hs : s ≠ []) : 0 < o.length := by
  cases s with
  | nil => exact absurd rfl hs
  | cons k r =>
    rw [full_cons] at h
    split at h
    · cases h
    · cases h2 : full (r.drop (payN k)) with
      | none => rw [h2] at h; cases h
      | some m =>
        rw [h2] at h
        obtain rfl := Option.some.inj h
        simp
/-- the count in the head -/
def cntM (l : List UInt8) : Nat := 16777216 * (l.getD 2 0).toNat + 65536 * (l.getD 3 0).toNat + 256 * (l.getD 4 0).toNat + (l.getD 5 0).toNat
def decRes (l : List UInt8) : Int × List Item :=
  if l.length < 6 then (5, []) else if l.getD 0 0 ≠ 1 then (6, []) else if l.getD 1 0 ≠ 2 then (7, []) else
  match full (l.drop 6) with
  | none => (5, [])
  | some o => if o.length = cntM l ∧ checkM o = 0 then (0, o) else (5, [])
theorem decRes_bad {l : List UInt8} (h : full (l.drop 6) = none) (h6 : ¬ l.length < 6) (h0 : ¬ l.getD 0 0 ≠ 1) (h1 : ¬ l.getD 1 0 ≠ 2) : decRes l = (5, []) := by
  unfold decRes; rw [if_neg h6, if_neg h0, if_neg h1, h]
theorem decRes_some {l : List UInt8} {o : List Item} (h : full (l.drop 6) = some o) (h6 : ¬ l.length < 6) (h0 : ¬ l.getD 0 0 ≠ 1) (h1 : ¬ l.getD 1 0 ≠ 2) : decRes l = if o.length = cntM l ∧ checkM o = 0 then (0, o) else (5, []) := by
  unfold decRes; rw [if_neg h6, if_neg h0, if_neg h1, h]
/-- one step of a reader that has read the items o and stands at i -/
theorem full_step {l : List UInt8} {s : Nat} {o : List Item} {i : Nat} (h : full (l.drop s) = (full (l.drop i)).map (o ++ ·)) (hi : i < l.length) :
    full (l.drop s) = if l.length - (i + 1) < payN (l.getD i 0) then none else (full (l.drop (i + 1 + payN (l.getD i 0)))).map ((o ++ [itemOf (l.getD i 0).toNat ((l.drop (i + 1)).take (payN (l.getD i 0))) 0]) ++ ·) := by
  have e : l.drop i = l.getD i 0 :: l.drop (i + 1) := by
    rw [List.drop_eq_getElem_cons hi]
    simp [List.getD, hi]
  rw [h, e, full_cons]
  simp only [List.length_drop, List.drop_drop]
  split
  · rfl
  · rw [Option.map_map]
    congr 1
    funext m
    simp
theorem full_done {l : List UInt8} {s : Nat} {o : List Item} {i : Nat} (h : full (l.drop s) = (full (l.drop i)).map (o ++ ·)) (hi : l.length ≤ i) : full (l.drop s) = some o := by
  rw [h, List.drop_of_length_le hi, full_nil]; simp
/-- many items are read, and bytes are left -/
theorem full_over {l : List UInt8} {s : Nat} {o : List Item} {i : Nat} (h : full (l.drop s) = (full (l.drop i)).map (o ++ ·)) (hi : i < l.length) (c : Nat) (hc : c ≤ o.length) : full (l.drop s) = none ∨ ∃ m, full (l.drop s) = some m ∧ m.length ≠ c := by
  cases hf : full (l.drop i) with
  | none => left; rw [h, hf]; rfl
  | some m =>
    right
    have := full_pos hf (by intro hn; have := congrArg List.length hn; simp at this; omega)
    refine ⟨o ++ m, by rw [h, hf]; rfl, ?_⟩
    simp
    omega
theorem decRes_over {l : List UInt8} {o : List Item} {i : Nat} (h : full (l.drop 6) = (full (l.drop i)).map (o ++ ·)) (hi : i < l.length) (hc : cntM l ≤ o.length) (h6 : ¬ l.length < 6) (h0 : ¬ l.getD 0 0 ≠ 1) (h1 : ¬ l.getD 1 0 ≠ 2) : decRes l = (5, []) := by
  rcases full_over h hi _ hc with hn | ⟨m, hm, hne⟩
  · exact decRes_bad hn h6 h0 h1
  · rw [decRes_some hm h6 h0 h1, if_neg (by intro hh; exact hne hh.1)]
def DecPost (l : List UInt8) (w : World) (e : Ending) (w' : World) : Prop :=
  ∃ v, e = .returned (.tuple #[v, .int .i64 (decRes l).1]) ∧ w'.ownsRow w.heap.size 61 97 v (decRes l).2.length ((decRes l).2.flatMap Item.cells) ∧ Below w.heap.size w w'
theorem own_nil (w : World) (base e size : Nat) : w.ownsRow base e size (.slice none 0 0) 0 [] := ⟨by simp, .inl ⟨rfl, rfl⟩⟩
theorem DecPost.bad {l : List UInt8} {w w' : World} {n : Int} (h : decRes l = (n, [])) (hb : Below w.heap.size w w') : DecPost l w (.returned (.tuple #[.slice none 0 0, .int .i64 n])) w' := by
  refine ⟨.slice none 0 0, by rw [h], by rw [h]; exact own_nil _ _ _ _, hb⟩
theorem DecPost.good {l : List UInt8} {w w' : World} {v : Value} {o : List Item} (h : decRes l = (0, o)) (ho : w'.ownsRow w.heap.size 61 97 v o.length (o.flatMap Item.cells)) (hb : Below w.heap.size w w') : DecPost l w (.returned (.tuple #[v, .int .i64 0])) w' := by
  refine ⟨v, by rw [h], by rw [h]; exact ho, hb⟩
end Go.Proofs.Ythinpbgbnlohpaa
