/- trial: the small functions of mcodec -/
import Derived.Test.YthinpbgbnlohpaaT1
namespace Go.Proofs.Ythinpbgbnlohpaa
set_option linter.unusedSimpArgs false
set_option linter.unusedVariables false
open Go.RowKit

def siblings (l : List Item) : Int := (l.filter fun x => x.kind == 3).length
theorem siblings_step (l : List Item) (k : Nat) (x : Item) (h : l[k]? = some x) : siblings (l.take (k + 1)) = siblings (l.take k) + if x.kind == 3 then 1 else 0 := by
  unfold siblings
  rw [List.take_add_one, h, List.filter_append]
  by_cases hk : x.kind == 3 <;> simp [hk]
theorem siblings_le (l : List Item) (k : Nat) : 0 ≤ siblings (l.take k) ∧ siblings (l.take k) ≤ l.length := by
  unfold siblings
  have h1 := List.length_filter_le (fun x : Item => x.kind == 3) (l.take k)
  have h2 : (l.take k).length ≤ l.length := by simp; omega
  omega
set_option maxHeartbeats 400000 in
theorem Siblings_some (l : List Item) (b o cap : Nat) (hl : l.length ≤ 65536) (w : World) (hr : w.rangeAt b o (l.flatMap Item.cells)) :
    Calls Try.prog 31 #[.slice (some ⟨b, o, none⟩) l.length cap] w fun e w' => e = .returned (.int .i64 (siblings l)) ∧ Below w.heap.size w w' := by
  go_enter Try.func31, Try.ntmps31
  go_wp2
  go_loopw [3, 8] (fun n i wr => ∃ k : Nat, k ≤ l.length ∧ i = .int .i64 k ∧ n = .int .i64 (siblings (l.take k)) ∧ Below w.heap.size w wr) (fun _ i _ => l.length - (intOf i).toNat)
  case atStart => exact ⟨0, by omega, rfl, rfl, Below.refl _ _⟩
  case round =>
    obtain ⟨k, hk, rfl, rfl, hb⟩ := hrel
    by_cases hlt : k < l.length
    · have hx : l[k]? = some l[k] := by simp [hlt]
      generalize l[k] = x at hx
      have hrx := rangeAt_below (rangeAt_flat Item.cells_length hr hx) hb
      have hsn := siblings_step l k x hx
      have hle := siblings_le l k
      go_wp2_with (first | (refine loadItem rfl _ rfl b (o + k * 97) rfl x hrx ?_) | (refine copyItem rfl rfl rfl _ rfl _ rfl rfl x rfl rfl ?_))
      all_goals
        refine ⟨⟨k + 1, by omega, by go_num, ?_, hb.alloc hb.size _⟩, by simp [intOf]; omega⟩
        rw [hsn]
        first
          | rw [if_pos (by assumption)]
          | rw [if_neg (by rw [Bool.not_eq_true]; assumption), Int.add_zero]
    · go_wp2
      go_ret
      obtain rfl : k = l.length := by omega
      exact ⟨ret_int (by rw [List.take_length]), hb⟩
end Go.Proofs.Ythinpbgbnlohpaa
