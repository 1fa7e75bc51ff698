/- multi: parse, Check; multi: the digest of a subtree; multiproofs: the reference's Skip; multiproofs: the reference's Check; multiproofs: Root; the reference's Digest and Preimage; Multiproofs as the flat lists of their subtrees: plain (joined texts: U63 U64 U65 U66 U67 E18) -/
import Derived.Test.YtgfkbeipckbkiaaGreatDoorZ11
set_option linter.all false
/- U63 -/
namespace Go.Proofs.YtgfkbeipckbkiaaGreatDoor
set_option linter.unusedSimpArgs false
set_option linter.unusedVariables false
open Go.RowKit
theorem its_at {l : List Item} {k : Nat} {x : Item} (h : l[k]? = some x) : ∀ j v, x.cells[j]? = some v → (its l)[k * 97 + j]? = some v := by
  induction l generalizing k with
  | nil => cases h
  | cons y l ih =>
    intro j v hv
    rw [its_cons]
    cases k with
    | zero =>
      obtain rfl : y = x := by simpa using h
      rw [Nat.zero_mul, Nat.zero_add, List.getElem?_append_left (List.getElem?_eq_some_iff.1 hv).1]
      exact hv
    | succ k =>
      rw [List.getElem?_append_right (by rw [Item.cells_length]; omega), Item.cells_length, show (k + 1) * 97 + j - 97 = k * 97 + j by omega]
      exact ih (by simpa using h) j v hv
/-- what parse brings -/
def parseV : Except Int Sub → Value
  | .ok t => .tuple #[.iface t.tag t.val, .int .i64 0]
  | .error e => .tuple #[.nilIface, .int .i64 e]
theorem clean3 {x : Item} (h : x.kind = 3) : cleanItem x = decide (x.leaf = zLeaf) := by unfold cleanItem; simp [h]
theorem clean1 {x : Item} (h : ¬ x.kind = 3) (hd : x.digest = zB32) (h1 : x.kind = 1) : cleanItem x = true := by unfold cleanItem; simp [hd, h1]
theorem clean0 {x : Item} (h : ¬ x.kind = 3) (hd : x.digest = zB32) (h1 : ¬ x.kind = 1) : cleanItem x = decide (x.leaf = zLeaf) := by unfold cleanItem; simp [hd, h1]
theorem cleanN {x : Item} (h : ¬ x.kind = 3) (hd : ¬ x.digest = zB32) : cleanItem x = false := by unfold cleanItem; simp [h, hd]
section
variable (h : Zh)
theorem parse_s (l : List Item) (A : Option Addr) (c : Nat) [hr : RdZ h A (its l)] (hc : l.length ≤ c) (hl : l.length ≤ 1000000) : Spec Tryz.prog 62 [.slice A l.length c].toArray [.zone false h] [] (fun _ : Unit => parseV (parseM l)) (fun _ => []) := by
  have hR := read_all h 256 (Nat.le_refl _) l A c hr hc
  rw [show (256 - ((256 : Nat) : Int)) = 0 from rfl] at hR
  refine spec_of Tryz.func62 rfl (n := 64) rfl rfl ?_
  intro W
  refine h_seq ?_
  refine h_reg ?_
  refine h_op (r_assign rfl) ?_
  refine h_op (r_assign rfl) ?_
  refine h_nil ?_
  refine q_then ?_
  refine h_seq ?_
  refine h_reg ?_
  refine h_op (r_assign rfl) ?_
  refine h_nil ?_
  refine q_then ?_
  refine h_seq ?_
  refine h_seq ?_
  refine h_reg ?_
  refine h_op (r_move rfl) ?_
  refine h_op (r_len rfl) ?_
  refine h_op (r_move rfl) ?_
  refine h_nil ?_
  refine q_then ?_
  refine h_block ?_
  refine h_loop (fun (s : Nat × Bool) => s.1 ≤ l.length ∧ (l.take s.1).all kindOk = true ∧ s.2 = (l.take s.1).all cleanItem) (fun (s : Nat × Bool) => [(11, .int .i64 (s.1 : Int)), (10, .int .i64 (l.length : Int)), (9, .slice A l.length c), (4, .bool s.2), (0, .slice A l.length c)]) (fun (s : Nat × Bool) => [.zone false h]) (fun (s : Nat × Bool) => l.length - s.1) (0, true) ((show 0 ≤ l.length ∧ _ ∧ _ from ⟨Nat.zero_le _, rfl, rfl⟩)) ⟨rfl, rfl, rfl, rfl, rfl, trivial⟩ (same) ?_
  rintro ⟨k, b⟩ ⟨hk, hok, hb⟩
  dsimp only at hk hok hb ⊢
  refine h_seq ?_
  refine h_reg ?_
  refine h_op (r_lss rfl rfl) ?_
  refine h_nil ?_
  refine q_then ?_
  refine h_seq ?_
  refine h_cond rfl (fun hlt => ?_) (fun hlt => ?_)
  · have hk2 : k < l.length := by omega
    obtain ⟨x, hx⟩ : ∃ x, l[k]? = some x := ⟨_, List.getElem?_eq_getElem hk2⟩
    have hak := all_take kindOk l k x hx
    have hac := all_take cleanItem l k x hx
    rw [hok, Bool.true_and] at hak
    rw [← hb] at hac
    have h0 : 0 < (its l).length := by rw [its_len]; omega
    obtain ⟨bb, o, rfl, -⟩ := hr.at_ 0 _ (List.getElem?_eq_getElem h0)
    have hat := its_at hx
    by_cases h1 : x.kind < 0
    · have hpm : parseM l = .error 7 := by
        unfold parseM
        rw [if_neg]
        intro ha
        have := List.all_eq_true.1 ha x (List.mem_of_getElem? hx)
        unfold kindOk at this
        simp at this
        omega
      rw [hpm]
      refine h_skip ?_
      refine q_then ?_
      refine h_seq ?_
      refine h_block ?_
      refine h_seq ?_
      refine h_reg ?_
      refine h_op (r_idx rfl rfl) ?_
      refine h_op (r_nthr rfl (out := x.cells) (Item.cells_length x) hat) ?_
      refine h_opX (x_alloc) fun g6 => ?_
      refine h_opS (s_storer rfl rfl) ?_
      refine h_nil ?_
      refine q_then ?_
      refine h_seq ?_
      refine h_seq ?_
      refine h_reg ?_
      refine h_op (r_field rfl) ?_
      refine h_op (r_loadc rfl) ?_
      refine h_op (r_bool (r_lss rfl rfl) (decide_eq_true h1)) ?_
      refine h_op (r_move rfl) ?_
      refine h_opOff ?_
      refine h_opOff ?_
      refine h_opOff ?_
      refine h_op (r_pick rfl rfl) ?_
      refine h_nil ?_
      refine q_then ?_
      refine h_condT rfl ?_
      refine h_seq ?_
      refine h_reg ?_
      refine h_op (r_assign rfl) ?_
      refine h_op (r_assign rfl) ?_
      refine h_nil ?_
      refine q_then ?_
      refine h_ret ?_
      refine q_thenR ?_
      refine q_blockR ?_
      refine q_thenR ?_
      refine q_thenR ?_
      refine q_blockR ?_
      refine q_thenR ?_
      exact h_ret2 rfl rfl rfl fun w s => ⟨(), rfl, s.res (List.nil_sublist _) (by simp)⟩
    · by_cases h2 : 3 < x.kind
      · have hpm : parseM l = .error 7 := by
          unfold parseM
          rw [if_neg]
          intro ha
          have := List.all_eq_true.1 ha x (List.mem_of_getElem? hx)
          unfold kindOk at this
          simp at this
          omega
        rw [hpm]
        refine h_skip ?_
        refine q_then ?_
        refine h_seq ?_
        refine h_block ?_
        refine h_seq ?_
        refine h_reg ?_
        refine h_op (r_idx rfl rfl) ?_
        refine h_op (r_nthr rfl (out := x.cells) (Item.cells_length x) hat) ?_
        refine h_opX (x_alloc) fun g6 => ?_
        refine h_opS (s_storer rfl rfl) ?_
        refine h_nil ?_
        refine q_then ?_
        refine h_seq ?_
        refine h_seq ?_
        refine h_reg ?_
        refine h_op (r_field rfl) ?_
        refine h_op (r_loadc rfl) ?_
        refine h_op (r_bool (r_lss rfl rfl) (decide_eq_false h1)) ?_
        refine h_op (r_move rfl) ?_
        refine h_op (r_field rfl) ?_
        refine h_op (r_loadc rfl) ?_
        refine h_op (r_bool (r_gtr rfl rfl) (decide_eq_true h2)) ?_
        refine h_op (r_pick rfl rfl) ?_
        refine h_nil ?_
        refine q_then ?_
        refine h_condT rfl ?_
        refine h_seq ?_
        refine h_reg ?_
        refine h_op (r_assign rfl) ?_
        refine h_op (r_assign rfl) ?_
        refine h_nil ?_
        refine q_then ?_
        refine h_ret ?_
        refine q_thenR ?_
        refine q_blockR ?_
        refine q_thenR ?_
        refine q_thenR ?_
        refine q_blockR ?_
        refine q_thenR ?_
        exact h_ret2 rfl rfl rfl fun w s => ⟨(), rfl, s.res (List.nil_sublist _) (by simp)⟩
      · have hok' : (l.take (k + 1)).all kindOk = true := by rw [hak]; unfold kindOk; simp; omega
        refine h_skip ?_
        refine q_then ?_
        refine h_seq ?_
        refine h_block ?_
        refine h_seq ?_
        refine h_reg ?_
        refine h_op (r_idx rfl rfl) ?_
        refine h_op (r_nthr rfl (out := x.cells) (Item.cells_length x) hat) ?_
        refine h_opX (x_alloc) fun g6 => ?_
        refine h_opS (s_storer rfl rfl) ?_
        refine h_nil ?_
        refine q_then ?_
        refine h_seq ?_
        refine h_seq ?_
        refine h_reg ?_
        refine h_op (r_field rfl) ?_
        refine h_op (r_loadc rfl) ?_
        refine h_op (r_bool (r_lss rfl rfl) (decide_eq_false h1)) ?_
        refine h_op (r_move rfl) ?_
        refine h_op (r_field rfl) ?_
        refine h_op (r_loadc rfl) ?_
        refine h_op (r_bool (r_gtr rfl rfl) (decide_eq_false h2)) ?_
        refine h_op (r_pick rfl rfl) ?_
        refine h_nil ?_
        refine q_then ?_
        refine h_condF rfl ?_
        rcases b with _ | _
        · refine h_skip ?_
          refine q_then ?_
          refine h_reg ?_
          refine h_op (r_move rfl) ?_
          refine h_op (r_move rfl) ?_
          refine h_opOff ?_
          refine h_opOff ?_
          refine h_opOff ?_
          refine h_opOff ?_
          refine h_opOff ?_
          refine h_opOff ?_
          refine h_opOff ?_
          refine h_opOff ?_
          refine h_opOff ?_
          refine h_op (r_pick rfl rfl) ?_
          refine h_op (r_move rfl) ?_
          refine h_opOff ?_
          refine h_opOff ?_
          refine h_opOff ?_
          refine h_opOff ?_
          refine h_opOff ?_
          refine h_opOff ?_
          refine h_opOff ?_
          refine h_opOff ?_
          refine h_opOff ?_
          refine h_op (r_pick rfl rfl) ?_
          refine h_op (r_assign rfl) ?_
          refine h_nil ?_
          refine q_block ?_
          refine q_then ?_
          refine h_reg ?_
          refine h_op (r_add rfl rfl) ?_
          refine h_op (r_move rfl) ?_
          refine h_nil ?_
          exact h_back (k + 1, false) (⟨hk2, hok', by rw [hac]; rfl⟩) ((show l.length - (k + 1) < l.length - k by omega)) ⟨rfl, rfl, rfl, rfl, rfl, trivial⟩ (same)
        · rw [Bool.true_and] at hac
          by_cases h3 : x.kind = 3
          · refine h_skip ?_
            refine q_then ?_
            refine h_reg ?_
            refine h_op (r_move rfl) ?_
            refine h_op (r_move rfl) ?_
            refine h_op (r_field rfl) ?_
            refine h_op (r_loadc rfl) ?_
            refine h_op (r_bool (r_eql rfl rfl) (decide_eq_true h3)) ?_
            refine h_op (r_move rfl) ?_
            refine h_opOff ?_
            refine h_opOff ?_
            refine h_opOff ?_
            refine h_opOff ?_
            refine h_op (r_pick rfl rfl) ?_
            refine h_op (r_pick rfl rfl) ?_
            refine h_op (r_move rfl) ?_
            refine h_op (r_field rfl) ?_
            refine h_op (r_loadc rfl) ?_
            refine h_op (r_bool (r_eql rfl rfl) (decide_eq_false (by omega))) ?_
            refine h_op (r_move rfl) ?_
            refine h_op (r_field rfl) ?_
            refine h_op (r_loadr rfl) ?_
            refine h_op (r_build rfl) ?_
            refine h_op (r_eqr rfl rfl) ?_
            refine h_op (r_pick rfl rfl) ?_
            refine h_op (r_pick rfl rfl) ?_
            refine h_op (r_assign rfl) ?_
            refine h_nil ?_
            refine q_block ?_
            refine q_then ?_
            refine h_reg ?_
            refine h_op (r_add rfl rfl) ?_
            refine h_op (r_move rfl) ?_
            refine h_nil ?_
            exact h_back (k + 1, decide (x.leaf = zLeaf)) (⟨hk2, hok', by rw [hac, clean3 h3]⟩) ((show l.length - (k + 1) < l.length - k by omega)) ⟨rfl, rfl, rfl, rfl, rfl, trivial⟩ (same)
          · by_cases hd : x.digest = zB32
            · by_cases h4 : x.kind = 1
              · refine h_skip ?_
                refine q_then ?_
                refine h_reg ?_
                refine h_op (r_move rfl) ?_
                refine h_op (r_move rfl) ?_
                refine h_op (r_field rfl) ?_
                refine h_op (r_loadc rfl) ?_
                refine h_op (r_bool (r_eql rfl rfl) (decide_eq_false h3)) ?_
                refine h_op (r_move rfl) ?_
                refine h_op (r_field rfl) ?_
                refine h_op (r_loadr rfl) ?_
                refine h_op (r_build rfl) ?_
                refine h_op (r_bool (r_eqr rfl rfl) (decide_eq_true hd)) ?_
                refine h_op (r_pick rfl rfl) ?_
                refine h_op (r_pick rfl rfl) ?_
                refine h_op (r_move rfl) ?_
                refine h_op (r_field rfl) ?_
                refine h_op (r_loadc rfl) ?_
                refine h_op (r_bool (r_eql rfl rfl) (decide_eq_true h4)) ?_
                refine h_op (r_move rfl) ?_
                refine h_opOff ?_
                refine h_opOff ?_
                refine h_opOff ?_
                refine h_opOff ?_
                refine h_op (r_pick rfl rfl) ?_
                refine h_op (r_pick rfl rfl) ?_
                refine h_op (r_assign rfl) ?_
                refine h_nil ?_
                refine q_block ?_
                refine q_then ?_
                refine h_reg ?_
                refine h_op (r_add rfl rfl) ?_
                refine h_op (r_move rfl) ?_
                refine h_nil ?_
                exact h_back (k + 1, true) (⟨hk2, hok', by rw [hac, clean1 h3 hd h4]⟩) ((show l.length - (k + 1) < l.length - k by omega)) ⟨rfl, rfl, rfl, rfl, rfl, trivial⟩ (same)
              · refine h_skip ?_
                refine q_then ?_
                refine h_reg ?_
                refine h_op (r_move rfl) ?_
                refine h_op (r_move rfl) ?_
                refine h_op (r_field rfl) ?_
                refine h_op (r_loadc rfl) ?_
                refine h_op (r_bool (r_eql rfl rfl) (decide_eq_false h3)) ?_
                refine h_op (r_move rfl) ?_
                refine h_op (r_field rfl) ?_
                refine h_op (r_loadr rfl) ?_
                refine h_op (r_build rfl) ?_
                refine h_op (r_bool (r_eqr rfl rfl) (decide_eq_true hd)) ?_
                refine h_op (r_pick rfl rfl) ?_
                refine h_op (r_pick rfl rfl) ?_
                refine h_op (r_move rfl) ?_
                refine h_op (r_field rfl) ?_
                refine h_op (r_loadc rfl) ?_
                refine h_op (r_bool (r_eql rfl rfl) (decide_eq_false h4)) ?_
                refine h_op (r_move rfl) ?_
                refine h_op (r_field rfl) ?_
                refine h_op (r_loadr rfl) ?_
                refine h_op (r_build rfl) ?_
                refine h_op (r_eqr rfl rfl) ?_
                refine h_op (r_pick rfl rfl) ?_
                refine h_op (r_pick rfl rfl) ?_
                refine h_op (r_assign rfl) ?_
                refine h_nil ?_
                refine q_block ?_
                refine q_then ?_
                refine h_reg ?_
                refine h_op (r_add rfl rfl) ?_
                refine h_op (r_move rfl) ?_
                refine h_nil ?_
                exact h_back (k + 1, decide (x.leaf = zLeaf)) (⟨hk2, hok', by rw [hac, clean0 h3 hd h4]⟩) ((show l.length - (k + 1) < l.length - k by omega)) ⟨rfl, rfl, rfl, rfl, rfl, trivial⟩ (same)
            · refine h_skip ?_
              refine q_then ?_
              refine h_reg ?_
              refine h_op (r_move rfl) ?_
              refine h_op (r_move rfl) ?_
              refine h_op (r_field rfl) ?_
              refine h_op (r_loadc rfl) ?_
              refine h_op (r_bool (r_eql rfl rfl) (decide_eq_false h3)) ?_
              refine h_op (r_move rfl) ?_
              refine h_op (r_field rfl) ?_
              refine h_op (r_loadr rfl) ?_
              refine h_op (r_build rfl) ?_
              refine h_op (r_bool (r_eqr rfl rfl) (decide_eq_false hd)) ?_
              refine h_op (r_pick rfl rfl) ?_
              refine h_op (r_pick rfl rfl) ?_
              refine h_op (r_move rfl) ?_
              refine h_opOff ?_
              refine h_opOff ?_
              refine h_opOff ?_
              refine h_opOff ?_
              refine h_opOff ?_
              refine h_opOff ?_
              refine h_opOff ?_
              refine h_opOff ?_
              refine h_opOff ?_
              refine h_op (r_pick rfl rfl) ?_
              refine h_op (r_assign rfl) ?_
              refine h_nil ?_
              refine q_block ?_
              refine q_then ?_
              refine h_reg ?_
              refine h_op (r_add rfl rfl) ?_
              refine h_op (r_move rfl) ?_
              refine h_nil ?_
              exact h_back (k + 1, false) (⟨hk2, hok', by rw [hac, cleanN h3 hd]⟩) ((show l.length - (k + 1) < l.length - k by omega)) ⟨rfl, rfl, rfl, rfl, rfl, trivial⟩ (same)
  · obtain rfl : k = l.length := by omega
    rw [List.take_length] at hok hb
    have hpm : parseM l = match readM 256 l with | some (t, []) => if l.all cleanItem then .ok t else .error 5 | _ => .error 5 := by
      unfold parseM
      rw [if_pos hok]
      rcases readM 256 l with _ | ⟨t, r⟩
      · rfl
      · cases r <;> rfl
    rw [hpm]
    rcases hm : readM 256 l with _ | ⟨t, r⟩
    · rw [hm] at hR
      refine h_exit ?_
      refine q_thenE ?_
      refine q_thenE ?_
      refine q_blockE ?_
      refine q_then ?_
      refine h_seq ?_
      refine h_reg ?_
      refine h_op (r_move rfl) ?_
      refine h_call (hR.comes) rfl rfl rfl fun _ => ?_
      rcases b with _ | _
      · refine h_op (r_move rfl) ?_
        refine h_op (r_extract rfl rfl) ?_
        refine h_op (r_extract rfl rfl) ?_
        refine h_op (r_assign rfl) ?_
        refine h_op (r_assign rfl) ?_
        refine h_nil ?_
        refine q_then ?_
        refine h_seq ?_
        refine h_seq ?_
        refine h_reg ?_
        refine h_op (r_move rfl) ?_
        refine h_op (r_not rfl) ?_
        refine h_op (r_move rfl) ?_
        refine h_opOff ?_
        refine h_opOff ?_
        refine h_op (r_pick rfl rfl) ?_
        refine h_op (r_move rfl) ?_
        refine h_opOff ?_
        refine h_opOff ?_
        refine h_opOff ?_
        refine h_op (r_pick rfl rfl) ?_
        refine h_nil ?_
        refine q_then ?_
        refine h_condT rfl ?_
        refine h_seq ?_
        refine h_reg ?_
        refine h_op (r_assign rfl) ?_
        refine h_op (r_assign rfl) ?_
        refine h_nil ?_
        refine q_then ?_
        refine h_ret ?_
        refine q_thenR ?_
        exact h_ret2 rfl rfl rfl fun w s => ⟨(), rfl, s.res (List.nil_sublist _) (by simp)⟩
      · refine h_op (r_move rfl) ?_
        refine h_op (r_extract rfl rfl) ?_
        refine h_op (r_extract rfl rfl) ?_
        refine h_op (r_assign rfl) ?_
        refine h_op (r_assign rfl) ?_
        refine h_nil ?_
        refine q_then ?_
        refine h_seq ?_
        refine h_seq ?_
        refine h_reg ?_
        refine h_op (r_move rfl) ?_
        refine h_op (r_not rfl) ?_
        refine h_op (r_move rfl) ?_
        refine h_op (r_move rfl) ?_
        refine h_op (r_nilnil rfl) ?_
        refine h_op (r_pick rfl rfl) ?_
        refine h_op (r_move rfl) ?_
        refine h_opOff ?_
        refine h_opOff ?_
        refine h_opOff ?_
        refine h_op (r_pick rfl rfl) ?_
        refine h_nil ?_
        refine q_then ?_
        refine h_condT rfl ?_
        refine h_seq ?_
        refine h_reg ?_
        refine h_op (r_assign rfl) ?_
        refine h_op (r_assign rfl) ?_
        refine h_nil ?_
        refine q_then ?_
        refine h_ret ?_
        refine q_thenR ?_
        exact h_ret2 rfl rfl rfl fun w s => ⟨(), rfl, s.res (List.nil_sublist _) (by simp)⟩
    · rw [hm] at hR
      refine h_exit ?_
      refine q_thenE ?_
      refine q_thenE ?_
      refine q_blockE ?_
      refine q_then ?_
      refine h_seq ?_
      refine h_reg ?_
      refine h_op (r_move rfl) ?_
      refine h_call (hR.comes) rfl rfl rfl fun ⟨⟨A1, c1⟩, hz1, hc1⟩ => ?_
      dsimp only at hz1 hc1 ⊢
      rcases b with _ | _
      · rw [show parseV (match (some (t, r) : Option (Sub × List Item)) with | some (t, []) => if l.all cleanItem then .ok t else .error 5 | _ => .error 5) = parseV (.error 5) by cases r <;> simp [← hb]]
        refine h_op (r_move rfl) ?_
        refine h_op (r_extract rfl rfl) ?_
        refine h_op (r_extract rfl rfl) ?_
        refine h_op (r_assign rfl) ?_
        refine h_op (r_assign rfl) ?_
        refine h_nil ?_
        refine q_then ?_
        refine h_seq ?_
        refine h_seq ?_
        refine h_reg ?_
        refine h_op (r_move rfl) ?_
        refine h_op (r_not rfl) ?_
        refine h_op (r_move rfl) ?_
        refine h_opOff ?_
        refine h_opOff ?_
        refine h_op (r_pick rfl rfl) ?_
        refine h_op (r_move rfl) ?_
        refine h_opOff ?_
        refine h_opOff ?_
        refine h_opOff ?_
        refine h_op (r_pick rfl rfl) ?_
        refine h_nil ?_
        refine q_then ?_
        refine h_condT rfl ?_
        refine h_seq ?_
        refine h_reg ?_
        refine h_op (r_assign rfl) ?_
        refine h_op (r_assign rfl) ?_
        refine h_nil ?_
        refine q_then ?_
        refine h_ret ?_
        refine q_thenR ?_
        exact h_ret2 rfl rfl rfl fun w s => ⟨(), rfl, s.res (List.nil_sublist _) (by simp)⟩
      · rcases r with _ | ⟨y, r⟩
        · rw [show parseV (match (some (t, []) : Option (Sub × List Item)) with | some (t, []) => if l.all cleanItem then .ok t else .error 5 | _ => .error 5) = parseV (.ok t) by simp [← hb]]
          refine h_op (r_move rfl) ?_
          refine h_op (r_extract rfl rfl) ?_
          refine h_op (r_extract rfl rfl) ?_
          refine h_op (r_assign rfl) ?_
          refine h_op (r_assign rfl) ?_
          refine h_nil ?_
          refine q_then ?_
          refine h_seq ?_
          refine h_seq ?_
          refine h_reg ?_
          refine h_op (r_move rfl) ?_
          refine h_op (r_not rfl) ?_
          refine h_op (r_move rfl) ?_
          refine h_op (r_move rfl) ?_
          refine h_op (r_ifnil rfl) ?_
          refine h_op (r_pick rfl rfl) ?_
          refine h_op (r_move rfl) ?_
          refine h_op (r_move rfl) ?_
          refine h_op (r_len rfl) ?_
          refine h_op (r_bool (r_gtr rfl rfl) (show _ = false from rfl)) ?_
          refine h_op (r_pick rfl rfl) ?_
          refine h_nil ?_
          refine q_then ?_
          refine h_condF rfl ?_
          refine h_skip ?_
          refine q_then ?_
          refine h_seq ?_
          refine h_reg ?_
          refine h_op (r_move rfl) ?_
          refine h_op (r_assign rfl) ?_
          refine h_op (r_assign rfl) ?_
          refine h_nil ?_
          refine q_then ?_
          refine h_ret ?_
          exact h_ret2 rfl rfl rfl fun w s => ⟨(), rfl, s.res (List.nil_sublist _) (by simp)⟩
        · refine h_op (r_move rfl) ?_
          refine h_op (r_extract rfl rfl) ?_
          refine h_op (r_extract rfl rfl) ?_
          refine h_op (r_assign rfl) ?_
          refine h_op (r_assign rfl) ?_
          refine h_nil ?_
          refine q_then ?_
          refine h_seq ?_
          refine h_seq ?_
          refine h_reg ?_
          refine h_op (r_move rfl) ?_
          refine h_op (r_not rfl) ?_
          refine h_op (r_move rfl) ?_
          refine h_op (r_move rfl) ?_
          refine h_op (r_ifnil rfl) ?_
          refine h_op (r_pick rfl rfl) ?_
          refine h_op (r_move rfl) ?_
          refine h_op (r_move rfl) ?_
          refine h_op (r_len rfl) ?_
          refine h_op (r_bool (r_gtr rfl rfl) (decide_eq_true (by simp))) ?_
          refine h_op (r_pick rfl rfl) ?_
          refine h_nil ?_
          refine q_then ?_
          refine h_condT rfl ?_
          refine h_seq ?_
          refine h_reg ?_
          refine h_op (r_assign rfl) ?_
          refine h_op (r_assign rfl) ?_
          refine h_nil ?_
          refine q_then ?_
          refine h_ret ?_
          refine q_thenR ?_
          exact h_ret2 rfl rfl rfl fun w s => ⟨(), rfl, s.res (List.nil_sublist _) (by simp)⟩
theorem mCheck_s (l : List Item) (A : Option Addr) (c : Nat) [hr : RdZ h A (its l)] (hc : l.length ≤ c) (hl : l.length ≤ 1000000) : Spec Tryz.prog 55 [.slice A l.length c].toArray [.zone false h] [] (fun _ : Unit => .int .i64 (checkM l)) (fun _ => []) := by
  have hp := parse_s h l A c hc hl
  unfold checkM
  refine spec_of Tryz.func55 rfl (n := 11) rfl rfl ?_
  intro W
  refine h_seq ?_
  refine h_reg ?_
  refine h_op (r_assign rfl) ?_
  refine h_nil ?_
  refine q_then ?_
  refine h_seq ?_
  refine h_reg ?_
  refine h_op (r_move rfl) ?_
  refine h_call (hp.comes) rfl rfl rfl fun _ => ?_
  cases parseM l
  · refine h_op (r_move rfl) ?_
    refine h_op (r_extract rfl rfl) ?_
    refine h_op (r_extract rfl rfl) ?_
    refine h_op (r_assign rfl) ?_
    refine h_op (r_assign rfl) ?_
    refine h_nil ?_
    refine q_then ?_
    refine h_seq ?_
    refine h_reg ?_
    refine h_op (r_move rfl) ?_
    refine h_op (r_assign rfl) ?_
    refine h_nil ?_
    refine q_then ?_
    refine h_ret ?_
    exact h_ret1 rfl rfl fun w s => ⟨(), rfl, s.res (List.nil_sublist _) (by simp)⟩
  · refine h_op (r_move rfl) ?_
    refine h_op (r_extract rfl rfl) ?_
    refine h_op (r_extract rfl rfl) ?_
    refine h_op (r_assign rfl) ?_
    refine h_op (r_assign rfl) ?_
    refine h_nil ?_
    refine q_then ?_
    refine h_seq ?_
    refine h_reg ?_
    refine h_op (r_move rfl) ?_
    refine h_op (r_assign rfl) ?_
    refine h_nil ?_
    refine q_then ?_
    refine h_ret ?_
    exact h_ret1 rfl rfl fun w s => ⟨(), rfl, s.res (List.nil_sublist _) (by simp)⟩
end
end Go.Proofs.YtgfkbeipckbkiaaGreatDoor
/- U64 -/
namespace Go.Proofs.YtgfkbeipckbkiaaGreatDoor
set_option linter.unusedSimpArgs false
set_option linter.unusedVariables false
open Go.RowKit
def preI (x : Item) : List UInt8 := if x.kind = 1 then preL x.leaf else preE
def dgS (n : Nat) : Sub → B32
  | .one x => if x.kind = 3 then x.digest else sumB n (preI x)
  | .two l r => sumB n (preN (dgS n l) (dgS n r))
def Sub.cost : Sub → Nat
  | .one x => if x.kind = 3 then 0 else 1
  | .two l r => l.cost + r.cost + 1
def Sub.dig : Sub → FuncId
  | .one _ => 220
  | .two _ _ => 219
instance : MethT Tryz.prog 146 "sparsetree/multi.digest" 220 := ⟨fun v args w => by kernel_rfl⟩
instance : MethT Tryz.prog 142 "sparsetree/multi.digest" 219 := ⟨fun v args w => by kernel_rfl⟩
instance (t : Sub) : MethT Tryz.prog t.tag "sparsetree/multi.digest" t.dig := by
  cases t
  · exact inferInstanceAs (MethT Tryz.prog 146 _ 220)
  · exact inferInstanceAs (MethT Tryz.prog 142 _ 219)
instance (t : Sub) : Ent Tryz.prog t.dig := by
  cases t
  · exact inferInstanceAs (Ent Tryz.prog 220)
  · exact inferInstanceAs (Ent Tryz.prog 219)
theorem preI_len (x : Item) : (preI x).length ≤ 65 := by
  unfold preI
  split
  · rw [preL_len]; exact Nat.le_refl _
  · decide
theorem epre_s (x : Item) : Spec Tryz.prog 72 [.agg x.cells.toArray].toArray [] [] (fun u : Nat × Nat => .slice (some ⟨u.1, 0, none⟩) (preI x).length u.2) (fun u => [.own (.slice (some ⟨u.1, 0, none⟩) (preI x).length u.2) (preI x).length 5 1 (bc (preI x))]) := by
  refine spec_of Tryz.func72 rfl (n := 12) rfl rfl ?_
  intro W
  by_cases hk : x.kind = 1
  · rw [show preI x = preL x.leaf from if_pos hk]
    refine h_seq ?_
    refine h_reg ?_
    refine h_opX (x_box rfl) fun g1 => ?_
    refine h_op (r_assign rfl) ?_
    refine h_nil ?_
    refine q_then ?_
    refine h_seq ?_
    refine h_seq ?_
    refine h_reg ?_
    refine h_op (r_field rfl) ?_
    refine h_op (r_field rfl) ?_
    refine h_op (r_loadc rfl) ?_
    refine h_op (r_bool (r_eql rfl rfl) (decide_eq_true hk)) ?_
    refine h_nil ?_
    refine q_then ?_
    refine h_condT rfl ?_
    refine h_seq ?_
    refine h_reg ?_
    refine h_op (r_field rfl) ?_
    refine h_op (r_field rfl) ?_
    refine h_op (r_loadr rfl) ?_
    refine h_call ((pLeaf_s x.leaf).comes) rfl rfl rfl fun ⟨g10, c10⟩ => ?_
    refine h_op (r_assign rfl) ?_
    refine h_nil ?_
    refine q_then ?_
    refine h_ret ?_
    refine q_thenR ?_
    exact h_ret1 rfl rfl fun w s => ⟨(g10, c10), rfl, (same w s).res (List.Sublist.refl _) (by simp [Fa.wr])⟩
  · rw [show preI x = preE from if_neg hk, show preE.length = 1 from rfl]
    refine h_seq ?_
    refine h_reg ?_
    refine h_opX (x_box rfl) fun g1 => ?_
    refine h_op (r_assign rfl) ?_
    refine h_nil ?_
    refine q_then ?_
    refine h_seq ?_
    refine h_seq ?_
    refine h_reg ?_
    refine h_op (r_field rfl) ?_
    refine h_op (r_field rfl) ?_
    refine h_op (r_loadc rfl) ?_
    refine h_op (r_bool (r_eql rfl rfl) (decide_eq_false hk)) ?_
    refine h_nil ?_
    refine q_then ?_
    refine h_condF rfl ?_
    refine h_skip ?_
    refine q_then ?_
    refine h_seq ?_
    refine h_reg ?_
    refine h_call ((pEmpty_s).comes) rfl rfl rfl fun ⟨g11, c11⟩ => ?_
    refine h_op (r_assign rfl) ?_
    refine h_nil ?_
    refine q_then ?_
    refine h_ret ?_
    exact h_ret1 rfl rfl fun w s => ⟨(g11, c11), rfl, (same w s).res (List.Sublist.refl _) (by simp [Fa.wr])⟩
section
variable (n : Nat) (hn : n ≤ 256) (gh gc : Nat)
include hn
theorem edig_s (x : Item) (k : Nat) (hk : k ≤ 100000000000) : Spec Tryz.prog 220 [.agg x.cells.toArray, .pointer (some ⟨gh, 0, none⟩)].toArray [HR gh gc n, TBL] [CN gc k] (fun _ : Unit => .agg (dgS n (.one x)).cells.toArray) (fun _ => [CN gc (k + (Sub.one x).cost)]) := by
  have hl := preI_len x
  unfold dgS Sub.cost
  refine spec_of Tryz.func220 rfl (n := 16) rfl rfl ?_
  intro W
  by_cases h3 : x.kind = 3
  · rw [if_pos h3, if_pos h3]
    refine h_seq ?_
    refine h_reg ?_
    refine h_opX (x_box rfl) fun g2 => ?_
    refine h_opX (x_alloc) fun g4 => ?_
    refine h_nil ?_
    refine q_then ?_
    refine h_seq ?_
    refine h_seq ?_
    refine h_reg ?_
    refine h_op (r_field rfl) ?_
    refine h_op (r_field rfl) ?_
    refine h_op (r_loadc rfl) ?_
    refine h_op (r_bool (r_eql rfl rfl) (decide_eq_true h3)) ?_
    refine h_nil ?_
    refine q_then ?_
    refine h_condT rfl ?_
    refine h_seq ?_
    refine h_reg ?_
    refine h_op (r_field rfl) ?_
    refine h_op (r_field rfl) ?_
    refine h_op (r_loadr rfl) ?_
    refine h_opS (s_storer rfl rfl) ?_
    refine h_nil ?_
    refine q_then ?_
    refine h_ret ?_
    refine q_thenR ?_
    exact h_ret1 rfl (rv_row rfl) fun w s => ⟨(), rfl, (same (L' := [CN gc k]) w s).res (List.Sublist.refl _) (by simp [Fa.wr])⟩
  · rw [if_neg h3, if_neg h3]
    refine h_seq ?_
    refine h_reg ?_
    refine h_opX (x_box rfl) fun g2 => ?_
    refine h_opX (x_alloc) fun g4 => ?_
    refine h_nil ?_
    refine q_then ?_
    refine h_seq ?_
    refine h_seq ?_
    refine h_reg ?_
    refine h_op (r_field rfl) ?_
    refine h_op (r_field rfl) ?_
    refine h_op (r_loadc rfl) ?_
    refine h_op (r_bool (r_eql rfl rfl) (decide_eq_false h3)) ?_
    refine h_nil ?_
    refine q_then ?_
    refine h_condF rfl ?_
    refine h_skip ?_
    refine q_then ?_
    refine h_seq ?_
    refine h_reg ?_
    refine h_op (r_move rfl) ?_
    refine h_op (r_loadr rfl) ?_
    refine h_call ((epre_s x).comes) rfl rfl rfl fun ⟨g14, c14⟩ => ?_
    refine h_call ((HSum_s n hn gh gc k (by omega) (preI x) (some ⟨g14, 0, none⟩) c14 (fun h => by cases h) (by omega)).comes) rfl rfl rfl fun _ => ?_
    refine h_opS (s_storer rfl rfl) ?_
    refine h_nil ?_
    refine q_then ?_
    refine h_ret ?_
    exact h_ret1 rfl (rv_row rfl) fun w s => ⟨(), rfl, (same (L' := [CN gc (k + 1)]) w s).res (List.Sublist.refl _) (by simp [Fa.wr])⟩
/-- what a subtree's digest brings -/
def DigS (t : Sub) : Prop := ∀ k, k + t.cost ≤ 100000000000 → Spec Tryz.prog t.dig [t.val, .pointer (some ⟨gh, 0, none⟩)].toArray [HR gh gc n, TBL] [CN gc k] (fun _ : Unit => .agg (dgS n t).cells.toArray) (fun _ => [CN gc (k + t.cost)])
omit hn in
theorem ppre_s (l r : Sub) (hl : DigS n gh gc l) (hr : DigS n gh gc r) (k : Nat) (hk : k + (l.cost + r.cost) ≤ 100000000000) : Spec Tryz.prog 70 [(Sub.two l r).val, .pointer (some ⟨gh, 0, none⟩)].toArray [HR gh gc n, TBL] [CN gc k] (fun u : Nat × Nat => .slice (some ⟨u.1, 0, none⟩) (preN (dgS n l) (dgS n r)).length u.2) (fun u => [.own (.slice (some ⟨u.1, 0, none⟩) (preN (dgS n l) (dgS n r)).length u.2) (preN (dgS n l) (dgS n r)).length 5 1 (bc (preN (dgS n l) (dgS n r))), CN gc (k + l.cost + r.cost)]) := by
  refine spec_of Tryz.func70 rfl (n := 14) rfl rfl ?_
  intro W
  change H _ _ _ _ (argsEnv 0 [.agg [.iface l.tag l.val, .iface r.tag r.val].toArray, .pointer (some ⟨gh, 0, none⟩)]) _ _
  refine h_seq ?_
  refine h_reg ?_
  refine h_opX (x_box rfl) fun g2 => ?_
  refine h_op (r_assign rfl) ?_
  refine h_nil ?_
  refine q_then ?_
  refine h_seq ?_
  refine ha_start [.blk g2 [.iface l.tag l.val, .iface r.tag r.val] 142] [] mixed (same) ?_
  refine ha_takeP 0 rfl (r_idxA rfl rfl) ?_
  refine ha_take 1 rfl (r_loadc rfl) ?_
  refine ha_takeP 2 rfl (r_move rfl) ?_
  refine ha_takeP 4 rfl (r_idxA rfl rfl) ?_
  refine ha_take 5 rfl (r_loadc rfl) ?_
  refine ha_takeP 6 rfl (r_move rfl) ?_
  refine ha_one 3 ?_
  refine ho_CM 3 rfl ((hl k (by omega)).comes) rfl rfl rfl (fun _ => same) fun _ => ?_
  refine ha_one 7 ?_
  refine ho_CM 7 rfl ((hr (k + l.cost) (by omega)).comes) rfl rfl rfl (fun _ => same) fun _ => ?_
  refine ha_one 8 ?_
  refine ho_C 8 rfl ((pNode_s (dgS n l) (dgS n r)).comes) rfl rfl rfl (fun _ => same) fun ⟨g13, c13⟩ => ?_
  refine ha_takeP 9 rfl (r_assign rfl) ?_
  refine ha_done (by kernel_rfl) ?_
  refine q_then ?_
  refine h_ret ?_
  exact h_ret1 rfl rfl fun w s => ⟨(g13, c13), rfl, (same w s).res (List.Sublist.refl _) (by simp [Fa.wr])⟩
theorem dig_s : ∀ t : Sub, DigS n gh gc t
  | .one x => fun k hk => edig_s n hn gh gc x k (by omega)
  | .two l r => fun k hk => by
    have ihl := dig_s l
    have ihr := dig_s r
    have hk' : k + (l.cost + r.cost + 1) ≤ 100000000000 := hk
    show Spec Tryz.prog 219 _ _ _ _ (fun _ => [CN gc (k + (l.cost + r.cost + 1))])
    unfold dgS
    have hP := ppre_s n gh gc l r ihl ihr k (by omega)
    have hpl := preN_len (dgS n l) (dgS n r)
    rw [show k + (l.cost + r.cost + 1) = k + l.cost + r.cost + 1 by omega]
    refine spec_of Tryz.func219 rfl (n := 10) rfl rfl ?_
    intro W
    change H _ _ _ _ (argsEnv 0 [.agg [.iface l.tag l.val, .iface r.tag r.val].toArray, .pointer (some ⟨gh, 0, none⟩)]) _ _
    refine h_seq ?_
    refine h_reg ?_
    refine h_opX (x_box rfl) fun g2 => ?_
    refine h_opX (x_alloc) fun g4 => ?_
    refine h_nil ?_
    refine q_then ?_
    refine h_seq ?_
    refine h_reg ?_
    refine h_op (r_move rfl) ?_
    refine h_op (r_loadr rfl) ?_
    refine h_op (r_move rfl) ?_
    refine h_call (hP.comes) rfl rfl rfl fun ⟨g8, c8⟩ => ?_
    dsimp only
    refine h_call ((HSum_s n hn gh gc (k + l.cost + r.cost) (by omega) (preN (dgS n l) (dgS n r)) (some ⟨g8, 0, none⟩) c8 (fun h => by cases h) (by omega)).comes) rfl rfl rfl fun _ => ?_
    refine h_opS (s_storer rfl rfl) ?_
    refine h_nil ?_
    refine q_then ?_
    refine h_ret ?_
    exact h_ret1 rfl (rv_row rfl) fun w s => ⟨(), rfl, (same (L' := [CN gc (k + l.cost + r.cost + 1)]) w s).res (List.Sublist.refl _) (by simp [Fa.wr])⟩
end
end Go.Proofs.YtgfkbeipckbkiaaGreatDoor
/- U65 -/
namespace Go.Proofs.YtgfkbeipckbkiaaGreatDoor
set_option linter.unusedSimpArgs false
set_option linter.unusedVariables false
open Go.RowKit
theorem its_kind {l : List Item} {k : Nat} {x : Item} (h : l[k]? = some x) : (its l)[k * 97]? = some (.int .i64 x.kind) := by
  have := its_at h 0 (.int .i64 x.kind) (by simp [Item.cells])
  rwa [Nat.add_zero] at this
theorem Skip_neg (l : List Item) (A : Option Addr) (c : Nat) (i : Int) : Spec Tryz.prog 73 [.slice A l.length c, .int .i64 (-1), .int .i64 i].toArray [.rd A (its l)] [] (fun _ : Unit => .int .i64 (-1)) (fun _ => []) := by
  refine spec_of Tryz.func73 rfl (n := 45) rfl rfl ?_
  intro W
  refine h_seq ?_
  refine h_reg ?_
  refine h_op (r_assign rfl) ?_
  refine h_nil ?_
  refine q_then ?_
  refine h_seq ?_
  refine h_seq ?_
  refine h_reg ?_
  refine h_op (r_move rfl) ?_
  refine h_op (r_bool (r_lss rfl rfl) (show _ = true from rfl)) ?_
  refine h_op (r_move rfl) ?_
  refine h_opOff ?_
  refine h_opOff ?_
  refine h_opOff ?_
  refine h_opOff ?_
  refine h_op (r_pick rfl rfl) ?_
  refine h_op (r_move rfl) ?_
  refine h_opOff ?_
  refine h_opOff ?_
  refine h_opOff ?_
  refine h_opOff ?_
  refine h_opOff ?_
  refine h_opOff ?_
  refine h_opOff ?_
  refine h_opOff ?_
  refine h_opOff ?_
  refine h_opOff ?_
  refine h_op (r_pick rfl rfl) ?_
  refine h_nil ?_
  refine q_then ?_
  refine h_condT rfl ?_
  refine h_seq ?_
  refine h_reg ?_
  refine h_op (r_assign rfl) ?_
  refine h_nil ?_
  refine q_then ?_
  refine h_ret ?_
  refine q_thenR ?_
  exact h_ret1 rfl rfl fun w s => ⟨(), rfl, s.res (List.nil_sublist _) (by simp)⟩
theorem Skip_end (l : List Item) (A : Option Addr) (c at_ : Nat) (h : l.length ≤ at_) (i : Int) : Spec Tryz.prog 73 [.slice A l.length c, .int .i64 (at_ : Int), .int .i64 i].toArray [.rd A (its l)] [] (fun _ : Unit => .int .i64 (-1)) (fun _ => []) := by
  refine spec_of Tryz.func73 rfl (n := 45) rfl rfl ?_
  intro W
  refine h_seq ?_
  refine h_reg ?_
  refine h_op (r_assign rfl) ?_
  refine h_nil ?_
  refine q_then ?_
  refine h_seq ?_
  refine h_seq ?_
  refine h_reg ?_
  refine h_op (r_move rfl) ?_
  refine h_op (r_bool (r_lss rfl rfl) (decide_eq_false (by omega))) ?_
  refine h_op (r_move rfl) ?_
  refine h_op (r_move rfl) ?_
  refine h_op (r_move rfl) ?_
  refine h_op (r_len rfl) ?_
  refine h_op (r_bool (r_geq rfl rfl) (decide_eq_true (by omega))) ?_
  refine h_op (r_pick rfl rfl) ?_
  refine h_op (r_move rfl) ?_
  refine h_opOff ?_
  refine h_opOff ?_
  refine h_opOff ?_
  refine h_opOff ?_
  refine h_opOff ?_
  refine h_opOff ?_
  refine h_opOff ?_
  refine h_opOff ?_
  refine h_opOff ?_
  refine h_opOff ?_
  refine h_op (r_pick rfl rfl) ?_
  refine h_nil ?_
  refine q_then ?_
  refine h_condT rfl ?_
  refine h_seq ?_
  refine h_reg ?_
  refine h_op (r_assign rfl) ?_
  refine h_nil ?_
  refine q_then ?_
  refine h_ret ?_
  refine q_thenR ?_
  exact h_ret1 rfl rfl fun w s => ⟨(), rfl, s.res (List.nil_sublist _) (by simp)⟩
section
variable (l : List Item) (A : Option Addr) (c : Nat) (at_ : Nat) (x : Item) (hx : l[at_]? = some x) (hl : l.length ≤ 1000000)
include hx hl
theorem Skip_one (hk : x.kind ≠ 2) (i : Int) : Spec Tryz.prog 73 [.slice A l.length c, .int .i64 (at_ : Int), .int .i64 i].toArray [.rd A (its l)] [] (fun _ : Unit => .int .i64 ((at_ + 1 : Nat) : Int)) (fun _ => []) := by
  have hat : at_ < l.length := (List.getElem?_eq_some_iff.1 hx).1
  have hki := its_kind hx
  refine spec_of Tryz.func73 rfl (n := 45) rfl rfl ?_
  intro W
  refine h_pure (φ := ∃ b o, A = some ⟨b, o, none⟩) (fun w s => Rd.some (s.ok (.rd A (its l)) (by simp)) (by rw [its_len]; omega)) ?_
  rintro ⟨b, o, rfl⟩
  refine h_seq ?_
  refine h_reg ?_
  refine h_op (r_assign rfl) ?_
  refine h_nil ?_
  refine q_then ?_
  refine h_seq ?_
  refine h_seq ?_
  refine h_reg ?_
  refine h_op (r_move rfl) ?_
  refine h_op (r_bool (r_lss rfl rfl) (decide_eq_false (by omega))) ?_
  refine h_op (r_move rfl) ?_
  refine h_op (r_move rfl) ?_
  refine h_op (r_move rfl) ?_
  refine h_op (r_len rfl) ?_
  refine h_op (r_bool (r_geq rfl rfl) (decide_eq_false (by omega))) ?_
  refine h_op (r_pick rfl rfl) ?_
  refine h_op (r_move rfl) ?_
  refine h_op (r_move rfl) ?_
  refine h_op (r_move rfl) ?_
  refine h_op (r_idx rfl rfl) ?_
  refine h_op (r_field rfl) ?_
  refine h_op (r_nth rfl hki) ?_
  refine h_op (r_bool (r_eql rfl rfl) (decide_eq_false hk)) ?_
  refine h_op (r_move rfl) ?_
  refine h_opOff ?_
  refine h_opOff ?_
  refine h_op (r_pick rfl rfl) ?_
  refine h_op (r_pick rfl rfl) ?_
  refine h_nil ?_
  refine q_then ?_
  refine h_condF rfl ?_
  refine h_skip ?_
  refine q_then ?_
  refine h_seq ?_
  refine h_seq ?_
  refine h_reg ?_
  refine h_op (r_move rfl) ?_
  refine h_op (r_move rfl) ?_
  refine h_op (r_idx rfl rfl) ?_
  refine h_op (r_field rfl) ?_
  refine h_op (r_nth rfl hki) ?_
  refine h_op (r_bool (r_neq rfl rfl) (decide_eq_true hk)) ?_
  refine h_nil ?_
  refine q_then ?_
  refine h_condT rfl ?_
  refine h_seq ?_
  refine h_reg ?_
  refine h_op (r_move rfl) ?_
  refine h_op (r_add rfl rfl) ?_
  refine h_op (r_assign rfl) ?_
  refine h_nil ?_
  refine q_then ?_
  refine h_ret ?_
  refine q_thenR ?_
  exact h_ret1 rfl rfl fun w s => ⟨(), rfl, s.res (List.nil_sublist _) (by simp)⟩
theorem Skip_deep (hk : x.kind = 2) (i : Int) (hi : 255 < i) : Spec Tryz.prog 73 [.slice A l.length c, .int .i64 (at_ : Int), .int .i64 i].toArray [.rd A (its l)] [] (fun _ : Unit => .int .i64 (-1)) (fun _ => []) := by
  have hat : at_ < l.length := (List.getElem?_eq_some_iff.1 hx).1
  have hki := its_kind hx
  refine spec_of Tryz.func73 rfl (n := 45) rfl rfl ?_
  intro W
  refine h_pure (φ := ∃ b o, A = some ⟨b, o, none⟩) (fun w s => Rd.some (s.ok (.rd A (its l)) (by simp)) (by rw [its_len]; omega)) ?_
  rintro ⟨b, o, rfl⟩
  refine h_seq ?_
  refine h_reg ?_
  refine h_op (r_assign rfl) ?_
  refine h_nil ?_
  refine q_then ?_
  refine h_seq ?_
  refine h_seq ?_
  refine h_reg ?_
  refine h_op (r_move rfl) ?_
  refine h_op (r_bool (r_lss rfl rfl) (decide_eq_false (by omega))) ?_
  refine h_op (r_move rfl) ?_
  refine h_op (r_move rfl) ?_
  refine h_op (r_move rfl) ?_
  refine h_op (r_len rfl) ?_
  refine h_op (r_bool (r_geq rfl rfl) (decide_eq_false (by omega))) ?_
  refine h_op (r_pick rfl rfl) ?_
  refine h_op (r_move rfl) ?_
  refine h_op (r_move rfl) ?_
  refine h_op (r_move rfl) ?_
  refine h_op (r_idx rfl rfl) ?_
  refine h_op (r_field rfl) ?_
  refine h_op (r_nth rfl hki) ?_
  refine h_op (r_bool (r_eql rfl rfl) (decide_eq_true hk)) ?_
  refine h_op (r_move rfl) ?_
  refine h_op (r_move rfl) ?_
  refine h_op (r_bool (r_gtr rfl rfl) (decide_eq_true (by omega))) ?_
  refine h_op (r_pick rfl rfl) ?_
  refine h_op (r_pick rfl rfl) ?_
  refine h_nil ?_
  refine q_then ?_
  refine h_condT rfl ?_
  refine h_seq ?_
  refine h_reg ?_
  refine h_op (r_assign rfl) ?_
  refine h_nil ?_
  refine q_then ?_
  refine h_ret ?_
  refine q_thenR ?_
  exact h_ret1 rfl rfl fun w s => ⟨(), rfl, s.res (List.nil_sublist _) (by simp)⟩
theorem Skip_two (hk : x.kind = 2) (d : Nat) (hd : d < 256) (r1 r2 : Int) (h1 : Spec Tryz.prog 73 [.slice A l.length c, .int .i64 ((at_ + 1 : Nat) : Int), .int .i64 (256 - (d : Int))].toArray [.rd A (its l)] [] (fun _ : Unit => .int .i64 r1) (fun _ => []))
    (h2 : Spec Tryz.prog 73 [.slice A l.length c, .int .i64 r1, .int .i64 (256 - (d : Int))].toArray [.rd A (its l)] [] (fun _ : Unit => .int .i64 r2) (fun _ => [])) : Spec Tryz.prog 73 [.slice A l.length c, .int .i64 (at_ : Int), .int .i64 (256 - ((d + 1 : Nat) : Int))].toArray [.rd A (its l)] [] (fun _ : Unit => .int .i64 r2) (fun _ => []) := by
  have hat : at_ < l.length := (List.getElem?_eq_some_iff.1 hx).1
  have hki := its_kind hx
  refine spec_of Tryz.func73 rfl (n := 45) rfl rfl ?_
  intro W
  refine h_pure (φ := ∃ b o, A = some ⟨b, o, none⟩) (fun w s => Rd.some (s.ok (.rd A (its l)) (by simp)) (by rw [its_len]; omega)) ?_
  rintro ⟨b, o, rfl⟩
  refine h_seq ?_
  refine h_reg ?_
  refine h_op (r_assign rfl) ?_
  refine h_nil ?_
  refine q_then ?_
  refine h_seq ?_
  refine h_seq ?_
  refine h_reg ?_
  refine h_op (r_move rfl) ?_
  refine h_op (r_bool (r_lss rfl rfl) (decide_eq_false (by omega))) ?_
  refine h_op (r_move rfl) ?_
  refine h_op (r_move rfl) ?_
  refine h_op (r_move rfl) ?_
  refine h_op (r_len rfl) ?_
  refine h_op (r_bool (r_geq rfl rfl) (decide_eq_false (by omega))) ?_
  refine h_op (r_pick rfl rfl) ?_
  refine h_op (r_move rfl) ?_
  refine h_op (r_move rfl) ?_
  refine h_op (r_move rfl) ?_
  refine h_op (r_idx rfl rfl) ?_
  refine h_op (r_field rfl) ?_
  refine h_op (r_nth rfl hki) ?_
  refine h_op (r_bool (r_eql rfl rfl) (decide_eq_true hk)) ?_
  refine h_op (r_move rfl) ?_
  refine h_op (r_move rfl) ?_
  refine h_op (r_bool (r_gtr rfl rfl) (decide_eq_false (by omega))) ?_
  refine h_op (r_pick rfl rfl) ?_
  refine h_op (r_pick rfl rfl) ?_
  refine h_nil ?_
  refine q_then ?_
  refine h_condF rfl ?_
  refine h_skip ?_
  refine q_then ?_
  refine h_seq ?_
  refine h_seq ?_
  refine h_reg ?_
  refine h_op (r_move rfl) ?_
  refine h_op (r_move rfl) ?_
  refine h_op (r_idx rfl rfl) ?_
  refine h_op (r_field rfl) ?_
  refine h_op (r_nth rfl hki) ?_
  refine h_op (r_bool (r_neq rfl rfl) (decide_eq_false (fun h => h hk))) ?_
  refine h_nil ?_
  refine q_then ?_
  refine h_condF rfl ?_
  refine h_skip ?_
  refine q_then ?_
  refine h_seq ?_
  refine h_reg ?_
  refine h_op (r_move rfl) ?_
  refine h_op (r_move rfl) ?_
  refine h_op (r_move rfl) ?_
  refine h_op (r_int (r_add rfl rfl) (show _ = ((at_ + 1 : Nat) : Int) by omega)) ?_
  refine h_op (r_move rfl) ?_
  refine h_op (r_int (r_add rfl rfl) (show _ = 256 - (d : Int) by omega)) ?_
  refine h_call (h1.comes) rfl rfl rfl fun _ => ?_
  refine h_op (r_move rfl) ?_
  refine h_op (r_int (r_add rfl rfl) (show _ = 256 - (d : Int) by omega)) ?_
  refine h_call (h2.comes) rfl rfl rfl fun _ => ?_
  refine h_op (r_assign rfl) ?_
  refine h_nil ?_
  refine q_then ?_
  refine h_ret ?_
  exact h_ret1 rfl rfl fun w s => ⟨(), rfl, s.res (List.nil_sublist _) (by simp)⟩
end
theorem drop_get {l : List Item} {k : Nat} {x : Item} (h : l[k]? = some x) : l.drop k = x :: l.drop (k + 1) := by
  obtain ⟨h1, h2⟩ := List.getElem?_eq_some_iff.1 h
  rw [List.drop_eq_getElem_cons h1, h2]
theorem Skip_s (l : List Item) (A : Option Addr) (c : Nat) (hl : l.length ≤ 1000000) : ∀ (d : Nat), d ≤ 256 → ∀ at_ : Nat, Spec Tryz.prog 73 [.slice A l.length c, .int .i64 (at_ : Int), .int .i64 (256 - (d : Int))].toArray [.rd A (its l)] [] (fun _ : Unit => .int .i64 (skipI l (readM d (l.drop at_)))) (fun _ => [])
  | d, hd, at_ => by
    cases hx : l[at_]? with
    | none =>
      have h1 := List.getElem?_eq_none_iff.1 hx
      rw [List.drop_of_length_le h1, show readM d [] = none by cases d <;> rfl]
      exact Skip_end l A c at_ h1 _
    | some x =>
      have hat : at_ < l.length := (List.getElem?_eq_some_iff.1 hx).1
      rw [drop_get hx]
      by_cases hk : x.kind = 2
      · match d, hd with
        | 0, _ =>
          rw [show readM 0 (x :: l.drop (at_ + 1)) = none by unfold readM; rw [if_pos hk]]
          exact Skip_deep l A c at_ x hx hl hk _ (by simp)
        | d + 1, hd =>
          have h1 := Skip_s l A c hl d (by omega) (at_ + 1)
          have e : readM (d + 1) (x :: l.drop (at_ + 1)) = (readM d (l.drop (at_ + 1))).bind fun p => (readM d p.2).bind fun q => some (.two p.1 q.1, q.2) := by
            conv => lhs; unfold readM
            rw [if_pos hk]
          rw [e]
          cases hm : readM d (l.drop (at_ + 1)) with
          | none =>
            rw [hm] at h1
            exact Skip_two l A c at_ x hx hl hk d (by omega) _ _ h1 (Skip_neg l A c _)
          | some p =>
            obtain ⟨t, rest⟩ := p
            obtain ⟨m, hm0, hml, rfl⟩ := readM_suffix d _ t rest hm
            rw [hm] at h1
            rw [List.length_drop] at hml
            have e2 : skipI l (some (t, (l.drop (at_ + 1)).drop m)) = ((at_ + 1 + m : Nat) : Int) := by
              simp only [skipI, List.length_drop]; omega
            rw [e2] at h1
            have h2 := Skip_s l A c hl d (by omega) (at_ + 1 + m)
            rw [← List.drop_drop] at h2
            have h3 := Skip_two l A c at_ x hx hl hk d (by omega) _ _ h1 h2
            have e3 : skipI l (readM d ((l.drop (at_ + 1)).drop m)) = skipI l ((some (t, (l.drop (at_ + 1)).drop m)).bind fun p => (readM d p.2).bind fun q => some (Sub.two p.1 q.1, q.2)) := by
              show _ = skipI l ((readM d ((l.drop (at_ + 1)).drop m)).bind fun q => some (Sub.two t q.1, q.2))
              cases readM d ((l.drop (at_ + 1)).drop m) <;> rfl
            rw [← e3]
            exact h3
      · rw [show readM d (x :: l.drop (at_ + 1)) = some (.one x, l.drop (at_ + 1)) by cases d <;> (unfold readM; rw [if_neg hk])]
        rw [show skipI l (some (Sub.one x, l.drop (at_ + 1))) = ((at_ + 1 : Nat) : Int) by simp only [skipI, List.length_drop]; omega]
        exact Skip_one l A c at_ x hx hl hk _
termination_by d => d
end Go.Proofs.YtgfkbeipckbkiaaGreatDoor
/- U66 -/
namespace Go.Proofs.YtgfkbeipckbkiaaGreatDoor
set_option linter.unusedSimpArgs false
set_option linter.unusedVariables false
open Go.RowKit
theorem its_dg {l : List Item} {k : Nat} {x : Item} (h : l[k]? = some x) : ∀ j v, x.digest.cells[j]? = some v → (its l)[k * 97 + 1 + j]? = some v := fun j v hv => by
  have := its_at h (1 + j) v (by
    show (.int .i64 x.kind :: (x.digest.cells ++ x.leaf.cells))[1 + j]? = some v
    rw [Nat.add_comm, List.getElem?_cons_succ, List.getElem?_append_left (List.getElem?_eq_some_iff.1 hv).1]
    exact hv)
  rwa [Nat.add_assoc]
theorem its_lf {l : List Item} {k : Nat} {x : Item} (h : l[k]? = some x) : ∀ j v, x.leaf.cells[j]? = some v → (its l)[k * 97 + 33 + j]? = some v := fun j v hv => by
  have := its_at h (33 + j) v (by
    show (.int .i64 x.kind :: (x.digest.cells ++ x.leaf.cells))[33 + j]? = some v
    rw [show 33 + j = (32 + j) + 1 by omega, List.getElem?_cons_succ, List.getElem?_append_right (by rw [B32.cells_length]; omega), B32.cells_length, Nat.add_sub_cancel_left]
    exact hv)
  rwa [Nat.add_assoc]
theorem all_bad {α : Type} {p : α → Bool} {l : List α} {k : Nat} {x : α} (h : l[k]? = some x) (hp : p x = false) : ¬ l.all p = true := fun ha => by
  have := List.all_eq_true.1 ha x (List.mem_of_getElem? h)
  rw [hp] at this
  cases this
theorem rCheck19_s (l : List Item) (A : Option Addr) (c : Nat) (hl : l.length ≤ 1000000) : Spec Tryz.prog 29 [.slice A l.length c].toArray [.rd A (its l)] [] (fun _ : Unit => .int .i64 (checkM l)) (fun _ => []) := by
  rw [checkM_eq]
  have hSk := Skip_s l A c hl 256 (Nat.le_refl _) 0
  rw [List.drop_zero, show (256 - ((256 : Nat) : Int)) = 0 from rfl] at hSk
  refine spec_of Tryz.func29 rfl (n := 75) rfl rfl ?_
  intro W
  refine h_seq ?_
  refine h_reg ?_
  refine h_op (r_assign rfl) ?_
  refine h_nil ?_
  refine q_then ?_
  refine h_seq ?_
  refine h_reg ?_
  refine h_opX (x_alloc) fun g3 => ?_
  refine h_nil ?_
  refine q_then ?_
  refine h_seq ?_
  refine h_reg ?_
  refine h_opX (x_alloc) fun g4 => ?_
  refine h_nil ?_
  refine q_then ?_
  refine h_seq ?_
  refine h_seq ?_
  refine h_reg ?_
  refine h_op (r_assign rfl) ?_
  refine h_nil ?_
  refine q_then ?_
  refine h_block ?_
  refine h_loop (fun (k : Nat) => k ≤ l.length ∧ (l.take k).all kindOk = true) (fun (k : Nat) => [(5, .int .i64 (k : Int)), (0, .slice A l.length c), (3, .pointer (some ⟨g3, 0, none⟩)), (4, .pointer (some ⟨g4, 0, none⟩))]) (fun (k : Nat) => [.blk g4 zLeaf.cells 51, .blk g3 zB32.cells 41, .rd A (its l)]) (fun (k : Nat) => l.length - k) 0 (⟨Nat.zero_le _, rfl⟩) ⟨rfl, rfl, rfl, rfl, trivial⟩ (same) ?_
  rintro k ⟨hk, hok⟩
  refine h_seq ?_
  refine h_seq ?_
  refine h_reg ?_
  refine h_op (r_move rfl) ?_
  refine h_op (r_move rfl) ?_
  refine h_op (r_len rfl) ?_
  refine h_op (r_lss rfl rfl) ?_
  refine h_nil ?_
  refine q_then ?_
  refine h_cond rfl (fun hlt => ?_) (fun hlt => ?_)
  · have hk2 : k < l.length := by omega
    obtain ⟨x, hx⟩ : ∃ x, l[k]? = some x := ⟨_, List.getElem?_eq_getElem hk2⟩
    have hki := its_kind hx
    have hak := all_take kindOk l k x hx
    rw [hok, Bool.true_and] at hak
    refine h_pure (φ := ∃ b o, A = some ⟨b, o, none⟩) (fun w s => Rd.some (s.ok (.rd A (its l)) (by simp)) (by rw [its_len]; omega)) ?_
    rintro ⟨b, o, rfl⟩
    by_cases h1 : x.kind < 0
    · rw [if_neg (all_bad hx (by unfold kindOk; simp; omega))]
      refine h_skip ?_
      refine q_then ?_
      refine h_seq ?_
      refine h_block ?_
      refine h_seq ?_
      refine h_reg ?_
      refine h_op (r_move rfl) ?_
      refine h_op (r_move rfl) ?_
      refine h_op (r_idx rfl rfl) ?_
      refine h_op (r_field rfl) ?_
      refine h_op (r_nth rfl hki) ?_
      refine h_op (r_bool (r_lss rfl rfl) (decide_eq_true h1)) ?_
      refine h_op (r_move rfl) ?_
      refine h_opOff ?_
      refine h_opOff ?_
      refine h_opOff ?_
      refine h_opOff ?_
      refine h_opOff ?_
      refine h_opOff ?_
      refine h_op (r_pick rfl rfl) ?_
      refine h_nil ?_
      refine q_then ?_
      refine h_condT rfl ?_
      refine h_seq ?_
      refine h_reg ?_
      refine h_op (r_assign rfl) ?_
      refine h_nil ?_
      refine q_then ?_
      refine h_ret ?_
      refine q_blockR ?_
      refine q_thenR ?_
      refine q_thenR ?_
      refine q_blockR ?_
      refine q_thenR ?_
      exact h_ret1 rfl rfl fun w s => ⟨(), rfl, s.res (List.nil_sublist _) (by simp)⟩
    · by_cases h2 : 3 < x.kind
      · rw [if_neg (all_bad hx (by unfold kindOk; simp; omega))]
        refine h_skip ?_
        refine q_then ?_
        refine h_seq ?_
        refine h_block ?_
        refine h_seq ?_
        refine h_reg ?_
        refine h_op (r_move rfl) ?_
        refine h_op (r_move rfl) ?_
        refine h_op (r_idx rfl rfl) ?_
        refine h_op (r_field rfl) ?_
        refine h_op (r_nth rfl hki) ?_
        refine h_op (r_bool (r_lss rfl rfl) (decide_eq_false h1)) ?_
        refine h_op (r_move rfl) ?_
        refine h_op (r_move rfl) ?_
        refine h_op (r_move rfl) ?_
        refine h_op (r_idx rfl rfl) ?_
        refine h_op (r_field rfl) ?_
        refine h_op (r_nth rfl hki) ?_
        refine h_op (r_bool (r_gtr rfl rfl) (decide_eq_true h2)) ?_
        refine h_op (r_pick rfl rfl) ?_
        refine h_nil ?_
        refine q_then ?_
        refine h_condT rfl ?_
        refine h_seq ?_
        refine h_reg ?_
        refine h_op (r_assign rfl) ?_
        refine h_nil ?_
        refine q_then ?_
        refine h_ret ?_
        refine q_blockR ?_
        refine q_thenR ?_
        refine q_thenR ?_
        refine q_blockR ?_
        refine q_thenR ?_
        exact h_ret1 rfl rfl fun w s => ⟨(), rfl, s.res (List.nil_sublist _) (by simp)⟩
      · have hok' : (l.take (k + 1)).all kindOk = true := by rw [hak]; unfold kindOk; simp; omega
        refine h_skip ?_
        refine q_then ?_
        refine h_seq ?_
        refine h_block ?_
        refine h_seq ?_
        refine h_reg ?_
        refine h_op (r_move rfl) ?_
        refine h_op (r_move rfl) ?_
        refine h_op (r_idx rfl rfl) ?_
        refine h_op (r_field rfl) ?_
        refine h_op (r_nth rfl hki) ?_
        refine h_op (r_bool (r_lss rfl rfl) (decide_eq_false h1)) ?_
        refine h_op (r_move rfl) ?_
        refine h_op (r_move rfl) ?_
        refine h_op (r_move rfl) ?_
        refine h_op (r_idx rfl rfl) ?_
        refine h_op (r_field rfl) ?_
        refine h_op (r_nth rfl hki) ?_
        refine h_op (r_bool (r_gtr rfl rfl) (decide_eq_false h2)) ?_
        refine h_op (r_pick rfl rfl) ?_
        refine h_nil ?_
        refine q_then ?_
        refine h_condF rfl ?_
        refine h_skip ?_
        refine q_block ?_
        refine q_then ?_
        refine h_reg ?_
        refine h_op (r_move rfl) ?_
        refine h_op (r_add rfl rfl) ?_
        refine h_op (r_assign rfl) ?_
        refine h_nil ?_
        exact h_back (k + 1) (⟨hk2, hok'⟩) (by omega) ⟨rfl, rfl, rfl, rfl, trivial⟩ (same)
  · obtain rfl : k = l.length := by omega
    rw [List.take_length] at hok
    rw [if_pos hok]
    refine h_exit ?_
    refine q_thenE ?_
    refine q_thenE ?_
    refine q_blockE ?_
    refine q_then ?_
    refine h_seq ?_
    refine h_seq ?_
    refine h_reg ?_
    refine h_op (r_assign rfl) ?_
    refine h_nil ?_
    refine q_then ?_
    refine h_block ?_
    refine h_loop (fun (k : Nat) => k ≤ l.length ∧ (l.take k).all cleanItem = true) (fun (k : Nat) => [(6, .int .i64 (k : Int)), (0, .slice A l.length c), (3, .pointer (some ⟨g3, 0, none⟩)), (4, .pointer (some ⟨g4, 0, none⟩))]) (fun (k : Nat) => [.blk g4 zLeaf.cells 51, .blk g3 zB32.cells 41, .rd A (its l)]) (fun (k : Nat) => l.length - k) 0 (⟨Nat.zero_le _, rfl⟩) ⟨rfl, rfl, rfl, rfl, trivial⟩ (same) ?_
    rintro k ⟨hk, hcl⟩
    refine h_seq ?_
    refine h_seq ?_
    refine h_reg ?_
    refine h_op (r_move rfl) ?_
    refine h_op (r_move rfl) ?_
    refine h_op (r_len rfl) ?_
    refine h_op (r_lss rfl rfl) ?_
    refine h_nil ?_
    refine q_then ?_
    refine h_cond rfl (fun hlt => ?_) (fun hlt => ?_)
    · have hk2 : k < l.length := by omega
      obtain ⟨x, hx⟩ : ∃ x, l[k]? = some x := ⟨_, List.getElem?_eq_getElem hk2⟩
      have hki := its_kind hx
      have hdg := its_dg hx
      have hlf := its_lf hx
      have hac := all_take cleanItem l k x hx
      rw [hcl, Bool.true_and] at hac
      refine h_pure (φ := ∃ b o, A = some ⟨b, o, none⟩) (fun w s => Rd.some (s.ok (.rd A (its l)) (by simp)) (by rw [its_len]; omega)) ?_
      rintro ⟨b, o, rfl⟩
      refine h_skip ?_
      refine q_then ?_
      refine h_seq ?_
      refine h_block ?_
      refine h_seq ?_
      by_cases h3 : x.kind = 3
      · by_cases hz : x.leaf = zLeaf
        · have hok' : (l.take (k + 1)).all cleanItem = true := by rw [hac, clean3 h3, decide_eq_true hz]
          refine ha_start [.blk g4 zLeaf.cells 51, .blk g3 zB32.cells 41, .rd (some ⟨b, o, none⟩) (its l)] [] mixed (same) ?_
          refine ha_takeP 0 rfl (r_move rfl) ?_
          refine ha_takeP 1 rfl (r_move rfl) ?_
          refine ha_takeP 2 rfl (r_idx rfl rfl) ?_
          refine ha_takeP 3 rfl (r_field rfl) ?_
          refine ha_take 4 rfl (r_nth rfl hki) ?_
          refine ha_takeP 5 rfl (r_bool (r_neq rfl rfl) (decide_eq_false (fun h => h h3))) ?_
          refine ha_takeP 6 rfl (r_move rfl) ?_
          refine ha_off 7 rfl ?_
          refine ha_off 8 rfl ?_
          refine ha_off 9 rfl ?_
          refine ha_off 10 rfl ?_
          refine ha_off 11 rfl ?_
          refine ha_off 12 rfl ?_
          refine ha_off 13 rfl ?_
          refine ha_takeP 14 rfl (r_pick rfl rfl) ?_
          refine ha_takeP 15 rfl (r_move rfl) ?_
          refine ha_takeP 16 rfl (r_move rfl) ?_
          refine ha_takeP 17 rfl (r_move rfl) ?_
          refine ha_takeP 18 rfl (r_idx rfl rfl) ?_
          refine ha_takeP 19 rfl (r_field rfl) ?_
          refine ha_take 20 rfl (r_nth rfl hki) ?_
          refine ha_takeP 21 rfl (r_bool (r_neq rfl rfl) (decide_eq_true (by omega))) ?_
          refine ha_takeP 22 rfl (r_move rfl) ?_
          refine ha_takeP 23 rfl (r_move rfl) ?_
          refine ha_takeP 24 rfl (r_move rfl) ?_
          refine ha_takeP 25 rfl (r_idx rfl rfl) ?_
          refine ha_takeP 26 rfl (r_field rfl (O' := o + (k * 97 + 33)) (by omega)) ?_
          refine ha_take 27 rfl (r_nthr rfl (out := x.leaf.cells) (Leaf.cells_length _) hlf) ?_
          refine ha_take 28 rfl (r_loadr rfl) ?_
          refine ha_takeP 29 rfl (r_bool (r_ner rfl rfl) (decide_eq_false (fun h => h hz))) ?_
          refine ha_takeP 30 rfl (r_pick rfl rfl) ?_
          refine ha_takeP 31 rfl (r_pick rfl rfl) ?_
          refine ha_done (by kernel_rfl) ?_
          refine q_then ?_
          refine h_condF rfl ?_
          refine h_skip ?_
          refine q_block ?_
          refine q_then ?_
          refine h_reg ?_
          refine h_op (r_move rfl) ?_
          refine h_op (r_add rfl rfl) ?_
          refine h_op (r_assign rfl) ?_
          refine h_nil ?_
          exact h_back (k + 1) (⟨hk2, hok'⟩) (by omega) ⟨rfl, rfl, rfl, rfl, trivial⟩ (same)
        · rw [if_neg (all_bad hx (by rw [clean3 h3]; exact decide_eq_false hz))]
          refine ha_start [.blk g4 zLeaf.cells 51, .blk g3 zB32.cells 41, .rd (some ⟨b, o, none⟩) (its l)] [] mixed (same) ?_
          refine ha_takeP 0 rfl (r_move rfl) ?_
          refine ha_takeP 1 rfl (r_move rfl) ?_
          refine ha_takeP 2 rfl (r_idx rfl rfl) ?_
          refine ha_takeP 3 rfl (r_field rfl) ?_
          refine ha_take 4 rfl (r_nth rfl hki) ?_
          refine ha_takeP 5 rfl (r_bool (r_neq rfl rfl) (decide_eq_false (fun h => h h3))) ?_
          refine ha_takeP 6 rfl (r_move rfl) ?_
          refine ha_off 7 rfl ?_
          refine ha_off 8 rfl ?_
          refine ha_off 9 rfl ?_
          refine ha_off 10 rfl ?_
          refine ha_off 11 rfl ?_
          refine ha_off 12 rfl ?_
          refine ha_off 13 rfl ?_
          refine ha_takeP 14 rfl (r_pick rfl rfl) ?_
          refine ha_takeP 15 rfl (r_move rfl) ?_
          refine ha_takeP 16 rfl (r_move rfl) ?_
          refine ha_takeP 17 rfl (r_move rfl) ?_
          refine ha_takeP 18 rfl (r_idx rfl rfl) ?_
          refine ha_takeP 19 rfl (r_field rfl) ?_
          refine ha_take 20 rfl (r_nth rfl hki) ?_
          refine ha_takeP 21 rfl (r_bool (r_neq rfl rfl) (decide_eq_true (by omega))) ?_
          refine ha_takeP 22 rfl (r_move rfl) ?_
          refine ha_takeP 23 rfl (r_move rfl) ?_
          refine ha_takeP 24 rfl (r_move rfl) ?_
          refine ha_takeP 25 rfl (r_idx rfl rfl) ?_
          refine ha_takeP 26 rfl (r_field rfl (O' := o + (k * 97 + 33)) (by omega)) ?_
          refine ha_take 27 rfl (r_nthr rfl (out := x.leaf.cells) (Leaf.cells_length _) hlf) ?_
          refine ha_take 28 rfl (r_loadr rfl) ?_
          refine ha_takeP 29 rfl (r_bool (r_ner rfl rfl) (decide_eq_true hz)) ?_
          refine ha_takeP 30 rfl (r_pick rfl rfl) ?_
          refine ha_takeP 31 rfl (r_pick rfl rfl) ?_
          refine ha_done (by kernel_rfl) ?_
          refine q_then ?_
          refine h_condT rfl ?_
          refine h_seq ?_
          refine h_reg ?_
          refine h_op (r_assign rfl) ?_
          refine h_nil ?_
          refine q_then ?_
          refine h_ret ?_
          refine q_blockR ?_
          refine q_thenR ?_
          refine q_thenR ?_
          refine q_blockR ?_
          refine q_thenR ?_
          exact h_ret1 rfl rfl fun w s => ⟨(), rfl, s.res (List.nil_sublist _) (by simp)⟩
      · by_cases hd : x.digest = zB32
        · by_cases h4 : x.kind = 1
          · have hok' : (l.take (k + 1)).all cleanItem = true := by rw [hac, clean1 h3 hd h4]
            refine ha_start [.blk g4 zLeaf.cells 51, .blk g3 zB32.cells 41, .rd (some ⟨b, o, none⟩) (its l)] [] mixed (same) ?_
            refine ha_takeP 0 rfl (r_move rfl) ?_
            refine ha_takeP 1 rfl (r_move rfl) ?_
            refine ha_takeP 2 rfl (r_idx rfl rfl) ?_
            refine ha_takeP 3 rfl (r_field rfl) ?_
            refine ha_take 4 rfl (r_nth rfl hki) ?_
            refine ha_takeP 5 rfl (r_bool (r_neq rfl rfl) (decide_eq_true h3)) ?_
            refine ha_takeP 6 rfl (r_move rfl) ?_
            refine ha_takeP 7 rfl (r_move rfl) ?_
            refine ha_takeP 8 rfl (r_move rfl) ?_
            refine ha_takeP 9 rfl (r_idx rfl rfl) ?_
            refine ha_takeP 10 rfl (r_field rfl (O' := o + (k * 97 + 1)) (by omega)) ?_
            refine ha_take 11 rfl (r_nthr rfl (out := x.digest.cells) (B32.cells_length _) hdg) ?_
            refine ha_take 12 rfl (r_loadr rfl) ?_
            refine ha_takeP 13 rfl (r_bool (r_ner rfl rfl) (decide_eq_false (fun h => h hd))) ?_
            refine ha_takeP 14 rfl (r_pick rfl rfl) ?_
            refine ha_takeP 15 rfl (r_move rfl) ?_
            refine ha_takeP 16 rfl (r_move rfl) ?_
            refine ha_takeP 17 rfl (r_move rfl) ?_
            refine ha_takeP 18 rfl (r_idx rfl rfl) ?_
            refine ha_takeP 19 rfl (r_field rfl) ?_
            refine ha_take 20 rfl (r_nth rfl hki) ?_
            refine ha_takeP 21 rfl (r_bool (r_neq rfl rfl) (decide_eq_false (fun h => h h4))) ?_
            refine ha_takeP 22 rfl (r_move rfl) ?_
            refine ha_off 23 rfl ?_
            refine ha_off 24 rfl ?_
            refine ha_off 25 rfl ?_
            refine ha_off 26 rfl ?_
            refine ha_off 27 rfl ?_
            refine ha_off 28 rfl ?_
            refine ha_off 29 rfl ?_
            refine ha_takeP 30 rfl (r_pick rfl rfl) ?_
            refine ha_takeP 31 rfl (r_pick rfl rfl) ?_
            refine ha_done (by kernel_rfl) ?_
            refine q_then ?_
            refine h_condF rfl ?_
            refine h_skip ?_
            refine q_block ?_
            refine q_then ?_
            refine h_reg ?_
            refine h_op (r_move rfl) ?_
            refine h_op (r_add rfl rfl) ?_
            refine h_op (r_assign rfl) ?_
            refine h_nil ?_
            exact h_back (k + 1) (⟨hk2, hok'⟩) (by omega) ⟨rfl, rfl, rfl, rfl, trivial⟩ (same)
          · by_cases hz : x.leaf = zLeaf
            · have hok' : (l.take (k + 1)).all cleanItem = true := by rw [hac, clean0 h3 hd h4, decide_eq_true hz]
              refine ha_start [.blk g4 zLeaf.cells 51, .blk g3 zB32.cells 41, .rd (some ⟨b, o, none⟩) (its l)] [] mixed (same) ?_
              refine ha_takeP 0 rfl (r_move rfl) ?_
              refine ha_takeP 1 rfl (r_move rfl) ?_
              refine ha_takeP 2 rfl (r_idx rfl rfl) ?_
              refine ha_takeP 3 rfl (r_field rfl) ?_
              refine ha_take 4 rfl (r_nth rfl hki) ?_
              refine ha_takeP 5 rfl (r_bool (r_neq rfl rfl) (decide_eq_true h3)) ?_
              refine ha_takeP 6 rfl (r_move rfl) ?_
              refine ha_takeP 7 rfl (r_move rfl) ?_
              refine ha_takeP 8 rfl (r_move rfl) ?_
              refine ha_takeP 9 rfl (r_idx rfl rfl) ?_
              refine ha_takeP 10 rfl (r_field rfl (O' := o + (k * 97 + 1)) (by omega)) ?_
              refine ha_take 11 rfl (r_nthr rfl (out := x.digest.cells) (B32.cells_length _) hdg) ?_
              refine ha_take 12 rfl (r_loadr rfl) ?_
              refine ha_takeP 13 rfl (r_bool (r_ner rfl rfl) (decide_eq_false (fun h => h hd))) ?_
              refine ha_takeP 14 rfl (r_pick rfl rfl) ?_
              refine ha_takeP 15 rfl (r_move rfl) ?_
              refine ha_takeP 16 rfl (r_move rfl) ?_
              refine ha_takeP 17 rfl (r_move rfl) ?_
              refine ha_takeP 18 rfl (r_idx rfl rfl) ?_
              refine ha_takeP 19 rfl (r_field rfl) ?_
              refine ha_take 20 rfl (r_nth rfl hki) ?_
              refine ha_takeP 21 rfl (r_bool (r_neq rfl rfl) (decide_eq_true h4)) ?_
              refine ha_takeP 22 rfl (r_move rfl) ?_
              refine ha_takeP 23 rfl (r_move rfl) ?_
              refine ha_takeP 24 rfl (r_move rfl) ?_
              refine ha_takeP 25 rfl (r_idx rfl rfl) ?_
              refine ha_takeP 26 rfl (r_field rfl (O' := o + (k * 97 + 33)) (by omega)) ?_
              refine ha_take 27 rfl (r_nthr rfl (out := x.leaf.cells) (Leaf.cells_length _) hlf) ?_
              refine ha_take 28 rfl (r_loadr rfl) ?_
              refine ha_takeP 29 rfl (r_bool (r_ner rfl rfl) (decide_eq_false (fun h => h hz))) ?_
              refine ha_takeP 30 rfl (r_pick rfl rfl) ?_
              refine ha_takeP 31 rfl (r_pick rfl rfl) ?_
              refine ha_done (by kernel_rfl) ?_
              refine q_then ?_
              refine h_condF rfl ?_
              refine h_skip ?_
              refine q_block ?_
              refine q_then ?_
              refine h_reg ?_
              refine h_op (r_move rfl) ?_
              refine h_op (r_add rfl rfl) ?_
              refine h_op (r_assign rfl) ?_
              refine h_nil ?_
              exact h_back (k + 1) (⟨hk2, hok'⟩) (by omega) ⟨rfl, rfl, rfl, rfl, trivial⟩ (same)
            · rw [if_neg (all_bad hx (by rw [clean0 h3 hd h4]; exact decide_eq_false hz))]
              refine ha_start [.blk g4 zLeaf.cells 51, .blk g3 zB32.cells 41, .rd (some ⟨b, o, none⟩) (its l)] [] mixed (same) ?_
              refine ha_takeP 0 rfl (r_move rfl) ?_
              refine ha_takeP 1 rfl (r_move rfl) ?_
              refine ha_takeP 2 rfl (r_idx rfl rfl) ?_
              refine ha_takeP 3 rfl (r_field rfl) ?_
              refine ha_take 4 rfl (r_nth rfl hki) ?_
              refine ha_takeP 5 rfl (r_bool (r_neq rfl rfl) (decide_eq_true h3)) ?_
              refine ha_takeP 6 rfl (r_move rfl) ?_
              refine ha_takeP 7 rfl (r_move rfl) ?_
              refine ha_takeP 8 rfl (r_move rfl) ?_
              refine ha_takeP 9 rfl (r_idx rfl rfl) ?_
              refine ha_takeP 10 rfl (r_field rfl (O' := o + (k * 97 + 1)) (by omega)) ?_
              refine ha_take 11 rfl (r_nthr rfl (out := x.digest.cells) (B32.cells_length _) hdg) ?_
              refine ha_take 12 rfl (r_loadr rfl) ?_
              refine ha_takeP 13 rfl (r_bool (r_ner rfl rfl) (decide_eq_false (fun h => h hd))) ?_
              refine ha_takeP 14 rfl (r_pick rfl rfl) ?_
              refine ha_takeP 15 rfl (r_move rfl) ?_
              refine ha_takeP 16 rfl (r_move rfl) ?_
              refine ha_takeP 17 rfl (r_move rfl) ?_
              refine ha_takeP 18 rfl (r_idx rfl rfl) ?_
              refine ha_takeP 19 rfl (r_field rfl) ?_
              refine ha_take 20 rfl (r_nth rfl hki) ?_
              refine ha_takeP 21 rfl (r_bool (r_neq rfl rfl) (decide_eq_true h4)) ?_
              refine ha_takeP 22 rfl (r_move rfl) ?_
              refine ha_takeP 23 rfl (r_move rfl) ?_
              refine ha_takeP 24 rfl (r_move rfl) ?_
              refine ha_takeP 25 rfl (r_idx rfl rfl) ?_
              refine ha_takeP 26 rfl (r_field rfl (O' := o + (k * 97 + 33)) (by omega)) ?_
              refine ha_take 27 rfl (r_nthr rfl (out := x.leaf.cells) (Leaf.cells_length _) hlf) ?_
              refine ha_take 28 rfl (r_loadr rfl) ?_
              refine ha_takeP 29 rfl (r_bool (r_ner rfl rfl) (decide_eq_true hz)) ?_
              refine ha_takeP 30 rfl (r_pick rfl rfl) ?_
              refine ha_takeP 31 rfl (r_pick rfl rfl) ?_
              refine ha_done (by kernel_rfl) ?_
              refine q_then ?_
              refine h_condT rfl ?_
              refine h_seq ?_
              refine h_reg ?_
              refine h_op (r_assign rfl) ?_
              refine h_nil ?_
              refine q_then ?_
              refine h_ret ?_
              refine q_blockR ?_
              refine q_thenR ?_
              refine q_thenR ?_
              refine q_blockR ?_
              refine q_thenR ?_
              exact h_ret1 rfl rfl fun w s => ⟨(), rfl, s.res (List.nil_sublist _) (by simp)⟩
        · rw [if_neg (all_bad hx (cleanN h3 hd))]
          refine ha_start [.blk g4 zLeaf.cells 51, .blk g3 zB32.cells 41, .rd (some ⟨b, o, none⟩) (its l)] [] mixed (same) ?_
          refine ha_takeP 0 rfl (r_move rfl) ?_
          refine ha_takeP 1 rfl (r_move rfl) ?_
          refine ha_takeP 2 rfl (r_idx rfl rfl) ?_
          refine ha_takeP 3 rfl (r_field rfl) ?_
          refine ha_take 4 rfl (r_nth rfl hki) ?_
          refine ha_takeP 5 rfl (r_bool (r_neq rfl rfl) (decide_eq_true h3)) ?_
          refine ha_takeP 6 rfl (r_move rfl) ?_
          refine ha_takeP 7 rfl (r_move rfl) ?_
          refine ha_takeP 8 rfl (r_move rfl) ?_
          refine ha_takeP 9 rfl (r_idx rfl rfl) ?_
          refine ha_takeP 10 rfl (r_field rfl (O' := o + (k * 97 + 1)) (by omega)) ?_
          refine ha_take 11 rfl (r_nthr rfl (out := x.digest.cells) (B32.cells_length _) hdg) ?_
          refine ha_take 12 rfl (r_loadr rfl) ?_
          refine ha_takeP 13 rfl (r_bool (r_ner rfl rfl) (decide_eq_true hd)) ?_
          refine ha_takeP 14 rfl (r_pick rfl rfl) ?_
          refine ha_takeP 15 rfl (r_move rfl) ?_
          refine ha_off 16 rfl ?_
          refine ha_off 17 rfl ?_
          refine ha_off 18 rfl ?_
          refine ha_off 19 rfl ?_
          refine ha_off 20 rfl ?_
          refine ha_off 21 rfl ?_
          refine ha_off 22 rfl ?_
          refine ha_off 23 rfl ?_
          refine ha_off 24 rfl ?_
          refine ha_off 25 rfl ?_
          refine ha_off 26 rfl ?_
          refine ha_off 27 rfl ?_
          refine ha_off 28 rfl ?_
          refine ha_off 29 rfl ?_
          refine ha_off 30 rfl ?_
          refine ha_takeP 31 rfl (r_pick rfl rfl) ?_
          refine ha_done (by kernel_rfl) ?_
          refine q_then ?_
          refine h_condT rfl ?_
          refine h_seq ?_
          refine h_reg ?_
          refine h_op (r_assign rfl) ?_
          refine h_nil ?_
          refine q_then ?_
          refine h_ret ?_
          refine q_blockR ?_
          refine q_thenR ?_
          refine q_thenR ?_
          refine q_blockR ?_
          refine q_thenR ?_
          exact h_ret1 rfl rfl fun w s => ⟨(), rfl, s.res (List.nil_sublist _) (by simp)⟩
    · obtain rfl : k = l.length := by omega
      rw [List.take_length] at hcl
      rw [if_pos hcl]
      by_cases h0 : l.length = 0
      · rw [if_pos (.inl h0)]
        refine h_exit ?_
        refine q_thenE ?_
        refine q_thenE ?_
        refine q_blockE ?_
        refine q_then ?_
        refine h_seq ?_
        refine h_seq ?_
        refine h_reg ?_
        refine h_op (r_move rfl) ?_
        refine h_op (r_len rfl) ?_
        refine h_op (r_bool (r_eql rfl rfl) (decide_eq_true (by omega))) ?_
        refine h_op (r_move rfl) ?_
        refine h_opOff ?_
        refine h_opOff ?_
        refine h_opOff ?_
        refine h_opOff ?_
        refine h_opOff ?_
        refine h_op (r_pick rfl rfl) ?_
        refine h_nil ?_
        refine q_then ?_
        refine h_condT rfl ?_
        refine h_seq ?_
        refine h_reg ?_
        refine h_op (r_assign rfl) ?_
        refine h_nil ?_
        refine q_then ?_
        refine h_ret ?_
        refine q_thenR ?_
        exact h_ret1 rfl rfl fun w s => ⟨(), rfl, s.res (List.nil_sublist _) (by simp)⟩
      · refine h_exit ?_
        refine q_thenE ?_
        refine q_thenE ?_
        refine q_blockE ?_
        refine q_then ?_
        refine h_seq ?_
        refine h_seq ?_
        refine h_reg ?_
        refine h_op (r_move rfl) ?_
        refine h_op (r_len rfl) ?_
        refine h_op (r_bool (r_eql rfl rfl) (decide_eq_false (by omega))) ?_
        refine h_op (r_move rfl) ?_
        refine h_op (r_move rfl) ?_
        refine h_call (hSk.comes) rfl rfl rfl fun _ => ?_
        by_cases hs : skipI l (readM 256 l) = (l.length : Int)
        · rw [if_neg (fun h => h.elim h0 (fun h => h hs))]
          refine h_op (r_move rfl) ?_
          refine h_op (r_len rfl) ?_
          refine h_op (r_bool (r_neq rfl rfl) (decide_eq_false (fun h => h hs))) ?_
          refine h_op (r_pick rfl rfl) ?_
          refine h_nil ?_
          refine q_then ?_
          refine h_condF rfl ?_
          refine h_skip ?_
          refine q_then ?_
          refine h_seq ?_
          refine h_reg ?_
          refine h_op (r_assign rfl) ?_
          refine h_nil ?_
          refine q_then ?_
          refine h_ret ?_
          exact h_ret1 rfl rfl fun w s => ⟨(), rfl, s.res (List.nil_sublist _) (by simp)⟩
        · rw [if_pos (.inr hs)]
          refine h_op (r_move rfl) ?_
          refine h_op (r_len rfl) ?_
          refine h_op (r_bool (r_neq rfl rfl) (decide_eq_true hs)) ?_
          refine h_op (r_pick rfl rfl) ?_
          refine h_nil ?_
          refine q_then ?_
          refine h_condT rfl ?_
          refine h_seq ?_
          refine h_reg ?_
          refine h_op (r_assign rfl) ?_
          refine h_nil ?_
          refine q_then ?_
          refine h_ret ?_
          refine q_thenR ?_
          exact h_ret1 rfl rfl fun w s => ⟨(), rfl, s.res (List.nil_sublist _) (by simp)⟩
end Go.Proofs.YtgfkbeipckbkiaaGreatDoor
/- U67 -/
namespace Go.Proofs.YtgfkbeipckbkiaaGreatDoor
set_option linter.unusedSimpArgs false
set_option linter.unusedVariables false
open Go.RowKit
theorem readM_cost : ∀ (d : Nat) (l : List Item) (t : Sub) (r : List Item), readM d l = some (t, r) → t.cost + r.length ≤ l.length
  | d, [], t, r, h => by cases d <;> cases h
  | d, x :: l, t, r, h => by
    by_cases hk : x.kind = 2
    · match d, h with
      | 0, h => unfold readM at h; rw [if_pos hk] at h; cases h
      | d + 1, h =>
        unfold readM at h
        rw [if_pos hk] at h
        obtain ⟨p, hp, h⟩ := Option.bind_eq_some_iff.1 h
        obtain ⟨q, hq, h⟩ := Option.bind_eq_some_iff.1 h
        have h1 := readM_cost d l p.1 p.2 hp
        have h2 := readM_cost d p.2 q.1 q.2 hq
        simp only [Option.some.injEq, Prod.mk.injEq] at h
        rw [← h.1, ← h.2]
        show p.1.cost + q.1.cost + 1 + q.2.length ≤ (x :: l).length
        rw [List.length_cons]
        omega
    · have h' : readM d (x :: l) = some (.one x, l) := by cases d <;> (unfold readM; rw [if_neg hk])
      rw [h'] at h
      simp only [Option.some.injEq, Prod.mk.injEq] at h
      rw [← h.1, ← h.2]
      show (if x.kind = 3 then 0 else 1) + l.length ≤ (x :: l).length
      rw [List.length_cons]
      split <;> omega
theorem parse_ok {l : List Item} {t : Sub} (h : parseM l = .ok t) : readM 256 l = some (t, []) ∧ l.all kindOk = true ∧ l.all cleanItem = true := by
  unfold parseM at h
  by_cases h1 : l.all kindOk = true
  · rw [if_pos h1] at h
    rcases hm : readM 256 l with _ | ⟨t', r⟩
    · rw [hm] at h; cases h
    · rw [hm] at h
      cases r with
      | nil =>
        by_cases h2 : l.all cleanItem = true
        · simp only [h2, if_true] at h
          injection h with h
          exact ⟨by rw [h], h1, h2⟩
        · simp only [h2] at h
          cases h
      | cons y r => cases h
  · rw [if_neg h1] at h
    cases h
section
variable (h : Zh) [hT : RdZ h (some ⟨2, 0, none⟩) hashT]
theorem mRoot_s (n : Nat) (hn : n ≤ 256) (gh gc k : Nat) (hk : k ≤ 1000000000) (l : List Item) (A : Option Addr) (c : Nat) [hr : RdZ h A (its l)] (hc : l.length ≤ c) (hl : l.length ≤ 1000000) (t : Sub) (hp : parseM l = .ok t) : Spec Tryz.prog 20 [.pointer (some ⟨gh, 0, none⟩), .slice A l.length c].toArray [.zone false h, HR gh gc n] [CN gc k] (fun _ : Unit => .tuple #[.agg (dgS n t).cells.toArray, .int .i64 0]) (fun _ => [CN gc (k + t.cost)]) := by
  have hP := parse_s h l A c hc hl
  rw [hp] at hP
  have hco := readM_cost 256 l t [] (parse_ok hp).1
  have hD := dig_s n hn gh gc t k (by simp at hco; omega)
  refine spec_of Tryz.func20 rfl (n := 20) rfl rfl ?_
  intro W
  refine h_seq ?_
  refine h_reg ?_
  refine h_opX (x_alloc) fun g4 => ?_
  refine h_op (r_assign rfl) ?_
  refine h_nil ?_
  refine q_then ?_
  refine h_seq ?_
  refine h_reg ?_
  refine h_op (r_move rfl) ?_
  refine h_call (hP.comes) rfl rfl rfl fun _ => ?_
  refine h_op (r_move rfl) ?_
  refine h_op (r_extract rfl rfl) ?_
  refine h_op (r_extract rfl rfl) ?_
  refine h_op (r_assign rfl) ?_
  refine h_op (r_assign rfl) ?_
  refine h_nil ?_
  refine q_then ?_
  refine h_seq ?_
  refine h_seq ?_
  refine h_reg ?_
  refine h_op (r_move rfl) ?_
  refine h_op (r_neq rfl rfl) ?_
  refine h_nil ?_
  refine q_then ?_
  refine h_no rfl ((fun h => h rfl)) ?_
  refine h_skip ?_
  refine q_then ?_
  refine h_seq ?_
  refine h_reg ?_
  refine h_op (r_move rfl) ?_
  refine h_op (r_move rfl) ?_
  refine h_callM (hD.comes) rfl rfl rfl fun _ => ?_
  refine h_opS (s_storer rfl rfl) ?_
  refine h_op (r_assign rfl) ?_
  refine h_nil ?_
  refine q_then ?_
  refine h_ret ?_
  exact h_ret2 rfl (rv_row rfl) rfl fun w s => ⟨(), rfl, (same (L' := [CN gc (k + t.cost)]) w s).res (List.Sublist.refl _) (by simp [Fa.wr])⟩
end
end Go.Proofs.YtgfkbeipckbkiaaGreatDoor
/- E18 -/
namespace Go.Proofs.YtgfkbeipckbkiaaGreatDoor
set_option linter.unusedSimpArgs false
set_option linter.unusedVariables false
open Go.RowKit
abbrev innerI : Item := ⟨2, zB32, zLeaf⟩
def Sub.flat : Sub → List Item
  | .one x => [x]
  | .two l r => innerI :: (l.flat ++ r.flat)
def Sub.ht : Sub → Nat
  | .one _ => 0
  | .two l r => max l.ht r.ht + 1
def Sub.ok : Sub → Prop
  | .one x => x.kind ≠ 2 ∧ kindOk x = true ∧ cleanItem x = true
  | .two l r => l.ok ∧ r.ok
def Sub.sz : Sub → Nat
  | .one _ => 1
  | .two l r => l.sz + r.sz + 1
theorem Sub.flat_len : ∀ t : Sub, t.flat.length = t.sz
  | .one _ => rfl
  | .two l r => by
    show (l.flat ++ r.flat).length + 1 = _
    rw [List.length_append, l.flat_len, r.flat_len]
    rfl
theorem Sub.sz_pos : ∀ t : Sub, 0 < t.sz
  | .one _ => Nat.one_pos
  | .two _ _ => Nat.succ_pos _
theorem read_flat : ∀ (t : Sub) (d : Nat) (rest : List Item), t.ok → t.ht ≤ d → readM d (t.flat ++ rest) = some (t, rest)
  | .one x, d, rest, ho, _ => by
    show readM d (x :: rest) = _
    cases d <;> (unfold readM; rw [if_neg ho.1])
  | .two l r, 0, rest, ho, hd => absurd hd (by simp [Sub.ht])
  | .two l r, d + 1, rest, ho, hd => by
    have hd' : max l.ht r.ht + 1 ≤ d + 1 := hd
    show readM (d + 1) (innerI :: ((l.flat ++ r.flat) ++ rest)) = _
    unfold readM
    rw [if_pos rfl, List.append_assoc, read_flat l d _ ho.1 (by omega)]
    simp only [Option.bind_some]
    rw [read_flat r d _ ho.2 (by omega)]
    rfl
theorem flat_read : ∀ (d : Nat) (l : List Item) (t : Sub) (rest : List Item), readM d l = some (t, rest) → l.all kindOk = true → l.all cleanItem = true → l = t.flat ++ rest ∧ t.ok ∧ t.ht ≤ d ∧ rest.all kindOk = true ∧ rest.all cleanItem = true
  | d, [], t, r, h, _, _ => by cases d <;> cases h
  | d, x :: l, t, r, h, hk, hc => by
    rw [List.all_cons, Bool.and_eq_true] at hk hc
    by_cases hk2 : x.kind = 2
    · match d, h with
      | 0, h => unfold readM at h; rw [if_pos hk2] at h; cases h
      | d + 1, h =>
        unfold readM at h
        rw [if_pos hk2] at h
        obtain ⟨p, hp, h⟩ := Option.bind_eq_some_iff.1 h
        obtain ⟨q, hq, h⟩ := Option.bind_eq_some_iff.1 h
        obtain ⟨a1, a2, a3, a4, a5⟩ := flat_read d l p.1 p.2 hp hk.2 hc.2
        obtain ⟨b1, b2, b3, b4, b5⟩ := flat_read d p.2 q.1 q.2 hq a4 a5
        simp only [Option.some.injEq, Prod.mk.injEq] at h
        rw [← h.1, ← h.2]
        refine ⟨?_, ⟨a2, b2⟩, ?_, b4, b5⟩
        · show x :: l = innerI :: (p.1.flat ++ q.1.flat) ++ q.2
          have hx : x = innerI := by
            have h1 := hc.1
            unfold cleanItem at h1
            simp only [hk2] at h1
            simp at h1
            obtain ⟨k, dg, lf⟩ := x
            simp only at hk2 h1
            rw [hk2, h1.1, h1.2]
          rw [hx, List.cons_append, List.append_assoc, ← b1, ← a1]
        · show max p.1.ht q.1.ht + 1 ≤ d + 1
          omega
    · have h' : readM d (x :: l) = some (.one x, l) := by cases d <;> (unfold readM; rw [if_neg hk2])
      rw [h'] at h
      simp only [Option.some.injEq, Prod.mk.injEq] at h
      rw [← h.1, ← h.2]
      exact ⟨rfl, ⟨hk2, hk.1, hc.1⟩, Nat.zero_le _, hk.2, hc.2⟩
theorem parse_flat {l : List Item} {t : Sub} (h : parseM l = .ok t) : l = t.flat ∧ t.ok ∧ t.ht ≤ 256 := by
  obtain ⟨h1, h2, h3⟩ := parse_ok h
  obtain ⟨a, b, c, _⟩ := flat_read 256 l t [] h1 h2 h3
  exact ⟨by rw [a, List.append_nil], b, c⟩
theorem Sub.flat_all : ∀ t : Sub, t.ok → t.flat.all kindOk = true ∧ t.flat.all cleanItem = true
  | .one x, h => ⟨by show ([x].all kindOk) = true; simp [h.2.1], by show ([x].all cleanItem) = true; simp [h.2.2]⟩
  | .two l r, h => by
    have h1 := l.flat_all h.1
    have h2 := r.flat_all h.2
    constructor
    · show ((innerI :: (l.flat ++ r.flat)).all kindOk) = true
      rw [List.all_cons, List.all_append, h1.1, h2.1]; rfl
    · show ((innerI :: (l.flat ++ r.flat)).all cleanItem) = true
      rw [List.all_cons, List.all_append, h1.2, h2.2]; decide
theorem flat_parse {t : Sub} (h : t.ok) (hh : t.ht ≤ 256) : parseM t.flat = .ok t := by
  have h1 := t.flat_all h
  have h2 := read_flat t 256 [] h hh
  rw [List.append_nil] at h2
  unfold parseM
  rw [if_pos h1.1, h2]
  simp only [h1.2, if_true]
/-! the end of a key's way, its indices -/
def Sub.endI (k : B32) : Sub → Nat → Item × Nat
  | .one x, d => (x, d)
  | .two l r, d => if bitAt k d then r.endI k (d + 1) else l.endI k (d + 1)
def Sub.way (k : B32) : Sub → Nat → Nat → List Nat
  | .one _, _, i => [i]
  | .two l r, d, i => i :: if bitAt k d then r.way k (d + 1) (i + 1 + l.sz) else l.way k (d + 1) (i + 1)
/-! the ends of keys -/
def endsM : Sub → List B32 → Nat → List (Item × Nat) × Bool
  | .one x, ks, d => (ks.map fun _ => (x, d), x.kind != 3 || ks.isEmpty)
  | .two l r, ks, d => if ks.isEmpty then ([], false) else
      if (endsM l (keysB ks d false) (d + 1)).2 then ((endsM l (keysB ks d false) (d + 1)).1 ++ (endsM r (keysB ks d true) (d + 1)).1, (endsM r (keysB ks d true) (d + 1)).2)
      else ((endsM l (keysB ks d false) (d + 1)).1, false)
theorem endsM_len : ∀ (t : Sub) (ks : List B32) (d : Nat), (endsM t ks d).1.length ≤ ks.length
  | .one x, ks, d => by show (ks.map _).length ≤ _; rw [List.length_map]; exact Nat.le_refl _
  | .two l r, ks, d => by
    have h1 := endsM_len l (keysB ks d false) (d + 1)
    have h2 := endsM_len r (keysB ks d true) (d + 1)
    have h3 : (keysB ks d false).length + (keysB ks d true).length = ks.length := by
      unfold keysB
      clear h1 h2
      induction ks with
      | nil => rfl
      | cons e m ih =>
        cases hb : bitAt e d
        · rw [List.filter_cons_of_pos (by simp [hb]), List.filter_cons_of_neg (by simp [hb]), List.length_cons, List.length_cons]; omega
        · rw [List.filter_cons_of_neg (by simp [hb]), List.filter_cons_of_pos (by simp [hb]), List.length_cons, List.length_cons]; omega
    unfold endsM
    split
    · exact Nat.zero_le _
    · split
      · rw [List.length_append]; omega
      · show (endsM l _ _).1.length ≤ _
        omega
theorem keys_cut {ks : List B32} {d : Nat} (ho : ks.Pairwise ltK) (ha : AlikeK ks d) : keysB ks d false ++ keysB ks d true = ks := by
  obtain ⟨m, _, _, h1, h2⟩ := split_at ho ha
  unfold keysB
  rw [← h1, ← h2, List.take_append_drop]
theorem keysB_mem {ks : List B32} {d : Nat} {b : Bool} {k : B32} : k ∈ keysB ks d b ↔ k ∈ ks ∧ bitAt k d = b := by unfold keysB; simp
theorem endsM_map : ∀ (t : Sub) (ks : List B32) (d : Nat), ks.Pairwise ltK → AlikeK ks d → (endsM t ks d).2 = true → (endsM t ks d).1 = ks.map fun k => t.endI k d
  | .one x, ks, d, _, _, _ => rfl
  | .two l r, ks, d, ho, ha, h => by
    unfold endsM at h ⊢
    split at h
    · cases h
    · split at h
      · rename_i h1 h2
        rw [if_neg h1, if_pos h2]
        show (endsM l _ _).1 ++ (endsM r _ _).1 = _
        rw [endsM_map l _ _ (keysB_ord ho _) (keysB_alike ha _) h2, endsM_map r _ _ (keysB_ord ho _) (keysB_alike ha _) h]
        conv => rhs; rw [← keys_cut ho ha, List.map_append]
        congr 1
        · exact List.map_congr_left fun k hk => by rw [Sub.endI, (keysB_mem.1 hk).2]; rfl
        · exact List.map_congr_left fun k hk => by rw [Sub.endI, (keysB_mem.1 hk).2]; rfl
      · cases h
/-! what add appends is the flat list of a subtree -/
def subT (n : Nat) : Tr → List B32 → Nat → Sub
  | .nil, _, _ => .one ⟨0, zB32, zLeaf⟩
  | t, [], _ => .one ⟨3, dgT n t, zLeaf⟩
  | .leaf k v, _, _ => .one ⟨1, zB32, leafOf n k v⟩
  | .node l r, ks, d => .two (subT n l (keysB ks d false) (d + 1)) (subT n r (keysB ks d true) (d + 1))
theorem addT_flat (n : Nat) : ∀ (t : Tr) (ks : List B32) (d : Nat), addT n t ks d = (subT n t ks d).flat
  | .nil, ks, d => by unfold addT subT; rfl
  | .leaf k v, [], d => rfl
  | .leaf k v, _ :: _, d => rfl
  | .node l r, [], d => rfl
  | .node l r, x :: ks, d => by
    unfold addT subT
    rw [addT_flat n l, addT_flat n r]
    rfl
theorem subT_ok (n : Nat) : ∀ (t : Tr) (ks : List B32) (d : Nat), (subT n t ks d).ok
  | .nil, ks, d => by unfold subT; exact ⟨by decide, by decide, by decide⟩
  | .leaf k v, [], d => ⟨by simp, by simp [kindOk], by simp [cleanItem]⟩
  | .leaf k v, _ :: _, d => ⟨by simp, by simp [kindOk], by simp [cleanItem]⟩
  | .node l r, [], d => ⟨by simp, by simp [kindOk], by simp [cleanItem]⟩
  | .node l r, x :: ks, d => ⟨subT_ok n l _ _, subT_ok n r _ _⟩
theorem subT_dg (n : Nat) : ∀ (t : Tr) (ks : List B32) (d : Nat), dgS n (subT n t ks d) = dgT n t
  | .nil, ks, d => by unfold subT; rfl
  | .leaf k v, [], d => rfl
  | .leaf k v, _ :: _, d => rfl
  | .node l r, [], d => rfl
  | .node l r, x :: ks, d => by
    unfold subT dgS
    rw [subT_dg n l, subT_dg n r]
    rfl
end Go.Proofs.YtgfkbeipckbkiaaGreatDoor
