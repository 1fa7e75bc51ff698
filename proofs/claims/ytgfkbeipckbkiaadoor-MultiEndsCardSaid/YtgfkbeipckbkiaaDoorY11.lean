/- multiproofs: the reference's Check; multiproofs: Root; the reference's Digest and Preimage; Multiproofs as the flat lists of their subtrees: plain; The reference's view of the keys below a prefix; heights, sizes: plain; multi.Prove; multi: the ends of keys; multiproofs: the reference's Same; law19.Few; The reference's maps: Put, Of, Few, Root; The reference's maps: Few, Root; the tree that grows out of a map; The tree that grows out of a map (joined texts: U66 U67 E18 E19 U74 U75 U79 U39 U40 U41) -/
import Derived.Test.YtgfkbeipckbkiaaDoorY10
set_option linter.all false
/- U66 -/
namespace Go.Proofs.YtgfkbeipckbkiaaDoor
set_option linter.unusedSimpArgs false
set_option linter.unusedVariables false
open Go.RowKit
theorem its_dg {l : List Item} {k : Nat} {x : Item} (h : l[k]? = some x) : ∀ j v, x.digest.cells[j]? = some v → (its l)[k * 97 + 1 + j]? = some v := fun j v hv => by
  have := its_at h (1 + j) v (by
    show (.int .i64 x.kind :: (x.digest.cells ++ x.leaf.cells))[1 + j]? = some v
    rw [Nat.add_comm, List.getElem?_cons_succ, List.getElem?_append_left (List.getElem?_eq_some_iff.1 hv).1]
    exact hv)
  rwa [Nat.add_assoc]
theorem its_lf {l : List Item} {k : Nat} {x : Item} (h : l[k]? = some x) : ∀ j v, x.leaf.cells[j]? = some v → (its l)[k * 97 + 33 + j]? = some v := fun j v hv => by
  have := its_at h (33 + j) v (by
    show (.int .i64 x.kind :: (x.digest.cells ++ x.leaf.cells))[33 + j]? = some v
    rw [show 33 + j = (32 + j) + 1 by omega, List.getElem?_cons_succ, List.getElem?_append_right (by rw [B32.cells_length]; omega), B32.cells_length, Nat.add_sub_cancel_left]
    exact hv)
  rwa [Nat.add_assoc]
theorem all_bad {α : Type} {p : α → Bool} {l : List α} {k : Nat} {x : α} (h : l[k]? = some x) (hp : p x = false) : ¬ l.all p = true := fun ha => by
  have := List.all_eq_true.1 ha x (List.mem_of_getElem? h)
  rw [hp] at this
  cases this
theorem rCheck19_s (l : List Item) (A : Option Addr) (c : Nat) (hl : l.length ≤ 1000000) : Spec Tryd.prog 18 [.slice A l.length c].toArray [.rd A (its l)] [] (fun _ : Unit => .int .i64 (checkM l)) (fun _ => []) := by
  rw [checkM_eq]
  have hSk := Skip_s l A c hl 256 (Nat.le_refl _) 0
  rw [List.drop_zero, show (256 - ((256 : Nat) : Int)) = 0 from rfl] at hSk
  refine spec_of Tryd.func18 rfl (n := 75) rfl rfl ?_
  intro W
  refine h_seq ?_
  refine h_reg ?_
  refine h_op (r_assign rfl) ?_
  refine h_nil ?_
  refine q_then ?_
  refine h_seq ?_
  refine h_reg ?_
  refine h_opX (x_alloc) fun g3 => ?_
  refine h_nil ?_
  refine q_then ?_
  refine h_seq ?_
  refine h_reg ?_
  refine h_opX (x_alloc) fun g4 => ?_
  refine h_nil ?_
  refine q_then ?_
  refine h_seq ?_
  refine h_seq ?_
  refine h_reg ?_
  refine h_op (r_assign rfl) ?_
  refine h_nil ?_
  refine q_then ?_
  refine h_block ?_
  refine h_loop (fun (k : Nat) => k ≤ l.length ∧ (l.take k).all kindOk = true) (fun (k : Nat) => [(5, .int .i64 (k : Int)), (0, .slice A l.length c), (3, .pointer (some ⟨g3, 0, none⟩)), (4, .pointer (some ⟨g4, 0, none⟩))]) (fun (k : Nat) => [.blk g4 zLeaf.cells 43, .blk g3 zB32.cells 41, .rd A (its l)]) (fun (k : Nat) => l.length - k) 0 (⟨Nat.zero_le _, rfl⟩) ⟨rfl, rfl, rfl, rfl, trivial⟩ (same) ?_
  rintro k ⟨hk, hok⟩
  refine h_seq ?_
  refine h_seq ?_
  refine h_reg ?_
  refine h_op (r_move rfl) ?_
  refine h_op (r_move rfl) ?_
  refine h_op (r_len rfl) ?_
  refine h_op (r_lss rfl rfl) ?_
  refine h_nil ?_
  refine q_then ?_
  refine h_cond rfl (fun hlt => ?_) (fun hlt => ?_)
  · have hk2 : k < l.length := by omega
    obtain ⟨x, hx⟩ : ∃ x, l[k]? = some x := ⟨_, List.getElem?_eq_getElem hk2⟩
    have hki := its_kind hx
    have hak := all_take kindOk l k x hx
    rw [hok, Bool.true_and] at hak
    refine h_pure (φ := ∃ b o, A = some ⟨b, o, none⟩) (fun w s => Rd.some (s.ok (.rd A (its l)) (by simp)) (by rw [its_len]; omega)) ?_
    rintro ⟨b, o, rfl⟩
    by_cases h1 : x.kind < 0
    · rw [if_neg (all_bad hx (by unfold kindOk; simp; omega))]
      refine h_skip ?_
      refine q_then ?_
      refine h_seq ?_
      refine h_block ?_
      refine h_seq ?_
      refine h_reg ?_
      refine h_op (r_move rfl) ?_
      refine h_op (r_move rfl) ?_
      refine h_op (r_idx rfl rfl) ?_
      refine h_op (r_field rfl) ?_
      refine h_op (r_nth rfl hki) ?_
      refine h_op (r_bool (r_lss rfl rfl) (decide_eq_true h1)) ?_
      refine h_op (r_move rfl) ?_
      refine h_opOff ?_
      refine h_opOff ?_
      refine h_opOff ?_
      refine h_opOff ?_
      refine h_opOff ?_
      refine h_opOff ?_
      refine h_op (r_pick rfl rfl) ?_
      refine h_nil ?_
      refine q_then ?_
      refine h_condT rfl ?_
      refine h_seq ?_
      refine h_reg ?_
      refine h_op (r_assign rfl) ?_
      refine h_nil ?_
      refine q_then ?_
      refine h_ret ?_
      refine q_blockR ?_
      refine q_thenR ?_
      refine q_thenR ?_
      refine q_blockR ?_
      refine q_thenR ?_
      exact h_ret1 rfl rfl fun w s => ⟨(), rfl, s.res (List.nil_sublist _) (by simp)⟩
    · by_cases h2 : 3 < x.kind
      · rw [if_neg (all_bad hx (by unfold kindOk; simp; omega))]
        refine h_skip ?_
        refine q_then ?_
        refine h_seq ?_
        refine h_block ?_
        refine h_seq ?_
        refine h_reg ?_
        refine h_op (r_move rfl) ?_
        refine h_op (r_move rfl) ?_
        refine h_op (r_idx rfl rfl) ?_
        refine h_op (r_field rfl) ?_
        refine h_op (r_nth rfl hki) ?_
        refine h_op (r_bool (r_lss rfl rfl) (decide_eq_false h1)) ?_
        refine h_op (r_move rfl) ?_
        refine h_op (r_move rfl) ?_
        refine h_op (r_move rfl) ?_
        refine h_op (r_idx rfl rfl) ?_
        refine h_op (r_field rfl) ?_
        refine h_op (r_nth rfl hki) ?_
        refine h_op (r_bool (r_gtr rfl rfl) (decide_eq_true h2)) ?_
        refine h_op (r_pick rfl rfl) ?_
        refine h_nil ?_
        refine q_then ?_
        refine h_condT rfl ?_
        refine h_seq ?_
        refine h_reg ?_
        refine h_op (r_assign rfl) ?_
        refine h_nil ?_
        refine q_then ?_
        refine h_ret ?_
        refine q_blockR ?_
        refine q_thenR ?_
        refine q_thenR ?_
        refine q_blockR ?_
        refine q_thenR ?_
        exact h_ret1 rfl rfl fun w s => ⟨(), rfl, s.res (List.nil_sublist _) (by simp)⟩
      · have hok' : (l.take (k + 1)).all kindOk = true := by rw [hak]; unfold kindOk; simp; omega
        refine h_skip ?_
        refine q_then ?_
        refine h_seq ?_
        refine h_block ?_
        refine h_seq ?_
        refine h_reg ?_
        refine h_op (r_move rfl) ?_
        refine h_op (r_move rfl) ?_
        refine h_op (r_idx rfl rfl) ?_
        refine h_op (r_field rfl) ?_
        refine h_op (r_nth rfl hki) ?_
        refine h_op (r_bool (r_lss rfl rfl) (decide_eq_false h1)) ?_
        refine h_op (r_move rfl) ?_
        refine h_op (r_move rfl) ?_
        refine h_op (r_move rfl) ?_
        refine h_op (r_idx rfl rfl) ?_
        refine h_op (r_field rfl) ?_
        refine h_op (r_nth rfl hki) ?_
        refine h_op (r_bool (r_gtr rfl rfl) (decide_eq_false h2)) ?_
        refine h_op (r_pick rfl rfl) ?_
        refine h_nil ?_
        refine q_then ?_
        refine h_condF rfl ?_
        refine h_skip ?_
        refine q_block ?_
        refine q_then ?_
        refine h_reg ?_
        refine h_op (r_move rfl) ?_
        refine h_op (r_add rfl rfl) ?_
        refine h_op (r_assign rfl) ?_
        refine h_nil ?_
        exact h_back (k + 1) (⟨hk2, hok'⟩) (by omega) ⟨rfl, rfl, rfl, rfl, trivial⟩ (same)
  · obtain rfl : k = l.length := by omega
    rw [List.take_length] at hok
    rw [if_pos hok]
    refine h_exit ?_
    refine q_thenE ?_
    refine q_thenE ?_
    refine q_blockE ?_
    refine q_then ?_
    refine h_seq ?_
    refine h_seq ?_
    refine h_reg ?_
    refine h_op (r_assign rfl) ?_
    refine h_nil ?_
    refine q_then ?_
    refine h_block ?_
    refine h_loop (fun (k : Nat) => k ≤ l.length ∧ (l.take k).all cleanItem = true) (fun (k : Nat) => [(6, .int .i64 (k : Int)), (0, .slice A l.length c), (3, .pointer (some ⟨g3, 0, none⟩)), (4, .pointer (some ⟨g4, 0, none⟩))]) (fun (k : Nat) => [.blk g4 zLeaf.cells 43, .blk g3 zB32.cells 41, .rd A (its l)]) (fun (k : Nat) => l.length - k) 0 (⟨Nat.zero_le _, rfl⟩) ⟨rfl, rfl, rfl, rfl, trivial⟩ (same) ?_
    rintro k ⟨hk, hcl⟩
    refine h_seq ?_
    refine h_seq ?_
    refine h_reg ?_
    refine h_op (r_move rfl) ?_
    refine h_op (r_move rfl) ?_
    refine h_op (r_len rfl) ?_
    refine h_op (r_lss rfl rfl) ?_
    refine h_nil ?_
    refine q_then ?_
    refine h_cond rfl (fun hlt => ?_) (fun hlt => ?_)
    · have hk2 : k < l.length := by omega
      obtain ⟨x, hx⟩ : ∃ x, l[k]? = some x := ⟨_, List.getElem?_eq_getElem hk2⟩
      have hki := its_kind hx
      have hdg := its_dg hx
      have hlf := its_lf hx
      have hac := all_take cleanItem l k x hx
      rw [hcl, Bool.true_and] at hac
      refine h_pure (φ := ∃ b o, A = some ⟨b, o, none⟩) (fun w s => Rd.some (s.ok (.rd A (its l)) (by simp)) (by rw [its_len]; omega)) ?_
      rintro ⟨b, o, rfl⟩
      refine h_skip ?_
      refine q_then ?_
      refine h_seq ?_
      refine h_block ?_
      refine h_seq ?_
      by_cases h3 : x.kind = 3
      · by_cases hz : x.leaf = zLeaf
        · have hok' : (l.take (k + 1)).all cleanItem = true := by rw [hac, clean3 h3, decide_eq_true hz]
          refine ha_start [.blk g4 zLeaf.cells 43, .blk g3 zB32.cells 41, .rd (some ⟨b, o, none⟩) (its l)] [] mixed (same) ?_
          refine ha_takeP 0 rfl (r_move rfl) ?_
          refine ha_takeP 1 rfl (r_move rfl) ?_
          refine ha_takeP 2 rfl (r_idx rfl rfl) ?_
          refine ha_takeP 3 rfl (r_field rfl) ?_
          refine ha_take 4 rfl (r_nth rfl hki) ?_
          refine ha_takeP 5 rfl (r_bool (r_neq rfl rfl) (decide_eq_false (fun h => h h3))) ?_
          refine ha_takeP 6 rfl (r_move rfl) ?_
          refine ha_off 7 rfl ?_
          refine ha_off 8 rfl ?_
          refine ha_off 9 rfl ?_
          refine ha_off 10 rfl ?_
          refine ha_off 11 rfl ?_
          refine ha_off 12 rfl ?_
          refine ha_off 13 rfl ?_
          refine ha_takeP 14 rfl (r_pick rfl rfl) ?_
          refine ha_takeP 15 rfl (r_move rfl) ?_
          refine ha_takeP 16 rfl (r_move rfl) ?_
          refine ha_takeP 17 rfl (r_move rfl) ?_
          refine ha_takeP 18 rfl (r_idx rfl rfl) ?_
          refine ha_takeP 19 rfl (r_field rfl) ?_
          refine ha_take 20 rfl (r_nth rfl hki) ?_
          refine ha_takeP 21 rfl (r_bool (r_neq rfl rfl) (decide_eq_true (by omega))) ?_
          refine ha_takeP 22 rfl (r_move rfl) ?_
          refine ha_takeP 23 rfl (r_move rfl) ?_
          refine ha_takeP 24 rfl (r_move rfl) ?_
          refine ha_takeP 25 rfl (r_idx rfl rfl) ?_
          refine ha_takeP 26 rfl (r_field rfl (O' := o + (k * 97 + 33)) (by omega)) ?_
          refine ha_take 27 rfl (r_nthr rfl (out := x.leaf.cells) (Leaf.cells_length _) hlf) ?_
          refine ha_take 28 rfl (r_loadr rfl) ?_
          refine ha_takeP 29 rfl (r_bool (r_ner rfl rfl) (decide_eq_false (fun h => h hz))) ?_
          refine ha_takeP 30 rfl (r_pick rfl rfl) ?_
          refine ha_takeP 31 rfl (r_pick rfl rfl) ?_
          refine ha_done (by kernel_rfl) ?_
          refine q_then ?_
          refine h_condF rfl ?_
          refine h_skip ?_
          refine q_block ?_
          refine q_then ?_
          refine h_reg ?_
          refine h_op (r_move rfl) ?_
          refine h_op (r_add rfl rfl) ?_
          refine h_op (r_assign rfl) ?_
          refine h_nil ?_
          exact h_back (k + 1) (⟨hk2, hok'⟩) (by omega) ⟨rfl, rfl, rfl, rfl, trivial⟩ (same)
        · rw [if_neg (all_bad hx (by rw [clean3 h3]; exact decide_eq_false hz))]
          refine ha_start [.blk g4 zLeaf.cells 43, .blk g3 zB32.cells 41, .rd (some ⟨b, o, none⟩) (its l)] [] mixed (same) ?_
          refine ha_takeP 0 rfl (r_move rfl) ?_
          refine ha_takeP 1 rfl (r_move rfl) ?_
          refine ha_takeP 2 rfl (r_idx rfl rfl) ?_
          refine ha_takeP 3 rfl (r_field rfl) ?_
          refine ha_take 4 rfl (r_nth rfl hki) ?_
          refine ha_takeP 5 rfl (r_bool (r_neq rfl rfl) (decide_eq_false (fun h => h h3))) ?_
          refine ha_takeP 6 rfl (r_move rfl) ?_
          refine ha_off 7 rfl ?_
          refine ha_off 8 rfl ?_
          refine ha_off 9 rfl ?_
          refine ha_off 10 rfl ?_
          refine ha_off 11 rfl ?_
          refine ha_off 12 rfl ?_
          refine ha_off 13 rfl ?_
          refine ha_takeP 14 rfl (r_pick rfl rfl) ?_
          refine ha_takeP 15 rfl (r_move rfl) ?_
          refine ha_takeP 16 rfl (r_move rfl) ?_
          refine ha_takeP 17 rfl (r_move rfl) ?_
          refine ha_takeP 18 rfl (r_idx rfl rfl) ?_
          refine ha_takeP 19 rfl (r_field rfl) ?_
          refine ha_take 20 rfl (r_nth rfl hki) ?_
          refine ha_takeP 21 rfl (r_bool (r_neq rfl rfl) (decide_eq_true (by omega))) ?_
          refine ha_takeP 22 rfl (r_move rfl) ?_
          refine ha_takeP 23 rfl (r_move rfl) ?_
          refine ha_takeP 24 rfl (r_move rfl) ?_
          refine ha_takeP 25 rfl (r_idx rfl rfl) ?_
          refine ha_takeP 26 rfl (r_field rfl (O' := o + (k * 97 + 33)) (by omega)) ?_
          refine ha_take 27 rfl (r_nthr rfl (out := x.leaf.cells) (Leaf.cells_length _) hlf) ?_
          refine ha_take 28 rfl (r_loadr rfl) ?_
          refine ha_takeP 29 rfl (r_bool (r_ner rfl rfl) (decide_eq_true hz)) ?_
          refine ha_takeP 30 rfl (r_pick rfl rfl) ?_
          refine ha_takeP 31 rfl (r_pick rfl rfl) ?_
          refine ha_done (by kernel_rfl) ?_
          refine q_then ?_
          refine h_condT rfl ?_
          refine h_seq ?_
          refine h_reg ?_
          refine h_op (r_assign rfl) ?_
          refine h_nil ?_
          refine q_then ?_
          refine h_ret ?_
          refine q_blockR ?_
          refine q_thenR ?_
          refine q_thenR ?_
          refine q_blockR ?_
          refine q_thenR ?_
          exact h_ret1 rfl rfl fun w s => ⟨(), rfl, s.res (List.nil_sublist _) (by simp)⟩
      · by_cases hd : x.digest = zB32
        · by_cases h4 : x.kind = 1
          · have hok' : (l.take (k + 1)).all cleanItem = true := by rw [hac, clean1 h3 hd h4]
            refine ha_start [.blk g4 zLeaf.cells 43, .blk g3 zB32.cells 41, .rd (some ⟨b, o, none⟩) (its l)] [] mixed (same) ?_
            refine ha_takeP 0 rfl (r_move rfl) ?_
            refine ha_takeP 1 rfl (r_move rfl) ?_
            refine ha_takeP 2 rfl (r_idx rfl rfl) ?_
            refine ha_takeP 3 rfl (r_field rfl) ?_
            refine ha_take 4 rfl (r_nth rfl hki) ?_
            refine ha_takeP 5 rfl (r_bool (r_neq rfl rfl) (decide_eq_true h3)) ?_
            refine ha_takeP 6 rfl (r_move rfl) ?_
            refine ha_takeP 7 rfl (r_move rfl) ?_
            refine ha_takeP 8 rfl (r_move rfl) ?_
            refine ha_takeP 9 rfl (r_idx rfl rfl) ?_
            refine ha_takeP 10 rfl (r_field rfl (O' := o + (k * 97 + 1)) (by omega)) ?_
            refine ha_take 11 rfl (r_nthr rfl (out := x.digest.cells) (B32.cells_length _) hdg) ?_
            refine ha_take 12 rfl (r_loadr rfl) ?_
            refine ha_takeP 13 rfl (r_bool (r_ner rfl rfl) (decide_eq_false (fun h => h hd))) ?_
            refine ha_takeP 14 rfl (r_pick rfl rfl) ?_
            refine ha_takeP 15 rfl (r_move rfl) ?_
            refine ha_takeP 16 rfl (r_move rfl) ?_
            refine ha_takeP 17 rfl (r_move rfl) ?_
            refine ha_takeP 18 rfl (r_idx rfl rfl) ?_
            refine ha_takeP 19 rfl (r_field rfl) ?_
            refine ha_take 20 rfl (r_nth rfl hki) ?_
            refine ha_takeP 21 rfl (r_bool (r_neq rfl rfl) (decide_eq_false (fun h => h h4))) ?_
            refine ha_takeP 22 rfl (r_move rfl) ?_
            refine ha_off 23 rfl ?_
            refine ha_off 24 rfl ?_
            refine ha_off 25 rfl ?_
            refine ha_off 26 rfl ?_
            refine ha_off 27 rfl ?_
            refine ha_off 28 rfl ?_
            refine ha_off 29 rfl ?_
            refine ha_takeP 30 rfl (r_pick rfl rfl) ?_
            refine ha_takeP 31 rfl (r_pick rfl rfl) ?_
            refine ha_done (by kernel_rfl) ?_
            refine q_then ?_
            refine h_condF rfl ?_
            refine h_skip ?_
            refine q_block ?_
            refine q_then ?_
            refine h_reg ?_
            refine h_op (r_move rfl) ?_
            refine h_op (r_add rfl rfl) ?_
            refine h_op (r_assign rfl) ?_
            refine h_nil ?_
            exact h_back (k + 1) (⟨hk2, hok'⟩) (by omega) ⟨rfl, rfl, rfl, rfl, trivial⟩ (same)
          · by_cases hz : x.leaf = zLeaf
            · have hok' : (l.take (k + 1)).all cleanItem = true := by rw [hac, clean0 h3 hd h4, decide_eq_true hz]
              refine ha_start [.blk g4 zLeaf.cells 43, .blk g3 zB32.cells 41, .rd (some ⟨b, o, none⟩) (its l)] [] mixed (same) ?_
              refine ha_takeP 0 rfl (r_move rfl) ?_
              refine ha_takeP 1 rfl (r_move rfl) ?_
              refine ha_takeP 2 rfl (r_idx rfl rfl) ?_
              refine ha_takeP 3 rfl (r_field rfl) ?_
              refine ha_take 4 rfl (r_nth rfl hki) ?_
              refine ha_takeP 5 rfl (r_bool (r_neq rfl rfl) (decide_eq_true h3)) ?_
              refine ha_takeP 6 rfl (r_move rfl) ?_
              refine ha_takeP 7 rfl (r_move rfl) ?_
              refine ha_takeP 8 rfl (r_move rfl) ?_
              refine ha_takeP 9 rfl (r_idx rfl rfl) ?_
              refine ha_takeP 10 rfl (r_field rfl (O' := o + (k * 97 + 1)) (by omega)) ?_
              refine ha_take 11 rfl (r_nthr rfl (out := x.digest.cells) (B32.cells_length _) hdg) ?_
              refine ha_take 12 rfl (r_loadr rfl) ?_
              refine ha_takeP 13 rfl (r_bool (r_ner rfl rfl) (decide_eq_false (fun h => h hd))) ?_
              refine ha_takeP 14 rfl (r_pick rfl rfl) ?_
              refine ha_takeP 15 rfl (r_move rfl) ?_
              refine ha_takeP 16 rfl (r_move rfl) ?_
              refine ha_takeP 17 rfl (r_move rfl) ?_
              refine ha_takeP 18 rfl (r_idx rfl rfl) ?_
              refine ha_takeP 19 rfl (r_field rfl) ?_
              refine ha_take 20 rfl (r_nth rfl hki) ?_
              refine ha_takeP 21 rfl (r_bool (r_neq rfl rfl) (decide_eq_true h4)) ?_
              refine ha_takeP 22 rfl (r_move rfl) ?_
              refine ha_takeP 23 rfl (r_move rfl) ?_
              refine ha_takeP 24 rfl (r_move rfl) ?_
              refine ha_takeP 25 rfl (r_idx rfl rfl) ?_
              refine ha_takeP 26 rfl (r_field rfl (O' := o + (k * 97 + 33)) (by omega)) ?_
              refine ha_take 27 rfl (r_nthr rfl (out := x.leaf.cells) (Leaf.cells_length _) hlf) ?_
              refine ha_take 28 rfl (r_loadr rfl) ?_
              refine ha_takeP 29 rfl (r_bool (r_ner rfl rfl) (decide_eq_false (fun h => h hz))) ?_
              refine ha_takeP 30 rfl (r_pick rfl rfl) ?_
              refine ha_takeP 31 rfl (r_pick rfl rfl) ?_
              refine ha_done (by kernel_rfl) ?_
              refine q_then ?_
              refine h_condF rfl ?_
              refine h_skip ?_
              refine q_block ?_
              refine q_then ?_
              refine h_reg ?_
              refine h_op (r_move rfl) ?_
              refine h_op (r_add rfl rfl) ?_
              refine h_op (r_assign rfl) ?_
              refine h_nil ?_
              exact h_back (k + 1) (⟨hk2, hok'⟩) (by omega) ⟨rfl, rfl, rfl, rfl, trivial⟩ (same)
            · rw [if_neg (all_bad hx (by rw [clean0 h3 hd h4]; exact decide_eq_false hz))]
              refine ha_start [.blk g4 zLeaf.cells 43, .blk g3 zB32.cells 41, .rd (some ⟨b, o, none⟩) (its l)] [] mixed (same) ?_
              refine ha_takeP 0 rfl (r_move rfl) ?_
              refine ha_takeP 1 rfl (r_move rfl) ?_
              refine ha_takeP 2 rfl (r_idx rfl rfl) ?_
              refine ha_takeP 3 rfl (r_field rfl) ?_
              refine ha_take 4 rfl (r_nth rfl hki) ?_
              refine ha_takeP 5 rfl (r_bool (r_neq rfl rfl) (decide_eq_true h3)) ?_
              refine ha_takeP 6 rfl (r_move rfl) ?_
              refine ha_takeP 7 rfl (r_move rfl) ?_
              refine ha_takeP 8 rfl (r_move rfl) ?_
              refine ha_takeP 9 rfl (r_idx rfl rfl) ?_
              refine ha_takeP 10 rfl (r_field rfl (O' := o + (k * 97 + 1)) (by omega)) ?_
              refine ha_take 11 rfl (r_nthr rfl (out := x.digest.cells) (B32.cells_length _) hdg) ?_
              refine ha_take 12 rfl (r_loadr rfl) ?_
              refine ha_takeP 13 rfl (r_bool (r_ner rfl rfl) (decide_eq_false (fun h => h hd))) ?_
              refine ha_takeP 14 rfl (r_pick rfl rfl) ?_
              refine ha_takeP 15 rfl (r_move rfl) ?_
              refine ha_takeP 16 rfl (r_move rfl) ?_
              refine ha_takeP 17 rfl (r_move rfl) ?_
              refine ha_takeP 18 rfl (r_idx rfl rfl) ?_
              refine ha_takeP 19 rfl (r_field rfl) ?_
              refine ha_take 20 rfl (r_nth rfl hki) ?_
              refine ha_takeP 21 rfl (r_bool (r_neq rfl rfl) (decide_eq_true h4)) ?_
              refine ha_takeP 22 rfl (r_move rfl) ?_
              refine ha_takeP 23 rfl (r_move rfl) ?_
              refine ha_takeP 24 rfl (r_move rfl) ?_
              refine ha_takeP 25 rfl (r_idx rfl rfl) ?_
              refine ha_takeP 26 rfl (r_field rfl (O' := o + (k * 97 + 33)) (by omega)) ?_
              refine ha_take 27 rfl (r_nthr rfl (out := x.leaf.cells) (Leaf.cells_length _) hlf) ?_
              refine ha_take 28 rfl (r_loadr rfl) ?_
              refine ha_takeP 29 rfl (r_bool (r_ner rfl rfl) (decide_eq_true hz)) ?_
              refine ha_takeP 30 rfl (r_pick rfl rfl) ?_
              refine ha_takeP 31 rfl (r_pick rfl rfl) ?_
              refine ha_done (by kernel_rfl) ?_
              refine q_then ?_
              refine h_condT rfl ?_
              refine h_seq ?_
              refine h_reg ?_
              refine h_op (r_assign rfl) ?_
              refine h_nil ?_
              refine q_then ?_
              refine h_ret ?_
              refine q_blockR ?_
              refine q_thenR ?_
              refine q_thenR ?_
              refine q_blockR ?_
              refine q_thenR ?_
              exact h_ret1 rfl rfl fun w s => ⟨(), rfl, s.res (List.nil_sublist _) (by simp)⟩
        · rw [if_neg (all_bad hx (cleanN h3 hd))]
          refine ha_start [.blk g4 zLeaf.cells 43, .blk g3 zB32.cells 41, .rd (some ⟨b, o, none⟩) (its l)] [] mixed (same) ?_
          refine ha_takeP 0 rfl (r_move rfl) ?_
          refine ha_takeP 1 rfl (r_move rfl) ?_
          refine ha_takeP 2 rfl (r_idx rfl rfl) ?_
          refine ha_takeP 3 rfl (r_field rfl) ?_
          refine ha_take 4 rfl (r_nth rfl hki) ?_
          refine ha_takeP 5 rfl (r_bool (r_neq rfl rfl) (decide_eq_true h3)) ?_
          refine ha_takeP 6 rfl (r_move rfl) ?_
          refine ha_takeP 7 rfl (r_move rfl) ?_
          refine ha_takeP 8 rfl (r_move rfl) ?_
          refine ha_takeP 9 rfl (r_idx rfl rfl) ?_
          refine ha_takeP 10 rfl (r_field rfl (O' := o + (k * 97 + 1)) (by omega)) ?_
          refine ha_take 11 rfl (r_nthr rfl (out := x.digest.cells) (B32.cells_length _) hdg) ?_
          refine ha_take 12 rfl (r_loadr rfl) ?_
          refine ha_takeP 13 rfl (r_bool (r_ner rfl rfl) (decide_eq_true hd)) ?_
          refine ha_takeP 14 rfl (r_pick rfl rfl) ?_
          refine ha_takeP 15 rfl (r_move rfl) ?_
          refine ha_off 16 rfl ?_
          refine ha_off 17 rfl ?_
          refine ha_off 18 rfl ?_
          refine ha_off 19 rfl ?_
          refine ha_off 20 rfl ?_
          refine ha_off 21 rfl ?_
          refine ha_off 22 rfl ?_
          refine ha_off 23 rfl ?_
          refine ha_off 24 rfl ?_
          refine ha_off 25 rfl ?_
          refine ha_off 26 rfl ?_
          refine ha_off 27 rfl ?_
          refine ha_off 28 rfl ?_
          refine ha_off 29 rfl ?_
          refine ha_off 30 rfl ?_
          refine ha_takeP 31 rfl (r_pick rfl rfl) ?_
          refine ha_done (by kernel_rfl) ?_
          refine q_then ?_
          refine h_condT rfl ?_
          refine h_seq ?_
          refine h_reg ?_
          refine h_op (r_assign rfl) ?_
          refine h_nil ?_
          refine q_then ?_
          refine h_ret ?_
          refine q_blockR ?_
          refine q_thenR ?_
          refine q_thenR ?_
          refine q_blockR ?_
          refine q_thenR ?_
          exact h_ret1 rfl rfl fun w s => ⟨(), rfl, s.res (List.nil_sublist _) (by simp)⟩
    · obtain rfl : k = l.length := by omega
      rw [List.take_length] at hcl
      rw [if_pos hcl]
      by_cases h0 : l.length = 0
      · rw [if_pos (.inl h0)]
        refine h_exit ?_
        refine q_thenE ?_
        refine q_thenE ?_
        refine q_blockE ?_
        refine q_then ?_
        refine h_seq ?_
        refine h_seq ?_
        refine h_reg ?_
        refine h_op (r_move rfl) ?_
        refine h_op (r_len rfl) ?_
        refine h_op (r_bool (r_eql rfl rfl) (decide_eq_true (by omega))) ?_
        refine h_op (r_move rfl) ?_
        refine h_opOff ?_
        refine h_opOff ?_
        refine h_opOff ?_
        refine h_opOff ?_
        refine h_opOff ?_
        refine h_op (r_pick rfl rfl) ?_
        refine h_nil ?_
        refine q_then ?_
        refine h_condT rfl ?_
        refine h_seq ?_
        refine h_reg ?_
        refine h_op (r_assign rfl) ?_
        refine h_nil ?_
        refine q_then ?_
        refine h_ret ?_
        refine q_thenR ?_
        exact h_ret1 rfl rfl fun w s => ⟨(), rfl, s.res (List.nil_sublist _) (by simp)⟩
      · refine h_exit ?_
        refine q_thenE ?_
        refine q_thenE ?_
        refine q_blockE ?_
        refine q_then ?_
        refine h_seq ?_
        refine h_seq ?_
        refine h_reg ?_
        refine h_op (r_move rfl) ?_
        refine h_op (r_len rfl) ?_
        refine h_op (r_bool (r_eql rfl rfl) (decide_eq_false (by omega))) ?_
        refine h_op (r_move rfl) ?_
        refine h_op (r_move rfl) ?_
        refine h_call (hSk.comes) rfl rfl rfl fun _ => ?_
        by_cases hs : skipI l (readM 256 l) = (l.length : Int)
        · rw [if_neg (fun h => h.elim h0 (fun h => h hs))]
          refine h_op (r_move rfl) ?_
          refine h_op (r_len rfl) ?_
          refine h_op (r_bool (r_neq rfl rfl) (decide_eq_false (fun h => h hs))) ?_
          refine h_op (r_pick rfl rfl) ?_
          refine h_nil ?_
          refine q_then ?_
          refine h_condF rfl ?_
          refine h_skip ?_
          refine q_then ?_
          refine h_seq ?_
          refine h_reg ?_
          refine h_op (r_assign rfl) ?_
          refine h_nil ?_
          refine q_then ?_
          refine h_ret ?_
          exact h_ret1 rfl rfl fun w s => ⟨(), rfl, s.res (List.nil_sublist _) (by simp)⟩
        · rw [if_pos (.inr hs)]
          refine h_op (r_move rfl) ?_
          refine h_op (r_len rfl) ?_
          refine h_op (r_bool (r_neq rfl rfl) (decide_eq_true hs)) ?_
          refine h_op (r_pick rfl rfl) ?_
          refine h_nil ?_
          refine q_then ?_
          refine h_condT rfl ?_
          refine h_seq ?_
          refine h_reg ?_
          refine h_op (r_assign rfl) ?_
          refine h_nil ?_
          refine q_then ?_
          refine h_ret ?_
          refine q_thenR ?_
          exact h_ret1 rfl rfl fun w s => ⟨(), rfl, s.res (List.nil_sublist _) (by simp)⟩
end Go.Proofs.YtgfkbeipckbkiaaDoor
/- U67 -/
namespace Go.Proofs.YtgfkbeipckbkiaaDoor
set_option linter.unusedSimpArgs false
set_option linter.unusedVariables false
open Go.RowKit
theorem readM_cost : ∀ (d : Nat) (l : List Item) (t : Sub) (r : List Item), readM d l = some (t, r) → t.cost + r.length ≤ l.length
  | d, [], t, r, h => by cases d <;> cases h
  | d, x :: l, t, r, h => by
    by_cases hk : x.kind = 2
    · match d, h with
      | 0, h => unfold readM at h; rw [if_pos hk] at h; cases h
      | d + 1, h =>
        unfold readM at h
        rw [if_pos hk] at h
        obtain ⟨p, hp, h⟩ := Option.bind_eq_some_iff.1 h
        obtain ⟨q, hq, h⟩ := Option.bind_eq_some_iff.1 h
        have h1 := readM_cost d l p.1 p.2 hp
        have h2 := readM_cost d p.2 q.1 q.2 hq
        simp only [Option.some.injEq, Prod.mk.injEq] at h
        rw [← h.1, ← h.2]
        show p.1.cost + q.1.cost + 1 + q.2.length ≤ (x :: l).length
        rw [List.length_cons]
        omega
    · have h' : readM d (x :: l) = some (.one x, l) := by cases d <;> (unfold readM; rw [if_neg hk])
      rw [h'] at h
      simp only [Option.some.injEq, Prod.mk.injEq] at h
      rw [← h.1, ← h.2]
      show (if x.kind = 3 then 0 else 1) + l.length ≤ (x :: l).length
      rw [List.length_cons]
      split <;> omega
theorem parse_ok {l : List Item} {t : Sub} (h : parseM l = .ok t) : readM 256 l = some (t, []) ∧ l.all kindOk = true ∧ l.all cleanItem = true := by
  unfold parseM at h
  by_cases h1 : l.all kindOk = true
  · rw [if_pos h1] at h
    rcases hm : readM 256 l with _ | ⟨t', r⟩
    · rw [hm] at h; cases h
    · rw [hm] at h
      cases r with
      | nil =>
        by_cases h2 : l.all cleanItem = true
        · simp only [h2, if_true] at h
          injection h with h
          exact ⟨by rw [h], h1, h2⟩
        · simp only [h2] at h
          cases h
      | cons y r => cases h
  · rw [if_neg h1] at h
    cases h
section
variable (h : Zh) [hT : RdZ h (some ⟨1, 0, none⟩) hashT]
theorem mRoot_s (n : Nat) (hn : n ≤ 256) (gh gc k : Nat) (hk : k ≤ 1000000000) (l : List Item) (A : Option Addr) (c : Nat) [hr : RdZ h A (its l)] (hc : l.length ≤ c) (hl : l.length ≤ 1000000) (t : Sub) (hp : parseM l = .ok t) : Spec Tryd.prog 20 [.pointer (some ⟨gh, 0, none⟩), .slice A l.length c].toArray [.zone false h, HR gh gc n] [CN gc k] (fun _ : Unit => .tuple #[.agg (dgS n t).cells.toArray, .int .i64 0]) (fun _ => [CN gc (k + t.cost)]) := by
  have hP := parse_s h l A c hc hl
  rw [hp] at hP
  have hco := readM_cost 256 l t [] (parse_ok hp).1
  have hD := dig_s n hn gh gc t k (by simp at hco; omega)
  refine spec_of Tryd.func20 rfl (n := 20) rfl rfl ?_
  intro W
  refine h_seq ?_
  refine h_reg ?_
  refine h_opX (x_alloc) fun g4 => ?_
  refine h_op (r_assign rfl) ?_
  refine h_nil ?_
  refine q_then ?_
  refine h_seq ?_
  refine h_reg ?_
  refine h_op (r_move rfl) ?_
  refine h_call (hP.comes) rfl rfl rfl fun _ => ?_
  refine h_op (r_move rfl) ?_
  refine h_op (r_extract rfl rfl) ?_
  refine h_op (r_extract rfl rfl) ?_
  refine h_op (r_assign rfl) ?_
  refine h_op (r_assign rfl) ?_
  refine h_nil ?_
  refine q_then ?_
  refine h_seq ?_
  refine h_seq ?_
  refine h_reg ?_
  refine h_op (r_move rfl) ?_
  refine h_op (r_neq rfl rfl) ?_
  refine h_nil ?_
  refine q_then ?_
  refine h_no rfl ((fun h => h rfl)) ?_
  refine h_skip ?_
  refine q_then ?_
  refine h_seq ?_
  refine h_reg ?_
  refine h_op (r_move rfl) ?_
  refine h_op (r_move rfl) ?_
  refine h_callM (hD.comes) rfl rfl rfl fun _ => ?_
  refine h_opS (s_storer rfl rfl) ?_
  refine h_op (r_assign rfl) ?_
  refine h_nil ?_
  refine q_then ?_
  refine h_ret ?_
  exact h_ret2 rfl (rv_row rfl) rfl fun w s => ⟨(), rfl, (same (L' := [CN gc (k + t.cost)]) w s).res (List.Sublist.refl _) (by simp [Fa.wr])⟩
end
end Go.Proofs.YtgfkbeipckbkiaaDoor
/- E18 -/
namespace Go.Proofs.YtgfkbeipckbkiaaDoor
set_option linter.unusedSimpArgs false
set_option linter.unusedVariables false
open Go.RowKit
abbrev innerI : Item := ⟨2, zB32, zLeaf⟩
def Sub.flat : Sub → List Item
  | .one x => [x]
  | .two l r => innerI :: (l.flat ++ r.flat)
def Sub.ht : Sub → Nat
  | .one _ => 0
  | .two l r => max l.ht r.ht + 1
def Sub.ok : Sub → Prop
  | .one x => x.kind ≠ 2 ∧ kindOk x = true ∧ cleanItem x = true
  | .two l r => l.ok ∧ r.ok
def Sub.sz : Sub → Nat
  | .one _ => 1
  | .two l r => l.sz + r.sz + 1
theorem Sub.flat_len : ∀ t : Sub, t.flat.length = t.sz
  | .one _ => rfl
  | .two l r => by
    show (l.flat ++ r.flat).length + 1 = _
    rw [List.length_append, l.flat_len, r.flat_len]
    rfl
theorem Sub.sz_pos : ∀ t : Sub, 0 < t.sz
  | .one _ => Nat.one_pos
  | .two _ _ => Nat.succ_pos _
theorem read_flat : ∀ (t : Sub) (d : Nat) (rest : List Item), t.ok → t.ht ≤ d → readM d (t.flat ++ rest) = some (t, rest)
  | .one x, d, rest, ho, _ => by
    show readM d (x :: rest) = _
    cases d <;> (unfold readM; rw [if_neg ho.1])
  | .two l r, 0, rest, ho, hd => absurd hd (by simp [Sub.ht])
  | .two l r, d + 1, rest, ho, hd => by
    have hd' : max l.ht r.ht + 1 ≤ d + 1 := hd
    show readM (d + 1) (innerI :: ((l.flat ++ r.flat) ++ rest)) = _
    unfold readM
    rw [if_pos rfl, List.append_assoc, read_flat l d _ ho.1 (by omega)]
    simp only [Option.bind_some]
    rw [read_flat r d _ ho.2 (by omega)]
    rfl
theorem flat_read : ∀ (d : Nat) (l : List Item) (t : Sub) (rest : List Item), readM d l = some (t, rest) → l.all kindOk = true → l.all cleanItem = true → l = t.flat ++ rest ∧ t.ok ∧ t.ht ≤ d ∧ rest.all kindOk = true ∧ rest.all cleanItem = true
  | d, [], t, r, h, _, _ => by cases d <;> cases h
  | d, x :: l, t, r, h, hk, hc => by
    rw [List.all_cons, Bool.and_eq_true] at hk hc
    by_cases hk2 : x.kind = 2
    · match d, h with
      | 0, h => unfold readM at h; rw [if_pos hk2] at h; cases h
      | d + 1, h =>
        unfold readM at h
        rw [if_pos hk2] at h
        obtain ⟨p, hp, h⟩ := Option.bind_eq_some_iff.1 h
        obtain ⟨q, hq, h⟩ := Option.bind_eq_some_iff.1 h
        obtain ⟨a1, a2, a3, a4, a5⟩ := flat_read d l p.1 p.2 hp hk.2 hc.2
        obtain ⟨b1, b2, b3, b4, b5⟩ := flat_read d p.2 q.1 q.2 hq a4 a5
        simp only [Option.some.injEq, Prod.mk.injEq] at h
        rw [← h.1, ← h.2]
        refine ⟨?_, ⟨a2, b2⟩, ?_, b4, b5⟩
        · show x :: l = innerI :: (p.1.flat ++ q.1.flat) ++ q.2
          have hx : x = innerI := by
            have h1 := hc.1
            unfold cleanItem at h1
            simp only [hk2] at h1
            simp at h1
            obtain ⟨k, dg, lf⟩ := x
            simp only at hk2 h1
            rw [hk2, h1.1, h1.2]
          rw [hx, List.cons_append, List.append_assoc, ← b1, ← a1]
        · show max p.1.ht q.1.ht + 1 ≤ d + 1
          omega
    · have h' : readM d (x :: l) = some (.one x, l) := by cases d <;> (unfold readM; rw [if_neg hk2])
      rw [h'] at h
      simp only [Option.some.injEq, Prod.mk.injEq] at h
      rw [← h.1, ← h.2]
      exact ⟨rfl, ⟨hk2, hk.1, hc.1⟩, Nat.zero_le _, hk.2, hc.2⟩
theorem parse_flat {l : List Item} {t : Sub} (h : parseM l = .ok t) : l = t.flat ∧ t.ok ∧ t.ht ≤ 256 := by
  obtain ⟨h1, h2, h3⟩ := parse_ok h
  obtain ⟨a, b, c, _⟩ := flat_read 256 l t [] h1 h2 h3
  exact ⟨by rw [a, List.append_nil], b, c⟩
theorem Sub.flat_all : ∀ t : Sub, t.ok → t.flat.all kindOk = true ∧ t.flat.all cleanItem = true
  | .one x, h => ⟨by show ([x].all kindOk) = true; simp [h.2.1], by show ([x].all cleanItem) = true; simp [h.2.2]⟩
  | .two l r, h => by
    have h1 := l.flat_all h.1
    have h2 := r.flat_all h.2
    constructor
    · show ((innerI :: (l.flat ++ r.flat)).all kindOk) = true
      rw [List.all_cons, List.all_append, h1.1, h2.1]; rfl
    · show ((innerI :: (l.flat ++ r.flat)).all cleanItem) = true
      rw [List.all_cons, List.all_append, h1.2, h2.2]; decide
theorem flat_parse {t : Sub} (h : t.ok) (hh : t.ht ≤ 256) : parseM t.flat = .ok t := by
  have h1 := t.flat_all h
  have h2 := read_flat t 256 [] h hh
  rw [List.append_nil] at h2
  unfold parseM
  rw [if_pos h1.1, h2]
  simp only [h1.2, if_true]
/-! the end of a key's way, its indices -/
def Sub.endI (k : B32) : Sub → Nat → Item × Nat
  | .one x, d => (x, d)
  | .two l r, d => if bitAt k d then r.endI k (d + 1) else l.endI k (d + 1)
def Sub.way (k : B32) : Sub → Nat → Nat → List Nat
  | .one _, _, i => [i]
  | .two l r, d, i => i :: if bitAt k d then r.way k (d + 1) (i + 1 + l.sz) else l.way k (d + 1) (i + 1)
theorem way_rng {k : B32} : ∀ {t : Sub} {d i j : Nat}, j ∈ t.way k d i → i ≤ j ∧ j < i + t.sz
  | .one _, d, i, j, h => by obtain rfl := List.mem_singleton.1 h; exact ⟨Nat.le_refl _, Nat.lt_succ_self _⟩
  | .two l r, d, i, j, h => by
    show i ≤ j ∧ j < i + (l.sz + r.sz + 1)
    rcases List.mem_cons.1 h with rfl | h
    · omega
    · cases hb : bitAt k d
      · rw [hb, if_neg (by simp)] at h
        have := way_rng h
        omega
      · rw [hb, if_pos rfl] at h
        have := way_rng h
        omega
theorem way_head (k : B32) (t : Sub) (d i : Nat) : i ∈ t.way k d i := by cases t <;> exact List.mem_cons_self ..
/-! the ends of keys -/
def endsM : Sub → List B32 → Nat → List (Item × Nat) × Bool
  | .one x, ks, d => (ks.map fun _ => (x, d), x.kind != 3 || ks.isEmpty)
  | .two l r, ks, d => if ks.isEmpty then ([], false) else
      if (endsM l (keysB ks d false) (d + 1)).2 then ((endsM l (keysB ks d false) (d + 1)).1 ++ (endsM r (keysB ks d true) (d + 1)).1, (endsM r (keysB ks d true) (d + 1)).2)
      else ((endsM l (keysB ks d false) (d + 1)).1, false)
theorem endsM_len : ∀ (t : Sub) (ks : List B32) (d : Nat), (endsM t ks d).1.length ≤ ks.length
  | .one x, ks, d => by show (ks.map _).length ≤ _; rw [List.length_map]; exact Nat.le_refl _
  | .two l r, ks, d => by
    have h1 := endsM_len l (keysB ks d false) (d + 1)
    have h2 := endsM_len r (keysB ks d true) (d + 1)
    have h3 : (keysB ks d false).length + (keysB ks d true).length = ks.length := by
      unfold keysB
      clear h1 h2
      induction ks with
      | nil => rfl
      | cons e m ih =>
        cases hb : bitAt e d
        · rw [List.filter_cons_of_pos (by simp [hb]), List.filter_cons_of_neg (by simp [hb]), List.length_cons, List.length_cons]; omega
        · rw [List.filter_cons_of_neg (by simp [hb]), List.filter_cons_of_pos (by simp [hb]), List.length_cons, List.length_cons]; omega
    unfold endsM
    split
    · exact Nat.zero_le _
    · split
      · rw [List.length_append]; omega
      · show (endsM l _ _).1.length ≤ _
        omega
theorem keys_cut {ks : List B32} {d : Nat} (ho : ks.Pairwise ltK) (ha : AlikeK ks d) : keysB ks d false ++ keysB ks d true = ks := by
  obtain ⟨m, _, _, h1, h2⟩ := split_at ho ha
  unfold keysB
  rw [← h1, ← h2, List.take_append_drop]
theorem keysB_mem {ks : List B32} {d : Nat} {b : Bool} {k : B32} : k ∈ keysB ks d b ↔ k ∈ ks ∧ bitAt k d = b := by unfold keysB; simp
theorem endsM_map : ∀ (t : Sub) (ks : List B32) (d : Nat), ks.Pairwise ltK → AlikeK ks d → (endsM t ks d).2 = true → (endsM t ks d).1 = ks.map fun k => t.endI k d
  | .one x, ks, d, _, _, _ => rfl
  | .two l r, ks, d, ho, ha, h => by
    unfold endsM at h ⊢
    split at h
    · cases h
    · split at h
      · rename_i h1 h2
        rw [if_neg h1, if_pos h2]
        show (endsM l _ _).1 ++ (endsM r _ _).1 = _
        rw [endsM_map l _ _ (keysB_ord ho _) (keysB_alike ha _) h2, endsM_map r _ _ (keysB_ord ho _) (keysB_alike ha _) h]
        conv => rhs; rw [← keys_cut ho ha, List.map_append]
        congr 1
        · exact List.map_congr_left fun k hk => by rw [Sub.endI, (keysB_mem.1 hk).2]; rfl
        · exact List.map_congr_left fun k hk => by rw [Sub.endI, (keysB_mem.1 hk).2]; rfl
      · cases h
/-- the reference's view of whether a subtree fits keys -/
def fitsR (t : Sub) (ks : List B32) (d i : Nat) : Prop := (∀ k ∈ ks, (t.endI k d).1.kind ≠ 3) ∧ ∀ (j : Nat) (x : Item), t.flat[j]? = some x → x.kind = 2 → ∃ k ∈ ks, i + j ∈ t.way k d i
theorem fits_iff : ∀ (t : Sub) (ks : List B32) (d i : Nat), t.ok → ((endsM t ks d).2 = true ↔ fitsR t ks d i)
  | .one x, ks, d, i, ho => by
    show (x.kind != 3 || ks.isEmpty) = true ↔ _
    constructor
    · intro h
      refine ⟨fun k hk => ?_, fun j y hj hy => ?_⟩
      · show x.kind ≠ 3
        cases ks with
        | nil => cases hk
        | cons => simpa using h
      · cases j with
        | zero => obtain rfl : x = y := by simpa [Sub.flat] using hj
                  exact (ho.1 hy).elim
        | succ j => simp [Sub.flat] at hj
    · rintro ⟨h, _⟩
      cases ks with
      | nil => simp
      | cons k ks =>
        have : x.kind ≠ 3 := h k (List.mem_cons_self ..)
        simp [this]
  | .two l r, ks, d, i, ho => by
    have ihl := fits_iff l (keysB ks d false) (d + 1) (i + 1) ho.1
    have ihr := fits_iff r (keysB ks d true) (d + 1) (i + 1 + l.sz) ho.2
    have h0 : (endsM (.two l r) ks d).2 = true ↔ ks ≠ [] ∧ (endsM l (keysB ks d false) (d + 1)).2 = true ∧ (endsM r (keysB ks d true) (d + 1)).2 = true := by
      conv => lhs; unfold endsM
      cases ks with
      | nil => simp
      | cons k ks =>
        by_cases h1 : (endsM l (keysB (k :: ks) d false) (d + 1)).2 = true
        · simp [h1]
        · simp [h1]
    rw [h0, ihl, ihr]
    have hE : ∀ k b, bitAt k d = b → (Sub.two l r).endI k d = if b then r.endI k (d + 1) else l.endI k (d + 1) := fun k b hb => by rw [Sub.endI, hb]
    have hW : ∀ k b, bitAt k d = b → (Sub.two l r).way k d i = i :: if b then r.way k (d + 1) (i + 1 + l.sz) else l.way k (d + 1) (i + 1) := fun k b hb => by rw [Sub.way, hb]
    have hf : (Sub.two l r).flat = innerI :: (l.flat ++ r.flat) := rfl
    constructor
    · rintro ⟨hne, ⟨a1, a2⟩, b1, b2⟩
      refine ⟨fun k hk => ?_, fun j x hj hx => ?_⟩
      · cases hb : bitAt k d
        · rw [hE k _ hb]; exact a1 k (keysB_mem.2 ⟨hk, hb⟩)
        · rw [hE k _ hb]; exact b1 k (keysB_mem.2 ⟨hk, hb⟩)
      · rw [hf] at hj
        cases j with
        | zero =>
          obtain ⟨k, ks', rfl⟩ := List.exists_cons_of_ne_nil hne
          exact ⟨k, List.mem_cons_self .., way_head k _ d i⟩
        | succ j =>
          rw [List.getElem?_cons_succ] at hj
          rcases Nat.lt_or_ge j l.sz with h1 | h1
          · rw [List.getElem?_append_left (by rw [l.flat_len]; exact h1)] at hj
            obtain ⟨k, hk, hw⟩ := a2 j x hj hx
            obtain ⟨hk, hb⟩ := keysB_mem.1 hk
            refine ⟨k, hk, ?_⟩
            rw [hW k _ hb]
            exact List.mem_cons_of_mem _ (by rw [show i + (j + 1) = i + 1 + j by omega]; exact hw)
          · rw [List.getElem?_append_right (by rw [l.flat_len]; exact h1), l.flat_len] at hj
            obtain ⟨k, hk, hw⟩ := b2 (j - l.sz) x hj hx
            obtain ⟨hk, hb⟩ := keysB_mem.1 hk
            refine ⟨k, hk, ?_⟩
            rw [hW k _ hb]
            exact List.mem_cons_of_mem _ (by rw [show i + (j + 1) = i + 1 + l.sz + (j - l.sz) by omega]; exact hw)
    · rintro ⟨h1, h2⟩
      refine ⟨fun e => ?_, ⟨fun k hk => ?_, fun j x hj hx => ?_⟩, fun k hk => ?_, fun j x hj hx => ?_⟩
      · obtain ⟨k, hk, _⟩ := h2 0 innerI rfl rfl
        rw [e] at hk
        cases hk
      · obtain ⟨hk, hb⟩ := keysB_mem.1 hk
        have := h1 k hk
        rwa [hE k _ hb] at this
      · have hl := (List.getElem?_eq_some_iff.1 hj).1
        rw [l.flat_len] at hl
        obtain ⟨k, hk, hw⟩ := h2 (j + 1) x (by rw [hf, List.getElem?_cons_succ, List.getElem?_append_left (by rw [l.flat_len]; exact hl)]; exact hj) hx
        cases hb : bitAt k d
        · rw [hW k _ hb] at hw
          rcases List.mem_cons.1 hw with e | hw
          · omega
          · exact ⟨k, keysB_mem.2 ⟨hk, hb⟩, by rw [show i + 1 + j = i + (j + 1) by omega]; exact hw⟩
        · rw [hW k _ hb] at hw
          rcases List.mem_cons.1 hw with e | hw
          · omega
          · have := way_rng hw
            omega
      · obtain ⟨hk, hb⟩ := keysB_mem.1 hk
        have := h1 k hk
        rwa [hE k _ hb] at this
      · have hl := (List.getElem?_eq_some_iff.1 hj).1
        rw [r.flat_len] at hl
        obtain ⟨k, hk, hw⟩ := h2 (l.sz + j + 1) x (by rw [hf, List.getElem?_cons_succ, List.getElem?_append_right (by rw [l.flat_len]; omega), l.flat_len, Nat.add_sub_cancel_left]; exact hj) hx
        cases hb : bitAt k d
        · rw [hW k _ hb] at hw
          rcases List.mem_cons.1 hw with e | hw
          · omega
          · have := way_rng hw
            omega
        · rw [hW k _ hb] at hw
          rcases List.mem_cons.1 hw with e | hw
          · omega
          · exact ⟨k, keysB_mem.2 ⟨hk, hb⟩, by rw [show i + 1 + l.sz + j = i + (l.sz + j + 1) by omega]; exact hw⟩
/-! what add appends is the flat list of a subtree -/
def subT (n : Nat) : Tr → List B32 → Nat → Sub
  | .nil, _, _ => .one ⟨0, zB32, zLeaf⟩
  | t, [], _ => .one ⟨3, dgT n t, zLeaf⟩
  | .leaf k v, _, _ => .one ⟨1, zB32, leafOf n k v⟩
  | .node l r, ks, d => .two (subT n l (keysB ks d false) (d + 1)) (subT n r (keysB ks d true) (d + 1))
theorem addT_flat (n : Nat) : ∀ (t : Tr) (ks : List B32) (d : Nat), addT n t ks d = (subT n t ks d).flat
  | .nil, ks, d => by unfold addT subT; rfl
  | .leaf k v, [], d => rfl
  | .leaf k v, _ :: _, d => rfl
  | .node l r, [], d => rfl
  | .node l r, x :: ks, d => by
    unfold addT subT
    rw [addT_flat n l, addT_flat n r]
    rfl
theorem subT_ok (n : Nat) : ∀ (t : Tr) (ks : List B32) (d : Nat), (subT n t ks d).ok
  | .nil, ks, d => by unfold subT; exact ⟨by decide, by decide, by decide⟩
  | .leaf k v, [], d => ⟨by simp, by simp [kindOk], by simp [cleanItem]⟩
  | .leaf k v, _ :: _, d => ⟨by simp, by simp [kindOk], by simp [cleanItem]⟩
  | .node l r, [], d => ⟨by simp, by simp [kindOk], by simp [cleanItem]⟩
  | .node l r, x :: ks, d => ⟨subT_ok n l _ _, subT_ok n r _ _⟩
theorem subT_dg (n : Nat) : ∀ (t : Tr) (ks : List B32) (d : Nat), dgS n (subT n t ks d) = dgT n t
  | .nil, ks, d => by unfold subT; rfl
  | .leaf k v, [], d => rfl
  | .leaf k v, _ :: _, d => rfl
  | .node l r, [], d => rfl
  | .node l r, x :: ks, d => by
    unfold subT dgS
    rw [subT_dg n l, subT_dg n r]
    rfl
end Go.Proofs.YtgfkbeipckbkiaaDoor
/- E19 -/
namespace Go.Proofs.YtgfkbeipckbkiaaDoor
set_option linter.unusedSimpArgs false
set_option linter.unusedVariables false
open Go.RowKit
theorem ltK_of {a b : B32} (h : cmpB a b < 0) : ltK a b := cmpB_bits h
theorem chk_ord : ∀ {l : List B32}, chkK l = 0 → l.Pairwise ltK
  | [], _ => .nil
  | [a], _ => List.pairwise_singleton ..
  | a :: b :: l, h => by
    unfold chkK at h
    split at h
    · cases h
    · split at h
      · cases h
      · have ih := chk_ord h
        have hab : ltK a b := ltK_of (by omega)
        refine List.pairwise_cons.2 ⟨fun x hx => ?_, ih⟩
        rcases List.mem_cons.1 hx with rfl | hx
        · exact hab
        · exact ltK_trans hab ((List.pairwise_cons.1 ih).1 x hx)
theorem keysE_ok {l : List B32} (h : keysE l = 0) : l.length ≠ 0 ∧ l.length ≤ 65535 ∧ l.Pairwise ltK := by
  unfold keysE at h
  split at h
  · cases h
  · split at h
    · cases h
    · exact ⟨by assumption, by omega, chk_ord h⟩
end Go.Proofs.YtgfkbeipckbkiaaDoor
/- U74 -/
namespace Go.Proofs.YtgfkbeipckbkiaaDoor
set_option linter.unusedSimpArgs false
set_option linter.unusedVariables false
open Go.RowKit
section
variable (h : Zh) (ks : List B32) (B : Option Addr) (cc : Nat)
theorem mProve_bad (p : Option Addr) (gh : Nat) (hl : ks.length ≤ 1000000000) (he : keysE ks ≠ 0) : Spec Tryd.prog 11 [.pointer (some ⟨gh, 0, none⟩), .pointer p, .slice B ks.length cc].toArray [.rd B (dgs ks)] [] (fun _ : Unit => .tuple #[.slice none 0 0, .int .i64 (keysE ks)]) (fun _ => []) := by
  refine spec_of Tryd.func11 rfl (n := 18) rfl rfl ?_
  intro W
  refine h_seq ?_
  refine h_reg ?_
  refine h_op (r_assign rfl) ?_
  refine h_op (r_assign rfl) ?_
  refine h_nil ?_
  refine q_then ?_
  refine h_seq ?_
  refine h_seq ?_
  refine h_reg ?_
  refine h_op (r_move rfl) ?_
  refine h_call ((mKeys_s ks B cc (by omega)).comes) rfl rfl rfl fun _ => ?_
  refine h_op (r_assign rfl) ?_
  refine h_nil ?_
  refine q_then ?_
  refine h_seq ?_
  refine h_reg ?_
  refine h_op (r_move rfl) ?_
  refine h_op (r_neq rfl rfl) ?_
  refine h_nil ?_
  refine q_then ?_
  refine h_yes rfl (he) ?_
  refine h_seq ?_
  refine h_reg ?_
  refine h_op (r_move rfl) ?_
  refine h_op (r_assign rfl) ?_
  refine h_op (r_assign rfl) ?_
  refine h_nil ?_
  refine q_then ?_
  refine h_ret ?_
  refine q_thenR ?_
  exact h_ret2 rfl rfl rfl fun w s => ⟨(), rfl, s.res (List.nil_sublist _) (by simp)⟩
theorem mProve_s (n : Nat) (hn : n ≤ 256) (gh gc k : Nat) (hk : k ≤ 1000000000) [hT : RdZ h (some ⟨1, 0, none⟩) hashT] (t : Tr) (p : Option Addr) (ht : TrZ n h t p) [hB : RdZ h B (dgs ks)] (hcc : ks.length ≤ cc) (he : keysE ks = 0) (hht : t.ht ≤ 256) (hsz : t.sz ≤ 1000000) : Spec Tryd.prog 11 [.pointer (some ⟨gh, 0, none⟩), .pointer p, .slice B ks.length cc].toArray [HR gh gc n, .zone false h] [CN gc k] (fun u : Option Addr × Nat => .tuple #[.slice u.1 (addT n t ks 0).length u.2, .int .i64 0]) (fun u => [.own (.slice u.1 (addT n t ks 0).length u.2) (addT n t ks 0).length 45 97 (its (addT n t ks 0)), CN gc k]) := by
  obtain ⟨h1, h2, h3⟩ := keysE_ok he
  have hK := mKeys_s ks B cc (by omega)
  rw [he] at hK
  have hA := add_s n hn gh gc k hk h t p ht ks B cc 0 hB hcc (by omega) h3 (fun _ _ _ _ i hi => absurd hi (by omega)) (by omega) [] none 0 (by simp; omega)
  simp only [List.nil_append, List.length_nil] at hA
  refine spec_of Tryd.func11 rfl (n := 18) rfl rfl ?_
  intro W
  refine h_seq ?_
  refine h_reg ?_
  refine h_op (r_assign rfl) ?_
  refine h_op (r_assign rfl) ?_
  refine h_nil ?_
  refine q_then ?_
  refine h_seq ?_
  refine h_seq ?_
  refine h_reg ?_
  refine h_op (r_move rfl) ?_
  refine h_call (hK.comes) rfl rfl rfl fun _ => ?_
  refine h_op (r_assign rfl) ?_
  refine h_nil ?_
  refine q_then ?_
  refine h_seq ?_
  refine h_reg ?_
  refine h_op (r_move rfl) ?_
  refine h_op (r_neq rfl rfl) ?_
  refine h_nil ?_
  refine q_then ?_
  refine h_no rfl ((fun h => h rfl)) ?_
  refine h_skip ?_
  refine q_then ?_
  refine h_seq ?_
  refine h_reg ?_
  refine h_op (r_move rfl) ?_
  refine h_op (r_move rfl) ?_
  refine h_op (r_move rfl) ?_
  refine h_nil_own 45 97 (xs := its []) rfl ?_
  refine h_call (hA.comes) rfl rfl rfl fun ⟨A17, c17⟩ => ?_
  refine h_op (r_assign rfl) ?_
  refine h_op (r_assign rfl) ?_
  refine h_nil ?_
  refine q_then ?_
  refine h_ret ?_
  exact h_ret2 rfl rfl rfl fun w s => ⟨(A17, c17), rfl, (same w s).res (List.Sublist.refl _) (by simp [Fa.wr])⟩
end
end Go.Proofs.YtgfkbeipckbkiaaDoor
/- U75 -/
namespace Go.Proofs.YtgfkbeipckbkiaaDoor
set_option linter.unusedSimpArgs false
set_option linter.unusedVariables false
open Go.RowKit
instance : TZero Tryd.prog 120 (.agg [.nilIface, .nilIface].toArray) := ⟨fun w => by kernel_rfl⟩
def endC (l : List (Item × Nat)) : List Value := l.flatMap fun x => End.cells ⟨x.1, (x.2 : Int)⟩
theorem endC_len (l : List (Item × Nat)) : (endC l).length = l.length * 98 := by
  unfold endC
  induction l with
  | nil => rfl
  | cons x l ih => rw [List.flatMap_cons, List.length_append, ih, List.length_cons, End.cells_length]; omega
theorem endC_snoc (l : List (Item × Nat)) (x : Item × Nat) : endC l ++ End.cells ⟨x.1, (x.2 : Int)⟩ = endC (l ++ [x]) := by unfold endC; rw [List.flatMap_append]; simp
section
variable (h : Zh)
theorem ends_one (x : Item) (ks : List B32) (B : Option Addr) (cc d : Nat) (hks : ks.length ≤ 100000) (out : List (Item × Nat)) (A : Option Addr) (c : Nat) (ho : out.length + ks.length ≤ 1000000) (b : Bool) (hb : (x.kind != 3 || ks.isEmpty) = b) : Spec Tryd.prog 46 [.slice A out.length c, .iface (Sub.one x).tag (Sub.one x).val, .slice B ks.length cc, .int .i64 (d : Int)].toArray [.zone false h] [.own (.slice A out.length c) out.length 62 98 (endC out)] (fun u : Option Addr × Nat => .tuple #[.slice u.1 (out ++ ks.map fun _ => (x, d)).length u.2, .bool b]) (fun u => [.own (.slice u.1 (out ++ ks.map fun _ => (x, d)).length u.2) (out ++ ks.map fun _ => (x, d)).length 62 98 (endC (out ++ ks.map fun _ => (x, d)))]) := by
  have ht : ∀ k, k < ks.length → (ks.take (k + 1)).map (fun _ => (x, d)) = (ks.take k).map (fun _ => (x, d)) ++ [(x, d)] := fun k hk => by rw [List.take_add_one, List.getElem?_eq_getElem hk, Option.toList_some, List.map_append]; rfl
  refine spec_of Tryd.func46 rfl (n := 79) rfl rfl ?_
  intro W
  change H _ _ _ _ (argsEnv 0 [.slice A out.length c, .iface 122 (.agg x.cells.toArray), .slice B ks.length cc, .int .i64 (d : Int)]) _ _
  refine h_seq ?_
  refine h_reg ?_
  refine h_op (r_assign rfl) ?_
  refine h_op (r_assign rfl) ?_
  refine h_nil ?_
  refine q_then ?_
  refine h_seq ?_
  refine h_seq ?_
  refine h_reg ?_
  refine h_op (r_move rfl) ?_
  refine h_nil ?_
  refine q_then ?_
  refine h_block ?_
  refine h_seq ?_
  refine h_reg ?_
  refine h_op (r_as2n rfl) ?_
  refine h_op (r_extract rfl rfl) ?_
  refine h_op (r_extract rfl rfl) ?_
  refine h_nil ?_
  refine q_then ?_
  refine h_condF rfl ?_
  refine h_seq ?_
  refine h_reg ?_
  refine h_op (r_as2 rfl) ?_
  refine h_op (r_extract rfl rfl) ?_
  refine h_op (r_extract rfl rfl) ?_
  refine h_nil ?_
  refine q_then ?_
  refine h_condT rfl ?_
  refine h_seq ?_
  refine h_reg ?_
  refine h_opX (x_alloc) fun g14 => ?_
  refine h_opS (s_storer rfl rfl) ?_
  refine h_nil ?_
  refine q_then ?_
  refine h_seq ?_
  refine h_seq ?_
  refine h_reg ?_
  refine h_op (r_move rfl) ?_
  refine h_op (r_len rfl) ?_
  refine h_op (r_move rfl) ?_
  refine h_nil ?_
  refine q_then ?_
  refine h_block ?_
  refine h_loop (fun (s : Nat × List (Item × Nat) × Option Addr × Nat) => s.1 ≤ ks.length ∧ s.2.1 = out ++ (ks.take s.1).map (fun _ => (x, d))) (fun (s : Nat × List (Item × Nat) × Option Addr × Nat) => [(58, .int .i64 (s.1 : Int)), (57, .int .i64 (ks.length : Int)), (0, .slice s.2.2.1 s.2.1.length s.2.2.2), (14, .pointer (some ⟨g14, 0, none⟩)), (3, .int .i64 (d : Int)), (2, .slice B ks.length cc)]) (fun (s : Nat × List (Item × Nat) × Option Addr × Nat) => [.own (.slice s.2.2.1 s.2.1.length s.2.2.2) s.2.1.length 62 98 (endC s.2.1), .blk g14 x.cells 122]) (fun (s : Nat × List (Item × Nat) × Option Addr × Nat) => ks.length - s.1) (0, out, A, c) (⟨Nat.zero_le _, by simp⟩) ⟨rfl, rfl, rfl, rfl, rfl, rfl, trivial⟩ (same) ?_
  rintro ⟨k, o, A', c'⟩ ⟨hk, he⟩
  dsimp only at hk he ⊢
  have hol : o.length = out.length + k := by rw [he, List.length_append, List.length_map, List.length_take]; omega
  refine h_seq ?_
  refine h_reg ?_
  refine h_op (r_lss rfl rfl) ?_
  refine h_nil ?_
  refine q_then ?_
  refine h_seq ?_
  refine h_cond rfl (fun hlt => ?_) (fun hlt => ?_)
  · have hk2 : k < ks.length := by omega
    have hl : o.length + 1 = (o ++ [(x, d)]).length := by rw [List.length_append]; rfl
    refine h_skip ?_
    refine q_then ?_
    refine h_seq ?_
    refine h_block ?_
    refine h_reg ?_
    refine h_op (r_move rfl) ?_
    refine h_op (r_field rfl) ?_
    refine h_op (r_loadr rfl) ?_
    refine h_op (r_move rfl) ?_
    refine h_op (r_build rfl) ?_
    refine h_opX (x_bsl rfl rfl) fun g65 => ?_
    refine h_opX (x_app rfl rfl (k := 98)) fun ⟨g66, c66⟩ => ?_
    refine h_op (r_assign rfl) ?_
    refine h_nil ?_
    refine q_block ?_
    refine q_then ?_
    refine h_reg ?_
    refine h_op (r_add rfl rfl) ?_
    refine h_op (r_move rfl) ?_
    refine h_nil ?_
    change H _ _ _ _ _ (.own _ _ _ _ (endC o ++ End.cells ⟨x, (d : Int)⟩) :: _) _
    rw [endC_snoc o (x, d), hl]
    exact h_back (k + 1, o ++ [(x, d)], some ⟨g66, 0, none⟩, c66) (⟨by dsimp only; omega, by dsimp only; rw [ht k hk2, he, List.append_assoc]⟩) ((show ks.length - (k + 1) < ks.length - k by omega)) ⟨rfl, rfl, rfl, rfl, rfl, rfl, trivial⟩ (same)
  · obtain rfl : k = ks.length := by omega
    rw [List.take_length] at he
    subst he
    by_cases h3 : x.kind = 3
    · have hb2 : decide ((ks.length : Int) = 0) = b := by
        rw [← hb, h3]
        cases ks <;> simp
        omega
      refine h_exit ?_
      refine q_thenE ?_
      refine q_thenE ?_
      refine q_blockE ?_
      refine q_then ?_
      refine h_seq ?_
      refine h_reg ?_
      refine h_op (r_move rfl) ?_
      refine h_op (r_field rfl) ?_
      refine h_op (r_field rfl) ?_
      refine h_op (r_loadc rfl) ?_
      refine h_op (r_bool (r_neq rfl rfl) (show _ = false by simp [h3])) ?_
      refine h_op (r_move rfl) ?_
      refine h_op (r_move rfl) ?_
      refine h_op (r_len rfl) ?_
      refine h_op (r_bool (r_eql rfl rfl) hb2) ?_
      refine h_op (r_pick rfl rfl) ?_
      refine h_op (r_assign rfl) ?_
      refine h_op (r_assign rfl) ?_
      refine h_nil ?_
      refine q_then ?_
      refine h_ret ?_
      refine q_blockR ?_
      refine q_thenR ?_
      exact h_ret2 rfl rfl rfl fun w s => ⟨(A', c'), rfl, (same w s).res (List.Sublist.refl _) (by simp [Fa.wr])⟩
    · obtain rfl : b = true := by rw [← hb]; simp [h3]
      refine h_exit ?_
      refine q_thenE ?_
      refine q_thenE ?_
      refine q_blockE ?_
      refine q_then ?_
      refine h_seq ?_
      refine h_reg ?_
      refine h_op (r_move rfl) ?_
      refine h_op (r_field rfl) ?_
      refine h_op (r_field rfl) ?_
      refine h_op (r_loadc rfl) ?_
      refine h_op (r_bool (r_neq rfl rfl) (show _ = true by simp [h3])) ?_
      refine h_op (r_move rfl) ?_
      refine h_opOff ?_
      refine h_opOff ?_
      refine h_opOff ?_
      refine h_op (r_pick rfl rfl) ?_
      refine h_op (r_assign rfl) ?_
      refine h_op (r_assign rfl) ?_
      refine h_nil ?_
      refine q_then ?_
      refine h_ret ?_
      refine q_blockR ?_
      refine q_thenR ?_
      exact h_ret2 rfl rfl rfl fun w s => ⟨(A', c'), rfl, (same w s).res (List.Sublist.refl _) (by simp [Fa.wr])⟩
theorem ends_none (l r : Sub) (B : Option Addr) (cc d : Nat) (out : List (Item × Nat)) (A : Option Addr) (c : Nat) : Spec Tryd.prog 46 [.slice A out.length c, .iface (Sub.two l r).tag (Sub.two l r).val, .slice B 0 cc, .int .i64 (d : Int)].toArray [.zone false h] [.own (.slice A out.length c) out.length 62 98 (endC out)] (fun u : Option Addr × Nat => .tuple #[.slice u.1 out.length u.2, .bool false]) (fun u => [.own (.slice u.1 out.length u.2) out.length 62 98 (endC out)]) := by
  refine spec_of Tryd.func46 rfl (n := 79) rfl rfl ?_
  intro W
  change H _ _ _ _ (argsEnv 0 [.slice A out.length c, .iface 120 (.agg [.iface l.tag l.val, .iface r.tag r.val].toArray), .slice B 0 cc, .int .i64 (d : Int)]) _ _
  refine h_seq ?_
  refine h_reg ?_
  refine h_op (r_assign rfl) ?_
  refine h_op (r_assign rfl) ?_
  refine h_nil ?_
  refine q_then ?_
  refine h_seq ?_
  refine h_seq ?_
  refine h_reg ?_
  refine h_op (r_move rfl) ?_
  refine h_nil ?_
  refine q_then ?_
  refine h_block ?_
  refine h_seq ?_
  refine h_reg ?_
  refine h_op (r_as2 rfl) ?_
  refine h_op (r_extract rfl rfl) ?_
  refine h_op (r_extract rfl rfl) ?_
  refine h_nil ?_
  refine q_then ?_
  refine h_condT rfl ?_
  refine h_seq ?_
  refine h_reg ?_
  refine h_opX (x_alloc) fun g10 => ?_
  refine h_opS (s_storer rfl rfl) ?_
  refine h_nil ?_
  refine q_then ?_
  refine h_seq ?_
  refine h_seq ?_
  refine h_reg ?_
  refine h_op (r_move rfl) ?_
  refine h_op (r_len rfl) ?_
  refine h_op (r_bool (r_eql rfl rfl) (show _ = true from rfl)) ?_
  refine h_nil ?_
  refine q_then ?_
  refine h_condT rfl ?_
  refine h_seq ?_
  refine h_reg ?_
  refine h_op (r_move rfl) ?_
  refine h_op (r_assign rfl) ?_
  refine h_op (r_assign rfl) ?_
  refine h_nil ?_
  refine q_then ?_
  refine h_ret ?_
  refine q_thenR ?_
  refine q_blockR ?_
  refine q_thenR ?_
  exact h_ret2 rfl rfl rfl fun w s => ⟨(A, c), rfl, (same w s).res (List.Sublist.refl _) (by simp [Fa.wr])⟩
/-- what a call of ends brings -/
def EndsS (t : Sub) : Prop := ∀ (ks : List B32) (B : Option Addr) (cc d : Nat), RdZ h B (dgs ks) → ks.length ≤ cc → ks.length ≤ 100000 → ks.Pairwise ltK → AlikeK ks d → d + t.ht ≤ 256 → ∀ (out : List (Item × Nat)) (A : Option Addr) (c : Nat), out.length + ks.length ≤ 1000000 →
  Spec Tryd.prog 46 [.slice A out.length c, .iface t.tag t.val, .slice B ks.length cc, .int .i64 (d : Int)].toArray [.zone false h] [.own (.slice A out.length c) out.length 62 98 (endC out)] (fun u : Option Addr × Nat => .tuple #[.slice u.1 (out ++ (endsM t ks d).1).length u.2, .bool (endsM t ks d).2]) (fun u => [.own (.slice u.1 (out ++ (endsM t ks d).1).length u.2) (out ++ (endsM t ks d).1).length 62 98 (endC (out ++ (endsM t ks d).1))])
theorem ends_two (l r : Sub) (ihl : EndsS h l) (ihr : EndsS h r) (ks : List B32) (B : Option Addr) (cc d m : Nat) (hB : RdZ h B (dgs ks)) (hcc : ks.length ≤ cc) (hks : ks.length ≤ 100000) (hne : ks.length ≠ 0) (ho : ks.Pairwise ltK) (ha : AlikeK ks d) (hd : d + (Sub.two l r).ht ≤ 256) (hm : m ≤ ks.length) (hp : ∀ j, j < ks.length → bitAt (ks.getD j zB32) d = decide (m ≤ j)) (h1 : ks.take m = keysB ks d false) (h2 : ks.drop m = keysB ks d true) (out : List (Item × Nat)) (A : Option Addr) (c : Nat) (hsz : out.length + ks.length ≤ 1000000) (e1 e2 : List (Item × Nat)) (b1 b2 : Bool) (he1 : endsM l (keysB ks d false) (d + 1) = (e1, b1)) (he2 : endsM r (keysB ks d true) (d + 1) = (e2, b2)) :
    Spec Tryd.prog 46 [.slice A out.length c, .iface (Sub.two l r).tag (Sub.two l r).val, .slice B ks.length cc, .int .i64 (d : Int)].toArray [.zone false h] [.own (.slice A out.length c) out.length 62 98 (endC out)] (fun u : Option Addr × Nat => .tuple #[.slice u.1 (out ++ if b1 then e1 ++ e2 else e1).length u.2, .bool (b1 && b2)]) (fun u => [.own (.slice u.1 (out ++ if b1 then e1 ++ e2 else e1).length u.2) (out ++ if b1 then e1 ++ e2 else e1).length 62 98 (endC (out ++ if b1 then e1 ++ e2 else e1))]) := by
  have hht : d + (max l.ht r.ht + 1) ≤ 256 := hd
  have h0 : 0 < (dgs ks).length := by rw [dgs_len]; omega
  obtain ⟨b, o, rfl, -⟩ := hB.at_ 0 _ (List.getElem?_eq_getElem h0)
  have hlm : (ks.take m).length = m := by rw [List.length_take, Nat.min_eq_left hm]
  have hle1 := endsM_len l (keysB ks d false) (d + 1)
  rw [he1, ← h1, hlm] at hle1
  dsimp only at hle1
  have hL := ihl (ks.take m) (some ⟨b, o, none⟩) m (d + 1) (dgs_takeZ hB m) (by omega) (by omega) (by rw [h1]; exact keysB_ord ho _) (by rw [h1]; exact keysB_alike ha _) (by omega) out A c (by omega)
  have hR := ihr (ks.drop m) (cutA (some ⟨b, o, none⟩) cc m 32) (cc - m) (d + 1) (dgs_dropZ hB hm hcc) (by rw [List.length_drop]; omega) (by rw [List.length_drop]; omega) (by rw [h2]; exact keysB_ord ho _) (by rw [h2]; exact keysB_alike ha _) (by omega) (out ++ e1)
  rw [hlm, h1, he1] at hL
  rw [List.length_drop] at hR
  simp only [h2, he2] at hR
  dsimp only at hL
  have hS := Split_s ks (some ⟨b, o, none⟩) cc d m (by omega) (by omega) hm hp
  refine spec_of Tryd.func46 rfl (n := 79) rfl rfl ?_
  intro W
  change H _ _ _ _ (argsEnv 0 [.slice A out.length c, .iface 120 (.agg [.iface l.tag l.val, .iface r.tag r.val].toArray), .slice (some ⟨b, o, none⟩) ks.length cc, .int .i64 (d : Int)]) _ _
  refine h_seq ?_
  refine h_reg ?_
  refine h_op (r_assign rfl) ?_
  refine h_op (r_assign rfl) ?_
  refine h_nil ?_
  refine q_then ?_
  refine h_seq ?_
  refine h_seq ?_
  refine h_reg ?_
  refine h_op (r_move rfl) ?_
  refine h_nil ?_
  refine q_then ?_
  refine h_block ?_
  refine h_seq ?_
  refine h_reg ?_
  refine h_op (r_as2 rfl) ?_
  refine h_op (r_extract rfl rfl) ?_
  refine h_op (r_extract rfl rfl) ?_
  refine h_nil ?_
  refine q_then ?_
  refine h_condT rfl ?_
  refine h_seq ?_
  refine h_reg ?_
  refine h_opX (x_alloc) fun g10 => ?_
  refine h_opS (s_storer rfl rfl) ?_
  refine h_nil ?_
  refine q_then ?_
  refine h_seq ?_
  refine h_seq ?_
  refine h_reg ?_
  refine h_op (r_move rfl) ?_
  refine h_op (r_len rfl) ?_
  refine h_op (r_bool (r_eql rfl rfl) (decide_eq_false (by omega))) ?_
  refine h_nil ?_
  refine q_then ?_
  refine h_condF rfl ?_
  refine h_skip ?_
  refine q_then ?_
  refine h_seq ?_
  refine h_reg ?_
  refine h_op (r_move rfl) ?_
  refine h_op (r_move rfl) ?_
  refine h_call (hS.comes) rfl rfl rfl fun _ => ?_
  refine h_op (r_assign rfl) ?_
  refine h_nil ?_
  refine q_then ?_
  refine h_seq ?_
  refine ha_start [.zone false h, .blk g10 [.iface l.tag l.val, .iface r.tag r.val] 120] [] mixed (same) ?_
  refine ha_takeP 0 rfl (r_move rfl) ?_
  refine ha_takeP 1 rfl (r_idxA rfl rfl) ?_
  refine ha_take 2 rfl (r_loadc rfl) ?_
  refine ha_takeP 3 rfl (r_move rfl) ?_
  refine ha_takeP 4 rfl (r_move rfl) ?_
  refine ha_takeP 5 rfl (r_move rfl) ?_
  refine ha_takeP 6 rfl (r_slHM rfl rfl rfl) ?_
  refine ha_takeP 7 rfl (r_move rfl) ?_
  refine ha_takeP 8 rfl (r_add rfl rfl) ?_
  refine ha_one 9 ?_
  refine ho_C 9 rfl (hL.comes) rfl rfl rfl (fun _ => same) fun ⟨A36, c36⟩ => ?_
  refine ha_takeP 10 rfl (r_move rfl) ?_
  refine ha_takeP 11 rfl (r_extract rfl rfl) ?_
  refine ha_takeP 12 rfl (r_extract rfl rfl) ?_
  refine ha_takeP 13 rfl (r_assign rfl) ?_
  refine ha_takeP 14 rfl (r_assign rfl) ?_
  refine ha_done (by kernel_rfl) ?_
  refine q_then ?_
  cases b1
  · refine h_seq ?_
    refine h_seq ?_
    refine h_reg ?_
    refine h_op (r_move rfl) ?_
    refine h_op (r_not rfl) ?_
    refine h_nil ?_
    refine q_then ?_
    refine h_condT rfl ?_
    refine h_seq ?_
    refine h_reg ?_
    refine h_op (r_move rfl) ?_
    refine h_op (r_assign rfl) ?_
    refine h_op (r_assign rfl) ?_
    refine h_nil ?_
    refine q_then ?_
    refine h_ret ?_
    refine q_thenR ?_
    refine q_blockR ?_
    refine q_thenR ?_
    rw [if_neg Bool.false_ne_true]
    exact h_ret2 rfl rfl rfl fun w s => ⟨(A36, c36), rfl, (same w s).res (List.Sublist.refl _) (by simp [Fa.wr])⟩
  · refine h_seq ?_
    refine h_seq ?_
    refine h_reg ?_
    refine h_op (r_move rfl) ?_
    refine h_op (r_not rfl) ?_
    refine h_nil ?_
    refine q_then ?_
    refine h_condF rfl ?_
    refine h_skip ?_
    refine q_then ?_
    refine h_seq ?_
    rw [if_pos rfl, ← List.append_assoc]
    refine ha_start [.zone false h, .blk g10 [.iface l.tag l.val, .iface r.tag r.val] 120] [] mixed (same) ?_
    refine ha_takeP 0 rfl (r_move rfl) ?_
    refine ha_takeP 1 rfl (r_idxA rfl rfl) ?_
    refine ha_take 2 rfl (r_loadc rfl) ?_
    refine ha_takeP 3 rfl (r_move rfl) ?_
    refine ha_takeP 4 rfl (r_move rfl) ?_
    refine ha_takeP 5 rfl (r_slL rfl rfl) ?_
    refine ha_takeP 6 rfl (r_move rfl) ?_
    refine ha_takeP 7 rfl (r_add rfl rfl) ?_
    refine ha_one 8 ?_
    refine ho_C 8 rfl ((hR A36 c36 (by rw [List.length_append]; omega)).comes) rfl rfl rfl (fun _ => same) fun ⟨A50, c50⟩ => ?_
    refine ha_takeP 9 rfl (r_extract rfl rfl) ?_
    refine ha_takeP 10 rfl (r_extract rfl rfl) ?_
    refine ha_takeP 11 rfl (r_assign rfl) ?_
    refine ha_takeP 12 rfl (r_assign rfl) ?_
    refine ha_done (by kernel_rfl) ?_
    refine q_then ?_
    refine h_ret ?_
    refine q_blockR ?_
    refine q_thenR ?_
    exact h_ret2 rfl rfl rfl fun w s => ⟨(A50, c50), rfl, (same w s).res (List.Sublist.refl _) (by simp [Fa.wr])⟩
theorem ends_s : ∀ t : Sub, EndsS h t
  | .one x => fun ks B cc d _ _ hks _ _ _ out A c ho => ends_one h x ks B cc d hks out A c ho _ rfl
  | .two l r => fun ks B cc d hB hcc hks hord hal hd out A c ho => by
    cases ks with
    | nil =>
      have h1 : endsM (.two l r) [] d = ([], false) := by unfold endsM; rfl
      rw [h1, List.append_nil]
      exact ends_none h l r B cc d out A c
    | cons x ks =>
      obtain ⟨m, m1, m2, m3, m4⟩ := split_at hord hal
      have h1 : endsM (.two l r) (x :: ks) d = (if (endsM l (keysB (x :: ks) d false) (d + 1)).2 then (endsM l (keysB (x :: ks) d false) (d + 1)).1 ++ (endsM r (keysB (x :: ks) d true) (d + 1)).1 else (endsM l (keysB (x :: ks) d false) (d + 1)).1, (endsM l (keysB (x :: ks) d false) (d + 1)).2 && (endsM r (keysB (x :: ks) d true) (d + 1)).2) := by
        conv => lhs; unfold endsM
        cases (endsM l (keysB (x :: ks) d false) (d + 1)).2 <;> simp
      rw [h1]
      exact ends_two h l r (ends_s l) (ends_s r) (x :: ks) B cc d m hB hcc hks (by simp) hord hal hd m1 m2 m3 m4 out A c ho _ _ _ _ rfl rfl
end
/-! Ends -/
section
variable (h : Zh) (l : List Item) (A : Option Addr) (c : Nat) [hr : RdZ h A (its l)] (hc : l.length ≤ c) (hl : l.length ≤ 1000000) (ks : List B32) (B : Option Addr) (cc : Nat) [hB : RdZ h B (dgs ks)]
include hc hl
omit hB in
theorem Ends_form (e : Int) (hp : parseM l = .error e) (he : e ≠ 0) : Spec Tryd.prog 22 [.slice A l.length c, .slice B ks.length cc].toArray [.zone false h] [] (fun _ : Unit => .tuple #[.slice none 0 0, .int .i64 e]) (fun _ => []) := by
  have hP := parse_s h l A c hc hl
  rw [hp] at hP
  refine spec_of Tryd.func22 rfl (n := 31) rfl rfl ?_
  intro W
  refine h_seq ?_
  refine h_reg ?_
  refine h_op (r_assign rfl) ?_
  refine h_op (r_assign rfl) ?_
  refine h_nil ?_
  refine q_then ?_
  refine h_seq ?_
  refine h_reg ?_
  refine h_op (r_move rfl) ?_
  refine h_call (hP.comes) rfl rfl rfl fun _ => ?_
  refine h_op (r_move rfl) ?_
  refine h_op (r_extract rfl rfl) ?_
  refine h_op (r_extract rfl rfl) ?_
  refine h_op (r_assign rfl) ?_
  refine h_op (r_assign rfl) ?_
  refine h_nil ?_
  refine q_then ?_
  refine h_seq ?_
  refine h_seq ?_
  refine h_reg ?_
  refine h_op (r_move rfl) ?_
  refine h_op (r_eql rfl rfl) ?_
  refine h_nil ?_
  refine q_then ?_
  refine h_no rfl (he) ?_
  refine h_skip ?_
  refine q_then ?_
  refine h_seq ?_
  refine h_seq ?_
  refine h_reg ?_
  refine h_op (r_move rfl) ?_
  refine h_op (r_neq rfl rfl) ?_
  refine h_nil ?_
  refine q_then ?_
  refine h_yes rfl (he) ?_
  refine h_seq ?_
  refine h_reg ?_
  refine h_op (r_move rfl) ?_
  refine h_op (r_assign rfl) ?_
  refine h_op (r_assign rfl) ?_
  refine h_nil ?_
  refine q_then ?_
  refine h_ret ?_
  refine q_thenR ?_
  exact h_ret2 rfl rfl rfl fun w s => ⟨(), rfl, s.res (List.nil_sublist _) (by simp)⟩
theorem Ends_keys (t : Sub) (hp : parseM l = .ok t) (hk : ks.length ≤ 1000000000) (he : keysE ks ≠ 0) : Spec Tryd.prog 22 [.slice A l.length c, .slice B ks.length cc].toArray [.zone false h] [] (fun _ : Unit => .tuple #[.slice none 0 0, .int .i64 (keysE ks)]) (fun _ => []) := by
  have hP := parse_s h l A c hc hl
  rw [hp] at hP
  refine spec_of Tryd.func22 rfl (n := 31) rfl rfl ?_
  intro W
  refine h_seq ?_
  refine h_reg ?_
  refine h_op (r_assign rfl) ?_
  refine h_op (r_assign rfl) ?_
  refine h_nil ?_
  refine q_then ?_
  refine h_seq ?_
  refine h_reg ?_
  refine h_op (r_move rfl) ?_
  refine h_call (hP.comes) rfl rfl rfl fun _ => ?_
  refine h_op (r_move rfl) ?_
  refine h_op (r_extract rfl rfl) ?_
  refine h_op (r_extract rfl rfl) ?_
  refine h_op (r_assign rfl) ?_
  refine h_op (r_assign rfl) ?_
  refine h_nil ?_
  refine q_then ?_
  refine h_seq ?_
  refine h_seq ?_
  refine h_reg ?_
  refine h_op (r_move rfl) ?_
  refine h_op (r_eql rfl rfl) ?_
  refine h_nil ?_
  refine q_then ?_
  refine h_yes rfl (rfl) ?_
  refine h_reg ?_
  refine h_op (r_move rfl) ?_
  refine h_call ((mKeys_s ks B cc (by omega)).comes) rfl rfl rfl fun _ => ?_
  refine h_op (r_assign rfl) ?_
  refine h_nil ?_
  refine q_then ?_
  refine h_seq ?_
  refine h_seq ?_
  refine h_reg ?_
  refine h_op (r_move rfl) ?_
  refine h_op (r_neq rfl rfl) ?_
  refine h_nil ?_
  refine q_then ?_
  refine h_yes rfl (he) ?_
  refine h_seq ?_
  refine h_reg ?_
  refine h_op (r_move rfl) ?_
  refine h_op (r_assign rfl) ?_
  refine h_op (r_assign rfl) ?_
  refine h_nil ?_
  refine q_then ?_
  refine h_ret ?_
  refine q_thenR ?_
  exact h_ret2 rfl rfl rfl fun w s => ⟨(), rfl, s.res (List.nil_sublist _) (by simp)⟩
theorem Ends_s (t : Sub) (hp : parseM l = .ok t) (hcc : ks.length ≤ cc) (hk : ks.length ≤ 100000) (he : keysE ks = 0) (es : List (Item × Nat)) (b : Bool) (hE : endsM t ks 0 = (es, b)) : Spec Tryd.prog 22 [.slice A l.length c, .slice B ks.length cc].toArray [.zone false h] [] (fun u : Option Addr × Nat => .tuple (if b then #[.slice u.1 es.length u.2, .int .i64 0] else #[.slice none 0 0, .int .i64 12])) (fun u => if b then [.own (.slice u.1 es.length u.2) es.length 62 98 (endC es)] else []) := by
  have hP := parse_s h l A c hc hl
  rw [hp] at hP
  obtain ⟨h1, h2, h3⟩ := keysE_ok he
  have hK := mKeys_s ks B cc (by omega)
  rw [he] at hK
  have hht := (parse_flat hp).2.2
  have hA := ends_s h t ks B cc 0 hB hcc hk h3 (fun _ _ _ _ i hi => absurd hi (by omega)) (by omega) [] none 0 (by simp; omega)
  rw [hE] at hA
  simp only [List.nil_append, List.length_nil] at hA
  refine spec_of Tryd.func22 rfl (n := 31) rfl rfl ?_
  intro W
  refine h_seq ?_
  refine h_reg ?_
  refine h_op (r_assign rfl) ?_
  refine h_op (r_assign rfl) ?_
  refine h_nil ?_
  refine q_then ?_
  refine h_seq ?_
  refine h_reg ?_
  refine h_op (r_move rfl) ?_
  refine h_call (hP.comes) rfl rfl rfl fun _ => ?_
  refine h_op (r_move rfl) ?_
  refine h_op (r_extract rfl rfl) ?_
  refine h_op (r_extract rfl rfl) ?_
  refine h_op (r_assign rfl) ?_
  refine h_op (r_assign rfl) ?_
  refine h_nil ?_
  refine q_then ?_
  refine h_seq ?_
  refine h_seq ?_
  refine h_reg ?_
  refine h_op (r_move rfl) ?_
  refine h_op (r_eql rfl rfl) ?_
  refine h_nil ?_
  refine q_then ?_
  refine h_yes rfl (rfl) ?_
  refine h_reg ?_
  refine h_op (r_move rfl) ?_
  refine h_call (hK.comes) rfl rfl rfl fun _ => ?_
  refine h_op (r_assign rfl) ?_
  refine h_nil ?_
  refine q_then ?_
  refine h_seq ?_
  refine h_seq ?_
  refine h_reg ?_
  refine h_op (r_move rfl) ?_
  refine h_op (r_neq rfl rfl) ?_
  refine h_nil ?_
  refine q_then ?_
  refine h_no rfl ((fun h => h rfl)) ?_
  refine h_skip ?_
  refine q_then ?_
  refine h_seq ?_
  refine h_reg ?_
  refine h_op (r_move rfl) ?_
  refine h_op (r_move rfl) ?_
  refine h_nil_own 62 98 (xs := endC []) rfl ?_
  refine h_call (hA.comes) rfl rfl rfl fun ⟨A25, c25⟩ => ?_
  cases b
  · refine h_op (r_move rfl) ?_
    refine h_op (r_extract rfl rfl) ?_
    refine h_op (r_extract rfl rfl) ?_
    refine h_op (r_assign rfl) ?_
    refine h_op (r_assign rfl) ?_
    refine h_nil ?_
    refine q_then ?_
    refine h_seq ?_
    refine h_seq ?_
    refine h_reg ?_
    refine h_op (r_move rfl) ?_
    refine h_op (r_not rfl) ?_
    refine h_nil ?_
    refine q_then ?_
    refine h_condT rfl ?_
    refine h_seq ?_
    refine h_reg ?_
    refine h_op (r_assign rfl) ?_
    refine h_op (r_assign rfl) ?_
    refine h_nil ?_
    refine q_then ?_
    refine h_ret ?_
    refine q_thenR ?_
    exact h_ret2 rfl rfl rfl fun w s => ⟨(none, 0), rfl, s.res (List.nil_sublist _) (by simp)⟩
  · refine h_op (r_move rfl) ?_
    refine h_op (r_extract rfl rfl) ?_
    refine h_op (r_extract rfl rfl) ?_
    refine h_op (r_assign rfl) ?_
    refine h_op (r_assign rfl) ?_
    refine h_nil ?_
    refine q_then ?_
    refine h_seq ?_
    refine h_seq ?_
    refine h_reg ?_
    refine h_op (r_move rfl) ?_
    refine h_op (r_not rfl) ?_
    refine h_nil ?_
    refine q_then ?_
    refine h_condF rfl ?_
    refine h_skip ?_
    refine q_then ?_
    refine h_seq ?_
    refine h_reg ?_
    refine h_op (r_move rfl) ?_
    refine h_op (r_assign rfl) ?_
    refine h_op (r_assign rfl) ?_
    refine h_nil ?_
    refine q_then ?_
    refine h_ret ?_
    exact h_ret2 rfl rfl rfl fun w s => ⟨(A25, c25), rfl, (same (L' := [.own (.slice A25 es.length c25) es.length 62 98 (endC es)]) w s).res (List.Sublist.refl _) (by simp [Fa.wr])⟩
end
end Go.Proofs.YtgfkbeipckbkiaaDoor
/- U79 -/
namespace Go.Proofs.YtgfkbeipckbkiaaDoor
set_option linter.unusedSimpArgs false
set_option linter.unusedVariables false
open Go.RowKit
theorem itemFields' : ∃ f1 f2 f3 : Field, Tryd.prog.underlying 45 = some (.struct #[f1, f2, f3]) ∧ (f1.name == "_") = false ∧ (f2.name == "_") = false ∧ (f3.name == "_") = false ∧ f1.type = 3 ∧ f2.type = 41 ∧ f3.type = 43 ∧ f1.offset = 0 ∧ f2.offset = 1 ∧ f3.offset = 33 :=
  ⟨_, _, _, Tryd.underlying45, by decide, by decide, by decide, rfl, rfl, rfl, rfl, rfl, rfl⟩
theorem eqItem' {w : World} (d : Nat) (x y : Item) : (Op.equalIn (d + 4) 45 (.agg x.cells.toArray) (.agg y.cells.toArray)).run Tryd.prog w = .ok (decide (x = y)) w := by
  obtain ⟨f1, f2, f3, hT, m1, m2, m3, t1, t2, t3, o1, o2, o3⟩ := itemFields'
  exact eq_Item d hT Tryd.stoodInHeld45 m1 m2 m3 t1 t2 t3 o1 o2 o3 Tryd.underlying3 Tryd.underlying41 Tryd.underlying5 (by kernel_rfl) (by kernel_rfl) (eqLeaf' d) Tryd.underlying43 rfl (by kernel_rfl) x y
instance (x y : Item) : TEq Tryd.prog 45 x.cells y.cells (decide (x = y)) := ⟨fun w d => eqItem' (d + 2) x y, Tryd.eqGuardType45⟩
theorem its_item {l : List Item} {k : Nat} {x : Item} (h : l[k]? = some x) : ∀ j v, x.cells[j]? = some v → (its l)[k * 97 + j]? = some v := its_at h
theorem Few19_s (l : List Item) (A : Option Addr) (c : Nat) : Spec Tryd.prog 15 [.slice A l.length c].toArray [] [] (fun _ : Unit => .int .i64 (if l.length ≤ 1200 then 1 else 0)) (fun _ => []) := by
  refine spec_of Tryd.func15 rfl (n := 6) rfl rfl ?_
  intro W
  by_cases h : l.length ≤ 1200
  · rw [if_pos h]
    refine h_seq ?_
    refine h_reg ?_
    refine h_op (r_assign rfl) ?_
    refine h_nil ?_
    refine q_then ?_
    refine h_seq ?_
    refine h_seq ?_
    refine h_reg ?_
    refine h_op (r_move rfl) ?_
    refine h_op (r_len rfl) ?_
    refine h_op (r_gtr rfl rfl) ?_
    refine h_nil ?_
    refine q_then ?_
    refine h_no rfl ((by omega)) ?_
    refine h_skip ?_
    refine q_then ?_
    refine h_seq ?_
    refine h_reg ?_
    refine h_op (r_assign rfl) ?_
    refine h_nil ?_
    refine q_then ?_
    refine h_ret ?_
    exact h_ret1 rfl rfl fun w s => ⟨(), rfl, s.res (List.nil_sublist _) (by simp)⟩
  · rw [if_neg h]
    refine h_seq ?_
    refine h_reg ?_
    refine h_op (r_assign rfl) ?_
    refine h_nil ?_
    refine q_then ?_
    refine h_seq ?_
    refine h_seq ?_
    refine h_reg ?_
    refine h_op (r_move rfl) ?_
    refine h_op (r_len rfl) ?_
    refine h_op (r_gtr rfl rfl) ?_
    refine h_nil ?_
    refine q_then ?_
    refine h_yes rfl ((by omega)) ?_
    refine h_seq ?_
    refine h_reg ?_
    refine h_op (r_assign rfl) ?_
    refine h_nil ?_
    refine q_then ?_
    refine h_ret ?_
    refine q_thenR ?_
    exact h_ret1 rfl rfl fun w s => ⟨(), rfl, s.res (List.nil_sublist _) (by simp)⟩
end Go.Proofs.YtgfkbeipckbkiaaDoor
/- U39 -/
namespace Go.Proofs.YtgfkbeipckbkiaaDoor
set_option linter.unusedSimpArgs false
set_option linter.unusedVariables false
open Go.RowKit
end Go.Proofs.YtgfkbeipckbkiaaDoor
/- U40 -/
namespace Go.Proofs.YtgfkbeipckbkiaaDoor
set_option linter.unusedSimpArgs false
set_option linter.unusedVariables false
open Go.RowKit
theorem rValue_s (l : List UInt8) (B : Option Addr) (c : Nat) (hB : B = none → l.length = 0 ∧ c = 0) (hl : l.length ≤ 100000000) : Spec Tryd.prog 64 [.slice B l.length c].toArray [.rd B (bc l)] [] (fun u : Nat × Nat => .slice (some ⟨u.1, 0, none⟩) (preV l).length u.2) (fun u => [.own (.slice (some ⟨u.1, 0, none⟩) (preV l).length u.2) (preV l).length 5 1 (bc (preV l))]) := by
  have e : [(2 : UInt8)] ++ l = preV l := rfl
  refine spec_of Tryd.func64 rfl (n := 6) rfl rfl ?_
  intro W
  refine h_seq ?_
  refine h_reg ?_
  refine h_op (r_assign rfl) ?_
  refine h_nil ?_
  refine q_then ?_
  refine h_seq ?_
  refine h_reg ?_
  refine h_opX (x_bslV (ys := [.int .u8 2]) (bc [2]) rfl rfl (bc_one _)) fun g3 => ?_
  refine h_op (r_move rfl) ?_
  refine h_opX (x_appAB rfl rfl hB rfl (N' := (preV l).length) (hN := Nat.add_comm _ _)) fun ⟨A5, c5⟩ => ?_
  refine h_pure (φ := ∃ g, A5 = some ⟨g, 0, none⟩) (fun w s => s.ownSome (N := (preV l).length) (c := c5) (Nat.succ_pos _)) ?_
  rintro ⟨g, rfl⟩
  rw [e]
  refine h_op (r_assign rfl) ?_
  refine h_nil ?_
  refine q_then ?_
  refine h_ret ?_
  exact h_ret1 rfl rfl fun w s => ⟨(g, c5), rfl, (same w s).res (List.Sublist.refl _) (by simp [Fa.wr])⟩
theorem rLeafOf_s (n : Nat) (hn : n ≤ 256) (key : B32) (l : List UInt8) (B : Option Addr) (c : Nat) (hB : B = none → l.length = 0 ∧ c = 0) (hl : l.length ≤ 100000000) : Spec Tryd.prog 38 [.int .i64 (n : Int), .agg key.cells.toArray, .slice B l.length c].toArray [.rd B (bc l)] [] (fun _ : Unit => .agg (leafOf n key l).cells.toArray) (fun _ => []) := by
  have hpl : (preV l).length = l.length + 1 := rfl
  refine spec_of Tryd.func38 rfl (n := 13) rfl rfl ?_
  intro W
  refine h_seq ?_
  refine h_reg ?_
  refine h_opX (x_box rfl) fun g4 => ?_
  refine h_opX (x_alloc) fun g6 => ?_
  refine h_nil ?_
  refine q_then ?_
  refine h_seq ?_
  refine ha_start [.blk g4 key.cells 40] [] mixed (same) ?_
  refine ha_take 0 rfl (r_loadr rfl) ?_
  refine ha_takeP 1 rfl (r_move rfl) ?_
  refine ha_takeP 2 rfl (r_move rfl) ?_
  refine ha_one 3 ?_
  refine ho_C 3 rfl ((rValue_s l B c hB hl).comes) rfl rfl rfl (fun _ => same) fun ⟨g10, c10⟩ => ?_
  refine ha_one 4 ?_
  refine ho_C 4 rfl ((refSum5_s n hn (preV l) (some ⟨g10, 0, none⟩) c10 (fun h => by cases h) (by omega)).comes) rfl rfl rfl (fun _ => same) fun _ => ?_
  refine ha_takeP 5 rfl (r_build rfl) ?_
  refine ha_one 6 ?_
  refine ho_SL 6 rfl (s_storer rfl rfl) ?_
  refine q_then ?_
  refine h_ret ?_
  exact h_ret1 rfl (rv_row rfl) fun w s => ⟨(), rfl, s.res (List.nil_sublist _) (by simp)⟩
theorem ents_key0 (e : En) : ∀ j v, e.key.cells[j]? = some v → (ents [e])[0 + j]? = some v := fun j v hv => by have := ents_key (l := [e]) (k := 0) rfl j v hv; rwa [Nat.zero_mul] at this
theorem ents_val0 (e : En) : (ents [e])[32]? = some (.slice e.e.value.A e.e.value.n e.e.value.c) := by have := ents_val (l := [e]) (k := 0) rfl; rwa [Nat.zero_mul, Nat.zero_add] at this
/-- each value of the entries is held -/
def ValsZ (h : Zh) (m : List En) : Prop := ∀ e ∈ m, SlZ h e.e.value e.val ∧ e.val.length ≤ 10000000
theorem ValsZ.part {h : Zh} {m : List En} (x : ValsZ h m) (d : Nat) (b : Bool) : ValsZ h (part m d b) := fun e he => x e (part_mem.1 he).1
theorem ValsZ.mono {h h' : Zh} (hl : LeZ h h') {m : List En} (x : ValsZ h m) : ValsZ h' m := fun e he => ⟨(x e he).1.mono hl, (x e he).2⟩
theorem Root_any (n : Nat) (hn : n ≤ 256) (h : Zh) {m : List En} {d : Nat} (hd : d ≤ 256) (ha : Alike m d) : m.length ≤ 1000000 → ValsZ h m → ∀ (B : Option Addr) (c : Nat), Spec Tryd.prog 37 [.int .i64 (n : Int), .slice B m.length c, .int .i64 (d : Int)].toArray [.rd B (ents m), .zone false h] [] (fun _ : Unit => .agg (rootM n m d).cells.toArray) (fun _ => []) := by
  refine parts_ind (p := fun m d => m.length ≤ 1000000 → ValsZ h m → ∀ (B : Option Addr) (c : Nat), Spec Tryd.prog 37 [.int .i64 (n : Int), .slice B m.length c, .int .i64 (d : Int)].toArray [.rd B (ents m), .zone false h] [] (fun _ : Unit => .agg (rootM n m d).cells.toArray) (fun _ => [])) ?_ ?_ ?_ (256 - d) m d (Nat.le_refl _) hd ha
  · intro d _ _ B c
    rw [rootM_nil]
    refine spec_of Tryd.func37 rfl (n := 49) rfl rfl ?_
    intro W
    refine h_seq ?_
    refine h_reg ?_
    refine h_opX (x_alloc) fun g6 => ?_
    refine h_nil ?_
    refine q_then ?_
    refine h_seq ?_
    refine h_seq ?_
    refine h_reg ?_
    refine h_op (r_move rfl) ?_
    refine h_op (r_len rfl) ?_
    refine h_op (r_bool (r_eql rfl rfl) (show _ = true by simp)) ?_
    refine h_nil ?_
    refine q_then ?_
    refine h_condT rfl ?_
    refine h_seq ?_
    refine h_reg ?_
    refine h_op (r_move rfl) ?_
    refine h_call ((rEmpty_s n hn).comes) rfl rfl rfl fun _ => ?_
    refine h_opS (s_storer rfl rfl) ?_
    refine h_nil ?_
    refine q_then ?_
    refine h_ret ?_
    refine q_thenR ?_
    exact h_ret1 rfl (rv_row rfl) fun w s => ⟨(), rfl, s.res (List.nil_sublist _) (by simp)⟩
  · intro e d hd _ hv B c
    rw [rootM_one n e hd]
    obtain ⟨hs, hvl⟩ := hv e (by simp)
    obtain ⟨⟨key, A, N, cc⟩, b⟩ := e
    obtain rfl : N = b.length := hs.len
    have hA : A = none → b.length = 0 ∧ cc = 0 := hs.nil
    have hrd : RdZ h A (bc b) := hs.rd
    dsimp only at hvl
    refine spec_of Tryd.func37 rfl (n := 49) rfl rfl ?_
    intro W
    refine h_seq ?_
    refine h_reg ?_
    refine h_opX (x_alloc) fun g6 => ?_
    refine h_nil ?_
    refine q_then ?_
    refine h_seq ?_
    refine h_seq ?_
    refine h_reg ?_
    refine h_op (r_move rfl) ?_
    refine h_op (r_len rfl) ?_
    refine h_op (r_bool (r_eql rfl rfl) (show _ = false by simp)) ?_
    refine h_nil ?_
    refine q_then ?_
    refine h_condF rfl ?_
    refine h_skip ?_
    refine q_then ?_
    refine h_seq ?_
    refine h_seq ?_
    refine h_reg ?_
    refine h_op (r_move rfl) ?_
    refine h_op (r_len rfl) ?_
    refine h_op (r_bool (r_eql rfl rfl) (show _ = true by simp)) ?_
    refine h_nil ?_
    refine q_then ?_
    refine h_condT rfl ?_
    refine h_pure (φ := ∃ b o, B = some ⟨b, o, none⟩) (fun w s => Rd.some (s.ok (.rd B (ents [⟨⟨key, ⟨A, b.length, cc⟩⟩, b⟩])) (by simp)) (by rw [ents_len]; exact Nat.zero_lt_succ _)) ?_
    rintro ⟨bb, o, rfl⟩
    refine h_seq ?_
    refine ha_start [.rd (some ⟨bb, o, none⟩) (ents [⟨⟨key, ⟨A, b.length, cc⟩⟩, b⟩])] [] mixed (same) ?_
    refine ha_takeP 0 rfl (r_move rfl) ?_
    refine ha_takeP 1 rfl (r_move rfl) ?_
    refine ha_takeP 2 rfl (r_move rfl) ?_
    refine ha_takeP 3 rfl (r_idx rfl rfl (hm := by simp)) ?_
    refine ha_takeP 4 rfl (r_field rfl) ?_
    refine ha_take 5 rfl (r_nthr rfl (out := key.cells) (B32.cells_length _) (ents_key0 ⟨⟨key, ⟨A, b.length, cc⟩⟩, b⟩)) ?_
    refine ha_takeP 6 rfl (r_move rfl) ?_
    refine ha_takeP 7 rfl (r_idx rfl rfl (hm := by simp)) ?_
    refine ha_takeP 8 rfl (r_field rfl) ?_
    refine ha_take 9 rfl (r_nth rfl (ents_val0 ⟨⟨key, ⟨A, b.length, cc⟩⟩, b⟩)) ?_
    refine ha_one 10 ?_
    refine ho_C 10 rfl ((rLeafOf_s n hn key b A cc hA (by omega)).comes) rfl rfl rfl (fun _ => same) fun _ => ?_
    refine ha_one 11 ?_
    refine ho_C 11 rfl ((rLeaf_s (leafOf n key b)).comes) rfl rfl rfl (fun _ => same) fun ⟨g28, c28⟩ => ?_
    refine ha_one 12 ?_
    refine ho_C 12 rfl ((refSum5_s n hn (preL (leafOf n key b)) (some ⟨g28, 0, none⟩) c28 (fun h => by cases h) (by rw [preL_len]; decide)).comes) rfl rfl rfl (fun _ => same) fun _ => ?_
    refine ha_one 13 ?_
    refine ho_SL 13 rfl (s_storer rfl rfl) ?_
    refine q_then ?_
    refine h_ret ?_
    refine q_thenR ?_
    exact h_ret1 rfl (rv_row rfl) fun w s => ⟨(), rfl, s.res (List.nil_sublist _) (by simp)⟩
  · intro m d ha hm hd i1 i2 hl hv B c
    have p1 := part_le m d false
    have p2 := part_le m d true
    rw [rootM_two n hm (by omega)]
    refine spec_of Tryd.func37 rfl (n := 49) rfl rfl ?_
    intro W
    refine h_seq ?_
    refine h_reg ?_
    refine h_opX (x_alloc) fun g6 => ?_
    refine h_nil ?_
    refine q_then ?_
    refine h_seq ?_
    refine h_seq ?_
    refine h_reg ?_
    refine h_op (r_move rfl) ?_
    refine h_op (r_len rfl) ?_
    refine h_op (r_eql rfl rfl) ?_
    refine h_nil ?_
    refine q_then ?_
    refine h_no rfl ((by omega)) ?_
    refine h_skip ?_
    refine q_then ?_
    refine h_seq ?_
    refine h_seq ?_
    refine h_reg ?_
    refine h_op (r_move rfl) ?_
    refine h_op (r_len rfl) ?_
    refine h_op (r_eql rfl rfl) ?_
    refine h_nil ?_
    refine q_then ?_
    refine h_no rfl ((by omega)) ?_
    refine h_skip ?_
    refine q_then ?_
    refine h_seq ?_
    refine h_reg ?_
    refine h_op (r_move rfl) ?_
    refine h_op (r_move rfl) ?_
    refine h_op (r_move rfl) ?_
    refine h_call ((Part_s m B c d false hd (by omega)).comes) rfl rfl rfl fun ⟨A33, c33⟩ => ?_
    refine h_op (r_move rfl) ?_
    refine h_op (r_add rfl rfl) ?_
    refine h_call ((i1 (by omega) (hv.part d false) A33 c33).comes) rfl rfl rfl fun _ => ?_
    refine h_opX (x_alloc) fun g7 => ?_
    refine h_opS (s_storer rfl rfl) ?_
    refine h_nil ?_
    refine q_then ?_
    refine h_seq ?_
    refine h_reg ?_
    refine h_op (r_move rfl) ?_
    refine h_op (r_move rfl) ?_
    refine h_op (r_move rfl) ?_
    refine h_call ((Part_s m B c d true hd (by omega)).comes) rfl rfl rfl fun ⟨A40, c40⟩ => ?_
    refine h_op (r_move rfl) ?_
    refine h_op (r_add rfl rfl) ?_
    refine h_call ((i2 (by omega) (hv.part d true) A40 c40).comes) rfl rfl rfl fun _ => ?_
    refine h_opX (x_alloc) fun g8 => ?_
    refine h_opS (s_storer rfl rfl) ?_
    refine h_nil ?_
    refine q_then ?_
    refine h_seq ?_
    refine h_reg ?_
    refine h_op (r_move rfl) ?_
    refine h_op (r_loadr rfl) ?_
    refine h_op (r_loadr rfl) ?_
    refine h_call ((rNode_s (rootM n (part m d false) (d + 1)) (rootM n (part m d true) (d + 1))).comes) rfl rfl rfl fun ⟨g47, c47⟩ => ?_
    refine h_call ((refSum5_s n hn (preN (rootM n (part m d false) (d + 1)) (rootM n (part m d true) (d + 1))) (some ⟨g47, 0, none⟩) c47 (fun h => by cases h) (by rw [preN_len]; decide)).comes) rfl rfl rfl fun _ => ?_
    refine h_opS (s_storer rfl rfl) ?_
    refine h_nil ?_
    refine q_then ?_
    refine h_ret ?_
    exact h_ret1 rfl (rv_row rfl) fun w s => ⟨(), rfl, s.res (List.nil_sublist _) (by simp)⟩
end Go.Proofs.YtgfkbeipckbkiaaDoor
/- U41 -/
namespace Go.Proofs.YtgfkbeipckbkiaaDoor
set_option linter.unusedSimpArgs false
set_option linter.unusedVariables false
open Go.RowKit
theorem ValsZ.of {h : Zh} {l : List En} (x : ValsZ h l) : ValsZ h (ofM l) := fun e he => x e (ofM_mem he)
end Go.Proofs.YtgfkbeipckbkiaaDoor
