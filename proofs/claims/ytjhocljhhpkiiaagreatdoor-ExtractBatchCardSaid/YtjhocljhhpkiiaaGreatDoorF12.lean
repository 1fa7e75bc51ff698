/- multiproofs: the reference's Check; multiproofs: Root; the reference's Digest and Preimage; Multiproofs as the flat lists of their subtrees: plain; key.Split; multi.add; The reference's view of the keys below a prefix; heights, sizes: plain; multiproofs: the reference's Digest and Preimage; The subtrees on the way of a key, where they stand: plain; multiproofs: the reference's Way; multi: the ends of keys (joined texts: U66 U67 E18 U70 U71 E19 U68 E21 U76 U75) -/
import Derived.Test.YtjhocljhhpkiiaaGreatDoorF11
set_option linter.all false
/- U66 -/
namespace Go.Proofs.YtjhocljhhpkiiaaGreatDoor
open Go.RowKit
theorem its_dg {l : List Item} {k : Nat} {x : Item} (h : l[k]? = some x) : ∀ j v, x.digest.cells[j]? = some v → (its l)[k * 97 + 1 + j]? = some v := fun j v hv => by
 have := its_at h (1 + j) v (by
  show (.int .i64 x.kind :: (x.digest.cells ++ x.leaf.cells))[1 + j]? = some v
  rw [Nat.add_comm, List.getElem?_cons_succ, List.getElem?_append_left (List.getElem?_eq_some_iff.1 hv).1]
  exact hv)
 rwa [Nat.add_assoc]
theorem its_lf {l : List Item} {k : Nat} {x : Item} (h : l[k]? = some x) : ∀ j v, x.leaf.cells[j]? = some v → (its l)[k * 97 + 33 + j]? = some v := fun j v hv => by
 have := its_at h (33 + j) v (by
  show (.int .i64 x.kind :: (x.digest.cells ++ x.leaf.cells))[33 + j]? = some v
  rw [show 33 + j = (32 + j) + 1 by omega, List.getElem?_cons_succ, List.getElem?_append_right (by rw [B32.cells_length]; omega), B32.cells_length, Nat.add_sub_cancel_left]
  exact hv)
 rwa [Nat.add_assoc]
theorem all_bad {α : Type} {p : α → Bool} {l : List α} {k : Nat} {x : α} (h : l[k]? = some x) (hp : p x = false) : ¬ l.all p = true := fun ha => by
 have := List.all_eq_true.1 ha x (List.mem_of_getElem? h)
 rw [hp] at this
 cases this
theorem rCheck19_s (l : List Item) (A : Option Addr) (c : Nat) (hl : l.length ≤ 1000000) : Spec Tryz.prog 40 [.slice A l.length c].toArray [.rd A (its l)] [] (fun _ : Unit => .int .i64 (checkM l)) (fun _ => []) := by
 rw [checkM_eq]
 have hSk := Skip_s l A c hl 256 (Nat.le_refl _) 0
 rw [List.drop_zero, show (256 - ((256 : Nat) : Int)) = 0 from rfl] at hSk
 refine spec_of Tryz.func40 rfl (n := 75) rfl rfl ?_
 intro W
 refine yR ?_
 refine yS rfl ?_
 refine yN ?_
 refine yR ?_
 refine h_opX (x_alloc) fun g3 => ?_
 refine yN ?_
 refine yR ?_
 refine h_opX (x_alloc) fun g4 => ?_
 refine yN ?_
 refine h_seq ?_
 refine yR ?_
 refine yS rfl ?_
 refine yN ?_
 refine h_block ?_
 refine h_loop (fun (k : Nat) => k ≤ l.length ∧ (l.take k).all kindOk = true) (fun (k : Nat) => [(5, .int .i64 (k : Int)), (0, .slice A l.length c), (3, .pointer (some ⟨g3, 0, none⟩)), (4, .pointer (some ⟨g4, 0, none⟩))]) (fun (k : Nat) => [.blk g4 zLeaf.cells 51, .blk g3 zB32.cells 42, .rd A (its l)]) (fun (k : Nat) => l.length - k) 0 (⟨Nat.zero_le _, rfl⟩) ⟨rfl, rfl, rfl, rfl, trivial⟩ (same) ?_
 rintro k ⟨hk, hok⟩
 refine h_seq ?_
 refine yR ?_
 refine yM rfl ?_
 refine yM rfl ?_
 refine h_op (r_len rfl) ?_
 refine h_op (r_lss rfl rfl) ?_
 refine yN ?_
 refine h_cond rfl (fun hlt => ?_) (fun hlt => ?_)
 ·have hk2 : k < l.length := by omega
  obtain ⟨x, hx⟩ : ∃ x, l[k]? = some x := ⟨_, List.getElem?_eq_getElem hk2⟩
  have hki := its_kind hx
  have hak := all_take kindOk l k x hx
  rw [hok, Bool.true_and] at hak
  refine h_pure (φ := ∃ b o, A = some ⟨b, o, none⟩) (fun w s => Rd.some (s.ok (.rd A (its l)) (by simp)) (by rw [its_len]; omega)) ?_
  rintro ⟨b, o, rfl⟩
  by_cases h1 : x.kind < 0
  ·rw [if_neg (all_bad hx (by unfold kindOk; simp; omega))]
   refine h_skip ?_
   refine q_then ?_
   refine h_seq ?_
   refine h_block ?_
   refine yR ?_
   refine yM rfl ?_
   refine yM rfl ?_
   refine h_op (r_idx rfl rfl) ?_
   refine h_op (r_field rfl) ?_
   refine h_op (r_nth rfl hki) ?_
   refine h_op (r_bool (r_lss rfl rfl) (decide_eq_true h1)) ?_
   refine yM rfl ?_
   refine h_opOff ?_
   refine h_opOff ?_
   refine h_opOff ?_
   refine h_opOff ?_
   refine h_opOff ?_
   refine h_opOff ?_
   refine h_op (r_pick rfl rfl) ?_
   refine yN ?_
   refine h_condT rfl ?_
   refine yR ?_
   refine yS rfl ?_
   refine yN ?_
   refine h_ret ?_
   refine q_blockR ?_
   refine q_thenR ?_
   refine q_thenR ?_
   refine q_blockR ?_
   refine q_thenR ?_
   exact h_ret1 rfl rfl fun w s => ⟨(), rfl, s.res (List.nil_sublist _) (by simp)⟩
  ·by_cases h2 : 3 < x.kind
   ·rw [if_neg (all_bad hx (by unfold kindOk; simp; omega))]
    refine h_skip ?_
    refine q_then ?_
    refine h_seq ?_
    refine h_block ?_
    refine yR ?_
    refine yM rfl ?_
    refine yM rfl ?_
    refine h_op (r_idx rfl rfl) ?_
    refine h_op (r_field rfl) ?_
    refine h_op (r_nth rfl hki) ?_
    refine h_op (r_bool (r_lss rfl rfl) (decide_eq_false h1)) ?_
    refine yM rfl ?_
    refine yM rfl ?_
    refine yM rfl ?_
    refine h_op (r_idx rfl rfl) ?_
    refine h_op (r_field rfl) ?_
    refine h_op (r_nth rfl hki) ?_
    refine h_op (r_bool (r_gtr rfl rfl) (decide_eq_true h2)) ?_
    refine h_op (r_pick rfl rfl) ?_
    refine yN ?_
    refine h_condT rfl ?_
    refine yR ?_
    refine yS rfl ?_
    refine yN ?_
    refine h_ret ?_
    refine q_blockR ?_
    refine q_thenR ?_
    refine q_thenR ?_
    refine q_blockR ?_
    refine q_thenR ?_
    exact h_ret1 rfl rfl fun w s => ⟨(), rfl, s.res (List.nil_sublist _) (by simp)⟩
   ·have hok' : (l.take (k + 1)).all kindOk = true := by rw [hak]; unfold kindOk; simp; omega
    refine h_skip ?_
    refine q_then ?_
    refine h_seq ?_
    refine h_block ?_
    refine yR ?_
    refine yM rfl ?_
    refine yM rfl ?_
    refine h_op (r_idx rfl rfl) ?_
    refine h_op (r_field rfl) ?_
    refine h_op (r_nth rfl hki) ?_
    refine h_op (r_bool (r_lss rfl rfl) (decide_eq_false h1)) ?_
    refine yM rfl ?_
    refine yM rfl ?_
    refine yM rfl ?_
    refine h_op (r_idx rfl rfl) ?_
    refine h_op (r_field rfl) ?_
    refine h_op (r_nth rfl hki) ?_
    refine h_op (r_bool (r_gtr rfl rfl) (decide_eq_false h2)) ?_
    refine h_op (r_pick rfl rfl) ?_
    refine yN ?_
    refine h_condF rfl ?_
    refine h_skip ?_
    refine q_block ?_
    refine q_then ?_
    refine h_reg ?_
    refine yM rfl ?_
    refine h_op (r_add rfl rfl) ?_
    refine yS rfl ?_
    refine h_nil ?_
    exact h_back (k + 1) (⟨hk2, hok'⟩) (by omega) ⟨rfl, rfl, rfl, rfl, trivial⟩ (same)
 ·obtain rfl : k = l.length := by omega
  rw [List.take_length] at hok
  rw [if_pos hok]
  refine h_exit ?_
  refine q_thenE ?_
  refine q_thenE ?_
  refine q_blockE ?_
  refine q_then ?_
  refine h_seq ?_
  refine yR ?_
  refine yS rfl ?_
  refine yN ?_
  refine h_block ?_
  refine h_loop (fun (k : Nat) => k ≤ l.length ∧ (l.take k).all cleanItem = true) (fun (k : Nat) => [(6, .int .i64 (k : Int)), (0, .slice A l.length c), (3, .pointer (some ⟨g3, 0, none⟩)), (4, .pointer (some ⟨g4, 0, none⟩))]) (fun (k : Nat) => [.blk g4 zLeaf.cells 51, .blk g3 zB32.cells 42, .rd A (its l)]) (fun (k : Nat) => l.length - k) 0 (⟨Nat.zero_le _, rfl⟩) ⟨rfl, rfl, rfl, rfl, trivial⟩ (same) ?_
  rintro k ⟨hk, hcl⟩
  refine h_seq ?_
  refine yR ?_
  refine yM rfl ?_
  refine yM rfl ?_
  refine h_op (r_len rfl) ?_
  refine h_op (r_lss rfl rfl) ?_
  refine yN ?_
  refine h_cond rfl (fun hlt => ?_) (fun hlt => ?_)
  ·have hk2 : k < l.length := by omega
   obtain ⟨x, hx⟩ : ∃ x, l[k]? = some x := ⟨_, List.getElem?_eq_getElem hk2⟩
   have hki := its_kind hx
   have hdg := its_dg hx
   have hlf := its_lf hx
   have hac := all_take cleanItem l k x hx
   rw [hcl, Bool.true_and] at hac
   refine h_pure (φ := ∃ b o, A = some ⟨b, o, none⟩) (fun w s => Rd.some (s.ok (.rd A (its l)) (by simp)) (by rw [its_len]; omega)) ?_
   rintro ⟨b, o, rfl⟩
   refine h_skip ?_
   refine q_then ?_
   refine h_seq ?_
   refine h_block ?_
   refine h_seq ?_
   by_cases h3 : x.kind = 3
   ·by_cases hz : x.leaf = zLeaf
    ·have hok' : (l.take (k + 1)).all cleanItem = true := by rw [hac, clean3 h3, decide_eq_true hz]
     refine ha_start [.blk g4 zLeaf.cells 51, .blk g3 zB32.cells 42, .rd (some ⟨b, o, none⟩) (its l)] [] mixed (same) ?_
     refine ha_takeP 0 rfl (r_move rfl) ?_
     refine ha_takeP 1 rfl (r_move rfl) ?_
     refine ha_takeP 2 rfl (r_idx rfl rfl) ?_
     refine ha_takeP 3 rfl (r_field rfl) ?_
     refine ha_take 4 rfl (r_nth rfl hki) ?_
     refine ha_takeP 5 rfl (r_bool (r_neq rfl rfl) (decide_eq_false (fun h => h h3))) ?_
     refine ha_takeP 6 rfl (r_move rfl) ?_
     refine ha_off 7 rfl ?_
     refine ha_off 8 rfl ?_
     refine ha_off 9 rfl ?_
     refine ha_off 10 rfl ?_
     refine ha_off 11 rfl ?_
     refine ha_off 12 rfl ?_
     refine ha_off 13 rfl ?_
     refine ha_takeP 14 rfl (r_pick rfl rfl) ?_
     refine ha_takeP 15 rfl (r_move rfl) ?_
     refine ha_takeP 16 rfl (r_move rfl) ?_
     refine ha_takeP 17 rfl (r_move rfl) ?_
     refine ha_takeP 18 rfl (r_idx rfl rfl) ?_
     refine ha_takeP 19 rfl (r_field rfl) ?_
     refine ha_take 20 rfl (r_nth rfl hki) ?_
     refine ha_takeP 21 rfl (r_bool (r_neq rfl rfl) (decide_eq_true (by omega))) ?_
     refine ha_takeP 22 rfl (r_move rfl) ?_
     refine ha_takeP 23 rfl (r_move rfl) ?_
     refine ha_takeP 24 rfl (r_move rfl) ?_
     refine ha_takeP 25 rfl (r_idx rfl rfl) ?_
     refine ha_takeP 26 rfl (r_field rfl (O' := o + (k * 97 + 33)) (by omega)) ?_
     refine ha_take 27 rfl (r_nthr rfl (out := x.leaf.cells) (Leaf.cells_length _) hlf) ?_
     refine ha_take 28 rfl (r_loadr rfl) ?_
     refine ha_takeP 29 rfl (r_bool (r_ner rfl rfl) (decide_eq_false (fun h => h hz))) ?_
     refine ha_takeP 30 rfl (r_pick rfl rfl) ?_
     refine ha_takeP 31 rfl (r_pick rfl rfl) ?_
     refine ha_done (by kernel_rfl) ?_
     refine q_then ?_
     refine h_condF rfl ?_
     refine h_skip ?_
     refine q_block ?_
     refine q_then ?_
     refine h_reg ?_
     refine yM rfl ?_
     refine h_op (r_add rfl rfl) ?_
     refine yS rfl ?_
     refine h_nil ?_
     exact h_back (k + 1) (⟨hk2, hok'⟩) (by omega) ⟨rfl, rfl, rfl, rfl, trivial⟩ (same)
    ·rw [if_neg (all_bad hx (by rw [clean3 h3]; exact decide_eq_false hz))]
     refine ha_start [.blk g4 zLeaf.cells 51, .blk g3 zB32.cells 42, .rd (some ⟨b, o, none⟩) (its l)] [] mixed (same) ?_
     refine ha_takeP 0 rfl (r_move rfl) ?_
     refine ha_takeP 1 rfl (r_move rfl) ?_
     refine ha_takeP 2 rfl (r_idx rfl rfl) ?_
     refine ha_takeP 3 rfl (r_field rfl) ?_
     refine ha_take 4 rfl (r_nth rfl hki) ?_
     refine ha_takeP 5 rfl (r_bool (r_neq rfl rfl) (decide_eq_false (fun h => h h3))) ?_
     refine ha_takeP 6 rfl (r_move rfl) ?_
     refine ha_off 7 rfl ?_
     refine ha_off 8 rfl ?_
     refine ha_off 9 rfl ?_
     refine ha_off 10 rfl ?_
     refine ha_off 11 rfl ?_
     refine ha_off 12 rfl ?_
     refine ha_off 13 rfl ?_
     refine ha_takeP 14 rfl (r_pick rfl rfl) ?_
     refine ha_takeP 15 rfl (r_move rfl) ?_
     refine ha_takeP 16 rfl (r_move rfl) ?_
     refine ha_takeP 17 rfl (r_move rfl) ?_
     refine ha_takeP 18 rfl (r_idx rfl rfl) ?_
     refine ha_takeP 19 rfl (r_field rfl) ?_
     refine ha_take 20 rfl (r_nth rfl hki) ?_
     refine ha_takeP 21 rfl (r_bool (r_neq rfl rfl) (decide_eq_true (by omega))) ?_
     refine ha_takeP 22 rfl (r_move rfl) ?_
     refine ha_takeP 23 rfl (r_move rfl) ?_
     refine ha_takeP 24 rfl (r_move rfl) ?_
     refine ha_takeP 25 rfl (r_idx rfl rfl) ?_
     refine ha_takeP 26 rfl (r_field rfl (O' := o + (k * 97 + 33)) (by omega)) ?_
     refine ha_take 27 rfl (r_nthr rfl (out := x.leaf.cells) (Leaf.cells_length _) hlf) ?_
     refine ha_take 28 rfl (r_loadr rfl) ?_
     refine ha_takeP 29 rfl (r_bool (r_ner rfl rfl) (decide_eq_true hz)) ?_
     refine ha_takeP 30 rfl (r_pick rfl rfl) ?_
     refine ha_takeP 31 rfl (r_pick rfl rfl) ?_
     refine ha_done (by kernel_rfl) ?_
     refine q_then ?_
     refine h_condT rfl ?_
     refine yR ?_
     refine yS rfl ?_
     refine yN ?_
     refine h_ret ?_
     refine q_blockR ?_
     refine q_thenR ?_
     refine q_thenR ?_
     refine q_blockR ?_
     refine q_thenR ?_
     exact h_ret1 rfl rfl fun w s => ⟨(), rfl, s.res (List.nil_sublist _) (by simp)⟩
   ·by_cases hd : x.digest = zB32
    ·by_cases h4 : x.kind = 1
     ·have hok' : (l.take (k + 1)).all cleanItem = true := by rw [hac, clean1 h3 hd h4]
      refine ha_start [.blk g4 zLeaf.cells 51, .blk g3 zB32.cells 42, .rd (some ⟨b, o, none⟩) (its l)] [] mixed (same) ?_
      refine ha_takeP 0 rfl (r_move rfl) ?_
      refine ha_takeP 1 rfl (r_move rfl) ?_
      refine ha_takeP 2 rfl (r_idx rfl rfl) ?_
      refine ha_takeP 3 rfl (r_field rfl) ?_
      refine ha_take 4 rfl (r_nth rfl hki) ?_
      refine ha_takeP 5 rfl (r_bool (r_neq rfl rfl) (decide_eq_true h3)) ?_
      refine ha_takeP 6 rfl (r_move rfl) ?_
      refine ha_takeP 7 rfl (r_move rfl) ?_
      refine ha_takeP 8 rfl (r_move rfl) ?_
      refine ha_takeP 9 rfl (r_idx rfl rfl) ?_
      refine ha_takeP 10 rfl (r_field rfl (O' := o + (k * 97 + 1)) (by omega)) ?_
      refine ha_take 11 rfl (r_nthr rfl (out := x.digest.cells) (B32.cells_length _) hdg) ?_
      refine ha_take 12 rfl (r_loadr rfl) ?_
      refine ha_takeP 13 rfl (r_bool (r_ner rfl rfl) (decide_eq_false (fun h => h hd))) ?_
      refine ha_takeP 14 rfl (r_pick rfl rfl) ?_
      refine ha_takeP 15 rfl (r_move rfl) ?_
      refine ha_takeP 16 rfl (r_move rfl) ?_
      refine ha_takeP 17 rfl (r_move rfl) ?_
      refine ha_takeP 18 rfl (r_idx rfl rfl) ?_
      refine ha_takeP 19 rfl (r_field rfl) ?_
      refine ha_take 20 rfl (r_nth rfl hki) ?_
      refine ha_takeP 21 rfl (r_bool (r_neq rfl rfl) (decide_eq_false (fun h => h h4))) ?_
      refine ha_takeP 22 rfl (r_move rfl) ?_
      refine ha_off 23 rfl ?_
      refine ha_off 24 rfl ?_
      refine ha_off 25 rfl ?_
      refine ha_off 26 rfl ?_
      refine ha_off 27 rfl ?_
      refine ha_off 28 rfl ?_
      refine ha_off 29 rfl ?_
      refine ha_takeP 30 rfl (r_pick rfl rfl) ?_
      refine ha_takeP 31 rfl (r_pick rfl rfl) ?_
      refine ha_done (by kernel_rfl) ?_
      refine q_then ?_
      refine h_condF rfl ?_
      refine h_skip ?_
      refine q_block ?_
      refine q_then ?_
      refine h_reg ?_
      refine yM rfl ?_
      refine h_op (r_add rfl rfl) ?_
      refine yS rfl ?_
      refine h_nil ?_
      exact h_back (k + 1) (⟨hk2, hok'⟩) (by omega) ⟨rfl, rfl, rfl, rfl, trivial⟩ (same)
     ·by_cases hz : x.leaf = zLeaf
      ·have hok' : (l.take (k + 1)).all cleanItem = true := by rw [hac, clean0 h3 hd h4, decide_eq_true hz]
       refine ha_start [.blk g4 zLeaf.cells 51, .blk g3 zB32.cells 42, .rd (some ⟨b, o, none⟩) (its l)] [] mixed (same) ?_
       refine ha_takeP 0 rfl (r_move rfl) ?_
       refine ha_takeP 1 rfl (r_move rfl) ?_
       refine ha_takeP 2 rfl (r_idx rfl rfl) ?_
       refine ha_takeP 3 rfl (r_field rfl) ?_
       refine ha_take 4 rfl (r_nth rfl hki) ?_
       refine ha_takeP 5 rfl (r_bool (r_neq rfl rfl) (decide_eq_true h3)) ?_
       refine ha_takeP 6 rfl (r_move rfl) ?_
       refine ha_takeP 7 rfl (r_move rfl) ?_
       refine ha_takeP 8 rfl (r_move rfl) ?_
       refine ha_takeP 9 rfl (r_idx rfl rfl) ?_
       refine ha_takeP 10 rfl (r_field rfl (O' := o + (k * 97 + 1)) (by omega)) ?_
       refine ha_take 11 rfl (r_nthr rfl (out := x.digest.cells) (B32.cells_length _) hdg) ?_
       refine ha_take 12 rfl (r_loadr rfl) ?_
       refine ha_takeP 13 rfl (r_bool (r_ner rfl rfl) (decide_eq_false (fun h => h hd))) ?_
       refine ha_takeP 14 rfl (r_pick rfl rfl) ?_
       refine ha_takeP 15 rfl (r_move rfl) ?_
       refine ha_takeP 16 rfl (r_move rfl) ?_
       refine ha_takeP 17 rfl (r_move rfl) ?_
       refine ha_takeP 18 rfl (r_idx rfl rfl) ?_
       refine ha_takeP 19 rfl (r_field rfl) ?_
       refine ha_take 20 rfl (r_nth rfl hki) ?_
       refine ha_takeP 21 rfl (r_bool (r_neq rfl rfl) (decide_eq_true h4)) ?_
       refine ha_takeP 22 rfl (r_move rfl) ?_
       refine ha_takeP 23 rfl (r_move rfl) ?_
       refine ha_takeP 24 rfl (r_move rfl) ?_
       refine ha_takeP 25 rfl (r_idx rfl rfl) ?_
       refine ha_takeP 26 rfl (r_field rfl (O' := o + (k * 97 + 33)) (by omega)) ?_
       refine ha_take 27 rfl (r_nthr rfl (out := x.leaf.cells) (Leaf.cells_length _) hlf) ?_
       refine ha_take 28 rfl (r_loadr rfl) ?_
       refine ha_takeP 29 rfl (r_bool (r_ner rfl rfl) (decide_eq_false (fun h => h hz))) ?_
       refine ha_takeP 30 rfl (r_pick rfl rfl) ?_
       refine ha_takeP 31 rfl (r_pick rfl rfl) ?_
       refine ha_done (by kernel_rfl) ?_
       refine q_then ?_
       refine h_condF rfl ?_
       refine h_skip ?_
       refine q_block ?_
       refine q_then ?_
       refine h_reg ?_
       refine yM rfl ?_
       refine h_op (r_add rfl rfl) ?_
       refine yS rfl ?_
       refine h_nil ?_
       exact h_back (k + 1) (⟨hk2, hok'⟩) (by omega) ⟨rfl, rfl, rfl, rfl, trivial⟩ (same)
      ·rw [if_neg (all_bad hx (by rw [clean0 h3 hd h4]; exact decide_eq_false hz))]
       refine ha_start [.blk g4 zLeaf.cells 51, .blk g3 zB32.cells 42, .rd (some ⟨b, o, none⟩) (its l)] [] mixed (same) ?_
       refine ha_takeP 0 rfl (r_move rfl) ?_
       refine ha_takeP 1 rfl (r_move rfl) ?_
       refine ha_takeP 2 rfl (r_idx rfl rfl) ?_
       refine ha_takeP 3 rfl (r_field rfl) ?_
       refine ha_take 4 rfl (r_nth rfl hki) ?_
       refine ha_takeP 5 rfl (r_bool (r_neq rfl rfl) (decide_eq_true h3)) ?_
       refine ha_takeP 6 rfl (r_move rfl) ?_
       refine ha_takeP 7 rfl (r_move rfl) ?_
       refine ha_takeP 8 rfl (r_move rfl) ?_
       refine ha_takeP 9 rfl (r_idx rfl rfl) ?_
       refine ha_takeP 10 rfl (r_field rfl (O' := o + (k * 97 + 1)) (by omega)) ?_
       refine ha_take 11 rfl (r_nthr rfl (out := x.digest.cells) (B32.cells_length _) hdg) ?_
       refine ha_take 12 rfl (r_loadr rfl) ?_
       refine ha_takeP 13 rfl (r_bool (r_ner rfl rfl) (decide_eq_false (fun h => h hd))) ?_
       refine ha_takeP 14 rfl (r_pick rfl rfl) ?_
       refine ha_takeP 15 rfl (r_move rfl) ?_
       refine ha_takeP 16 rfl (r_move rfl) ?_
       refine ha_takeP 17 rfl (r_move rfl) ?_
       refine ha_takeP 18 rfl (r_idx rfl rfl) ?_
       refine ha_takeP 19 rfl (r_field rfl) ?_
       refine ha_take 20 rfl (r_nth rfl hki) ?_
       refine ha_takeP 21 rfl (r_bool (r_neq rfl rfl) (decide_eq_true h4)) ?_
       refine ha_takeP 22 rfl (r_move rfl) ?_
       refine ha_takeP 23 rfl (r_move rfl) ?_
       refine ha_takeP 24 rfl (r_move rfl) ?_
       refine ha_takeP 25 rfl (r_idx rfl rfl) ?_
       refine ha_takeP 26 rfl (r_field rfl (O' := o + (k * 97 + 33)) (by omega)) ?_
       refine ha_take 27 rfl (r_nthr rfl (out := x.leaf.cells) (Leaf.cells_length _) hlf) ?_
       refine ha_take 28 rfl (r_loadr rfl) ?_
       refine ha_takeP 29 rfl (r_bool (r_ner rfl rfl) (decide_eq_true hz)) ?_
       refine ha_takeP 30 rfl (r_pick rfl rfl) ?_
       refine ha_takeP 31 rfl (r_pick rfl rfl) ?_
       refine ha_done (by kernel_rfl) ?_
       refine q_then ?_
       refine h_condT rfl ?_
       refine yR ?_
       refine yS rfl ?_
       refine yN ?_
       refine h_ret ?_
       refine q_blockR ?_
       refine q_thenR ?_
       refine q_thenR ?_
       refine q_blockR ?_
       refine q_thenR ?_
       exact h_ret1 rfl rfl fun w s => ⟨(), rfl, s.res (List.nil_sublist _) (by simp)⟩
    ·rw [if_neg (all_bad hx (cleanN h3 hd))]
     refine ha_start [.blk g4 zLeaf.cells 51, .blk g3 zB32.cells 42, .rd (some ⟨b, o, none⟩) (its l)] [] mixed (same) ?_
     refine ha_takeP 0 rfl (r_move rfl) ?_
     refine ha_takeP 1 rfl (r_move rfl) ?_
     refine ha_takeP 2 rfl (r_idx rfl rfl) ?_
     refine ha_takeP 3 rfl (r_field rfl) ?_
     refine ha_take 4 rfl (r_nth rfl hki) ?_
     refine ha_takeP 5 rfl (r_bool (r_neq rfl rfl) (decide_eq_true h3)) ?_
     refine ha_takeP 6 rfl (r_move rfl) ?_
     refine ha_takeP 7 rfl (r_move rfl) ?_
     refine ha_takeP 8 rfl (r_move rfl) ?_
     refine ha_takeP 9 rfl (r_idx rfl rfl) ?_
     refine ha_takeP 10 rfl (r_field rfl (O' := o + (k * 97 + 1)) (by omega)) ?_
     refine ha_take 11 rfl (r_nthr rfl (out := x.digest.cells) (B32.cells_length _) hdg) ?_
     refine ha_take 12 rfl (r_loadr rfl) ?_
     refine ha_takeP 13 rfl (r_bool (r_ner rfl rfl) (decide_eq_true hd)) ?_
     refine ha_takeP 14 rfl (r_pick rfl rfl) ?_
     refine ha_takeP 15 rfl (r_move rfl) ?_
     refine ha_off 16 rfl ?_
     refine ha_off 17 rfl ?_
     refine ha_off 18 rfl ?_
     refine ha_off 19 rfl ?_
     refine ha_off 20 rfl ?_
     refine ha_off 21 rfl ?_
     refine ha_off 22 rfl ?_
     refine ha_off 23 rfl ?_
     refine ha_off 24 rfl ?_
     refine ha_off 25 rfl ?_
     refine ha_off 26 rfl ?_
     refine ha_off 27 rfl ?_
     refine ha_off 28 rfl ?_
     refine ha_off 29 rfl ?_
     refine ha_off 30 rfl ?_
     refine ha_takeP 31 rfl (r_pick rfl rfl) ?_
     refine ha_done (by kernel_rfl) ?_
     refine q_then ?_
     refine h_condT rfl ?_
     refine yR ?_
     refine yS rfl ?_
     refine yN ?_
     refine h_ret ?_
     refine q_blockR ?_
     refine q_thenR ?_
     refine q_thenR ?_
     refine q_blockR ?_
     refine q_thenR ?_
     exact h_ret1 rfl rfl fun w s => ⟨(), rfl, s.res (List.nil_sublist _) (by simp)⟩
  ·obtain rfl : k = l.length := by omega
   rw [List.take_length] at hcl
   rw [if_pos hcl]
   by_cases h0 : l.length = 0
   ·rw [if_pos (.inl h0)]
    refine h_exit ?_
    refine q_thenE ?_
    refine q_thenE ?_
    refine q_blockE ?_
    refine q_then ?_
    refine h_seq ?_
    refine yR ?_
    refine yM rfl ?_
    refine h_op (r_len rfl) ?_
    refine h_op (r_bool (r_eql rfl rfl) (decide_eq_true (by omega))) ?_
    refine yM rfl ?_
    refine h_opOff ?_
    refine h_opOff ?_
    refine h_opOff ?_
    refine h_opOff ?_
    refine h_opOff ?_
    refine h_op (r_pick rfl rfl) ?_
    refine yN ?_
    refine h_condT rfl ?_
    refine yR ?_
    refine yS rfl ?_
    refine yN ?_
    refine h_ret ?_
    refine q_thenR ?_
    exact h_ret1 rfl rfl fun w s => ⟨(), rfl, s.res (List.nil_sublist _) (by simp)⟩
   ·refine h_exit ?_
    refine q_thenE ?_
    refine q_thenE ?_
    refine q_blockE ?_
    refine q_then ?_
    refine h_seq ?_
    refine yR ?_
    refine yM rfl ?_
    refine h_op (r_len rfl) ?_
    refine h_op (r_bool (r_eql rfl rfl) (decide_eq_false (by omega))) ?_
    refine yM rfl ?_
    refine yM rfl ?_
    refine h_call (hSk.comes) rfl rfl rfl fun _ => ?_
    by_cases hs : skipI l (readM 256 l) = (l.length : Int)
    ·rw [if_neg (fun h => h.elim h0 (fun h => h hs))]
     refine yM rfl ?_
     refine h_op (r_len rfl) ?_
     refine h_op (r_bool (r_neq rfl rfl) (decide_eq_false (fun h => h hs))) ?_
     refine h_op (r_pick rfl rfl) ?_
     refine yN ?_
     refine h_condF rfl ?_
     refine h_skip ?_
     refine q_then ?_
     refine yR ?_
     refine yS rfl ?_
     refine yN ?_
     refine h_ret ?_
     exact h_ret1 rfl rfl fun w s => ⟨(), rfl, s.res (List.nil_sublist _) (by simp)⟩
    ·rw [if_pos (.inr hs)]
     refine yM rfl ?_
     refine h_op (r_len rfl) ?_
     refine h_op (r_bool (r_neq rfl rfl) (decide_eq_true hs)) ?_
     refine h_op (r_pick rfl rfl) ?_
     refine yN ?_
     refine h_condT rfl ?_
     refine yR ?_
     refine yS rfl ?_
     refine yN ?_
     refine h_ret ?_
     refine q_thenR ?_
     exact h_ret1 rfl rfl fun w s => ⟨(), rfl, s.res (List.nil_sublist _) (by simp)⟩
end Go.Proofs.YtjhocljhhpkiiaaGreatDoor
/- U67 -/
namespace Go.Proofs.YtjhocljhhpkiiaaGreatDoor
open Go.RowKit
theorem readM_cost : ∀ (d : Nat) (l : List Item) (t : Sub) (r : List Item), readM d l = some (t, r) → t.cost + r.length ≤ l.length
 | d, [], t, r, h => by cases d <;> cases h
 | d, x :: l, t, r, h => by
  by_cases hk : x.kind = 2
  ·match d, h with
   | 0, h => unfold readM at h; rw [if_pos hk] at h; cases h
   | d + 1, h =>
    unfold readM at h
    rw [if_pos hk] at h
    obtain ⟨p, hp, h⟩ := Option.bind_eq_some_iff.1 h
    obtain ⟨q, hq, h⟩ := Option.bind_eq_some_iff.1 h
    have h1 := readM_cost d l p.1 p.2 hp
    have h2 := readM_cost d p.2 q.1 q.2 hq
    simp only [Option.some.injEq, Prod.mk.injEq] at h
    rw [← h.1, ← h.2]
    show p.1.cost + q.1.cost + 1 + q.2.length ≤ (x :: l).length
    rw [List.length_cons]
    omega
  ·have h' : readM d (x :: l) = some (.one x, l) := by cases d <;> (unfold readM; rw [if_neg hk])
   rw [h'] at h
   simp only [Option.some.injEq, Prod.mk.injEq] at h
   rw [← h.1, ← h.2]
   show (if x.kind = 3 then 0 else 1) + l.length ≤ (x :: l).length
   rw [List.length_cons]
   split <;> omega
theorem parse_ok {l : List Item} {t : Sub} (h : parseM l = .ok t) : readM 256 l = some (t, []) ∧ l.all kindOk = true ∧ l.all cleanItem = true := by
 unfold parseM at h
 by_cases h1 : l.all kindOk = true
 ·rw [if_pos h1] at h
  rcases hm : readM 256 l with _ | ⟨t', r⟩
  ·rw [hm] at h; cases h
  ·rw [hm] at h
   cases r with
   | nil =>
    by_cases h2 : l.all cleanItem = true
    ·simp only [h2, if_true] at h
     injection h with h
     exact ⟨by rw [h], h1, h2⟩
    ·simp only [h2] at h
     cases h
   | cons y r => cases h
 ·rw [if_neg h1] at h
  cases h
section
variable (h : Zh) [hT : RdZ h (some ⟨1, 0, none⟩) hashT]
theorem mRoot_s (n : Nat) (hn : n ≤ 256) (gh gc k : Nat) (hk : k ≤ 1000000000) (l : List Item) (A : Option Addr) (c : Nat) [hr : RdZ h A (its l)] (hc : l.length ≤ c) (hl : l.length ≤ 1000000) (t : Sub) (hp : parseM l = .ok t) : Spec Tryz.prog 156 [.pointer (some ⟨gh, 0, none⟩), .slice A l.length c].toArray [.zone false h, HR gh gc n] [CN gc k] (fun _ : Unit => .tuple #[.agg (dgS n t).cells.toArray, .int .i64 0]) (fun _ => [CN gc (k + t.cost)]) := by
 have hP := parse_s h l A c hc hl
 rw [hp] at hP
 have hco := readM_cost 256 l t [] (parse_ok hp).1
 have hD := dig_s n hn gh gc t k (by simp at hco; omega)
 refine spec_of Tryz.func156 rfl (n := 20) rfl rfl ?_
 intro W
 refine yR ?_
 refine h_opX (x_alloc) fun g4 => ?_
 refine yS rfl ?_
 refine yN ?_
 refine yR ?_
 refine yM rfl ?_
 refine h_call (hP.comes) rfl rfl rfl fun _ => ?_
 refine yM rfl ?_
 refine h_op (r_extract rfl rfl) ?_
 refine h_op (r_extract rfl rfl) ?_
 refine yS rfl ?_
 refine yS rfl ?_
 refine yN ?_
 refine h_seq ?_
 refine yR ?_
 refine yM rfl ?_
 refine h_op (r_neq rfl rfl) ?_
 refine yN ?_
 refine h_no rfl ((fun h => h rfl)) ?_
 refine h_skip ?_
 refine q_then ?_
 refine yR ?_
 refine yM rfl ?_
 refine yM rfl ?_
 refine h_callM (hD.comes) rfl rfl rfl fun _ => ?_
 refine h_opS (s_storer rfl rfl) ?_
 refine yS rfl ?_
 refine yN ?_
 refine h_ret ?_
 exact h_ret2 rfl (rv_row rfl) rfl fun w s => ⟨(), rfl, (same (L' := [CN gc (k + t.cost)]) w s).res (List.Sublist.refl _) (by simp [Fa.wr])⟩
end
end Go.Proofs.YtjhocljhhpkiiaaGreatDoor
/- E18 -/
namespace Go.Proofs.YtjhocljhhpkiiaaGreatDoor
open Go.RowKit
abbrev innerI : Item := ⟨2, zB32, zLeaf⟩
def Sub.flat : Sub → List Item
 | .one x => [x]
 | .two l r => innerI :: (l.flat ++ r.flat)
def Sub.ht : Sub → Nat
 | .one _ => 0
 | .two l r => max l.ht r.ht + 1
def Sub.ok : Sub → Prop
 | .one x => x.kind ≠ 2 ∧ kindOk x = true ∧ cleanItem x = true
 | .two l r => l.ok ∧ r.ok
def Sub.sz : Sub → Nat
 | .one _ => 1
 | .two l r => l.sz + r.sz + 1
theorem Sub.flat_len : ∀ t : Sub, t.flat.length = t.sz
 | .one _ => rfl
 | .two l r => by
  show (l.flat ++ r.flat).length + 1 = _
  rw [List.length_append, l.flat_len, r.flat_len]
  rfl
theorem Sub.sz_pos : ∀ t : Sub, 0 < t.sz
 | .one _ => Nat.one_pos
 | .two _ _ => Nat.succ_pos _
theorem read_flat : ∀ (t : Sub) (d : Nat) (rest : List Item), t.ok → t.ht ≤ d → readM d (t.flat ++ rest) = some (t, rest)
 | .one x, d, rest, ho, _ => by
  show readM d (x :: rest) = _
  cases d <;> (unfold readM; rw [if_neg ho.1])
 | .two l r, 0, rest, ho, hd => absurd hd (by simp [Sub.ht])
 | .two l r, d + 1, rest, ho, hd => by
  have hd' : max l.ht r.ht + 1 ≤ d + 1 := hd
  show readM (d + 1) (innerI :: ((l.flat ++ r.flat) ++ rest)) = _
  unfold readM
  rw [if_pos rfl, List.append_assoc, read_flat l d _ ho.1 (by omega)]
  simp only [Option.bind_some]
  rw [read_flat r d _ ho.2 (by omega)]
  rfl
theorem flat_read : ∀ (d : Nat) (l : List Item) (t : Sub) (rest : List Item), readM d l = some (t, rest) → l.all kindOk = true → l.all cleanItem = true → l = t.flat ++ rest ∧ t.ok ∧ t.ht ≤ d ∧ rest.all kindOk = true ∧ rest.all cleanItem = true
 | d, [], t, r, h, _, _ => by cases d <;> cases h
 | d, x :: l, t, r, h, hk, hc => by
  rw [List.all_cons, Bool.and_eq_true] at hk hc
  by_cases hk2 : x.kind = 2
  ·match d, h with
   | 0, h => unfold readM at h; rw [if_pos hk2] at h; cases h
   | d + 1, h =>
    unfold readM at h
    rw [if_pos hk2] at h
    obtain ⟨p, hp, h⟩ := Option.bind_eq_some_iff.1 h
    obtain ⟨q, hq, h⟩ := Option.bind_eq_some_iff.1 h
    obtain ⟨a1, a2, a3, a4, a5⟩ := flat_read d l p.1 p.2 hp hk.2 hc.2
    obtain ⟨b1, b2, b3, b4, b5⟩ := flat_read d p.2 q.1 q.2 hq a4 a5
    simp only [Option.some.injEq, Prod.mk.injEq] at h
    rw [← h.1, ← h.2]
    refine ⟨?_, ⟨a2, b2⟩, ?_, b4, b5⟩
    ·show x :: l = innerI :: (p.1.flat ++ q.1.flat) ++ q.2
     have hx : x = innerI := by
      have h1 := hc.1
      unfold cleanItem at h1
      simp only [hk2] at h1
      simp at h1
      obtain ⟨k, dg, lf⟩ := x
      simp only at hk2 h1
      rw [hk2, h1.1, h1.2]
     rw [hx, List.cons_append, List.append_assoc, ← b1, ← a1]
    ·show max p.1.ht q.1.ht + 1 ≤ d + 1
     omega
  ·have h' : readM d (x :: l) = some (.one x, l) := by cases d <;> (unfold readM; rw [if_neg hk2])
   rw [h'] at h
   simp only [Option.some.injEq, Prod.mk.injEq] at h
   rw [← h.1, ← h.2]
   exact ⟨rfl, ⟨hk2, hk.1, hc.1⟩, Nat.zero_le _, hk.2, hc.2⟩
theorem parse_flat {l : List Item} {t : Sub} (h : parseM l = .ok t) : l = t.flat ∧ t.ok ∧ t.ht ≤ 256 := by
 obtain ⟨h1, h2, h3⟩ := parse_ok h
 obtain ⟨a, b, c, _⟩ := flat_read 256 l t [] h1 h2 h3
 exact ⟨by rw [a, List.append_nil], b, c⟩
def Sub.endI (k : B32) : Sub → Nat → Item × Nat
 | .one x, d => (x, d)
 | .two l r, d => if bitAt k d then r.endI k (d + 1) else l.endI k (d + 1)
def Sub.way (k : B32) : Sub → Nat → Nat → List Nat
 | .one _, _, i => [i]
 | .two l r, d, i => i :: if bitAt k d then r.way k (d + 1) (i + 1 + l.sz) else l.way k (d + 1) (i + 1)
theorem way_rng {k : B32} : ∀ {t : Sub} {d i j : Nat}, j ∈ t.way k d i → i ≤ j ∧ j < i + t.sz
 | .one _, d, i, j, h => by obtain rfl := List.mem_singleton.1 h; exact ⟨Nat.le_refl _, Nat.lt_succ_self _⟩
 | .two l r, d, i, j, h => by
  show i ≤ j ∧ j < i + (l.sz + r.sz + 1)
  rcases List.mem_cons.1 h with rfl | h
  ·omega
  ·cases hb : bitAt k d
   ·rw [hb, if_neg (by simp)] at h
    have := way_rng h
    omega
   ·rw [hb, if_pos rfl] at h
    have := way_rng h
    omega
theorem way_head (k : B32) (t : Sub) (d i : Nat) : i ∈ t.way k d i := by cases t <;> exact List.mem_cons_self ..
def endsM : Sub → List B32 → Nat → List (Item × Nat) × Bool
 | .one x, ks, d => (ks.map fun _ => (x, d), x.kind != 3 || ks.isEmpty)
 | .two l r, ks, d => if ks.isEmpty then ([], false) else
   if (endsM l (keysB ks d false) (d + 1)).2 then ((endsM l (keysB ks d false) (d + 1)).1 ++ (endsM r (keysB ks d true) (d + 1)).1, (endsM r (keysB ks d true) (d + 1)).2)
   else ((endsM l (keysB ks d false) (d + 1)).1, false)
theorem endsM_len : ∀ (t : Sub) (ks : List B32) (d : Nat), (endsM t ks d).1.length ≤ ks.length
 | .one x, ks, d => by show (ks.map _).length ≤ _; rw [List.length_map]; exact Nat.le_refl _
 | .two l r, ks, d => by
  have h1 := endsM_len l (keysB ks d false) (d + 1)
  have h2 := endsM_len r (keysB ks d true) (d + 1)
  have h3 : (keysB ks d false).length + (keysB ks d true).length = ks.length := by
   unfold keysB
   clear h1 h2
   induction ks with
   | nil => rfl
   | cons e m ih =>
    cases hb : bitAt e d
    ·rw [List.filter_cons_of_pos (by simp [hb]), List.filter_cons_of_neg (by simp [hb]), List.length_cons, List.length_cons]; omega
    ·rw [List.filter_cons_of_neg (by simp [hb]), List.filter_cons_of_pos (by simp [hb]), List.length_cons, List.length_cons]; omega
  unfold endsM
  split
  ·exact Nat.zero_le _
  ·split
   ·rw [List.length_append]; omega
   ·show (endsM l _ _).1.length ≤ _
    omega
theorem keys_cut {ks : List B32} {d : Nat} (ho : ks.Pairwise ltK) (ha : AlikeK ks d) : keysB ks d false ++ keysB ks d true = ks := by
 obtain ⟨m, _, _, h1, h2⟩ := split_at ho ha
 unfold keysB
 rw [← h1, ← h2, List.take_append_drop]
theorem keysB_mem {ks : List B32} {d : Nat} {b : Bool} {k : B32} : k ∈ keysB ks d b ↔ k ∈ ks ∧ bitAt k d = b := by unfold keysB; simp
theorem endsM_map : ∀ (t : Sub) (ks : List B32) (d : Nat), ks.Pairwise ltK → AlikeK ks d → (endsM t ks d).2 = true → (endsM t ks d).1 = ks.map fun k => t.endI k d
 | .one x, ks, d, _, _, _ => rfl
 | .two l r, ks, d, ho, ha, h => by
  unfold endsM at h ⊢
  split at h
  ·cases h
  ·split at h
   ·rename_i h1 h2
    rw [if_neg h1, if_pos h2]
    show (endsM l _ _).1 ++ (endsM r _ _).1 = _
    rw [endsM_map l _ _ (keysB_ord ho _) (keysB_alike ha _) h2, endsM_map r _ _ (keysB_ord ho _) (keysB_alike ha _) h]
    conv => rhs; rw [← keys_cut ho ha, List.map_append]
    congr 1
    ·exact List.map_congr_left fun k hk => by rw [Sub.endI, (keysB_mem.1 hk).2]; rfl
    ·exact List.map_congr_left fun k hk => by rw [Sub.endI, (keysB_mem.1 hk).2]; rfl
   ·cases h
def fitsR (t : Sub) (ks : List B32) (d i : Nat) : Prop := (∀ k ∈ ks, (t.endI k d).1.kind ≠ 3) ∧ ∀ (j : Nat) (x : Item), t.flat[j]? = some x → x.kind = 2 → ∃ k ∈ ks, i + j ∈ t.way k d i
theorem fits_iff : ∀ (t : Sub) (ks : List B32) (d i : Nat), t.ok → ((endsM t ks d).2 = true ↔ fitsR t ks d i)
  | .one x, ks, d, i, ho => by
    show (x.kind != 3 || ks.isEmpty) = true ↔ _
    constructor
    · intro h
      refine ⟨fun k hk => ?_, fun j y hj hy => ?_⟩
      · show x.kind ≠ 3
        cases ks with
        | nil => cases hk
        | cons => simpa using h
      · cases j with
        | zero => obtain rfl : x = y := by simpa [Sub.flat] using hj
                  exact (ho.1 hy).elim
        | succ j => simp [Sub.flat] at hj
    · rintro ⟨h, _⟩
      cases ks with
      | nil => simp
      | cons k ks =>
        have : x.kind ≠ 3 := h k (List.mem_cons_self ..)
        simp [this]
  | .two l r, ks, d, i, ho => by
    have ihl := fits_iff l (keysB ks d false) (d + 1) (i + 1) ho.1
    have ihr := fits_iff r (keysB ks d true) (d + 1) (i + 1 + l.sz) ho.2
    have h0 : (endsM (.two l r) ks d).2 = true ↔ ks ≠ [] ∧ (endsM l (keysB ks d false) (d + 1)).2 = true ∧ (endsM r (keysB ks d true) (d + 1)).2 = true := by
      conv => lhs; unfold endsM
      cases ks with
      | nil => simp
      | cons k ks =>
        by_cases h1 : (endsM l (keysB (k :: ks) d false) (d + 1)).2 = true
        · simp [h1]
        · simp [h1]
    rw [h0, ihl, ihr]
    have hE : ∀ k b, bitAt k d = b → (Sub.two l r).endI k d = if b then r.endI k (d + 1) else l.endI k (d + 1) := fun k b hb => by rw [Sub.endI, hb]
    have hW : ∀ k b, bitAt k d = b → (Sub.two l r).way k d i = i :: if b then r.way k (d + 1) (i + 1 + l.sz) else l.way k (d + 1) (i + 1) := fun k b hb => by rw [Sub.way, hb]
    have hf : (Sub.two l r).flat = innerI :: (l.flat ++ r.flat) := rfl
    constructor
    · rintro ⟨hne, ⟨a1, a2⟩, b1, b2⟩
      refine ⟨fun k hk => ?_, fun j x hj hx => ?_⟩
      · cases hb : bitAt k d
        · rw [hE k _ hb]; exact a1 k (keysB_mem.2 ⟨hk, hb⟩)
        · rw [hE k _ hb]; exact b1 k (keysB_mem.2 ⟨hk, hb⟩)
      · rw [hf] at hj
        cases j with
        | zero =>
          obtain ⟨k, ks', rfl⟩ := List.exists_cons_of_ne_nil hne
          exact ⟨k, List.mem_cons_self .., way_head k _ d i⟩
        | succ j =>
          rw [List.getElem?_cons_succ] at hj
          rcases Nat.lt_or_ge j l.sz with h1 | h1
          · rw [List.getElem?_append_left (by rw [l.flat_len]; exact h1)] at hj
            obtain ⟨k, hk, hw⟩ := a2 j x hj hx
            obtain ⟨hk, hb⟩ := keysB_mem.1 hk
            refine ⟨k, hk, ?_⟩
            rw [hW k _ hb]
            exact List.mem_cons_of_mem _ (by rw [show i + (j + 1) = i + 1 + j by omega]; exact hw)
          · rw [List.getElem?_append_right (by rw [l.flat_len]; exact h1), l.flat_len] at hj
            obtain ⟨k, hk, hw⟩ := b2 (j - l.sz) x hj hx
            obtain ⟨hk, hb⟩ := keysB_mem.1 hk
            refine ⟨k, hk, ?_⟩
            rw [hW k _ hb]
            exact List.mem_cons_of_mem _ (by rw [show i + (j + 1) = i + 1 + l.sz + (j - l.sz) by omega]; exact hw)
    · rintro ⟨h1, h2⟩
      refine ⟨fun e => ?_, ⟨fun k hk => ?_, fun j x hj hx => ?_⟩, fun k hk => ?_, fun j x hj hx => ?_⟩
      · obtain ⟨k, hk, _⟩ := h2 0 innerI rfl rfl
        rw [e] at hk
        cases hk
      · obtain ⟨hk, hb⟩ := keysB_mem.1 hk
        have := h1 k hk
        rwa [hE k _ hb] at this
      · have hl := (List.getElem?_eq_some_iff.1 hj).1
        rw [l.flat_len] at hl
        obtain ⟨k, hk, hw⟩ := h2 (j + 1) x (by rw [hf, List.getElem?_cons_succ, List.getElem?_append_left (by rw [l.flat_len]; exact hl)]; exact hj) hx
        cases hb : bitAt k d
        · rw [hW k _ hb] at hw
          rcases List.mem_cons.1 hw with e | hw
          · omega
          · exact ⟨k, keysB_mem.2 ⟨hk, hb⟩, by rw [show i + 1 + j = i + (j + 1) by omega]; exact hw⟩
        · rw [hW k _ hb] at hw
          rcases List.mem_cons.1 hw with e | hw
          · omega
          · have := way_rng hw
            omega
      · obtain ⟨hk, hb⟩ := keysB_mem.1 hk
        have := h1 k hk
        rwa [hE k _ hb] at this
      · have hl := (List.getElem?_eq_some_iff.1 hj).1
        rw [r.flat_len] at hl
        obtain ⟨k, hk, hw⟩ := h2 (l.sz + j + 1) x (by rw [hf, List.getElem?_cons_succ, List.getElem?_append_right (by rw [l.flat_len]; omega), l.flat_len, Nat.add_sub_cancel_left]; exact hj) hx
        cases hb : bitAt k d
        · rw [hW k _ hb] at hw
          rcases List.mem_cons.1 hw with e | hw
          · omega
          · have := way_rng hw
            omega
        · rw [hW k _ hb] at hw
          rcases List.mem_cons.1 hw with e | hw
          · omega
          · exact ⟨k, keysB_mem.2 ⟨hk, hb⟩, by rw [show i + 1 + l.sz + j = i + (l.sz + j + 1) by omega]; exact hw⟩
end Go.Proofs.YtjhocljhhpkiiaaGreatDoor
/- U70 -/
namespace Go.Proofs.YtjhocljhhpkiiaaGreatDoor
open Go.RowKit
theorem splitF_s (l : List B32) (A : Option Addr) (c i j g2 g3 : Nat) (hj : j < l.length) (hi : i < 256) : Spec Tryz.prog 211 [.int .i64 (j : Int), .pointer (some ⟨g2, 0, none⟩), .pointer (some ⟨g3, 0, none⟩)].toArray [.rd (some ⟨g2, 0, none⟩) [.slice A l.length c], .rd (some ⟨g3, 0, none⟩) [.int .i64 (i : Int)], .rd A (dgs l)] [] (fun _ : Unit => .bool (bitAt (l.getD j zB32) i)) (fun _ => []) := by
 have h1 := dgs_at hj
 refine spec_of Tryz.func211 rfl (n := 12) rfl rfl ?_
 intro W
 refine h_pure (φ := ∃ b o, A = some ⟨b, o, none⟩) (fun w s => Rd.some (s.ok (.rd A (dgs l)) (by simp)) (by rw [dgs_len]; omega)) ?_
 rintro ⟨b, o, rfl⟩
 refine yR ?_
 refine yS rfl ?_
 refine yN ?_
 refine h_seq ?_
 refine ha_start [.rd (some ⟨g2, 0, none⟩) [.slice (some ⟨b, o, none⟩) l.length c], .rd (some ⟨g3, 0, none⟩) [.int .i64 (i : Int)], .rd (some ⟨b, o, none⟩) (dgs l)] [] mixed (same) ?_
 refine ha_take 0 rfl (r_loadc rfl) ?_
 refine ha_takeP 1 rfl (r_move rfl) ?_
 refine ha_takeP 2 rfl (r_idx rfl rfl) ?_
 refine ha_take 3 rfl (r_nthr rfl (out := (l.getD j zB32).cells) (B32.cells_length _) h1) ?_
 refine ha_take 4 rfl (r_loadc rfl) ?_
 refine ha_one 5 ?_
 refine ho_C 5 rfl ((Bit_s (l.getD j zB32) i hi).comes) rfl rfl rfl (fun xx => same) fun _ => ?_
 refine ha_takeP 6 rfl (r_bool (r_eql rfl rfl) (bitN_one (l.getD j zB32) i)) ?_
 refine ha_takeP 7 rfl (r_assign rfl) ?_
 refine ha_done (by kernel_rfl) ?_
 refine q_then ?_
 refine h_ret ?_
 exact h_ret1 rfl rfl fun w s => ⟨(), rfl, s.res (List.nil_sublist _) (by simp)⟩
theorem half (a : Nat) (h : a < 18446744073709551616) : (((BitVec.ofNat 64 a) >>> 1).toNat : Int) = ((a / 2 : Nat) : Int) := by
 rw [BitVec.toNat_ushiftRight, BitVec.toNat_ofNat, Nat.mod_eq_of_lt (by omega), Nat.shiftRight_eq_div_pow]
theorem Search_s (l : List B32) (A : Option Addr) (c i g2 g3 m : Nat) (hi : i < 256) (hl : l.length ≤ 1000000) (hm : m ≤ l.length) (hp : ∀ j, j < l.length → bitAt (l.getD j zB32) i = decide (m ≤ j)) : Spec Tryz.prog 210 [.int .i64 (l.length : Int), .func (.func 211) #[] [.pointer (some ⟨g2, 0, none⟩), .pointer (some ⟨g3, 0, none⟩)].toArray].toArray [.rd (some ⟨g2, 0, none⟩) [.slice A l.length c], .rd (some ⟨g3, 0, none⟩) [.int .i64 (i : Int)], .rd A (dgs l)] [] (fun _ : Unit => .int .i64 (m : Int)) (fun _ => []) := by
 refine spec_of Tryz.func210 rfl (n := 26) rfl rfl ?_
 intro W
 refine yR ?_
 refine yS rfl ?_
 refine yN ?_
 refine yR ?_
 refine yM rfl ?_
 refine yS rfl ?_
 refine yS rfl ?_
 refine yN ?_
 refine h_seq ?_
 refine h_block ?_
 refine h_loop (fun (s : Nat × Nat) => s.1 ≤ m ∧ m ≤ s.2 ∧ s.2 ≤ l.length) (fun (s : Nat × Nat) => [(5, .int .i64 (s.1 : Int)), (6, .int .i64 (s.2 : Int)), (1, .func (.func 211) #[] [.pointer (some ⟨g2, 0, none⟩), .pointer (some ⟨g3, 0, none⟩)].toArray)]) (fun (s : Nat × Nat) => [.rd (some ⟨g2, 0, none⟩) [.slice A l.length c], .rd (some ⟨g3, 0, none⟩) [.int .i64 (i : Int)], .rd A (dgs l)]) (fun (s : Nat × Nat) => s.2 - s.1) (0, l.length) (⟨Nat.zero_le _, hm, Nat.le_refl _⟩) ⟨rfl, rfl, rfl, trivial⟩ (same) ?_
 rintro ⟨a, b⟩ ⟨h1, h2, h3⟩
 dsimp only at h1 h2 h3 ⊢
 refine h_seq ?_
 refine yR ?_
 refine yM rfl ?_
 refine yM rfl ?_
 refine h_op (r_lss rfl rfl) ?_
 refine yN ?_
 refine h_cond rfl (fun hlt => ?_) (fun hlt => ?_)
 ·have hh : (a + b) / 2 < l.length := by omega
  have hb := splitF_s l A c i ((a + b) / 2) g2 g3 hh hi
  rw [hp _ hh] at hb
  refine h_skip ?_
  refine q_then ?_
  refine h_block ?_
  refine yR ?_
  refine yM rfl ?_
  refine yM rfl ?_
  refine h_op (r_int (r_add rfl rfl) (show _ = ((a + b : Nat) : Int) by omega)) ?_
  refine h_op (r_cNW rfl) ?_
  refine h_op (r_int (r_shr rfl rfl) (half (a + b) (by omega))) ?_
  refine h_op (r_cN rfl (IntWalk.i64_in _ (by omega))) ?_
  refine yS rfl ?_
  refine yN ?_
  refine yR ?_
  refine yM rfl ?_
  refine yM rfl ?_
  by_cases hc : m ≤ (a + b) / 2
  ·rw [decide_eq_true hc] at hb
   refine h_call (hb.comes) rfl rfl rfl fun _ => ?_
   refine h_op (r_not rfl) ?_
   refine yN ?_
   refine h_condF rfl ?_
   refine h_reg ?_
   refine yM rfl ?_
   refine yS rfl ?_
   refine h_nil ?_
   refine q_block ?_
   exact h_back (a, (a + b) / 2) (⟨h1, hc, by dsimp only; omega⟩) ((show (a + b) / 2 - a < b - a by omega)) ⟨rfl, rfl, rfl, trivial⟩ (same)
  ·rw [decide_eq_false hc] at hb
   refine h_call (hb.comes) rfl rfl rfl fun _ => ?_
   refine h_op (r_not rfl) ?_
   refine yN ?_
   refine h_condT rfl ?_
   refine h_reg ?_
   refine yM rfl ?_
   refine h_op (r_add rfl rfl) ?_
   refine yS rfl ?_
   refine h_nil ?_
   refine q_block ?_
   exact h_back ((a + b) / 2 + 1, b) (⟨by dsimp only; omega, h2, h3⟩) ((show b - ((a + b) / 2 + 1) < b - a by omega)) ⟨aI rfl (by omega), rfl, rfl, trivial⟩ (same)
 ·obtain rfl : a = m := by omega
  refine h_exit ?_
  refine q_thenE ?_
  refine q_thenE ?_
  refine q_blockE ?_
  refine q_then ?_
  refine yR ?_
  refine yM rfl ?_
  refine yS rfl ?_
  refine yN ?_
  refine h_ret ?_
  exact h_ret1 rfl rfl fun w s => ⟨(), rfl, s.res (List.nil_sublist _) (by simp)⟩
theorem Split_s (l : List B32) (A : Option Addr) (c i m : Nat) (hi : i < 256) (hl : l.length ≤ 1000000) (hm : m ≤ l.length) (hp : ∀ j, j < l.length → bitAt (l.getD j zB32) i = decide (m ≤ j)) : Spec Tryz.prog 166 [.slice A l.length c, .int .i64 (i : Int)].toArray [.rd A (dgs l)] [] (fun _ : Unit => .int .i64 (m : Int)) (fun _ => []) := by
 refine spec_of Tryz.func166 rfl (n := 9) rfl rfl ?_
 intro W
 refine yR ?_
 refine h_opX (x_box1 rfl) fun g2 => ?_
 refine h_opX (x_box1 rfl) fun g3 => ?_
 refine yS rfl ?_
 refine yN ?_
 refine yR ?_
 refine h_op (r_loadc rfl) ?_
 refine h_op (r_len rfl) ?_
 refine h_op (r_func rfl rfl) ?_
 refine h_call ((Search_s l A c i g2 g3 m hi hl hm hp).comes) rfl rfl rfl fun _ => ?_
 refine yS rfl ?_
 refine yN ?_
 refine h_ret ?_
 exact h_ret1 rfl rfl fun w s => ⟨(), rfl, s.res (List.nil_sublist _) (by simp)⟩
end Go.Proofs.YtjhocljhhpkiiaaGreatDoor
/- U71 -/
namespace Go.Proofs.YtjhocljhhpkiiaaGreatDoor
open Go.RowKit
def Tr.ht : Tr → Nat
 | .node l r => max l.ht r.ht + 1
 | _ => 0
def Tr.sz : Tr → Nat
 | .node l r => l.sz + r.sz + 1
 | _ => 1
theorem dgs_takeZ {h : Zh} {A : Option Addr} {ks : List B32} (hr : RdZ h A (dgs ks)) (m : Nat) : RdZ h A (dgs (ks.take m)) := by
 have e : dgs ks = dgs (ks.take m) ++ dgs (ks.drop m) := by rw [← dgs_append, List.take_append_drop]
 refine ⟨fun j v hv => hr.at_ j v ?_⟩
 rw [e, List.getElem?_append_left (List.getElem?_eq_some_iff.1 hv).1]
 exact hv
theorem dgs_dropZ {h : Zh} {A : Option Addr} {ks : List B32} {c m : Nat} (hr : RdZ h A (dgs ks)) (hm : m ≤ ks.length) (hc : ks.length ≤ c) : RdZ h (cutA A c m 32) (dgs (ks.drop m)) := by
 have e : dgs ks = dgs (ks.take m) ++ dgs (ks.drop m) := by rw [← dgs_append, List.take_append_drop]
 have hl : (dgs (ks.take m)).length = m * 32 := by rw [dgs_len, List.length_take, Nat.min_eq_left hm]
 unfold cutA
 split
 ·have : ks.drop m = [] := List.drop_of_length_le (by omega)
  rw [this]
  exact RdZ.nil _ _
 ·refine ⟨fun j v hv => ?_⟩
  have h1 := hr.at_ (m * 32 + j) v (by rw [e, List.getElem?_append_right (by omega), hl, Nat.add_sub_cancel_left]; exact hv)
  obtain ⟨b, o, rfl, h2⟩ := h1
  exact ⟨b, o + m * 32, by simp [Addr.add_mid], by rw [Nat.add_assoc]; exact h2⟩
end Go.Proofs.YtjhocljhhpkiiaaGreatDoor
/- E19 -/
namespace Go.Proofs.YtjhocljhhpkiiaaGreatDoor
open Go.RowKit
theorem ltK_of {a b : B32} (h : cmpB a b < 0) : ltK a b := cmpB_bits h
theorem chk_ord : ∀ {l : List B32}, chkK l = 0 → l.Pairwise ltK
 | [], _ => .nil
 | [a], _ => List.pairwise_singleton ..
 | a :: b :: l, h => by
  unfold chkK at h
  split at h
  ·cases h
  ·split at h
   ·cases h
   ·have ih := chk_ord h
    have hab : ltK a b := ltK_of (by omega)
    refine List.pairwise_cons.2 ⟨fun x hx => ?_, ih⟩
    rcases List.mem_cons.1 hx with rfl | hx
    ·exact hab
    ·exact ltK_trans hab ((List.pairwise_cons.1 ih).1 x hx)
theorem keysE_ok {l : List B32} (h : keysE l = 0) : l.length ≠ 0 ∧ l.length ≤ 65535 ∧ l.Pairwise ltK := by
 unfold keysE at h
 split at h
 ·cases h
 ·split at h
  ·cases h
  ·exact ⟨by assumption, by omega, chk_ord h⟩
end Go.Proofs.YtjhocljhhpkiiaaGreatDoor
/- U68 -/
namespace Go.Proofs.YtjhocljhhpkiiaaGreatDoor
open Go.RowKit
def preS (n : Nat) : Sub → List UInt8
 | .one x => preI x
 | .two l r => preN (dgS n l) (dgS n r)
theorem preS_len (n : Nat) (t : Sub) : (preS n t).length ≤ 65 := by
 cases t with
 | one x => exact preI_len x
 | two l r => show (preN _ _).length ≤ 65; rw [preN_len]; exact Nat.le_refl _
theorem readM_at {d : Nat} {l : List Item} {at_ : Nat} {t : Sub} {r : List Item} (h : readM d (l.drop at_) = some (t, r)) : ∃ x, l[at_]? = some x ∧ ((x.kind ≠ 2 ∧ t = .one x ∧ r = l.drop (at_ + 1)) ∨ (x.kind = 2 ∧ ∃ d' t1 t2 m, d = d' + 1 ∧ t = .two t1 t2 ∧ at_ + 1 ≤ m ∧ m ≤ l.length ∧ readM d' (l.drop (at_ + 1)) = some (t1, l.drop m) ∧ readM d' (l.drop m) = some (t2, r))) := by
 cases hx : l[at_]? with
 | none =>
  rw [List.drop_of_length_le (List.getElem?_eq_none_iff.1 hx)] at h
  cases d <;> cases h
 | some x =>
  refine ⟨x, rfl, ?_⟩
  have hat := (List.getElem?_eq_some_iff.1 hx).1
  rw [drop_get hx] at h
  by_cases hk : x.kind = 2
  ·match d, h with
   | 0, h => unfold readM at h; rw [if_pos hk] at h; cases h
   | d + 1, h =>
    unfold readM at h
    rw [if_pos hk] at h
    obtain ⟨p, hp, h⟩ := Option.bind_eq_some_iff.1 h
    obtain ⟨q, hq, h⟩ := Option.bind_eq_some_iff.1 h
    obtain ⟨t1, r1⟩ := p
    obtain ⟨t2, r2⟩ := q
    obtain ⟨m, hm0, hml, rfl⟩ := readM_suffix d _ t1 r1 hp
    rw [List.length_drop] at hml
    simp only [Option.some.injEq, Prod.mk.injEq] at h
    rw [List.drop_drop] at hp hq
    refine .inr ⟨hk, d, t1, t2, at_ + 1 + m, rfl, h.1.symm, by omega, by omega, hp, ?_⟩
    rw [← h.2]
    exact hq
  ·have h' : readM d (x :: l.drop (at_ + 1)) = some (.one x, l.drop (at_ + 1)) := by cases d <;> (unfold readM; rw [if_neg hk])
   rw [h'] at h
   simp only [Option.some.injEq, Prod.mk.injEq] at h
   exact .inl ⟨hk, h.1.symm, h.2.symm⟩
section
variable (n : Nat) (hn : n ≤ 256) (l : List Item) (A : Option Addr) (c : Nat) (hl : l.length ≤ 1000000) (hok : l.all kindOk = true)
def RDig (d at_ : Nat) (t : Sub) : Prop := Spec Tryz.prog 95 [.int .i64 (n : Int), .slice A l.length c, .int .i64 (at_ : Int), .int .i64 (256 - (d : Int))].toArray [.rd A (its l)] [] (fun _ : Unit => .agg (dgS n t).cells.toArray) (fun _ => [])
def RPre (d at_ : Nat) (t : Sub) : Prop := Spec Tryz.prog 43 [.int .i64 (n : Int), .slice A l.length c, .int .i64 (at_ : Int), .int .i64 (256 - (d : Int))].toArray [.rd A (its l)] [] (fun u : Nat × Nat => .slice (some ⟨u.1, 0, none⟩) (preS n t).length u.2) (fun u => [.own (.slice (some ⟨u.1, 0, none⟩) (preS n t).length u.2) (preS n t).length 5 1 (bc (preS n t))])
include hl hok
theorem rPre_one (d at_ : Nat) (x : Item) (hx : l[at_]? = some x) (hk2 : x.kind ≠ 2) (hk3 : x.kind ≠ 3) : RPre n l A c d at_ (.one x) := by
 have hat : at_ < l.length := (List.getElem?_eq_some_iff.1 hx).1
 have hki := its_kind hx
 have hlf := its_lf hx
 have hkd : x.kind = 0 ∨ x.kind = 1 := by
  have := List.all_eq_true.1 hok x (List.mem_of_getElem? hx)
  unfold kindOk at this
  simp at this
  omega
 show Spec _ _ _ _ _ (fun u : Nat × Nat => .slice (some ⟨u.1, 0, none⟩) (preI x).length u.2) (fun u => [.own (.slice (some ⟨u.1, 0, none⟩) (preI x).length u.2) (preI x).length 5 1 (bc (preI x))])
 refine spec_of Tryz.func43 rfl (n := 46) rfl rfl ?_
 intro W
 refine h_pure (φ := ∃ b o, A = some ⟨b, o, none⟩) (fun w s => Rd.some (s.ok (.rd A (its l)) (by simp)) (by rw [its_len]; omega)) ?_
 rintro ⟨b, o, rfl⟩
 by_cases h1 : x.kind = 1
 ·rw [show preI x = preL x.leaf from if_pos h1]
  refine yR ?_
  refine yS rfl ?_
  refine yN ?_
  refine h_seq ?_
  refine yR ?_
  refine yM rfl ?_
  refine yM rfl ?_
  refine h_op (r_idx rfl rfl) ?_
  refine h_op (r_field rfl) ?_
  refine h_op (r_nth rfl hki) ?_
  refine yN ?_
  refine h_block ?_
  refine yR ?_
  refine h_op (r_bool (r_eql rfl rfl) (decide_eq_false (by omega))) ?_
  refine yS rfl ?_
  refine yN ?_
  refine h_condF rfl ?_
  refine yR ?_
  refine h_op (r_bool (r_eql rfl rfl) (decide_eq_true h1)) ?_
  refine yS rfl ?_
  refine yN ?_
  refine h_condT rfl ?_
  refine yR ?_
  refine yM rfl ?_
  refine yM rfl ?_
  refine h_op (r_idx rfl rfl) ?_
  refine h_op (r_field rfl (O' := o + (at_ * 97 + 33)) (by omega)) ?_
  refine h_op (r_nthr rfl (out := x.leaf.cells) (Leaf.cells_length _) hlf) ?_
  refine h_call ((rLeaf_s x.leaf).comes) rfl rfl rfl fun ⟨g25, c25⟩ => ?_
  refine yS rfl ?_
  refine yN ?_
  refine h_ret ?_
  refine q_blockR ?_
  refine q_thenR ?_
  exact h_ret1 rfl rfl fun w s => ⟨(g25, c25), rfl, (same w s).res (List.Sublist.refl _) (by simp [Fa.wr])⟩
 ·rw [show preI x = [3] from if_neg h1, show ([3] : List UInt8).length = 1 from rfl]
  refine yR ?_
  refine yS rfl ?_
  refine yN ?_
  refine h_seq ?_
  refine yR ?_
  refine yM rfl ?_
  refine yM rfl ?_
  refine h_op (r_idx rfl rfl) ?_
  refine h_op (r_field rfl) ?_
  refine h_op (r_nth rfl hki) ?_
  refine yN ?_
  refine h_block ?_
  refine yR ?_
  refine h_op (r_bool (r_eql rfl rfl) (decide_eq_true (by omega))) ?_
  refine yS rfl ?_
  refine yN ?_
  refine h_condT rfl ?_
  refine yR ?_
  refine h_opX (x_bslV (ys := [.int .u8 3]) (bc [3]) rfl rfl (bc_one _)) fun g17 => ?_
  refine yS rfl ?_
  refine yN ?_
  refine h_ret ?_
  refine q_blockR ?_
  refine q_thenR ?_
  exact h_ret1 rfl rfl fun w s => ⟨(g17, 1), rfl, (same (L' := [.own (.slice (some ⟨g17, 0, none⟩) 1 1) 1 5 1 (bc [3])]) w s).res (List.Sublist.refl _) (by simp [Fa.wr])⟩
omit hok in
theorem rPre_two (d at_ : Nat) (hd : d < 256) (x : Item) (hx : l[at_]? = some x) (hk2 : x.kind = 2) (t1 t2 : Sub) (m : Nat) (h1 : readM d (l.drop (at_ + 1)) = some (t1, l.drop m)) (hm : at_ + 1 ≤ m ∧ m ≤ l.length) (hD1 : RDig n l A c d (at_ + 1) t1) (hD2 : RDig n l A c d m t2) : RPre n l A c (d + 1) at_ (.two t1 t2) := by
 have hat : at_ < l.length := (List.getElem?_eq_some_iff.1 hx).1
 have hki := its_kind hx
 have hSk := Skip_s l A c hl d (by omega) (at_ + 1)
 rw [h1, show skipI l (some (t1, l.drop m)) = (m : Int) by simp only [skipI, List.length_drop]; omega] at hSk
 unfold RDig at hD1 hD2
 show Spec _ _ _ _ _ (fun u : Nat × Nat => .slice (some ⟨u.1, 0, none⟩) (preN (dgS n t1) (dgS n t2)).length u.2) (fun u => [.own (.slice (some ⟨u.1, 0, none⟩) (preN (dgS n t1) (dgS n t2)).length u.2) (preN (dgS n t1) (dgS n t2)).length 5 1 (bc (preN (dgS n t1) (dgS n t2)))])
 refine spec_of Tryz.func43 rfl (n := 46) rfl rfl ?_
 intro W
 refine h_pure (φ := ∃ b o, A = some ⟨b, o, none⟩) (fun w s => Rd.some (s.ok (.rd A (its l)) (by simp)) (by rw [its_len]; omega)) ?_
 rintro ⟨b, o, rfl⟩
 refine yR ?_
 refine yS rfl ?_
 refine yN ?_
 refine h_seq ?_
 refine yR ?_
 refine yM rfl ?_
 refine yM rfl ?_
 refine h_op (r_idx rfl rfl) ?_
 refine h_op (r_field rfl) ?_
 refine h_op (r_nth rfl hki) ?_
 refine yN ?_
 refine h_block ?_
 refine yR ?_
 refine h_op (r_bool (r_eql rfl rfl) (decide_eq_false (by omega))) ?_
 refine yS rfl ?_
 refine yN ?_
 refine h_condF rfl ?_
 refine yR ?_
 refine h_op (r_bool (r_eql rfl rfl) (decide_eq_false (by omega))) ?_
 refine yS rfl ?_
 refine yN ?_
 refine h_condF rfl ?_
 refine h_skip ?_
 refine q_block ?_
 refine q_then ?_
 refine yR ?_
 refine yM rfl ?_
 refine yM rfl ?_
 refine h_op (r_int (r_add rfl rfl) (show _ = ((at_ + 1 : Nat) : Int) by omega)) ?_
 refine yM rfl ?_
 refine h_op (r_int (r_add rfl rfl) (show _ = 256 - (d : Int) by omega)) ?_
 refine h_call (hSk.comes) rfl rfl rfl fun _ => ?_
 refine yS rfl ?_
 refine yN ?_
 refine yR ?_
 refine yM rfl ?_
 refine yM rfl ?_
 refine yM rfl ?_
 refine h_op (r_int (r_add rfl rfl) (show _ = ((at_ + 1 : Nat) : Int) by omega)) ?_
 refine yM rfl ?_
 refine h_op (r_int (r_add rfl rfl) (show _ = 256 - (d : Int) by omega)) ?_
 refine h_call (hD1.comes) rfl rfl rfl fun _ => ?_
 refine yM rfl ?_
 refine yM rfl ?_
 refine yM rfl ?_
 refine yM rfl ?_
 refine h_op (r_int (r_add rfl rfl) (show _ = 256 - (d : Int) by omega)) ?_
 refine h_call (hD2.comes) rfl rfl rfl fun _ => ?_
 refine h_call ((rNode_s (dgS n t1) (dgS n t2)).comes) rfl rfl rfl fun ⟨g45, c45⟩ => ?_
 refine yS rfl ?_
 refine yN ?_
 refine h_ret ?_
 exact h_ret1 rfl rfl fun w s => ⟨(g45, c45), rfl, (same w s).res (List.Sublist.refl _) (by simp [Fa.wr])⟩
include hn
omit hok hn in
theorem rDig_3 (d at_ : Nat) (x : Item) (hx : l[at_]? = some x) (hk3 : x.kind = 3) : RDig n l A c d at_ (.one x) := by
 have hat : at_ < l.length := (List.getElem?_eq_some_iff.1 hx).1
 have hki := its_kind hx
 have hdg := its_dg hx
 unfold RDig
 rw [show dgS n (.one x) = x.digest from if_pos hk3]
 refine spec_of Tryz.func95 rfl (n := 27) rfl rfl ?_
 intro W
 refine h_pure (φ := ∃ b o, A = some ⟨b, o, none⟩) (fun w s => Rd.some (s.ok (.rd A (its l)) (by simp)) (by rw [its_len]; omega)) ?_
 rintro ⟨b, o, rfl⟩
 refine yR ?_
 refine h_opX (x_alloc) fun g8 => ?_
 refine yN ?_
 refine h_seq ?_
 refine yR ?_
 refine yM rfl ?_
 refine yM rfl ?_
 refine h_op (r_idx rfl rfl) ?_
 refine h_op (r_field rfl) ?_
 refine h_op (r_nth rfl hki) ?_
 refine h_op (r_bool (r_eql rfl rfl) (decide_eq_true hk3)) ?_
 refine yN ?_
 refine h_condT rfl ?_
 refine yR ?_
 refine yM rfl ?_
 refine yM rfl ?_
 refine h_op (r_idx rfl rfl) ?_
 refine h_op (r_field rfl (O' := o + (at_ * 97 + 1)) (by omega)) ?_
 refine h_op (r_nthr rfl (out := x.digest.cells) (B32.cells_length _) hdg) ?_
 refine h_opS (s_storer rfl rfl) ?_
 refine yN ?_
 refine h_ret ?_
 refine q_thenR ?_
 exact h_ret1 rfl (rv_row rfl) fun w s => ⟨(), rfl, s.res (List.nil_sublist _) (by simp)⟩
omit hok in
theorem rDig_pre (d at_ : Nat) (x : Item) (hx : l[at_]? = some x) (hk3 : x.kind ≠ 3) (t : Sub) (ht : dgS n t = sumB n (preS n t)) (hP : RPre n l A c d at_ t) : RDig n l A c d at_ t := by
 have hat : at_ < l.length := (List.getElem?_eq_some_iff.1 hx).1
 have hki := its_kind hx
 have hpl := preS_len n t
 unfold RPre at hP
 unfold RDig
 rw [ht]
 refine spec_of Tryz.func95 rfl (n := 27) rfl rfl ?_
 intro W
 refine h_pure (φ := ∃ b o, A = some ⟨b, o, none⟩) (fun w s => Rd.some (s.ok (.rd A (its l)) (by simp)) (by rw [its_len]; omega)) ?_
 rintro ⟨b, o, rfl⟩
 refine yR ?_
 refine h_opX (x_alloc) fun g8 => ?_
 refine yN ?_
 refine h_seq ?_
 refine yR ?_
 refine yM rfl ?_
 refine yM rfl ?_
 refine h_op (r_idx rfl rfl) ?_
 refine h_op (r_field rfl) ?_
 refine h_op (r_nth rfl hki) ?_
 refine h_op (r_bool (r_eql rfl rfl) (decide_eq_false hk3)) ?_
 refine yN ?_
 refine h_condF rfl ?_
 refine h_skip ?_
 refine q_then ?_
 refine yR ?_
 refine yM rfl ?_
 refine yM rfl ?_
 refine yM rfl ?_
 refine yM rfl ?_
 refine yM rfl ?_
 refine h_call (hP.comes) rfl rfl rfl fun ⟨g25, c25⟩ => ?_
 refine h_call ((refSum5_s n hn (preS n t) (some ⟨g25, 0, none⟩) c25 (fun h => by cases h) (by omega)).comes) rfl rfl rfl fun _ => ?_
 refine h_opS (s_storer rfl rfl) ?_
 refine yN ?_
 refine h_ret ?_
 exact h_ret1 rfl (rv_row rfl) fun w s => ⟨(), rfl, s.res (List.nil_sublist _) (by simp)⟩
theorem rDig_s : ∀ (t : Sub) (d : Nat), d ≤ 256 → ∀ (at_ : Nat) (r : List Item), readM d (l.drop at_) = some (t, r) → RDig n l A c d at_ t
 | .one x, d, hd, at_, r, h => by
  obtain ⟨y, hy, ⟨hk, e, _⟩ | ⟨_, d', t1, t2, m, _, e, _⟩⟩ := readM_at h
  ·injection e with e
   subst e
   by_cases h3 : x.kind = 3
   ·exact rDig_3 n l A c hl d at_ x hy h3
   ·exact rDig_pre n hn l A c hl d at_ x hy h3 _ (if_neg h3) (rPre_one n l A c hl hok d at_ x hy hk h3)
  ·cases e
 | .two t1 t2, d, hd, at_, r, h => by
  obtain ⟨y, hy, ⟨hk, e, _⟩ | ⟨hk, d', t1', t2', m, rfl, e, hm1, hm2, h1, h2⟩⟩ := readM_at h
  ·cases e
  ·injection e with e1 e2
   subst e1 e2
   have i1 := rDig_s t1 d' (by omega) (at_ + 1) _ h1
   have i2 := rDig_s t2 d' (by omega) m _ h2
   exact rDig_pre n hn l A c hl (d' + 1) at_ y hy (by omega) _ rfl (rPre_two n l A c hl d' at_ (by omega) y hy hk t1 t2 m h1 ⟨hm1, hm2⟩ i1 i2)
end
end Go.Proofs.YtjhocljhhpkiiaaGreatDoor
/- E21 -/
namespace Go.Proofs.YtjhocljhhpkiiaaGreatDoor
open Go.RowKit
def Sub.ways (k : B32) : Sub → Nat → List Sub
 | .one x, _ => [.one x]
 | .two l r, d => .two l r :: if bitAt k d then r.ways k (d + 1) else l.ways k (d + 1)
theorem ways_len (k : B32) : ∀ (t : Sub) (d i : Nat), (t.ways k d).length = (t.way k d i).length
 | .one _, _, _ => rfl
 | .two l r, d, i => by
  show (if bitAt k d then r.ways k (d + 1) else l.ways k (d + 1)).length + 1 = (if bitAt k d then r.way k (d + 1) (i + 1 + l.sz) else l.way k (d + 1) (i + 1)).length + 1
  cases bitAt k d
  ·exact congrArg (· + 1) (ways_len k l (d + 1) (i + 1))
  ·exact congrArg (· + 1) (ways_len k r (d + 1) (i + 1 + l.sz))
theorem way_pos (k : B32) (t : Sub) (d i : Nat) : 0 < (t.way k d i).length := by cases t <;> exact Nat.succ_pos _
theorem way_depth (k : B32) : ∀ (t : Sub) (d i : Nat), (t.way k d i).length = (t.endI k d).2 - d + 1 ∧ d ≤ (t.endI k d).2 ∧ (t.endI k d).2 ≤ d + t.ht
 | .one _, d, i => ⟨by show 1 = d - d + 1; omega, Nat.le_refl _, Nat.le_refl _⟩
 | .two l r, d, i => by
  have h1 := way_depth k l (d + 1) (i + 1)
  have h2 := way_depth k r (d + 1) (i + 1 + l.sz)
  show (if bitAt k d then r.way k (d + 1) (i + 1 + l.sz) else l.way k (d + 1) (i + 1)).length + 1 = (if bitAt k d then r.endI k (d + 1) else l.endI k (d + 1)).2 - d + 1 ∧ d ≤ (if bitAt k d then r.endI k (d + 1) else l.endI k (d + 1)).2 ∧ (if bitAt k d then r.endI k (d + 1) else l.endI k (d + 1)).2 ≤ d + (max l.ht r.ht + 1)
  cases bitAt k d
  ·obtain ⟨a, b, c⟩ := h1
   refine ⟨?_, ?_, ?_⟩ <;> simp only [Bool.false_eq_true, if_false] <;> omega
  ·obtain ⟨a, b, c⟩ := h2
   refine ⟨?_, ?_, ?_⟩ <;> simp only [if_true] <;> omega
structure At (l : List Item) (s : Sub) (d i : Nat) : Prop where
 ok : s.ok
 ht : d + s.ht ≤ 256
 le : i ≤ l.length
 eq : ∃ rest, l.drop i = s.flat ++ rest
theorem At.start {l : List Item} {t : Sub} (h : parseM l = .ok t) : At l t 0 0 := by
 obtain ⟨h1, h2, h3⟩ := parse_flat h
 exact ⟨h2, by omega, Nat.zero_le _, [], by rw [List.drop_zero, List.append_nil]; exact h1⟩
theorem At.read {l : List Item} {s : Sub} {d i : Nat} (h : At l s d i) : ∃ rest, readM (256 - d) (l.drop i) = some (s, rest) ∧ l.length = i + s.sz + rest.length := by
 obtain ⟨rest, e⟩ := h.eq
 refine ⟨rest, ?_, ?_⟩
 ·rw [e]; exact read_flat s _ _ h.ok (by have := h.ht; omega)
 ·have := congrArg List.length e
  rw [List.length_drop, List.length_append, Sub.flat_len] at this
  have := h.le
  have := s.sz_pos
  omega
theorem At.lt {l : List Item} {s : Sub} {d i : Nat} (h : At l s d i) : i < l.length := by
 obtain ⟨rest, _, e⟩ := h.read
 have := s.sz_pos
 omega
theorem At.skip {l : List Item} {s : Sub} {d i : Nat} (h : At l s d i) : skipI l (readM (256 - d) (l.drop i)) = ((i + s.sz : Nat) : Int) := by
 obtain ⟨rest, e, e2⟩ := h.read
 rw [e]
 show (l.length : Int) - (rest.length : Int) = _
 omega
theorem At.one {l : List Item} {x : Item} {d i : Nat} (h : At l (.one x) d i) : l[i]? = some x := by
 obtain ⟨rest, e⟩ := h.eq
 have := congrArg (·[0]?) e
 simpa [List.getElem?_drop, Sub.flat] using this
theorem At.two {l : List Item} {a b : Sub} {d i : Nat} (h : At l (.two a b) d i) : l[i]? = some innerI ∧ At l a (d + 1) (i + 1) ∧ At l b (d + 1) (i + 1 + a.sz) := by
 obtain ⟨rest, e⟩ := h.eq
 have e' : l.drop i = innerI :: (a.flat ++ (b.flat ++ rest)) := by rw [e]; show innerI :: (a.flat ++ b.flat ++ rest) = _; rw [List.append_assoc]
 have hht : d + (max a.ht b.ht + 1) ≤ 256 := h.ht
 have hlt := h.lt
 have e1 : l.drop (i + 1) = a.flat ++ (b.flat ++ rest) := by
  rw [← List.drop_drop, e']; rfl
 have hl1 : l.length - (i + 1) = a.sz + (b.sz + rest.length) := by
  have := congrArg List.length e1
  rwa [List.length_drop, List.length_append, List.length_append, Sub.flat_len, Sub.flat_len] at this
 refine ⟨?_, ⟨h.ok.1, by omega, by omega, _, e1⟩, ⟨h.ok.2, by omega, by have := b.sz_pos; omega, rest, ?_⟩⟩
 ·have := congrArg (·[0]?) e'
  simpa [List.getElem?_drop] using this
 ·rw [← List.drop_drop, e1, ← a.flat_len, List.drop_left]
theorem way_at (k : B32) {l : List Item} : ∀ {t : Sub} {d i : Nat}, At l t d i → ∀ {j w : Nat}, (t.way k d i)[j]? = some w → ∃ s, (t.ways k d)[j]? = some s ∧ At l s (d + j) w
  | .one x, d, i, h, j, w, hj => by
    cases j with
    | zero => obtain rfl : i = w := by simpa [Sub.way] using hj
              exact ⟨_, rfl, h⟩
    | succ j => simp [Sub.way] at hj
  | .two a b, d, i, h, j, w, hj => by
    obtain ⟨_, ha, hb⟩ := h.two
    cases j with
    | zero => obtain rfl : i = w := by simpa [Sub.way] using hj
              exact ⟨_, rfl, h⟩
    | succ j =>
      have e : (Sub.two a b).way k d i = i :: if bitAt k d then b.way k (d + 1) (i + 1 + a.sz) else a.way k (d + 1) (i + 1) := rfl
      have e2 : (Sub.two a b).ways k d = .two a b :: if bitAt k d then b.ways k (d + 1) else a.ways k (d + 1) := rfl
      rw [e, List.getElem?_cons_succ] at hj
      rw [e2]
      simp only [List.getElem?_cons_succ]
      cases hbit : bitAt k d
      · rw [hbit, if_neg (by simp)] at hj
        obtain ⟨s, h1, h2⟩ := way_at k ha hj
        exact ⟨s, by rw [if_neg (by simp)]; exact h1, by rw [show d + (j + 1) = d + 1 + j by omega]; exact h2⟩
      · rw [hbit, if_pos rfl] at hj
        obtain ⟨s, h1, h2⟩ := way_at k hb hj
        exact ⟨s, by rw [if_pos rfl]; exact h1, by rw [show d + (j + 1) = d + 1 + j by omega]; exact h2⟩
theorem way_last (k : B32) {l : List Item} : ∀ {t : Sub} {d i : Nat}, At l t d i → ∃ w, (t.way k d i)[(t.way k d i).length - 1]? = some w ∧ l[w]? = some (t.endI k d).1 ∧ w < l.length
 | .one x, d, i, h => ⟨i, rfl, h.one, h.lt⟩
 | .two a b, d, i, h => by
  obtain ⟨_, ha, hb⟩ := h.two
  have e : (Sub.two a b).way k d i = i :: if bitAt k d then b.way k (d + 1) (i + 1 + a.sz) else a.way k (d + 1) (i + 1) := rfl
  have e2 : (Sub.two a b).endI k d = if bitAt k d then b.endI k (d + 1) else a.endI k (d + 1) := rfl
  cases hbit : bitAt k d
  ·obtain ⟨w, h1, h2, h3⟩ := way_last k ha
   have hp := way_pos k a (d + 1) (i + 1)
   refine ⟨w, ?_, by rw [e2, hbit]; exact h2, h3⟩
   rw [e, hbit, if_neg (by simp), List.length_cons, Nat.add_sub_cancel]
   obtain ⟨m, hm⟩ : ∃ m, (a.way k (d + 1) (i + 1)).length = m + 1 := ⟨_, (Nat.sub_add_cancel hp).symm⟩
   rw [hm] at h1 ⊢
   rw [List.getElem?_cons_succ]
   exact h1
  ·obtain ⟨w, h1, h2, h3⟩ := way_last k hb
   have hp := way_pos k b (d + 1) (i + 1 + a.sz)
   refine ⟨w, ?_, by rw [e2, hbit]; exact h2, h3⟩
   rw [e, hbit, if_pos rfl, List.length_cons, Nat.add_sub_cancel]
   obtain ⟨m, hm⟩ : ∃ m, (b.way k (d + 1) (i + 1 + a.sz)).length = m + 1 := ⟨_, (Nat.sub_add_cancel hp).symm⟩
   rw [hm] at h1 ⊢
   rw [List.getElem?_cons_succ]
   exact h1
end Go.Proofs.YtjhocljhhpkiiaaGreatDoor
/- U76 -/
namespace Go.Proofs.YtjhocljhhpkiiaaGreatDoor
open Go.RowKit
theorem Way_s (l : List Item) (A : Option Addr) (c : Nat) (hl : l.length ≤ 1000000) (t : Sub) (hp : parseM l = .ok t) (key : B32) : Spec Tryz.prog 42 [.slice A l.length c, .agg key.cells.toArray].toArray [.rd A (its l)] [] (fun u : Nat × Nat => .slice (some ⟨u.1, 0, none⟩) (t.way key 0 0).length u.2) (fun u => [.own (.slice (some ⟨u.1, 0, none⟩) (t.way key 0 0).length u.2) (t.way key 0 0).length 3 1 (ic (t.way key 0 0))]) := by
 have hst := At.start hp
 refine spec_of Tryz.func42 rfl (n := 36) rfl rfl ?_
 intro W
 refine h_pure (φ := ∃ b o, A = some ⟨b, o, none⟩) (fun w s => Rd.some (s.ok (.rd A (its l)) (by simp)) (by rw [its_len]; have := hst.lt; omega)) ?_
 rintro ⟨b, o, rfl⟩
 refine yR ?_
 refine h_opX (x_box rfl) fun g3 => ?_
 refine yS rfl ?_
 refine yN ?_
 refine yR ?_
 refine yS rfl ?_
 refine yN ?_
 refine yR ?_
 refine h_opX (x_bslI [0] rfl) fun g9 => ?_
 refine yS rfl ?_
 refine yN ?_
 refine h_seq ?_
 refine yR ?_
 refine yS rfl ?_
 refine yN ?_
 refine h_block ?_
 change H _ _ _ _ _ (.own (.slice (some ⟨g9, 0, none⟩) ([] ++ [0] : List Nat).length 1) ([] ++ [0] : List Nat).length _ _ (ic ([] ++ [0])) :: _) _
 refine h_loop (fun (s : Sub × Nat × Nat × List Nat × Nat × Nat) => At l s.1 s.2.1 s.2.2.1 ∧ t.way key 0 0 = s.2.2.2.1 ++ s.1.way key s.2.1 s.2.2.1 ∧ s.2.2.2.1.length = s.2.1) (fun (s : Sub × Nat × Nat × List Nat × Nat × Nat) => [(0, .slice (some ⟨b, o, none⟩) l.length c), (5, .int .i64 (s.2.2.1 : Int)), (6, .slice (some ⟨s.2.2.2.2.1, 0, none⟩) (s.2.2.2.1 ++ [s.2.2.1]).length s.2.2.2.2.2), (7, .int .i64 (s.2.1 : Int)), (3, .pointer (some ⟨g3, 0, none⟩))]) (fun (s : Sub × Nat × Nat × List Nat × Nat × Nat) => [.own (.slice (some ⟨s.2.2.2.2.1, 0, none⟩) (s.2.2.2.1 ++ [s.2.2.1]).length s.2.2.2.2.2) (s.2.2.2.1 ++ [s.2.2.1]).length 3 1 (ic (s.2.2.2.1 ++ [s.2.2.1])), .blk g3 key.cells 35, .rd (some ⟨b, o, none⟩) (its l)]) (fun (s : Sub × Nat × Nat × List Nat × Nat × Nat) => s.1.sz) (t, 0, 0, [], g9, 1) (⟨hst, rfl, rfl⟩) ⟨rfl, rfl, rfl, rfl, rfl, trivial⟩ (same) ?_
 rintro ⟨s, d, i, pre, g, c'⟩ ⟨ha, hw, hpl⟩
 dsimp only at ha hw hpl ⊢
 have hlt := ha.lt
 rcases s with x | ⟨s1, s2⟩
 ·have hx := ha.one
  have hk : x.kind ≠ 2 := ha.ok.1
  have hki := its_kind hx
  replace hw : t.way key 0 0 = pre ++ [i] := hw
  rw [← hw]
  refine h_seq ?_
  refine yR ?_
  refine yM rfl ?_
  refine yM rfl ?_
  refine h_op (r_idx rfl rfl) ?_
  refine h_op (r_field rfl) ?_
  refine h_op (r_nth rfl hki) ?_
  refine h_op (r_bool (r_eql rfl rfl) (decide_eq_false hk)) ?_
  refine yN ?_
  refine h_condF rfl ?_
  refine h_exit ?_
  refine q_thenE ?_
  refine q_thenE ?_
  refine q_blockE ?_
  refine q_then ?_
  refine yR ?_
  refine yM rfl ?_
  refine yS rfl ?_
  refine yN ?_
  refine h_ret ?_
  exact h_ret1 rfl rfl fun w s => ⟨(g, c'), rfl, (same w s).res (List.Sublist.refl _) (by simp [Fa.wr])⟩
 ·obtain ⟨hx, h1, h2⟩ := ha.two
  have hki := its_kind hx
  have hht : d + (max s1.ht s2.ht + 1) ≤ 256 := ha.ht
  have hSk := Skip_s l (some ⟨b, o, none⟩) c hl (256 - (d + 1)) (by omega) (i + 1)
  rw [h1.skip, show (256 : Int) - ((256 - (d + 1) : Nat) : Int) = ((d + 1 : Nat) : Int) by omega] at hSk
  have hpl2 : (pre ++ [i]).length = d + 1 := by rw [List.length_append, hpl]; rfl
  have hl2 : ∀ j, (pre ++ [i]).length + 1 = (pre ++ [i] ++ [j]).length := fun j => by simp only [List.length_append, List.length_cons, List.length_nil]
  have hs2 := s2.sz_pos
  replace hw : t.way key 0 0 = pre ++ (i :: if bitAt key d then s2.way key (d + 1) (i + 1 + s1.sz) else s1.way key (d + 1) (i + 1)) := hw
  refine h_seq ?_
  refine yR ?_
  refine yM rfl ?_
  refine yM rfl ?_
  refine h_op (r_idx rfl rfl) ?_
  refine h_op (r_field rfl) ?_
  refine h_op (r_nth rfl hki) ?_
  refine h_op (r_bool (r_eql rfl rfl) (show _ = true from rfl)) ?_
  refine yN ?_
  refine h_condT rfl ?_
  refine h_skip ?_
  refine q_then ?_
  refine h_seq ?_
  refine h_block ?_
  refine yR ?_
  refine yM rfl ?_
  refine h_op (r_int (r_add rfl rfl) (show _ = ((i + 1 : Nat) : Int) by omega)) ?_
  refine yS rfl ?_
  refine yN ?_
  refine h_seq ?_
  refine yR ?_
  refine h_op (r_loadr rfl) ?_
  refine yM rfl ?_
  refine h_call ((refBit_s key d (by omega)).comes) rfl rfl rfl fun _ => ?_
  refine h_op (r_bool (r_eql rfl rfl) (bitN_one key d)) ?_
  refine yN ?_
  refine h_condB rfl (fun hb => ?_) (fun hb => ?_)
  ·rw [hb, if_pos rfl] at hw
   refine h_reg ?_
   refine yM rfl ?_
   refine yM rfl ?_
   refine h_op (r_int (r_add rfl rfl) (show _ = ((i + 1 : Nat) : Int) by omega)) ?_
   refine yM rfl ?_
   refine h_op (r_int (r_add rfl rfl) (show _ = ((d + 1 : Nat) : Int) by omega)) ?_
   refine h_call (hSk.comes) rfl rfl rfl fun _ => ?_
   refine yS rfl ?_
   refine yN ?_
   refine yR ?_
   refine yM rfl ?_
   refine yS rfl ?_
   refine yN ?_
   refine h_reg ?_
   refine yM rfl ?_
   refine yM rfl ?_
   refine h_opX (x_bsl rfl rfl) fun g33 => ?_
   refine h_opX (x_app1I rfl rfl) fun ⟨g34, c34⟩ => ?_
   refine yS rfl ?_
   refine h_nil ?_
   refine q_block ?_
   refine q_then ?_
   refine h_reg ?_
   refine yM rfl ?_
   refine h_op (r_add rfl rfl) ?_
   refine yS rfl ?_
   refine h_nil ?_
   rw [hl2 (i + 1 + s1.sz)]
   exact h_back (s2, d + 1, i + 1 + s1.sz, pre ++ [i], g34, c34) (⟨h2, by dsimp only; rw [hw]; simp, by dsimp only; rw [hpl2]⟩) ((show s2.sz < s1.sz + s2.sz + 1 by omega)) ⟨rfl, rfl, rfl, aI rfl (by dsimp only; omega), rfl, trivial⟩ (same)
  ·rw [hb, if_neg (by simp)] at hw
   refine h_skip ?_
   refine q_then ?_
   refine yR ?_
   refine yM rfl ?_
   refine yS rfl ?_
   refine yN ?_
   refine h_reg ?_
   refine yM rfl ?_
   refine yM rfl ?_
   refine h_opX (x_bsl rfl rfl) fun g33 => ?_
   refine h_opX (x_app1I rfl rfl) fun ⟨g34, c34⟩ => ?_
   refine yS rfl ?_
   refine h_nil ?_
   refine q_block ?_
   refine q_then ?_
   refine h_reg ?_
   refine yM rfl ?_
   refine h_op (r_add rfl rfl) ?_
   refine yS rfl ?_
   refine h_nil ?_
   rw [hl2 (i + 1)]
   exact h_back (s1, d + 1, i + 1, pre ++ [i], g34, c34) (⟨h1, by dsimp only; rw [hw]; simp, by dsimp only; rw [hpl2]⟩) ((show s1.sz < s1.sz + s2.sz + 1 by omega)) ⟨rfl, rfl, rfl, aI rfl (by dsimp only; omega), rfl, trivial⟩ (same)
end Go.Proofs.YtjhocljhhpkiiaaGreatDoor
/- U75 -/
namespace Go.Proofs.YtjhocljhhpkiiaaGreatDoor
open Go.RowKit
instance iU75_1 : TZero Tryz.prog 232 (.agg [.nilIface, .nilIface].toArray) := ⟨fun w => by kernel_rfl⟩
def endC (l : List (Item × Nat)) : List Value := l.flatMap fun x => End.cells ⟨x.1, (x.2 : Int)⟩
theorem endC_len (l : List (Item × Nat)) : (endC l).length = l.length * 98 := by
 unfold endC
 induction l with
 | nil => rfl
 | cons x l ih => rw [List.flatMap_cons, List.length_append, ih, List.length_cons, End.cells_length]; omega
theorem endC_snoc (l : List (Item × Nat)) (x : Item × Nat) : endC l ++ End.cells ⟨x.1, (x.2 : Int)⟩ = endC (l ++ [x]) := by unfold endC; rw [List.flatMap_append]; simp
section
variable (h : Zh)
theorem ends_one (x : Item) (ks : List B32) (B : Option Addr) (cc d : Nat) (hks : ks.length ≤ 100000) (out : List (Item × Nat)) (A : Option Addr) (c : Nat) (ho : out.length + ks.length ≤ 1000000) (b : Bool) (hb : (x.kind != 3 || ks.isEmpty) = b) : Spec Tryz.prog 205 [.slice A out.length c, .iface (Sub.one x).tag (Sub.one x).val, .slice B ks.length cc, .int .i64 (d : Int)].toArray [.zone false h] [.own (.slice A out.length c) out.length 250 98 (endC out)] (fun u : Option Addr × Nat => .tuple #[.slice u.1 (out ++ ks.map fun _ => (x, d)).length u.2, .bool b]) (fun u => [.own (.slice u.1 (out ++ ks.map fun _ => (x, d)).length u.2) (out ++ ks.map fun _ => (x, d)).length 250 98 (endC (out ++ ks.map fun _ => (x, d)))]) := by
 have ht : ∀ k, k < ks.length → (ks.take (k + 1)).map (fun _ => (x, d)) = (ks.take k).map (fun _ => (x, d)) ++ [(x, d)] := fun k hk => by rw [List.take_add_one, List.getElem?_eq_getElem hk, Option.toList_some, List.map_append]; rfl
 refine spec_of Tryz.func205 rfl (n := 79) rfl rfl ?_
 intro W
 change H _ _ _ _ (argsEnv 0 [.slice A out.length c, .iface 235 (.agg x.cells.toArray), .slice B ks.length cc, .int .i64 (d : Int)]) _ _
 refine yR ?_
 refine yS rfl ?_
 refine yS rfl ?_
 refine yN ?_
 refine h_seq ?_
 refine yR ?_
 refine yM rfl ?_
 refine yN ?_
 refine h_block ?_
 refine yR ?_
 refine h_op (r_as2n rfl) ?_
 refine h_op (r_extract rfl rfl) ?_
 refine h_op (r_extract rfl rfl) ?_
 refine yN ?_
 refine h_condF rfl ?_
 refine yR ?_
 refine h_op (r_as2 rfl) ?_
 refine h_op (r_extract rfl rfl) ?_
 refine h_op (r_extract rfl rfl) ?_
 refine yN ?_
 refine h_condT rfl ?_
 refine yR ?_
 refine h_opX (x_alloc) fun g14 => ?_
 refine h_opS (s_storer rfl rfl) ?_
 refine yN ?_
 refine h_seq ?_
 refine yR ?_
 refine yM rfl ?_
 refine h_op (r_len rfl) ?_
 refine yM rfl ?_
 refine yN ?_
 refine h_block ?_
 refine h_loop (fun (s : Nat × List (Item × Nat) × Option Addr × Nat) => s.1 ≤ ks.length ∧ s.2.1 = out ++ (ks.take s.1).map (fun _ => (x, d))) (fun (s : Nat × List (Item × Nat) × Option Addr × Nat) => [(58, .int .i64 (s.1 : Int)), (57, .int .i64 (ks.length : Int)), (0, .slice s.2.2.1 s.2.1.length s.2.2.2), (14, .pointer (some ⟨g14, 0, none⟩)), (3, .int .i64 (d : Int)), (2, .slice B ks.length cc)]) (fun (s : Nat × List (Item × Nat) × Option Addr × Nat) => [.own (.slice s.2.2.1 s.2.1.length s.2.2.2) s.2.1.length 250 98 (endC s.2.1), .blk g14 x.cells 235]) (fun (s : Nat × List (Item × Nat) × Option Addr × Nat) => ks.length - s.1) (0, out, A, c) (⟨Nat.zero_le _, by simp⟩) ⟨rfl, rfl, rfl, rfl, rfl, rfl, trivial⟩ (same) ?_
 rintro ⟨k, o, A', c'⟩ ⟨hk, he⟩
 dsimp only at hk he ⊢
 have hol : o.length = out.length + k := by rw [he, List.length_append, List.length_map, List.length_take]; omega
 refine yR ?_
 refine h_op (r_lss rfl rfl) ?_
 refine yN ?_
 refine h_seq ?_
 refine h_cond rfl (fun hlt => ?_) (fun hlt => ?_)
 ·have hk2 : k < ks.length := by omega
  have hl : o.length + 1 = (o ++ [(x, d)]).length := by rw [List.length_append]; rfl
  refine h_skip ?_
  refine q_then ?_
  refine h_seq ?_
  refine h_block ?_
  refine h_reg ?_
  refine yM rfl ?_
  refine h_op (r_field rfl) ?_
  refine h_op (r_loadr rfl) ?_
  refine yM rfl ?_
  refine h_op (r_build rfl) ?_
  refine h_opX (x_bsl rfl rfl) fun g65 => ?_
  refine h_opX (x_app rfl rfl (k := 98)) fun ⟨g66, c66⟩ => ?_
  refine yS rfl ?_
  refine h_nil ?_
  refine q_block ?_
  refine q_then ?_
  refine h_reg ?_
  refine h_op (r_add rfl rfl) ?_
  refine yM rfl ?_
  refine h_nil ?_
  change H _ _ _ _ _ (.own _ _ _ _ (endC o ++ End.cells ⟨x, (d : Int)⟩) :: _) _
  rw [endC_snoc o (x, d), hl]
  exact h_back (k + 1, o ++ [(x, d)], some ⟨g66, 0, none⟩, c66) (⟨by dsimp only; omega, by dsimp only; rw [ht k hk2, he, List.append_assoc]⟩) ((show ks.length - (k + 1) < ks.length - k by omega)) ⟨rfl, rfl, rfl, rfl, rfl, rfl, trivial⟩ (same)
 ·obtain rfl : k = ks.length := by omega
  rw [List.take_length] at he
  subst he
  by_cases h3 : x.kind = 3
  ·have hb2 : decide ((ks.length : Int) = 0) = b := by
    rw [← hb, h3]
    cases ks <;> simp
    omega
   refine h_exit ?_
   refine q_thenE ?_
   refine q_thenE ?_
   refine q_blockE ?_
   refine q_then ?_
   refine yR ?_
   refine yM rfl ?_
   refine h_op (r_field rfl) ?_
   refine h_op (r_field rfl) ?_
   refine h_op (r_loadc rfl) ?_
   refine h_op (r_bool (r_neq rfl rfl) (show _ = false by simp [h3])) ?_
   refine yM rfl ?_
   refine yM rfl ?_
   refine h_op (r_len rfl) ?_
   refine h_op (r_bool (r_eql rfl rfl) hb2) ?_
   refine h_op (r_pick rfl rfl) ?_
   refine yS rfl ?_
   refine yS rfl ?_
   refine yN ?_
   refine h_ret ?_
   refine q_blockR ?_
   refine q_thenR ?_
   exact h_ret2 rfl rfl rfl fun w s => ⟨(A', c'), rfl, (same w s).res (List.Sublist.refl _) (by simp [Fa.wr])⟩
  ·obtain rfl : b = true := by rw [← hb]; simp [h3]
   refine h_exit ?_
   refine q_thenE ?_
   refine q_thenE ?_
   refine q_blockE ?_
   refine q_then ?_
   refine yR ?_
   refine yM rfl ?_
   refine h_op (r_field rfl) ?_
   refine h_op (r_field rfl) ?_
   refine h_op (r_loadc rfl) ?_
   refine h_op (r_bool (r_neq rfl rfl) (show _ = true by simp [h3])) ?_
   refine yM rfl ?_
   refine h_opOff ?_
   refine h_opOff ?_
   refine h_opOff ?_
   refine h_op (r_pick rfl rfl) ?_
   refine yS rfl ?_
   refine yS rfl ?_
   refine yN ?_
   refine h_ret ?_
   refine q_blockR ?_
   refine q_thenR ?_
   exact h_ret2 rfl rfl rfl fun w s => ⟨(A', c'), rfl, (same w s).res (List.Sublist.refl _) (by simp [Fa.wr])⟩
theorem ends_none (l r : Sub) (B : Option Addr) (cc d : Nat) (out : List (Item × Nat)) (A : Option Addr) (c : Nat) : Spec Tryz.prog 205 [.slice A out.length c, .iface (Sub.two l r).tag (Sub.two l r).val, .slice B 0 cc, .int .i64 (d : Int)].toArray [.zone false h] [.own (.slice A out.length c) out.length 250 98 (endC out)] (fun u : Option Addr × Nat => .tuple #[.slice u.1 out.length u.2, .bool false]) (fun u => [.own (.slice u.1 out.length u.2) out.length 250 98 (endC out)]) := by
 refine spec_of Tryz.func205 rfl (n := 79) rfl rfl ?_
 intro W
 change H _ _ _ _ (argsEnv 0 [.slice A out.length c, .iface 232 (.agg [.iface l.tag l.val, .iface r.tag r.val].toArray), .slice B 0 cc, .int .i64 (d : Int)]) _ _
 refine yR ?_
 refine yS rfl ?_
 refine yS rfl ?_
 refine yN ?_
 refine h_seq ?_
 refine yR ?_
 refine yM rfl ?_
 refine yN ?_
 refine h_block ?_
 refine yR ?_
 refine h_op (r_as2 rfl) ?_
 refine h_op (r_extract rfl rfl) ?_
 refine h_op (r_extract rfl rfl) ?_
 refine yN ?_
 refine h_condT rfl ?_
 refine yR ?_
 refine h_opX (x_alloc) fun g10 => ?_
 refine h_opS (s_storer rfl rfl) ?_
 refine yN ?_
 refine h_seq ?_
 refine yR ?_
 refine yM rfl ?_
 refine h_op (r_len rfl) ?_
 refine h_op (r_bool (r_eql rfl rfl) (show _ = true from rfl)) ?_
 refine yN ?_
 refine h_condT rfl ?_
 refine yR ?_
 refine yM rfl ?_
 refine yS rfl ?_
 refine yS rfl ?_
 refine yN ?_
 refine h_ret ?_
 refine q_thenR ?_
 refine q_blockR ?_
 refine q_thenR ?_
 exact h_ret2 rfl rfl rfl fun w s => ⟨(A, c), rfl, (same w s).res (List.Sublist.refl _) (by simp [Fa.wr])⟩
def EndsS (t : Sub) : Prop := ∀ (ks : List B32) (B : Option Addr) (cc d : Nat), RdZ h B (dgs ks) → ks.length ≤ cc → ks.length ≤ 100000 → ks.Pairwise ltK → AlikeK ks d → d + t.ht ≤ 256 → ∀ (out : List (Item × Nat)) (A : Option Addr) (c : Nat), out.length + ks.length ≤ 1000000 →
 Spec Tryz.prog 205 [.slice A out.length c, .iface t.tag t.val, .slice B ks.length cc, .int .i64 (d : Int)].toArray [.zone false h] [.own (.slice A out.length c) out.length 250 98 (endC out)] (fun u : Option Addr × Nat => .tuple #[.slice u.1 (out ++ (endsM t ks d).1).length u.2, .bool (endsM t ks d).2]) (fun u => [.own (.slice u.1 (out ++ (endsM t ks d).1).length u.2) (out ++ (endsM t ks d).1).length 250 98 (endC (out ++ (endsM t ks d).1))])
theorem ends_two (l r : Sub) (ihl : EndsS h l) (ihr : EndsS h r) (ks : List B32) (B : Option Addr) (cc d m : Nat) (hB : RdZ h B (dgs ks)) (hcc : ks.length ≤ cc) (hks : ks.length ≤ 100000) (hne : ks.length ≠ 0) (ho : ks.Pairwise ltK) (ha : AlikeK ks d) (hd : d + (Sub.two l r).ht ≤ 256) (hm : m ≤ ks.length) (hp : ∀ j, j < ks.length → bitAt (ks.getD j zB32) d = decide (m ≤ j)) (h1 : ks.take m = keysB ks d false) (h2 : ks.drop m = keysB ks d true) (out : List (Item × Nat)) (A : Option Addr) (c : Nat) (hsz : out.length + ks.length ≤ 1000000) (e1 e2 : List (Item × Nat)) (b1 b2 : Bool) (he1 : endsM l (keysB ks d false) (d + 1) = (e1, b1)) (he2 : endsM r (keysB ks d true) (d + 1) = (e2, b2)) :
  Spec Tryz.prog 205 [.slice A out.length c, .iface (Sub.two l r).tag (Sub.two l r).val, .slice B ks.length cc, .int .i64 (d : Int)].toArray [.zone false h] [.own (.slice A out.length c) out.length 250 98 (endC out)] (fun u : Option Addr × Nat => .tuple #[.slice u.1 (out ++ if b1 then e1 ++ e2 else e1).length u.2, .bool (b1 && b2)]) (fun u => [.own (.slice u.1 (out ++ if b1 then e1 ++ e2 else e1).length u.2) (out ++ if b1 then e1 ++ e2 else e1).length 250 98 (endC (out ++ if b1 then e1 ++ e2 else e1))]) := by
 have hht : d + (max l.ht r.ht + 1) ≤ 256 := hd
 have h0 : 0 < (dgs ks).length := by rw [dgs_len]; omega
 obtain ⟨b, o, rfl, -⟩ := hB.at_ 0 _ (List.getElem?_eq_getElem h0)
 have hlm : (ks.take m).length = m := by rw [List.length_take, Nat.min_eq_left hm]
 have hle1 := endsM_len l (keysB ks d false) (d + 1)
 rw [he1, ← h1, hlm] at hle1
 dsimp only at hle1
 have hL := ihl (ks.take m) (some ⟨b, o, none⟩) m (d + 1) (dgs_takeZ hB m) (by omega) (by omega) (by rw [h1]; exact keysB_ord ho _) (by rw [h1]; exact keysB_alike ha _) (by omega) out A c (by omega)
 have hR := ihr (ks.drop m) (cutA (some ⟨b, o, none⟩) cc m 32) (cc - m) (d + 1) (dgs_dropZ hB hm hcc) (by rw [List.length_drop]; omega) (by rw [List.length_drop]; omega) (by rw [h2]; exact keysB_ord ho _) (by rw [h2]; exact keysB_alike ha _) (by omega) (out ++ e1)
 rw [hlm, h1, he1] at hL
 rw [List.length_drop] at hR
 simp only [h2, he2] at hR
 dsimp only at hL
 have hS := Split_s ks (some ⟨b, o, none⟩) cc d m (by omega) (by omega) hm hp
 refine spec_of Tryz.func205 rfl (n := 79) rfl rfl ?_
 intro W
 change H _ _ _ _ (argsEnv 0 [.slice A out.length c, .iface 232 (.agg [.iface l.tag l.val, .iface r.tag r.val].toArray), .slice (some ⟨b, o, none⟩) ks.length cc, .int .i64 (d : Int)]) _ _
 refine yR ?_
 refine yS rfl ?_
 refine yS rfl ?_
 refine yN ?_
 refine h_seq ?_
 refine yR ?_
 refine yM rfl ?_
 refine yN ?_
 refine h_block ?_
 refine yR ?_
 refine h_op (r_as2 rfl) ?_
 refine h_op (r_extract rfl rfl) ?_
 refine h_op (r_extract rfl rfl) ?_
 refine yN ?_
 refine h_condT rfl ?_
 refine yR ?_
 refine h_opX (x_alloc) fun g10 => ?_
 refine h_opS (s_storer rfl rfl) ?_
 refine yN ?_
 refine h_seq ?_
 refine yR ?_
 refine yM rfl ?_
 refine h_op (r_len rfl) ?_
 refine h_op (r_bool (r_eql rfl rfl) (decide_eq_false (by omega))) ?_
 refine yN ?_
 refine h_condF rfl ?_
 refine h_skip ?_
 refine q_then ?_
 refine yR ?_
 refine yM rfl ?_
 refine yM rfl ?_
 refine h_call (hS.comes) rfl rfl rfl fun _ => ?_
 refine yS rfl ?_
 refine yN ?_
 refine h_seq ?_
 refine ha_start [.zone false h, .blk g10 [.iface l.tag l.val, .iface r.tag r.val] 232] [] mixed (same) ?_
 refine ha_takeP 0 rfl (r_move rfl) ?_
 refine ha_takeP 1 rfl (r_idxA rfl rfl) ?_
 refine ha_take 2 rfl (r_loadc rfl) ?_
 refine ha_takeP 3 rfl (r_move rfl) ?_
 refine ha_takeP 4 rfl (r_move rfl) ?_
 refine ha_takeP 5 rfl (r_move rfl) ?_
 refine ha_takeP 6 rfl (r_slHM rfl rfl rfl) ?_
 refine ha_takeP 7 rfl (r_move rfl) ?_
 refine ha_takeP 8 rfl (r_add rfl rfl) ?_
 refine ha_one 9 ?_
 refine ho_C 9 rfl (hL.comes) rfl rfl rfl (fun xx => same) fun ⟨A36, c36⟩ => ?_
 refine ha_takeP 10 rfl (r_move rfl) ?_
 refine ha_takeP 11 rfl (r_extract rfl rfl) ?_
 refine ha_takeP 12 rfl (r_extract rfl rfl) ?_
 refine ha_takeP 13 rfl (r_assign rfl) ?_
 refine ha_takeP 14 rfl (r_assign rfl) ?_
 refine ha_done (by kernel_rfl) ?_
 refine q_then ?_
 cases b1
 ·refine h_seq ?_
  refine yR ?_
  refine yM rfl ?_
  refine h_op (r_not rfl) ?_
  refine yN ?_
  refine h_condT rfl ?_
  refine yR ?_
  refine yM rfl ?_
  refine yS rfl ?_
  refine yS rfl ?_
  refine yN ?_
  refine h_ret ?_
  refine q_thenR ?_
  refine q_blockR ?_
  refine q_thenR ?_
  rw [if_neg Bool.false_ne_true]
  exact h_ret2 rfl rfl rfl fun w s => ⟨(A36, c36), rfl, (same w s).res (List.Sublist.refl _) (by simp [Fa.wr])⟩
 ·refine h_seq ?_
  refine yR ?_
  refine yM rfl ?_
  refine h_op (r_not rfl) ?_
  refine yN ?_
  refine h_condF rfl ?_
  refine h_skip ?_
  refine q_then ?_
  refine h_seq ?_
  rw [if_pos rfl, ← List.append_assoc]
  refine ha_start [.zone false h, .blk g10 [.iface l.tag l.val, .iface r.tag r.val] 232] [] mixed (same) ?_
  refine ha_takeP 0 rfl (r_move rfl) ?_
  refine ha_takeP 1 rfl (r_idxA rfl rfl) ?_
  refine ha_take 2 rfl (r_loadc rfl) ?_
  refine ha_takeP 3 rfl (r_move rfl) ?_
  refine ha_takeP 4 rfl (r_move rfl) ?_
  refine ha_takeP 5 rfl (r_slL rfl rfl) ?_
  refine ha_takeP 6 rfl (r_move rfl) ?_
  refine ha_takeP 7 rfl (r_add rfl rfl) ?_
  refine ha_one 8 ?_
  refine ho_C 8 rfl ((hR A36 c36 (by rw [List.length_append]; omega)).comes) rfl rfl rfl (fun xx => same) fun ⟨A50, c50⟩ => ?_
  refine ha_takeP 9 rfl (r_extract rfl rfl) ?_
  refine ha_takeP 10 rfl (r_extract rfl rfl) ?_
  refine ha_takeP 11 rfl (r_assign rfl) ?_
  refine ha_takeP 12 rfl (r_assign rfl) ?_
  refine ha_done (by kernel_rfl) ?_
  refine q_then ?_
  refine h_ret ?_
  refine q_blockR ?_
  refine q_thenR ?_
  exact h_ret2 rfl rfl rfl fun w s => ⟨(A50, c50), rfl, (same w s).res (List.Sublist.refl _) (by simp [Fa.wr])⟩
theorem ends_s : ∀ t : Sub, EndsS h t
 | .one x => fun ks B cc d _ _ hks _ _ _ out A c ho => ends_one h x ks B cc d hks out A c ho _ rfl
 | .two l r => fun ks B cc d hB hcc hks hord hal hd out A c ho => by
  cases ks with
  | nil =>
   have h1 : endsM (.two l r) [] d = ([], false) := by unfold endsM; rfl
   rw [h1, List.append_nil]
   exact ends_none h l r B cc d out A c
  | cons x ks =>
   obtain ⟨m, m1, m2, m3, m4⟩ := split_at hord hal
   have h1 : endsM (.two l r) (x :: ks) d = (if (endsM l (keysB (x :: ks) d false) (d + 1)).2 then (endsM l (keysB (x :: ks) d false) (d + 1)).1 ++ (endsM r (keysB (x :: ks) d true) (d + 1)).1 else (endsM l (keysB (x :: ks) d false) (d + 1)).1, (endsM l (keysB (x :: ks) d false) (d + 1)).2 && (endsM r (keysB (x :: ks) d true) (d + 1)).2) := by
    conv => lhs; unfold endsM
    cases (endsM l (keysB (x :: ks) d false) (d + 1)).2 <;> simp
   rw [h1]
   exact ends_two h l r (ends_s l) (ends_s r) (x :: ks) B cc d m hB hcc hks (by simp) hord hal hd m1 m2 m3 m4 out A c ho _ _ _ _ rfl rfl
end
section
variable (h : Zh) (l : List Item) (A : Option Addr) (c : Nat) [hr : RdZ h A (its l)] (hc : l.length ≤ c) (hl : l.length ≤ 1000000) (ks : List B32) (B : Option Addr) (cc : Nat) [hB : RdZ h B (dgs ks)]
include hc hl
theorem Ends_s (t : Sub) (hp : parseM l = .ok t) (hcc : ks.length ≤ cc) (hk : ks.length ≤ 100000) (he : keysE ks = 0) (es : List (Item × Nat)) (b : Bool) (hE : endsM t ks 0 = (es, b)) : Spec Tryz.prog 153 [.slice A l.length c, .slice B ks.length cc].toArray [.zone false h] [] (fun u : Option Addr × Nat => .tuple (if b then #[.slice u.1 es.length u.2, .int .i64 0] else #[.slice none 0 0, .int .i64 12])) (fun u => if b then [.own (.slice u.1 es.length u.2) es.length 250 98 (endC es)] else []) := by
 have hP := parse_s h l A c hc hl
 rw [hp] at hP
 obtain ⟨h1, h2, h3⟩ := keysE_ok he
 have hK := mKeys_s ks B cc (by omega)
 rw [he] at hK
 have hht := (parse_flat hp).2.2
 have hA := ends_s h t ks B cc 0 hB hcc hk h3 (fun _ _ _ _ i hi => absurd hi (by omega)) (by omega) [] none 0 (by simp; omega)
 rw [hE] at hA
 simp only [List.nil_append, List.length_nil] at hA
 refine spec_of Tryz.func153 rfl (n := 31) rfl rfl ?_
 intro W
 refine yR ?_
 refine yS rfl ?_
 refine yS rfl ?_
 refine yN ?_
 refine yR ?_
 refine yM rfl ?_
 refine h_call (hP.comes) rfl rfl rfl fun _ => ?_
 refine yM rfl ?_
 refine h_op (r_extract rfl rfl) ?_
 refine h_op (r_extract rfl rfl) ?_
 refine yS rfl ?_
 refine yS rfl ?_
 refine yN ?_
 refine h_seq ?_
 refine yR ?_
 refine yM rfl ?_
 refine h_op (r_eql rfl rfl) ?_
 refine yN ?_
 refine h_yes rfl (rfl) ?_
 refine h_reg ?_
 refine yM rfl ?_
 refine h_call (hK.comes) rfl rfl rfl fun _ => ?_
 refine yS rfl ?_
 refine yN ?_
 refine h_seq ?_
 refine yR ?_
 refine yM rfl ?_
 refine h_op (r_neq rfl rfl) ?_
 refine yN ?_
 refine h_no rfl ((fun h => h rfl)) ?_
 refine h_skip ?_
 refine q_then ?_
 refine yR ?_
 refine yM rfl ?_
 refine yM rfl ?_
 refine h_nil_own 250 98 (xs := endC []) rfl ?_
 refine h_call (hA.comes) rfl rfl rfl fun ⟨A25, c25⟩ => ?_
 cases b
 ·refine yM rfl ?_
  refine h_op (r_extract rfl rfl) ?_
  refine h_op (r_extract rfl rfl) ?_
  refine yS rfl ?_
  refine yS rfl ?_
  refine yN ?_
  refine h_seq ?_
  refine yR ?_
  refine yM rfl ?_
  refine h_op (r_not rfl) ?_
  refine yN ?_
  refine h_condT rfl ?_
  refine yR ?_
  refine yS rfl ?_
  refine yS rfl ?_
  refine yN ?_
  refine h_ret ?_
  refine q_thenR ?_
  exact h_ret2 rfl rfl rfl fun w s => ⟨(none, 0), rfl, s.res (List.nil_sublist _) (by simp)⟩
 ·refine yM rfl ?_
  refine h_op (r_extract rfl rfl) ?_
  refine h_op (r_extract rfl rfl) ?_
  refine yS rfl ?_
  refine yS rfl ?_
  refine yN ?_
  refine h_seq ?_
  refine yR ?_
  refine yM rfl ?_
  refine h_op (r_not rfl) ?_
  refine yN ?_
  refine h_condF rfl ?_
  refine h_skip ?_
  refine q_then ?_
  refine yR ?_
  refine yM rfl ?_
  refine yS rfl ?_
  refine yS rfl ?_
  refine yN ?_
  refine h_ret ?_
  exact h_ret2 rfl rfl rfl fun w s => ⟨(A25, c25), rfl, (same (L' := [.own (.slice A25 es.length c25) es.length 250 98 (endC es)]) w s).res (List.Sublist.refl _) (by simp [Fa.wr])⟩
end
end Go.Proofs.YtjhocljhhpkiiaaGreatDoor
