/- The reference's depths and expansion; The reference's check (joined texts: U23 U26) -/
import Derived.Test.YtgfkbeipckbkiaaGreatDoorY13
set_option linter.all false
/- U23 -/
namespace Go.Proofs.YtgfkbeipckbkiaaGreatDoor
set_option linter.unusedSimpArgs false
set_option linter.unusedVariables false
open Go.RowKit
theorem rDepths_s (p : Proof) : Spec Tryz.prog 81 [.agg p.cells.toArray].toArray [] [] (fun u : Option Addr × Nat => .slice u.1 (depths p.bitmap).length u.2) (fun u => [.own (.slice u.1 (depths p.bitmap).length u.2) (depths p.bitmap).length 3 1 (ic (depths p.bitmap))]) := by
  refine spec_of Tryz.func81 rfl (n := 19) rfl rfl ?_
  intro W
  refine h_seq ?_
  refine h_reg ?_
  refine h_opX (x_box rfl) fun g1 => ?_
  refine h_op (r_assign rfl) ?_
  refine h_nil ?_
  refine q_then ?_
  refine h_seq ?_
  refine h_reg ?_
  refine h_op (r_assign rfl) ?_
  refine h_nil ?_
  refine q_then ?_
  refine h_seq ?_
  refine h_seq ?_
  refine h_reg ?_
  refine h_op (r_assign rfl) ?_
  refine h_nil ?_
  refine q_then ?_
  refine h_block ?_
  refine h_nil_own 3 1 (xs := ic (dep p.bitmap 0)) rfl ?_
  change H _ _ _ _ _ (.own (.slice none (dep p.bitmap 0).length 0) (dep p.bitmap 0).length _ _ _ :: _) _
  refine h_loop (fun (s : Nat × Option Addr × Nat) => s.1 ≤ 256) (fun (s : Nat × Option Addr × Nat) => [(4, .int .i64 (s.1 : Int)), (3, .slice s.2.1 (dep p.bitmap s.1).length s.2.2), (1, .pointer (some ⟨g1, 0, none⟩))]) (fun (s : Nat × Option Addr × Nat) => [.own (.slice s.2.1 (dep p.bitmap s.1).length s.2.2) (dep p.bitmap s.1).length 3 1 (ic (dep p.bitmap s.1)), .blk g1 p.cells 87]) (fun (s : Nat × Option Addr × Nat) => 256 - s.1) (0, none, 0) ((show 0 ≤ 256 by omega)) ⟨rfl, rfl, rfl, trivial⟩ (same) ?_
  rintro ⟨k, B, c⟩ hk
  dsimp only at hk ⊢
  have hd := dep_len p.bitmap k
  refine h_seq ?_
  refine h_seq ?_
  refine h_reg ?_
  refine h_op (r_move rfl) ?_
  refine h_op (r_lss rfl rfl) ?_
  refine h_nil ?_
  refine q_then ?_
  refine h_cond rfl (fun h => ?_) (fun h => ?_)
  · refine h_skip ?_
    refine q_then ?_
    refine h_seq ?_
    refine h_block ?_
    refine h_seq ?_
    refine h_reg ?_
    refine h_op (r_field rfl) ?_
    refine h_op (r_loadr rfl) ?_
    refine h_op (r_move rfl) ?_
    refine h_call ((refBit_s p.bitmap k (by omega)).comes) rfl rfl rfl fun _ => ?_
    refine h_op (r_bool (r_eql rfl rfl) (bitN_one p.bitmap k)) ?_
    refine h_nil ?_
    refine q_then ?_
    refine h_condB rfl (fun h2 => ?_) (fun h2 => ?_)
    · have he := dep_yes h2
      have hl : (dep p.bitmap k).length + 1 = (dep p.bitmap (k + 1)).length := by rw [he]; simp
      refine h_reg ?_
      refine h_op (r_move rfl) ?_
      refine h_op (r_move rfl) ?_
      refine h_opX (x_bsl rfl rfl) fun g16 => ?_
      refine h_opX (x_app1I rfl rfl (hN := hl)) fun ⟨g17, c17⟩ => ?_
      refine h_op (r_assign rfl) ?_
      refine h_nil ?_
      refine q_block ?_
      refine q_then ?_
      refine h_reg ?_
      refine h_op (r_move rfl) ?_
      refine h_op (r_add rfl rfl) ?_
      refine h_op (r_assign rfl) ?_
      refine h_nil ?_
      rw [← he]
      exact h_back (k + 1, some ⟨g17, 0, none⟩, c17) ((show k + 1 ≤ 256 by omega)) ((show 256 - (k + 1) < 256 - k by omega)) ⟨rfl, rfl, rfl, trivial⟩ (same)
    · have he := dep_no (b := p.bitmap) (k := k) (by rw [h2]; simp)
      refine h_skip ?_
      refine q_block ?_
      refine q_then ?_
      refine h_reg ?_
      refine h_op (r_move rfl) ?_
      refine h_op (r_add rfl rfl) ?_
      refine h_op (r_assign rfl) ?_
      refine h_nil ?_
      rw [← he]
      exact h_back (k + 1, B, c) ((show k + 1 ≤ 256 by omega)) ((show 256 - (k + 1) < 256 - k by omega)) ⟨rfl, rfl, rfl, trivial⟩ (same)
  · obtain rfl : k = 256 := by omega
    refine h_exit ?_
    refine q_thenE ?_
    refine q_thenE ?_
    refine q_blockE ?_
    refine q_then ?_
    refine h_seq ?_
    refine h_reg ?_
    refine h_op (r_move rfl) ?_
    refine h_op (r_assign rfl) ?_
    refine h_nil ?_
    refine q_then ?_
    refine h_ret ?_
    exact h_ret1 rfl rfl fun w s => ⟨(B, c), rfl, s.res ((List.nil_sublist _).cons_cons _) (by simp [Fa.wr])⟩
end Go.Proofs.YtgfkbeipckbkiaaGreatDoor
/- U26 -/
namespace Go.Proofs.YtgfkbeipckbkiaaGreatDoor
set_option linter.unusedSimpArgs false
set_option linter.unusedVariables false
open Go.RowKit
theorem rCheck_s (p : Proof) : Spec Tryz.prog 41 [.agg p.cells.toArray].toArray [] [] (fun _ : Unit => .int .i64 (checkP p)) (fun _ => []) := by
  have hdl := dep_len p.bitmap 256
  rw [dep_256] at hdl
  refine spec_of Tryz.func41 rfl (n := 69) rfl rfl ?_
  intro W
  by_cases hk : p.kind = 0
  · have h0 : okJ p 0 = true := by simp [okJ, hk]
    refine h_seq ?_
    refine h_reg ?_
    refine h_opX (x_box rfl) fun g1 => ?_
    refine h_op (r_assign rfl) ?_
    refine h_nil ?_
    refine q_then ?_
    refine h_seq ?_
    refine h_seq ?_
    refine h_reg ?_
    refine h_op (r_field rfl) ?_
    refine h_op (r_loadc rfl) ?_
    refine h_op (r_bool (r_neq rfl rfl) (decide_eq_false (fun h => h hk))) ?_
    refine h_op (r_move rfl) ?_
    refine h_opOff ?_
    refine h_opOff ?_
    refine h_opOff ?_
    refine h_op (r_pick rfl rfl) ?_
    refine h_nil ?_
    refine q_then ?_
    refine h_condF rfl ?_
    refine h_skip ?_
    refine q_then ?_
    refine h_seq ?_
    refine h_reg ?_
    refine h_op (r_loadr rfl) ?_
    refine h_call ((rDepths_s p).comes) rfl rfl rfl fun ⟨A14, c14⟩ => ?_
    dsimp only
    refine h_op (r_assign rfl) ?_
    refine h_nil ?_
    refine q_then ?_
    refine h_seq ?_
    refine h_reg ?_
    refine h_opX (x_alloc) fun g4 => ?_
    refine h_nil ?_
    refine q_then ?_
    refine h_seq ?_
    refine h_block ?_
    refine h_seq ?_
    refine h_reg ?_
    by_cases hd1 : p.depth < 0
    · refine h_op (r_field rfl) ?_
      refine h_op (r_loadc rfl) ?_
      refine h_op (r_bool (r_lss rfl rfl) (decide_eq_true hd1)) ?_
      refine h_op (r_move rfl) ?_
      refine h_opOff ?_
      refine h_opOff ?_
      refine h_opOff ?_
      refine h_op (r_pick rfl rfl) ?_
      refine h_op (r_move rfl) ?_
      refine h_opOff ?_
      refine h_opOff ?_
      refine h_opOff ?_
      refine h_opOff ?_
      refine h_opOff ?_
      refine h_opOff ?_
      refine h_opOff ?_
      refine h_opOff ?_
      refine h_opOff ?_
      refine h_op (r_pick rfl rfl) ?_
      refine h_op (r_move rfl) ?_
      refine h_opOff ?_
      refine h_opOff ?_
      refine h_opOff ?_
      refine h_opOff ?_
      refine h_opOff ?_
      refine h_opOff ?_
      refine h_op (r_pick rfl rfl) ?_
      refine h_op (r_assign rfl) ?_
      refine h_nil ?_
      refine q_then ?_
      refine h_condT rfl ?_
      refine h_seq ?_
      refine h_reg ?_
      refine h_op (r_assign rfl) ?_
      refine h_nil ?_
      refine q_then ?_
      refine h_ret ?_
      refine q_blockR ?_
      refine q_thenR ?_
      exact h_ret1 rfl (aI rfl (checkP_5 h0 (j := 1) (by omega) (by simp only [okJ, Bool.and_eq_false_iff, decide_eq_false_iff_not]; omega)).symm) fun w s => ⟨(), rfl, s.res (List.nil_sublist _) (by simp)⟩
    · by_cases hd2 : 256 < p.depth
      · refine h_op (r_field rfl) ?_
        refine h_op (r_loadc rfl) ?_
        refine h_op (r_bool (r_lss rfl rfl) (decide_eq_false hd1)) ?_
        refine h_op (r_move rfl) ?_
        refine h_op (r_field rfl) ?_
        refine h_op (r_loadc rfl) ?_
        refine h_op (r_bool (r_gtr rfl rfl) (decide_eq_true hd2)) ?_
        refine h_op (r_pick rfl rfl) ?_
        refine h_op (r_move rfl) ?_
        refine h_opOff ?_
        refine h_opOff ?_
        refine h_opOff ?_
        refine h_opOff ?_
        refine h_opOff ?_
        refine h_opOff ?_
        refine h_opOff ?_
        refine h_opOff ?_
        refine h_opOff ?_
        refine h_op (r_pick rfl rfl) ?_
        refine h_op (r_move rfl) ?_
        refine h_opOff ?_
        refine h_opOff ?_
        refine h_opOff ?_
        refine h_opOff ?_
        refine h_opOff ?_
        refine h_opOff ?_
        refine h_op (r_pick rfl rfl) ?_
        refine h_op (r_assign rfl) ?_
        refine h_nil ?_
        refine q_then ?_
        refine h_condT rfl ?_
        refine h_seq ?_
        refine h_reg ?_
        refine h_op (r_assign rfl) ?_
        refine h_nil ?_
        refine q_then ?_
        refine h_ret ?_
        refine q_blockR ?_
        refine q_thenR ?_
        exact h_ret1 rfl (aI rfl (checkP_5 h0 (j := 1) (by omega) (by simp only [okJ, Bool.and_eq_false_iff, decide_eq_false_iff_not]; omega)).symm) fun w s => ⟨(), rfl, s.res (List.nil_sublist _) (by simp)⟩
      · have h1 : okJ p 1 = true := by simp only [okJ, Bool.and_eq_true, decide_eq_true_eq]; omega
        by_cases hlf : p.leaf = zLeaf
        · have h2 : okJ p 2 = true := by simp [okJ, hlf]
          refine h_op (r_field rfl) ?_
          refine h_op (r_loadc rfl) ?_
          refine h_op (r_bool (r_lss rfl rfl) (decide_eq_false hd1)) ?_
          refine h_op (r_move rfl) ?_
          refine h_op (r_field rfl) ?_
          refine h_op (r_loadc rfl) ?_
          refine h_op (r_bool (r_gtr rfl rfl) (decide_eq_false hd2)) ?_
          refine h_op (r_pick rfl rfl) ?_
          refine h_op (r_move rfl) ?_
          refine h_op (r_field rfl) ?_
          refine h_op (r_loadc rfl) ?_
          refine h_op (r_bool (r_eql rfl rfl) (decide_eq_true hk)) ?_
          refine h_op (r_move rfl) ?_
          refine h_op (r_field rfl) ?_
          refine h_op (r_loadr rfl) ?_
          refine h_op (r_loadr rfl) ?_
          refine h_op (r_bool (r_ner rfl rfl) (show _ = false by simp [hlf])) ?_
          refine h_op (r_pick rfl rfl) ?_
          refine h_op (r_pick rfl rfl) ?_
          refine h_op (r_move rfl) ?_
          refine h_op (r_move rfl) ?_
          refine h_op (r_len rfl) ?_
          refine h_op (r_field rfl) ?_
          refine h_op (r_loadc rfl) ?_
          refine h_op (r_len rfl) ?_
          refine h_op (r_neq rfl rfl) ?_
          refine h_op (r_pick rfl rfl) ?_
          refine h_op (r_assign rfl) ?_
          refine h_nil ?_
          refine q_then ?_
          refine h_cond rfl (fun hlen => ?_) (fun hlen => ?_)
          · refine h_seq ?_
            refine h_reg ?_
            refine h_op (r_assign rfl) ?_
            refine h_nil ?_
            refine q_then ?_
            refine h_ret ?_
            refine q_blockR ?_
            refine q_thenR ?_
            exact h_ret1 rfl (aI rfl (checkP_5 h0 (j := 4) (by omega) (by simp only [okJ, decide_eq_false_iff_not]; exact hlen)).symm) fun w s => ⟨(), rfl, s.res (List.nil_sublist _) (by simp)⟩
          · have h4 : okJ p 4 = true := by simp only [okJ, decide_eq_true_eq]; omega
            by_cases hz : (depths p.bitmap).length = 0
            · refine h_seq ?_
              refine ha_start [.blk g1 p.cells 87] [] mixed (same) ?_
              refine ha_takeP 0 rfl (r_move rfl) ?_
              refine ha_takeP 1 rfl (r_len rfl) ?_
              refine ha_takeP 2 rfl (r_bool (r_gtr rfl rfl) (decide_eq_false (by omega))) ?_
              refine ha_takeP 3 rfl (r_move rfl) ?_
              refine ha_off 4 rfl ?_
              refine ha_off 5 rfl ?_
              refine ha_off 6 rfl ?_
              refine ha_off 7 rfl ?_
              refine ha_off 8 rfl ?_
              refine ha_off 9 rfl ?_
              refine ha_off 10 rfl ?_
              refine ha_off 11 rfl ?_
              refine ha_off 12 rfl ?_
              refine ha_off 13 rfl ?_
              refine ha_takeP 14 rfl (r_pick rfl rfl) ?_
              refine ha_takeP 15 rfl (r_move rfl) ?_
              refine ha_takeP 16 rfl (r_move rfl) ?_
              refine ha_takeP 17 rfl (r_len rfl) ?_
              refine ha_takeP 18 rfl (r_bool (r_eql rfl rfl) (decide_eq_true (by omega))) ?_
              refine ha_takeP 19 rfl (r_move rfl) ?_
              refine ha_takeP 20 rfl (r_field rfl) ?_
              refine ha_take 21 rfl (r_loadc rfl) ?_
              refine ha_takeP 22 rfl (r_gtr rfl rfl) ?_
              refine ha_takeP 23 rfl (r_pick rfl rfl) ?_
              refine ha_takeP 24 rfl (r_pick rfl rfl) ?_
              refine ha_takeP 25 rfl (r_assign rfl) ?_
              refine ha_done (by kernel_rfl) ?_
              refine q_then ?_
              refine h_cond rfl (fun hp => ?_) (fun hp => ?_)
              · refine h_seq ?_
                refine h_reg ?_
                refine h_op (r_assign rfl) ?_
                refine h_nil ?_
                refine q_then ?_
                refine h_ret ?_
                refine q_blockR ?_
                refine q_thenR ?_
                exact h_ret1 rfl (aI rfl (checkP_5 h0 (j := 3) (by omega) (by simp only [okJ, decide_eq_false_iff_not]; rw [lastI_nil hz]; omega)).symm) fun w s => ⟨(), rfl, s.res (List.nil_sublist _) (by simp)⟩
              · rw [checkP_ok h0 h1 h2 (by simp only [okJ, decide_eq_true_eq]; rw [lastI_nil hz]; omega) h4]
                refine h_skip ?_
                refine q_block ?_
                refine q_then ?_
                refine h_seq ?_
                refine h_reg ?_
                refine h_op (r_assign rfl) ?_
                refine h_nil ?_
                refine q_then ?_
                refine h_ret ?_
                exact h_ret1 rfl rfl fun w s => ⟨(), rfl, s.res (List.nil_sublist _) (by simp)⟩
            · refine h_pure (φ := ∃ g, A14 = some ⟨g, 0, none⟩) (fun w s => s.ownSome (N := (depths p.bitmap).length) (c := c14) (by omega)) ?_
              rintro ⟨g14, rfl⟩
              have hlp := lastI_pos (b := p.bitmap) (by omega)
              by_cases hq : (((depths p.bitmap).getD ((depths p.bitmap).length - 1) 0 : Nat) : Int) = p.depth - 1
              · rw [checkP_ok h0 h1 h2 (by simp only [okJ, decide_eq_true_eq]; rw [hlp]; exact hq) h4]
                refine h_seq ?_
                refine ha_start [.blk g1 p.cells 87, .own (.slice (some ⟨g14, 0, none⟩) (depths p.bitmap).length c14) (depths p.bitmap).length 3 1 (ic (depths p.bitmap))] [] mixed (same) ?_
                refine ha_takeP 0 rfl (r_move rfl) ?_
                refine ha_takeP 1 rfl (r_len rfl) ?_
                refine ha_takeP 2 rfl (r_bool (r_gtr rfl rfl) (decide_eq_true (by omega))) ?_
                refine ha_takeP 3 rfl (r_move rfl) ?_
                refine ha_takeP 4 rfl (r_move rfl) ?_
                refine ha_takeP 5 rfl (r_move rfl) ?_
                refine ha_takeP 6 rfl (r_len rfl) ?_
                refine ha_takeP 7 rfl (r_subN rfl rfl) ?_
                refine ha_takeP 8 rfl (r_idx rfl rfl) ?_
                refine ha_take 9 rfl (r_nth rfl (ic_at (by omega))) ?_
                refine ha_takeP 10 rfl (r_field rfl) ?_
                refine ha_take 11 rfl (r_loadc rfl) ?_
                refine ha_takeP 12 rfl (r_sub rfl rfl) ?_
                refine ha_takeP 13 rfl (r_bool (r_neq rfl rfl) (decide_eq_false (fun h => h hq))) ?_
                refine ha_takeP 14 rfl (r_pick rfl rfl) ?_
                refine ha_takeP 15 rfl (r_move rfl) ?_
                refine ha_takeP 16 rfl (r_move rfl) ?_
                refine ha_takeP 17 rfl (r_len rfl) ?_
                refine ha_takeP 18 rfl (r_bool (r_eql rfl rfl) (decide_eq_false (by omega))) ?_
                refine ha_takeP 19 rfl (r_move rfl) ?_
                refine ha_off 20 rfl ?_
                refine ha_off 21 rfl ?_
                refine ha_off 22 rfl ?_
                refine ha_takeP 23 rfl (r_pick rfl rfl) ?_
                refine ha_takeP 24 rfl (r_pick rfl rfl) ?_
                refine ha_takeP 25 rfl (r_assign rfl) ?_
                refine ha_done (by kernel_rfl) ?_
                refine q_then ?_
                refine h_condF rfl ?_
                refine h_skip ?_
                refine q_block ?_
                refine q_then ?_
                refine h_seq ?_
                refine h_reg ?_
                refine h_op (r_assign rfl) ?_
                refine h_nil ?_
                refine q_then ?_
                refine h_ret ?_
                exact h_ret1 rfl rfl fun w s => ⟨(), rfl, s.res (List.nil_sublist _) (by simp)⟩
              · refine h_seq ?_
                refine ha_start [.blk g1 p.cells 87, .own (.slice (some ⟨g14, 0, none⟩) (depths p.bitmap).length c14) (depths p.bitmap).length 3 1 (ic (depths p.bitmap))] [] mixed (same) ?_
                refine ha_takeP 0 rfl (r_move rfl) ?_
                refine ha_takeP 1 rfl (r_len rfl) ?_
                refine ha_takeP 2 rfl (r_bool (r_gtr rfl rfl) (decide_eq_true (by omega))) ?_
                refine ha_takeP 3 rfl (r_move rfl) ?_
                refine ha_takeP 4 rfl (r_move rfl) ?_
                refine ha_takeP 5 rfl (r_move rfl) ?_
                refine ha_takeP 6 rfl (r_len rfl) ?_
                refine ha_takeP 7 rfl (r_subN rfl rfl) ?_
                refine ha_takeP 8 rfl (r_idx rfl rfl) ?_
                refine ha_take 9 rfl (r_nth rfl (ic_at (by omega))) ?_
                refine ha_takeP 10 rfl (r_field rfl) ?_
                refine ha_take 11 rfl (r_loadc rfl) ?_
                refine ha_takeP 12 rfl (r_sub rfl rfl) ?_
                refine ha_takeP 13 rfl (r_bool (r_neq rfl rfl) (decide_eq_true hq)) ?_
                refine ha_takeP 14 rfl (r_pick rfl rfl) ?_
                refine ha_takeP 15 rfl (r_move rfl) ?_
                refine ha_off 16 rfl ?_
                refine ha_off 17 rfl ?_
                refine ha_off 18 rfl ?_
                refine ha_off 19 rfl ?_
                refine ha_off 20 rfl ?_
                refine ha_off 21 rfl ?_
                refine ha_off 22 rfl ?_
                refine ha_off 23 rfl ?_
                refine ha_takeP 24 rfl (r_pick rfl rfl) ?_
                refine ha_takeP 25 rfl (r_assign rfl) ?_
                refine ha_done (by kernel_rfl) ?_
                refine q_then ?_
                refine h_condT rfl ?_
                refine h_seq ?_
                refine h_reg ?_
                refine h_op (r_assign rfl) ?_
                refine h_nil ?_
                refine q_then ?_
                refine h_ret ?_
                refine q_blockR ?_
                refine q_thenR ?_
                exact h_ret1 rfl (aI rfl (checkP_5 h0 (j := 3) (by omega) (by simp only [okJ, decide_eq_false_iff_not]; rw [hlp]; exact hq)).symm) fun w s => ⟨(), rfl, s.res (List.nil_sublist _) (by simp)⟩
        · have hk1 : ¬ p.kind = 1 := by omega
          refine h_op (r_field rfl) ?_
          refine h_op (r_loadc rfl) ?_
          refine h_op (r_bool (r_lss rfl rfl) (decide_eq_false hd1)) ?_
          refine h_op (r_move rfl) ?_
          refine h_op (r_field rfl) ?_
          refine h_op (r_loadc rfl) ?_
          refine h_op (r_bool (r_gtr rfl rfl) (decide_eq_false hd2)) ?_
          refine h_op (r_pick rfl rfl) ?_
          refine h_op (r_move rfl) ?_
          refine h_op (r_field rfl) ?_
          refine h_op (r_loadc rfl) ?_
          refine h_op (r_bool (r_eql rfl rfl) (decide_eq_true hk)) ?_
          refine h_op (r_move rfl) ?_
          refine h_op (r_field rfl) ?_
          refine h_op (r_loadr rfl) ?_
          refine h_op (r_loadr rfl) ?_
          refine h_op (r_bool (r_ner rfl rfl) (show _ = true by simp [hlf])) ?_
          refine h_op (r_pick rfl rfl) ?_
          refine h_op (r_pick rfl rfl) ?_
          refine h_op (r_move rfl) ?_
          refine h_opOff ?_
          refine h_opOff ?_
          refine h_opOff ?_
          refine h_opOff ?_
          refine h_opOff ?_
          refine h_opOff ?_
          refine h_op (r_pick rfl rfl) ?_
          refine h_op (r_assign rfl) ?_
          refine h_nil ?_
          refine q_then ?_
          refine h_condT rfl ?_
          refine h_seq ?_
          refine h_reg ?_
          refine h_op (r_assign rfl) ?_
          refine h_nil ?_
          refine q_then ?_
          refine h_ret ?_
          refine q_blockR ?_
          refine q_thenR ?_
          exact h_ret1 rfl (aI rfl (checkP_5 h0 (j := 2) (by omega) (by simp [okJ, hlf, hk1])).symm) fun w s => ⟨(), rfl, s.res (List.nil_sublist _) (by simp)⟩
  · by_cases hk1 : p.kind = 1
    · have h0 : okJ p 0 = true := by simp [okJ, hk1]
      refine h_seq ?_
      refine h_reg ?_
      refine h_opX (x_box rfl) fun g1 => ?_
      refine h_op (r_assign rfl) ?_
      refine h_nil ?_
      refine q_then ?_
      refine h_seq ?_
      refine h_seq ?_
      refine h_reg ?_
      refine h_op (r_field rfl) ?_
      refine h_op (r_loadc rfl) ?_
      refine h_op (r_bool (r_neq rfl rfl) (decide_eq_true hk)) ?_
      refine h_op (r_move rfl) ?_
      refine h_op (r_field rfl) ?_
      refine h_op (r_loadc rfl) ?_
      refine h_op (r_bool (r_neq rfl rfl) (decide_eq_false (fun h => h hk1))) ?_
      refine h_op (r_pick rfl rfl) ?_
      refine h_nil ?_
      refine q_then ?_
      refine h_condF rfl ?_
      refine h_skip ?_
      refine q_then ?_
      refine h_seq ?_
      refine h_reg ?_
      refine h_op (r_loadr rfl) ?_
      refine h_call ((rDepths_s p).comes) rfl rfl rfl fun ⟨A14, c14⟩ => ?_
      dsimp only
      refine h_op (r_assign rfl) ?_
      refine h_nil ?_
      refine q_then ?_
      refine h_seq ?_
      refine h_reg ?_
      refine h_opX (x_alloc) fun g4 => ?_
      refine h_nil ?_
      refine q_then ?_
      refine h_seq ?_
      refine h_block ?_
      refine h_seq ?_
      refine h_reg ?_
      by_cases hd1 : p.depth < 0
      · refine h_op (r_field rfl) ?_
        refine h_op (r_loadc rfl) ?_
        refine h_op (r_bool (r_lss rfl rfl) (decide_eq_true hd1)) ?_
        refine h_op (r_move rfl) ?_
        refine h_opOff ?_
        refine h_opOff ?_
        refine h_opOff ?_
        refine h_op (r_pick rfl rfl) ?_
        refine h_op (r_move rfl) ?_
        refine h_opOff ?_
        refine h_opOff ?_
        refine h_opOff ?_
        refine h_opOff ?_
        refine h_opOff ?_
        refine h_opOff ?_
        refine h_opOff ?_
        refine h_opOff ?_
        refine h_opOff ?_
        refine h_op (r_pick rfl rfl) ?_
        refine h_op (r_move rfl) ?_
        refine h_opOff ?_
        refine h_opOff ?_
        refine h_opOff ?_
        refine h_opOff ?_
        refine h_opOff ?_
        refine h_opOff ?_
        refine h_op (r_pick rfl rfl) ?_
        refine h_op (r_assign rfl) ?_
        refine h_nil ?_
        refine q_then ?_
        refine h_condT rfl ?_
        refine h_seq ?_
        refine h_reg ?_
        refine h_op (r_assign rfl) ?_
        refine h_nil ?_
        refine q_then ?_
        refine h_ret ?_
        refine q_blockR ?_
        refine q_thenR ?_
        exact h_ret1 rfl (aI rfl (checkP_5 h0 (j := 1) (by omega) (by simp only [okJ, Bool.and_eq_false_iff, decide_eq_false_iff_not]; omega)).symm) fun w s => ⟨(), rfl, s.res (List.nil_sublist _) (by simp)⟩
      · by_cases hd2 : 256 < p.depth
        · refine h_op (r_field rfl) ?_
          refine h_op (r_loadc rfl) ?_
          refine h_op (r_bool (r_lss rfl rfl) (decide_eq_false hd1)) ?_
          refine h_op (r_move rfl) ?_
          refine h_op (r_field rfl) ?_
          refine h_op (r_loadc rfl) ?_
          refine h_op (r_bool (r_gtr rfl rfl) (decide_eq_true hd2)) ?_
          refine h_op (r_pick rfl rfl) ?_
          refine h_op (r_move rfl) ?_
          refine h_opOff ?_
          refine h_opOff ?_
          refine h_opOff ?_
          refine h_opOff ?_
          refine h_opOff ?_
          refine h_opOff ?_
          refine h_opOff ?_
          refine h_opOff ?_
          refine h_opOff ?_
          refine h_op (r_pick rfl rfl) ?_
          refine h_op (r_move rfl) ?_
          refine h_opOff ?_
          refine h_opOff ?_
          refine h_opOff ?_
          refine h_opOff ?_
          refine h_opOff ?_
          refine h_opOff ?_
          refine h_op (r_pick rfl rfl) ?_
          refine h_op (r_assign rfl) ?_
          refine h_nil ?_
          refine q_then ?_
          refine h_condT rfl ?_
          refine h_seq ?_
          refine h_reg ?_
          refine h_op (r_assign rfl) ?_
          refine h_nil ?_
          refine q_then ?_
          refine h_ret ?_
          refine q_blockR ?_
          refine q_thenR ?_
          exact h_ret1 rfl (aI rfl (checkP_5 h0 (j := 1) (by omega) (by simp only [okJ, Bool.and_eq_false_iff, decide_eq_false_iff_not]; omega)).symm) fun w s => ⟨(), rfl, s.res (List.nil_sublist _) (by simp)⟩
        · have h1 : okJ p 1 = true := by simp only [okJ, Bool.and_eq_true, decide_eq_true_eq]; omega
          have h2 : okJ p 2 = true := by simp [okJ, hk1]
          refine h_op (r_field rfl) ?_
          refine h_op (r_loadc rfl) ?_
          refine h_op (r_bool (r_lss rfl rfl) (decide_eq_false hd1)) ?_
          refine h_op (r_move rfl) ?_
          refine h_op (r_field rfl) ?_
          refine h_op (r_loadc rfl) ?_
          refine h_op (r_bool (r_gtr rfl rfl) (decide_eq_false hd2)) ?_
          refine h_op (r_pick rfl rfl) ?_
          refine h_op (r_move rfl) ?_
          refine h_op (r_field rfl) ?_
          refine h_op (r_loadc rfl) ?_
          refine h_op (r_bool (r_eql rfl rfl) (decide_eq_false (by omega))) ?_
          refine h_op (r_move rfl) ?_
          refine h_opOff ?_
          refine h_opOff ?_
          refine h_opOff ?_
          refine h_opOff ?_
          refine h_op (r_pick rfl rfl) ?_
          refine h_op (r_pick rfl rfl) ?_
          refine h_op (r_move rfl) ?_
          refine h_op (r_move rfl) ?_
          refine h_op (r_len rfl) ?_
          refine h_op (r_field rfl) ?_
          refine h_op (r_loadc rfl) ?_
          refine h_op (r_len rfl) ?_
          refine h_op (r_neq rfl rfl) ?_
          refine h_op (r_pick rfl rfl) ?_
          refine h_op (r_assign rfl) ?_
          refine h_nil ?_
          refine q_then ?_
          refine h_cond rfl (fun hlen => ?_) (fun hlen => ?_)
          · refine h_seq ?_
            refine h_reg ?_
            refine h_op (r_assign rfl) ?_
            refine h_nil ?_
            refine q_then ?_
            refine h_ret ?_
            refine q_blockR ?_
            refine q_thenR ?_
            exact h_ret1 rfl (aI rfl (checkP_5 h0 (j := 4) (by omega) (by simp only [okJ, decide_eq_false_iff_not]; exact hlen)).symm) fun w s => ⟨(), rfl, s.res (List.nil_sublist _) (by simp)⟩
          · have h4 : okJ p 4 = true := by simp only [okJ, decide_eq_true_eq]; omega
            by_cases hz : (depths p.bitmap).length = 0
            · refine h_seq ?_
              refine ha_start [.blk g1 p.cells 87] [] mixed (same) ?_
              refine ha_takeP 0 rfl (r_move rfl) ?_
              refine ha_takeP 1 rfl (r_len rfl) ?_
              refine ha_takeP 2 rfl (r_bool (r_gtr rfl rfl) (decide_eq_false (by omega))) ?_
              refine ha_takeP 3 rfl (r_move rfl) ?_
              refine ha_off 4 rfl ?_
              refine ha_off 5 rfl ?_
              refine ha_off 6 rfl ?_
              refine ha_off 7 rfl ?_
              refine ha_off 8 rfl ?_
              refine ha_off 9 rfl ?_
              refine ha_off 10 rfl ?_
              refine ha_off 11 rfl ?_
              refine ha_off 12 rfl ?_
              refine ha_off 13 rfl ?_
              refine ha_takeP 14 rfl (r_pick rfl rfl) ?_
              refine ha_takeP 15 rfl (r_move rfl) ?_
              refine ha_takeP 16 rfl (r_move rfl) ?_
              refine ha_takeP 17 rfl (r_len rfl) ?_
              refine ha_takeP 18 rfl (r_bool (r_eql rfl rfl) (decide_eq_true (by omega))) ?_
              refine ha_takeP 19 rfl (r_move rfl) ?_
              refine ha_takeP 20 rfl (r_field rfl) ?_
              refine ha_take 21 rfl (r_loadc rfl) ?_
              refine ha_takeP 22 rfl (r_gtr rfl rfl) ?_
              refine ha_takeP 23 rfl (r_pick rfl rfl) ?_
              refine ha_takeP 24 rfl (r_pick rfl rfl) ?_
              refine ha_takeP 25 rfl (r_assign rfl) ?_
              refine ha_done (by kernel_rfl) ?_
              refine q_then ?_
              refine h_cond rfl (fun hp => ?_) (fun hp => ?_)
              · refine h_seq ?_
                refine h_reg ?_
                refine h_op (r_assign rfl) ?_
                refine h_nil ?_
                refine q_then ?_
                refine h_ret ?_
                refine q_blockR ?_
                refine q_thenR ?_
                exact h_ret1 rfl (aI rfl (checkP_5 h0 (j := 3) (by omega) (by simp only [okJ, decide_eq_false_iff_not]; rw [lastI_nil hz]; omega)).symm) fun w s => ⟨(), rfl, s.res (List.nil_sublist _) (by simp)⟩
              · rw [checkP_ok h0 h1 h2 (by simp only [okJ, decide_eq_true_eq]; rw [lastI_nil hz]; omega) h4]
                refine h_skip ?_
                refine q_block ?_
                refine q_then ?_
                refine h_seq ?_
                refine h_reg ?_
                refine h_op (r_assign rfl) ?_
                refine h_nil ?_
                refine q_then ?_
                refine h_ret ?_
                exact h_ret1 rfl rfl fun w s => ⟨(), rfl, s.res (List.nil_sublist _) (by simp)⟩
            · refine h_pure (φ := ∃ g, A14 = some ⟨g, 0, none⟩) (fun w s => s.ownSome (N := (depths p.bitmap).length) (c := c14) (by omega)) ?_
              rintro ⟨g14, rfl⟩
              have hlp := lastI_pos (b := p.bitmap) (by omega)
              by_cases hq : (((depths p.bitmap).getD ((depths p.bitmap).length - 1) 0 : Nat) : Int) = p.depth - 1
              · rw [checkP_ok h0 h1 h2 (by simp only [okJ, decide_eq_true_eq]; rw [hlp]; exact hq) h4]
                refine h_seq ?_
                refine ha_start [.blk g1 p.cells 87, .own (.slice (some ⟨g14, 0, none⟩) (depths p.bitmap).length c14) (depths p.bitmap).length 3 1 (ic (depths p.bitmap))] [] mixed (same) ?_
                refine ha_takeP 0 rfl (r_move rfl) ?_
                refine ha_takeP 1 rfl (r_len rfl) ?_
                refine ha_takeP 2 rfl (r_bool (r_gtr rfl rfl) (decide_eq_true (by omega))) ?_
                refine ha_takeP 3 rfl (r_move rfl) ?_
                refine ha_takeP 4 rfl (r_move rfl) ?_
                refine ha_takeP 5 rfl (r_move rfl) ?_
                refine ha_takeP 6 rfl (r_len rfl) ?_
                refine ha_takeP 7 rfl (r_subN rfl rfl) ?_
                refine ha_takeP 8 rfl (r_idx rfl rfl) ?_
                refine ha_take 9 rfl (r_nth rfl (ic_at (by omega))) ?_
                refine ha_takeP 10 rfl (r_field rfl) ?_
                refine ha_take 11 rfl (r_loadc rfl) ?_
                refine ha_takeP 12 rfl (r_sub rfl rfl) ?_
                refine ha_takeP 13 rfl (r_bool (r_neq rfl rfl) (decide_eq_false (fun h => h hq))) ?_
                refine ha_takeP 14 rfl (r_pick rfl rfl) ?_
                refine ha_takeP 15 rfl (r_move rfl) ?_
                refine ha_takeP 16 rfl (r_move rfl) ?_
                refine ha_takeP 17 rfl (r_len rfl) ?_
                refine ha_takeP 18 rfl (r_bool (r_eql rfl rfl) (decide_eq_false (by omega))) ?_
                refine ha_takeP 19 rfl (r_move rfl) ?_
                refine ha_off 20 rfl ?_
                refine ha_off 21 rfl ?_
                refine ha_off 22 rfl ?_
                refine ha_takeP 23 rfl (r_pick rfl rfl) ?_
                refine ha_takeP 24 rfl (r_pick rfl rfl) ?_
                refine ha_takeP 25 rfl (r_assign rfl) ?_
                refine ha_done (by kernel_rfl) ?_
                refine q_then ?_
                refine h_condF rfl ?_
                refine h_skip ?_
                refine q_block ?_
                refine q_then ?_
                refine h_seq ?_
                refine h_reg ?_
                refine h_op (r_assign rfl) ?_
                refine h_nil ?_
                refine q_then ?_
                refine h_ret ?_
                exact h_ret1 rfl rfl fun w s => ⟨(), rfl, s.res (List.nil_sublist _) (by simp)⟩
              · refine h_seq ?_
                refine ha_start [.blk g1 p.cells 87, .own (.slice (some ⟨g14, 0, none⟩) (depths p.bitmap).length c14) (depths p.bitmap).length 3 1 (ic (depths p.bitmap))] [] mixed (same) ?_
                refine ha_takeP 0 rfl (r_move rfl) ?_
                refine ha_takeP 1 rfl (r_len rfl) ?_
                refine ha_takeP 2 rfl (r_bool (r_gtr rfl rfl) (decide_eq_true (by omega))) ?_
                refine ha_takeP 3 rfl (r_move rfl) ?_
                refine ha_takeP 4 rfl (r_move rfl) ?_
                refine ha_takeP 5 rfl (r_move rfl) ?_
                refine ha_takeP 6 rfl (r_len rfl) ?_
                refine ha_takeP 7 rfl (r_subN rfl rfl) ?_
                refine ha_takeP 8 rfl (r_idx rfl rfl) ?_
                refine ha_take 9 rfl (r_nth rfl (ic_at (by omega))) ?_
                refine ha_takeP 10 rfl (r_field rfl) ?_
                refine ha_take 11 rfl (r_loadc rfl) ?_
                refine ha_takeP 12 rfl (r_sub rfl rfl) ?_
                refine ha_takeP 13 rfl (r_bool (r_neq rfl rfl) (decide_eq_true hq)) ?_
                refine ha_takeP 14 rfl (r_pick rfl rfl) ?_
                refine ha_takeP 15 rfl (r_move rfl) ?_
                refine ha_off 16 rfl ?_
                refine ha_off 17 rfl ?_
                refine ha_off 18 rfl ?_
                refine ha_off 19 rfl ?_
                refine ha_off 20 rfl ?_
                refine ha_off 21 rfl ?_
                refine ha_off 22 rfl ?_
                refine ha_off 23 rfl ?_
                refine ha_takeP 24 rfl (r_pick rfl rfl) ?_
                refine ha_takeP 25 rfl (r_assign rfl) ?_
                refine ha_done (by kernel_rfl) ?_
                refine q_then ?_
                refine h_condT rfl ?_
                refine h_seq ?_
                refine h_reg ?_
                refine h_op (r_assign rfl) ?_
                refine h_nil ?_
                refine q_then ?_
                refine h_ret ?_
                refine q_blockR ?_
                refine q_thenR ?_
                exact h_ret1 rfl (aI rfl (checkP_5 h0 (j := 3) (by omega) (by simp only [okJ, decide_eq_false_iff_not]; rw [hlp]; exact hq)).symm) fun w s => ⟨(), rfl, s.res (List.nil_sublist _) (by simp)⟩
    · refine h_seq ?_
      refine h_reg ?_
      refine h_opX (x_box rfl) fun g1 => ?_
      refine h_op (r_assign rfl) ?_
      refine h_nil ?_
      refine q_then ?_
      refine h_seq ?_
      refine h_seq ?_
      refine h_reg ?_
      refine h_op (r_field rfl) ?_
      refine h_op (r_loadc rfl) ?_
      refine h_op (r_bool (r_neq rfl rfl) (decide_eq_true hk)) ?_
      refine h_op (r_move rfl) ?_
      refine h_op (r_field rfl) ?_
      refine h_op (r_loadc rfl) ?_
      refine h_op (r_bool (r_neq rfl rfl) (decide_eq_true hk1)) ?_
      refine h_op (r_pick rfl rfl) ?_
      refine h_nil ?_
      refine q_then ?_
      refine h_condT rfl ?_
      refine h_seq ?_
      refine h_reg ?_
      refine h_op (r_assign rfl) ?_
      refine h_nil ?_
      refine q_then ?_
      refine h_ret ?_
      refine q_thenR ?_
      exact h_ret1 rfl (aI rfl (by rw [checkP_bad (k := 0) (by omega) (fun j hj => by omega) (by simp [okJ, hk, hk1])]; rfl)) fun w s => ⟨(), rfl, s.res (List.nil_sublist _) (by simp)⟩
end Go.Proofs.YtgfkbeipckbkiaaGreatDoor
