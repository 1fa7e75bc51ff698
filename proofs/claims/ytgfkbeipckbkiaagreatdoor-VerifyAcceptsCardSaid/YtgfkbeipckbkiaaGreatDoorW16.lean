/- The reference's depths and expansion; The reference's check; The reference: parts of bytes, decoding of proofs; verify.Check, Accepts; The reference's Supports; The reference's expansion; slices.Reverse; fold.Preimages; fold.Preimages; Rows of one's own, one by one: plain (joined texts: U23 U26 U97 U96 U45r U23e U21 U22 U24p) -/
import Derived.Test.YtgfkbeipckbkiaaGreatDoorW15
set_option linter.all false
/- U23 -/
namespace Go.Proofs.YtgfkbeipckbkiaaGreatDoor
set_option linter.unusedSimpArgs false
set_option linter.unusedVariables false
open Go.RowKit
theorem rDepths_s (p : Proof) : Spec Tryz.prog 81 [.agg p.cells.toArray].toArray [] [] (fun u : Option Addr × Nat => .slice u.1 (depths p.bitmap).length u.2) (fun u => [.own (.slice u.1 (depths p.bitmap).length u.2) (depths p.bitmap).length 3 1 (ic (depths p.bitmap))]) := by
  refine spec_of Tryz.func81 rfl (n := 19) rfl rfl ?_
  intro W
  refine h_seq ?_
  refine h_reg ?_
  refine h_opX (x_box rfl) fun g1 => ?_
  refine h_op (r_assign rfl) ?_
  refine h_nil ?_
  refine q_then ?_
  refine h_seq ?_
  refine h_reg ?_
  refine h_op (r_assign rfl) ?_
  refine h_nil ?_
  refine q_then ?_
  refine h_seq ?_
  refine h_seq ?_
  refine h_reg ?_
  refine h_op (r_assign rfl) ?_
  refine h_nil ?_
  refine q_then ?_
  refine h_block ?_
  refine h_nil_own 3 1 (xs := ic (dep p.bitmap 0)) rfl ?_
  change H _ _ _ _ _ (.own (.slice none (dep p.bitmap 0).length 0) (dep p.bitmap 0).length _ _ _ :: _) _
  refine h_loop (fun (s : Nat × Option Addr × Nat) => s.1 ≤ 256) (fun (s : Nat × Option Addr × Nat) => [(4, .int .i64 (s.1 : Int)), (3, .slice s.2.1 (dep p.bitmap s.1).length s.2.2), (1, .pointer (some ⟨g1, 0, none⟩))]) (fun (s : Nat × Option Addr × Nat) => [.own (.slice s.2.1 (dep p.bitmap s.1).length s.2.2) (dep p.bitmap s.1).length 3 1 (ic (dep p.bitmap s.1)), .blk g1 p.cells 87]) (fun (s : Nat × Option Addr × Nat) => 256 - s.1) (0, none, 0) ((show 0 ≤ 256 by omega)) ⟨rfl, rfl, rfl, trivial⟩ (same) ?_
  rintro ⟨k, B, c⟩ hk
  dsimp only at hk ⊢
  have hd := dep_len p.bitmap k
  refine h_seq ?_
  refine h_seq ?_
  refine h_reg ?_
  refine h_op (r_move rfl) ?_
  refine h_op (r_lss rfl rfl) ?_
  refine h_nil ?_
  refine q_then ?_
  refine h_cond rfl (fun h => ?_) (fun h => ?_)
  · refine h_skip ?_
    refine q_then ?_
    refine h_seq ?_
    refine h_block ?_
    refine h_seq ?_
    refine h_reg ?_
    refine h_op (r_field rfl) ?_
    refine h_op (r_loadr rfl) ?_
    refine h_op (r_move rfl) ?_
    refine h_call ((refBit_s p.bitmap k (by omega)).comes) rfl rfl rfl fun _ => ?_
    refine h_op (r_bool (r_eql rfl rfl) (bitN_one p.bitmap k)) ?_
    refine h_nil ?_
    refine q_then ?_
    refine h_condB rfl (fun h2 => ?_) (fun h2 => ?_)
    · have he := dep_yes h2
      have hl : (dep p.bitmap k).length + 1 = (dep p.bitmap (k + 1)).length := by rw [he]; simp
      refine h_reg ?_
      refine h_op (r_move rfl) ?_
      refine h_op (r_move rfl) ?_
      refine h_opX (x_bsl rfl rfl) fun g16 => ?_
      refine h_opX (x_app1I rfl rfl (hN := hl)) fun ⟨g17, c17⟩ => ?_
      refine h_op (r_assign rfl) ?_
      refine h_nil ?_
      refine q_block ?_
      refine q_then ?_
      refine h_reg ?_
      refine h_op (r_move rfl) ?_
      refine h_op (r_add rfl rfl) ?_
      refine h_op (r_assign rfl) ?_
      refine h_nil ?_
      rw [← he]
      exact h_back (k + 1, some ⟨g17, 0, none⟩, c17) ((show k + 1 ≤ 256 by omega)) ((show 256 - (k + 1) < 256 - k by omega)) ⟨rfl, rfl, rfl, trivial⟩ (same)
    · have he := dep_no (b := p.bitmap) (k := k) (by rw [h2]; simp)
      refine h_skip ?_
      refine q_block ?_
      refine q_then ?_
      refine h_reg ?_
      refine h_op (r_move rfl) ?_
      refine h_op (r_add rfl rfl) ?_
      refine h_op (r_assign rfl) ?_
      refine h_nil ?_
      rw [← he]
      exact h_back (k + 1, B, c) ((show k + 1 ≤ 256 by omega)) ((show 256 - (k + 1) < 256 - k by omega)) ⟨rfl, rfl, rfl, trivial⟩ (same)
  · obtain rfl : k = 256 := by omega
    refine h_exit ?_
    refine q_thenE ?_
    refine q_thenE ?_
    refine q_blockE ?_
    refine q_then ?_
    refine h_seq ?_
    refine h_reg ?_
    refine h_op (r_move rfl) ?_
    refine h_op (r_assign rfl) ?_
    refine h_nil ?_
    refine q_then ?_
    refine h_ret ?_
    exact h_ret1 rfl rfl fun w s => ⟨(B, c), rfl, s.res ((List.nil_sublist _).cons_cons _) (by simp [Fa.wr])⟩
end Go.Proofs.YtgfkbeipckbkiaaGreatDoor
/- U26 -/
namespace Go.Proofs.YtgfkbeipckbkiaaGreatDoor
set_option linter.unusedSimpArgs false
set_option linter.unusedVariables false
open Go.RowKit
theorem rCheck_s (p : Proof) : Spec Tryz.prog 41 [.agg p.cells.toArray].toArray [] [] (fun _ : Unit => .int .i64 (checkP p)) (fun _ => []) := by
  have hdl := dep_len p.bitmap 256
  rw [dep_256] at hdl
  refine spec_of Tryz.func41 rfl (n := 69) rfl rfl ?_
  intro W
  by_cases hk : p.kind = 0
  · have h0 : okJ p 0 = true := by simp [okJ, hk]
    refine h_seq ?_
    refine h_reg ?_
    refine h_opX (x_box rfl) fun g1 => ?_
    refine h_op (r_assign rfl) ?_
    refine h_nil ?_
    refine q_then ?_
    refine h_seq ?_
    refine h_seq ?_
    refine h_reg ?_
    refine h_op (r_field rfl) ?_
    refine h_op (r_loadc rfl) ?_
    refine h_op (r_bool (r_neq rfl rfl) (decide_eq_false (fun h => h hk))) ?_
    refine h_op (r_move rfl) ?_
    refine h_opOff ?_
    refine h_opOff ?_
    refine h_opOff ?_
    refine h_op (r_pick rfl rfl) ?_
    refine h_nil ?_
    refine q_then ?_
    refine h_condF rfl ?_
    refine h_skip ?_
    refine q_then ?_
    refine h_seq ?_
    refine h_reg ?_
    refine h_op (r_loadr rfl) ?_
    refine h_call ((rDepths_s p).comes) rfl rfl rfl fun ⟨A14, c14⟩ => ?_
    dsimp only
    refine h_op (r_assign rfl) ?_
    refine h_nil ?_
    refine q_then ?_
    refine h_seq ?_
    refine h_reg ?_
    refine h_opX (x_alloc) fun g4 => ?_
    refine h_nil ?_
    refine q_then ?_
    refine h_seq ?_
    refine h_block ?_
    refine h_seq ?_
    refine h_reg ?_
    by_cases hd1 : p.depth < 0
    · refine h_op (r_field rfl) ?_
      refine h_op (r_loadc rfl) ?_
      refine h_op (r_bool (r_lss rfl rfl) (decide_eq_true hd1)) ?_
      refine h_op (r_move rfl) ?_
      refine h_opOff ?_
      refine h_opOff ?_
      refine h_opOff ?_
      refine h_op (r_pick rfl rfl) ?_
      refine h_op (r_move rfl) ?_
      refine h_opOff ?_
      refine h_opOff ?_
      refine h_opOff ?_
      refine h_opOff ?_
      refine h_opOff ?_
      refine h_opOff ?_
      refine h_opOff ?_
      refine h_opOff ?_
      refine h_opOff ?_
      refine h_op (r_pick rfl rfl) ?_
      refine h_op (r_move rfl) ?_
      refine h_opOff ?_
      refine h_opOff ?_
      refine h_opOff ?_
      refine h_opOff ?_
      refine h_opOff ?_
      refine h_opOff ?_
      refine h_op (r_pick rfl rfl) ?_
      refine h_op (r_assign rfl) ?_
      refine h_nil ?_
      refine q_then ?_
      refine h_condT rfl ?_
      refine h_seq ?_
      refine h_reg ?_
      refine h_op (r_assign rfl) ?_
      refine h_nil ?_
      refine q_then ?_
      refine h_ret ?_
      refine q_blockR ?_
      refine q_thenR ?_
      exact h_ret1 rfl (aI rfl (checkP_5 h0 (j := 1) (by omega) (by simp only [okJ, Bool.and_eq_false_iff, decide_eq_false_iff_not]; omega)).symm) fun w s => ⟨(), rfl, s.res (List.nil_sublist _) (by simp)⟩
    · by_cases hd2 : 256 < p.depth
      · refine h_op (r_field rfl) ?_
        refine h_op (r_loadc rfl) ?_
        refine h_op (r_bool (r_lss rfl rfl) (decide_eq_false hd1)) ?_
        refine h_op (r_move rfl) ?_
        refine h_op (r_field rfl) ?_
        refine h_op (r_loadc rfl) ?_
        refine h_op (r_bool (r_gtr rfl rfl) (decide_eq_true hd2)) ?_
        refine h_op (r_pick rfl rfl) ?_
        refine h_op (r_move rfl) ?_
        refine h_opOff ?_
        refine h_opOff ?_
        refine h_opOff ?_
        refine h_opOff ?_
        refine h_opOff ?_
        refine h_opOff ?_
        refine h_opOff ?_
        refine h_opOff ?_
        refine h_opOff ?_
        refine h_op (r_pick rfl rfl) ?_
        refine h_op (r_move rfl) ?_
        refine h_opOff ?_
        refine h_opOff ?_
        refine h_opOff ?_
        refine h_opOff ?_
        refine h_opOff ?_
        refine h_opOff ?_
        refine h_op (r_pick rfl rfl) ?_
        refine h_op (r_assign rfl) ?_
        refine h_nil ?_
        refine q_then ?_
        refine h_condT rfl ?_
        refine h_seq ?_
        refine h_reg ?_
        refine h_op (r_assign rfl) ?_
        refine h_nil ?_
        refine q_then ?_
        refine h_ret ?_
        refine q_blockR ?_
        refine q_thenR ?_
        exact h_ret1 rfl (aI rfl (checkP_5 h0 (j := 1) (by omega) (by simp only [okJ, Bool.and_eq_false_iff, decide_eq_false_iff_not]; omega)).symm) fun w s => ⟨(), rfl, s.res (List.nil_sublist _) (by simp)⟩
      · have h1 : okJ p 1 = true := by simp only [okJ, Bool.and_eq_true, decide_eq_true_eq]; omega
        by_cases hlf : p.leaf = zLeaf
        · have h2 : okJ p 2 = true := by simp [okJ, hlf]
          refine h_op (r_field rfl) ?_
          refine h_op (r_loadc rfl) ?_
          refine h_op (r_bool (r_lss rfl rfl) (decide_eq_false hd1)) ?_
          refine h_op (r_move rfl) ?_
          refine h_op (r_field rfl) ?_
          refine h_op (r_loadc rfl) ?_
          refine h_op (r_bool (r_gtr rfl rfl) (decide_eq_false hd2)) ?_
          refine h_op (r_pick rfl rfl) ?_
          refine h_op (r_move rfl) ?_
          refine h_op (r_field rfl) ?_
          refine h_op (r_loadc rfl) ?_
          refine h_op (r_bool (r_eql rfl rfl) (decide_eq_true hk)) ?_
          refine h_op (r_move rfl) ?_
          refine h_op (r_field rfl) ?_
          refine h_op (r_loadr rfl) ?_
          refine h_op (r_loadr rfl) ?_
          refine h_op (r_bool (r_ner rfl rfl) (show _ = false by simp [hlf])) ?_
          refine h_op (r_pick rfl rfl) ?_
          refine h_op (r_pick rfl rfl) ?_
          refine h_op (r_move rfl) ?_
          refine h_op (r_move rfl) ?_
          refine h_op (r_len rfl) ?_
          refine h_op (r_field rfl) ?_
          refine h_op (r_loadc rfl) ?_
          refine h_op (r_len rfl) ?_
          refine h_op (r_neq rfl rfl) ?_
          refine h_op (r_pick rfl rfl) ?_
          refine h_op (r_assign rfl) ?_
          refine h_nil ?_
          refine q_then ?_
          refine h_cond rfl (fun hlen => ?_) (fun hlen => ?_)
          · refine h_seq ?_
            refine h_reg ?_
            refine h_op (r_assign rfl) ?_
            refine h_nil ?_
            refine q_then ?_
            refine h_ret ?_
            refine q_blockR ?_
            refine q_thenR ?_
            exact h_ret1 rfl (aI rfl (checkP_5 h0 (j := 4) (by omega) (by simp only [okJ, decide_eq_false_iff_not]; exact hlen)).symm) fun w s => ⟨(), rfl, s.res (List.nil_sublist _) (by simp)⟩
          · have h4 : okJ p 4 = true := by simp only [okJ, decide_eq_true_eq]; omega
            by_cases hz : (depths p.bitmap).length = 0
            · refine h_seq ?_
              refine ha_start [.blk g1 p.cells 87] [] mixed (same) ?_
              refine ha_takeP 0 rfl (r_move rfl) ?_
              refine ha_takeP 1 rfl (r_len rfl) ?_
              refine ha_takeP 2 rfl (r_bool (r_gtr rfl rfl) (decide_eq_false (by omega))) ?_
              refine ha_takeP 3 rfl (r_move rfl) ?_
              refine ha_off 4 rfl ?_
              refine ha_off 5 rfl ?_
              refine ha_off 6 rfl ?_
              refine ha_off 7 rfl ?_
              refine ha_off 8 rfl ?_
              refine ha_off 9 rfl ?_
              refine ha_off 10 rfl ?_
              refine ha_off 11 rfl ?_
              refine ha_off 12 rfl ?_
              refine ha_off 13 rfl ?_
              refine ha_takeP 14 rfl (r_pick rfl rfl) ?_
              refine ha_takeP 15 rfl (r_move rfl) ?_
              refine ha_takeP 16 rfl (r_move rfl) ?_
              refine ha_takeP 17 rfl (r_len rfl) ?_
              refine ha_takeP 18 rfl (r_bool (r_eql rfl rfl) (decide_eq_true (by omega))) ?_
              refine ha_takeP 19 rfl (r_move rfl) ?_
              refine ha_takeP 20 rfl (r_field rfl) ?_
              refine ha_take 21 rfl (r_loadc rfl) ?_
              refine ha_takeP 22 rfl (r_gtr rfl rfl) ?_
              refine ha_takeP 23 rfl (r_pick rfl rfl) ?_
              refine ha_takeP 24 rfl (r_pick rfl rfl) ?_
              refine ha_takeP 25 rfl (r_assign rfl) ?_
              refine ha_done (by kernel_rfl) ?_
              refine q_then ?_
              refine h_cond rfl (fun hp => ?_) (fun hp => ?_)
              · refine h_seq ?_
                refine h_reg ?_
                refine h_op (r_assign rfl) ?_
                refine h_nil ?_
                refine q_then ?_
                refine h_ret ?_
                refine q_blockR ?_
                refine q_thenR ?_
                exact h_ret1 rfl (aI rfl (checkP_5 h0 (j := 3) (by omega) (by simp only [okJ, decide_eq_false_iff_not]; rw [lastI_nil hz]; omega)).symm) fun w s => ⟨(), rfl, s.res (List.nil_sublist _) (by simp)⟩
              · rw [checkP_ok h0 h1 h2 (by simp only [okJ, decide_eq_true_eq]; rw [lastI_nil hz]; omega) h4]
                refine h_skip ?_
                refine q_block ?_
                refine q_then ?_
                refine h_seq ?_
                refine h_reg ?_
                refine h_op (r_assign rfl) ?_
                refine h_nil ?_
                refine q_then ?_
                refine h_ret ?_
                exact h_ret1 rfl rfl fun w s => ⟨(), rfl, s.res (List.nil_sublist _) (by simp)⟩
            · refine h_pure (φ := ∃ g, A14 = some ⟨g, 0, none⟩) (fun w s => s.ownSome (N := (depths p.bitmap).length) (c := c14) (by omega)) ?_
              rintro ⟨g14, rfl⟩
              have hlp := lastI_pos (b := p.bitmap) (by omega)
              by_cases hq : (((depths p.bitmap).getD ((depths p.bitmap).length - 1) 0 : Nat) : Int) = p.depth - 1
              · rw [checkP_ok h0 h1 h2 (by simp only [okJ, decide_eq_true_eq]; rw [hlp]; exact hq) h4]
                refine h_seq ?_
                refine ha_start [.blk g1 p.cells 87, .own (.slice (some ⟨g14, 0, none⟩) (depths p.bitmap).length c14) (depths p.bitmap).length 3 1 (ic (depths p.bitmap))] [] mixed (same) ?_
                refine ha_takeP 0 rfl (r_move rfl) ?_
                refine ha_takeP 1 rfl (r_len rfl) ?_
                refine ha_takeP 2 rfl (r_bool (r_gtr rfl rfl) (decide_eq_true (by omega))) ?_
                refine ha_takeP 3 rfl (r_move rfl) ?_
                refine ha_takeP 4 rfl (r_move rfl) ?_
                refine ha_takeP 5 rfl (r_move rfl) ?_
                refine ha_takeP 6 rfl (r_len rfl) ?_
                refine ha_takeP 7 rfl (r_subN rfl rfl) ?_
                refine ha_takeP 8 rfl (r_idx rfl rfl) ?_
                refine ha_take 9 rfl (r_nth rfl (ic_at (by omega))) ?_
                refine ha_takeP 10 rfl (r_field rfl) ?_
                refine ha_take 11 rfl (r_loadc rfl) ?_
                refine ha_takeP 12 rfl (r_sub rfl rfl) ?_
                refine ha_takeP 13 rfl (r_bool (r_neq rfl rfl) (decide_eq_false (fun h => h hq))) ?_
                refine ha_takeP 14 rfl (r_pick rfl rfl) ?_
                refine ha_takeP 15 rfl (r_move rfl) ?_
                refine ha_takeP 16 rfl (r_move rfl) ?_
                refine ha_takeP 17 rfl (r_len rfl) ?_
                refine ha_takeP 18 rfl (r_bool (r_eql rfl rfl) (decide_eq_false (by omega))) ?_
                refine ha_takeP 19 rfl (r_move rfl) ?_
                refine ha_off 20 rfl ?_
                refine ha_off 21 rfl ?_
                refine ha_off 22 rfl ?_
                refine ha_takeP 23 rfl (r_pick rfl rfl) ?_
                refine ha_takeP 24 rfl (r_pick rfl rfl) ?_
                refine ha_takeP 25 rfl (r_assign rfl) ?_
                refine ha_done (by kernel_rfl) ?_
                refine q_then ?_
                refine h_condF rfl ?_
                refine h_skip ?_
                refine q_block ?_
                refine q_then ?_
                refine h_seq ?_
                refine h_reg ?_
                refine h_op (r_assign rfl) ?_
                refine h_nil ?_
                refine q_then ?_
                refine h_ret ?_
                exact h_ret1 rfl rfl fun w s => ⟨(), rfl, s.res (List.nil_sublist _) (by simp)⟩
              · refine h_seq ?_
                refine ha_start [.blk g1 p.cells 87, .own (.slice (some ⟨g14, 0, none⟩) (depths p.bitmap).length c14) (depths p.bitmap).length 3 1 (ic (depths p.bitmap))] [] mixed (same) ?_
                refine ha_takeP 0 rfl (r_move rfl) ?_
                refine ha_takeP 1 rfl (r_len rfl) ?_
                refine ha_takeP 2 rfl (r_bool (r_gtr rfl rfl) (decide_eq_true (by omega))) ?_
                refine ha_takeP 3 rfl (r_move rfl) ?_
                refine ha_takeP 4 rfl (r_move rfl) ?_
                refine ha_takeP 5 rfl (r_move rfl) ?_
                refine ha_takeP 6 rfl (r_len rfl) ?_
                refine ha_takeP 7 rfl (r_subN rfl rfl) ?_
                refine ha_takeP 8 rfl (r_idx rfl rfl) ?_
                refine ha_take 9 rfl (r_nth rfl (ic_at (by omega))) ?_
                refine ha_takeP 10 rfl (r_field rfl) ?_
                refine ha_take 11 rfl (r_loadc rfl) ?_
                refine ha_takeP 12 rfl (r_sub rfl rfl) ?_
                refine ha_takeP 13 rfl (r_bool (r_neq rfl rfl) (decide_eq_true hq)) ?_
                refine ha_takeP 14 rfl (r_pick rfl rfl) ?_
                refine ha_takeP 15 rfl (r_move rfl) ?_
                refine ha_off 16 rfl ?_
                refine ha_off 17 rfl ?_
                refine ha_off 18 rfl ?_
                refine ha_off 19 rfl ?_
                refine ha_off 20 rfl ?_
                refine ha_off 21 rfl ?_
                refine ha_off 22 rfl ?_
                refine ha_off 23 rfl ?_
                refine ha_takeP 24 rfl (r_pick rfl rfl) ?_
                refine ha_takeP 25 rfl (r_assign rfl) ?_
                refine ha_done (by kernel_rfl) ?_
                refine q_then ?_
                refine h_condT rfl ?_
                refine h_seq ?_
                refine h_reg ?_
                refine h_op (r_assign rfl) ?_
                refine h_nil ?_
                refine q_then ?_
                refine h_ret ?_
                refine q_blockR ?_
                refine q_thenR ?_
                exact h_ret1 rfl (aI rfl (checkP_5 h0 (j := 3) (by omega) (by simp only [okJ, decide_eq_false_iff_not]; rw [hlp]; exact hq)).symm) fun w s => ⟨(), rfl, s.res (List.nil_sublist _) (by simp)⟩
        · have hk1 : ¬ p.kind = 1 := by omega
          refine h_op (r_field rfl) ?_
          refine h_op (r_loadc rfl) ?_
          refine h_op (r_bool (r_lss rfl rfl) (decide_eq_false hd1)) ?_
          refine h_op (r_move rfl) ?_
          refine h_op (r_field rfl) ?_
          refine h_op (r_loadc rfl) ?_
          refine h_op (r_bool (r_gtr rfl rfl) (decide_eq_false hd2)) ?_
          refine h_op (r_pick rfl rfl) ?_
          refine h_op (r_move rfl) ?_
          refine h_op (r_field rfl) ?_
          refine h_op (r_loadc rfl) ?_
          refine h_op (r_bool (r_eql rfl rfl) (decide_eq_true hk)) ?_
          refine h_op (r_move rfl) ?_
          refine h_op (r_field rfl) ?_
          refine h_op (r_loadr rfl) ?_
          refine h_op (r_loadr rfl) ?_
          refine h_op (r_bool (r_ner rfl rfl) (show _ = true by simp [hlf])) ?_
          refine h_op (r_pick rfl rfl) ?_
          refine h_op (r_pick rfl rfl) ?_
          refine h_op (r_move rfl) ?_
          refine h_opOff ?_
          refine h_opOff ?_
          refine h_opOff ?_
          refine h_opOff ?_
          refine h_opOff ?_
          refine h_opOff ?_
          refine h_op (r_pick rfl rfl) ?_
          refine h_op (r_assign rfl) ?_
          refine h_nil ?_
          refine q_then ?_
          refine h_condT rfl ?_
          refine h_seq ?_
          refine h_reg ?_
          refine h_op (r_assign rfl) ?_
          refine h_nil ?_
          refine q_then ?_
          refine h_ret ?_
          refine q_blockR ?_
          refine q_thenR ?_
          exact h_ret1 rfl (aI rfl (checkP_5 h0 (j := 2) (by omega) (by simp [okJ, hlf, hk1])).symm) fun w s => ⟨(), rfl, s.res (List.nil_sublist _) (by simp)⟩
  · by_cases hk1 : p.kind = 1
    · have h0 : okJ p 0 = true := by simp [okJ, hk1]
      refine h_seq ?_
      refine h_reg ?_
      refine h_opX (x_box rfl) fun g1 => ?_
      refine h_op (r_assign rfl) ?_
      refine h_nil ?_
      refine q_then ?_
      refine h_seq ?_
      refine h_seq ?_
      refine h_reg ?_
      refine h_op (r_field rfl) ?_
      refine h_op (r_loadc rfl) ?_
      refine h_op (r_bool (r_neq rfl rfl) (decide_eq_true hk)) ?_
      refine h_op (r_move rfl) ?_
      refine h_op (r_field rfl) ?_
      refine h_op (r_loadc rfl) ?_
      refine h_op (r_bool (r_neq rfl rfl) (decide_eq_false (fun h => h hk1))) ?_
      refine h_op (r_pick rfl rfl) ?_
      refine h_nil ?_
      refine q_then ?_
      refine h_condF rfl ?_
      refine h_skip ?_
      refine q_then ?_
      refine h_seq ?_
      refine h_reg ?_
      refine h_op (r_loadr rfl) ?_
      refine h_call ((rDepths_s p).comes) rfl rfl rfl fun ⟨A14, c14⟩ => ?_
      dsimp only
      refine h_op (r_assign rfl) ?_
      refine h_nil ?_
      refine q_then ?_
      refine h_seq ?_
      refine h_reg ?_
      refine h_opX (x_alloc) fun g4 => ?_
      refine h_nil ?_
      refine q_then ?_
      refine h_seq ?_
      refine h_block ?_
      refine h_seq ?_
      refine h_reg ?_
      by_cases hd1 : p.depth < 0
      · refine h_op (r_field rfl) ?_
        refine h_op (r_loadc rfl) ?_
        refine h_op (r_bool (r_lss rfl rfl) (decide_eq_true hd1)) ?_
        refine h_op (r_move rfl) ?_
        refine h_opOff ?_
        refine h_opOff ?_
        refine h_opOff ?_
        refine h_op (r_pick rfl rfl) ?_
        refine h_op (r_move rfl) ?_
        refine h_opOff ?_
        refine h_opOff ?_
        refine h_opOff ?_
        refine h_opOff ?_
        refine h_opOff ?_
        refine h_opOff ?_
        refine h_opOff ?_
        refine h_opOff ?_
        refine h_opOff ?_
        refine h_op (r_pick rfl rfl) ?_
        refine h_op (r_move rfl) ?_
        refine h_opOff ?_
        refine h_opOff ?_
        refine h_opOff ?_
        refine h_opOff ?_
        refine h_opOff ?_
        refine h_opOff ?_
        refine h_op (r_pick rfl rfl) ?_
        refine h_op (r_assign rfl) ?_
        refine h_nil ?_
        refine q_then ?_
        refine h_condT rfl ?_
        refine h_seq ?_
        refine h_reg ?_
        refine h_op (r_assign rfl) ?_
        refine h_nil ?_
        refine q_then ?_
        refine h_ret ?_
        refine q_blockR ?_
        refine q_thenR ?_
        exact h_ret1 rfl (aI rfl (checkP_5 h0 (j := 1) (by omega) (by simp only [okJ, Bool.and_eq_false_iff, decide_eq_false_iff_not]; omega)).symm) fun w s => ⟨(), rfl, s.res (List.nil_sublist _) (by simp)⟩
      · by_cases hd2 : 256 < p.depth
        · refine h_op (r_field rfl) ?_
          refine h_op (r_loadc rfl) ?_
          refine h_op (r_bool (r_lss rfl rfl) (decide_eq_false hd1)) ?_
          refine h_op (r_move rfl) ?_
          refine h_op (r_field rfl) ?_
          refine h_op (r_loadc rfl) ?_
          refine h_op (r_bool (r_gtr rfl rfl) (decide_eq_true hd2)) ?_
          refine h_op (r_pick rfl rfl) ?_
          refine h_op (r_move rfl) ?_
          refine h_opOff ?_
          refine h_opOff ?_
          refine h_opOff ?_
          refine h_opOff ?_
          refine h_opOff ?_
          refine h_opOff ?_
          refine h_opOff ?_
          refine h_opOff ?_
          refine h_opOff ?_
          refine h_op (r_pick rfl rfl) ?_
          refine h_op (r_move rfl) ?_
          refine h_opOff ?_
          refine h_opOff ?_
          refine h_opOff ?_
          refine h_opOff ?_
          refine h_opOff ?_
          refine h_opOff ?_
          refine h_op (r_pick rfl rfl) ?_
          refine h_op (r_assign rfl) ?_
          refine h_nil ?_
          refine q_then ?_
          refine h_condT rfl ?_
          refine h_seq ?_
          refine h_reg ?_
          refine h_op (r_assign rfl) ?_
          refine h_nil ?_
          refine q_then ?_
          refine h_ret ?_
          refine q_blockR ?_
          refine q_thenR ?_
          exact h_ret1 rfl (aI rfl (checkP_5 h0 (j := 1) (by omega) (by simp only [okJ, Bool.and_eq_false_iff, decide_eq_false_iff_not]; omega)).symm) fun w s => ⟨(), rfl, s.res (List.nil_sublist _) (by simp)⟩
        · have h1 : okJ p 1 = true := by simp only [okJ, Bool.and_eq_true, decide_eq_true_eq]; omega
          have h2 : okJ p 2 = true := by simp [okJ, hk1]
          refine h_op (r_field rfl) ?_
          refine h_op (r_loadc rfl) ?_
          refine h_op (r_bool (r_lss rfl rfl) (decide_eq_false hd1)) ?_
          refine h_op (r_move rfl) ?_
          refine h_op (r_field rfl) ?_
          refine h_op (r_loadc rfl) ?_
          refine h_op (r_bool (r_gtr rfl rfl) (decide_eq_false hd2)) ?_
          refine h_op (r_pick rfl rfl) ?_
          refine h_op (r_move rfl) ?_
          refine h_op (r_field rfl) ?_
          refine h_op (r_loadc rfl) ?_
          refine h_op (r_bool (r_eql rfl rfl) (decide_eq_false (by omega))) ?_
          refine h_op (r_move rfl) ?_
          refine h_opOff ?_
          refine h_opOff ?_
          refine h_opOff ?_
          refine h_opOff ?_
          refine h_op (r_pick rfl rfl) ?_
          refine h_op (r_pick rfl rfl) ?_
          refine h_op (r_move rfl) ?_
          refine h_op (r_move rfl) ?_
          refine h_op (r_len rfl) ?_
          refine h_op (r_field rfl) ?_
          refine h_op (r_loadc rfl) ?_
          refine h_op (r_len rfl) ?_
          refine h_op (r_neq rfl rfl) ?_
          refine h_op (r_pick rfl rfl) ?_
          refine h_op (r_assign rfl) ?_
          refine h_nil ?_
          refine q_then ?_
          refine h_cond rfl (fun hlen => ?_) (fun hlen => ?_)
          · refine h_seq ?_
            refine h_reg ?_
            refine h_op (r_assign rfl) ?_
            refine h_nil ?_
            refine q_then ?_
            refine h_ret ?_
            refine q_blockR ?_
            refine q_thenR ?_
            exact h_ret1 rfl (aI rfl (checkP_5 h0 (j := 4) (by omega) (by simp only [okJ, decide_eq_false_iff_not]; exact hlen)).symm) fun w s => ⟨(), rfl, s.res (List.nil_sublist _) (by simp)⟩
          · have h4 : okJ p 4 = true := by simp only [okJ, decide_eq_true_eq]; omega
            by_cases hz : (depths p.bitmap).length = 0
            · refine h_seq ?_
              refine ha_start [.blk g1 p.cells 87] [] mixed (same) ?_
              refine ha_takeP 0 rfl (r_move rfl) ?_
              refine ha_takeP 1 rfl (r_len rfl) ?_
              refine ha_takeP 2 rfl (r_bool (r_gtr rfl rfl) (decide_eq_false (by omega))) ?_
              refine ha_takeP 3 rfl (r_move rfl) ?_
              refine ha_off 4 rfl ?_
              refine ha_off 5 rfl ?_
              refine ha_off 6 rfl ?_
              refine ha_off 7 rfl ?_
              refine ha_off 8 rfl ?_
              refine ha_off 9 rfl ?_
              refine ha_off 10 rfl ?_
              refine ha_off 11 rfl ?_
              refine ha_off 12 rfl ?_
              refine ha_off 13 rfl ?_
              refine ha_takeP 14 rfl (r_pick rfl rfl) ?_
              refine ha_takeP 15 rfl (r_move rfl) ?_
              refine ha_takeP 16 rfl (r_move rfl) ?_
              refine ha_takeP 17 rfl (r_len rfl) ?_
              refine ha_takeP 18 rfl (r_bool (r_eql rfl rfl) (decide_eq_true (by omega))) ?_
              refine ha_takeP 19 rfl (r_move rfl) ?_
              refine ha_takeP 20 rfl (r_field rfl) ?_
              refine ha_take 21 rfl (r_loadc rfl) ?_
              refine ha_takeP 22 rfl (r_gtr rfl rfl) ?_
              refine ha_takeP 23 rfl (r_pick rfl rfl) ?_
              refine ha_takeP 24 rfl (r_pick rfl rfl) ?_
              refine ha_takeP 25 rfl (r_assign rfl) ?_
              refine ha_done (by kernel_rfl) ?_
              refine q_then ?_
              refine h_cond rfl (fun hp => ?_) (fun hp => ?_)
              · refine h_seq ?_
                refine h_reg ?_
                refine h_op (r_assign rfl) ?_
                refine h_nil ?_
                refine q_then ?_
                refine h_ret ?_
                refine q_blockR ?_
                refine q_thenR ?_
                exact h_ret1 rfl (aI rfl (checkP_5 h0 (j := 3) (by omega) (by simp only [okJ, decide_eq_false_iff_not]; rw [lastI_nil hz]; omega)).symm) fun w s => ⟨(), rfl, s.res (List.nil_sublist _) (by simp)⟩
              · rw [checkP_ok h0 h1 h2 (by simp only [okJ, decide_eq_true_eq]; rw [lastI_nil hz]; omega) h4]
                refine h_skip ?_
                refine q_block ?_
                refine q_then ?_
                refine h_seq ?_
                refine h_reg ?_
                refine h_op (r_assign rfl) ?_
                refine h_nil ?_
                refine q_then ?_
                refine h_ret ?_
                exact h_ret1 rfl rfl fun w s => ⟨(), rfl, s.res (List.nil_sublist _) (by simp)⟩
            · refine h_pure (φ := ∃ g, A14 = some ⟨g, 0, none⟩) (fun w s => s.ownSome (N := (depths p.bitmap).length) (c := c14) (by omega)) ?_
              rintro ⟨g14, rfl⟩
              have hlp := lastI_pos (b := p.bitmap) (by omega)
              by_cases hq : (((depths p.bitmap).getD ((depths p.bitmap).length - 1) 0 : Nat) : Int) = p.depth - 1
              · rw [checkP_ok h0 h1 h2 (by simp only [okJ, decide_eq_true_eq]; rw [hlp]; exact hq) h4]
                refine h_seq ?_
                refine ha_start [.blk g1 p.cells 87, .own (.slice (some ⟨g14, 0, none⟩) (depths p.bitmap).length c14) (depths p.bitmap).length 3 1 (ic (depths p.bitmap))] [] mixed (same) ?_
                refine ha_takeP 0 rfl (r_move rfl) ?_
                refine ha_takeP 1 rfl (r_len rfl) ?_
                refine ha_takeP 2 rfl (r_bool (r_gtr rfl rfl) (decide_eq_true (by omega))) ?_
                refine ha_takeP 3 rfl (r_move rfl) ?_
                refine ha_takeP 4 rfl (r_move rfl) ?_
                refine ha_takeP 5 rfl (r_move rfl) ?_
                refine ha_takeP 6 rfl (r_len rfl) ?_
                refine ha_takeP 7 rfl (r_subN rfl rfl) ?_
                refine ha_takeP 8 rfl (r_idx rfl rfl) ?_
                refine ha_take 9 rfl (r_nth rfl (ic_at (by omega))) ?_
                refine ha_takeP 10 rfl (r_field rfl) ?_
                refine ha_take 11 rfl (r_loadc rfl) ?_
                refine ha_takeP 12 rfl (r_sub rfl rfl) ?_
                refine ha_takeP 13 rfl (r_bool (r_neq rfl rfl) (decide_eq_false (fun h => h hq))) ?_
                refine ha_takeP 14 rfl (r_pick rfl rfl) ?_
                refine ha_takeP 15 rfl (r_move rfl) ?_
                refine ha_takeP 16 rfl (r_move rfl) ?_
                refine ha_takeP 17 rfl (r_len rfl) ?_
                refine ha_takeP 18 rfl (r_bool (r_eql rfl rfl) (decide_eq_false (by omega))) ?_
                refine ha_takeP 19 rfl (r_move rfl) ?_
                refine ha_off 20 rfl ?_
                refine ha_off 21 rfl ?_
                refine ha_off 22 rfl ?_
                refine ha_takeP 23 rfl (r_pick rfl rfl) ?_
                refine ha_takeP 24 rfl (r_pick rfl rfl) ?_
                refine ha_takeP 25 rfl (r_assign rfl) ?_
                refine ha_done (by kernel_rfl) ?_
                refine q_then ?_
                refine h_condF rfl ?_
                refine h_skip ?_
                refine q_block ?_
                refine q_then ?_
                refine h_seq ?_
                refine h_reg ?_
                refine h_op (r_assign rfl) ?_
                refine h_nil ?_
                refine q_then ?_
                refine h_ret ?_
                exact h_ret1 rfl rfl fun w s => ⟨(), rfl, s.res (List.nil_sublist _) (by simp)⟩
              · refine h_seq ?_
                refine ha_start [.blk g1 p.cells 87, .own (.slice (some ⟨g14, 0, none⟩) (depths p.bitmap).length c14) (depths p.bitmap).length 3 1 (ic (depths p.bitmap))] [] mixed (same) ?_
                refine ha_takeP 0 rfl (r_move rfl) ?_
                refine ha_takeP 1 rfl (r_len rfl) ?_
                refine ha_takeP 2 rfl (r_bool (r_gtr rfl rfl) (decide_eq_true (by omega))) ?_
                refine ha_takeP 3 rfl (r_move rfl) ?_
                refine ha_takeP 4 rfl (r_move rfl) ?_
                refine ha_takeP 5 rfl (r_move rfl) ?_
                refine ha_takeP 6 rfl (r_len rfl) ?_
                refine ha_takeP 7 rfl (r_subN rfl rfl) ?_
                refine ha_takeP 8 rfl (r_idx rfl rfl) ?_
                refine ha_take 9 rfl (r_nth rfl (ic_at (by omega))) ?_
                refine ha_takeP 10 rfl (r_field rfl) ?_
                refine ha_take 11 rfl (r_loadc rfl) ?_
                refine ha_takeP 12 rfl (r_sub rfl rfl) ?_
                refine ha_takeP 13 rfl (r_bool (r_neq rfl rfl) (decide_eq_true hq)) ?_
                refine ha_takeP 14 rfl (r_pick rfl rfl) ?_
                refine ha_takeP 15 rfl (r_move rfl) ?_
                refine ha_off 16 rfl ?_
                refine ha_off 17 rfl ?_
                refine ha_off 18 rfl ?_
                refine ha_off 19 rfl ?_
                refine ha_off 20 rfl ?_
                refine ha_off 21 rfl ?_
                refine ha_off 22 rfl ?_
                refine ha_off 23 rfl ?_
                refine ha_takeP 24 rfl (r_pick rfl rfl) ?_
                refine ha_takeP 25 rfl (r_assign rfl) ?_
                refine ha_done (by kernel_rfl) ?_
                refine q_then ?_
                refine h_condT rfl ?_
                refine h_seq ?_
                refine h_reg ?_
                refine h_op (r_assign rfl) ?_
                refine h_nil ?_
                refine q_then ?_
                refine h_ret ?_
                refine q_blockR ?_
                refine q_thenR ?_
                exact h_ret1 rfl (aI rfl (checkP_5 h0 (j := 3) (by omega) (by simp only [okJ, decide_eq_false_iff_not]; rw [hlp]; exact hq)).symm) fun w s => ⟨(), rfl, s.res (List.nil_sublist _) (by simp)⟩
    · refine h_seq ?_
      refine h_reg ?_
      refine h_opX (x_box rfl) fun g1 => ?_
      refine h_op (r_assign rfl) ?_
      refine h_nil ?_
      refine q_then ?_
      refine h_seq ?_
      refine h_seq ?_
      refine h_reg ?_
      refine h_op (r_field rfl) ?_
      refine h_op (r_loadc rfl) ?_
      refine h_op (r_bool (r_neq rfl rfl) (decide_eq_true hk)) ?_
      refine h_op (r_move rfl) ?_
      refine h_op (r_field rfl) ?_
      refine h_op (r_loadc rfl) ?_
      refine h_op (r_bool (r_neq rfl rfl) (decide_eq_true hk1)) ?_
      refine h_op (r_pick rfl rfl) ?_
      refine h_nil ?_
      refine q_then ?_
      refine h_condT rfl ?_
      refine h_seq ?_
      refine h_reg ?_
      refine h_op (r_assign rfl) ?_
      refine h_nil ?_
      refine q_then ?_
      refine h_ret ?_
      refine q_thenR ?_
      exact h_ret1 rfl (aI rfl (by rw [checkP_bad (k := 0) (by omega) (fun j hj => by omega) (by simp [okJ, hk, hk1])]; rfl)) fun w s => ⟨(), rfl, s.res (List.nil_sublist _) (by simp)⟩
end Go.Proofs.YtgfkbeipckbkiaaGreatDoor
/- U97 -/
namespace Go.Proofs.YtgfkbeipckbkiaaGreatDoor
set_option linter.unusedSimpArgs false
set_option linter.unusedVariables false
open Go.RowKit
def fillP (f : Nat → UInt8) (k : Nat) : List UInt8 := (List.range k).map f ++ List.replicate (32 - k) 0
theorem fillP_len (f : Nat → UInt8) {k : Nat} (h : k ≤ 32) : (fillP f k).length = 32 := by simp [fillP]; omega
theorem fillP_set (f : Nat → UInt8) {k : Nat} (h : k < 32) : (fillP f k).set k (f k) = fillP f (k + 1) := by
  unfold fillP
  rw [List.set_append_right _ _ (by simp), show 32 - k = (32 - (k + 1)) + 1 by omega, List.replicate_succ]
  simp only [List.length_map, List.length_range, Nat.sub_self, List.set_cons_zero]
  rw [List.range_succ, List.map_append, List.append_assoc]
  rfl
theorem fillP_all (l : List UInt8) (o : Nat) : fillP (fun j => l.getD (o + j) 0) 32 = (b32At l o).1 := by
  show (List.range 32).map _ ++ List.replicate 0 0 = _
  rw [List.replicate_zero, List.append_nil]
  rfl
theorem rOf_s (l : List UInt8) (A : Option Addr) (c : Nat) (hl : l.length = 32) : Spec Tryz.prog 77 [.slice A l.length c].toArray [.rd A (bc l)] [] (fun _ : Unit => .agg (keyOf l).cells.toArray) (fun _ => []) := by
  have hko : (b32At l 0) = keyOf l := by
    have h1 := b32At_drop (l := l) (o := 0) (by omega)
    rw [List.drop_zero, List.drop_of_length_le (by omega), List.append_nil] at h1
    unfold keyOf
    rw [dif_pos hl]
    exact Subtype.ext h1.symm
  rw [← hko]
  refine spec_of Tryz.func77 rfl (n := 16) rfl rfl ?_
  intro W
  refine h_pure (φ := ∃ b o, A = some ⟨b, o, none⟩) (fun w s => Rd.some (s.ok (.rd A (bc l)) (by simp)) (by rw [bc_length]; omega)) ?_
  rintro ⟨b, o, rfl⟩
  refine h_seq ?_
  refine h_reg ?_
  refine h_opX (x_alloc) fun g2 => ?_
  refine h_nil ?_
  refine q_then ?_
  refine h_seq ?_
  refine h_reg ?_
  refine h_opX (x_alloc) fun g3 => ?_
  refine h_nil ?_
  refine q_then ?_
  refine h_seq ?_
  refine h_seq ?_
  refine h_reg ?_
  refine h_op (r_assign rfl) ?_
  refine h_nil ?_
  refine q_then ?_
  refine h_block ?_
  change H _ _ _ _ _ (.blk g3 (bc (fillP (fun j => l.getD (0 + j) 0) 0)) _ :: _) _
  refine h_loop (fun (k : Nat) => k ≤ 32) (fun (k : Nat) => [(4, .int .i64 (k : Int)), (3, .pointer (some ⟨g3, 0, none⟩)), (2, .pointer (some ⟨g2, 0, none⟩)), (0, .slice (some ⟨b, o, none⟩) l.length c)]) (fun (k : Nat) => [.blk g3 (bc (fillP (fun j => l.getD (0 + j) 0) k)) 39, .blk g2 zB32.cells 39, .rd (some ⟨b, o, none⟩) (bc l)]) (fun (k : Nat) => 32 - k) 0 ((show 0 ≤ 32 by omega)) ⟨rfl, rfl, rfl, rfl, trivial⟩ (same) ?_
  rintro k hk
  refine h_seq ?_
  refine h_seq ?_
  refine h_reg ?_
  refine h_op (r_move rfl) ?_
  refine h_op (r_lss rfl rfl) ?_
  refine h_nil ?_
  refine q_then ?_
  refine h_cond rfl (fun hlt => ?_) (fun hlt => ?_)
  · have hfl := fillP_len (fun j => l.getD (0 + j) 0) (k := k) hk
    refine h_skip ?_
    refine q_then ?_
    refine h_seq ?_
    refine h_block ?_
    refine h_reg ?_
    refine h_op (r_move rfl) ?_
    refine h_op (r_move rfl) ?_
    refine h_op (r_move rfl) ?_
    refine h_op (r_idx rfl rfl) ?_
    refine h_op (r_nth rfl (bc_at' (l := l) (i := k) (by omega))) ?_
    refine h_op (r_idxA rfl rfl) ?_
    refine h_opS (s_setB rfl rfl) ?_
    refine h_nil ?_
    refine q_block ?_
    refine q_then ?_
    refine h_reg ?_
    refine h_op (r_move rfl) ?_
    refine h_op (r_add rfl rfl) ?_
    refine h_op (r_assign rfl) ?_
    refine h_nil ?_
    change H _ _ _ _ _ (.blk g3 (bc ((fillP (fun j => l.getD (0 + j) 0) k).set k (l.getD k 0))) _ :: _) _
    rw [show l.getD k 0 = l.getD (0 + k) 0 by rw [Nat.zero_add], fillP_set (fun j => l.getD (0 + j) 0) (by omega)]
    exact h_back (k + 1) ((show k + 1 ≤ 32 by omega)) ((show 32 - (k + 1) < 32 - k by omega)) ⟨rfl, rfl, rfl, rfl, trivial⟩ (same)
  · obtain rfl : k = 32 := by omega
    rw [fillP_all]
    change H _ _ _ _ _ (.blk g3 (b32At l 0).cells _ :: _) _
    refine h_exit ?_
    refine q_thenE ?_
    refine q_thenE ?_
    refine q_blockE ?_
    refine q_then ?_
    refine h_seq ?_
    refine h_reg ?_
    refine h_op (r_loadr rfl) ?_
    refine h_opS (s_storer rfl rfl) ?_
    refine h_nil ?_
    refine q_then ?_
    refine h_ret ?_
    exact h_ret1 rfl (rv_row rfl) fun w s => ⟨(), rfl, s.res (List.nil_sublist _) (by simp)⟩
end Go.Proofs.YtgfkbeipckbkiaaGreatDoor
/- U96 -/
namespace Go.Proofs.YtgfkbeipckbkiaaGreatDoor
set_option linter.unusedSimpArgs false
set_option linter.unusedVariables false
open Go.RowKit
theorem r_ifnn {P : Program} {n : Nat} {D : List Deferred} {E : Env} {L : List Fa} {T T' : TypeId} {t : Nat} {u : TypeId} {v : Value} [hT : TIf P T] (hx : ev E (.tmp t) = some (.iface u v)) : Runs0 P n D E L (.binOp .neq T (.tmp t) (.const .nilIface) T') (.bool true) := fun a w ka s o ho =>
  run_bin ho (ka.ev hx) (v := .nilIface) rfl rfl (run_neq_held_nil w T u v hT.und)
theorem r_nilnn {P : Program} {n : Nat} {D : List Deferred} {E : Env} {L : List Fa} {T T' : TypeId} {t : Nat} [hT : TIf P T] (hx : ev E (.tmp t) = some .nilIface) : Runs0 P n D E L (.binOp .neq T (.tmp t) (.const .nilIface) T') (.bool false) := fun a w ka s o ho =>
  run_bin ho (ka.ev hx) (v := .nilIface) rfl rfl (run_neq_nil_nil w T hT.und)
/-- the code of what is found -/
def errE : Option (Nat × Int) → Int
  | none => 0
  | some (_, e) => e
section
variable (n : Nat) (hn : n ≤ 256) (h : Zh) [hT : RdZ h (some ⟨2, 0, none⟩) hashT] [hE : RdZ h (some ⟨0, 0, none⟩) [rty 76]] (gh gc k : Nat) (hk : k ≤ 100000000) (root : Sl) (c : Claim) (b : Sl) (rb kb vb bb : List UInt8) [hR : SlZ h root rb] [hK : SlZ h c.key kb] [hV : SlZ h c.value vb] [hB : SlZ h b bb] (hvl : vb.length ≤ 100000000) (hbl : bb.length ≤ 100000000)
include hn hk hvl hbl
theorem vCheck_s : Spec Tryz.prog 44 [.pointer (some ⟨gh, 0, none⟩), .slice root.A root.n root.c, .agg c.cells.toArray, .slice b.A b.n b.c].toArray [HR gh gc n] [.zone true h, CN gc k] (fun u : {u : Zh × Nat // LeZ h u.1 ∧ u.2 ≤ k + 259} => .int .i64 (errE (firstC (vcode n root c rb kb vb bb)))) (fun u => [.zone true u.1.1, CN gc u.1.2]) := by
  have hV := Verify_s n hn h gh gc k hk root c b rb kb vb bb hvl hbl
  generalize firstC (vcode n root c rb kb vb bb) = r at hV ⊢
  rcases r with _ | ⟨i, e⟩
  · replace hV : Spec Tryz.prog 36 [.pointer (some ⟨gh, 0, none⟩), .slice root.A root.n root.c, .agg c.cells.toArray, .slice b.A b.n b.c].toArray [HR gh gc n] [.zone true h, CN gc k] (fun u : {u : Nat × Zh × Nat // LeZ h u.2.1 ∧ u.2.2 ≤ k + 259} => .nilIface) (fun u => [.zone true u.1.2.1, CN gc u.1.2.2]) := hV
    refine spec_of Tryz.func44 rfl (n := 25) rfl rfl ?_
    intro W
    refine h_seq ?_
    refine h_reg ?_
    refine h_opX (x_box rfl) fun g6 => ?_
    refine h_op (r_assign rfl) ?_
    refine h_nil ?_
    refine q_then ?_
    refine h_seq ?_
    refine h_reg ?_
    refine h_opX (x_alloc) fun g9 => ?_
    refine h_nil ?_
    refine q_then ?_
    refine h_seq ?_
    refine h_seq ?_
    refine h_reg ?_
    refine h_op (r_move rfl) ?_
    refine h_op (r_move rfl) ?_
    refine h_op (r_loadr rfl) ?_
    refine h_op (r_move rfl) ?_
    refine h_call (hV.comes) rfl rfl rfl fun ⟨⟨g15, z, k'⟩, hz, hk'⟩ => ?_
    dsimp only at hz hk' ⊢
    refine h_op (r_assign rfl) ?_
    refine h_nil ?_
    refine q_then ?_
    refine h_seq ?_
    refine h_reg ?_
    refine h_op (r_move rfl) ?_
    refine h_op (r_nilnn rfl) ?_
    refine h_op (r_move rfl) ?_
    refine h_opOff ?_
    refine h_opOff ?_
    refine h_opOff ?_
    refine h_opOff ?_
    refine h_op (r_pick rfl rfl) ?_
    refine h_nil ?_
    refine q_then ?_
    refine h_condF rfl ?_
    refine h_skip ?_
    refine q_then ?_
    refine h_seq ?_
    refine h_reg ?_
    refine h_op (r_loadc rfl) ?_
    refine h_op (r_assign rfl) ?_
    refine h_nil ?_
    refine q_then ?_
    refine h_ret ?_
    exact h_ret1 rfl rfl fun w s => ⟨⟨(z, k'), hz, hk'⟩, rfl, (same (L' := [.zone true z, CN gc k']) w s).res (List.Sublist.refl _) (by simp [Fa.wr])⟩
  · replace hV : Spec Tryz.prog 36 [.pointer (some ⟨gh, 0, none⟩), .slice root.A root.n root.c, .agg c.cells.toArray, .slice b.A b.n b.c].toArray [HR gh gc n] [.zone true h, CN gc k] (fun u : {u : Nat × Zh × Nat // LeZ h u.2.1 ∧ u.2.2 ≤ k + 259} => .iface 162 (.pointer (some ⟨u.1.1, 0, none⟩))) (fun u => [.zone true u.1.2.1, CN gc u.1.2.2, .blk u.1.1 (fltC verifyB (i : Int) e) 166]) := hV
    refine spec_of Tryz.func44 rfl (n := 25) rfl rfl ?_
    intro W
    refine h_seq ?_
    refine h_reg ?_
    refine h_opX (x_box rfl) fun g6 => ?_
    refine h_op (r_assign rfl) ?_
    refine h_nil ?_
    refine q_then ?_
    refine h_seq ?_
    refine h_reg ?_
    refine h_opX (x_alloc) fun g9 => ?_
    refine h_nil ?_
    refine q_then ?_
    refine h_seq ?_
    refine h_seq ?_
    refine h_reg ?_
    refine h_op (r_move rfl) ?_
    refine h_op (r_move rfl) ?_
    refine h_op (r_loadr rfl) ?_
    refine h_op (r_move rfl) ?_
    refine h_call (hV.comes) rfl rfl rfl fun ⟨⟨g15, z, k'⟩, hz, hk'⟩ => ?_
    dsimp only at hz hk' ⊢
    have hEz : RdZ z (some ⟨0, 0, none⟩) [rty 76] := hE.mono hz
    refine h_op (r_assign rfl) ?_
    refine h_nil ?_
    refine q_then ?_
    refine h_seq ?_
    refine h_reg ?_
    refine h_op (r_move rfl) ?_
    refine h_op (r_ifnn rfl) ?_
    refine h_op (r_move rfl) ?_
    refine h_op (r_move rfl) ?_
    refine h_op (r_mkI rfl) ?_
    refine h_call ((as_s2 g15 g9 verifyB (i : Int) e).comes) rfl rfl rfl fun _ => ?_
    refine h_op (r_not rfl) ?_
    refine h_op (r_pick rfl rfl) ?_
    refine h_nil ?_
    refine q_then ?_
    refine h_condF rfl ?_
    refine h_skip ?_
    refine q_then ?_
    refine h_seq ?_
    refine h_reg ?_
    refine h_op (r_loadc rfl) ?_
    refine h_op (r_assign rfl) ?_
    refine h_nil ?_
    refine q_then ?_
    refine h_ret ?_
    exact h_ret1 rfl rfl fun w s => ⟨⟨(z, k'), hz, hk'⟩, rfl, (same (L' := [.zone true z, CN gc k']) w s).res (List.Sublist.refl _) (by simp [Fa.wr])⟩
end
/-- a proof whose form is right, as what is decoded -/
def dpOf (p : Proof) (ss : List B32) : DP := ⟨p.kind.toNat, p.depth.toNat, p.leaf, p.bitmap, ss⟩
theorem ok_kind {p : Proof} (h : checkP p = 0) : p.kind = 0 ∨ p.kind = 1 := by simpa [okJ] using checkP_zero h 0 (by omega)
theorem dpOf_pr {p : Proof} {ss : List B32} (hs : p.sibs.n = ss.length) (hc : checkP p = 0) : p = (dpOf p ss).pr p.sibs.A p.sibs.c := by
  have h1 := ok_depth hc
  have h2 := ok_kind hc
  obtain ⟨k, d, lf, bm, A, N, c⟩ := p
  dsimp only at hs h1 h2
  subst hs
  unfold DP.pr dpOf
  dsimp only
  rw [Int.toNat_of_nonneg (by omega), Int.toNat_of_nonneg (by omega)]
theorem checkP_sib (p : DP) (A A' : Option Addr) (c c' : Nat) : checkP (p.pr A c) = checkP (p.pr A' c') := rfl
section
variable (n : Nat) (hn : n ≤ 256) (h : Zh) [hT : RdZ h (some ⟨2, 0, none⟩) hashT] (gh gc k : Nat) (hk : k ≤ 100000000) (root : B32) (c : Claim) (kb vb : List UInt8) [hK : SlZ h c.key kb] [hV : SlZ h c.value vb] (hvl : vb.length ≤ 100000000) (p : Proof) (ss : List B32) (hs : p.sibs.n = ss.length) [hS : RdZ h p.sibs.A (dgs ss)]
include hn hk hvl hs
/-- whether a decoded proof shows a claim -/
def accV (n : Nat) (root : B32) (c : Claim) (kb vb : List UInt8) (p : Proof) (ss : List B32) : Bool := decide (claimE c = 0) && decide (checkP p = 0) && (supP p (keyOf kb) (valD n c.present vb) c.present && decide (rootP n (dpOf p ss) (keyOf kb) = root))
theorem Accepts_s : Spec Tryz.prog 43 [.pointer (some ⟨gh, 0, none⟩), .agg root.cells.toArray, .agg c.cells.toArray, .agg p.cells.toArray].toArray [HR gh gc n] [.zone true h, CN gc k] (fun u : {u : Zh × Nat // LeZ h u.1 ∧ u.2 ≤ k + 259} => .bool (accV n root c kb vb p ss)) (fun u => [.zone true u.1.1, CN gc u.1.2]) := by
  have hkn := hK.len
  have hC := Claim_s c
  have hCh := Check_s p
  refine spec_of Tryz.func43 rfl (n := 30) rfl rfl ?_
  intro W
  by_cases h1 : claimE c = 0
  · rw [h1] at hC
    have hk32 : kb.length = 32 := by
      unfold claimE at h1
      split at h1
      · omega
      · cases h1
    by_cases h2 : checkP p = 0
    · rw [h2] at hCh
      have hpe := dpOf_pr hs h2
      refine h_seq ?_
      refine h_reg ?_
      refine h_opX (x_box rfl) fun g5 => ?_
      refine h_opX (x_box rfl) fun g6 => ?_
      refine h_opX (x_box rfl) fun g7 => ?_
      refine h_op (r_assign rfl) ?_
      refine h_nil ?_
      refine q_then ?_
      refine h_seq ?_
      refine h_seq ?_
      refine h_reg ?_
      refine h_op (r_loadr rfl) ?_
      refine h_call (hC.comes) rfl rfl rfl fun _ => ?_
      refine h_op (r_bool (r_neq rfl rfl) rfl) ?_
      refine h_op (r_move rfl) ?_
      refine h_op (r_loadr rfl) ?_
      refine h_call (hCh.comes) rfl rfl rfl fun _ => ?_
      refine h_op (r_bool (r_neq rfl rfl) rfl) ?_
      refine h_op (r_pick rfl rfl) ?_
      refine h_nil ?_
      refine q_then ?_
      refine h_condF rfl ?_
      refine h_skip ?_
      refine q_then ?_
      refine h_seq ?_
      refine ha_start [.blk g5 root.cells 41, .blk g6 c.cells 70, .blk g7 p.cells 87] [] mixed (same) ?_
      refine ha_takeP 0 rfl (r_move rfl) ?_
      refine ha_takeP 1 rfl (r_slA rfl) ?_
      refine ha_take 2 rfl (r_loadr rfl) ?_
      refine ha_take 3 rfl (r_loadr rfl) ?_
      refine ha_takeP 4 rfl (r_build rfl) ?_
      refine ha_one 5 ?_
      refine ho_X 5 rfl (rk (x_box rfl)) (fun _ => same) fun g23 => ?_
      refine ha_takeP 6 rfl (r_assign rfl) ?_
      refine ha_done (by kernel_rfl) ?_
      refine q_then ?_
      change H _ _ _ _ _ (.blk g23 (Chk.cells ⟨some ⟨gh, 0, none⟩, ⟨some ⟨g5, 0, none⟩, 32, 32⟩, c, ⟨none, 0, 0⟩, p⟩) _ :: _) _
      refine h_freeze g5 (cs := root.cells) (T := 41) fun z hz hrz => ?_
      have hTz : RdZ z (some ⟨2, 0, none⟩) hashT := hT.mono hz
      have hKz : SlZ z c.key kb := hK.mono hz
      have hVz : SlZ z c.value vb := hV.mono hz
      have hSz : RdZ z p.sibs.A (dgs ss) := hS.mono hz
      have hRz : SlZ z ⟨some ⟨g5, 0, none⟩, 32, 32⟩ root.1 := ⟨root.2.symm, Nat.le_refl _, (fun h => by cases h), hrz⟩
      have hrk : keyOf root.1 = root := by unfold keyOf; rw [dif_pos root.2]
      have hsu := supports_s n hn z gh gc k g23 (by omega) ⟨some ⟨gh, 0, none⟩, ⟨some ⟨g5, 0, none⟩, 32, 32⟩, c, ⟨none, 0, 0⟩, p⟩ rfl kb vb hk32 hvl
      obtain ⟨bs, hbs⟩ : ∃ bs, supP p (keyOf kb) (valD n c.present vb) c.present = bs := ⟨_, rfl⟩
      rw [hbs] at hsu
      have hdd : (dpOf p ss).d ≤ 256 := by have h9 := ok_depth h2; show p.depth.toNat ≤ 256; omega
      have hck2 : checkP ((dpOf p ss).pr none 0) = 0 := by rw [checkP_sib _ none p.sibs.A 0 p.sibs.c, ← hpe]; exact h2
      have hle := leads_s n hn z gh gc (k + if c.present then 1 else 0) g23 (by split <;> omega) ⟨some ⟨gh, 0, none⟩, ⟨some ⟨g5, 0, none⟩, 32, 32⟩, c, ⟨none, 0, 0⟩, p⟩ rfl kb hk32 root.1 root.2 (dpOf p ss) p.sibs.A p.sibs.c hpe hck2
      rw [hrk] at hle
      rw [show accV n root c kb vb p ss = (bs && decide (rootP n (dpOf p ss) (keyOf kb) = root)) by unfold accV; rw [hbs, decide_eq_true h1, decide_eq_true h2]; rfl]
      cases bs
      · refine h_seq ?_
        refine h_reg ?_
        refine h_op (r_move rfl) ?_
        refine h_call (hsu.comes) rfl rfl rfl fun _ => ?_
        refine h_op (r_move rfl) ?_
        refine h_opOff ?_
        refine h_opOff ?_
        refine h_op (r_pick rfl rfl) ?_
        refine h_op (r_assign rfl) ?_
        refine h_nil ?_
        refine q_then ?_
        refine h_ret ?_
        exact h_ret1 rfl rfl fun w s => ⟨⟨(z, k + if c.present then 1 else 0), hz, by dsimp only; split <;> omega⟩, rfl, (same (L' := [.zone true z, CN gc (k + if c.present then 1 else 0)]) w s).res (List.Sublist.refl _) (by simp [Fa.wr])⟩
      · refine h_seq ?_
        refine h_reg ?_
        refine h_op (r_move rfl) ?_
        refine h_call (hsu.comes) rfl rfl rfl fun _ => ?_
        refine h_op (r_move rfl) ?_
        refine h_op (r_move rfl) ?_
        refine h_call (hle.comes) rfl rfl rfl fun _ => ?_
        refine h_op (r_pick rfl rfl) ?_
        refine h_op (r_assign rfl) ?_
        refine h_nil ?_
        refine q_then ?_
        refine h_ret ?_
        exact h_ret1 rfl rfl fun w s => ⟨⟨(z, (k + if c.present then 1 else 0) + 1 + (dpOf p ss).d + 1), hz, by dsimp only; split <;> omega⟩, rfl, (same (L' := [.zone true z, CN gc ((k + if c.present then 1 else 0) + 1 + (dpOf p ss).d + 1)]) w s).res (List.Sublist.refl _) (by simp [Fa.wr])⟩
    · rw [show accV n root c kb vb p ss = false by unfold accV; rw [decide_eq_false h2]; simp]
      refine h_seq ?_
      refine h_reg ?_
      refine h_opX (x_box rfl) fun g5 => ?_
      refine h_opX (x_box rfl) fun g6 => ?_
      refine h_opX (x_box rfl) fun g7 => ?_
      refine h_op (r_assign rfl) ?_
      refine h_nil ?_
      refine q_then ?_
      refine h_seq ?_
      refine h_seq ?_
      refine h_reg ?_
      refine h_op (r_loadr rfl) ?_
      refine h_call (hC.comes) rfl rfl rfl fun _ => ?_
      refine h_op (r_bool (r_neq rfl rfl) rfl) ?_
      refine h_op (r_move rfl) ?_
      refine h_op (r_loadr rfl) ?_
      refine h_call (hCh.comes) rfl rfl rfl fun _ => ?_
      refine h_op (r_bool (r_neq rfl rfl) (decide_eq_true h2)) ?_
      refine h_op (r_pick rfl rfl) ?_
      refine h_nil ?_
      refine q_then ?_
      refine h_condT rfl ?_
      refine h_seq ?_
      refine h_reg ?_
      refine h_op (r_assign rfl) ?_
      refine h_nil ?_
      refine q_then ?_
      refine h_ret ?_
      refine q_thenR ?_
      exact h_ret1 rfl rfl fun w s => ⟨⟨(h, k), LeZ.refl h, Nat.le_add_right _ _⟩, rfl, (same (L' := [.zone true h, CN gc k]) w s).res (List.Sublist.refl _) (by simp [Fa.wr])⟩
  · rw [show accV n root c kb vb p ss = false by unfold accV; rw [decide_eq_false h1]; simp]
    refine h_seq ?_
    refine h_reg ?_
    refine h_opX (x_box rfl) fun g5 => ?_
    refine h_opX (x_box rfl) fun g6 => ?_
    refine h_opX (x_box rfl) fun g7 => ?_
    refine h_op (r_assign rfl) ?_
    refine h_nil ?_
    refine q_then ?_
    refine h_seq ?_
    refine h_seq ?_
    refine h_reg ?_
    refine h_op (r_loadr rfl) ?_
    refine h_call (hC.comes) rfl rfl rfl fun _ => ?_
    refine h_op (r_bool (r_neq rfl rfl) (decide_eq_true h1)) ?_
    refine h_op (r_move rfl) ?_
    refine h_opOff ?_
    refine h_opOff ?_
    refine h_opOff ?_
    refine h_op (r_pick rfl rfl) ?_
    refine h_nil ?_
    refine q_then ?_
    refine h_condT rfl ?_
    refine h_seq ?_
    refine h_reg ?_
    refine h_op (r_assign rfl) ?_
    refine h_nil ?_
    refine q_then ?_
    refine h_ret ?_
    refine q_thenR ?_
    exact h_ret1 rfl rfl fun w s => ⟨⟨(h, k), LeZ.refl h, Nat.le_add_right _ _⟩, rfl, (same (L' := [.zone true h, CN gc k]) w s).res (List.Sublist.refl _) (by simp [Fa.wr])⟩
end
end Go.Proofs.YtgfkbeipckbkiaaGreatDoor
/- U45r -/
namespace Go.Proofs.YtgfkbeipckbkiaaGreatDoor
set_option linter.unusedSimpArgs false
set_option linter.unusedVariables false
open Go.RowKit
theorem rSupports_s (p : Proof) (key val : B32) (present : Bool) : Spec Tryz.prog 82 [.agg p.cells.toArray, .agg key.cells.toArray, .agg val.cells.toArray, .bool present].toArray [] [] (fun _ : Unit => .bool (supP p key val present)) (fun _ => []) := by
  have hlf : (p.leaf = ⟨key, val⟩) ↔ (p.leaf.key = key ∧ p.leaf.value = val) := by
    constructor
    · intro e; rw [e]; exact ⟨rfl, rfl⟩
    · rintro ⟨e1, e2⟩; rw [← e1, ← e2]
  unfold supP
  refine spec_of Tryz.func82 rfl (n := 52) rfl rfl ?_
  intro W
  rcases present with _ | _
  · rw [if_neg (by simp)]
    by_cases h0 : p.kind = 0
    · rw [if_neg (by omega), decide_eq_true h0]
      refine h_seq ?_
      refine h_reg ?_
      refine h_opX (x_box rfl) fun g4 => ?_
      refine h_opX (x_box rfl) fun g5 => ?_
      refine h_opX (x_box rfl) fun g6 => ?_
      refine h_op (r_assign rfl) ?_
      refine h_nil ?_
      refine q_then ?_
      refine h_seq ?_
      refine h_seq ?_
      refine h_reg ?_
      refine h_op (r_move rfl) ?_
      refine h_nil ?_
      refine q_then ?_
      refine h_condF rfl ?_
      refine h_skip ?_
      refine q_then ?_
      refine h_seq ?_
      refine ha_start [.blk g4 p.cells 87, .blk g5 key.cells 39] [] mixed (same) ?_
      refine ha_takeP 0 rfl (r_field rfl) ?_
      refine ha_take 1 rfl (r_loadc rfl) ?_
      refine ha_takeP 2 rfl (r_bool (r_eql rfl rfl) (decide_eq_true h0)) ?_
      refine ha_takeP 3 rfl (r_move rfl) ?_
      refine ha_off 4 rfl ?_
      refine ha_off 5 rfl ?_
      refine ha_off 6 rfl ?_
      refine ha_off 7 rfl ?_
      refine ha_off 8 rfl ?_
      refine ha_off 9 rfl ?_
      refine ha_off 10 rfl ?_
      refine ha_off 11 rfl ?_
      refine ha_off 12 rfl ?_
      refine ha_off 13 rfl ?_
      refine ha_off 14 rfl ?_
      refine ha_off 15 rfl ?_
      refine ha_off 16 rfl ?_
      refine ha_off 17 rfl ?_
      refine ha_off 18 rfl ?_
      refine ha_off 19 rfl ?_
      refine ha_off 20 rfl ?_
      refine ha_off 21 rfl ?_
      refine ha_off 22 rfl ?_
      refine ha_off 23 rfl ?_
      refine ha_takeP 24 rfl (r_pick rfl rfl) ?_
      refine ha_takeP 25 rfl (r_assign rfl) ?_
      refine ha_done (by kernel_rfl) ?_
      refine q_then ?_
      refine h_ret ?_
      exact h_ret1 rfl rfl fun w s => ⟨(), rfl, s.res (List.nil_sublist _) (by simp)⟩
    · by_cases h1 : p.kind = 1
      · rw [if_pos h1]
        by_cases h2 : p.leaf.key = key
        · rw [decide_eq_false (show ¬ (p.leaf.key ≠ key ∧ p.depth ≤ (common p.leaf.key key : Int)) from fun e => e.1 h2)]
          refine h_seq ?_
          refine h_reg ?_
          refine h_opX (x_box rfl) fun g4 => ?_
          refine h_opX (x_box rfl) fun g5 => ?_
          refine h_opX (x_box rfl) fun g6 => ?_
          refine h_op (r_assign rfl) ?_
          refine h_nil ?_
          refine q_then ?_
          refine h_seq ?_
          refine h_seq ?_
          refine h_reg ?_
          refine h_op (r_move rfl) ?_
          refine h_nil ?_
          refine q_then ?_
          refine h_condF rfl ?_
          refine h_skip ?_
          refine q_then ?_
          refine h_seq ?_
          refine ha_start [.blk g4 p.cells 87, .blk g5 key.cells 39] [] mixed (same) ?_
          refine ha_takeP 0 rfl (r_field rfl) ?_
          refine ha_take 1 rfl (r_loadc rfl) ?_
          refine ha_takeP 2 rfl (r_bool (r_eql rfl rfl) (decide_eq_false h0)) ?_
          refine ha_takeP 3 rfl (r_move rfl) ?_
          refine ha_takeP 4 rfl (r_field rfl) ?_
          refine ha_take 5 rfl (r_loadc rfl) ?_
          refine ha_takeP 6 rfl (r_bool (r_eql rfl rfl) (decide_eq_true h1)) ?_
          refine ha_takeP 7 rfl (r_move rfl) ?_
          refine ha_takeP 8 rfl (r_field rfl) ?_
          refine ha_takeP 9 rfl (r_field rfl) ?_
          refine ha_take 10 rfl (r_loadr rfl) ?_
          refine ha_take 11 rfl (r_loadr rfl) ?_
          refine ha_takeP 12 rfl (r_bool (r_ner rfl rfl) (decide_eq_false (fun e => e h2))) ?_
          refine ha_takeP 13 rfl (r_pick rfl rfl) ?_
          refine ha_takeP 14 rfl (r_move rfl) ?_
          refine ha_off 15 rfl ?_
          refine ha_off 16 rfl ?_
          refine ha_off 17 rfl ?_
          refine ha_off 18 rfl ?_
          refine ha_off 19 rfl ?_
          refine ha_off 20 rfl ?_
          refine ha_off 21 rfl ?_
          refine ha_off 22 rfl ?_
          refine ha_takeP 23 rfl (r_pick rfl rfl) ?_
          refine ha_takeP 24 rfl (r_pick rfl rfl) ?_
          refine ha_takeP 25 rfl (r_assign rfl) ?_
          refine ha_done (by kernel_rfl) ?_
          refine q_then ?_
          refine h_ret ?_
          exact h_ret1 rfl rfl fun w s => ⟨(), rfl, s.res (List.nil_sublist _) (by simp)⟩
        · refine h_seq ?_
          refine h_reg ?_
          refine h_opX (x_box rfl) fun g4 => ?_
          refine h_opX (x_box rfl) fun g5 => ?_
          refine h_opX (x_box rfl) fun g6 => ?_
          refine h_op (r_assign rfl) ?_
          refine h_nil ?_
          refine q_then ?_
          refine h_seq ?_
          refine h_seq ?_
          refine h_reg ?_
          refine h_op (r_move rfl) ?_
          refine h_nil ?_
          refine q_then ?_
          refine h_condF rfl ?_
          refine h_skip ?_
          refine q_then ?_
          refine h_seq ?_
          refine ha_start [.blk g4 p.cells 87, .blk g5 key.cells 39] [] mixed (same) ?_
          refine ha_takeP 0 rfl (r_field rfl) ?_
          refine ha_take 1 rfl (r_loadc rfl) ?_
          refine ha_takeP 2 rfl (r_bool (r_eql rfl rfl) (decide_eq_false h0)) ?_
          refine ha_takeP 3 rfl (r_move rfl) ?_
          refine ha_takeP 4 rfl (r_field rfl) ?_
          refine ha_take 5 rfl (r_loadc rfl) ?_
          refine ha_takeP 6 rfl (r_bool (r_eql rfl rfl) (decide_eq_true h1)) ?_
          refine ha_takeP 7 rfl (r_move rfl) ?_
          refine ha_takeP 8 rfl (r_field rfl) ?_
          refine ha_takeP 9 rfl (r_field rfl) ?_
          refine ha_take 10 rfl (r_loadr rfl) ?_
          refine ha_take 11 rfl (r_loadr rfl) ?_
          refine ha_takeP 12 rfl (r_bool (r_ner rfl rfl) (decide_eq_true h2)) ?_
          refine ha_takeP 13 rfl (r_pick rfl rfl) ?_
          refine ha_takeP 14 rfl (r_move rfl) ?_
          refine ha_takeP 15 rfl (r_field rfl) ?_
          refine ha_takeP 16 rfl (r_field rfl) ?_
          refine ha_take 17 rfl (r_loadr rfl) ?_
          refine ha_take 18 rfl (r_loadr rfl) ?_
          refine ha_takeP 20 rfl (r_field rfl) ?_
          refine ha_take 21 rfl (r_loadc rfl) ?_
          refine ha_one 19 ?_
          refine ho_C 19 rfl ((refCommon_s p.leaf.key key).comes) rfl rfl rfl (fun xx => same) fun _ => ?_
          refine ha_takeP 22 rfl (r_geq rfl rfl) ?_
          refine ha_takeP 23 rfl (r_pick rfl rfl) ?_
          refine ha_takeP 24 rfl (r_pick rfl rfl) ?_
          refine ha_takeP 25 rfl (r_assign rfl) ?_
          refine ha_done (by kernel_rfl) ?_
          refine q_then ?_
          refine h_ret ?_
          exact h_ret1 rfl rfl fun w s => ⟨(), by simp [h2], s.res (List.nil_sublist _) (by simp)⟩
      · rw [if_neg h1, decide_eq_false h0]
        refine h_seq ?_
        refine h_reg ?_
        refine h_opX (x_box rfl) fun g4 => ?_
        refine h_opX (x_box rfl) fun g5 => ?_
        refine h_opX (x_box rfl) fun g6 => ?_
        refine h_op (r_assign rfl) ?_
        refine h_nil ?_
        refine q_then ?_
        refine h_seq ?_
        refine h_seq ?_
        refine h_reg ?_
        refine h_op (r_move rfl) ?_
        refine h_nil ?_
        refine q_then ?_
        refine h_condF rfl ?_
        refine h_skip ?_
        refine q_then ?_
        refine h_seq ?_
        refine ha_start [.blk g4 p.cells 87, .blk g5 key.cells 39] [] mixed (same) ?_
        refine ha_takeP 0 rfl (r_field rfl) ?_
        refine ha_take 1 rfl (r_loadc rfl) ?_
        refine ha_takeP 2 rfl (r_bool (r_eql rfl rfl) (decide_eq_false h0)) ?_
        refine ha_takeP 3 rfl (r_move rfl) ?_
        refine ha_takeP 4 rfl (r_field rfl) ?_
        refine ha_take 5 rfl (r_loadc rfl) ?_
        refine ha_takeP 6 rfl (r_bool (r_eql rfl rfl) (decide_eq_false h1)) ?_
        refine ha_takeP 7 rfl (r_move rfl) ?_
        refine ha_off 8 rfl ?_
        refine ha_off 9 rfl ?_
        refine ha_off 10 rfl ?_
        refine ha_off 11 rfl ?_
        refine ha_off 12 rfl ?_
        refine ha_takeP 13 rfl (r_pick rfl rfl) ?_
        refine ha_takeP 14 rfl (r_move rfl) ?_
        refine ha_off 15 rfl ?_
        refine ha_off 16 rfl ?_
        refine ha_off 17 rfl ?_
        refine ha_off 18 rfl ?_
        refine ha_off 19 rfl ?_
        refine ha_off 20 rfl ?_
        refine ha_off 21 rfl ?_
        refine ha_off 22 rfl ?_
        refine ha_takeP 23 rfl (r_pick rfl rfl) ?_
        refine ha_takeP 24 rfl (r_pick rfl rfl) ?_
        refine ha_takeP 25 rfl (r_assign rfl) ?_
        refine ha_done (by kernel_rfl) ?_
        refine q_then ?_
        refine h_ret ?_
        exact h_ret1 rfl rfl fun w s => ⟨(), rfl, s.res (List.nil_sublist _) (by simp)⟩
  · rw [if_pos rfl]
    by_cases h1 : p.kind = 1
    · by_cases h2 : p.leaf.key = key
      · refine h_seq ?_
        refine h_reg ?_
        refine h_opX (x_box rfl) fun g4 => ?_
        refine h_opX (x_box rfl) fun g5 => ?_
        refine h_opX (x_box rfl) fun g6 => ?_
        refine h_op (r_assign rfl) ?_
        refine h_nil ?_
        refine q_then ?_
        refine h_seq ?_
        refine h_seq ?_
        refine h_reg ?_
        refine h_op (r_move rfl) ?_
        refine h_nil ?_
        refine q_then ?_
        refine h_condT rfl ?_
        refine h_seq ?_
        refine h_reg ?_
        refine h_op (r_field rfl) ?_
        refine h_op (r_loadc rfl) ?_
        refine h_op (r_bool (r_eql rfl rfl) (decide_eq_true h1)) ?_
        refine h_op (r_move rfl) ?_
        refine h_op (r_field rfl) ?_
        refine h_op (r_field rfl) ?_
        refine h_op (r_loadr rfl) ?_
        refine h_op (r_loadr rfl) ?_
        refine h_op (r_bool (r_eqr rfl rfl) (decide_eq_true h2)) ?_
        refine h_op (r_pick rfl rfl) ?_
        refine h_op (r_move rfl) ?_
        refine h_op (r_field rfl) ?_
        refine h_op (r_field rfl) ?_
        refine h_op (r_loadr rfl) ?_
        refine h_op (r_loadr rfl) ?_
        refine h_op (r_eqr rfl rfl) ?_
        refine h_op (r_pick rfl rfl) ?_
        refine h_op (r_assign rfl) ?_
        refine h_nil ?_
        refine q_then ?_
        refine h_ret ?_
        refine q_thenR ?_
        exact h_ret1 rfl rfl fun w s => ⟨(), by simp [h1, h2, hlf], s.res (List.nil_sublist _) (by simp)⟩
      · rw [decide_eq_false (show ¬ (p.kind = 1 ∧ p.leaf = ⟨key, val⟩) from fun e => h2 (hlf.1 e.2).1)]
        refine h_seq ?_
        refine h_reg ?_
        refine h_opX (x_box rfl) fun g4 => ?_
        refine h_opX (x_box rfl) fun g5 => ?_
        refine h_opX (x_box rfl) fun g6 => ?_
        refine h_op (r_assign rfl) ?_
        refine h_nil ?_
        refine q_then ?_
        refine h_seq ?_
        refine h_seq ?_
        refine h_reg ?_
        refine h_op (r_move rfl) ?_
        refine h_nil ?_
        refine q_then ?_
        refine h_condT rfl ?_
        refine h_seq ?_
        refine h_reg ?_
        refine h_op (r_field rfl) ?_
        refine h_op (r_loadc rfl) ?_
        refine h_op (r_bool (r_eql rfl rfl) (decide_eq_true h1)) ?_
        refine h_op (r_move rfl) ?_
        refine h_op (r_field rfl) ?_
        refine h_op (r_field rfl) ?_
        refine h_op (r_loadr rfl) ?_
        refine h_op (r_loadr rfl) ?_
        refine h_op (r_bool (r_eqr rfl rfl) (decide_eq_false h2)) ?_
        refine h_op (r_pick rfl rfl) ?_
        refine h_op (r_move rfl) ?_
        refine h_opOff ?_
        refine h_opOff ?_
        refine h_opOff ?_
        refine h_opOff ?_
        refine h_opOff ?_
        refine h_op (r_pick rfl rfl) ?_
        refine h_op (r_assign rfl) ?_
        refine h_nil ?_
        refine q_then ?_
        refine h_ret ?_
        refine q_thenR ?_
        exact h_ret1 rfl rfl fun w s => ⟨(), rfl, s.res (List.nil_sublist _) (by simp)⟩
    · rw [decide_eq_false (show ¬ (p.kind = 1 ∧ p.leaf = ⟨key, val⟩) from fun e => h1 e.1)]
      refine h_seq ?_
      refine h_reg ?_
      refine h_opX (x_box rfl) fun g4 => ?_
      refine h_opX (x_box rfl) fun g5 => ?_
      refine h_opX (x_box rfl) fun g6 => ?_
      refine h_op (r_assign rfl) ?_
      refine h_nil ?_
      refine q_then ?_
      refine h_seq ?_
      refine h_seq ?_
      refine h_reg ?_
      refine h_op (r_move rfl) ?_
      refine h_nil ?_
      refine q_then ?_
      refine h_condT rfl ?_
      refine h_seq ?_
      refine h_reg ?_
      refine h_op (r_field rfl) ?_
      refine h_op (r_loadc rfl) ?_
      refine h_op (r_bool (r_eql rfl rfl) (decide_eq_false h1)) ?_
      refine h_op (r_move rfl) ?_
      refine h_opOff ?_
      refine h_opOff ?_
      refine h_opOff ?_
      refine h_opOff ?_
      refine h_opOff ?_
      refine h_op (r_pick rfl rfl) ?_
      refine h_op (r_move rfl) ?_
      refine h_opOff ?_
      refine h_opOff ?_
      refine h_opOff ?_
      refine h_opOff ?_
      refine h_opOff ?_
      refine h_op (r_pick rfl rfl) ?_
      refine h_op (r_assign rfl) ?_
      refine h_nil ?_
      refine q_then ?_
      refine h_ret ?_
      refine q_thenR ?_
      exact h_ret1 rfl rfl fun w s => ⟨(), rfl, s.res (List.nil_sublist _) (by simp)⟩
end Go.Proofs.YtgfkbeipckbkiaaGreatDoor
/- U23e -/
namespace Go.Proofs.YtgfkbeipckbkiaaGreatDoor
set_option linter.unusedSimpArgs false
set_option linter.unusedVariables false
open Go.RowKit
theorem expL_succ (e : B32) (b : B32) (ss : List B32) (k : Nat) (x : B32) (h : x = if bitAt b k then ss.getD (dep b k).length zB32 else e) : dgs (expL e b ss k) ++ x.cells = dgs (expL e b ss (k + 1)) := by
  rw [expL, dgs_append, ← h]
  simp [dgs]
theorem rExpand_s (p : Proof) (hc : checkP p = 0) (ss : List B32) (hs : p.sibs.n = ss.length) (n : Nat) (hn : n ≤ 256) (d : Nat) (hd : p.depth = (d : Int)) : Spec Tryz.prog 156 [.int .i64 (n : Int), .agg p.cells.toArray].toArray [.rd p.sibs.A (dgs ss)] [] (fun u : Option Addr × Nat => .slice u.1 d u.2) (fun u => [.own (.slice u.1 d u.2) d 41 32 (dgs (expL (sumB n preE) p.bitmap ss d))]) := by
  have hd2 := ok_depth hc
  have hsb := ok_sibs hc
  refine spec_of Tryz.func156 rfl (n := 35) rfl rfl ?_
  intro W
  refine h_seq ?_
  refine h_reg ?_
  refine h_opX (x_box rfl) fun g3 => ?_
  refine h_op (r_assign rfl) ?_
  refine h_nil ?_
  refine q_then ?_
  refine h_seq ?_
  refine h_reg ?_
  refine h_op (r_assign rfl) ?_
  refine h_nil ?_
  refine q_then ?_
  refine h_seq ?_
  refine h_reg ?_
  refine h_op (r_assign rfl) ?_
  refine h_nil ?_
  refine q_then ?_
  refine h_seq ?_
  refine h_seq ?_
  refine h_reg ?_
  refine h_op (r_assign rfl) ?_
  refine h_nil ?_
  refine q_then ?_
  refine h_block ?_
  refine h_nil_own 41 32 (xs := dgs (expL (sumB n preE) p.bitmap ss 0)) rfl ?_
  refine h_loop (fun (s : Nat × Option Addr × Nat) => s.1 ≤ d) (fun (s : Nat × Option Addr × Nat) => [(7, .int .i64 (s.1 : Int)), (6, .int .i64 (((dep p.bitmap s.1).length : Nat) : Int)), (5, .slice s.2.1 s.1 s.2.2), (3, .pointer (some ⟨g3, 0, none⟩)), (0, .int .i64 (n : Int))]) (fun (s : Nat × Option Addr × Nat) => [.own (.slice s.2.1 s.1 s.2.2) s.1 41 32 (dgs (expL (sumB n preE) p.bitmap ss s.1)), .blk g3 p.cells 87, .rd p.sibs.A (dgs ss)]) (fun (s : Nat × Option Addr × Nat) => d - s.1) (0, none, 0) ((show 0 ≤ d by omega)) ⟨rfl, rfl, rfl, rfl, rfl, trivial⟩ (same) ?_
  rintro ⟨k, B, c⟩ hk
  dsimp only at hk ⊢
  have hdl := dep_len p.bitmap k
  refine h_seq ?_
  refine h_seq ?_
  refine h_reg ?_
  refine h_op (r_move rfl) ?_
  refine h_op (r_field rfl) ?_
  refine h_op (r_int (r_loadc rfl) hd) ?_
  refine h_op (r_lss rfl rfl) ?_
  refine h_nil ?_
  refine q_then ?_
  refine h_cond rfl (fun h => ?_) (fun h => ?_)
  · have hk256 : k < 256 := by omega
    refine h_skip ?_
    refine q_then ?_
    refine h_seq ?_
    refine h_block ?_
    refine h_seq ?_
    refine h_reg ?_
    refine h_op (r_field rfl) ?_
    refine h_op (r_loadr rfl) ?_
    refine h_op (r_move rfl) ?_
    refine h_call ((refBit_s p.bitmap k hk256).comes) rfl rfl rfl fun _ => ?_
    refine h_op (r_bool (r_eql rfl rfl) (bitN_one p.bitmap k)) ?_
    refine h_nil ?_
    refine q_then ?_
    refine h_condB rfl (fun h2 => ?_) (fun h2 => ?_)
    · have he := dep_yes h2
      have hl := dep_lt hk256 h2
      have hl1 : (dep p.bitmap (k + 1)).length = (dep p.bitmap k).length + 1 := by rw [he]; simp
      have hex := expL_succ (sumB n preE) p.bitmap ss k (ss.getD (dep p.bitmap k).length zB32) (by rw [if_pos h2])
      refine h_pure (φ := ∃ b o, p.sibs.A = some ⟨b, o, none⟩) (fun w s => Rd.some (s.ok (.rd p.sibs.A (dgs ss)) (by simp)) (by rw [dgs_len]; omega)) ?_
      rintro ⟨b, o, hA⟩
      refine h_seq ?_
      refine h_reg ?_
      refine h_op (r_move rfl) ?_
      refine h_op (r_field rfl) ?_
      refine h_op (r_loadc rfl) ?_
      rw [hA]
      refine h_op (r_move rfl) ?_
      refine h_op (r_idx rfl rfl) ?_
      refine h_op (r_nthr rfl (out := (ss.getD (dep p.bitmap k).length zB32).cells) (B32.cells_length _) (dgs_at (by omega))) ?_
      refine h_opX (x_bsl rfl rfl) fun g25 => ?_
      refine h_opX (x_app rfl rfl (k := 32)) fun ⟨g26, c26⟩ => ?_
      refine h_op (r_assign rfl) ?_
      refine h_nil ?_
      refine q_then ?_
      refine h_reg ?_
      refine h_op (r_move rfl) ?_
      refine h_op (r_add rfl rfl) ?_
      refine h_op (r_assign rfl) ?_
      refine h_nil ?_
      refine q_block ?_
      refine q_then ?_
      refine h_reg ?_
      refine h_op (r_move rfl) ?_
      refine h_op (r_add rfl rfl) ?_
      refine h_op (r_assign rfl) ?_
      refine h_nil ?_
      rw [hex]
      exact h_back (k + 1, some ⟨g26, 0, none⟩, c26) ((show k + 1 ≤ d by omega)) ((show d - (k + 1) < d - k by omega)) ⟨rfl, aI rfl (by dsimp only; omega), rfl, rfl, rfl, trivial⟩ (same)
    · have he := dep_no (b := p.bitmap) (k := k) (by rw [h2]; simp)
      have hex := expL_succ (sumB n preE) p.bitmap ss k (sumB n preE) (by rw [if_neg (by rw [h2]; simp)])
      refine h_reg ?_
      refine h_op (r_move rfl) ?_
      refine h_op (r_move rfl) ?_
      refine h_call ((rEmpty_s n hn).comes) rfl rfl rfl fun _ => ?_
      refine h_opX (x_bsl rfl rfl) fun g32 => ?_
      refine h_opX (x_app rfl rfl (k := 32)) fun ⟨g33, c33⟩ => ?_
      refine h_op (r_assign rfl) ?_
      refine h_nil ?_
      refine q_block ?_
      refine q_then ?_
      refine h_reg ?_
      refine h_op (r_move rfl) ?_
      refine h_op (r_add rfl rfl) ?_
      refine h_op (r_assign rfl) ?_
      refine h_nil ?_
      rw [hex]
      exact h_back (k + 1, some ⟨g33, 0, none⟩, c33) ((show k + 1 ≤ d by omega)) ((show d - (k + 1) < d - k by omega)) ⟨rfl, aI rfl (by dsimp only; rw [he]), rfl, rfl, rfl, trivial⟩ (same)
  · obtain rfl : k = d := by omega
    refine h_exit ?_
    refine q_thenE ?_
    refine q_thenE ?_
    refine q_blockE ?_
    refine q_then ?_
    refine h_seq ?_
    refine h_reg ?_
    refine h_op (r_move rfl) ?_
    refine h_op (r_assign rfl) ?_
    refine h_nil ?_
    refine q_then ?_
    refine h_ret ?_
    exact h_ret1 rfl rfl fun w s => ⟨(B, c), rfl, s.res ((List.nil_sublist _).cons_cons _) (by simp [Fa.wr])⟩
end Go.Proofs.YtgfkbeipckbkiaaGreatDoor
/- U21 -/
namespace Go.Proofs.YtgfkbeipckbkiaaGreatDoor
set_option linter.unusedSimpArgs false
set_option linter.unusedVariables false
open Go.RowKit
end Go.Proofs.YtgfkbeipckbkiaaGreatDoor
/- U22 -/
namespace Go.Proofs.YtgfkbeipckbkiaaGreatDoor
set_option linter.unusedSimpArgs false
set_option linter.unusedVariables false
open Go.RowKit
instance (m : List Fa) : TakeTl m m [] := ⟨by rw [List.append_nil]⟩
def preLs (n : Nat) (key : B32) (ds : List B32) (pre : List UInt8) (N : Nat) : List (List UInt8) := (List.range N).map (wayP n key ds pre)
/-- rows of one's own -/
def ownsOf : List Seg → List Fa
  | [] => []
  | x :: l => .own (sv x) x.2.2.length 5 1 (bc x.2.2) :: ownsOf l
theorem ownsOf_wr (xs : List Seg) : ∀ f ∈ ownsOf xs, f.wr = true := by
  induction xs with
  | nil => intro f hf; cases hf
  | cons x l ih => intro f hf; rcases List.mem_cons.1 hf with rfl | h; rfl; exact ih f h
theorem ownsOf_mem {xs : List Seg} {x : Seg} (h : x ∈ xs) : Fa.own (sv x) x.2.2.length 5 1 (bc x.2.2) ∈ ownsOf xs := by
  induction xs with
  | nil => cases h
  | cons y l ih => exact (List.mem_cons.1 h).elim (fun e => by rw [e]; exact List.mem_cons_self ..) fun e => List.mem_cons_of_mem _ (ih e)
/-- rows that are somewhere, with these bytes -/
def SegsOk (ys : List Seg) (ls : List (List UInt8)) : Prop := ys.map (fun x => x.2.2) = ls ∧ ∀ x ∈ ys, ∃ g, x.1 = some ⟨g, 0, none⟩
theorem SegsOk.len {ys : List Seg} {ls : List (List UInt8)} (h : SegsOk ys ls) : ys.length = ls.length := by rw [← h.1, List.length_map]
theorem preLs_len (n : Nat) (key : B32) (ds : List B32) (pre : List UInt8) (N : Nat) : (preLs n key ds pre N).length = N := by simp [preLs]
theorem preLs_succ (n : Nat) (key : B32) (ds : List B32) (pre : List UInt8) (N : Nat) : (preLs n key ds pre (N + 1)).reverse = wayP n key ds pre N :: (preLs n key ds pre N).reverse := by
  unfold preLs
  rw [List.range_succ, List.map_append, List.reverse_append]
  rfl
end Go.Proofs.YtgfkbeipckbkiaaGreatDoor
/- U24p -/
namespace Go.Proofs.YtgfkbeipckbkiaaGreatDoor
set_option linter.unusedSimpArgs false
set_option linter.unusedVariables false
open Go.RowKit
theorem SegsOk.cons {xs : List Seg} {l : List UInt8} {ls : List (List UInt8)} (h : SegsOk xs (l :: ls)) : ∃ g c xs', xs = (some ⟨g, 0, none⟩, c, l) :: xs' ∧ SegsOk xs' ls := by
  obtain ⟨h1, h2⟩ := h
  cases xs with
  | nil => cases h1
  | cons x xs' =>
    rw [List.map_cons] at h1
    injection h1 with h3 h4
    obtain ⟨g, hg⟩ := h2 x (List.mem_cons_self ..)
    obtain ⟨A, c, l'⟩ := x
    simp only at h3 hg
    subst h3 hg
    exact ⟨g, c, xs', rfl, h4, fun y hy => h2 y (List.mem_cons_of_mem _ hy)⟩
instance (priority := 5) (N M : List Fa) : App N M (N ++ M) := ⟨rfl⟩
theorem rd1_own {L : List Fa} {A : Option Addr} {n c e size : Nat} {cs : List Value} (h : Fa.own (.slice A n c) n e size cs ∈ L) : Rd1 L (.rd A cs) := ⟨fun hw => ⟨rfl, own_rd' (hw.ok _ h), fun k hk => ⟨_, h, by obtain ⟨_, o, rfl⟩ := hk; rfl⟩⟩⟩
theorem rds_one {L : List Fa} {r : Fa} (h : Rd1 L r) : Rds L [r] := inferInstance
theorem SegsOk.at {xs : List Seg} {ls : List (List UInt8)} (h : SegsOk xs ls) {i : Nat} {l : List UInt8} (hl : ls[i]? = some l) : ∃ g c, xs[i]? = some (some ⟨g, 0, none⟩, c, l) := by
  rw [← h.1, List.getElem?_map] at hl
  obtain ⟨x, hx, e⟩ := Option.map_eq_some_iff.1 hl
  obtain ⟨g, hg⟩ := h.2 x (List.mem_of_getElem? hx)
  obtain ⟨A, c, l'⟩ := x
  simp only at e hg
  subst e hg
  exact ⟨g, c, hx⟩
end Go.Proofs.YtgfkbeipckbkiaaGreatDoor
