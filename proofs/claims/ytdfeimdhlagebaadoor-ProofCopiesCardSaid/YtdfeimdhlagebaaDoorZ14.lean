/- Proofs compared, copied, held against a claim; Proofs copied, and held against a claim; When a proof is well-formed: plain; A proof's siblings, expanded: the program; law15.alive: it is true; law15.alive: it is true; Booleans compared; small laws (joined texts: U44 U45 U26p U17 U46 U47 N12) -/
import Derived.Test.YtdfeimdhlagebaaDoorZ13
set_option linter.all false
/- U44 -/
namespace Go.Proofs.YtdfeimdhlagebaaDoor
set_option linter.unusedSimpArgs false
set_option linter.unusedVariables false
open Go.RowKit
theorem EqualD_s (ss tt : List B32) (B B' : Option Addr) (c c' : Nat) (hl : ss.length ≤ 1000000000000000) (hl' : tt.length ≤ 1000000000000000) : Spec Tryd.prog 38 [.slice B ss.length c, .slice B' tt.length c'].toArray [.rd B (dgs ss), .rd B' (dgs tt)] [] (fun _ : Unit => .bool (decide (ss = tt))) (fun _ => []) := by
  refine spec_of Tryd.func38 rfl (n := 26) rfl rfl ?_
  intro W
  by_cases hlen : ss.length = tt.length
  · refine h_seq ?_
    refine h_reg ?_
    refine h_op (r_assign rfl) ?_
    refine h_nil ?_
    refine q_then ?_
    refine h_seq ?_
    refine h_seq ?_
    refine h_reg ?_
    refine h_op (r_move rfl) ?_
    refine h_op (r_len rfl) ?_
    refine h_op (r_move rfl) ?_
    refine h_op (r_len rfl) ?_
    refine h_op (r_bool (r_neq rfl rfl) (decide_eq_false (fun h => h (by omega)))) ?_
    refine h_nil ?_
    refine q_then ?_
    refine h_condF rfl ?_
    refine h_skip ?_
    refine q_then ?_
    refine h_seq ?_
    refine h_seq ?_
    refine h_reg ?_
    refine h_op (r_move rfl) ?_
    refine h_op (r_len rfl) ?_
    refine h_op (r_move rfl) ?_
    refine h_nil ?_
    refine q_then ?_
    refine h_block ?_
    refine h_loop (fun (k : Nat) => k ≤ ss.length ∧ ∀ i, i < k → ss.getD i zB32 = tt.getD i zB32) (fun (k : Nat) => [(13, .int .i64 (k : Int)), (12, .int .i64 (ss.length : Int)), (0, .slice B ss.length c), (1, .slice B' tt.length c')]) (fun (k : Nat) => [.rd B (dgs ss), .rd B' (dgs tt)]) (fun (k : Nat) => ss.length - k) 0 (⟨Nat.zero_le _, fun i hi => by omega⟩) ⟨rfl, rfl, rfl, rfl, trivial⟩ (same) ?_
    rintro k ⟨hk, hall⟩
    refine h_seq ?_
    refine h_reg ?_
    refine h_op (r_lss rfl rfl) ?_
    refine h_nil ?_
    refine q_then ?_
    refine h_seq ?_
    refine h_cond rfl (fun h => ?_) (fun h => ?_)
    · have hk2 : k < ss.length := by omega
      refine h_pure (φ := (∃ b o, B = some ⟨b, o, none⟩) ∧ ∃ b o, B' = some ⟨b, o, none⟩) (fun w s => ⟨Rd.some (s.ok (.rd B (dgs ss)) (by simp)) (by rw [dgs_len]; omega), Rd.some (s.ok (.rd B' (dgs tt)) (by simp)) (by rw [dgs_len]; omega)⟩) ?_
      rintro ⟨⟨b, o, rfl⟩, b', o', rfl⟩
      refine h_skip ?_
      refine q_then ?_
      refine h_seq ?_
      refine h_block ?_
      refine h_seq ?_
      refine h_reg ?_
      refine h_op (r_move rfl) ?_
      refine h_op (r_assign rfl) ?_
      refine h_nil ?_
      refine q_then ?_
      refine h_seq ?_
      refine ha_start [.rd (some ⟨b, o, none⟩) (dgs ss), .rd (some ⟨b', o', none⟩) (dgs tt)] [] mixed (same) ?_
      refine ha_takeP 0 rfl (r_move rfl) ?_
      refine ha_takeP 1 rfl (r_move rfl) ?_
      refine ha_takeP 2 rfl (r_idx rfl rfl) ?_
      refine ha_take 3 rfl (r_nthr rfl (out := (ss.getD k zB32).cells) (B32.cells_length _) (dgs_at hk2)) ?_
      refine ha_takeP 4 rfl (r_move rfl) ?_
      refine ha_takeP 5 rfl (r_move rfl) ?_
      refine ha_takeP 6 rfl (r_idx rfl rfl) ?_
      refine ha_take 7 rfl (r_nthr rfl (out := (tt.getD k zB32).cells) (B32.cells_length _) (dgs_at (by omega))) ?_
      refine ha_takeP 8 rfl (r_ner rfl rfl) ?_
      refine ha_done (by kernel_rfl) ?_
      refine q_then ?_
      refine h_cond rfl (fun h2 => ?_) (fun h2 => ?_)
      · rw [decide_eq_false (show ¬ ss = tt from fun e => h2 (by rw [e]))]
        refine h_seq ?_
        refine h_reg ?_
        refine h_op (r_assign rfl) ?_
        refine h_nil ?_
        refine q_then ?_
        refine h_ret ?_
        refine q_blockR ?_
        refine q_thenR ?_
        refine q_thenR ?_
        refine q_blockR ?_
        refine q_thenR ?_
        exact h_ret1 rfl rfl fun w s => ⟨(), rfl, s.res (List.nil_sublist _) (by simp)⟩
      · have hall2 : ∀ i, i < k + 1 → ss.getD i zB32 = tt.getD i zB32 := fun i hi => by
          rcases Nat.lt_or_ge i k with h3 | h3
          · exact hall i h3
          · rw [show i = k by omega]; exact Classical.not_not.1 h2
        refine h_skip ?_
        refine q_block ?_
        refine q_then ?_
        refine h_reg ?_
        refine h_op (r_add rfl rfl) ?_
        refine h_op (r_move rfl) ?_
        refine h_nil ?_
        exact h_back (k + 1) (⟨by omega, hall2⟩) (by omega) ⟨rfl, rfl, rfl, rfl, trivial⟩ (same)
    · obtain rfl : k = ss.length := by omega
      have heq : ss = tt := by
        apply List.ext_getElem hlen
        intro i h1 h2
        have := hall i h1
        rw [List.getD_eq_getElem?_getD, List.getD_eq_getElem?_getD, List.getElem?_eq_getElem h1, List.getElem?_eq_getElem h2] at this
        exact this
      rw [decide_eq_true heq]
      refine h_exit ?_
      refine q_thenE ?_
      refine q_thenE ?_
      refine q_blockE ?_
      refine q_then ?_
      refine h_seq ?_
      refine h_reg ?_
      refine h_op (r_assign rfl) ?_
      refine h_nil ?_
      refine q_then ?_
      refine h_ret ?_
      exact h_ret1 rfl rfl fun w s => ⟨(), rfl, s.res (List.nil_sublist _) (by simp)⟩
  · rw [decide_eq_false (show ¬ ss = tt from fun e => hlen (by rw [e]))]
    refine h_seq ?_
    refine h_reg ?_
    refine h_op (r_assign rfl) ?_
    refine h_nil ?_
    refine q_then ?_
    refine h_seq ?_
    refine h_seq ?_
    refine h_reg ?_
    refine h_op (r_move rfl) ?_
    refine h_op (r_len rfl) ?_
    refine h_op (r_move rfl) ?_
    refine h_op (r_len rfl) ?_
    refine h_op (r_bool (r_neq rfl rfl) (decide_eq_true (by omega))) ?_
    refine h_nil ?_
    refine q_then ?_
    refine h_condT rfl ?_
    refine h_seq ?_
    refine h_reg ?_
    refine h_op (r_assign rfl) ?_
    refine h_nil ?_
    refine q_then ?_
    refine h_ret ?_
    refine q_thenR ?_
    exact h_ret1 rfl rfl fun w s => ⟨(), rfl, s.res (List.nil_sublist _) (by simp)⟩
/-- whether two proofs are the same -/
def eqP (p q : Proof) (ss tt : List B32) : Prop := p.kind = q.kind ∧ p.depth = q.depth ∧ p.leaf = q.leaf ∧ p.bitmap = q.bitmap ∧ ss = tt
instance (p q : Proof) (ss tt : List B32) : Decidable (eqP p q ss tt) := inferInstanceAs (Decidable (_ ∧ _))
theorem PEqual_s (p q : Proof) (ss tt : List B32) (hs : p.sibs.n = ss.length) (ht : q.sibs.n = tt.length) (hl : ss.length ≤ 1000000000000000) (hl' : tt.length ≤ 1000000000000000) : Spec Tryd.prog 34 [.agg p.cells.toArray, .agg q.cells.toArray].toArray [.rd p.sibs.A (dgs ss), .rd q.sibs.A (dgs tt)] [] (fun _ : Unit => .bool (decide (eqP p q ss tt))) (fun _ => []) := by
  have hE := EqualD_s ss tt p.sibs.A q.sibs.A p.sibs.c q.sibs.c hl hl'
  rw [← hs, ← ht] at hE
  refine spec_of Tryd.func34 rfl (n := 38) rfl rfl ?_
  intro W
  by_cases h1 : p.kind = q.kind
  · by_cases h2 : p.depth = q.depth
    · by_cases h3 : p.leaf = q.leaf
      · by_cases h4 : p.bitmap = q.bitmap
        · refine h_seq ?_
          refine h_reg ?_
          refine h_opX (x_box rfl) fun g2 => ?_
          refine h_opX (x_box rfl) fun g3 => ?_
          refine h_op (r_assign rfl) ?_
          refine h_nil ?_
          refine q_then ?_
          refine h_seq ?_
          refine h_reg ?_
          refine h_op (r_field rfl) ?_
          refine h_op (r_loadc rfl) ?_
          refine h_op (r_field rfl) ?_
          refine h_op (r_loadc rfl) ?_
          refine h_op (r_bool (r_eql rfl rfl) (decide_eq_true h1)) ?_
          refine h_op (r_move rfl) ?_
          refine h_op (r_field rfl) ?_
          refine h_op (r_loadc rfl) ?_
          refine h_op (r_field rfl) ?_
          refine h_op (r_loadc rfl) ?_
          refine h_op (r_bool (r_eql rfl rfl) (decide_eq_true h2)) ?_
          refine h_op (r_pick rfl rfl) ?_
          refine h_op (r_move rfl) ?_
          refine h_op (r_field rfl) ?_
          refine h_op (r_loadr rfl) ?_
          refine h_op (r_field rfl) ?_
          refine h_op (r_loadr rfl) ?_
          refine h_op (r_bool (r_eqr rfl rfl) (decide_eq_true h3)) ?_
          refine h_op (r_pick rfl rfl) ?_
          refine h_op (r_move rfl) ?_
          refine h_op (r_field rfl) ?_
          refine h_op (r_loadr rfl) ?_
          refine h_op (r_field rfl) ?_
          refine h_op (r_loadr rfl) ?_
          refine h_op (r_bool (r_eqr rfl rfl) (decide_eq_true h4)) ?_
          refine h_op (r_pick rfl rfl) ?_
          refine h_op (r_move rfl) ?_
          refine h_op (r_field rfl) ?_
          refine h_op (r_loadc rfl) ?_
          refine h_op (r_field rfl) ?_
          refine h_op (r_loadc rfl) ?_
          refine h_call (hE.comes) rfl rfl rfl fun _ => ?_
          refine h_op (r_pick rfl rfl) ?_
          refine h_op (r_assign rfl) ?_
          refine h_nil ?_
          refine q_then ?_
          refine h_ret ?_
          exact h_ret1 rfl rfl fun w s => ⟨(), by rw [show decide (eqP p q ss tt) = decide (ss = tt) by unfold eqP; simp [h1, h2, h3, h4]], s.res (List.nil_sublist _) (by simp)⟩
        · rw [decide_eq_false (show ¬ eqP p q ss tt from fun e => h4 e.2.2.2.1)]
          refine h_seq ?_
          refine h_reg ?_
          refine h_opX (x_box rfl) fun g2 => ?_
          refine h_opX (x_box rfl) fun g3 => ?_
          refine h_op (r_assign rfl) ?_
          refine h_nil ?_
          refine q_then ?_
          refine h_seq ?_
          refine h_reg ?_
          refine h_op (r_field rfl) ?_
          refine h_op (r_loadc rfl) ?_
          refine h_op (r_field rfl) ?_
          refine h_op (r_loadc rfl) ?_
          refine h_op (r_bool (r_eql rfl rfl) (decide_eq_true h1)) ?_
          refine h_op (r_move rfl) ?_
          refine h_op (r_field rfl) ?_
          refine h_op (r_loadc rfl) ?_
          refine h_op (r_field rfl) ?_
          refine h_op (r_loadc rfl) ?_
          refine h_op (r_bool (r_eql rfl rfl) (decide_eq_true h2)) ?_
          refine h_op (r_pick rfl rfl) ?_
          refine h_op (r_move rfl) ?_
          refine h_op (r_field rfl) ?_
          refine h_op (r_loadr rfl) ?_
          refine h_op (r_field rfl) ?_
          refine h_op (r_loadr rfl) ?_
          refine h_op (r_bool (r_eqr rfl rfl) (decide_eq_true h3)) ?_
          refine h_op (r_pick rfl rfl) ?_
          refine h_op (r_move rfl) ?_
          refine h_op (r_field rfl) ?_
          refine h_op (r_loadr rfl) ?_
          refine h_op (r_field rfl) ?_
          refine h_op (r_loadr rfl) ?_
          refine h_op (r_bool (r_eqr rfl rfl) (decide_eq_false h4)) ?_
          refine h_op (r_pick rfl rfl) ?_
          refine h_op (r_move rfl) ?_
          refine h_opOff ?_
          refine h_opOff ?_
          refine h_opOff ?_
          refine h_opOff ?_
          refine h_opOff ?_
          refine h_op (r_pick rfl rfl) ?_
          refine h_op (r_assign rfl) ?_
          refine h_nil ?_
          refine q_then ?_
          refine h_ret ?_
          exact h_ret1 rfl rfl fun w s => ⟨(), rfl, s.res (List.nil_sublist _) (by simp)⟩
      · rw [decide_eq_false (show ¬ eqP p q ss tt from fun e => h3 e.2.2.1)]
        refine h_seq ?_
        refine h_reg ?_
        refine h_opX (x_box rfl) fun g2 => ?_
        refine h_opX (x_box rfl) fun g3 => ?_
        refine h_op (r_assign rfl) ?_
        refine h_nil ?_
        refine q_then ?_
        refine h_seq ?_
        refine h_reg ?_
        refine h_op (r_field rfl) ?_
        refine h_op (r_loadc rfl) ?_
        refine h_op (r_field rfl) ?_
        refine h_op (r_loadc rfl) ?_
        refine h_op (r_bool (r_eql rfl rfl) (decide_eq_true h1)) ?_
        refine h_op (r_move rfl) ?_
        refine h_op (r_field rfl) ?_
        refine h_op (r_loadc rfl) ?_
        refine h_op (r_field rfl) ?_
        refine h_op (r_loadc rfl) ?_
        refine h_op (r_bool (r_eql rfl rfl) (decide_eq_true h2)) ?_
        refine h_op (r_pick rfl rfl) ?_
        refine h_op (r_move rfl) ?_
        refine h_op (r_field rfl) ?_
        refine h_op (r_loadr rfl) ?_
        refine h_op (r_field rfl) ?_
        refine h_op (r_loadr rfl) ?_
        refine h_op (r_bool (r_eqr rfl rfl) (decide_eq_false h3)) ?_
        refine h_op (r_pick rfl rfl) ?_
        refine h_op (r_move rfl) ?_
        refine h_opOff ?_
        refine h_opOff ?_
        refine h_opOff ?_
        refine h_opOff ?_
        refine h_opOff ?_
        refine h_op (r_pick rfl rfl) ?_
        refine h_op (r_move rfl) ?_
        refine h_opOff ?_
        refine h_opOff ?_
        refine h_opOff ?_
        refine h_opOff ?_
        refine h_opOff ?_
        refine h_op (r_pick rfl rfl) ?_
        refine h_op (r_assign rfl) ?_
        refine h_nil ?_
        refine q_then ?_
        refine h_ret ?_
        exact h_ret1 rfl rfl fun w s => ⟨(), rfl, s.res (List.nil_sublist _) (by simp)⟩
    · rw [decide_eq_false (show ¬ eqP p q ss tt from fun e => h2 e.2.1)]
      refine h_seq ?_
      refine h_reg ?_
      refine h_opX (x_box rfl) fun g2 => ?_
      refine h_opX (x_box rfl) fun g3 => ?_
      refine h_op (r_assign rfl) ?_
      refine h_nil ?_
      refine q_then ?_
      refine h_seq ?_
      refine h_reg ?_
      refine h_op (r_field rfl) ?_
      refine h_op (r_loadc rfl) ?_
      refine h_op (r_field rfl) ?_
      refine h_op (r_loadc rfl) ?_
      refine h_op (r_bool (r_eql rfl rfl) (decide_eq_true h1)) ?_
      refine h_op (r_move rfl) ?_
      refine h_op (r_field rfl) ?_
      refine h_op (r_loadc rfl) ?_
      refine h_op (r_field rfl) ?_
      refine h_op (r_loadc rfl) ?_
      refine h_op (r_bool (r_eql rfl rfl) (decide_eq_false h2)) ?_
      refine h_op (r_pick rfl rfl) ?_
      refine h_op (r_move rfl) ?_
      refine h_opOff ?_
      refine h_opOff ?_
      refine h_opOff ?_
      refine h_opOff ?_
      refine h_opOff ?_
      refine h_op (r_pick rfl rfl) ?_
      refine h_op (r_move rfl) ?_
      refine h_opOff ?_
      refine h_opOff ?_
      refine h_opOff ?_
      refine h_opOff ?_
      refine h_opOff ?_
      refine h_op (r_pick rfl rfl) ?_
      refine h_op (r_move rfl) ?_
      refine h_opOff ?_
      refine h_opOff ?_
      refine h_opOff ?_
      refine h_opOff ?_
      refine h_opOff ?_
      refine h_op (r_pick rfl rfl) ?_
      refine h_op (r_assign rfl) ?_
      refine h_nil ?_
      refine q_then ?_
      refine h_ret ?_
      exact h_ret1 rfl rfl fun w s => ⟨(), rfl, s.res (List.nil_sublist _) (by simp)⟩
  · rw [decide_eq_false (show ¬ eqP p q ss tt from fun e => h1 e.1)]
    refine h_seq ?_
    refine h_reg ?_
    refine h_opX (x_box rfl) fun g2 => ?_
    refine h_opX (x_box rfl) fun g3 => ?_
    refine h_op (r_assign rfl) ?_
    refine h_nil ?_
    refine q_then ?_
    refine h_seq ?_
    refine h_reg ?_
    refine h_op (r_field rfl) ?_
    refine h_op (r_loadc rfl) ?_
    refine h_op (r_field rfl) ?_
    refine h_op (r_loadc rfl) ?_
    refine h_op (r_bool (r_eql rfl rfl) (decide_eq_false h1)) ?_
    refine h_op (r_move rfl) ?_
    refine h_opOff ?_
    refine h_opOff ?_
    refine h_opOff ?_
    refine h_opOff ?_
    refine h_opOff ?_
    refine h_op (r_pick rfl rfl) ?_
    refine h_op (r_move rfl) ?_
    refine h_opOff ?_
    refine h_opOff ?_
    refine h_opOff ?_
    refine h_opOff ?_
    refine h_opOff ?_
    refine h_op (r_pick rfl rfl) ?_
    refine h_op (r_move rfl) ?_
    refine h_opOff ?_
    refine h_opOff ?_
    refine h_opOff ?_
    refine h_opOff ?_
    refine h_opOff ?_
    refine h_op (r_pick rfl rfl) ?_
    refine h_op (r_move rfl) ?_
    refine h_opOff ?_
    refine h_opOff ?_
    refine h_opOff ?_
    refine h_opOff ?_
    refine h_opOff ?_
    refine h_op (r_pick rfl rfl) ?_
    refine h_op (r_assign rfl) ?_
    refine h_nil ?_
    refine q_then ?_
    refine h_ret ?_
    exact h_ret1 rfl rfl fun w s => ⟨(), rfl, s.res (List.nil_sublist _) (by simp)⟩
theorem rEqual_s (p q : Proof) (ss tt : List B32) (hs : p.sibs.n = ss.length) (ht : q.sibs.n = tt.length) (hl : ss.length ≤ 1000000000000000) (hl' : tt.length ≤ 1000000000000000) : Spec Tryd.prog 36 [.agg p.cells.toArray, .agg q.cells.toArray].toArray [.rd p.sibs.A (dgs ss), .rd q.sibs.A (dgs tt)] [] (fun _ : Unit => .bool (decide (eqP p q ss tt))) (fun _ => []) := by
  refine spec_of Tryd.func36 rfl (n := 59) rfl rfl ?_
  intro W
  by_cases h1 : p.kind = q.kind
  · by_cases h2 : p.depth = q.depth
    · by_cases h3 : p.leaf = q.leaf
      · by_cases h4 : p.bitmap = q.bitmap
        · by_cases h5 : ss.length = tt.length
          · have hd : decide (eqP p q ss tt) = decide (ss = tt) := by unfold eqP; simp [h1, h2, h3, h4]
            rw [hd]
            refine h_seq ?_
            refine h_reg ?_
            refine h_opX (x_box rfl) fun g2 => ?_
            refine h_opX (x_box rfl) fun g3 => ?_
            refine h_op (r_assign rfl) ?_
            refine h_nil ?_
            refine q_then ?_
            refine h_seq ?_
            refine h_seq ?_
            refine h_reg ?_
            refine h_op (r_field rfl) ?_
            refine h_op (r_loadc rfl) ?_
            refine h_op (r_field rfl) ?_
            refine h_op (r_loadc rfl) ?_
            refine h_op (r_bool (r_neq rfl rfl) (decide_eq_false (fun h => h h1))) ?_
            refine h_op (r_move rfl) ?_
            refine h_op (r_field rfl) ?_
            refine h_op (r_loadc rfl) ?_
            refine h_op (r_field rfl) ?_
            refine h_op (r_loadc rfl) ?_
            refine h_op (r_bool (r_neq rfl rfl) (decide_eq_false (fun h => h h2))) ?_
            refine h_op (r_pick rfl rfl) ?_
            refine h_op (r_move rfl) ?_
            refine h_op (r_field rfl) ?_
            refine h_op (r_loadr rfl) ?_
            refine h_op (r_field rfl) ?_
            refine h_op (r_loadr rfl) ?_
            refine h_op (r_bool (r_ner rfl rfl) (decide_eq_false (fun h => h h3))) ?_
            refine h_op (r_pick rfl rfl) ?_
            refine h_op (r_move rfl) ?_
            refine h_op (r_field rfl) ?_
            refine h_op (r_loadr rfl) ?_
            refine h_op (r_field rfl) ?_
            refine h_op (r_loadr rfl) ?_
            refine h_op (r_bool (r_ner rfl rfl) (decide_eq_false (fun h => h h4))) ?_
            refine h_op (r_pick rfl rfl) ?_
            refine h_op (r_move rfl) ?_
            refine h_op (r_field rfl) ?_
            refine h_op (r_loadc rfl) ?_
            refine h_op (r_len rfl) ?_
            refine h_op (r_field rfl) ?_
            refine h_op (r_loadc rfl) ?_
            refine h_op (r_len rfl) ?_
            refine h_op (r_bool (r_neq rfl rfl) (decide_eq_false (fun h => h (by omega)))) ?_
            refine h_op (r_pick rfl rfl) ?_
            refine h_nil ?_
            refine q_then ?_
            refine h_condF rfl ?_
            refine h_skip ?_
            refine q_then ?_
            refine h_seq ?_
            refine h_seq ?_
            refine h_reg ?_
            refine h_op (r_assign rfl) ?_
            refine h_nil ?_
            refine q_then ?_
            refine h_block ?_
            refine h_loop (fun (k : Nat) => k ≤ ss.length ∧ ∀ i, i < k → ss.getD i zB32 = tt.getD i zB32) (fun (k : Nat) => [(5, .int .i64 (k : Int)), (2, .pointer (some ⟨g2, 0, none⟩)), (3, .pointer (some ⟨g3, 0, none⟩))]) (fun (k : Nat) => [.blk g3 q.cells 65, .blk g2 p.cells 65, .rd p.sibs.A (dgs ss), .rd q.sibs.A (dgs tt)]) (fun (k : Nat) => ss.length - k) 0 (⟨Nat.zero_le _, fun i hi => by omega⟩) ⟨rfl, rfl, rfl, trivial⟩ (same) ?_
            rintro k ⟨hk, hall⟩
            refine h_seq ?_
            refine h_seq ?_
            refine h_reg ?_
            refine h_op (r_move rfl) ?_
            refine h_op (r_field rfl) ?_
            refine h_op (r_loadc rfl) ?_
            refine h_op (r_len rfl) ?_
            refine h_op (r_lss rfl rfl) ?_
            refine h_nil ?_
            refine q_then ?_
            refine h_cond rfl (fun h => ?_) (fun h => ?_)
            · have hk2 : k < ss.length := by omega
              refine h_pure (φ := (∃ b o, p.sibs.A = some ⟨b, o, none⟩) ∧ ∃ b o, q.sibs.A = some ⟨b, o, none⟩) (fun w s => ⟨Rd.some (s.ok (.rd p.sibs.A (dgs ss)) (by simp)) (by rw [dgs_len]; omega), Rd.some (s.ok (.rd q.sibs.A (dgs tt)) (by simp)) (by rw [dgs_len]; omega)⟩) ?_
              rintro ⟨⟨b, o, hA⟩, b', o', hA'⟩
              rw [hA, hA']
              refine h_skip ?_
              refine q_then ?_
              refine h_seq ?_
              refine h_block ?_
              refine h_seq ?_
              refine ha_start [.blk g3 q.cells 65, .blk g2 p.cells 65, .rd (some ⟨b, o, none⟩) (dgs ss), .rd (some ⟨b', o', none⟩) (dgs tt)] [] mixed (same) ?_
              refine ha_takeP 0 rfl (r_field rfl) ?_
              refine ha_take 1 rfl (r_as (r_loadc rfl) (show _ = Value.slice (some ⟨b, o, none⟩) ss.length p.sibs.c by rw [hA, hs])) ?_
              refine ha_takeP 2 rfl (r_move rfl) ?_
              refine ha_takeP 3 rfl (r_idx rfl rfl) ?_
              refine ha_take 4 rfl (r_nthr rfl (out := (ss.getD k zB32).cells) (B32.cells_length _) (dgs_at hk2)) ?_
              refine ha_takeP 5 rfl (r_field rfl) ?_
              refine ha_take 6 rfl (r_as (r_loadc rfl) (show _ = Value.slice (some ⟨b', o', none⟩) tt.length q.sibs.c by rw [hA', ht])) ?_
              refine ha_takeP 7 rfl (r_move rfl) ?_
              refine ha_takeP 8 rfl (r_idx rfl rfl) ?_
              refine ha_take 9 rfl (r_nthr rfl (out := (tt.getD k zB32).cells) (B32.cells_length _) (dgs_at (by omega))) ?_
              refine ha_takeP 10 rfl (r_ner rfl rfl) ?_
              refine ha_done (by kernel_rfl) ?_
              refine q_then ?_
              refine h_cond rfl (fun h6 => ?_) (fun h6 => ?_)
              · rw [decide_eq_false (show ¬ ss = tt from fun e => h6 (by rw [e]))]
                refine h_seq ?_
                refine h_reg ?_
                refine h_op (r_assign rfl) ?_
                refine h_nil ?_
                refine q_then ?_
                refine h_ret ?_
                refine q_blockR ?_
                refine q_thenR ?_
                refine q_thenR ?_
                refine q_blockR ?_
                refine q_thenR ?_
                exact h_ret1 rfl rfl fun w s => ⟨(), rfl, s.res (List.nil_sublist _) (by simp)⟩
              · have hall2 : ∀ i, i < k + 1 → ss.getD i zB32 = tt.getD i zB32 := fun i hi => by
                  rcases Nat.lt_or_ge i k with h3 | h3
                  · exact hall i h3
                  · rw [show i = k by omega]; exact Classical.not_not.1 h6
                refine h_skip ?_
                refine q_block ?_
                refine q_then ?_
                refine h_reg ?_
                refine h_op (r_move rfl) ?_
                refine h_op (r_add rfl rfl) ?_
                refine h_op (r_assign rfl) ?_
                refine h_nil ?_
                exact h_back (k + 1) (⟨by omega, hall2⟩) (by omega) ⟨rfl, rfl, rfl, trivial⟩ (same)
            · obtain rfl : k = ss.length := by omega
              have heq : ss = tt := by
                apply List.ext_getElem h5
                intro i h1 h2
                have := hall i h1
                rw [List.getD_eq_getElem?_getD, List.getD_eq_getElem?_getD, List.getElem?_eq_getElem h1, List.getElem?_eq_getElem h2] at this
                exact this
              rw [decide_eq_true heq]
              refine h_exit ?_
              refine q_thenE ?_
              refine q_thenE ?_
              refine q_blockE ?_
              refine q_then ?_
              refine h_seq ?_
              refine h_reg ?_
              refine h_op (r_assign rfl) ?_
              refine h_nil ?_
              refine q_then ?_
              refine h_ret ?_
              exact h_ret1 rfl rfl fun w s => ⟨(), rfl, s.res (List.nil_sublist _) (by simp)⟩
          · rw [decide_eq_false (show ¬ eqP p q ss tt from fun e => h5 (by rw [e.2.2.2.2]))]
            refine h_seq ?_
            refine h_reg ?_
            refine h_opX (x_box rfl) fun g2 => ?_
            refine h_opX (x_box rfl) fun g3 => ?_
            refine h_op (r_assign rfl) ?_
            refine h_nil ?_
            refine q_then ?_
            refine h_seq ?_
            refine h_seq ?_
            refine h_reg ?_
            refine h_op (r_field rfl) ?_
            refine h_op (r_loadc rfl) ?_
            refine h_op (r_field rfl) ?_
            refine h_op (r_loadc rfl) ?_
            refine h_op (r_bool (r_neq rfl rfl) (decide_eq_false (fun h => h h1))) ?_
            refine h_op (r_move rfl) ?_
            refine h_op (r_field rfl) ?_
            refine h_op (r_loadc rfl) ?_
            refine h_op (r_field rfl) ?_
            refine h_op (r_loadc rfl) ?_
            refine h_op (r_bool (r_neq rfl rfl) (decide_eq_false (fun h => h h2))) ?_
            refine h_op (r_pick rfl rfl) ?_
            refine h_op (r_move rfl) ?_
            refine h_op (r_field rfl) ?_
            refine h_op (r_loadr rfl) ?_
            refine h_op (r_field rfl) ?_
            refine h_op (r_loadr rfl) ?_
            refine h_op (r_bool (r_ner rfl rfl) (decide_eq_false (fun h => h h3))) ?_
            refine h_op (r_pick rfl rfl) ?_
            refine h_op (r_move rfl) ?_
            refine h_op (r_field rfl) ?_
            refine h_op (r_loadr rfl) ?_
            refine h_op (r_field rfl) ?_
            refine h_op (r_loadr rfl) ?_
            refine h_op (r_bool (r_ner rfl rfl) (decide_eq_false (fun h => h h4))) ?_
            refine h_op (r_pick rfl rfl) ?_
            refine h_op (r_move rfl) ?_
            refine h_op (r_field rfl) ?_
            refine h_op (r_loadc rfl) ?_
            refine h_op (r_len rfl) ?_
            refine h_op (r_field rfl) ?_
            refine h_op (r_loadc rfl) ?_
            refine h_op (r_len rfl) ?_
            refine h_op (r_bool (r_neq rfl rfl) (decide_eq_true (by omega))) ?_
            refine h_op (r_pick rfl rfl) ?_
            refine h_nil ?_
            refine q_then ?_
            refine h_condT rfl ?_
            refine h_seq ?_
            refine h_reg ?_
            refine h_op (r_assign rfl) ?_
            refine h_nil ?_
            refine q_then ?_
            refine h_ret ?_
            refine q_thenR ?_
            exact h_ret1 rfl rfl fun w s => ⟨(), rfl, s.res (List.nil_sublist _) (by simp)⟩
        · rw [decide_eq_false (show ¬ eqP p q ss tt from fun e => h4 e.2.2.2.1)]
          refine h_seq ?_
          refine h_reg ?_
          refine h_opX (x_box rfl) fun g2 => ?_
          refine h_opX (x_box rfl) fun g3 => ?_
          refine h_op (r_assign rfl) ?_
          refine h_nil ?_
          refine q_then ?_
          refine h_seq ?_
          refine h_seq ?_
          refine h_reg ?_
          refine h_op (r_field rfl) ?_
          refine h_op (r_loadc rfl) ?_
          refine h_op (r_field rfl) ?_
          refine h_op (r_loadc rfl) ?_
          refine h_op (r_bool (r_neq rfl rfl) (decide_eq_false (fun h => h h1))) ?_
          refine h_op (r_move rfl) ?_
          refine h_op (r_field rfl) ?_
          refine h_op (r_loadc rfl) ?_
          refine h_op (r_field rfl) ?_
          refine h_op (r_loadc rfl) ?_
          refine h_op (r_bool (r_neq rfl rfl) (decide_eq_false (fun h => h h2))) ?_
          refine h_op (r_pick rfl rfl) ?_
          refine h_op (r_move rfl) ?_
          refine h_op (r_field rfl) ?_
          refine h_op (r_loadr rfl) ?_
          refine h_op (r_field rfl) ?_
          refine h_op (r_loadr rfl) ?_
          refine h_op (r_bool (r_ner rfl rfl) (decide_eq_false (fun h => h h3))) ?_
          refine h_op (r_pick rfl rfl) ?_
          refine h_op (r_move rfl) ?_
          refine h_op (r_field rfl) ?_
          refine h_op (r_loadr rfl) ?_
          refine h_op (r_field rfl) ?_
          refine h_op (r_loadr rfl) ?_
          refine h_op (r_bool (r_ner rfl rfl) (decide_eq_true h4)) ?_
          refine h_op (r_pick rfl rfl) ?_
          refine h_op (r_move rfl) ?_
          refine h_opOff ?_
          refine h_opOff ?_
          refine h_opOff ?_
          refine h_opOff ?_
          refine h_opOff ?_
          refine h_opOff ?_
          refine h_opOff ?_
          refine h_op (r_pick rfl rfl) ?_
          refine h_nil ?_
          refine q_then ?_
          refine h_condT rfl ?_
          refine h_seq ?_
          refine h_reg ?_
          refine h_op (r_assign rfl) ?_
          refine h_nil ?_
          refine q_then ?_
          refine h_ret ?_
          refine q_thenR ?_
          exact h_ret1 rfl rfl fun w s => ⟨(), rfl, s.res (List.nil_sublist _) (by simp)⟩
      · rw [decide_eq_false (show ¬ eqP p q ss tt from fun e => h3 e.2.2.1)]
        refine h_seq ?_
        refine h_reg ?_
        refine h_opX (x_box rfl) fun g2 => ?_
        refine h_opX (x_box rfl) fun g3 => ?_
        refine h_op (r_assign rfl) ?_
        refine h_nil ?_
        refine q_then ?_
        refine h_seq ?_
        refine h_seq ?_
        refine h_reg ?_
        refine h_op (r_field rfl) ?_
        refine h_op (r_loadc rfl) ?_
        refine h_op (r_field rfl) ?_
        refine h_op (r_loadc rfl) ?_
        refine h_op (r_bool (r_neq rfl rfl) (decide_eq_false (fun h => h h1))) ?_
        refine h_op (r_move rfl) ?_
        refine h_op (r_field rfl) ?_
        refine h_op (r_loadc rfl) ?_
        refine h_op (r_field rfl) ?_
        refine h_op (r_loadc rfl) ?_
        refine h_op (r_bool (r_neq rfl rfl) (decide_eq_false (fun h => h h2))) ?_
        refine h_op (r_pick rfl rfl) ?_
        refine h_op (r_move rfl) ?_
        refine h_op (r_field rfl) ?_
        refine h_op (r_loadr rfl) ?_
        refine h_op (r_field rfl) ?_
        refine h_op (r_loadr rfl) ?_
        refine h_op (r_bool (r_ner rfl rfl) (decide_eq_true h3)) ?_
        refine h_op (r_pick rfl rfl) ?_
        refine h_op (r_move rfl) ?_
        refine h_opOff ?_
        refine h_opOff ?_
        refine h_opOff ?_
        refine h_opOff ?_
        refine h_opOff ?_
        refine h_op (r_pick rfl rfl) ?_
        refine h_op (r_move rfl) ?_
        refine h_opOff ?_
        refine h_opOff ?_
        refine h_opOff ?_
        refine h_opOff ?_
        refine h_opOff ?_
        refine h_opOff ?_
        refine h_opOff ?_
        refine h_op (r_pick rfl rfl) ?_
        refine h_nil ?_
        refine q_then ?_
        refine h_condT rfl ?_
        refine h_seq ?_
        refine h_reg ?_
        refine h_op (r_assign rfl) ?_
        refine h_nil ?_
        refine q_then ?_
        refine h_ret ?_
        refine q_thenR ?_
        exact h_ret1 rfl rfl fun w s => ⟨(), rfl, s.res (List.nil_sublist _) (by simp)⟩
    · rw [decide_eq_false (show ¬ eqP p q ss tt from fun e => h2 e.2.1)]
      refine h_seq ?_
      refine h_reg ?_
      refine h_opX (x_box rfl) fun g2 => ?_
      refine h_opX (x_box rfl) fun g3 => ?_
      refine h_op (r_assign rfl) ?_
      refine h_nil ?_
      refine q_then ?_
      refine h_seq ?_
      refine h_seq ?_
      refine h_reg ?_
      refine h_op (r_field rfl) ?_
      refine h_op (r_loadc rfl) ?_
      refine h_op (r_field rfl) ?_
      refine h_op (r_loadc rfl) ?_
      refine h_op (r_bool (r_neq rfl rfl) (decide_eq_false (fun h => h h1))) ?_
      refine h_op (r_move rfl) ?_
      refine h_op (r_field rfl) ?_
      refine h_op (r_loadc rfl) ?_
      refine h_op (r_field rfl) ?_
      refine h_op (r_loadc rfl) ?_
      refine h_op (r_bool (r_neq rfl rfl) (decide_eq_true h2)) ?_
      refine h_op (r_pick rfl rfl) ?_
      refine h_op (r_move rfl) ?_
      refine h_opOff ?_
      refine h_opOff ?_
      refine h_opOff ?_
      refine h_opOff ?_
      refine h_opOff ?_
      refine h_op (r_pick rfl rfl) ?_
      refine h_op (r_move rfl) ?_
      refine h_opOff ?_
      refine h_opOff ?_
      refine h_opOff ?_
      refine h_opOff ?_
      refine h_opOff ?_
      refine h_op (r_pick rfl rfl) ?_
      refine h_op (r_move rfl) ?_
      refine h_opOff ?_
      refine h_opOff ?_
      refine h_opOff ?_
      refine h_opOff ?_
      refine h_opOff ?_
      refine h_opOff ?_
      refine h_opOff ?_
      refine h_op (r_pick rfl rfl) ?_
      refine h_nil ?_
      refine q_then ?_
      refine h_condT rfl ?_
      refine h_seq ?_
      refine h_reg ?_
      refine h_op (r_assign rfl) ?_
      refine h_nil ?_
      refine q_then ?_
      refine h_ret ?_
      refine q_thenR ?_
      exact h_ret1 rfl rfl fun w s => ⟨(), rfl, s.res (List.nil_sublist _) (by simp)⟩
  · rw [decide_eq_false (show ¬ eqP p q ss tt from fun e => h1 e.1)]
    refine h_seq ?_
    refine h_reg ?_
    refine h_opX (x_box rfl) fun g2 => ?_
    refine h_opX (x_box rfl) fun g3 => ?_
    refine h_op (r_assign rfl) ?_
    refine h_nil ?_
    refine q_then ?_
    refine h_seq ?_
    refine h_seq ?_
    refine h_reg ?_
    refine h_op (r_field rfl) ?_
    refine h_op (r_loadc rfl) ?_
    refine h_op (r_field rfl) ?_
    refine h_op (r_loadc rfl) ?_
    refine h_op (r_bool (r_neq rfl rfl) (decide_eq_true h1)) ?_
    refine h_op (r_move rfl) ?_
    refine h_opOff ?_
    refine h_opOff ?_
    refine h_opOff ?_
    refine h_opOff ?_
    refine h_opOff ?_
    refine h_op (r_pick rfl rfl) ?_
    refine h_op (r_move rfl) ?_
    refine h_opOff ?_
    refine h_opOff ?_
    refine h_opOff ?_
    refine h_opOff ?_
    refine h_opOff ?_
    refine h_op (r_pick rfl rfl) ?_
    refine h_op (r_move rfl) ?_
    refine h_opOff ?_
    refine h_opOff ?_
    refine h_opOff ?_
    refine h_opOff ?_
    refine h_opOff ?_
    refine h_op (r_pick rfl rfl) ?_
    refine h_op (r_move rfl) ?_
    refine h_opOff ?_
    refine h_opOff ?_
    refine h_opOff ?_
    refine h_opOff ?_
    refine h_opOff ?_
    refine h_opOff ?_
    refine h_opOff ?_
    refine h_op (r_pick rfl rfl) ?_
    refine h_nil ?_
    refine q_then ?_
    refine h_condT rfl ?_
    refine h_seq ?_
    refine h_reg ?_
    refine h_op (r_assign rfl) ?_
    refine h_nil ?_
    refine q_then ?_
    refine h_ret ?_
    refine q_thenR ?_
    exact h_ret1 rfl rfl fun w s => ⟨(), rfl, s.res (List.nil_sublist _) (by simp)⟩
end Go.Proofs.YtdfeimdhlagebaaDoor
/- U45 -/
namespace Go.Proofs.YtdfeimdhlagebaaDoor
set_option linter.unusedSimpArgs false
set_option linter.unusedVariables false
open Go.RowKit
theorem CloneD_s (ss : List B32) (B : Option Addr) (c : Nat) (hB : B = none → ss.length = 0 ∧ c = 0) (hl : ss.length * 32 ≤ 140737488355328) : Spec Tryd.prog 68 [.slice B ss.length c].toArray [.rd B (dgs ss)] [] (fun u : Option Addr × Nat => .slice u.1 ss.length u.2) (fun u => [.own (.slice u.1 ss.length u.2) ss.length 41 32 (dgs ss)]) := by
  refine spec_of Tryd.func68 rfl (n := 8) rfl rfl ?_
  intro W
  rcases B with _ | B
  · obtain ⟨h1, h2⟩ := hB rfl
    obtain rfl : ss = [] := List.eq_nil_of_length_eq_zero h1
    refine h_seq ?_
    refine h_reg ?_
    refine h_op (r_assign rfl) ?_
    refine h_nil ?_
    refine q_then ?_
    refine h_seq ?_
    refine h_seq ?_
    refine h_reg ?_
    refine h_op (r_move rfl) ?_
    refine h_op (r_slnil rfl rfl) ?_
    refine h_nil ?_
    refine q_then ?_
    refine h_condT rfl ?_
    refine h_seq ?_
    refine h_reg ?_
    refine h_op (r_assign rfl) ?_
    refine h_nil ?_
    refine q_then ?_
    refine h_ret ?_
    refine q_thenR ?_
    refine h_nil_own 41 32 (xs := dgs []) rfl ?_
    exact h_ret1 rfl rfl fun w s => ⟨(none, 0), rfl, (same w s).res (List.Sublist.refl _) (by simp [Fa.wr])⟩
  · refine h_seq ?_
    refine h_reg ?_
    refine h_op (r_assign rfl) ?_
    refine h_nil ?_
    refine q_then ?_
    refine h_seq ?_
    refine h_seq ?_
    refine h_reg ?_
    refine h_op (r_move rfl) ?_
    refine h_op (r_slnil rfl rfl) ?_
    refine h_nil ?_
    refine q_then ?_
    refine h_condF rfl ?_
    refine h_skip ?_
    refine q_then ?_
    refine h_seq ?_
    refine h_reg ?_
    refine h_opX (x_bsl0) fun g5 => ?_
    refine h_op (r_move rfl) ?_
    refine h_opX (x_appA (cs := dgs ss) rfl rfl hB (by rw [dgs_len]) (dgs_one _)) fun ⟨A7, c7⟩ => ?_
    refine h_op (r_assign rfl) ?_
    refine h_nil ?_
    refine q_then ?_
    refine h_ret ?_
    simp only [Nat.zero_add, List.nil_append]
    exact h_ret1 rfl rfl fun w s => ⟨(A7, c7), rfl, (same w s).res (List.Sublist.refl _) (by simp [Fa.wr])⟩
theorem PClone_s (p : Proof) (ss : List B32) (hs : p.sibs.n = ss.length) (hB : p.sibs.A = none → ss.length = 0 ∧ p.sibs.c = 0) (hl : ss.length * 32 ≤ 140737488355328) : Spec Tryd.prog 35 [.agg p.cells.toArray].toArray [.rd p.sibs.A (dgs ss)] [] (fun u : Option Addr × Nat => .agg (Proof.cells { p with sibs := ⟨u.1, ss.length, u.2⟩ }).toArray) (fun u => [.own (.slice u.1 ss.length u.2) ss.length 41 32 (dgs ss)]) := by
  have hC := CloneD_s ss p.sibs.A p.sibs.c hB hl
  rw [← hs] at hC
  refine spec_of Tryd.func35 rfl (n := 8) rfl rfl ?_
  intro W
  refine h_seq ?_
  refine h_reg ?_
  refine h_opX (x_box rfl) fun g1 => ?_
  refine h_opX (x_alloc) fun g2 => ?_
  refine h_nil ?_
  refine q_then ?_
  refine h_seq ?_
  refine h_reg ?_
  refine h_op (r_field rfl) ?_
  refine h_op (r_loadc rfl) ?_
  refine h_call (hC.comes) rfl rfl rfl fun ⟨A5, c5⟩ => ?_
  dsimp only
  rw [hs]
  refine h_op (r_field rfl) ?_
  refine h_opS (s_store rfl rfl rfl) ?_
  refine h_nil ?_
  refine q_then ?_
  refine h_seq ?_
  refine h_reg ?_
  refine h_op (r_loadr rfl) ?_
  refine h_opS (s_storer rfl rfl) ?_
  refine h_nil ?_
  refine q_then ?_
  refine h_ret ?_
  exact h_ret1 rfl (rv_row rfl) fun w s => ⟨(A5, c5), rfl, (same w s).res (List.Sublist.refl _) (by simp [Fa.wr])⟩
/-- whether a proof's end fits a claim -/
def supP (p : Proof) (key val : B32) (present : Bool) : Bool := if present = true then decide (p.kind = 1 ∧ p.leaf = ⟨key, val⟩) else if p.kind = 1 then decide (p.leaf.key ≠ key ∧ p.depth ≤ (common p.leaf.key key : Int)) else decide (p.kind = 0)
theorem Supports_s (p : Proof) (key val : B32) (present : Bool) : Spec Tryd.prog 32 [.agg p.cells.toArray, .agg key.cells.toArray, .agg val.cells.toArray, .bool present].toArray [] [] (fun _ : Unit => .bool (supP p key val present)) (fun _ => []) := by
  unfold supP
  refine spec_of Tryd.func32 rfl (n := 44) rfl rfl ?_
  intro W
  rcases present with _ | _
  · rw [if_neg (by simp)]
    by_cases h1 : p.kind = 1
    · rw [if_pos h1]
      by_cases h2 : p.leaf.key = key
      · rw [decide_eq_false (show ¬ (p.leaf.key ≠ key ∧ p.depth ≤ (common p.leaf.key key : Int)) from fun e => e.1 h2)]
        refine h_seq ?_
        refine h_reg ?_
        refine h_opX (x_box rfl) fun g4 => ?_
        refine h_opX (x_box rfl) fun g5 => ?_
        refine h_opX (x_box rfl) fun g6 => ?_
        refine h_op (r_assign rfl) ?_
        refine h_nil ?_
        refine q_then ?_
        refine h_seq ?_
        refine h_block ?_
        refine h_seq ?_
        refine h_reg ?_
        refine h_op (r_move rfl) ?_
        refine h_op (r_assign rfl) ?_
        refine h_nil ?_
        refine q_then ?_
        refine h_condF rfl ?_
        refine h_seq ?_
        refine h_reg ?_
        refine h_op (r_field rfl) ?_
        refine h_op (r_loadc rfl) ?_
        refine h_op (r_eql rfl rfl) ?_
        refine h_op (r_assign rfl) ?_
        refine h_nil ?_
        refine q_then ?_
        refine h_yes rfl (h1) ?_
        refine h_seq ?_
        refine ha_start [.blk g4 p.cells 65, .blk g5 key.cells 40] [] mixed (same) ?_
        refine ha_takeP 0 rfl (r_field rfl) ?_
        refine ha_takeP 1 rfl (r_field rfl) ?_
        refine ha_take 2 rfl (r_loadr rfl) ?_
        refine ha_take 3 rfl (r_loadr rfl) ?_
        refine ha_takeP 4 rfl (r_bool (r_ner rfl rfl) (decide_eq_false (fun e => e h2))) ?_
        refine ha_takeP 5 rfl (r_move rfl) ?_
        refine ha_off 6 rfl ?_
        refine ha_off 7 rfl ?_
        refine ha_off 8 rfl ?_
        refine ha_off 9 rfl ?_
        refine ha_off 10 rfl ?_
        refine ha_off 11 rfl ?_
        refine ha_off 12 rfl ?_
        refine ha_off 13 rfl ?_
        refine ha_takeP 14 rfl (r_pick rfl rfl) ?_
        refine ha_takeP 15 rfl (r_assign rfl) ?_
        refine ha_done (by kernel_rfl) ?_
        refine q_then ?_
        refine h_ret ?_
        refine q_blockR ?_
        refine q_thenR ?_
        exact h_ret1 rfl rfl fun w s => ⟨(), rfl, s.res (List.nil_sublist _) (by simp)⟩
      · refine h_seq ?_
        refine h_reg ?_
        refine h_opX (x_box rfl) fun g4 => ?_
        refine h_opX (x_box rfl) fun g5 => ?_
        refine h_opX (x_box rfl) fun g6 => ?_
        refine h_op (r_assign rfl) ?_
        refine h_nil ?_
        refine q_then ?_
        refine h_seq ?_
        refine h_block ?_
        refine h_seq ?_
        refine h_reg ?_
        refine h_op (r_move rfl) ?_
        refine h_op (r_assign rfl) ?_
        refine h_nil ?_
        refine q_then ?_
        refine h_condF rfl ?_
        refine h_seq ?_
        refine h_reg ?_
        refine h_op (r_field rfl) ?_
        refine h_op (r_loadc rfl) ?_
        refine h_op (r_eql rfl rfl) ?_
        refine h_op (r_assign rfl) ?_
        refine h_nil ?_
        refine q_then ?_
        refine h_yes rfl (h1) ?_
        refine h_seq ?_
        refine ha_start [.blk g4 p.cells 65, .blk g5 key.cells 40] [] mixed (same) ?_
        refine ha_takeP 0 rfl (r_field rfl) ?_
        refine ha_takeP 1 rfl (r_field rfl) ?_
        refine ha_take 2 rfl (r_loadr rfl) ?_
        refine ha_take 3 rfl (r_loadr rfl) ?_
        refine ha_takeP 4 rfl (r_bool (r_ner rfl rfl) (decide_eq_true h2)) ?_
        refine ha_takeP 5 rfl (r_move rfl) ?_
        refine ha_takeP 6 rfl (r_field rfl) ?_
        refine ha_takeP 7 rfl (r_field rfl) ?_
        refine ha_take 8 rfl (r_loadr rfl) ?_
        refine ha_take 9 rfl (r_loadr rfl) ?_
        refine ha_takeP 11 rfl (r_field rfl) ?_
        refine ha_take 12 rfl (r_loadc rfl) ?_
        refine ha_one 10 ?_
        refine ho_C 10 rfl ((Common_s p.leaf.key key).comes) rfl rfl rfl (fun _ => same) fun _ => ?_
        refine ha_takeP 13 rfl (r_geq rfl rfl) ?_
        refine ha_takeP 14 rfl (r_pick rfl rfl) ?_
        refine ha_takeP 15 rfl (r_assign rfl) ?_
        refine ha_done (by kernel_rfl) ?_
        refine q_then ?_
        refine h_ret ?_
        refine q_blockR ?_
        refine q_thenR ?_
        exact h_ret1 rfl rfl fun w s => ⟨(), by simp [h2], s.res (List.nil_sublist _) (by simp)⟩
    · rw [if_neg h1]
      refine h_seq ?_
      refine h_reg ?_
      refine h_opX (x_box rfl) fun g4 => ?_
      refine h_opX (x_box rfl) fun g5 => ?_
      refine h_opX (x_box rfl) fun g6 => ?_
      refine h_op (r_assign rfl) ?_
      refine h_nil ?_
      refine q_then ?_
      refine h_seq ?_
      refine h_block ?_
      refine h_seq ?_
      refine h_reg ?_
      refine h_op (r_move rfl) ?_
      refine h_op (r_assign rfl) ?_
      refine h_nil ?_
      refine q_then ?_
      refine h_condF rfl ?_
      refine h_seq ?_
      refine h_reg ?_
      refine h_op (r_field rfl) ?_
      refine h_op (r_loadc rfl) ?_
      refine h_op (r_eql rfl rfl) ?_
      refine h_op (r_assign rfl) ?_
      refine h_nil ?_
      refine q_then ?_
      refine h_no rfl (h1) ?_
      refine h_skip ?_
      refine q_block ?_
      refine q_then ?_
      refine h_seq ?_
      refine h_reg ?_
      refine h_op (r_field rfl) ?_
      refine h_op (r_loadc rfl) ?_
      refine h_op (r_eql rfl rfl) ?_
      refine h_op (r_assign rfl) ?_
      refine h_nil ?_
      refine q_then ?_
      refine h_ret ?_
      exact h_ret1 rfl rfl fun w s => ⟨(), rfl, s.res (List.nil_sublist _) (by simp)⟩
  · rw [if_pos rfl]
    by_cases h1 : p.kind = 1
    · refine h_seq ?_
      refine h_reg ?_
      refine h_opX (x_box rfl) fun g4 => ?_
      refine h_opX (x_box rfl) fun g5 => ?_
      refine h_opX (x_box rfl) fun g6 => ?_
      refine h_op (r_assign rfl) ?_
      refine h_nil ?_
      refine q_then ?_
      refine h_seq ?_
      refine h_block ?_
      refine h_seq ?_
      refine h_reg ?_
      refine h_op (r_move rfl) ?_
      refine h_op (r_assign rfl) ?_
      refine h_nil ?_
      refine q_then ?_
      refine h_condT rfl ?_
      refine h_seq ?_
      refine h_reg ?_
      refine h_op (r_field rfl) ?_
      refine h_op (r_loadc rfl) ?_
      refine h_op (r_bool (r_eql rfl rfl) (decide_eq_true h1)) ?_
      refine h_op (r_move rfl) ?_
      refine h_op (r_field rfl) ?_
      refine h_op (r_loadr rfl) ?_
      refine h_op (r_loadr rfl) ?_
      refine h_op (r_loadr rfl) ?_
      refine h_op (r_build rfl) ?_
      refine h_op (r_eqr rfl rfl) ?_
      refine h_op (r_pick rfl rfl) ?_
      refine h_op (r_assign rfl) ?_
      refine h_nil ?_
      refine q_then ?_
      refine h_ret ?_
      refine q_blockR ?_
      refine q_thenR ?_
      exact h_ret1 rfl rfl fun w s => ⟨(), by simp [h1], s.res (List.nil_sublist _) (by simp)⟩
    · rw [decide_eq_false (show ¬ (p.kind = 1 ∧ p.leaf = ⟨key, val⟩) from fun e => h1 e.1)]
      refine h_seq ?_
      refine h_reg ?_
      refine h_opX (x_box rfl) fun g4 => ?_
      refine h_opX (x_box rfl) fun g5 => ?_
      refine h_opX (x_box rfl) fun g6 => ?_
      refine h_op (r_assign rfl) ?_
      refine h_nil ?_
      refine q_then ?_
      refine h_seq ?_
      refine h_block ?_
      refine h_seq ?_
      refine h_reg ?_
      refine h_op (r_move rfl) ?_
      refine h_op (r_assign rfl) ?_
      refine h_nil ?_
      refine q_then ?_
      refine h_condT rfl ?_
      refine h_seq ?_
      refine h_reg ?_
      refine h_op (r_field rfl) ?_
      refine h_op (r_loadc rfl) ?_
      refine h_op (r_bool (r_eql rfl rfl) (decide_eq_false h1)) ?_
      refine h_op (r_move rfl) ?_
      refine h_opOff ?_
      refine h_opOff ?_
      refine h_opOff ?_
      refine h_opOff ?_
      refine h_opOff ?_
      refine h_opOff ?_
      refine h_op (r_pick rfl rfl) ?_
      refine h_op (r_assign rfl) ?_
      refine h_nil ?_
      refine q_then ?_
      refine h_ret ?_
      refine q_blockR ?_
      refine q_thenR ?_
      exact h_ret1 rfl rfl fun w s => ⟨(), rfl, s.res (List.nil_sublist _) (by simp)⟩
end Go.Proofs.YtdfeimdhlagebaaDoor
/- U26p -/
namespace Go.Proofs.YtdfeimdhlagebaaDoor
set_option linter.unusedSimpArgs false
set_option linter.unusedVariables false
open Go.RowKit
theorem checkP_5 {p : Proof} (h0 : okJ p 0 = true) {j : Nat} (hj : 1 ≤ j ∧ j < 5) (h : okJ p j = false) : checkP p = 5 := by
  unfold checkP
  rw [h0, if_neg (by simp)]
  rcases (show j = 1 ∨ j = 2 ∨ j = 3 ∨ j = 4 by omega) with rfl | rfl | rfl | rfl
  · rw [if_pos h]
  · by_cases h1 : okJ p 1 = false
    · rw [if_pos h1]
    · rw [if_neg h1, if_pos h]
  · by_cases h1 : okJ p 1 = false
    · rw [if_pos h1]
    · by_cases h2 : okJ p 2 = false
      · rw [if_neg h1, if_pos h2]
      · rw [if_neg h1, if_neg h2, if_pos h]
  · by_cases h1 : okJ p 1 = false
    · rw [if_pos h1]
    · by_cases h2 : okJ p 2 = false
      · rw [if_neg h1, if_pos h2]
      · by_cases h3 : okJ p 3 = false
        · rw [if_neg h1, if_neg h2, if_pos h3]
        · rw [if_neg h1, if_neg h2, if_neg h3, if_pos h]
theorem checkP_ok {p : Proof} (h0 : okJ p 0 = true) (h1 : okJ p 1 = true) (h2 : okJ p 2 = true) (h3 : okJ p 3 = true) (h4 : okJ p 4 = true) : checkP p = 0 := by
  unfold checkP
  rw [h0, if_neg (by simp), h1, if_neg (by simp), h2, if_neg (by simp), h3, if_neg (by simp), h4, if_neg (by simp)]
theorem lastI_pos {b : B32} (h : 0 < (depths b).length) : lastI b 256 = (((depths b).getD ((depths b).length - 1) 0 : Nat) : Int) := by
  rw [lastI_depths, List.getLast?_eq_getElem?, List.getD]
  cases hx : (depths b)[(depths b).length - 1]? with
  | none => rw [List.getElem?_eq_none_iff] at hx; omega
  | some i => rfl
theorem lastI_nil {b : B32} (h : (depths b).length = 0) : lastI b 256 = -1 := by
  rw [lastI_depths, List.eq_nil_of_length_eq_zero h]
  rfl
end Go.Proofs.YtdfeimdhlagebaaDoor
/- U17 -/
namespace Go.Proofs.YtdfeimdhlagebaaDoor
set_option linter.unusedSimpArgs false
set_option linter.unusedVariables false
open Go.RowKit
theorem ok_depth {p : Proof} (h : checkP p = 0) : 0 ≤ p.depth ∧ p.depth ≤ 256 := by simpa [okJ] using checkP_zero h 1 (by omega)
theorem ok_last {p : Proof} (h : checkP p = 0) : lastI p.bitmap 256 = p.depth - 1 := by simpa [okJ] using checkP_zero h 3 (by omega)
theorem ok_sibs {p : Proof} (h : checkP p = 0) : (depths p.bitmap).length = p.sibs.n := by
  have := checkP_zero h 4 (by omega)
  simp only [okJ, decide_eq_true_eq] at this
  omega
theorem Expand_bad (p : Proof) (h : checkP p ≠ 0) (gh : Nat) : Spec Tryd.prog 37 [.pointer (some ⟨gh, 0, none⟩), .agg p.cells.toArray].toArray [] [] (fun _ : Unit => .tuple #[.slice none 0 0, .int .i64 (checkP p)]) (fun _ => []) := by
  refine spec_of Tryd.func37 rfl (n := 40) rfl rfl ?_
  intro W
  refine h_seq ?_
  refine h_reg ?_
  refine h_opX (x_box rfl) fun g3 => ?_
  refine h_op (r_assign rfl) ?_
  refine h_op (r_assign rfl) ?_
  refine h_nil ?_
  refine q_then ?_
  refine h_seq ?_
  refine h_seq ?_
  refine h_reg ?_
  refine h_op (r_loadr rfl) ?_
  refine h_call ((Check_s p).comes) rfl rfl rfl fun _ => ?_
  refine h_op (r_assign rfl) ?_
  refine h_nil ?_
  refine q_then ?_
  refine h_seq ?_
  refine h_reg ?_
  refine h_op (r_move rfl) ?_
  refine h_op (r_neq rfl rfl) ?_
  refine h_nil ?_
  refine q_then ?_
  refine h_yes rfl (h) ?_
  refine h_seq ?_
  refine h_reg ?_
  refine h_op (r_move rfl) ?_
  refine h_op (r_assign rfl) ?_
  refine h_op (r_assign rfl) ?_
  refine h_nil ?_
  refine q_then ?_
  refine h_ret ?_
  refine q_thenR ?_
  exact h_ret2 rfl rfl rfl fun w s => ⟨(), rfl, s.res (List.nil_sublist _) (by simp)⟩
theorem Expand_s (p : Proof) (hc : checkP p = 0) (ss : List B32) (hs : p.sibs.n = ss.length) (n : Nat) (hn : n ≤ 256) (gh gc k : Nat) (hk : k ≤ 1000000000000) (d : Nat) (hd : p.depth = (d : Int)) : Spec Tryd.prog 37 [.pointer (some ⟨gh, 0, none⟩), .agg p.cells.toArray].toArray [.rd (some ⟨gh, 0, none⟩) [.pointer (some ⟨gc, 0, none⟩), .int .i64 (n : Int)], .rd p.sibs.A (dgs ss), .rd (some ⟨0, 0, none⟩) hashT] [.blk gc [.int .i64 (k : Int)] 128] (fun g : Nat => .tuple #[.slice (some ⟨g, 0, none⟩) d d, .int .i64 0]) (fun g => [.own (.slice (some ⟨g, 0, none⟩) d d) d 41 32 (dgs (expL (sumB n preE) p.bitmap ss d)), .blk gc [.int .i64 ((k + 1 : Nat) : Int)] 128]) := by
  have hd2 := ok_depth hc
  have hl := ok_last hc
  have hsb := ok_sibs hc
  have hd256 : d ≤ 256 := by omega
  have hl256 : (depths p.bitmap).length ≤ 256 := dep_len p.bitmap 256
  refine spec_of Tryd.func37 rfl (n := 40) rfl rfl ?_
  intro W
  refine h_seq ?_
  refine h_reg ?_
  refine h_opX (x_box rfl) fun g3 => ?_
  refine h_op (r_assign rfl) ?_
  refine h_op (r_assign rfl) ?_
  refine h_nil ?_
  refine q_then ?_
  refine h_seq ?_
  refine h_seq ?_
  refine h_reg ?_
  refine h_op (r_loadr rfl) ?_
  refine h_call ((Check_s p).comes) rfl rfl rfl fun _ => ?_
  rw [hc]
  refine h_op (r_assign rfl) ?_
  refine h_nil ?_
  refine q_then ?_
  refine h_seq ?_
  refine h_reg ?_
  refine h_op (r_move rfl) ?_
  refine h_op (r_neq rfl rfl) ?_
  refine h_nil ?_
  refine q_then ?_
  refine h_no rfl ((fun h => h rfl)) ?_
  refine h_skip ?_
  refine q_then ?_
  refine h_seq ?_
  refine ha_start [.blk g3 p.cells 65] [] mixed (same) ?_
  refine ha_takeP 0 rfl (r_move rfl) ?_
  refine ha_takeP 3 rfl (r_field rfl) ?_
  refine ha_take 4 rfl (r_int (r_loadc rfl) hd) ?_
  refine ha_one 1 ?_
  refine ho_C 1 rfl ((nilDigest_s n hn gh gc k hk).comes) rfl rfl rfl (fun _ => same) fun _ => ?_
  refine ha_one 2 ?_
  refine ho_X 2 rfl (rk (x_bsl rfl rfl)) (fun _ => same) fun g17 => ?_
  refine ha_one 5 ?_
  refine ho_C 5 rfl ((Repeat_s (sumB n preE) d g17 0 1 hd256).comes) rfl rfl rfl (fun _ => same) fun g20 => ?_
  refine ha_takeP 6 rfl (r_assign rfl) ?_
  refine ha_done (by kernel_rfl) ?_
  refine q_then ?_
  rw [← expJ_0 (sumB n preE) p.bitmap ss d]
  generalize sumB n preE = e at *
  refine h_seq ?_
  refine h_seq ?_
  refine h_reg ?_
  refine h_op (r_field rfl) ?_
  refine h_op (r_loadr rfl) ?_
  refine h_call ((List_s p.bitmap).comes) rfl rfl rfl fun ⟨A23, c23⟩ => ?_
  dsimp only
  refine h_op (r_len rfl) ?_
  refine h_op (r_move rfl) ?_
  refine h_nil ?_
  refine q_then ?_
  refine h_block ?_
  refine h_loop (fun (j : Nat) => j ≤ (depths p.bitmap).length) (fun (j : Nat) => [(25, .int .i64 (j : Int)), (24, .int .i64 ((depths p.bitmap).length : Int)), (23, .slice A23 (depths p.bitmap).length c23), (7, .slice (some ⟨g20, 0, none⟩) d d), (3, .pointer (some ⟨g3, 0, none⟩))]) (fun (j : Nat) => [.own (.slice A23 (depths p.bitmap).length c23) (depths p.bitmap).length 3 1 (ic (depths p.bitmap)), .own (.slice (some ⟨g20, 0, none⟩) d d) d 41 32 (dgs (expJ e p.bitmap ss d j)), .blk gc [.int .i64 ((k + 1 : Nat) : Int)] 128, .blk g3 p.cells 65, .rd p.sibs.A (dgs ss)]) (fun (j : Nat) => (depths p.bitmap).length - j) 0 (Nat.zero_le _) ⟨rfl, rfl, rfl, rfl, rfl, trivial⟩ (same) ?_
  intro j hj
  refine h_seq ?_
  refine h_reg ?_
  refine h_op (r_lss rfl rfl) ?_
  refine h_nil ?_
  refine q_then ?_
  refine h_seq ?_
  refine h_cond rfl (fun h => ?_) (fun h => ?_)
  · have hlt : j < (depths p.bitmap).length := by omega
    obtain ⟨i, hi⟩ : ∃ i, (depths p.bitmap)[j]? = some i := ⟨_, List.getElem?_eq_getElem hlt⟩
    obtain ⟨h1, h2, h3⟩ := dep_pos hi
    have hmx := lastI_max p.bitmap 256 i h1 h2
    have hid : i < d := by omega
    have hgi : (depths p.bitmap).getD j 0 = i := by rw [List.getD, hi]; rfl
    have hset := expJ_set e p.bitmap ss d j hi hd256 hid
    have hdl := expJ_len e p.bitmap ss d j
    have hds := dgs_set (expJ e p.bitmap ss d j) i (ss.getD j zB32) (by omega)
    rw [hset] at hds
    have hjs : j < ss.length := by omega
    refine h_pure (φ := (∃ g, A23 = some ⟨g, 0, none⟩) ∧ ∃ b o, p.sibs.A = some ⟨b, o, none⟩) (fun w s => ⟨s.ownSome (N := (depths p.bitmap).length) (c := c23) (by omega), Rd.some (s.ok (.rd p.sibs.A (dgs ss)) (by simp)) (by rw [dgs_len]; omega)⟩) ?_
    rintro ⟨⟨g23, rfl⟩, b, o, hA⟩
    refine h_skip ?_
    refine q_then ?_
    refine h_seq ?_
    refine h_block ?_
    refine h_seq ?_
    refine h_reg ?_
    refine h_op (r_move rfl) ?_
    refine h_op (r_idx rfl rfl) ?_
    refine h_op (r_nth rfl (ic_at (by omega))) ?_
    refine h_op (r_assign rfl) ?_
    refine h_op (r_assign rfl) ?_
    refine h_nil ?_
    refine q_then ?_
    refine h_reg ?_
    rw [hgi]
    refine h_op (r_move rfl) ?_
    refine h_op (r_move rfl) ?_
    refine h_op (r_field rfl) ?_
    refine h_op (r_loadc rfl) ?_
    rw [hA]
    refine h_op (r_move rfl) ?_
    refine h_op (r_idx rfl rfl) ?_
    refine h_op (r_nthr rfl (out := (ss.getD j zB32).cells) (B32.cells_length _) (dgs_at hjs)) ?_
    refine h_op (r_idx rfl rfl) ?_
    refine h_opS (s_setrO rfl rfl (by rw [dgs_len, hdl]; omega) hds) ?_
    refine h_nil ?_
    refine q_block ?_
    refine q_then ?_
    refine h_reg ?_
    refine h_op (r_add rfl rfl) ?_
    refine h_op (r_move rfl) ?_
    refine h_nil ?_
    exact h_back (j + 1) (by omega) (by omega) ⟨rfl, rfl, rfl, rfl, rfl, trivial⟩ (same)
  · obtain rfl : j = (depths p.bitmap).length := by omega
    rw [expJ_all e p.bitmap ss d _ hd256 (Nat.le_refl _)]
    refine h_exit ?_
    refine q_thenE ?_
    refine q_thenE ?_
    refine q_blockE ?_
    refine q_then ?_
    refine h_seq ?_
    refine h_reg ?_
    refine h_op (r_move rfl) ?_
    refine h_op (r_assign rfl) ?_
    refine h_op (r_assign rfl) ?_
    refine h_nil ?_
    refine q_then ?_
    refine h_ret ?_
    exact h_ret2 rfl rfl rfl fun w s => ⟨g20, rfl, (same w s).res (List.Sublist.refl _) (by simp [Fa.wr])⟩
end Go.Proofs.YtdfeimdhlagebaaDoor
/- U46 -/
namespace Go.Proofs.YtdfeimdhlagebaaDoor
set_option linter.unusedSimpArgs false
set_option linter.unusedVariables false
open Go.RowKit
/-- the deepest subtree beside the way is not empty -/
def LastOk (key : B32) (t : Tr) (D : Nat) : Prop := ∀ i, D = i + 1 → (sibK key t i).kind ≠ 0
theorem prf_depths {key : B32} {t : Tr} {D : Nat} (hD : D ≤ 256) : depths (dset (dsK key t D)) = dsK key t D :=
  dset_depths ((List.pairwise_lt_range).filter _) fun i hi => by have := dsK_lt hi; omega
theorem prf_ok (n : Nat) {key : B32} {t : Tr} {D : Nat} (hD : WayTo key t D) (hL : LastOk key t D) (A : Option Addr) (c : Nat) : checkP (prfK n key t D A c) = 0 := by
  have hle := hD.le
  have hdep := prf_depths (key := key) (t := t) hle
  have hk : (wayK key t D).kind = 0 ∨ (wayK key t D).kind = 1 := by
    have := hD.end_
    generalize wayK key t D = x at *
    cases x with
    | nil => exact .inl rfl
    | leaf k v => exact .inr rfl
    | node l r => exact (this rfl).elim
  refine checkP_ok ?_ ?_ ?_ ?_ ?_
  · show (decide (((wayK key t D).kind : Int) = 0) || decide (((wayK key t D).kind : Int) = 1)) = true
    rcases hk with h | h <;> rw [h] <;> rfl
  · show (decide (0 ≤ (D : Int)) && decide ((D : Int) ≤ 256)) = true
    simp; omega
  · show (decide (((wayK key t D).kind : Int) = 1) || decide (leafT n (wayK key t D) = zLeaf)) = true
    rcases hk with h | h
    · rw [leafT_ne n _ (by omega)]; simp
    · rw [h]; rfl
  · show decide (lastI (dset (dsK key t D)) 256 = (D : Int) - 1) = true
    refine decide_eq_true ?_
    rcases D with _ | i
    · rw [lastI_nil (by rw [hdep]; rfl)]; rfl
    · have h1 := dsK_yes (hL i rfl)
      rw [lastI_pos (by rw [hdep, h1]; simp), hdep, h1]
      simp
  · show decide (((depths (dset (dsK key t D))).length : Int) = ((dsK key t D).length : Int)) = true
    rw [hdep]; simp
theorem rsK_len (n : Nat) (key : B32) (t : Tr) (D : Nat) : (rsK n key t D).length = (dsK key t D).length := by unfold rsK; rw [List.length_map]
def kB (x : UInt8) : B32 := ⟨x :: List.replicate 31 0, rfl⟩
def T15 : Tr := .node (.leaf zB32 []) (.leaf (kB 255) [])
def L15 : List En := [⟨⟨zB32, ⟨none, 0, 0⟩⟩, []⟩, ⟨⟨kB 255, ⟨none, 0, 0⟩⟩, []⟩]
def ts15 : Nat → Tr
  | 0 => .nil
  | 1 => .leaf zB32 []
  | _ => T15
theorem slz_nil (h : Zh) : SlZ h ⟨none, 0, 0⟩ [] := ⟨rfl, Nat.le_refl _, fun _ => ⟨rfl, rfl⟩, RdZ.nil _ _⟩
theorem puts15 : Puts L15 ts15 := by
  intro i e he
  match i, he with
  | 0, he =>
    obtain rfl : _ = e := Option.some.inj he
    exact ⟨by decide, 0, ⟨by omega, (by intro h; cases h), (fun i hi => by omega)⟩, (fun k' v' h => by cases h), rfl⟩
  | 1, he =>
    obtain rfl : _ = e := Option.some.inj he
    refine ⟨by decide, 0, ⟨by omega, (by intro h; cases h), (fun i hi => by omega)⟩, fun k' v' _ _ => Nat.zero_le _, ?_⟩
    have h1 : ¬ zB32 = kB 255 := by decide
    have h2 : common zB32 (kB 255) = 0 := by decide +kernel
    have h3 : bitAt zB32 0 = false := by decide +kernel
    show T15 = upD (kB 255) _ 0 (if zB32 = kB 255 then _ else pairT (.leaf zB32 []) (.leaf (kB 255) []) 0)
    rw [if_neg h1]
    show T15 = pairT (.leaf zB32 []) (.leaf (kB 255) []) 0
    unfold pairT
    show T15 = upN zB32 0 (common zB32 (kB 255) - 0) (jnK zB32 (common zB32 (kB 255)) _ _)
    rw [h2]
    show T15 = jnK zB32 0 _ _
    unfold jnK
    rw [h3, if_neg (by simp)]
    rfl
  | i + 2, he => cases he
theorem vals15 (h : Zh) : ValsZ h L15 := by
  intro e he
  simp only [L15, List.mem_cons, List.not_mem_nil, or_false] at he
  rcases he with rfl | rfl
  · exact ⟨slz_nil h, by decide⟩
  · exact ⟨slz_nil h, by decide⟩
theorem b128 : bitAt (kB 128) 0 = true := by decide +kernel
theorem way15 : WayTo (kB 128) T15 1 := by
  have e : wayK (kB 128) T15 1 = .leaf (kB 255) [] := by
    show T15.sub (bitAt (kB 128) 0) = _
    rw [b128]; rfl
  refine ⟨by omega, by rw [e]; decide, fun i hi => ?_⟩
  obtain rfl : i = 0 := by omega
  rfl
theorem last15 : LastOk (kB 128) T15 1 := by
  intro i hi
  obtain rfl : i = 0 := by omega
  show (T15.sub (!bitAt (kB 128) 0)).kind ≠ 0
  rw [b128]; decide
theorem prf15 (A : Option Addr) (c : Nat) : prfK 256 (kB 128) T15 1 A c = ⟨1, 1, leafOf 256 (kB 255) [], dset [0], ⟨A, 1, c⟩⟩ := by
  have e : wayK (kB 128) T15 1 = .leaf (kB 255) [] := by
    show T15.sub (bitAt (kB 128) 0) = _
    rw [b128]; rfl
  have e2 : dsK (kB 128) T15 1 = [0] := by rw [dsK_yes (last15 0 rfl)]; rfl
  unfold prfK
  rw [e, e2]
  rfl
theorem z7 : prfK 256 (kB 7) .nil 0 none 0 = zProof := by
  unfold prfK
  show (⟨0, 0, zLeaf, dset [], ⟨none, 0, 0⟩⟩ : Proof) = zProof
  rw [dset_nil]; rfl
end Go.Proofs.YtdfeimdhlagebaaDoor
/- U47 -/
namespace Go.Proofs.YtdfeimdhlagebaaDoor
set_option linter.unusedSimpArgs false
set_option linter.unusedVariables false
open Go.RowKit
abbrev P7 (A : Option Addr) (c : Nat) : Proof := ⟨0, 0, zLeaf, zB32, ⟨A, 0, c⟩⟩
abbrev Q15 (A : Option Addr) (c : Nat) : Proof := ⟨1, 1, leafOf 256 (kB 255) [], dset [0], ⟨A, 1, c⟩⟩
def R15 : List B32 := [dgT 256 (.leaf zB32 [])]
theorem prf7 (A : Option Addr) (c : Nat) : prfK 256 (kB 7) .nil 0 A c = P7 A c := by
  unfold prfK P7
  show (⟨0, 0, zLeaf, dset [], ⟨A, 0, c⟩⟩ : Proof) = _
  rw [dset_nil]
theorem ds7 : dsK (kB 7) .nil 0 = [] := rfl
theorem rs7 : rsK 256 (kB 7) .nil 0 = [] := rfl
theorem prf15' (A : Option Addr) (c : Nat) : prfK 256 (kB 128) T15 1 A c = Q15 A c := prf15 A c
theorem ds15 : dsK (kB 128) T15 1 = [0] := by rw [dsK_yes (last15 0 rfl)]; rfl
theorem rs15 : rsK 256 (kB 128) T15 1 = R15 := by
  unfold rsK
  rw [ds15]
  show [dgT 256 (T15.sub (!bitAt (kB 128) 0))] = R15
  rw [b128]; rfl
theorem fill_kB (x : UInt8) : Instr.fill (plArr 1) zB32.cells.toArray [(0, Value.int .u8 (x.toNat : Int))] = some (kB x).cells.toArray := by kernel_rfl
theorem ok15 (A : Option Addr) (c : Nat) : checkP (Q15 A c) = 0 := by
  have := prf_ok 256 way15 last15 A c
  rw [prf15] at this
  exact this
theorem sup15a (A : Option Addr) (c : Nat) : supP (Q15 A c) (kB 128) zB32 false = true := by
  have h1 : common (kB 255) (kB 128) = 1 := by decide +kernel
  have h2 : kB 255 ≠ kB 128 := by decide
  unfold supP
  rw [if_neg (by simp), if_pos (show (Q15 A c).kind = 1 from rfl)]
  refine decide_eq_true ⟨h2, ?_⟩
  show (1 : Int) ≤ (common (kB 255) (kB 128) : Nat)
  rw [h1]; decide
theorem sup15b (A : Option Addr) (c : Nat) : supP (Q15 A c) (kB 255) zB32 false = false := by
  unfold supP
  rw [if_neg (by simp), if_pos (show (Q15 A c).kind = 1 from rfl)]
  exact decide_eq_false fun e => e.1 rfl
theorem sup15A (A : Option Addr) (c : Nat) : Spec Tryd.prog 32 [.agg (Q15 A c).cells.toArray, .agg (kB 128).cells.toArray, .agg zB32.cells.toArray, .bool false].toArray [] [] (fun _ : Unit => .bool true) (fun _ => []) := by
  have := Supports_s (Q15 A c) (kB 128) zB32 false
  rw [sup15a] at this
  exact this
theorem sup15B (A : Option Addr) (c : Nat) : Spec Tryd.prog 32 [.agg (Q15 A c).cells.toArray, .agg (kB 255).cells.toArray, .agg zB32.cells.toArray, .bool false].toArray [] [] (fun _ : Unit => .bool false) (fun _ => []) := by
  have := Supports_s (Q15 A c) (kB 255) zB32 false
  rw [sup15b] at this
  exact this
theorem chk15 (A : Option Addr) (c : Nat) : Spec Tryd.prog 30 [.agg (Q15 A c).cells.toArray].toArray [] [] (fun _ : Unit => .int .i64 0) (fun _ => []) := by
  have := Check_s (Q15 A c)
  rw [ok15] at this
  exact this
theorem eq15a (A A' : Option Addr) (c c' : Nat) : Spec Tryd.prog 34 [.agg (Q15 A' c').cells.toArray, .agg (Q15 A c).cells.toArray].toArray [.rd A' (dgs R15), .rd A (dgs R15)] [] (fun _ : Unit => .bool true) (fun _ => []) := by
  have := PEqual_s (Q15 A' c') (Q15 A c) R15 R15 rfl rfl (by decide) (by decide)
  rw [decide_eq_true (show eqP (Q15 A' c') (Q15 A c) R15 R15 from ⟨rfl, rfl, rfl, rfl, rfl⟩)] at this
  exact this
theorem eq15b (A A' : Option Addr) (c c' : Nat) : Spec Tryd.prog 34 [.agg (P7 A' c').cells.toArray, .agg (Q15 A c).cells.toArray].toArray [.rd A' (dgs []), .rd A (dgs R15)] [] (fun _ : Unit => .bool false) (fun _ => []) := by
  have := PEqual_s (P7 A' c') (Q15 A c) [] R15 rfl rfl (by decide) (by decide)
  rw [decide_eq_false (show ¬ eqP (P7 A' c') (Q15 A c) [] R15 from fun e => absurd (show (0 : Int) = 1 from e.1) (by decide))] at this
  exact this
theorem alive15_s (h : Zh) [hT : RdZ h (some ⟨0, 0, none⟩) hashT] : Spec Tryd.prog 29 ([] : List Value).toArray [] [.zone true h] (fun _ : {x : Zh // LeZ h x} => .bool true) (fun x => [.zone true x.1]) := by
  have h0 : TrZ 256 h (ts15 0) none := ⟨rfl⟩
  refine spec_of Tryd.func29 rfl (n := 96) rfl rfl ?_
  intro W
  refine h_seq ?_
  refine h_reg ?_
  refine h_op (r_assign rfl) ?_
  refine h_nil ?_
  refine q_then ?_
  refine h_seq ?_
  refine h_reg ?_
  refine h_call ((Hash_s 256 (by decide)).comes) rfl rfl rfl fun ⟨gh, gc⟩ => ?_
  dsimp only
  refine h_op (r_assign rfl) ?_
  refine h_nil ?_
  refine q_then ?_
  refine h_seq ?_
  refine h_seq ?_
  refine h_reg ?_
  refine h_op (r_move rfl) ?_
  refine h_op (r_nilR rfl rfl) ?_
  refine h_nil ?_
  refine q_then ?_
  refine h_condF rfl ?_
  refine h_skip ?_
  refine q_then ?_
  refine h_seq ?_
  refine h_reg ?_
  refine h_op (r_move rfl) ?_
  refine h_op (r_build (out := (kB 7).cells) rfl (hf := ⟨fill_kB 7⟩)) ?_
  refine h_call ((Prove_s 256 (by decide) gh gc 0 (by decide) h .nil none (kB 7) 0 ⟨by omega, (by intro h; cases h), fun i hi => by omega⟩).comes) rfl rfl rfl fun ⟨A11, c11⟩ => ?_
  dsimp only
  rw [prf7, ds7, rs7]
  refine h_opX (x_alloc) fun g2 => ?_
  refine h_opS (s_storer rfl rfl) ?_
  refine h_nil ?_
  refine q_then ?_
  refine h_seq ?_
  refine h_reg ?_
  refine h_op (r_move rfl) ?_
  refine h_op (r_move rfl) ?_
  refine h_op (r_build rfl) ?_
  refine h_op (r_build (out := (kB 255).cells) rfl (hf := ⟨fill_kB 255⟩)) ?_
  refine h_op (r_build rfl) ?_
  refine h_opX (x_bsl rfl rfl) fun g17 => ?_
  change H _ _ _ _ _ (.own _ _ _ _ (ents L15) :: _) _
  refine h_call ((PAll_s 256 (by decide) gh gc 0 h L15 (by decide) (vals15 h) ts15 puts15 none (some ⟨g17, 0, none⟩) 2).comes) rfl rfl rfl fun ⟨⟨h1, q1, k1⟩, hle1, ht1', hk1⟩ => ?_
  dsimp only at hle1 ht1' hk1 ⊢
  have ht1 : TrZ 256 h1 T15 q1 := ht1'
  have hT1 : RdZ h1 (some ⟨0, 0, none⟩) hashT := hT.mono hle1
  have hk1' : k1 ≤ 0 + 1600 * 2 := hk1
  refine h_op (r_build (out := (kB 128).cells) rfl (hf := ⟨fill_kB 128⟩)) ?_
  refine h_call ((Prove_s 256 (by decide) gh gc k1 (by omega) h1 T15 q1 (kB 128) 1 way15).comes) rfl rfl rfl fun ⟨A20, c20⟩ => ?_
  dsimp only
  rw [prf15', ds15, rs15]
  change H _ _ _ _ _ (.own (.slice A20 1 c20) 1 _ _ (dgs R15) :: _) _
  refine h_pure (φ := A20 = none → R15.length = 0 ∧ c20 = 0) (fun w s => (s.ownLe (B := A20) (N := 1) (c := c20)).2.2) fun hA20 => ?_
  refine h_opX (x_alloc) fun g3 => ?_
  refine h_opS (s_storer rfl rfl) ?_
  refine h_nil ?_
  refine q_then ?_
  refine h_seq ?_
  refine h_reg ?_
  refine h_op (r_move rfl) ?_
  refine h_op (r_loadr rfl) ?_
  refine h_call ((Expand_s (Q15 A20 c20) (ok15 A20 c20) R15 rfl 256 (by decide) gh gc k1 (by omega) 1 rfl).comes) rfl rfl rfl fun g24 => ?_
  refine h_op (r_move rfl) ?_
  refine h_op (r_extract rfl rfl) ?_
  refine h_op (r_extract rfl rfl) ?_
  refine h_op (r_assign rfl) ?_
  refine h_op (r_assign rfl) ?_
  refine h_nil ?_
  refine q_then ?_
  refine h_seq ?_
  refine ha_start [.blk g2 (P7 A11 c11).cells 65, .blk g3 (Q15 A20 c20).cells 65] [] mixed (same) ?_
  refine ha_takeP 0 rfl (r_field rfl) ?_
  refine ha_take 1 rfl (r_loadc rfl) ?_
  refine ha_takeP 2 rfl (r_bool (r_eql rfl rfl) (show _ = true from rfl)) ?_
  refine ha_takeP 3 rfl (r_move rfl) ?_
  refine ha_takeP 4 rfl (r_field rfl) ?_
  refine ha_take 5 rfl (r_loadc rfl) ?_
  refine ha_takeP 6 rfl (r_bool (r_eql rfl rfl) (show _ = true from rfl)) ?_
  refine ha_takeP 7 rfl (r_pick rfl rfl) ?_
  refine ha_takeP 8 rfl (r_move rfl) ?_
  refine ha_takeP 9 rfl (r_field rfl) ?_
  refine ha_take 10 rfl (r_loadc rfl) ?_
  refine ha_takeP 11 rfl (r_len rfl) ?_
  refine ha_takeP 12 rfl (r_bool (r_eql rfl rfl) (show _ = true from rfl)) ?_
  refine ha_takeP 13 rfl (r_pick rfl rfl) ?_
  refine ha_takeP 14 rfl (r_move rfl) ?_
  refine ha_takeP 15 rfl (r_field rfl) ?_
  refine ha_take 16 rfl (r_loadc rfl) ?_
  refine ha_takeP 17 rfl (r_bool (r_eql rfl rfl) (show _ = true from rfl)) ?_
  refine ha_takeP 18 rfl (r_pick rfl rfl) ?_
  refine ha_takeP 19 rfl (r_move rfl) ?_
  refine ha_takeP 20 rfl (r_field rfl) ?_
  refine ha_take 21 rfl (r_loadc rfl) ?_
  refine ha_takeP 22 rfl (r_bool (r_eql rfl rfl) (show _ = true from rfl)) ?_
  refine ha_takeP 23 rfl (r_pick rfl rfl) ?_
  refine ha_takeP 24 rfl (r_move rfl) ?_
  refine ha_takeP 25 rfl (r_field rfl) ?_
  refine ha_take 26 rfl (r_loadc rfl) ?_
  refine ha_takeP 27 rfl (r_len rfl) ?_
  refine ha_takeP 28 rfl (r_bool (r_eql rfl rfl) (show _ = true from rfl)) ?_
  refine ha_takeP 29 rfl (r_pick rfl rfl) ?_
  refine ha_takeP 30 rfl (r_move rfl) ?_
  refine ha_take 31 rfl (r_loadr rfl) ?_
  refine ha_takeP 32 rfl (r_build (out := (kB 128).cells) rfl (hf := ⟨fill_kB 128⟩)) ?_
  refine ha_takeP 33 rfl (r_build rfl) ?_
  refine ha_one 34 ?_
  refine ho_C 34 rfl ((sup15A A20 c20).comes) rfl rfl rfl (fun _ => same) fun _ => ?_
  refine ha_takeP 35 rfl (r_pick rfl rfl) ?_
  refine ha_takeP 36 rfl (r_move rfl) ?_
  refine ha_take 37 rfl (r_loadr rfl) ?_
  refine ha_takeP 38 rfl (r_build (out := (kB 255).cells) rfl (hf := ⟨fill_kB 255⟩)) ?_
  refine ha_takeP 39 rfl (r_build rfl) ?_
  refine ha_one 40 ?_
  refine ho_C 40 rfl ((sup15B A20 c20).comes) rfl rfl rfl (fun _ => same) fun _ => ?_
  refine ha_takeP 41 rfl (r_bool (r_not rfl) rfl) ?_
  refine ha_takeP 42 rfl (r_pick rfl rfl) ?_
  refine ha_takeP 43 rfl (r_move rfl) ?_
  refine ha_take 44 rfl (r_loadr rfl) ?_
  refine ha_one 45 ?_
  refine ho_C 45 rfl ((chk15 A20 c20).comes) rfl rfl rfl (fun _ => same) fun _ => ?_
  refine ha_takeP 46 rfl (r_bool (r_eql rfl rfl) rfl) ?_
  refine ha_takeP 47 rfl (r_pick rfl rfl) ?_
  refine ha_takeP 48 rfl (r_move rfl) ?_
  refine ha_takeP 49 rfl (r_move rfl) ?_
  refine ha_takeP 50 rfl (r_len rfl) ?_
  refine ha_takeP 51 rfl (r_bool (r_eql rfl rfl) (show _ = true from rfl)) ?_
  refine ha_takeP 52 rfl (r_pick rfl rfl) ?_
  refine ha_takeP 53 rfl (r_move rfl) ?_
  refine ha_takeP 54 rfl (r_move rfl) ?_
  refine ha_takeP 55 rfl (r_bool (r_eql rfl rfl) (show _ = true from rfl)) ?_
  refine ha_takeP 56 rfl (r_pick rfl rfl) ?_
  refine ha_takeP 57 rfl (r_move rfl) ?_
  refine ha_take 58 rfl (r_loadr rfl) ?_
  refine ha_take 60 rfl (r_loadr rfl) ?_
  refine ha_one 59 ?_
  refine ho_C 59 rfl ((PClone_s (Q15 A20 c20) R15 rfl hA20 (by decide)).comes) rfl rfl rfl (fun _ => same) fun ⟨A86, c86⟩ => ?_
  refine ha_one 61 ?_
  refine ho_C 61 rfl ((eq15a A20 A86 c20 c86).comes) rfl rfl rfl (fun _ => same) fun _ => ?_
  refine ha_takeP 62 rfl (r_pick rfl rfl) ?_
  refine ha_takeP 63 rfl (r_move rfl) ?_
  refine ha_take 64 rfl (r_loadr rfl) ?_
  refine ha_take 65 rfl (r_loadr rfl) ?_
  refine ha_one 66 ?_
  refine ho_C 66 rfl ((eq15b A20 A11 c20 c11).comes) rfl rfl rfl (fun _ => same) fun _ => ?_
  refine ha_takeP 67 rfl (r_bool (r_not rfl) (show _ = true from rfl)) ?_
  refine ha_takeP 68 rfl (r_pick rfl rfl) ?_
  refine ha_takeP 69 rfl (r_assign rfl) ?_
  refine ha_done (by kernel_rfl) ?_
  refine q_then ?_
  refine h_ret ?_
  exact h_ret1 rfl rfl fun w s => ⟨⟨h1, hle1⟩, rfl, (same (L' := [.zone true h1]) w s).res (List.Sublist.refl _) (by simp [Fa.wr])⟩
end Go.Proofs.YtdfeimdhlagebaaDoor
/- N12 -/
namespace Go.Proofs.YtdfeimdhlagebaaDoor
set_option linter.unusedSimpArgs false
set_option linter.unusedVariables false
open Go.RowKit
class TBool (P : Program) (T : TypeId) : Prop where
  und : P.underlying T = some .bool
section
variable {P : Program} {n : Nat} {D : List Deferred} {E : Env} {L : List Fa} {T T' : TypeId} {x y : Operand}
theorem run_equalIn_bool (w : World) (d : Nat) (a b : Bool) (h : P.underlying T = some .bool) : (Op.equalIn (d + 1) T (.bool a) (.bool b)).run P w = .ok (a == b) w := by
  simp [Op.equalIn, run_underlying h]
theorem run_eq_bool (w : World) (a b : Bool) (h : P.underlying T = some .bool) : (binOp .eql T (.bool a) (.bool b)).run P w = .ok (.bool (a == b)) w := by
  simp only [binOp]
  simp [Op.equal, Op.maxDepth, run_equalIn_bool w 9999 a b h]
theorem run_ne_bool (w : World) (a b : Bool) (h : P.underlying T = some .bool) : (binOp .neq T (.bool a) (.bool b)).run P w = .ok (.bool (!(a == b))) w := by
  simp only [binOp]
  simp [Op.equal, Op.maxDepth, run_equalIn_bool w 9999 a b h]
theorem r_eqb [hT : TBool P T] {a b : Bool} (hx : ev E x = some (.bool a)) (hy : ev E y = some (.bool b)) : Runs0 P n D E L (.binOp .eql T x y T') (.bool (a == b)) := fun c w ka s o ho => run_bin ho (ka.ev hx) (ka.ev hy) rfl (run_eq_bool w a b hT.und)
theorem r_neb [hT : TBool P T] {a b : Bool} (hx : ev E x = some (.bool a)) (hy : ev E y = some (.bool b)) : Runs0 P n D E L (.binOp .neq T x y T') (.bool (!(a == b))) := fun c w ka s o ho => run_bin ho (ka.ev hx) (ka.ev hy) rfl (run_ne_bool w a b hT.und)
end
/-- a zone that began as all that there was: nothing below has turned -/
theorem zone_below {W w : World} {h1 : Zh} {N : List Fa} (hr : Rx [.zone true (World.zh W)] W w (.zone true h1 :: N)) (hl : LeZ (World.zh W) h1) : Below W.heap.size W w := by
  refine ⟨hr.os, hr.tape, hr.output, hr.size, fun k hk => ?_⟩
  obtain ⟨o, ho⟩ : ∃ o, W.heap[k]? = some o := ⟨_, Array.getElem?_eq_getElem hk⟩
  rw [ho]
  exact hr.ok (.zone true h1) (List.mem_cons_self ..) k o (hl.le k o ho)
theorem Fx.all (W : World) : Fx W [.zone true (World.zh W)] := ⟨fun f hf => by rw [List.mem_singleton.1 hf]; exact fun k o ho => ho, List.pairwise_singleton _ _⟩
end Go.Proofs.YtdfeimdhlagebaaDoor
