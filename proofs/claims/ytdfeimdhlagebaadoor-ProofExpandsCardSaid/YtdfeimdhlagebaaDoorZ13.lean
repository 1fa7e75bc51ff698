/- law15: ProofChecks, ProofSupports, ProofExpands are true (joined texts: U48) -/
import Derived.Test.YtdfeimdhlagebaaDoorZ12
set_option linter.all false
/- U48 -/
namespace Go.Proofs.YtdfeimdhlagebaaDoor
set_option linter.unusedSimpArgs false
set_option linter.unusedVariables false
open Go.RowKit
instance : TBool Tryd.prog 4 := ⟨Tryd.underlying4⟩
theorem supP_not (p : Proof) (key val : B32) (h : supP p key val true = true) : supP p key val false = false := by
  unfold supP at h ⊢
  rw [if_pos rfl, decide_eq_true_eq] at h
  rw [if_neg (by simp), if_pos h.1]
  refine decide_eq_false fun e => e.1 ?_
  rw [h.2]
section
variable (h : Zh) [hT : RdZ h (some ⟨0, 0, none⟩) hashT]
theorem ProofChecks_s (p : Proof) : Spec Tryd.prog 7 [.agg p.cells.toArray].toArray [] [.zone true h] (fun _ : {x : Zh // LeZ h x} => .bool true) (fun x => [.zone true x.1]) := by
  refine spec_of Tryd.func7 rfl (n := 16) rfl rfl ?_
  intro W
  by_cases h3 : 300 < p.sibs.n
  · refine h_seq ?_
    refine h_reg ?_
    refine h_opX (x_box rfl) fun g1 => ?_
    refine h_op (r_assign rfl) ?_
    refine h_nil ?_
    refine q_then ?_
    refine h_seq ?_
    refine h_seq ?_
    refine h_reg ?_
    refine h_op (r_field rfl) ?_
    refine h_op (r_loadc rfl) ?_
    refine h_op (r_len rfl) ?_
    refine h_op (r_gtr rfl rfl) ?_
    refine h_nil ?_
    refine q_then ?_
    refine h_yes rfl ((by omega)) ?_
    refine h_seq ?_
    refine h_reg ?_
    refine h_call ((alive15_s h).comes) rfl rfl rfl fun ⟨h1, hle1⟩ => ?_
    dsimp only
    refine h_op (r_assign rfl) ?_
    refine h_nil ?_
    refine q_then ?_
    refine h_ret ?_
    refine q_thenR ?_
    exact h_ret1 rfl rfl fun w s => ⟨⟨h1, hle1⟩, rfl, (same (L' := [.zone true h1]) w s).res (List.Sublist.refl _) (by simp [Fa.wr])⟩
  · refine h_seq ?_
    refine h_reg ?_
    refine h_opX (x_box rfl) fun g1 => ?_
    refine h_op (r_assign rfl) ?_
    refine h_nil ?_
    refine q_then ?_
    refine h_seq ?_
    refine h_seq ?_
    refine h_reg ?_
    refine h_op (r_field rfl) ?_
    refine h_op (r_loadc rfl) ?_
    refine h_op (r_len rfl) ?_
    refine h_op (r_gtr rfl rfl) ?_
    refine h_nil ?_
    refine q_then ?_
    refine h_no rfl ((by omega)) ?_
    refine h_skip ?_
    refine q_then ?_
    refine h_seq ?_
    refine ha_start [.blk g1 p.cells 65] [] mixed (same) ?_
    refine ha_one 0 ?_
    refine ho_C 0 rfl ((alive15_s h).comes) rfl rfl rfl (fun _ => same) fun ⟨h1, hle1⟩ => ?_
    refine ha_takeP 1 rfl (r_move rfl) ?_
    refine ha_take 2 rfl (r_loadr rfl) ?_
    refine ha_take 4 rfl (r_loadr rfl) ?_
    refine ha_one 3 ?_
    refine ho_C 3 rfl ((Check_s p).comes) rfl rfl rfl (fun _ => same) fun _ => ?_
    refine ha_one 5 ?_
    refine ho_C 5 rfl ((rCheck_s p).comes) rfl rfl rfl (fun _ => same) fun _ => ?_
    refine ha_takeP 6 rfl (r_bool (r_eql rfl rfl) (show _ = true by simp)) ?_
    refine ha_takeP 7 rfl (r_pick rfl rfl) ?_
    refine ha_takeP 8 rfl (r_assign rfl) ?_
    refine ha_done (by kernel_rfl) ?_
    refine q_then ?_
    refine h_ret ?_
    exact h_ret1 rfl rfl fun w s => ⟨⟨h1, hle1⟩, rfl, (same (L' := [.zone true h1]) w s).res (List.Sublist.refl _) (by simp [Fa.wr])⟩
theorem ProofSupports_s (p : Proof) (key val : B32) : Spec Tryd.prog 8 [.agg p.cells.toArray, .agg key.cells.toArray, .agg val.cells.toArray].toArray [] [.zone true h] (fun _ : {x : Zh // LeZ h x} => .bool true) (fun x => [.zone true x.1]) := by
  have hs1 := Supports_s p key val true
  have hs2 := Supports_s p key val false
  have hr1 := rSupports_s p key val true
  have hr2 := rSupports_s p key val false
  have hnot := supP_not p key val
  generalize supP p key val true = b1 at *
  generalize supP p key val false = b2 at *
  refine spec_of Tryd.func8 rfl (n := 46) rfl rfl ?_
  intro W
  by_cases h3 : 300 < p.sibs.n
  · refine h_seq ?_
    refine h_reg ?_
    refine h_opX (x_box rfl) fun g3 => ?_
    refine h_opX (x_box rfl) fun g4 => ?_
    refine h_opX (x_box rfl) fun g5 => ?_
    refine h_op (r_assign rfl) ?_
    refine h_nil ?_
    refine q_then ?_
    refine h_seq ?_
    refine h_seq ?_
    refine h_reg ?_
    refine h_op (r_field rfl) ?_
    refine h_op (r_loadc rfl) ?_
    refine h_op (r_len rfl) ?_
    refine h_op (r_gtr rfl rfl) ?_
    refine h_nil ?_
    refine q_then ?_
    refine h_yes rfl ((by omega)) ?_
    refine h_seq ?_
    refine h_reg ?_
    refine h_call ((alive15_s h).comes) rfl rfl rfl fun ⟨h1, hle1⟩ => ?_
    dsimp only
    refine h_op (r_assign rfl) ?_
    refine h_nil ?_
    refine q_then ?_
    refine h_ret ?_
    refine q_thenR ?_
    exact h_ret1 rfl rfl fun w s => ⟨⟨h1, hle1⟩, rfl, (same (L' := [.zone true h1]) w s).res (List.Sublist.refl _) (by simp [Fa.wr])⟩
  · refine h_seq ?_
    refine h_reg ?_
    refine h_opX (x_box rfl) fun g3 => ?_
    refine h_opX (x_box rfl) fun g4 => ?_
    refine h_opX (x_box rfl) fun g5 => ?_
    refine h_op (r_assign rfl) ?_
    refine h_nil ?_
    refine q_then ?_
    refine h_seq ?_
    refine h_seq ?_
    refine h_reg ?_
    refine h_op (r_field rfl) ?_
    refine h_op (r_loadc rfl) ?_
    refine h_op (r_len rfl) ?_
    refine h_op (r_gtr rfl rfl) ?_
    refine h_nil ?_
    refine q_then ?_
    refine h_no rfl ((by omega)) ?_
    refine h_skip ?_
    refine q_then ?_
    refine h_seq ?_
    refine ha_start [.blk g3 p.cells 65, .blk g4 key.cells 40, .blk g5 val.cells 41] [] mixed (same) ?_
    refine ha_take 0 rfl (r_loadr rfl) ?_
    refine ha_take 1 rfl (r_loadr rfl) ?_
    refine ha_take 2 rfl (r_loadr rfl) ?_
    refine ha_take 4 rfl (r_loadr rfl) ?_
    refine ha_take 5 rfl (r_loadr rfl) ?_
    refine ha_take 6 rfl (r_loadr rfl) ?_
    refine ha_one 3 ?_
    refine ho_C 3 rfl (hs1.comes) rfl rfl rfl (fun _ => same) fun _ => ?_
    refine ha_one 7 ?_
    refine ho_C 7 rfl (hs2.comes) rfl rfl rfl (fun _ => same) fun _ => ?_
    refine ha_takeP 8 rfl (r_assign rfl) ?_
    refine ha_takeP 9 rfl (r_assign rfl) ?_
    refine ha_done (by kernel_rfl) ?_
    refine q_then ?_
    refine h_seq ?_
    refine h_reg ?_
    refine h_call ((alive15_s h).comes) rfl rfl rfl fun ⟨h1, hle1⟩ => ?_
    dsimp only
    refine h_op (r_move rfl) ?_
    refine h_op (r_move rfl) ?_
    refine h_op (r_loadr rfl) ?_
    refine h_op (r_loadr rfl) ?_
    refine h_op (r_loadr rfl) ?_
    refine h_call (hr1.comes) rfl rfl rfl fun _ => ?_
    refine h_op (r_bool (r_eqb rfl rfl) (show _ = true by simp)) ?_
    refine h_op (r_pick rfl rfl) ?_
    refine h_op (r_move rfl) ?_
    refine h_op (r_move rfl) ?_
    refine h_op (r_loadr rfl) ?_
    refine h_op (r_loadr rfl) ?_
    refine h_op (r_loadr rfl) ?_
    refine h_call (hr2.comes) rfl rfl rfl fun _ => ?_
    rcases b1 with _ | _
    · refine h_op (r_bool (r_eqb rfl rfl) (show _ = true by simp)) ?_
      refine h_op (r_pick rfl rfl) ?_
      refine h_op (r_move rfl) ?_
      refine h_op (r_move rfl) ?_
      refine h_op (r_move rfl) ?_
      refine h_opOff ?_
      refine h_op (r_pick rfl rfl) ?_
      refine h_op (r_not rfl) ?_
      refine h_op (r_pick rfl rfl) ?_
      refine h_op (r_assign rfl) ?_
      refine h_nil ?_
      refine q_then ?_
      refine h_ret ?_
      exact h_ret1 rfl rfl fun w s => ⟨⟨h1, hle1⟩, rfl, (same (L' := [.zone true h1]) w s).res (List.Sublist.refl _) (by simp [Fa.wr])⟩
    · obtain rfl : b2 = false := hnot rfl
      refine h_op (r_bool (r_eqb rfl rfl) (show _ = true by simp)) ?_
      refine h_op (r_pick rfl rfl) ?_
      refine h_op (r_move rfl) ?_
      refine h_op (r_move rfl) ?_
      refine h_op (r_move rfl) ?_
      refine h_op (r_move rfl) ?_
      refine h_op (r_pick rfl rfl) ?_
      refine h_op (r_not rfl) ?_
      refine h_op (r_pick rfl rfl) ?_
      refine h_op (r_assign rfl) ?_
      refine h_nil ?_
      refine q_then ?_
      refine h_ret ?_
      exact h_ret1 rfl rfl fun w s => ⟨⟨h1, hle1⟩, rfl, (same (L' := [.zone true h1]) w s).res (List.Sublist.refl _) (by simp [Fa.wr])⟩
theorem ProofExpands_s (i : Int) (p : Proof) (ss : List B32) (hs : p.sibs.n = ss.length) [hS : RdZ h p.sibs.A (dgs ss)] : Spec Tryd.prog 10 [.int .i64 i, .agg p.cells.toArray].toArray [] [.zone true h] (fun _ : {x : Zh // LeZ h x} => .bool true) (fun x => [.zone true x.1]) := by
  refine spec_of Tryd.func10 rfl (n := 56) rfl rfl ?_
  intro W
  by_cases h3 : 300 < p.sibs.n
  · refine h_seq ?_
    refine h_reg ?_
    refine h_opX (x_box rfl) fun g3 => ?_
    refine h_op (r_assign rfl) ?_
    refine h_nil ?_
    refine q_then ?_
    refine h_seq ?_
    refine h_seq ?_
    refine h_reg ?_
    refine h_op (r_field rfl) ?_
    refine h_op (r_loadc rfl) ?_
    refine h_op (r_len rfl) ?_
    refine h_op (r_bool (r_gtr rfl rfl) (decide_eq_true (by omega))) ?_
    refine h_op (r_move rfl) ?_
    refine h_opOff ?_
    refine h_opOff ?_
    refine h_opOff ?_
    refine h_op (r_pick rfl rfl) ?_
    refine h_nil ?_
    refine q_then ?_
    refine h_condT rfl ?_
    refine h_seq ?_
    refine h_reg ?_
    refine h_call ((alive15_s h).comes) rfl rfl rfl fun ⟨h1, hle1⟩ => ?_
    dsimp only
    refine h_op (r_assign rfl) ?_
    refine h_nil ?_
    refine q_then ?_
    refine h_ret ?_
    refine q_thenR ?_
    exact h_ret1 rfl rfl fun w s => ⟨⟨h1, hle1⟩, rfl, (same (L' := [.zone true h1]) w s).res (List.Sublist.refl _) (by simp [Fa.wr])⟩
  · by_cases hi : 0 ≤ i ∧ i ≤ 256
    · obtain ⟨n, rfl⟩ : ∃ n : Nat, i = (n : Int) := ⟨i.toNat, by omega⟩
      have hn : n ≤ 256 := by omega
      by_cases hc : checkP p = 0
      · have hd2 := ok_depth hc
        obtain ⟨d, hd⟩ : ∃ d : Nat, p.depth = (d : Int) := ⟨p.depth.toNat, by omega⟩
        have hE := fun gh gc => Expand_s p hc ss hs n hn gh gc 0 (by decide) d hd
        have hE2 := rExpand_s p hc ss hs n hn d hd
        have hel := expL_len (sumB n preE) p.bitmap ss d
        have hEq := fun (B B' : Option Addr) (c c' : Nat) => EqualD_s (expL (sumB n preE) p.bitmap ss d) (expL (sumB n preE) p.bitmap ss d) B B' c c' (by omega) (by omega)
        rw [hel] at hEq
        generalize expL (sumB n preE) p.bitmap ss d = es at *
        have hEq' : ∀ (B B' : Option Addr) (c c' : Nat), Spec Tryd.prog 38 [.slice B d c, .slice B' d c'].toArray [.rd B (dgs es), .rd B' (dgs es)] [] (fun _ : Unit => .bool true) (fun _ => []) := fun B B' c c' => by
          have := hEq B B' c c'
          rw [decide_eq_true rfl] at this
          exact this
        refine h_seq ?_
        refine h_reg ?_
        refine h_opX (x_box rfl) fun g3 => ?_
        refine h_op (r_assign rfl) ?_
        refine h_nil ?_
        refine q_then ?_
        refine h_seq ?_
        refine h_seq ?_
        refine h_reg ?_
        refine h_op (r_field rfl) ?_
        refine h_op (r_loadc rfl) ?_
        refine h_op (r_len rfl) ?_
        refine h_op (r_bool (r_gtr rfl rfl) (decide_eq_false (by omega))) ?_
        refine h_op (r_move rfl) ?_
        refine h_op (r_move rfl) ?_
        refine h_call ((Right_yes n hn).comes) rfl rfl rfl fun _ => ?_
        refine h_op (r_not rfl) ?_
        refine h_op (r_pick rfl rfl) ?_
        refine h_nil ?_
        refine q_then ?_
        refine h_condF rfl ?_
        refine h_skip ?_
        refine q_then ?_
        refine h_seq ?_
        refine h_reg ?_
        refine h_op (r_move rfl) ?_
        refine h_call ((Hash_s n hn).comes) rfl rfl rfl fun ⟨gh, gc⟩ => ?_
        dsimp only
        refine h_op (r_assign rfl) ?_
        refine h_nil ?_
        refine q_then ?_
        refine h_seq ?_
        refine h_seq ?_
        refine h_reg ?_
        refine h_op (r_move rfl) ?_
        refine h_op (r_nilR rfl rfl) ?_
        refine h_nil ?_
        refine q_then ?_
        refine h_condF rfl ?_
        refine h_skip ?_
        refine q_then ?_
        refine h_seq ?_
        refine h_reg ?_
        refine h_op (r_move rfl) ?_
        refine h_op (r_loadr rfl) ?_
        refine h_call ((hE gh gc).comes) rfl rfl rfl fun g26 => ?_
        refine h_op (r_move rfl) ?_
        refine h_op (r_extract rfl rfl) ?_
        refine h_op (r_extract rfl rfl) ?_
        refine h_op (r_assign rfl) ?_
        refine h_op (r_assign rfl) ?_
        refine h_nil ?_
        refine q_then ?_
        refine h_seq ?_
        refine h_seq ?_
        refine h_reg ?_
        refine h_op (r_loadr rfl) ?_
        refine h_call ((rCheck_s p).comes) rfl rfl rfl fun _ => ?_
        rw [hc]
        refine h_op (r_assign rfl) ?_
        refine h_nil ?_
        refine q_then ?_
        refine h_seq ?_
        refine h_reg ?_
        refine h_op (r_move rfl) ?_
        refine h_op (r_neq rfl rfl) ?_
        refine h_nil ?_
        refine q_then ?_
        refine h_no rfl ((fun h => h rfl)) ?_
        refine h_skip ?_
        refine q_then ?_
        refine h_seq ?_
        refine h_reg ?_
        refine h_call ((alive15_s h).comes) rfl rfl rfl fun ⟨h1, hle1⟩ => ?_
        dsimp only
        refine h_op (r_move rfl) ?_
        refine h_op (r_move rfl) ?_
        refine h_op (r_bool (r_eql rfl rfl) (show _ = true from rfl)) ?_
        refine h_op (r_pick rfl rfl) ?_
        refine h_op (r_move rfl) ?_
        refine h_op (r_move rfl) ?_
        refine h_op (r_move rfl) ?_
        refine h_op (r_loadr rfl) ?_
        refine h_call (hE2.comes) rfl rfl rfl fun ⟨A53, c53⟩ => ?_
        refine h_call ((hEq' (some ⟨g26, 0, none⟩) A53 d c53).comes) rfl rfl rfl fun _ => ?_
        refine h_op (r_pick rfl rfl) ?_
        refine h_op (r_assign rfl) ?_
        refine h_nil ?_
        refine q_then ?_
        refine h_ret ?_
        exact h_ret1 rfl rfl fun w s => ⟨⟨h1, hle1⟩, rfl, (same (L' := [.zone true h1]) w s).res (List.Sublist.refl _) (by simp [Fa.wr])⟩
      · refine h_seq ?_
        refine h_reg ?_
        refine h_opX (x_box rfl) fun g3 => ?_
        refine h_op (r_assign rfl) ?_
        refine h_nil ?_
        refine q_then ?_
        refine h_seq ?_
        refine h_seq ?_
        refine h_reg ?_
        refine h_op (r_field rfl) ?_
        refine h_op (r_loadc rfl) ?_
        refine h_op (r_len rfl) ?_
        refine h_op (r_bool (r_gtr rfl rfl) (decide_eq_false (by omega))) ?_
        refine h_op (r_move rfl) ?_
        refine h_op (r_move rfl) ?_
        refine h_call ((Right_yes n hn).comes) rfl rfl rfl fun _ => ?_
        refine h_op (r_not rfl) ?_
        refine h_op (r_pick rfl rfl) ?_
        refine h_nil ?_
        refine q_then ?_
        refine h_condF rfl ?_
        refine h_skip ?_
        refine q_then ?_
        refine h_seq ?_
        refine h_reg ?_
        refine h_op (r_move rfl) ?_
        refine h_call ((Hash_s n hn).comes) rfl rfl rfl fun ⟨gh, gc⟩ => ?_
        dsimp only
        refine h_op (r_assign rfl) ?_
        refine h_nil ?_
        refine q_then ?_
        refine h_seq ?_
        refine h_seq ?_
        refine h_reg ?_
        refine h_op (r_move rfl) ?_
        refine h_op (r_nilR rfl rfl) ?_
        refine h_nil ?_
        refine q_then ?_
        refine h_condF rfl ?_
        refine h_skip ?_
        refine q_then ?_
        refine h_seq ?_
        refine h_reg ?_
        refine h_op (r_move rfl) ?_
        refine h_op (r_loadr rfl) ?_
        refine h_call ((Expand_bad p hc gh).comes) rfl rfl rfl fun _ => ?_
        refine h_op (r_move rfl) ?_
        refine h_op (r_extract rfl rfl) ?_
        refine h_op (r_extract rfl rfl) ?_
        refine h_op (r_assign rfl) ?_
        refine h_op (r_assign rfl) ?_
        refine h_nil ?_
        refine q_then ?_
        refine h_seq ?_
        refine h_seq ?_
        refine h_reg ?_
        refine h_op (r_loadr rfl) ?_
        refine h_call ((rCheck_s p).comes) rfl rfl rfl fun _ => ?_
        refine h_op (r_assign rfl) ?_
        refine h_nil ?_
        refine q_then ?_
        refine h_seq ?_
        refine h_reg ?_
        refine h_op (r_move rfl) ?_
        refine h_op (r_neq rfl rfl) ?_
        refine h_nil ?_
        refine q_then ?_
        refine h_yes rfl (hc) ?_
        refine h_seq ?_
        refine h_reg ?_
        refine h_call ((alive15_s h).comes) rfl rfl rfl fun ⟨h1, hle1⟩ => ?_
        dsimp only
        refine h_op (r_move rfl) ?_
        refine h_op (r_move rfl) ?_
        refine h_op (r_len rfl) ?_
        refine h_op (r_bool (r_eql rfl rfl) (show _ = true from rfl)) ?_
        refine h_op (r_pick rfl rfl) ?_
        refine h_op (r_move rfl) ?_
        refine h_op (r_move rfl) ?_
        refine h_op (r_move rfl) ?_
        refine h_op (r_bool (r_eql rfl rfl) (show _ = true by simp)) ?_
        refine h_op (r_pick rfl rfl) ?_
        refine h_op (r_assign rfl) ?_
        refine h_nil ?_
        refine q_then ?_
        refine h_ret ?_
        refine q_thenR ?_
        exact h_ret1 rfl rfl fun w s => ⟨⟨h1, hle1⟩, rfl, (same (L' := [.zone true h1]) w s).res (List.Sublist.refl _) (by simp [Fa.wr])⟩
    · refine h_seq ?_
      refine h_reg ?_
      refine h_opX (x_box rfl) fun g3 => ?_
      refine h_op (r_assign rfl) ?_
      refine h_nil ?_
      refine q_then ?_
      refine h_seq ?_
      refine h_seq ?_
      refine h_reg ?_
      refine h_op (r_field rfl) ?_
      refine h_op (r_loadc rfl) ?_
      refine h_op (r_len rfl) ?_
      refine h_op (r_bool (r_gtr rfl rfl) (decide_eq_false (by omega))) ?_
      refine h_op (r_move rfl) ?_
      refine h_op (r_move rfl) ?_
      refine h_call ((Right_no i hi).comes) rfl rfl rfl fun _ => ?_
      refine h_op (r_not rfl) ?_
      refine h_op (r_pick rfl rfl) ?_
      refine h_nil ?_
      refine q_then ?_
      refine h_condT rfl ?_
      refine h_seq ?_
      refine h_reg ?_
      refine h_call ((alive15_s h).comes) rfl rfl rfl fun ⟨h1, hle1⟩ => ?_
      dsimp only
      refine h_op (r_assign rfl) ?_
      refine h_nil ?_
      refine q_then ?_
      refine h_ret ?_
      refine q_thenR ?_
      exact h_ret1 rfl rfl fun w s => ⟨⟨h1, hle1⟩, rfl, (same (L' := [.zone true h1]) w s).res (List.Sublist.refl _) (by simp [Fa.wr])⟩
end
end Go.Proofs.YtdfeimdhlagebaaDoor
