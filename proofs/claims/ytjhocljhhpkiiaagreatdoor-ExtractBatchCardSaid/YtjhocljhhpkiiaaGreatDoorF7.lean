/- The rules of a proof's form, and its check; Rows of digests; Repeat; Arguments of this translation, opened; what the law's condition says of the table of rounds; What a proof's siblings are, expanded. Plain Lean; Maps of keys, and their trees: plain Lean; The digest of a tree, and the proof of a map: plain Lean; Trees in memory: what a zone holds of them; Repeat; node: what is read of a subtree (joined texts: U14 U15 TC E10 E11 E12 UT U16 U33) -/
import Derived.Test.YtjhocljhhpkiiaaGreatDoorF6
import Derived.LaidMore
import Derived.Stop.Joined
set_option linter.all false
/- U14 -/
namespace Go.Proofs.YtjhocljhhpkiiaaGreatDoor
open Go.RowKit
def okJ (p : Proof) : Nat → Bool
 | 0 => decide (p.kind = 0) || decide (p.kind = 1)
 | 1 => decide (0 ≤ p.depth) && decide (p.depth ≤ 256)
 | 2 => decide (p.kind = 1) || decide (p.leaf = zLeaf)
 | 3 => decide (lastI p.bitmap 256 = p.depth - 1)
 | 4 => decide (((depths p.bitmap).length : Int) = (p.sibs.n : Int))
 | _ => true
def checkP (p : Proof) : Int := if okJ p 0 = false then 7 else if okJ p 1 = false then 5 else if okJ p 2 = false then 5 else if okJ p 3 = false then 5 else if okJ p 4 = false then 5 else 0
theorem checkP_bad {p : Proof} {k : Nat} (hk : k < 5) (h : ∀ j, j < k → okJ p j = true) (hb : okJ p k = false) : checkP p = if k = 0 then 7 else 5 := by
 unfold checkP
 rcases (show k = 0 ∨ k = 1 ∨ k = 2 ∨ k = 3 ∨ k = 4 by omega) with rfl | rfl | rfl | rfl | rfl
 ·rw [if_pos hb]; rfl
 ·rw [h 0 (by omega), if_neg (by simp), if_pos hb]; rfl
 ·rw [h 0 (by omega), if_neg (by simp), h 1 (by omega), if_neg (by simp), if_pos hb]; rfl
 ·rw [h 0 (by omega), if_neg (by simp), h 1 (by omega), if_neg (by simp), h 2 (by omega), if_neg (by simp), if_pos hb]; rfl
 ·rw [h 0 (by omega), if_neg (by simp), h 1 (by omega), if_neg (by simp), h 2 (by omega), if_neg (by simp), h 3 (by omega), if_neg (by simp), if_pos hb]; rfl
theorem checkP_good {p : Proof} (h : ∀ j, j < 5 → okJ p j = true) : checkP p = 0 := by
 unfold checkP
 rw [h 0 (by omega), if_neg (by simp), h 1 (by omega), if_neg (by simp), h 2 (by omega), if_neg (by simp), h 3 (by omega), if_neg (by simp), h 4 (by omega), if_neg (by simp)]
theorem checkP_zero {p : Proof} (h : checkP p = 0) : ∀ j, j < 5 → okJ p j = true := by
 intro j hj
 induction j using Nat.strongRecOn with
 | ind j ih =>
  cases hb : okJ p j with
  | true => rfl
  | false =>
   rw [checkP_bad hj (fun i hi => ih i hi (by omega)) hb] at h
   split at h <;> cases h
theorem rule1_s (p : Proof) (b : B32) : Spec Tryz.prog 196 [.agg p.cells.toArray, .agg b.cells.toArray].toArray [] [] (fun _ : Unit => .bool (okJ p 0)) (fun _ => []) := by
 refine spec_of Tryz.func196 rfl (n := 13) rfl rfl ?_
 intro W
 by_cases h : p.kind = 0
 ·refine h_seq ?_
  refine h_reg ?_
  refine h_opX (x_box rfl) fun g2 => ?_
  refine h_opX (x_box rfl) fun g3 => ?_
  refine yS rfl ?_
  refine yN ?_
  refine yR ?_
  refine h_op (r_field rfl) ?_
  refine h_op (r_loadc rfl) ?_
  refine h_op (r_bool (r_eql rfl rfl) (decide_eq_true h)) ?_
  refine yM rfl ?_
  refine h_opOff ?_
  refine h_opOff ?_
  refine h_opOff ?_
  refine h_op (r_pick rfl rfl) ?_
  refine yS rfl ?_
  refine yN ?_
  refine h_ret ?_
  exact h_ret1 rfl (aB rfl (by simp [okJ, h])) fun w s => ⟨(), rfl, s.res (List.nil_sublist _) (by simp)⟩
 ·refine h_seq ?_
  refine h_reg ?_
  refine h_opX (x_box rfl) fun g2 => ?_
  refine h_opX (x_box rfl) fun g3 => ?_
  refine yS rfl ?_
  refine yN ?_
  refine yR ?_
  refine h_op (r_field rfl) ?_
  refine h_op (r_loadc rfl) ?_
  refine h_op (r_bool (r_eql rfl rfl) (decide_eq_false h)) ?_
  refine yM rfl ?_
  refine h_op (r_field rfl) ?_
  refine h_op (r_loadc rfl) ?_
  refine h_op (r_eql rfl rfl) ?_
  refine h_op (r_pick rfl rfl) ?_
  refine yS rfl ?_
  refine yN ?_
  refine h_ret ?_
  exact h_ret1 rfl (aB rfl (by simp [okJ, h])) fun w s => ⟨(), rfl, s.res (List.nil_sublist _) (by simp)⟩
theorem rule2_s (p : Proof) (b : B32) : Spec Tryz.prog 197 [.agg p.cells.toArray, .agg b.cells.toArray].toArray [] [] (fun _ : Unit => .bool (okJ p 1)) (fun _ => []) := by
 refine spec_of Tryz.func197 rfl (n := 13) rfl rfl ?_
 intro W
 by_cases h : 0 ≤ p.depth
 ·refine h_seq ?_
  refine h_reg ?_
  refine h_opX (x_box rfl) fun g2 => ?_
  refine h_opX (x_box rfl) fun g3 => ?_
  refine yS rfl ?_
  refine yN ?_
  refine yR ?_
  refine h_op (r_field rfl) ?_
  refine h_op (r_loadc rfl) ?_
  refine h_op (r_bool (r_geq rfl rfl) (decide_eq_true h)) ?_
  refine yM rfl ?_
  refine h_op (r_field rfl) ?_
  refine h_op (r_loadc rfl) ?_
  refine h_op (r_leq rfl rfl) ?_
  refine h_op (r_pick rfl rfl) ?_
  refine yS rfl ?_
  refine yN ?_
  refine h_ret ?_
  exact h_ret1 rfl (aB rfl (by simp [okJ, h])) fun w s => ⟨(), rfl, s.res (List.nil_sublist _) (by simp)⟩
 ·refine h_seq ?_
  refine h_reg ?_
  refine h_opX (x_box rfl) fun g2 => ?_
  refine h_opX (x_box rfl) fun g3 => ?_
  refine yS rfl ?_
  refine yN ?_
  refine yR ?_
  refine h_op (r_field rfl) ?_
  refine h_op (r_loadc rfl) ?_
  refine h_op (r_bool (r_geq rfl rfl) (decide_eq_false h)) ?_
  refine yM rfl ?_
  refine h_opOff ?_
  refine h_opOff ?_
  refine h_opOff ?_
  refine h_op (r_pick rfl rfl) ?_
  refine yS rfl ?_
  refine yN ?_
  refine h_ret ?_
  exact h_ret1 rfl (aB rfl (by simp [okJ, h])) fun w s => ⟨(), rfl, s.res (List.nil_sublist _) (by simp)⟩
theorem rule3_s (p : Proof) (b : B32) : Spec Tryz.prog 198 [.agg p.cells.toArray, .agg b.cells.toArray].toArray [] [] (fun _ : Unit => .bool (okJ p 2)) (fun _ => []) := by
 refine spec_of Tryz.func198 rfl (n := 14) rfl rfl ?_
 intro W
 by_cases h : p.kind = 1
 ·refine h_seq ?_
  refine h_reg ?_
  refine h_opX (x_box rfl) fun g2 => ?_
  refine h_opX (x_box rfl) fun g3 => ?_
  refine yS rfl ?_
  refine yN ?_
  refine yR ?_
  refine h_op (r_field rfl) ?_
  refine h_op (r_loadc rfl) ?_
  refine h_op (r_bool (r_eql rfl rfl) (decide_eq_true h)) ?_
  refine yM rfl ?_
  refine h_opOff ?_
  refine h_opOff ?_
  refine h_opOff ?_
  refine h_opOff ?_
  refine h_op (r_pick rfl rfl) ?_
  refine yS rfl ?_
  refine yN ?_
  refine h_ret ?_
  exact h_ret1 rfl (aB rfl (by simp [okJ, h])) fun w s => ⟨(), rfl, s.res (List.nil_sublist _) (by simp)⟩
 ·refine h_seq ?_
  refine h_reg ?_
  refine h_opX (x_box rfl) fun g2 => ?_
  refine h_opX (x_box rfl) fun g3 => ?_
  refine yS rfl ?_
  refine yN ?_
  refine yR ?_
  refine h_op (r_field rfl) ?_
  refine h_op (r_loadc rfl) ?_
  refine h_op (r_bool (r_eql rfl rfl) (decide_eq_false h)) ?_
  refine yM rfl ?_
  refine h_op (r_field rfl) ?_
  refine h_op (r_loadr rfl) ?_
  refine h_op (r_build rfl) ?_
  refine h_op (r_eqr rfl rfl) ?_
  refine h_op (r_pick rfl rfl) ?_
  refine yS rfl ?_
  refine yN ?_
  refine h_ret ?_
  exact h_ret1 rfl (aB rfl (by simp [okJ, h])) fun w s => ⟨(), rfl, s.res (List.nil_sublist _) (by simp)⟩
theorem rule4_s (p : Proof) (h1 : okJ p 1 = true) : Spec Tryz.prog 199 [.agg p.cells.toArray, .agg p.bitmap.cells.toArray].toArray [] [] (fun _ : Unit => .bool (okJ p 3)) (fun _ => []) := by
 have hd : 0 ≤ p.depth ∧ p.depth ≤ 256 := by simpa [okJ] using h1
 refine spec_of Tryz.func199 rfl (n := 11) rfl rfl ?_
 intro W
 refine yR ?_
 refine h_opX (x_box rfl) fun g2 => ?_
 refine h_opX (x_box rfl) fun g3 => ?_
 refine yS rfl ?_
 refine yN ?_
 refine h_seq ?_
 refine ha_start [.blk g2 p.cells 54, .blk g3 p.bitmap.cells 293] [] mixed (same) ?_
 refine ha_take 0 rfl (r_loadr rfl) ?_
 refine ha_takeP 2 rfl (r_field rfl) ?_
 refine ha_take 3 rfl (r_loadc rfl) ?_
 refine ha_takeP 4 rfl (r_sub rfl rfl) ?_
 refine ha_one 1 ?_
 refine ho_C 1 rfl ((Last_s p.bitmap).comes) rfl rfl rfl (fun xx => same) fun _ => ?_
 refine ha_takeP 5 rfl (r_eql rfl rfl) ?_
 refine ha_takeP 6 rfl (r_assign rfl) ?_
 refine ha_done (by kernel_rfl) ?_
 refine q_then ?_
 refine h_ret ?_
 exact h_ret1 rfl (aB rfl rfl) fun w s => ⟨(), rfl, s.res (List.nil_sublist _) (by simp)⟩
theorem rule5_s (p : Proof) : Spec Tryz.prog 201 [.agg p.cells.toArray, .agg p.bitmap.cells.toArray].toArray [] [] (fun _ : Unit => .bool (okJ p 4)) (fun _ => []) := by
 refine spec_of Tryz.func201 rfl (n := 11) rfl rfl ?_
 intro W
 refine yR ?_
 refine h_opX (x_box rfl) fun g2 => ?_
 refine h_opX (x_box rfl) fun g3 => ?_
 refine yS rfl ?_
 refine yN ?_
 refine h_seq ?_
 refine ha_start [.blk g2 p.cells 54, .blk g3 p.bitmap.cells 293] [] mixed (same) ?_
 refine ha_take 0 rfl (r_loadr rfl) ?_
 refine ha_takeP 2 rfl (r_field rfl) ?_
 refine ha_take 3 rfl (r_loadc rfl) ?_
 refine ha_takeP 4 rfl (r_len rfl) ?_
 refine ha_one 1 ?_
 refine ho_C 1 rfl ((BLen_s p.bitmap).comes) rfl rfl rfl (fun xx => same) fun _ => ?_
 refine ha_takeP 5 rfl (r_eql rfl rfl) ?_
 refine ha_takeP 6 rfl (r_assign rfl) ?_
 refine ha_done (by kernel_rfl) ?_
 refine q_then ?_
 refine h_ret ?_
 exact h_ret1 rfl (aB rfl rfl) fun w s => ⟨(), rfl, s.res (List.nil_sublist _) (by simp)⟩
def rulesV : List Value := [.func (.func 196) #[] #[], .int .i64 7, .func (.func 197) #[] #[], .int .i64 5, .func (.func 198) #[] #[], .int .i64 5, .func (.func 199) #[] #[], .int .i64 5, .func (.func 201) #[] #[], .int .i64 5]
theorem rules_s : Spec Tryz.prog 150 ([] : List Value).toArray [] [] (fun _ : Unit => .agg rulesV.toArray) (fun _ => []) := by
 refine spec_of Tryz.func150 rfl (n := 7) rfl rfl ?_
 intro W
 refine yR ?_
 refine h_opX (x_alloc) fun g0 => ?_
 refine yN ?_
 refine yR ?_
 refine h_op (r_build rfl) ?_
 refine h_op (r_build rfl) ?_
 refine h_op (r_build rfl) ?_
 refine h_op (r_build rfl) ?_
 refine h_op (r_build rfl) ?_
 refine h_op (r_build (out := rulesV) rfl (hf := ⟨by kernel_rfl⟩)) ?_
 unfold rulesV
 refine h_opS (s_storer rfl rfl) ?_
 refine yN ?_
 refine h_ret ?_
 exact h_ret1 rfl (rv_row rfl) fun w s => ⟨(), rfl, s.res (List.nil_sublist _) (by simp)⟩
theorem Check_s (p : Proof) : Spec Tryz.prog 97 [.agg p.cells.toArray].toArray [] [] (fun _ : Unit => .int .i64 (checkP p)) (fun _ => []) := by
 refine spec_of Tryz.func97 rfl (n := 19) rfl rfl ?_
 intro W
 refine yR ?_
 refine h_opX (x_box rfl) fun g1 => ?_
 refine yS rfl ?_
 refine yN ?_
 refine h_seq ?_
 refine yR ?_
 refine h_call (rules_s.comes) rfl rfl rfl fun _ => ?_
 unfold rulesV
 refine yM rfl ?_
 refine yN ?_
 refine h_block ?_
 refine h_loop (fun (k : Nat) => k ≤ 5 ∧ ∀ j, j < k → okJ p j = true) (fun (k : Nat) => [(6, .int .i64 (k : Int)), (5, .agg rulesV.toArray), (1, .pointer (some ⟨g1, 0, none⟩))]) (fun (k : Nat) => [.blk g1 p.cells 54]) (fun (k : Nat) => 5 - k) 0 (⟨by omega, fun j hj => by omega⟩) ⟨rfl, rfl, rfl, trivial⟩ (same) ?_
 rintro k ⟨hk, ho⟩
 unfold rulesV
 refine yR ?_
 refine h_op (r_lss rfl rfl) ?_
 refine yN ?_
 refine h_seq ?_
 refine h_cond rfl (fun h => ?_) (fun h => ?_)
 ·have hk5 : k < 5 := by omega
  rcases (show k = 0 ∨ k = 1 ∨ k = 2 ∨ k = 3 ∨ k = 4 by omega) with rfl | rfl | rfl | rfl | rfl
  ·refine h_skip ?_
   refine q_then ?_
   refine h_seq ?_
   refine h_block ?_
   refine yR ?_
   refine h_op (r_ixr rfl rfl (off := 0) rfl) ?_
   refine h_opX (x_alloc) fun g4 => ?_
   refine h_opS (s_storer rfl rfl) ?_
   refine yN ?_
   refine yR ?_
   refine h_op (r_field rfl) ?_
   refine h_op (r_loadc rfl) ?_
   refine h_op (r_loadr rfl) ?_
   refine h_op (r_field rfl) ?_
   refine h_op (r_loadr rfl) ?_
   refine h_call ((rule1_s p p.bitmap).comes) rfl rfl rfl fun _ => ?_
   refine h_op (r_not rfl) ?_
   refine yN ?_
   refine h_condB rfl (fun hb => ?_) (fun hb => ?_)
   ·refine h_seq ?_
    refine h_reg ?_
    refine h_op (r_field rfl) ?_
    refine h_op (r_loadc rfl) ?_
    refine yS rfl ?_
    refine yN ?_
    refine h_ret ?_
    refine q_blockR ?_
    refine q_thenR ?_
    refine q_thenR ?_
    refine q_blockR ?_
    refine q_thenR ?_
    exact h_ret1 rfl (aI rfl (by rw [checkP_bad (k := 0) (by omega) ho (by simpa using hb)]; rfl)) fun w s => ⟨(), rfl, s.res (List.nil_sublist _) (by simp)⟩
   ·refine h_skip ?_
    refine q_block ?_
    refine q_then ?_
    refine h_reg ?_
    refine h_op (r_add rfl rfl) ?_
    refine yM rfl ?_
    refine h_nil ?_
    exact h_back 1 (⟨by omega, fun j hj => by by_cases e : j < 0; exact ho j e; obtain rfl : j = 0 := (by omega); simpa using hb⟩) (by omega) ⟨rfl, rfl, rfl, trivial⟩ (same)
  ·refine h_skip ?_
   refine q_then ?_
   refine h_seq ?_
   refine h_block ?_
   refine yR ?_
   refine h_op (r_ixr rfl rfl (off := 2) rfl) ?_
   refine h_opX (x_alloc) fun g4 => ?_
   refine h_opS (s_storer rfl rfl) ?_
   refine yN ?_
   refine yR ?_
   refine h_op (r_field rfl) ?_
   refine h_op (r_loadc rfl) ?_
   refine h_op (r_loadr rfl) ?_
   refine h_op (r_field rfl) ?_
   refine h_op (r_loadr rfl) ?_
   refine h_call ((rule2_s p p.bitmap).comes) rfl rfl rfl fun _ => ?_
   refine h_op (r_not rfl) ?_
   refine yN ?_
   refine h_condB rfl (fun hb => ?_) (fun hb => ?_)
   ·refine h_seq ?_
    refine h_reg ?_
    refine h_op (r_field rfl) ?_
    refine h_op (r_loadc rfl) ?_
    refine yS rfl ?_
    refine yN ?_
    refine h_ret ?_
    refine q_blockR ?_
    refine q_thenR ?_
    refine q_thenR ?_
    refine q_blockR ?_
    refine q_thenR ?_
    exact h_ret1 rfl (aI rfl (by rw [checkP_bad (k := 1) (by omega) ho (by simpa using hb)]; rfl)) fun w s => ⟨(), rfl, s.res (List.nil_sublist _) (by simp)⟩
   ·refine h_skip ?_
    refine q_block ?_
    refine q_then ?_
    refine h_reg ?_
    refine h_op (r_add rfl rfl) ?_
    refine yM rfl ?_
    refine h_nil ?_
    exact h_back 2 (⟨by omega, fun j hj => by by_cases e : j < 1; exact ho j e; obtain rfl : j = 1 := (by omega); simpa using hb⟩) (by omega) ⟨rfl, rfl, rfl, trivial⟩ (same)
  ·refine h_skip ?_
   refine q_then ?_
   refine h_seq ?_
   refine h_block ?_
   refine yR ?_
   refine h_op (r_ixr rfl rfl (off := 4) rfl) ?_
   refine h_opX (x_alloc) fun g4 => ?_
   refine h_opS (s_storer rfl rfl) ?_
   refine yN ?_
   refine yR ?_
   refine h_op (r_field rfl) ?_
   refine h_op (r_loadc rfl) ?_
   refine h_op (r_loadr rfl) ?_
   refine h_op (r_field rfl) ?_
   refine h_op (r_loadr rfl) ?_
   refine h_call ((rule3_s p p.bitmap).comes) rfl rfl rfl fun _ => ?_
   refine h_op (r_not rfl) ?_
   refine yN ?_
   refine h_condB rfl (fun hb => ?_) (fun hb => ?_)
   ·refine h_seq ?_
    refine h_reg ?_
    refine h_op (r_field rfl) ?_
    refine h_op (r_loadc rfl) ?_
    refine yS rfl ?_
    refine yN ?_
    refine h_ret ?_
    refine q_blockR ?_
    refine q_thenR ?_
    refine q_thenR ?_
    refine q_blockR ?_
    refine q_thenR ?_
    exact h_ret1 rfl (aI rfl (by rw [checkP_bad (k := 2) (by omega) ho (by simpa using hb)]; rfl)) fun w s => ⟨(), rfl, s.res (List.nil_sublist _) (by simp)⟩
   ·refine h_skip ?_
    refine q_block ?_
    refine q_then ?_
    refine h_reg ?_
    refine h_op (r_add rfl rfl) ?_
    refine yM rfl ?_
    refine h_nil ?_
    exact h_back 3 (⟨by omega, fun j hj => by by_cases e : j < 2; exact ho j e; obtain rfl : j = 2 := (by omega); simpa using hb⟩) (by omega) ⟨rfl, rfl, rfl, trivial⟩ (same)
  ·refine h_skip ?_
   refine q_then ?_
   refine h_seq ?_
   refine h_block ?_
   refine yR ?_
   refine h_op (r_ixr rfl rfl (off := 6) rfl) ?_
   refine h_opX (x_alloc) fun g4 => ?_
   refine h_opS (s_storer rfl rfl) ?_
   refine yN ?_
   refine yR ?_
   refine h_op (r_field rfl) ?_
   refine h_op (r_loadc rfl) ?_
   refine h_op (r_loadr rfl) ?_
   refine h_op (r_field rfl) ?_
   refine h_op (r_loadr rfl) ?_
   refine h_call ((rule4_s p (ho 1 (by omega))).comes) rfl rfl rfl fun _ => ?_
   refine h_op (r_not rfl) ?_
   refine yN ?_
   refine h_condB rfl (fun hb => ?_) (fun hb => ?_)
   ·refine h_seq ?_
    refine h_reg ?_
    refine h_op (r_field rfl) ?_
    refine h_op (r_loadc rfl) ?_
    refine yS rfl ?_
    refine yN ?_
    refine h_ret ?_
    refine q_blockR ?_
    refine q_thenR ?_
    refine q_thenR ?_
    refine q_blockR ?_
    refine q_thenR ?_
    exact h_ret1 rfl (aI rfl (by rw [checkP_bad (k := 3) (by omega) ho (by simpa using hb)]; rfl)) fun w s => ⟨(), rfl, s.res (List.nil_sublist _) (by simp)⟩
   ·refine h_skip ?_
    refine q_block ?_
    refine q_then ?_
    refine h_reg ?_
    refine h_op (r_add rfl rfl) ?_
    refine yM rfl ?_
    refine h_nil ?_
    exact h_back 4 (⟨by omega, fun j hj => by by_cases e : j < 3; exact ho j e; obtain rfl : j = 3 := (by omega); simpa using hb⟩) (by omega) ⟨rfl, rfl, rfl, trivial⟩ (same)
  ·refine h_skip ?_
   refine q_then ?_
   refine h_seq ?_
   refine h_block ?_
   refine yR ?_
   refine h_op (r_ixr rfl rfl (off := 8) rfl) ?_
   refine h_opX (x_alloc) fun g4 => ?_
   refine h_opS (s_storer rfl rfl) ?_
   refine yN ?_
   refine yR ?_
   refine h_op (r_field rfl) ?_
   refine h_op (r_loadc rfl) ?_
   refine h_op (r_loadr rfl) ?_
   refine h_op (r_field rfl) ?_
   refine h_op (r_loadr rfl) ?_
   refine h_call ((rule5_s p).comes) rfl rfl rfl fun _ => ?_
   refine h_op (r_not rfl) ?_
   refine yN ?_
   refine h_condB rfl (fun hb => ?_) (fun hb => ?_)
   ·refine h_seq ?_
    refine h_reg ?_
    refine h_op (r_field rfl) ?_
    refine h_op (r_loadc rfl) ?_
    refine yS rfl ?_
    refine yN ?_
    refine h_ret ?_
    refine q_blockR ?_
    refine q_thenR ?_
    refine q_thenR ?_
    refine q_blockR ?_
    refine q_thenR ?_
    exact h_ret1 rfl (aI rfl (by rw [checkP_bad (k := 4) (by omega) ho (by simpa using hb)]; rfl)) fun w s => ⟨(), rfl, s.res (List.nil_sublist _) (by simp)⟩
   ·refine h_skip ?_
    refine q_block ?_
    refine q_then ?_
    refine h_reg ?_
    refine h_op (r_add rfl rfl) ?_
    refine yM rfl ?_
    refine h_nil ?_
    exact h_back 5 (⟨by omega, fun j hj => by by_cases e : j < 4; exact ho j e; obtain rfl : j = 4 := (by omega); simpa using hb⟩) (by omega) ⟨rfl, rfl, rfl, trivial⟩ (same)
 ·obtain rfl : k = 5 := by omega
  rw [checkP_good ho]
  refine h_exit ?_
  refine q_thenE ?_
  refine q_thenE ?_
  refine q_blockE ?_
  refine q_then ?_
  refine yR ?_
  refine yS rfl ?_
  refine yN ?_
  refine h_ret ?_
  exact h_ret1 rfl rfl fun w s => ⟨(), rfl, s.res (List.nil_sublist _) (by simp)⟩
end Go.Proofs.YtjhocljhhpkiiaaGreatDoor
/- U15 -/
namespace Go.Proofs.YtjhocljhhpkiiaaGreatDoor
open Go.RowKit
def dgs (l : List B32) : List Value := l.flatMap B32.cells
theorem dgs_cons (x : B32) (l : List B32) : dgs (x :: l) = x.cells ++ dgs l := rfl
theorem dgs_append (l m : List B32) : dgs (l ++ m) = dgs l ++ dgs m := by simp [dgs]
theorem dgs_one' (x : B32) : dgs [x] = x.cells := by simp [dgs]
theorem dgs_len (l : List B32) : (dgs l).length = l.length * 32 := by
 induction l with
 | nil => rfl
 | cons x l ih => rw [dgs_cons, List.length_append, B32.cells_length, ih, List.length_cons]; omega
theorem dgs_one (l : List B32) : ∀ v ∈ dgs l, v.oneCell' = true := by
 intro v hv
 obtain ⟨x, _, hx⟩ := List.mem_flatMap.1 hv
 exact B32.cells_one x v hx
theorem dgs_at {l : List B32} {k : Nat} (hk : k < l.length) : ∀ j v, (l.getD k zB32).cells[j]? = some v → (dgs l)[k * 32 + j]? = some v := by
 induction l generalizing k with
 | nil => cases hk
 | cons x l ih =>
  intro j v hv
  rw [dgs_cons]
  cases k with
  | zero =>
   rw [Nat.zero_mul, Nat.zero_add, List.getElem?_append_left (by have := (List.getElem?_eq_some_iff.1 hv).1; simpa using this)]
   exact hv
  | succ k =>
   rw [List.getElem?_append_right (by rw [B32.cells_length]; omega), B32.cells_length, show (k + 1) * 32 + j - 32 = k * 32 + j by omega]
   exact ih (by simpa using hk) j v hv
theorem dgs_set (l : List B32) (k : Nat) (x : B32) (hk : k < l.length) : (dgs l).take (k * 32) ++ x.cells ++ (dgs l).drop (k * 32 + 32) = dgs (l.set k x) := by
 have h1 : l = l.take k ++ l[k] :: l.drop (k + 1) := by rw [← List.drop_eq_getElem_cons hk, List.take_append_drop]
 have hl : (dgs (l.take k)).length = k * 32 := by rw [dgs_len, List.length_take]; congr 1; omega
 have h2 : dgs l = dgs (l.take k) ++ (l[k].cells ++ dgs (l.drop (k + 1))) := by conv => lhs; rw [h1, dgs_append, dgs_cons]
 rw [List.set_eq_take_append_cons_drop, if_pos hk, dgs_append, dgs_cons, h2]
 rw [List.take_append_of_le_length (by omega), List.take_of_length_le (by omega), ← hl, List.drop_append, List.drop_of_length_le (by omega), List.nil_append, show (dgs (l.take k)).length + 32 - (dgs (l.take k)).length = 32 by omega, List.drop_append, List.drop_of_length_le (by rw [B32.cells_length]; exact Nat.le_refl _), B32.cells_length, Nat.sub_self, List.drop_zero, List.nil_append, List.append_assoc]
theorem dgs_zero (n : Nat) : dgs (List.replicate n zB32) = List.replicate (n * 32) (.int .u8 0) := by
 have hz : zB32.cells = List.replicate 32 (.int .u8 0) := by simp [B32.cells, zB32, bc]
 induction n with
 | zero => rfl
 | succ n ih => rw [List.replicate_succ, dgs_cons, ih, hz, List.replicate_append_replicate]; congr 1; omega
theorem made_dgs (n : Nat) : (madeCells (Value.agg zB32.cells.toArray).cells (n * 32)).toList = dgs (List.replicate n zB32) := by
 rw [dgs_zero]
 have hz : zB32.cells = List.replicate 32 (.int .u8 0) := by simp [B32.cells, zB32, bc]
 apply List.ext_getElem?
 intro j
 rw [List.getElem?_replicate]
 by_cases h : j < n * 32
 ·have hm : j % 32 < 32 := Nat.mod_lt _ (by decide)
  simp [-List.reduceReplicate, madeCells, h, Value.cells, hz, List.getElem?_replicate, hm]
 ·simp [madeCells, h, Value.cells]
section
variable {P : Program}
theorem run_copy_rowS (w : World) (dT sT ty elem : TypeId) (g o dLen dCap size : Nat) (a : Addr) (sLen sCap : Nat) (cur : Array Value) (t : TypeId) (cs : List Value)
  (hu : P.underlying dT = some (.slice elem)) (hs : (P.info? elem).map (·.size) = some size)
  (hg : w.heap[g]? = some (.cells cur t (0, 0))) (hn : cs.length = Nat.min sLen dLen * size)
  (hsrc : ∀ j v, cs[j]? = some v → w.cell? (a.add j) = some v) (hfit : o + cs.length ≤ cur.size) (h1 : ∀ v ∈ cs, v.oneCell' = true) :
  (Builtin.copy_ #[dT, sT] ty #[.slice (some ⟨g, o, none⟩) dLen dCap, .slice (some a) sLen sCap]).run P w =
   .ok (goInt (Nat.min sLen dLen)) (w.setRow g (cur.toList.take o ++ cs ++ cur.toList.drop (o + cs.length)).toArray) := by
 have hl := run_loadCells_list (P := P) w a cs hsrc
 have hst := run_storeCells_at P g o t cs 0 cur w hg (by simpa using hfit) h1
 cases hq : P.info? elem with
 | none => simp [hq] at hs
 | some i =>
  have hi : i.size = size := by simpa [hq] using hs
  rw [hn] at hl
  simp [Builtin.copy_, run_underlying hu, Builtin.lenOf, Builtin.firstCells, sizeOf, typeInfo, hq, hi, hl, hst]
variable {A : List Fa} {W : World} {n : Nat} {D : List Deferred} {E : Env} {L M : List Fa} {x y : Operand}
theorem x_copyAt {dT sT e g o dLen dCap N c size bytes m c' q b O : Nat} {z : Value} [E' : TS P dT e size bytes z] {xs cs xs' : List Value} (hd : ev E x = some (.slice (some ⟨g, o, none⟩) dLen dCap)) (hs : ev E y = some (.slice (some ⟨b, O, none⟩) m c')) [ht : TakeG g L N c e size xs M] (hR : ∀ w, Fx w L → Rd w (some ⟨b, O, none⟩) cs) (hq : Nat.min m dLen = q) (hl : cs.length = q * size) (hfit : o + cs.length ≤ xs.length) (h1 : ∀ u ∈ cs, u.oneCell' = true) (hx : xs.take o ++ cs ++ xs.drop (o + cs.length) = xs') :
  RunsX P A W n D E L (.call { callee := .builtin .copy, args := #[x, y], argTypes := #[dT, sT] }) (fun _ : Unit => .int .i64 (q : Int)) (fun _ => .own (.slice (some ⟨g, 0, none⟩) N c) N e size xs' :: M) := fun a w ka s o' hop => by
 have h2 := s.perm ht.perm
 have ho : w.ownsRow 0 e size (.slice (some ⟨g, 0, none⟩) N c) N xs := h2.ok (.own _ _ _ _ _) (List.mem_cons_self ..)
 obtain ⟨cur, hb, h3, h4, h5, h6⟩ := own_parts ho
 have hxl := ho.1
 have hcl : xs.length ≤ cur.length := by rw [← h6, List.length_take]; omega
 have hrun := run_copy_rowS (P := P) w dT sT o'.type e g o dLen dCap size ⟨b, O, none⟩ m c' cur.toArray e cs E'.el.ht (ts_size (E' := E')) hb (by rw [hq]; exact hl) (fun j v hv => by
  obtain ⟨b', O', e', hc⟩ := hR w s.toFx j v hv
  injection e' with e'
  injection e' with e1 e2
  subst e1 e2
  rw [Addr.add_mid]
  exact hc) (by simp; omega) h1
 have hbl : Below 0 w (w.setRow g (cur.toArray.toList.take o ++ cs ++ cur.toArray.toList.drop (o + cs.length)).toArray) := below_setRow (Below.refl 0 w) (Nat.zero_le _) _
 refine ⟨(), _, ?_, h2.turn rfl (fun k hk => .inl hk) (own_new (setRow_heap w g _ _ e _ hb) ?_ h3 h4 ?_ ?_) hbl.os hbl.tape hbl.output hbl.size fun k _ hne => setRow_other w g k _ fun e => hne (show some g = some k by rw [e])⟩
 ·unfold execOp
  simp only [hop, resolve, invoke, builtin, ka.ev hd, ka.ev hs, List.map_toArray, List.map_cons, List.map_nil, Sem.run_bind, Sem.run_pure, Result.andThen_ok, hrun, hq]
  rfl
 ·rw [← hx, ← hxl]
  simp only [List.length_append, List.length_take, List.length_drop]
  omega
 ·simp only [List.length_append, List.length_take, List.length_drop]
  rw [← h5]
  omega
 ·have hc : cur = xs ++ cur.drop (N * size) := by rw [← h6, List.take_append_drop]
  rw [hc] at hcl ⊢
  generalize cur.drop (N * size) = rest at *
  simp only
  rw [List.take_append_of_le_length (show o ≤ xs.length by omega), List.drop_append_of_le_length hfit, ← List.append_assoc, ← hx]
  rw [List.take_append_of_le_length, List.take_of_length_le]
  ·simp only [List.length_append, List.length_take, List.length_drop]; omega
  ·simp only [List.length_append, List.length_take, List.length_drop]; omega
end
end Go.Proofs.YtjhocljhhpkiiaaGreatDoor
/- TC -/
namespace Go.Proofs.YtjhocljhhpkiiaaGreatDoor
open Go.RowKit Go.ChangeShapes Go.WideShapes
section
variable {H : Type} {enc : TypeId × Value → H} {w : World} {base : Nat} {spare : Nat → Bool} {held : Bool} {v : Value} {d : DataW H} {ps : List MemPlace} {r : Reach} {b0 : Nat}
theorem c_int : Tryz.prog.cellsOf 3 = 1 := by kernel_rfl
theorem c_Digest : Tryz.prog.cellsOf 42 = 32 := by kernel_rfl
theorem c_Key : Tryz.prog.cellsOf 35 = 32 := by kernel_rfl
theorem c_Leaf : Tryz.prog.cellsOf 51 = 64 := by kernel_rfl
theorem c_u8 : Tryz.prog.cellsOf 5 = 1 := by kernel_rfl
theorem c_u32 : Tryz.prog.cellsOf 204 = 1 := by kernel_rfl
theorem c_u32x64 : Tryz.prog.cellsOf 288 = 64 := by kernel_rfl
end
theorem laidOut' : laidOutB Tryz.prog = true := by kernel_rfl
theorem own' : ownKnob Tryz.prog.godebug = none := by kernel_rfl
abbrev laidR : List (String × DataW Unit) := [("sparsetree/sha.rounds", Rows.laid_sparsetree_sha_rounds)]
theorem gRounds : Tryz.prog.globalNamed "sparsetree/sha.rounds" = some 1 := by kernel_rfl
theorem tRounds : (Tryz.prog.globals[1]?).map (·.type) = some 288 := by kernel_rfl
theorem door_met (os : Os) (args : Array Value) : laidMetH Tryz.prog laidR ((World.doorLaid Tryz.prog 14 os).forCall (fun _ _ => 0) ⟨#[], args, []⟩).memory :=
 laidMetH_of_parts3 (fuel := 8) (laidMet_of_run' 8 (by kernel_rfl) (by kernel_rfl)) (by kernel_rfl) (by kernel_rfl)
theorem table_of {W : World} (h : laidMetH Tryz.prog laidR W) : Rd W (some ⟨1, 0, none⟩) hashT := by
 rw [MakeChecks.laidMetH_plain _ _ _ (by kernel_rfl)] at h
 obtain ⟨ps, ⟨g0, t0, cs0, f0, p0, q0, hg0, ht0, hv0, hd0, _, _⟩, _, _⟩ := h
 obtain rfl := Option.some.inj (gRounds.symm.trans hg0)
 obtain rfl := Option.some.inj (tRounds.symm.trans ht0)
 have e : Rows.laid_sparsetree_sha_rounds (H := Unit) = .agg ((K64.map BitVec.toNat).map fun k : Nat => DataW.lit (.int .u32 (k : Int))) := by kernel_rfl
 rw [e] at hd0
 have h1 := words_of Tryz.underlying288 Tryz.underlying204 c_u32 c_u32x64 hd0
 intro j u hu
 refine ⟨1, 0, rfl, ?_⟩
 rw [Nat.zero_add, World.var?_cell hg0 hv0, ← Array.getElem?_toList, h1, ← hu]
 simp [wc]
 rfl
end Go.Proofs.YtjhocljhhpkiiaaGreatDoor
/- E10 -/
namespace Go.Proofs.YtjhocljhhpkiiaaGreatDoor
open Go.RowKit
def expL (e : B32) (b : B32) (ss : List B32) : Nat → List B32
 | 0 => []
 | k + 1 => expL e b ss k ++ [if bitAt b k then ss.getD (dep b k).length zB32 else e]
theorem expL_len (e : B32) (b : B32) (ss : List B32) : ∀ n, (expL e b ss n).length = n
 | 0 => rfl
 | n + 1 => by rw [expL, List.length_append, expL_len e b ss n]; rfl
theorem expL_eq (e : B32) (b : B32) (ss : List B32) : ∀ n, expL e b ss n = (List.range n).map fun i => if bitAt b i then ss.getD (dep b i).length zB32 else e
 | 0 => rfl
 | n + 1 => by rw [expL, expL_eq e b ss n, List.range_succ, List.map_append]; rfl
def expJ (e : B32) (b : B32) (ss : List B32) (n j : Nat) : List B32 := (List.range n).map fun i => if bitAt b i = true ∧ (dep b i).length < j then ss.getD (dep b i).length zB32 else e
theorem expJ_len (e : B32) (b : B32) (ss : List B32) (n j : Nat) : (expJ e b ss n j).length = n := by simp [expJ]
theorem expJ_0 (e : B32) (b : B32) (ss : List B32) (n : Nat) : expJ e b ss n 0 = List.replicate n e := by
 apply List.ext_getElem?
 intro i
 unfold expJ
 rw [List.getElem?_map, List.getElem?_replicate]
 by_cases h : i < n
 ·rw [List.getElem?_range h, if_pos h]; simp
 ·rw [List.getElem?_eq_none (by simpa using h), if_neg h]; rfl
theorem dep_split (b : B32) {i : Nat} (h : i < 256) : depths b = dep b i ++ ((if bitAt b i then [i] else []) ++ ((List.range (255 - i)).map (i + 1 + ·)).filter (bitAt b)) := by
 unfold depths dep
 have e : (256 : Nat) = (i + 1) + (255 - i) := by omega
 rw [e, List.range_add, List.filter_append, List.range_succ, List.filter_append, List.append_assoc]
 congr 2
 rw [List.filter_cons]
 split <;> rfl
theorem dep_nth {b : B32} {i : Nat} (h : i < 256) (hb : bitAt b i = true) : (depths b)[(dep b i).length]? = some i := by
 rw [dep_split b h, if_pos hb, List.getElem?_append_right (Nat.le_refl _), Nat.sub_self]
 rfl
theorem dep_lt {b : B32} {i : Nat} (h : i < 256) (hb : bitAt b i = true) : (dep b i).length < (depths b).length := (List.getElem?_eq_some_iff.1 (dep_nth h hb)).1
theorem dep_pos {b : B32} {i j : Nat} (h : (depths b)[j]? = some i) : i < 256 ∧ bitAt b i = true ∧ (dep b i).length = j := by
 have hm := List.mem_of_getElem? h
 unfold depths at hm
 rw [List.mem_filter] at hm
 have hi : i < 256 := by simpa using hm.1
 refine ⟨hi, hm.2, ?_⟩
 have h2 := dep_nth hi hm.2
 have hnd : (depths b).Nodup := List.nodup_range.filter _
 obtain ⟨h3, h4⟩ := List.getElem?_eq_some_iff.1 h
 obtain ⟨h5, h6⟩ := List.getElem?_eq_some_iff.1 h2
 exact (List.getElem_inj hnd).1 (h6.trans h4.symm)
theorem expJ_all (e : B32) (b : B32) (ss : List B32) (n j : Nat) (hn : n ≤ 256) (hj : (depths b).length ≤ j) : expJ e b ss n j = expL e b ss n := by
 rw [expL_eq]
 unfold expJ
 apply List.map_congr_left
 intro i hi
 have hi : i < n := by simpa using hi
 by_cases hb : bitAt b i = true
 ·rw [if_pos ⟨hb, by have := dep_lt (b := b) (i := i) (by omega) hb; omega⟩, if_pos hb]
 ·rw [if_neg (fun h => hb h.1), if_neg hb]
theorem expJ_set (e : B32) (b : B32) (ss : List B32) (n j : Nat) {i0 : Nat} (h : (depths b)[j]? = some i0) (hn : n ≤ 256) (h0 : i0 < n) : (expJ e b ss n j).set i0 (ss.getD j zB32) = expJ e b ss n (j + 1) := by
 obtain ⟨h1, h2, h3⟩ := dep_pos h
 apply List.ext_getElem?
 intro i
 rw [List.getElem?_set, expJ_len]
 unfold expJ
 by_cases e2 : i0 = i
 ·subst e2
  rw [if_pos rfl, if_pos h0, List.getElem?_map, List.getElem?_range h0, Option.map_some, if_pos ⟨h2, by omega⟩, h3]
 ·rw [if_neg e2, List.getElem?_map, List.getElem?_map]
  by_cases hi : i < n
  ·rw [List.getElem?_range hi, Option.map_some, Option.map_some]
   congr 1
   by_cases hb : bitAt b i = true
   ·have hne : (dep b i).length ≠ j := fun hj => by
     have := dep_nth (b := b) (i := i) (by omega) hb
     rw [hj, h] at this
     injection this with this
     exact e2 this
    by_cases hl : (dep b i).length < j
    ·rw [if_pos ⟨hb, hl⟩, if_pos ⟨hb, by omega⟩]
    ·rw [if_neg (fun h => hl h.2), if_neg (fun h => by have := h.2; omega)]
   ·rw [if_neg (fun h => hb h.1), if_neg (fun h => hb h.1)]
  ·rw [List.getElem?_eq_none (by simpa using hi)]; rfl
theorem lastI_max (b : B32) : ∀ (n i : Nat), i < n → bitAt b i = true → (i : Int) ≤ lastI b n
 | 0, i, h, _ => by omega
 | n + 1, i, h, hb => by
  rw [lastI_succ]
  by_cases hn : bitAt b n = true
  ·rw [if_pos hn]; omega
  ·rw [if_neg hn]
   have : i ≠ n := fun e => hn (e ▸ hb)
   exact lastI_max b n i (by omega) hb
end Go.Proofs.YtjhocljhhpkiiaaGreatDoor
/- E11 -/
namespace Go.Proofs.YtjhocljhhpkiiaaGreatDoor
open Go.RowKit
structure En where
 e : Entry
 val : List UInt8
abbrev En.key (x : En) : B32 := x.e.key
inductive Tr where
 | nil
 | leaf (k : B32) (v : List UInt8)
 | node (l r : Tr)
def Tr.cnt : Tr → Nat
 | .nil => 0
 | .leaf .. => 1
 | .node l r => l.cnt + r.cnt
def Tr.kind : Tr → Nat
 | .nil => 0
 | .leaf .. => 1
 | .node .. => 2
def Tr.lf : Tr → Option (B32 × List UInt8)
 | .leaf k v => some (k, v)
 | _ => none
def Tr.sub : Bool → Tr → Tr
 | false, .node l _ => l
 | true, .node _ r => r
 | _, _ => .nil
def part (m : List En) (d : Nat) (b : Bool) : List En := m.filter fun e => bitAt e.key d == b
theorem part_len (m : List En) (d : Nat) : (part m d false).length + (part m d true).length = m.length := by
 unfold part
 induction m with
 | nil => rfl
 | cons e m ih =>
  cases hb : bitAt e.key d
  ·rw [List.filter_cons_of_pos (by simp [hb]), List.filter_cons_of_neg (by simp [hb]), List.length_cons, List.length_cons]; omega
  ·rw [List.filter_cons_of_neg (by simp [hb]), List.filter_cons_of_pos (by simp [hb]), List.length_cons, List.length_cons]; omega
theorem part_le (m : List En) (d : Nat) (b : Bool) : (part m d b).length ≤ m.length := List.length_filter_le _ _
theorem part_mem {m : List En} {d : Nat} {b : Bool} {e : En} : e ∈ part m d b ↔ e ∈ m ∧ bitAt e.key d = b := by simp [part]
structure Alike (m : List En) (d : Nat) : Prop where
 nodup : (m.map En.key).Nodup
 same : ∀ e ∈ m, ∀ f ∈ m, ∀ i, i < d → bitAt e.key i = bitAt f.key i
theorem Alike.part {m : List En} {d : Nat} (h : Alike m d) (b : Bool) : Alike (part m d b) (d + 1) := by
 refine ⟨(h.nodup.sublist ((List.filter_sublist).map _)), fun e he f hf i hi => ?_⟩
 obtain ⟨he, hb⟩ := part_mem.1 he
 obtain ⟨hf, hb'⟩ := part_mem.1 hf
 rcases Nat.lt_or_ge i d with h1 | h1
 ·exact h.same e he f hf i h1
 ·obtain rfl : i = d := by omega
  rw [hb, hb']
theorem Alike.start {m : List En} (h : (m.map En.key).Nodup) : Alike m 0 := ⟨h, fun _ _ _ _ _ hi => by omega⟩
theorem Alike.last {m : List En} {d : Nat} (h : Alike m d) (hd : 256 ≤ d) : m.length ≤ 1 := by
 match m, h with
 | [], _ => simp
 | [_], _ => simp
 | e :: f :: m, h =>
  have := bits_ext (a := e.key) (b := f.key) fun i hi => h.same e (by simp) f (by simp) i (by omega)
  have h1 := h.nodup
  simp [this] at h1
theorem Alike.lt {m : List En} {d : Nat} (h : Alike m d) (hm : 1 < m.length) : d < 256 := by
 rcases Nat.lt_or_ge d 256 with h1 | h1
 ·exact h1
 ·have := h.last h1; omega
def mkF : Nat → List En → Nat → Tr
 | 0, _, _ => .nil
 | f + 1, m, d => match m with
  | [] => .nil
  | [e] => .leaf e.key e.val
  | _ => .node (mkF f (part m d false) (d + 1)) (mkF f (part m d true) (d + 1))
def mkT (m : List En) (d : Nat) : Tr := mkF (257 - d) m d
theorem mkT_nil (d : Nat) : mkT [] d = .nil := by
 unfold mkT
 cases 257 - d <;> rfl
theorem mkT_one (e : En) {d : Nat} (h : d ≤ 256) : mkT [e] d = .leaf e.key e.val := by
 unfold mkT
 rw [show 257 - d = 256 - d + 1 by omega]
 rfl
theorem mkT_two {m : List En} {d : Nat} (h : 1 < m.length) (hd : d ≤ 256) : mkT m d = .node (mkT (part m d false) (d + 1)) (mkT (part m d true) (d + 1)) := by
 unfold mkT
 rw [show 257 - d = 257 - (d + 1) + 1 by omega]
 match m, h with
 | [], h => simp at h
 | [_], h => simp at h
 | _ :: _ :: _, _ => rfl
theorem mkT_kind (m : List En) {d : Nat} (hd : d ≤ 256) : (mkT m d).kind = min m.length 2 := by
 match m with
 | [] => rw [mkT_nil]; rfl
 | [e] => rw [mkT_one e hd]; rfl
 | e :: f :: m => rw [mkT_two (by simp) hd]; simp [Tr.kind]
theorem parts_ind {p : List En → Nat → Prop} (h0 : ∀ d, p [] d) (h1 : ∀ e d, d ≤ 256 → p [e] d) (h2 : ∀ m d, Alike m d → 1 < m.length → d < 256 → p (part m d false) (d + 1) → p (part m d true) (d + 1) → p m d) : ∀ (k : Nat) (m : List En) (d : Nat), 256 - d ≤ k → d ≤ 256 → Alike m d → p m d
 | k, m, d, hk, hd, ha => by
  match m, ha with
  | [], _ => exact h0 d
  | [e], _ => exact h1 e d hd
  | e :: f :: m, ha =>
   have hl : 1 < (e :: f :: m).length := by simp
   have hlt := ha.lt hl
   cases k with
   | zero => omega
   | succ k => exact h2 _ d ha hl hlt (parts_ind h0 h1 h2 k _ _ (by omega) (by omega) (ha.part false)) (parts_ind h0 h1 h2 k _ _ (by omega) (by omega) (ha.part true))
theorem mkT_cnt {m : List En} {d : Nat} (hd : d ≤ 256) (ha : Alike m d) : (mkT m d).cnt = m.length :=
 parts_ind (p := fun m d => (mkT m d).cnt = m.length) (fun d => by rw [mkT_nil]; rfl) (fun e d h => by rw [mkT_one e h]; rfl)
  (fun m d _ hm hd i1 i2 => by rw [mkT_two hm (by omega)]; show _ + _ = _; rw [i1, i2, part_len]) 256 m d (by omega) hd ha
def loc (k : B32) : Tr → Nat → Tr × Nat
 | .node l r, d => if bitAt k d then loc k r (d + 1) else loc k l (d + 1)
 | t, d => (t, d)
def sibs (k : B32) : Tr → Nat → List Tr
 | .node l r, d => if bitAt k d then l :: sibs k r (d + 1) else r :: sibs k l (d + 1)
 | _, _ => []
def endF (k : B32) : Nat → List En → Nat → List En × Nat
 | 0, m, d => (m, d)
 | f + 1, m, d => if m.length ≤ 1 then (m, d) else endF k f (part m d (bitAt k d)) (d + 1)
def endM (k : B32) (m : List En) (d : Nat) : List En × Nat := endF k (257 - d) m d
theorem endM_one {k : B32} {m : List En} {d : Nat} (h : m.length ≤ 1) : endM k m d = (m, d) := by
 unfold endM
 cases 257 - d with
 | zero => rfl
 | succ f => unfold endF; rw [if_pos h]
theorem endM_two {k : B32} {m : List En} {d : Nat} (h : 1 < m.length) (hd : d ≤ 256) : endM k m d = endM k (part m d (bitAt k d)) (d + 1) := by
 unfold endM
 rw [show 257 - d = 257 - (d + 1) + 1 by omega]
 conv => lhs; unfold endF
 rw [if_neg (by omega)]
def atM (k : B32) (m : List En) : Nat → List En
 | 0 => m
 | d + 1 => part (atM k m d) d (bitAt k d)
theorem atM_alike {k : B32} {m : List En} (h : Alike m 0) : ∀ d, Alike (atM k m d) d
 | 0 => h
 | d + 1 => (atM_alike h d).part _
theorem atM_le (k : B32) (m : List En) : ∀ d, (atM k m d).length ≤ m.length
 | 0 => Nat.le_refl _
 | d + 1 => Nat.le_trans (part_le _ _ _) (atM_le k m d)
theorem endM_at {k : B32} {m : List En} (h : Alike m 0) : ∀ (j d : Nat), 256 - d ≤ j → d ≤ 256 → ∃ D, d ≤ D ∧ D ≤ 256 ∧ endM k (atM k m d) d = (atM k m D, D) ∧ (atM k m D).length ≤ 1 ∧ ∀ i, d ≤ i → i < D → 1 < (atM k m i).length
 | j, d, hj, hd => by
  by_cases h1 : (atM k m d).length ≤ 1
  ·exact ⟨d, Nat.le_refl _, hd, endM_one h1, h1, fun i a b => by omega⟩
  ·have hlt := (atM_alike (k := k) h d).lt (by omega)
   cases j with
   | zero => omega
   | succ j =>
    obtain ⟨D, a1, a2, a3, a4, a5⟩ := endM_at h j (d + 1) (by omega) (by omega)
    refine ⟨D, by omega, a2, by rw [endM_two (by omega) hd]; exact a3, a4, fun i b1 b2 => ?_⟩
    rcases Nat.eq_or_lt_of_le b1 with e | e
    ·subst e; omega
    ·exact a5 i e b2
theorem loc_mkT {k : B32} {m : List En} (h : Alike m 0) : ∀ (j d : Nat), 256 - d ≤ j → d ≤ 256 → loc k (mkT (atM k m d) d) d = (mkT (endM k (atM k m d) d).1 (endM k (atM k m d) d).2, (endM k (atM k m d) d).2)
 | j, d, hj, hd => by
  by_cases h1 : (atM k m d).length ≤ 1
  ·rw [endM_one h1]
   match atM k m d, h1 with
   | [], _ => rw [mkT_nil]; rfl
   | [e], _ => rw [mkT_one e hd]; rfl
   | _ :: _ :: _, h1 => simp at h1
  ·have hlt := (atM_alike (k := k) h d).lt (by omega)
   cases j with
   | zero => omega
   | succ j =>
    have ih := loc_mkT (k := k) h j (d + 1) (by omega) (by omega)
    rw [endM_two (by omega) hd, mkT_two (by omega) hd]
    unfold loc
    have e : atM k m (d + 1) = part (atM k m d) d (bitAt k d) := rfl
    rw [e] at ih
    cases hb : bitAt k d
    ·rw [hb] at ih; simpa using ih
    ·rw [hb] at ih; simpa using ih
def cmpL : List UInt8 → List UInt8 → Int
 | x :: xs, y :: ys => if x < y then -1 else if y < x then 1 else cmpL xs ys
 | _, _ => 0
def cmpB (a b : B32) : Int := cmpL a.1 b.1
def remK (m : List En) (k : B32) : List En := m.filter fun e => decide (e.key ≠ k)
def insE (e : En) : List En → List En
 | [] => [e]
 | f :: m => if cmpB e.key f.key < 0 then e :: f :: m else f :: insE e m
def putM (m : List En) (e : En) : List En := insE e (remK m e.key)
def ofM (l : List En) : List En := l.foldl putM []
theorem insE_snoc_in {e x : En} : ∀ {l : List En}, (∃ f ∈ l, cmpB e.key f.key < 0) → insE e (l ++ [x]) = insE e l ++ [x]
 | [], h => by obtain ⟨f, hf, _⟩ := h; cases hf
 | g :: l, h => by
  by_cases h1 : cmpB e.key g.key < 0
  ·rw [List.cons_append, insE, insE, if_pos h1, if_pos h1]; rfl
  ·rw [List.cons_append, insE, insE, if_neg h1, if_neg h1, insE_snoc_in (l := l)]
   ·rfl
   ·obtain ⟨f, hf, h2⟩ := h
    rcases List.mem_cons.1 hf with rfl | hf
    ·exact (h1 h2).elim
    ·exact ⟨f, hf, h2⟩
theorem insE_none {e : En} : ∀ {l : List En}, (∀ f ∈ l, ¬ cmpB e.key f.key < 0) → insE e l = l ++ [e]
 | [], _ => rfl
 | g :: l, h => by rw [insE, if_neg (h g (List.mem_cons_self ..)), insE_none fun f hf => h f (List.mem_cons_of_mem _ hf)]; rfl
theorem insE_snoc_now {e x : En} : ∀ {l : List En}, (∀ f ∈ l, ¬ cmpB e.key f.key < 0) → cmpB e.key x.key < 0 → insE e (l ++ [x]) = l ++ [e, x]
 | [], _, h => by rw [List.nil_append, insE, if_pos h]; rfl
 | g :: l, h, h' => by rw [List.cons_append, insE, if_neg (h g (List.mem_cons_self ..)), insE_snoc_now (fun f hf => h f (List.mem_cons_of_mem _ hf)) h']; rfl
theorem insE_mem {e f : En} : ∀ {l : List En}, f ∈ insE e l ↔ f = e ∨ f ∈ l
 | [] => by simp [insE]
 | g :: l => by
  unfold insE
  split
  ·simp
  ·rw [List.mem_cons, insE_mem (l := l), List.mem_cons]
   constructor <;> (rintro (h | h | h) <;> simp_all)
theorem insE_len (e : En) : ∀ (l : List En), (insE e l).length = l.length + 1
 | [] => rfl
 | g :: l => by
  unfold insE
  split
  ·rfl
  ·rw [List.length_cons, insE_len e l]; rfl
theorem insE_nodup {e : En} : ∀ {l : List En}, (l.map En.key).Nodup → (∀ f ∈ l, f.key ≠ e.key) → ((insE e l).map En.key).Nodup
 | [], _, _ => by simp [insE]
 | g :: l, h, h' => by
  unfold insE
  rw [List.map_cons, List.nodup_cons] at h
  split
  ·rw [List.map_cons, List.map_cons, List.nodup_cons, List.nodup_cons]
   refine ⟨fun hm => ?_, h.1, h.2⟩
   rw [List.mem_cons, List.mem_map] at hm
   rcases hm with hm | ⟨f, hf, hm⟩
   ·exact h' g (List.mem_cons_self ..) hm.symm
   ·exact h' f (List.mem_cons_of_mem _ hf) hm
  ·rw [List.map_cons, List.nodup_cons]
   refine ⟨fun hm => ?_, insE_nodup h.2 fun f hf => h' f (List.mem_cons_of_mem _ hf)⟩
   obtain ⟨f, hf, hk⟩ := List.mem_map.1 hm
   rcases insE_mem.1 hf with rfl | hf
   ·exact h' g (List.mem_cons_self ..) hk.symm
   ·exact h.1 (List.mem_map.2 ⟨f, hf, hk⟩)
theorem putM_nodup {m : List En} (e : En) (h : (m.map En.key).Nodup) : ((putM m e).map En.key).Nodup :=
 insE_nodup (h.sublist ((List.filter_sublist).map _)) fun f hf => by simpa [remK] using (List.mem_filter.1 hf).2
theorem putM_mem {m : List En} {e f : En} (h : f ∈ putM m e) : f = e ∨ f ∈ m := (insE_mem.1 h).imp_right fun h => (List.mem_filter.1 h).1
theorem putM_len (m : List En) (e : En) : (putM m e).length ≤ m.length + 1 := by
 unfold putM
 rw [insE_len]
 have := List.length_filter_le (fun f => decide (f.key ≠ e.key)) m
 unfold remK
 omega
theorem foldM_nodup : ∀ (l m : List En), (m.map En.key).Nodup → ((l.foldl putM m).map En.key).Nodup
 | [], _, h => h
 | e :: l, m, h => foldM_nodup l _ (putM_nodup e h)
theorem ofM_nodup (l : List En) : ((ofM l).map En.key).Nodup := foldM_nodup l [] (by simp)
theorem foldM_mem : ∀ (l m : List En) (f : En), f ∈ l.foldl putM m → f ∈ l ∨ f ∈ m
 | [], _, _, h => .inr h
 | e :: l, m, f, h => by
  rcases foldM_mem l _ f h with h | h
  ·exact .inl (List.mem_cons_of_mem _ h)
  ·rcases putM_mem h with rfl | h
   ·exact .inl (List.mem_cons_self ..)
   ·exact .inr h
theorem ofM_mem {l : List En} {f : En} (h : f ∈ ofM l) : f ∈ l := (foldM_mem l [] f h).elim id fun h => by cases h
theorem foldM_len : ∀ (l m : List En), (l.foldl putM m).length ≤ l.length + m.length
 | [], _ => by simp
 | e :: l, m => by
  have h1 := foldM_len l (putM m e)
  have h2 := putM_len m e
  rw [List.foldl_cons, List.length_cons]
  omega
theorem ofM_len (l : List En) : (ofM l).length ≤ l.length := by have := foldM_len l []; rw [List.length_nil, Nat.add_zero] at this; exact this
theorem ofM_snoc (l : List En) (k : Nat) (e : En) (h : l[k]? = some e) : ofM (l.take (k + 1)) = putM (ofM (l.take k)) e := by
 rw [List.take_add_one, h]
 unfold ofM
 rw [Option.toList_some, List.foldl_append]
 rfl
end Go.Proofs.YtjhocljhhpkiiaaGreatDoor
/- E12 -/
namespace Go.Proofs.YtjhocljhhpkiiaaGreatDoor
open Go.RowKit
def preV (v : List UInt8) : List UInt8 := 2 :: v
def leafOf (n : Nat) (k : B32) (v : List UInt8) : Leaf := ⟨k, sumB n (preV v)⟩
def dgT (n : Nat) : Tr → B32
 | .nil => sumB n preE
 | .leaf k v => sumB n (preL (leafOf n k v))
 | .node l r => sumB n (preN (dgT n l) (dgT n r))
def rootM (n : Nat) (m : List En) (d : Nat) : B32 := dgT n (mkT m d)
theorem rootM_nil (n d : Nat) : rootM n [] d = sumB n preE := by unfold rootM; rw [mkT_nil]; rfl
theorem rootM_one (n : Nat) (e : En) {d : Nat} (h : d ≤ 256) : rootM n [e] d = sumB n (preL (leafOf n e.key e.val)) := by unfold rootM; rw [mkT_one e h]; rfl
theorem rootM_two (n : Nat) {m : List En} {d : Nat} (h : 1 < m.length) (hd : d ≤ 256) : rootM n m d = sumB n (preN (rootM n (part m d false) (d + 1)) (rootM n (part m d true) (d + 1))) := by unfold rootM; rw [mkT_two h hd]; rfl
def dset (l : List Nat) : B32 := ⟨(List.range 32).map fun k => UInt8.ofNat (((List.range 8).filter fun j => decide (8 * k + j ∈ l)).map fun j => 2 ^ (7 - j)).sum, by simp⟩
theorem byte_sum (p : Nat → Bool) : ∀ j, j < 8 → bbit (UInt8.ofNat (((List.range 8).filter p).map fun j => 2 ^ (7 - j)).sum) j = p j := by
 have key : ∀ (a b c d e f g h : Bool) (j : Nat), j < 8 → bbit (UInt8.ofNat (((List.range 8).filter fun i => [a, b, c, d, e, f, g, h].getD i false).map fun j => 2 ^ (7 - j)).sum) j = [a, b, c, d, e, f, g, h].getD j false := by decide +kernel
 intro j hj
 have hf : (List.range 8).filter p = (List.range 8).filter fun i => [p 0, p 1, p 2, p 3, p 4, p 5, p 6, p 7].getD i false := by
  apply List.filter_congr
  intro i hi
  have := List.mem_range.1 hi
  match i, this with
  | 0, _ | 1, _ | 2, _ | 3, _ | 4, _ | 5, _ | 6, _ | 7, _ => rfl
 rw [hf, key _ _ _ _ _ _ _ _ j hj]
 match j, hj with
 | 0, _ | 1, _ | 2, _ | 3, _ | 4, _ | 5, _ | 6, _ | 7, _ => rfl
theorem dset_bit (l : List Nat) (i : Nat) (hi : i < 256) : bitAt (dset l) i = decide (i ∈ l) := by
 unfold bitAt dset
 simp only [List.getD_eq_getElem?_getD, List.getElem?_map]
 rw [List.getElem?_range (by omega)]
 simp only [Option.map_some, Option.getD_some]
 rw [byte_sum _ _ (by omega), Nat.div_add_mod]
theorem dset_nil : dset [] = zB32 := bits_ext fun i hi => by rw [dset_bit _ i hi, bitAt_zero]; simp
def leafT (n : Nat) : Tr → Leaf
 | .leaf k v => leafOf n k v
 | _ => zLeaf
end Go.Proofs.YtjhocljhhpkiiaaGreatDoor
/- UT -/
namespace Go.Proofs.YtjhocljhhpkiiaaGreatDoor
open Go.RowKit
abbrev HR (gh gc n : Nat) : Fa := .rd (some ⟨gh, 0, none⟩) [.pointer (some ⟨gc, 0, none⟩), .int .i64 (n : Int)]
abbrev CN (gc k : Nat) : Fa := .blk gc [.int .i64 (k : Int)] 144
abbrev TBL : Fa := .rd (some ⟨1, 0, none⟩) hashT
class SlZ (h : Zh) (s : Sl) (b : List UInt8) : Prop where
 len : s.n = b.length
 cap : s.n ≤ s.c
 nil : s.A = none → s.n = 0 ∧ s.c = 0
 rd : RdZ h s.A (bc b)
theorem SlZ.mono {h h' : Zh} (hl : LeZ h h') {s : Sl} {b : List UInt8} (x : SlZ h s b) : SlZ h' s b := ⟨x.len, x.cap, x.nil, x.rd.mono hl⟩
def trZ (n : Nat) (h : Zh) : Tr → Option Addr → Prop
 | .nil, p => p = none
 | .leaf k b, p => ∃ g s, p = some ⟨g, 0, none⟩ ∧ RdZ h p (Nd.cells ⟨.iface 275 (.agg (NLeaf.cells ⟨leafOf n k b, s⟩).toArray), dgT n (.leaf k b)⟩) ∧ SlZ h s b
 | .node l r, p => ∃ g pl pr, p = some ⟨g, 0, none⟩ ∧ RdZ h p (Nd.cells ⟨.iface 279 (.agg (NInner.cells ⟨pl, pr, dgT n l, dgT n r, ((l.cnt + r.cnt : Nat) : Int)⟩).toArray), dgT n (.node l r)⟩) ∧ trZ n h l pl ∧ trZ n h r pr
theorem trZ.mono {n : Nat} {h h' : Zh} (hl : LeZ h h') : ∀ {t : Tr} {p : Option Addr}, trZ n h t p → trZ n h' t p
 | .nil, _, x => x
 | .leaf _ _, _, ⟨g, s, e, r, b⟩ => ⟨g, s, e, r.mono hl, b.mono hl⟩
 | .node _ _, _, ⟨g, pl, pr, e, r, x, y⟩ => ⟨g, pl, pr, e, r.mono hl, trZ.mono hl x, trZ.mono hl y⟩
class TrZ (n : Nat) (h : Zh) (t : Tr) (p : Option Addr) : Prop where
 ok : trZ n h t p
instance (priority := 10) (n : Nat) (h h' : Zh) (t : Tr) (p : Option Addr) [hl : LeZ h h'] [x : TrZ n h t p] : TrZ n h' t p := ⟨x.ok.mono hl⟩
def subP (h : Zh) (b : Bool) : Option Addr → Option Addr
 | some ⟨g, 0, none⟩ => match h.cell g 0 with
  | some (.iface T (.agg cs)) => if T = 279 then (match cs[(if b then 1 else 0 : Nat)]? with | some (.pointer q) => q | _ => none) else none
  | _ => none
 | _ => none
theorem subP_node {h : Zh} {g : Nat} {x : NInner} {d : B32} (hr : RdZ h (some ⟨g, 0, none⟩) (Nd.cells ⟨.iface 279 (.agg x.cells.toArray), d⟩)) (b : Bool) : subP h b (some ⟨g, 0, none⟩) = if b then x.r else x.l := by
 have hc := hr.cell (j := 0) (v := .iface 279 (.agg x.cells.toArray)) rfl
 rw [Nat.zero_add] at hc
 have e : x.cells.toArray[(if b then 1 else 0 : Nat)]? = some (.pointer (if b then x.r else x.l)) := by cases b <;> simp [NInner.cells]
 unfold subP
 simp only [hc, if_true, e]
theorem subP_leaf {h : Zh} {g : Nat} {x : NLeaf} {d : B32} (hr : RdZ h (some ⟨g, 0, none⟩) (Nd.cells ⟨.iface 275 (.agg x.cells.toArray), d⟩)) (b : Bool) : subP h b (some ⟨g, 0, none⟩) = none := by
 have hc := hr.cell (j := 0) (v := .iface 275 (.agg x.cells.toArray)) rfl
 rw [Nat.zero_add] at hc
 have e : ¬ 275 = 279 := by decide
 unfold subP
 simp only [hc, if_neg e]
theorem trZ.sub {n : Nat} {h : Zh} {t : Tr} {p : Option Addr} (x : trZ n h t p) (b : Bool) : trZ n h (t.sub b) (subP h b p) := by
 rcases t with _ | ⟨kk, v⟩ | ⟨l, r⟩
 ·obtain rfl : p = none := x
  cases b <;> rfl
 ·obtain ⟨g, s, rfl, hr, _⟩ := x
  cases b <;> exact subP_leaf hr _
 ·obtain ⟨g, pl, pr, rfl, hr, hl, hr2⟩ := x
  rw [subP_node hr]
  cases b
  ·exact hl
  ·exact hr2
theorem TrZ.left {n : Nat} {h : Zh} {l r : Tr} {p : Option Addr} (x : TrZ n h (.node l r) p) : TrZ n h l (subP h false p) := ⟨x.ok.sub false⟩
theorem TrZ.right {n : Nat} {h : Zh} {l r : Tr} {p : Option Addr} (x : TrZ n h (.node l r) p) : TrZ n h r (subP h true p) := ⟨x.ok.sub true⟩
def wayK (key : B32) (t : Tr) : Nat → Tr
 | 0 => t
 | k + 1 => (wayK key t k).sub (bitAt key k)
def wayQ (h : Zh) (key : B32) (p : Option Addr) : Nat → Option Addr
 | 0 => p
 | k + 1 => subP h (bitAt key k) (wayQ h key p k)
theorem wayK_ok {n : Nat} {h : Zh} {t : Tr} {p : Option Addr} (x : trZ n h t p) (key : B32) : ∀ k, trZ n h (wayK key t k) (wayQ h key p k)
 | 0 => x
 | k + 1 => (wayK_ok x key k).sub _
instance (n : Nat) (h : Zh) (t : Tr) (p : Option Addr) (key : B32) (k : Nat) [x : TrZ n h t p] : TrZ n h (wayK key t k) (wayQ h key p k) := ⟨wayK_ok x.ok key k⟩
structure WayTo (key : B32) (t : Tr) (D : Nat) : Prop where
 le : D ≤ 256
 end_ : (wayK key t D).kind ≠ 2
 on : ∀ i, i < D → (wayK key t i).kind = 2
theorem wayK_mkT {key : B32} {m : List En} (h : Alike m 0) {D : Nat} (hD : D ≤ 256) (h2 : ∀ i, i < D → 1 < (atM key m i).length) : ∀ i, i ≤ D → wayK key (mkT m 0) i = mkT (atM key m i) i
 | 0, _ => by rw [wayK, atM]
 | i + 1, hi => by
  have hl := h2 i (by omega)
  rw [wayK, atM]
  rw [wayK_mkT h hD h2 i (by omega), mkT_two hl (by omega)]
  cases bitAt key i <;> simp only [Tr.sub]
theorem wayTo_mkT {key : B32} {m : List En} (h : Alike m 0) : ∃ D, WayTo key (mkT m 0) D ∧ endM key m 0 = (atM key m D, D) ∧ (atM key m D).length ≤ 1 ∧ (∀ i, i < D → 1 < (atM key m i).length) ∧ ∀ i, i ≤ D → wayK key (mkT m 0) i = mkT (atM key m i) i := by
 obtain ⟨D, _, hD, h1, h2, h3⟩ := endM_at (k := key) h 256 0 (by omega) (by omega)
 have hw := wayK_mkT (key := key) h hD (fun i hi => h3 i (by omega) hi)
 refine ⟨D, ⟨hD, ?_, fun i hi => ?_⟩, h1, h2, fun i hi => h3 i (by omega) hi, hw⟩
 ·rw [hw D (Nat.le_refl _), mkT_kind _ hD]; omega
 ·have := h3 i (by omega) hi
  rw [hw i (by omega), mkT_kind _ (by omega)]; omega
def Tr.cost : Tr → Nat
 | .nil => 0
 | .leaf .. => 2
 | .node l r => l.cost + r.cost + (if l.kind = 0 then 1 else 0) + (if r.kind = 0 then 1 else 0) + 1
instance (x : NInner) : RowAt x.cells 0 2 [.pointer x.l, .pointer x.r] := .mk' (pre := []) (post := x.dl.cells ++ (x.dr.cells ++ [.int .i64 x.n])) (by simp [NInner.cells]) rfl rfl
instance (x : NInner) (a b : Option Addr) : SetAt x.cells 0 [.pointer a, .pointer b] ({ x with l := a, r := b } : NInner).cells := .mk' (pre := []) (old := [.pointer x.l, .pointer x.r]) (post := x.dl.cells ++ (x.dr.cells ++ [.int .i64 x.n])) (by simp [NInner.cells]) (by simp [NInner.cells]) rfl rfl
instance (x : NInner) (a b : B32) : SetAt x.cells 2 (a.cells ++ b.cells) ({ x with dl := a, dr := b } : NInner).cells := .mk' (pre := [.pointer x.l, .pointer x.r]) (old := x.dl.cells ++ x.dr.cells) (post := [.int .i64 x.n]) (by simp [NInner.cells]) (by simp [NInner.cells]) rfl (by simp [B32.cells_length])
instance : TZ Tryz.prog 277 (zB32.cells ++ zB32.cells) := ⟨⟨.agg (zB32.cells ++ zB32.cells).toArray, by kernel_rfl, rfl⟩⟩
instance : TB Tryz.prog 277 (zB32.cells ++ zB32.cells) (plArr 32) := ⟨fun w ps cells h => run_build_array Tryz.underlying277 (z := (zB32.cells ++ zB32.cells).toArray) (n := 64) (by kernel_rfl) (s := 32) (by kernel_rfl) h⟩
instance (a b c : B32) : SetAt (a.cells ++ b.cells) 0 c.cells (c.cells ++ b.cells) := .mk' (pre := []) (old := a.cells) (post := b.cells) (by simp) (by simp) rfl (by rw [B32.cells_length, B32.cells_length])
instance (a b c : B32) : SetAt (a.cells ++ b.cells) 32 c.cells (a.cells ++ c.cells) := .mk' (pre := a.cells) (old := b.cells) (post := []) (by simp) (by simp) (B32.cells_length _) (by rw [B32.cells_length, B32.cells_length])
instance (a b : B32) : Row (a.cells ++ b.cells) 64 := ⟨by rw [List.length_append, B32.cells_length, B32.cells_length], fun v hv => (List.mem_append.1 hv).elim (B32.cells_one a v) (B32.cells_one b v)⟩
instance (a b : Option Addr) : Row [.pointer a, .pointer b] 2 := ⟨rfl, by simp [Value.oneCell']⟩
instance : TZero Tryz.prog 275 (.agg zNLeaf.cells.toArray) := ⟨fun w => by kernel_rfl⟩
instance : MethT Tryz.prog 275 "sparsetree/node.preimage" 253 := ⟨fun v args w => by kernel_rfl⟩
instance : MethT Tryz.prog 279 "sparsetree/node.preimage" 254 := ⟨fun v args w => by kernel_rfl⟩
end Go.Proofs.YtjhocljhhpkiiaaGreatDoor
/- U16 -/
namespace Go.Proofs.YtjhocljhhpkiiaaGreatDoor
open Go.RowKit
instance : Wd 64 4294967295 4294967295 := ⟨rfl⟩
theorem Mul64_s (n : Nat) (hn : n ≤ 256) : Spec Tryz.prog 224 [.int .u64 (((BitVec.ofNat 64 1).toNat : Nat) : Int), .int .u64 (((BitVec.ofNat 64 n).toNat : Nat) : Int)].toArray [] [] (fun _ : Unit => .tuple #[.int .u64 0, .int .u64 (n : Int)]) (fun _ => []) := by
 refine spec_of Tryz.func224 rfl (n := 51) rfl rfl ?_
 intro W
 refine yR ?_
 refine yS rfl ?_
 refine yS rfl ?_
 refine yN ?_
 refine yR ?_
 refine yM rfl ?_
 refine h_op (r_and rfl rfl) ?_
 refine yS rfl ?_
 refine yN ?_
 refine yR ?_
 refine yM rfl ?_
 refine h_op (r_shr rfl rfl) ?_
 refine yS rfl ?_
 refine yN ?_
 refine yR ?_
 refine yM rfl ?_
 refine h_op (r_and rfl rfl) ?_
 refine yS rfl ?_
 refine yN ?_
 refine yR ?_
 refine yM rfl ?_
 refine h_op (r_shr rfl rfl) ?_
 refine yS rfl ?_
 refine yN ?_
 refine yR ?_
 refine yM rfl ?_
 refine yM rfl ?_
 refine h_op (r_mulW rfl rfl) ?_
 refine yS rfl ?_
 refine yN ?_
 refine yR ?_
 refine yM rfl ?_
 refine yM rfl ?_
 refine h_op (r_mulW rfl rfl) ?_
 refine yM rfl ?_
 refine h_op (r_shr rfl rfl) ?_
 refine h_op (r_addW rfl rfl) ?_
 refine yS rfl ?_
 refine yN ?_
 refine yR ?_
 refine yM rfl ?_
 refine h_op (r_and rfl rfl) ?_
 refine yS rfl ?_
 refine yN ?_
 refine yR ?_
 refine yM rfl ?_
 refine h_op (r_shr rfl rfl) ?_
 refine yS rfl ?_
 refine yN ?_
 refine yR ?_
 refine yM rfl ?_
 refine yM rfl ?_
 refine yM rfl ?_
 refine h_op (r_mulW rfl rfl) ?_
 refine h_op (r_addW rfl rfl) ?_
 refine yS rfl ?_
 refine yN ?_
 refine yR ?_
 refine yM rfl ?_
 refine yM rfl ?_
 refine h_op (r_mulW rfl rfl) ?_
 refine yM rfl ?_
 refine h_op (r_addW rfl rfl) ?_
 refine yM rfl ?_
 refine h_op (r_shr rfl rfl) ?_
 refine h_op (r_addW rfl rfl) ?_
 refine yS rfl ?_
 refine yN ?_
 refine yR ?_
 refine yM rfl ?_
 refine yM rfl ?_
 refine h_op (r_mulW rfl rfl) ?_
 refine yS rfl ?_
 refine yN ?_
 refine h_ret ?_
 exact h_ret2 rfl (aI rfl (by obtain ⟨m, rfl⟩ : ∃ m : Fin 257, m.val = n := ⟨⟨n, by omega⟩, rfl⟩; clear hn; revert m; decide +kernel)) (aI rfl (by obtain ⟨m, rfl⟩ : ∃ m : Fin 257, m.val = n := ⟨⟨n, by omega⟩, rfl⟩; clear hn; revert m; decide +kernel)) fun w s => ⟨(), rfl, s.res (List.nil_sublist _) (by simp)⟩
theorem Mul_s (n : Nat) (hn : n ≤ 256) : Spec Tryz.prog 216 [.int .u64 (((BitVec.ofNat 64 1).toNat : Nat) : Int), .int .u64 (((BitVec.ofNat 64 n).toNat : Nat) : Int)].toArray [] [] (fun _ : Unit => .tuple #[.int .u64 0, .int .u64 (n : Int)]) (fun _ => []) := by
 refine spec_of Tryz.func216 rfl (n := 30) rfl rfl ?_
 intro W
 refine yR ?_
 refine yS rfl ?_
 refine yS rfl ?_
 refine yN ?_
 refine h_seq ?_
 refine h_condF rfl ?_
 refine h_skip ?_
 refine q_then ?_
 refine yR ?_
 refine yM rfl ?_
 refine yM rfl ?_
 refine h_call ((Mul64_s n hn).comes) rfl rfl rfl fun _ => ?_
 refine yM rfl ?_
 refine h_op (r_extract rfl rfl) ?_
 refine h_op (r_extract rfl rfl) ?_
 refine yS rfl ?_
 refine yS rfl ?_
 refine yN ?_
 refine yR ?_
 refine yM rfl ?_
 refine yM rfl ?_
 refine yS rfl ?_
 refine yS rfl ?_
 refine yN ?_
 refine h_ret ?_
 exact h_ret2 rfl rfl rfl fun w s => ⟨(), rfl, s.res (List.nil_sublist _) (by simp)⟩
def rep (k n : Nat) (x : B32) : List B32 := List.replicate k x ++ List.replicate (n - k) zB32
theorem rep_len (k n : Nat) (x : B32) (h : k ≤ n) : (rep k n x).length = n := by simp [rep]; omega
theorem rep_step (k n q : Nat) (x : B32) (hk : k + q ≤ n) : (dgs (rep k n x)).take (k * 32) ++ dgs (List.replicate q x) ++ (dgs (rep k n x)).drop (k * 32 + q * 32) = dgs (rep (k + q) n x) := by
 have h1 : rep k n x = List.replicate k x ++ (List.replicate q zB32 ++ List.replicate (n - (k + q)) zB32) := by
  unfold rep
  rw [List.replicate_append_replicate]
  congr 2
  omega
 have h2 : rep (k + q) n x = List.replicate k x ++ (List.replicate q x ++ List.replicate (n - (k + q)) zB32) := by
  unfold rep
  rw [← List.append_assoc, List.replicate_append_replicate]
 have l1 : (dgs (List.replicate k x)).length = k * 32 := by rw [dgs_len, List.length_replicate]
 have l2 : (dgs (List.replicate q zB32)).length = q * 32 := by rw [dgs_len, List.length_replicate]
 rw [h1, h2]
 simp only [dgs_append]
 generalize dgs (List.replicate k x) = a at *
 generalize dgs (List.replicate q zB32) = b at *
 rw [List.take_append_of_le_length (by omega), List.take_of_length_le (by omega), List.append_assoc]
 congr 2
 rw [List.drop_append, List.drop_of_length_le (by omega), List.nil_append, l1, show k * 32 + q * 32 - k * 32 = q * 32 by omega, List.drop_append, List.drop_of_length_le (by omega), l2, Nat.sub_self, List.drop_zero, List.nil_append]
theorem rd_le1 {w : World} {B : Option Addr} {x : B32} {q : Nat} (h : q ≤ 1) (hr : Rd w B x.cells) : Rd w B (dgs (List.replicate q x)) := by
 rcases (show q = 0 ∨ q = 1 by omega) with rfl | rfl
 ·exact Rd.nil _ _
 ·rw [show List.replicate 1 x = [x] from rfl, dgs_one']
  exact hr
theorem rep_pre {k n q : Nat} {x : B32} (h : q ≤ k) : ∀ (j : Nat) (v : Value), (dgs (List.replicate q x))[j]? = some v → (dgs (rep k n x))[j]? = some v := fun j v hv => by
 have h1 : rep k n x = List.replicate q x ++ (List.replicate (k - q) x ++ List.replicate (n - k) zB32) := by
  unfold rep
  rw [← List.append_assoc, List.replicate_append_replicate]
  congr 2
  omega
 rw [h1, dgs_append, List.getElem?_append_left (List.getElem?_eq_some_iff.1 hv).1]
 exact hv
theorem Repeat_s (x : B32) (n b o c : Nat) (hn : n ≤ 256) : Spec Tryz.prog 188 [.slice (some ⟨b, o, none⟩) 1 c, .int .i64 (n : Int)].toArray [.rd (some ⟨b, o, none⟩) x.cells] [] (fun g : Nat => .slice (some ⟨g, 0, none⟩) n n) (fun g => [.own (.slice (some ⟨g, 0, none⟩) n n) n 42 32 (dgs (List.replicate n x))]) := by
 refine spec_of Tryz.func188 rfl (n := 48) rfl rfl ?_
 intro W
 refine yR ?_
 refine yS rfl ?_
 refine yN ?_
 refine h_seq ?_
 refine yR ?_
 refine yM rfl ?_
 refine h_op (r_bool (r_lss rfl rfl) (decide_eq_false (by omega))) ?_
 refine yN ?_
 refine h_condF rfl ?_
 refine h_skip ?_
 refine q_then ?_
 refine yR ?_
 refine yM rfl ?_
 refine h_op (r_len rfl) ?_
 refine h_op (r_cNW rfl) ?_
 refine yM rfl ?_
 refine h_op (r_cNW rfl) ?_
 refine h_call ((Mul_s n hn).comes) rfl rfl rfl fun _ => ?_
 refine yM rfl ?_
 refine h_op (r_extract rfl rfl) ?_
 refine h_op (r_extract rfl rfl) ?_
 refine yS rfl ?_
 refine yS rfl ?_
 refine yN ?_
 refine h_seq ?_
 refine yR ?_
 refine yM rfl ?_
 refine h_op (r_bool (r_gtr rfl rfl) (show _ = false by decide)) ?_
 refine yM rfl ?_
 refine yM rfl ?_
 refine h_op (r_bool (r_gtr rfl rfl) (decide_eq_false (by omega))) ?_
 refine h_op (r_pick rfl rfl) ?_
 refine yN ?_
 refine h_condF rfl ?_
 refine h_skip ?_
 refine q_then ?_
 refine yR ?_
 refine yM rfl ?_
 refine h_op (r_cN rfl (IntWalk.i64_in _ (by omega))) ?_
 refine h_opX (x_make rfl rfl) fun g30 => ?_
 refine yS rfl ?_
 refine yN ?_
 refine yR ?_
 rw [made_dgs]
 rw [show List.replicate n zB32 = rep 0 n x by simp [rep]]
 obtain ⟨q, hq⟩ : ∃ q, q = Nat.min 1 n := ⟨_, rfl⟩
 have hq1 : q ≤ 1 := hq ▸ Nat.min_le_left 1 n
 have hq2 : q ≤ n := hq ▸ Nat.min_le_right 1 n
 have hq3 : 1 ≤ q ∨ n = 0 := by
  by_cases h0 : n = 0
  ·exact .inr h0
  ·exact .inl (by rw [hq]; exact Nat.le_min.2 ⟨Nat.le_refl _, by omega⟩)
 have hst := rep_step 0 n q x (by omega)
 have hl := rep_len 0 n x (by omega)
 refine yM rfl ?_
 refine yM rfl ?_
 refine h_opX (x_copyAt (q := q) (cs := dgs (List.replicate q x)) (xs' := dgs (rep (0 + q) n x)) rfl rfl (fun w hw => rd_le1 hq1 (hw.ok (.rd _ _) (by simp))) hq.symm (by rw [dgs_len, List.length_replicate]) (by rw [dgs_len, dgs_len, List.length_replicate, hl]; omega) (dgs_one _) (by rw [dgs_len, List.length_replicate]; simpa using hst)) fun _ => ?_
 refine yS rfl ?_
 refine yN ?_
 refine h_seq ?_
 refine h_block ?_
 rw [Nat.zero_add]
 refine h_loop (fun (k : Nat) => k ≤ n ∧ (1 ≤ k ∨ n = 0)) (fun (k : Nat) => [(8, .int .i64 (k : Int)), (7, .slice (some ⟨g30, 0, none⟩) n n)]) (fun (k : Nat) => [.own (.slice (some ⟨g30, 0, none⟩) n n) n 42 32 (dgs (rep k n x))]) (fun (k : Nat) => n - k) q (⟨hq2, hq3⟩) ⟨rfl, rfl, trivial⟩ (same) ?_
 clear hq hq1 hq2 hq3 hst hl
 intro k hk
 refine h_seq ?_
 refine yR ?_
 refine yM rfl ?_
 refine yM rfl ?_
 refine h_op (r_len rfl) ?_
 refine h_op (r_lss rfl rfl) ?_
 refine yN ?_
 refine h_cond rfl (fun h => ?_) (fun h => ?_)
 ·have hkn : k < n := by omega
  have hk1 : 1 ≤ k := by omega
  obtain ⟨q, hq⟩ : ∃ q, q = Nat.min k (n - k) := ⟨_, rfl⟩
  have hq1 : q ≤ k := hq ▸ Nat.min_le_left k (n - k)
  have hq2 : q ≤ n - k := hq ▸ Nat.min_le_right k (n - k)
  have hq3 : 1 ≤ q := hq ▸ Nat.le_min.2 ⟨hk1, by omega⟩
  have hst := rep_step k n q x (by omega)
  have hl := rep_len k n x (by omega)
  refine h_skip ?_
  refine q_then ?_
  refine h_block ?_
  refine ha_start [] [] mixed (same) ?_
  refine ha_takeP 0 rfl (r_move rfl) ?_
  refine ha_takeP 1 rfl (r_move rfl) ?_
  refine ha_takeP 2 rfl (r_move rfl) ?_
  refine ha_takeP 3 rfl (r_as (r_slL rfl rfl) (show _ = Value.slice (some ⟨g30, k * 32, none⟩) (n - k) (n - k) by rw [cutA_lt (by omega), Nat.zero_add])) ?_
  refine ha_takeP 4 rfl (r_move rfl) ?_
  refine ha_takeP 5 rfl (r_move rfl) ?_
  refine ha_takeP 6 rfl (r_as (r_slH rfl rfl) (show _ = Value.slice (some ⟨g30, 0, none⟩) k n by rw [cutA_lt (by omega)])) ?_
  refine ha_one 7 ?_
  refine ho_X 7 rfl (rk (x_copyAt (q := q) (cs := dgs (List.replicate q x)) (xs' := dgs (rep (k + q) n x)) rfl rfl (fun w hw => (fun j v hv => ⟨g30, 0, rfl, by rw [Nat.zero_add]; exact own_cell (hw.ok (.own _ _ _ _ _) (List.mem_cons_self ..)) (rep_pre hq1 j v hv)⟩)) hq.symm (by rw [dgs_len, List.length_replicate]) (by rw [dgs_len, dgs_len, List.length_replicate, hl]; omega) (dgs_one _) (by rw [dgs_len, List.length_replicate]; exact hst))) (fun _ => same) fun _ => ?_
  refine ha_takeP 8 rfl (r_add rfl rfl) ?_
  refine ha_takeP 9 rfl (r_assign rfl) ?_
  refine ha_done (by kernel_rfl) ?_
  refine q_block ?_
  exact h_back (k + q) (⟨by omega, by omega⟩) (by omega) ⟨rfl, rfl, trivial⟩ (same)
 ·obtain rfl : k = n := by omega
  rw [show rep k k x = List.replicate k x by simp [rep]]
  refine h_exit ?_
  refine q_thenE ?_
  refine q_thenE ?_
  refine q_blockE ?_
  refine q_then ?_
  refine yR ?_
  refine yM rfl ?_
  refine yS rfl ?_
  refine yN ?_
  refine h_ret ?_
  exact h_ret1 rfl rfl fun w s => ⟨g30, rfl, s.res (List.Sublist.refl _) (by simp [Fa.wr])⟩
theorem nilDigest_s (n : Nat) (hn : n ≤ 256) (gh gc k : Nat) (hk : k ≤ 1000000000000) : Spec Tryz.prog 44 [.pointer (some ⟨gh, 0, none⟩), .pointer none].toArray [.rd (some ⟨gh, 0, none⟩) [.pointer (some ⟨gc, 0, none⟩), .int .i64 (n : Int)], .rd (some ⟨1, 0, none⟩) hashT] [.blk gc [.int .i64 (k : Int)] 144] (fun _ : Unit => .agg (sumB n preE).cells.toArray) (fun _ => [.blk gc [.int .i64 ((k + 1 : Nat) : Int)] 144]) := by
 refine spec_of Tryz.func44 rfl (n := 14) rfl rfl ?_
 intro W
 refine yR ?_
 refine h_opX (x_alloc) fun g4 => ?_
 refine yN ?_
 refine h_seq ?_
 refine yR ?_
 refine yM rfl ?_
 refine h_op (r_nilR rfl rfl) ?_
 refine yN ?_
 refine h_condT rfl ?_
 refine yR ?_
 refine yM rfl ?_
 refine h_call (pEmpty_s.comes) rfl rfl rfl fun ⟨g8, c8⟩ => ?_
 dsimp only
 refine h_call ((HSum_s n hn gh gc k hk preE (some ⟨g8, 0, none⟩) c8 (fun h => by cases h) (by decide)).comes) rfl rfl rfl fun _ => ?_
 refine h_opS (s_storer rfl rfl) ?_
 refine yN ?_
 refine h_ret ?_
 refine q_thenR ?_
 exact h_ret1 rfl (rv_row rfl) fun w s => ⟨(), rfl, (same w s).res (List.Sublist.refl _) (by simp [Fa.wr])⟩
end Go.Proofs.YtjhocljhhpkiiaaGreatDoor
/- U33 -/
namespace Go.Proofs.YtjhocljhhpkiiaaGreatDoor
open Go.RowKit
section
variable (n : Nat) (h : Zh) (t : Tr) (p : Option Addr) [ht : TrZ n h t p]
include ht
theorem Kind_s : Spec Tryz.prog 122 [.pointer p].toArray [.zone false h] [] (fun _ : Unit => .int .i64 ((t.kind : Nat) : Int)) (fun _ => []) := by
 have ho := ht.ok
 clear ht
 refine spec_of Tryz.func122 rfl (n := 15) rfl rfl ?_
 intro W
 rcases t with _ | ⟨kk, b⟩ | ⟨l, r⟩
 ·obtain rfl : p = none := ho
  refine yR ?_
  refine yS rfl ?_
  refine yN ?_
  refine h_seq ?_
  refine yR ?_
  refine yM rfl ?_
  refine h_op (r_nilR rfl rfl) ?_
  refine yN ?_
  refine h_condT rfl ?_
  refine yR ?_
  refine yS rfl ?_
  refine yN ?_
  refine h_ret ?_
  refine q_thenR ?_
  exact h_ret1 rfl rfl fun w s => ⟨(), rfl, s.res (List.nil_sublist _) (by simp)⟩
 ·obtain ⟨g, s, rfl, hr, hs⟩ := ho
  refine yR ?_
  refine yS rfl ?_
  refine yN ?_
  refine h_seq ?_
  refine yR ?_
  refine yM rfl ?_
  refine h_op (r_nilR rfl rfl) ?_
  refine yN ?_
  refine h_condF rfl ?_
  refine h_skip ?_
  refine q_then ?_
  refine h_seq ?_
  refine yR ?_
  refine yM rfl ?_
  refine h_op (r_nilc rfl) ?_
  refine h_op (r_field rfl) ?_
  refine h_op (r_loadc rfl) ?_
  refine yN ?_
  refine h_block ?_
  refine yR ?_
  refine h_op (r_as2 rfl) ?_
  refine h_op (r_extract rfl rfl) ?_
  refine h_op (r_extract rfl rfl) ?_
  refine yN ?_
  refine h_condT rfl ?_
  refine yR ?_
  refine yS rfl ?_
  refine yN ?_
  refine h_ret ?_
  refine q_blockR ?_
  refine q_thenR ?_
  exact h_ret1 rfl rfl fun w s => ⟨(), rfl, s.res (List.nil_sublist _) (by simp)⟩
 ·obtain ⟨g, pl, pr, rfl, hr, hl, hr2⟩ := ho
  refine yR ?_
  refine yS rfl ?_
  refine yN ?_
  refine h_seq ?_
  refine yR ?_
  refine yM rfl ?_
  refine h_op (r_nilR rfl rfl) ?_
  refine yN ?_
  refine h_condF rfl ?_
  refine h_skip ?_
  refine q_then ?_
  refine h_seq ?_
  refine yR ?_
  refine yM rfl ?_
  refine h_op (r_nilc rfl) ?_
  refine h_op (r_field rfl) ?_
  refine h_op (r_loadc rfl) ?_
  refine yN ?_
  refine h_block ?_
  refine yR ?_
  refine h_op (r_as2n rfl) ?_
  refine h_op (r_extract rfl rfl) ?_
  refine h_op (r_extract rfl rfl) ?_
  refine yN ?_
  refine h_condF rfl ?_
  refine yR ?_
  refine h_op (r_as2 rfl) ?_
  refine h_op (r_extract rfl rfl) ?_
  refine h_op (r_extract rfl rfl) ?_
  refine yN ?_
  refine h_condT rfl ?_
  refine yR ?_
  refine yS rfl ?_
  refine yN ?_
  refine h_ret ?_
  refine q_blockR ?_
  refine q_thenR ?_
  exact h_ret1 rfl rfl fun w s => ⟨(), rfl, s.res (List.nil_sublist _) (by simp)⟩
end
theorem leaf_s (n : Nat) (h : Zh) (kk : B32) (b : List UInt8) (p : Option Addr) [ht : TrZ n h (.leaf kk b) p] : Spec Tryz.prog 181 [.pointer p].toArray [.zone false h] [] (fun s : {s : Sl // SlZ h s b} => .agg (NLeaf.cells ⟨leafOf n kk b, s.1⟩).toArray) (fun _ => []) := by
 obtain ⟨g, s, rfl, hr, hs⟩ := ht.ok
 refine spec_of Tryz.func181 rfl (n := 12) rfl rfl ?_
 intro W
 refine yR ?_
 refine h_opX (x_alloc) fun g2 => ?_
 refine yN ?_
 refine h_seq ?_
 refine yR ?_
 refine yM rfl ?_
 refine h_call ((Kind_s n h (.leaf kk b) (some ⟨g, 0, none⟩)).comes) rfl rfl rfl fun _ => ?_
 refine h_op (r_bool (r_neq rfl rfl) (show _ = false by simp [Tr.kind])) ?_
 refine yN ?_
 refine h_condF rfl ?_
 refine h_skip ?_
 refine q_then ?_
 refine yR ?_
 refine yM rfl ?_
 refine h_op (r_nilc rfl) ?_
 refine h_op (r_field rfl) ?_
 refine h_op (r_loadc rfl) ?_
 refine h_op (r_as1 rfl) ?_
 refine h_opS (s_storer rfl rfl) ?_
 refine yN ?_
 refine h_ret ?_
 exact h_ret1 rfl (rv_row rfl) fun w s' => ⟨⟨s, hs⟩, rfl, s'.res (List.nil_sublist _) (by simp)⟩
theorem leaf_no (n : Nat) (h : Zh) (t : Tr) (p : Option Addr) [ht : TrZ n h t p] (hk : t.kind ≠ 1) : Spec Tryz.prog 181 [.pointer p].toArray [.zone false h] [] (fun _ : Unit => .agg zNLeaf.cells.toArray) (fun _ => []) := by
 refine spec_of Tryz.func181 rfl (n := 12) rfl rfl ?_
 intro W
 refine yR ?_
 refine h_opX (x_alloc) fun g2 => ?_
 refine yN ?_
 refine h_seq ?_
 refine yR ?_
 refine yM rfl ?_
 refine h_call ((Kind_s n h t p).comes) rfl rfl rfl fun _ => ?_
 refine h_op (r_bool (r_neq rfl rfl) (show _ = true by simp; omega)) ?_
 refine yN ?_
 refine h_condT rfl ?_
 refine yR ?_
 refine h_op (r_build rfl) ?_
 refine h_opS (s_storer rfl rfl) ?_
 refine yN ?_
 refine h_ret ?_
 refine q_thenR ?_
 exact h_ret1 rfl (rv_row rfl) fun w s' => ⟨(), rfl, s'.res (List.nil_sublist _) (by simp)⟩
theorem Leaf_s (n : Nat) (h : Zh) (t : Tr) (p : Option Addr) [ht : TrZ n h t p] : Spec Tryz.prog 123 [.pointer p].toArray [.zone false h] [] (fun _ : Unit => .agg (leafT n t).cells.toArray) (fun _ => []) := by
 refine spec_of Tryz.func123 rfl (n := 6) rfl rfl ?_
 intro W
 rcases t with _ | ⟨kk, b⟩ | ⟨l, r⟩
 ·refine h_seq ?_
  refine h_reg ?_
  refine h_opX (x_alloc) fun g2 => ?_
  refine yN ?_
  refine yR ?_
  refine yM rfl ?_
  refine h_call ((leaf_no n h .nil p (by simp [Tr.kind])).comes) rfl rfl rfl fun _ => ?_
  refine h_op (r_fldr rfl) ?_
  refine h_opS (s_storer rfl rfl) ?_
  refine yN ?_
  refine h_ret ?_
  exact h_ret1 rfl (rv_row rfl) fun w s' => ⟨(), rfl, s'.res (List.nil_sublist _) (by simp)⟩
 ·refine h_seq ?_
  refine h_reg ?_
  refine h_opX (x_alloc) fun g2 => ?_
  refine yN ?_
  refine yR ?_
  refine yM rfl ?_
  refine h_call ((leaf_s n h kk b p).comes) rfl rfl rfl fun ⟨s, hs⟩ => ?_
  refine h_op (r_fldr rfl) ?_
  refine h_opS (s_storer rfl rfl) ?_
  refine yN ?_
  refine h_ret ?_
  exact h_ret1 rfl (rv_row rfl) fun w s' => ⟨(), rfl, s'.res (List.nil_sublist _) (by simp)⟩
 ·refine h_seq ?_
  refine h_reg ?_
  refine h_opX (x_alloc) fun g2 => ?_
  refine yN ?_
  refine yR ?_
  refine yM rfl ?_
  refine h_call ((leaf_no n h (.node l r) p (by simp [Tr.kind])).comes) rfl rfl rfl fun _ => ?_
  refine h_op (r_fldr rfl) ?_
  refine h_opS (s_storer rfl rfl) ?_
  refine yN ?_
  refine h_ret ?_
  exact h_ret1 rfl (rv_row rfl) fun w s' => ⟨(), rfl, s'.res (List.nil_sublist _) (by simp)⟩
theorem inner_s (n : Nat) (h : Zh) (l r : Tr) (p : Option Addr) [ht : TrZ n h (.node l r) p] : Spec Tryz.prog 183 [.pointer p].toArray [.zone false h] [] (fun _ : Unit => .agg (NInner.cells ⟨subP h false p, subP h true p, dgT n l, dgT n r, ((l.cnt + r.cnt : Nat) : Int)⟩).toArray) (fun _ => []) := by
 obtain ⟨g, pl, pr, rfl, hr, hl, hr2⟩ := ht.ok
 rw [subP_node hr, subP_node hr]
 refine spec_of Tryz.func183 rfl (n := 12) rfl rfl ?_
 intro W
 refine yR ?_
 refine h_opX (x_alloc) fun g2 => ?_
 refine yN ?_
 refine h_seq ?_
 refine yR ?_
 refine yM rfl ?_
 refine h_call ((Kind_s n h (.node l r) (some ⟨g, 0, none⟩)).comes) rfl rfl rfl fun _ => ?_
 refine h_op (r_bool (r_neq rfl rfl) (show _ = false by simp [Tr.kind])) ?_
 refine yN ?_
 refine h_condF rfl ?_
 refine h_skip ?_
 refine q_then ?_
 refine yR ?_
 refine yM rfl ?_
 refine h_op (r_nilc rfl) ?_
 refine h_op (r_field rfl) ?_
 refine h_op (r_loadc rfl) ?_
 refine h_op (r_as1 rfl) ?_
 refine h_opS (s_storer rfl rfl) ?_
 refine yN ?_
 refine h_ret ?_
 exact h_ret1 rfl (rv_row rfl) fun w s' => ⟨(), rfl, s'.res (List.nil_sublist _) (by simp)⟩
theorem inner_no (n : Nat) (h : Zh) (t : Tr) (p : Option Addr) [ht : TrZ n h t p] (hk : t.kind ≠ 2) : Spec Tryz.prog 183 [.pointer p].toArray [.zone false h] [] (fun _ : Unit => .agg zNInner.cells.toArray) (fun _ => []) := by
 refine spec_of Tryz.func183 rfl (n := 12) rfl rfl ?_
 intro W
 refine yR ?_
 refine h_opX (x_alloc) fun g2 => ?_
 refine yN ?_
 refine h_seq ?_
 refine yR ?_
 refine yM rfl ?_
 refine h_call ((Kind_s n h t p).comes) rfl rfl rfl fun _ => ?_
 refine h_op (r_bool (r_neq rfl rfl) (show _ = true by simp; omega)) ?_
 refine yN ?_
 refine h_condT rfl ?_
 refine yR ?_
 refine h_op (r_build rfl) ?_
 refine h_opS (s_storer rfl rfl) ?_
 refine yN ?_
 refine h_ret ?_
 refine q_thenR ?_
 exact h_ret1 rfl (rv_row rfl) fun w s' => ⟨(), rfl, s'.res (List.nil_sublist _) (by simp)⟩
theorem Left_s (n : Nat) (h : Zh) (t : Tr) (p : Option Addr) [ht : TrZ n h t p] : Spec Tryz.prog 128 [.pointer p].toArray [.zone false h] [] (fun _ : Unit => .pointer (subP h false p)) (fun _ => []) := by
 refine spec_of Tryz.func128 rfl (n := 7) rfl rfl ?_
 intro W
 by_cases hk : t.kind = 2
 ·rcases t with _ | ⟨kk, b⟩ | ⟨l, r⟩
  ·cases hk
  ·cases hk
  refine yR ?_
  refine yS rfl ?_
  refine yN ?_
  refine yR ?_
  refine yM rfl ?_
  refine h_call ((inner_s n h l r p).comes) rfl rfl rfl fun _ => ?_
  refine h_op (r_fldr rfl) ?_
  refine h_op (r_ixc rfl rfl (v := .pointer (subP h false p)) rfl) ?_
  refine yS rfl ?_
  refine yN ?_
  refine h_ret ?_
  exact h_ret1 rfl rfl fun w s' => ⟨(), rfl, s'.res (List.nil_sublist _) (by simp)⟩
 ·have e : subP h false p = none := by
   have := ht.ok.sub false
   rcases t with _ | ⟨kk, b⟩ | ⟨l, r⟩
   ·exact this
   ·exact this
   ·exact (hk rfl).elim
  rw [e]
  refine yR ?_
  refine yS rfl ?_
  refine yN ?_
  refine yR ?_
  refine yM rfl ?_
  refine h_call ((inner_no n h t p hk).comes) rfl rfl rfl fun _ => ?_
  refine h_op (r_fldr rfl) ?_
  refine h_op (r_ixc rfl rfl (v := .pointer none) rfl) ?_
  refine yS rfl ?_
  refine yN ?_
  refine h_ret ?_
  exact h_ret1 rfl rfl fun w s' => ⟨(), rfl, s'.res (List.nil_sublist _) (by simp)⟩
theorem Right_s (n : Nat) (h : Zh) (t : Tr) (p : Option Addr) [ht : TrZ n h t p] : Spec Tryz.prog 129 [.pointer p].toArray [.zone false h] [] (fun _ : Unit => .pointer (subP h true p)) (fun _ => []) := by
 refine spec_of Tryz.func129 rfl (n := 7) rfl rfl ?_
 intro W
 by_cases hk : t.kind = 2
 ·rcases t with _ | ⟨kk, b⟩ | ⟨l, r⟩
  ·cases hk
  ·cases hk
  refine yR ?_
  refine yS rfl ?_
  refine yN ?_
  refine yR ?_
  refine yM rfl ?_
  refine h_call ((inner_s n h l r p).comes) rfl rfl rfl fun _ => ?_
  refine h_op (r_fldr rfl) ?_
  refine h_op (r_ixc rfl rfl (v := .pointer (subP h true p)) rfl) ?_
  refine yS rfl ?_
  refine yN ?_
  refine h_ret ?_
  exact h_ret1 rfl rfl fun w s' => ⟨(), rfl, s'.res (List.nil_sublist _) (by simp)⟩
 ·have e : subP h true p = none := by
   have := ht.ok.sub true
   rcases t with _ | ⟨kk, b⟩ | ⟨l, r⟩
   ·exact this
   ·exact this
   ·exact (hk rfl).elim
  rw [e]
  refine yR ?_
  refine yS rfl ?_
  refine yN ?_
  refine yR ?_
  refine yM rfl ?_
  refine h_call ((inner_no n h t p hk).comes) rfl rfl rfl fun _ => ?_
  refine h_op (r_fldr rfl) ?_
  refine h_op (r_ixc rfl rfl (v := .pointer none) rfl) ?_
  refine yS rfl ?_
  refine yN ?_
  refine h_ret ?_
  exact h_ret1 rfl rfl fun w s' => ⟨(), rfl, s'.res (List.nil_sublist _) (by simp)⟩
theorem NLen_s (n : Nat) (h : Zh) (t : Tr) (p : Option Addr) [ht : TrZ n h t p] : Spec Tryz.prog 172 [.pointer p].toArray [.zone false h] [] (fun _ : Unit => .int .i64 ((t.cnt : Nat) : Int)) (fun _ => []) := by
 refine spec_of Tryz.func172 rfl (n := 9) rfl rfl ?_
 intro W
 rcases t with _ | ⟨kk, b⟩ | ⟨l, r⟩
 ·refine h_seq ?_
  refine h_reg ?_
  refine yS rfl ?_
  refine yN ?_
  refine h_seq ?_
  refine yR ?_
  refine yM rfl ?_
  refine h_call ((Kind_s n h .nil p).comes) rfl rfl rfl fun _ => ?_
  refine h_op (r_bool (r_eql rfl rfl) (show _ = false by simp [Tr.kind])) ?_
  refine yN ?_
  refine h_condF rfl ?_
  refine h_skip ?_
  refine q_then ?_
  refine yR ?_
  refine yM rfl ?_
  refine h_call ((inner_no n h .nil p (by simp [Tr.kind])).comes) rfl rfl rfl fun _ => ?_
  refine h_op (r_fldc rfl) ?_
  refine yS rfl ?_
  refine yN ?_
  refine h_ret ?_
  exact h_ret1 rfl rfl fun w s' => ⟨(), rfl, s'.res (List.nil_sublist _) (by simp)⟩
 ·refine h_seq ?_
  refine h_reg ?_
  refine yS rfl ?_
  refine yN ?_
  refine h_seq ?_
  refine yR ?_
  refine yM rfl ?_
  refine h_call ((Kind_s n h (.leaf kk b) p).comes) rfl rfl rfl fun _ => ?_
  refine h_op (r_bool (r_eql rfl rfl) (show _ = true by simp [Tr.kind])) ?_
  refine yN ?_
  refine h_condT rfl ?_
  refine yR ?_
  refine yS rfl ?_
  refine yN ?_
  refine h_ret ?_
  refine q_thenR ?_
  exact h_ret1 rfl rfl fun w s' => ⟨(), rfl, s'.res (List.nil_sublist _) (by simp)⟩
 ·refine h_seq ?_
  refine h_reg ?_
  refine yS rfl ?_
  refine yN ?_
  refine h_seq ?_
  refine yR ?_
  refine yM rfl ?_
  refine h_call ((Kind_s n h (.node l r) p).comes) rfl rfl rfl fun _ => ?_
  refine h_op (r_bool (r_eql rfl rfl) (show _ = false by simp [Tr.kind])) ?_
  refine yN ?_
  refine h_condF rfl ?_
  refine h_skip ?_
  refine q_then ?_
  refine yR ?_
  refine yM rfl ?_
  refine h_call ((inner_s n h l r p).comes) rfl rfl rfl fun _ => ?_
  refine h_op (r_fldc rfl) ?_
  refine yS rfl ?_
  refine yN ?_
  refine h_ret ?_
  exact h_ret1 rfl rfl fun w s' => ⟨(), rfl, s'.res (List.nil_sublist _) (by simp)⟩
theorem Digest_s (n : Nat) (hn : n ≤ 256) (gh gc k : Nat) (hk : k ≤ 1000000000000) (h : Zh) (t : Tr) (p : Option Addr) [ht : TrZ n h t p] : Spec Tryz.prog 44 [.pointer (some ⟨gh, 0, none⟩), .pointer p].toArray [HR gh gc n, .zone false h, TBL] [CN gc k] (fun _ : Unit => .agg (dgT n t).cells.toArray) (fun _ => [CN gc (k + if t.kind = 0 then 1 else 0)]) := by
 have ho := ht.ok
 rcases t with _ | ⟨kk, b⟩ | ⟨l, r⟩
 ·obtain rfl : p = none := ho
  refine spec_of Tryz.func44 rfl (n := 14) rfl rfl ?_
  intro W
  refine yR ?_
  refine h_opX (x_alloc) fun g4 => ?_
  refine yN ?_
  refine h_seq ?_
  refine yR ?_
  refine yM rfl ?_
  refine h_op (r_nilR rfl rfl) ?_
  refine yN ?_
  refine h_condT rfl ?_
  refine yR ?_
  refine yM rfl ?_
  refine h_call (pEmpty_s.comes) rfl rfl rfl fun ⟨g8, c8⟩ => ?_
  dsimp only
  refine h_call ((HSum_s n hn gh gc k hk preE (some ⟨g8, 0, none⟩) c8 (fun h => by cases h) (by decide)).comes) rfl rfl rfl fun _ => ?_
  refine h_opS (s_storer rfl rfl) ?_
  refine yN ?_
  refine h_ret ?_
  refine q_thenR ?_
  exact h_ret1 rfl (rv_row rfl) fun w s => ⟨(), rfl, (same (L' := [CN gc (k + 1)]) w s).res (List.Sublist.refl _) (by simp [Fa.wr])⟩
 ·obtain ⟨g, s, rfl, hr, hs⟩ := ho
  refine spec_of Tryz.func44 rfl (n := 14) rfl rfl ?_
  intro W
  refine yR ?_
  refine h_opX (x_alloc) fun g4 => ?_
  refine yN ?_
  refine h_seq ?_
  refine yR ?_
  refine yM rfl ?_
  refine h_op (r_nilR rfl rfl) ?_
  refine yN ?_
  refine h_condF rfl ?_
  refine h_skip ?_
  refine q_then ?_
  refine yR ?_
  refine yM rfl ?_
  refine h_op (r_nilc rfl) ?_
  refine h_op (r_field rfl) ?_
  refine h_op (r_loadr rfl) ?_
  refine h_opS (s_storer rfl rfl) ?_
  refine yN ?_
  refine h_ret ?_
  exact h_ret1 rfl (rv_row rfl) fun w s => ⟨(), rfl, (same (L' := [CN gc k]) w s).res (List.Sublist.refl _) (by simp [Fa.wr])⟩
 ·obtain ⟨g, pl, pr, rfl, hr, hl, hr2⟩ := ho
  refine spec_of Tryz.func44 rfl (n := 14) rfl rfl ?_
  intro W
  refine yR ?_
  refine h_opX (x_alloc) fun g4 => ?_
  refine yN ?_
  refine h_seq ?_
  refine yR ?_
  refine yM rfl ?_
  refine h_op (r_nilR rfl rfl) ?_
  refine yN ?_
  refine h_condF rfl ?_
  refine h_skip ?_
  refine q_then ?_
  refine yR ?_
  refine yM rfl ?_
  refine h_op (r_nilc rfl) ?_
  refine h_op (r_field rfl) ?_
  refine h_op (r_loadr rfl) ?_
  refine h_opS (s_storer rfl rfl) ?_
  refine yN ?_
  refine h_ret ?_
  exact h_ret1 rfl (rv_row rfl) fun w s => ⟨(), rfl, (same (L' := [CN gc k]) w s).res (List.Sublist.refl _) (by simp [Fa.wr])⟩
end Go.Proofs.YtjhocljhhpkiiaaGreatDoor
