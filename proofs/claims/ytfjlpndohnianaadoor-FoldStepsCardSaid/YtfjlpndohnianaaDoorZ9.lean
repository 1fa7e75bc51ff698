/- The reference's preimages; what is the same; The rules of a proof's form, and its check; Rows of digests; Repeat; Arguments of this translation, opened; what the law's condition says of the table of rounds; Repeat; What a proof's siblings are, expanded. Plain Lean; A proof's siblings, expanded: the program; A range over a function that makes what it yields: new facts come with each round; fold: the end, Backward (joined texts: U13 U14 U15 TC U16 E10 U17 N9 U18) -/
import Derived.Test.YtfjlpndohnianaaDoorZ8
import Derived.LaidMore
import Derived.Stop.Joined
set_option linter.all false
/- U13 -/
namespace Go.Proofs.YtfjlpndohnianaaDoor
set_option linter.unusedSimpArgs false
set_option linter.unusedVariables false
open Go.RowKit
theorem snocB (t : List UInt8) (a : List UInt8) (k : Nat) (h : k < a.length) : (t ++ a.take k) ++ [UInt8.ofBitVec (a.getD k 0).toBitVec] = t ++ a.take (k + 1) := by
  rw [take_snoc (d := 0) h, List.append_assoc]
theorem two_s (t : UInt8) (a b : B32) : Spec Tryd.prog 28 [.int .u8 (t.toNat : Int), .agg a.cells.toArray, .agg b.cells.toArray].toArray [] [] (fun u : Nat × Nat => .slice (some ⟨u.1, 0, none⟩) 65 u.2) (fun u => [.own (.slice (some ⟨u.1, 0, none⟩) 65 u.2) 65 5 1 (bc (t :: (a.1 ++ b.1)))]) := by
  have ha := a.2
  have hb := b.2
  refine spec_of Tryd.func28 rfl (n := 33) rfl rfl ?_
  intro W
  refine h_seq ?_
  refine h_reg ?_
  refine h_opX (x_box rfl) fun g4 => ?_
  refine h_opX (x_box rfl) fun g5 => ?_
  refine h_op (r_assign rfl) ?_
  refine h_nil ?_
  refine q_then ?_
  refine h_seq ?_
  refine h_reg ?_
  refine h_op (r_move rfl) ?_
  refine h_opX (x_bsl rfl rfl) fun g11 => ?_
  refine h_op (r_assign rfl) ?_
  refine h_nil ?_
  refine q_then ?_
  refine h_seq ?_
  refine h_seq ?_
  refine h_reg ?_
  refine h_op (r_assign rfl) ?_
  refine h_nil ?_
  refine q_then ?_
  refine h_block ?_
  change H _ _ _ _ _ (.own (.slice (some ⟨g11, 0, none⟩) (1 + 0) 1) (1 + 0) _ _ (bc ([t] ++ a.1.take 0)) :: _) _
  refine h_loop (fun (s : Nat × Nat × Nat) => s.1 ≤ 32) (fun (s : Nat × Nat × Nat) => [(8, .int .i64 (s.1 : Int)), (7, .slice (some ⟨s.2.1, 0, none⟩) (1 + s.1) s.2.2), (4, .pointer (some ⟨g4, 0, none⟩)), (5, .pointer (some ⟨g5, 0, none⟩))]) (fun (s : Nat × Nat × Nat) => [.own (.slice (some ⟨s.2.1, 0, none⟩) (1 + s.1) s.2.2) (1 + s.1) 5 1 (bc ([t] ++ a.1.take s.1)), .blk g5 b.cells 22, .blk g4 a.cells 22]) (fun (s : Nat × Nat × Nat) => 32 - s.1) (0, g11, 1) ((show 0 ≤ 32 by omega)) ⟨rfl, rfl, rfl, rfl, trivial⟩ (same) ?_
  rintro ⟨k, g, c⟩ hk
  dsimp only at hk ⊢
  refine h_seq ?_
  refine h_seq ?_
  refine h_reg ?_
  refine h_op (r_move rfl) ?_
  refine h_op (r_lss rfl rfl) ?_
  refine h_nil ?_
  refine q_then ?_
  refine h_cond rfl (fun h => ?_) (fun h => ?_)
  · have hs := snocB [t] a.1 k (by omega)
    refine h_skip ?_
    refine q_then ?_
    refine h_seq ?_
    refine h_block ?_
    refine h_reg ?_
    refine h_op (r_move rfl) ?_
    refine h_op (r_move rfl) ?_
    refine h_op (r_idxA rfl rfl) ?_
    refine h_op (r_nth rfl (bc_at' (by omega))) ?_
    refine h_opX (x_bsl rfl rfl) fun g20 => ?_
    refine h_opX (x_app1B rfl rfl) fun ⟨g21, c21⟩ => ?_
    refine h_op (r_assign rfl) ?_
    refine h_nil ?_
    refine q_block ?_
    refine q_then ?_
    refine h_reg ?_
    refine h_op (r_move rfl) ?_
    refine h_op (r_add rfl rfl) ?_
    refine h_op (r_assign rfl) ?_
    refine h_nil ?_
    rw [hs]
    exact h_back (k + 1, g21, c21) ((show k + 1 ≤ 32 by omega)) ((show 32 - (k + 1) < 32 - k by omega)) ⟨rfl, rfl, rfl, rfl, trivial⟩ (same)
  · obtain rfl : k = 32 := by omega
    refine h_exit ?_
    refine q_thenE ?_
    refine q_thenE ?_
    refine q_blockE ?_
    refine q_then ?_
    refine h_seq ?_
    refine h_seq ?_
    refine h_reg ?_
    refine h_op (r_assign rfl) ?_
    refine h_nil ?_
    refine q_then ?_
    refine h_block ?_
    rw [show [t] ++ a.1.take 32 = (t :: a.1) ++ b.1.take 0 by rw [List.take_of_length_le (by omega)]; simp]
    change H _ _ _ _ _ (.own (.slice (some ⟨g, 0, none⟩) (33 + 0) c) (33 + 0) _ _ _ :: _) _
    refine h_loop (fun (s : Nat × Nat × Nat) => s.1 ≤ 32) (fun (s : Nat × Nat × Nat) => [(9, .int .i64 (s.1 : Int)), (7, .slice (some ⟨s.2.1, 0, none⟩) (33 + s.1) s.2.2), (5, .pointer (some ⟨g5, 0, none⟩))]) (fun (s : Nat × Nat × Nat) => [.own (.slice (some ⟨s.2.1, 0, none⟩) (33 + s.1) s.2.2) (33 + s.1) 5 1 (bc ((t :: a.1) ++ b.1.take s.1)), .blk g5 b.cells 22]) (fun (s : Nat × Nat × Nat) => 32 - s.1) (0, g, c) ((show 0 ≤ 32 by omega)) ⟨rfl, rfl, rfl, trivial⟩ (same) ?_
    rintro ⟨k, g, c⟩ hk
    dsimp only at hk ⊢
    refine h_seq ?_
    refine h_seq ?_
    refine h_reg ?_
    refine h_op (r_move rfl) ?_
    refine h_op (r_lss rfl rfl) ?_
    refine h_nil ?_
    refine q_then ?_
    refine h_cond rfl (fun h => ?_) (fun h => ?_)
    · have hs := snocB (t :: a.1) b.1 k (by omega)
      refine h_skip ?_
      refine q_then ?_
      refine h_seq ?_
      refine h_block ?_
      refine h_reg ?_
      refine h_op (r_move rfl) ?_
      refine h_op (r_move rfl) ?_
      refine h_op (r_idxA rfl rfl) ?_
      refine h_op (r_nth rfl (bc_at' (by omega))) ?_
      refine h_opX (x_bsl rfl rfl) fun g30 => ?_
      refine h_opX (x_app1B rfl rfl) fun ⟨g31, c31⟩ => ?_
      refine h_op (r_assign rfl) ?_
      refine h_nil ?_
      refine q_block ?_
      refine q_then ?_
      refine h_reg ?_
      refine h_op (r_move rfl) ?_
      refine h_op (r_add rfl rfl) ?_
      refine h_op (r_assign rfl) ?_
      refine h_nil ?_
      rw [hs]
      exact h_back (k + 1, g31, c31) ((show k + 1 ≤ 32 by omega)) ((show 32 - (k + 1) < 32 - k by omega)) ⟨rfl, rfl, rfl, trivial⟩ (same)
    · obtain rfl : k = 32 := by omega
      rw [show (t :: a.1) ++ b.1.take 32 = t :: (a.1 ++ b.1) by rw [List.take_of_length_le (by omega)]; simp]
      refine h_exit ?_
      refine q_thenE ?_
      refine q_thenE ?_
      refine q_blockE ?_
      refine q_then ?_
      refine h_seq ?_
      refine h_reg ?_
      refine h_op (r_move rfl) ?_
      refine h_op (r_assign rfl) ?_
      refine h_nil ?_
      refine q_then ?_
      refine h_ret ?_
      exact h_ret1 rfl rfl fun w s => ⟨(g, c), rfl, s.res ((List.nil_sublist _).cons_cons _) (by simp [Fa.wr])⟩
theorem rLeaf_s (l : Leaf) : Spec Tryd.prog 13 [.agg l.cells.toArray].toArray [] [] (fun u : Nat × Nat => .slice (some ⟨u.1, 0, none⟩) (preL l).length u.2) (fun u => [.own (.slice (some ⟨u.1, 0, none⟩) (preL l).length u.2) (preL l).length 5 1 (bc (preL l))]) := by
  rw [preL_len]
  refine spec_of Tryd.func13 rfl (n := 8) rfl rfl ?_
  intro W
  refine h_seq ?_
  refine h_reg ?_
  refine h_opX (x_box rfl) fun g1 => ?_
  refine h_op (r_assign rfl) ?_
  refine h_nil ?_
  refine q_then ?_
  refine h_seq ?_
  refine h_reg ?_
  refine h_op (r_field rfl) ?_
  refine h_op (r_loadr rfl) ?_
  refine h_op (r_field rfl) ?_
  refine h_op (r_loadr rfl) ?_
  refine h_call ((two_s 0 l.key l.value).comes) rfl rfl rfl fun ⟨g, c⟩ => ?_
  dsimp only
  refine h_op (r_assign rfl) ?_
  refine h_nil ?_
  refine q_then ?_
  refine h_ret ?_
  exact h_ret1 rfl rfl fun w s => ⟨(g, c), rfl, s.res ((List.nil_sublist _).cons_cons _) (by simp [Fa.wr])⟩
theorem rNode_s (a b : B32) : Spec Tryd.prog 36 [.agg a.cells.toArray, .agg b.cells.toArray].toArray [] [] (fun u : Nat × Nat => .slice (some ⟨u.1, 0, none⟩) (preN a b).length u.2) (fun u => [.own (.slice (some ⟨u.1, 0, none⟩) (preN a b).length u.2) (preN a b).length 5 1 (bc (preN a b))]) := by
  rw [preN_len]
  refine spec_of Tryd.func36 rfl (n := 8) rfl rfl ?_
  intro W
  refine h_seq ?_
  refine h_reg ?_
  refine h_opX (x_box rfl) fun g2 => ?_
  refine h_opX (x_box rfl) fun g3 => ?_
  refine h_op (r_assign rfl) ?_
  refine h_nil ?_
  refine q_then ?_
  refine h_seq ?_
  refine h_reg ?_
  refine h_op (r_loadr rfl) ?_
  refine h_op (r_loadr rfl) ?_
  refine h_call ((two_s 1 a b).comes) rfl rfl rfl fun ⟨g, c⟩ => ?_
  dsimp only
  refine h_op (r_assign rfl) ?_
  refine h_nil ?_
  refine q_then ?_
  refine h_ret ?_
  exact h_ret1 rfl rfl fun w s => ⟨(g, c), rfl, s.res ((List.nil_sublist _).cons_cons _) (by simp [Fa.wr])⟩
theorem rEmpty_s (n : Nat) (hn : n ≤ 256) : Spec Tryd.prog 11 [.int .i64 (n : Int)].toArray [] [] (fun _ : Unit => .agg (sumB n preE).cells.toArray) (fun _ => []) := by
  refine spec_of Tryd.func11 rfl (n := 6) rfl rfl ?_
  intro W
  refine h_seq ?_
  refine h_reg ?_
  refine h_opX (x_alloc) fun g2 => ?_
  refine h_nil ?_
  refine q_then ?_
  refine h_seq ?_
  refine h_reg ?_
  refine h_op (r_move rfl) ?_
  refine h_opX (x_bsl rfl rfl) fun g4 => ?_
  change H _ _ _ _ _ (.own (.slice (some ⟨g4, 0, none⟩) 1 1) 1 _ _ (bc preE) :: _) _
  refine h_call ((refSum5_s n hn preE (some ⟨g4, 0, none⟩) 1 (fun h => by cases h) (by decide)).comes) rfl rfl rfl fun _ => ?_
  refine h_opS (s_storer rfl rfl) ?_
  refine h_nil ?_
  refine q_then ?_
  refine h_ret ?_
  exact h_ret1 rfl (rv_row rfl) fun w s => ⟨(), rfl, s.res (List.nil_sublist _) (by simp)⟩
theorem Rd.some {w : World} {B : Option Addr} {cs : List Value} (h : Rd w B cs) (hc : 0 < cs.length) : ∃ b o, B = some ⟨b, o, none⟩ := by
  obtain ⟨b, o, e, _⟩ := h 0 _ (List.getElem?_eq_getElem hc)
  exact ⟨b, o, e⟩
theorem Same_yes (l : List UInt8) (B B' : Option Addr) (c c' : Nat) (hl : l.length ≤ 1000000000) : Spec Tryd.prog 18 [.slice B l.length c, .slice B' l.length c'].toArray [.rd B (bc l), .rd B' (bc l)] [] (fun _ : Unit => .bool true) (fun _ => []) := by
  refine spec_of Tryd.func18 rfl (n := 26) rfl rfl ?_
  intro W
  refine h_seq ?_
  refine h_reg ?_
  refine h_op (r_assign rfl) ?_
  refine h_nil ?_
  refine q_then ?_
  refine h_seq ?_
  refine h_seq ?_
  refine h_reg ?_
  refine h_op (r_move rfl) ?_
  refine h_op (r_len rfl) ?_
  refine h_op (r_move rfl) ?_
  refine h_op (r_len rfl) ?_
  refine h_op (r_neq rfl rfl) ?_
  refine h_nil ?_
  refine q_then ?_
  refine h_no rfl ((fun h => h rfl)) ?_
  refine h_skip ?_
  refine q_then ?_
  refine h_seq ?_
  refine h_seq ?_
  refine h_reg ?_
  refine h_op (r_assign rfl) ?_
  refine h_nil ?_
  refine q_then ?_
  refine h_block ?_
  refine h_loop (fun (k : Nat) => k ≤ l.length) (fun (k : Nat) => [(5, .int .i64 (k : Int)), (0, .slice B l.length c), (1, .slice B' l.length c')]) (fun (k : Nat) => [.rd B (bc l), .rd B' (bc l)]) (fun (k : Nat) => l.length - k) 0 (Nat.zero_le _) ⟨rfl, rfl, rfl, trivial⟩ (same) ?_
  intro k hk
  refine h_seq ?_
  refine h_seq ?_
  refine h_reg ?_
  refine h_op (r_move rfl) ?_
  refine h_op (r_move rfl) ?_
  refine h_op (r_len rfl) ?_
  refine h_op (r_lss rfl rfl) ?_
  refine h_nil ?_
  refine q_then ?_
  refine h_cond rfl (fun h => ?_) (fun h => ?_)
  · refine h_pure (φ := (∃ b o, B = some ⟨b, o, none⟩) ∧ ∃ b o, B' = some ⟨b, o, none⟩) (fun w s => ⟨Rd.some (s.ok (.rd B (bc l)) (by simp)) (by rw [bc_length]; omega), Rd.some (s.ok (.rd B' (bc l)) (by simp)) (by rw [bc_length]; omega)⟩) ?_
    rintro ⟨⟨b, o, rfl⟩, b', o', rfl⟩
    refine h_skip ?_
    refine q_then ?_
    refine h_seq ?_
    refine h_block ?_
    refine h_seq ?_
    refine ha_start [.rd (some ⟨b, o, none⟩) (bc l), .rd (some ⟨b', o', none⟩) (bc l)] [] mixed (same) ?_
    refine ha_takeP 0 rfl (r_move rfl) ?_
    refine ha_takeP 1 rfl (r_move rfl) ?_
    refine ha_takeP 2 rfl (r_idx rfl rfl) ?_
    refine ha_take 3 rfl (r_nth rfl (bc_at' (by omega))) ?_
    refine ha_takeP 4 rfl (r_move rfl) ?_
    refine ha_takeP 5 rfl (r_move rfl) ?_
    refine ha_takeP 6 rfl (r_idx rfl rfl) ?_
    refine ha_take 7 rfl (r_nth rfl (bc_at' (by omega))) ?_
    refine ha_takeP 8 rfl (r_neq rfl rfl) ?_
    refine ha_done (by kernel_rfl) ?_
    refine q_then ?_
    refine h_no rfl ((fun h => h rfl)) ?_
    refine h_skip ?_
    refine q_block ?_
    refine q_then ?_
    refine h_reg ?_
    refine h_op (r_move rfl) ?_
    refine h_op (r_add rfl rfl) ?_
    refine h_op (r_assign rfl) ?_
    refine h_nil ?_
    exact h_back (k + 1) (by omega) (by omega) ⟨rfl, rfl, rfl, trivial⟩ (same)
  · refine h_exit ?_
    refine q_thenE ?_
    refine q_thenE ?_
    refine q_blockE ?_
    refine q_then ?_
    refine h_seq ?_
    refine h_reg ?_
    refine h_op (r_assign rfl) ?_
    refine h_nil ?_
    refine q_then ?_
    refine h_ret ?_
    exact h_ret1 rfl rfl fun w s => ⟨(), rfl, s.res (List.nil_sublist _) (by simp)⟩
end Go.Proofs.YtfjlpndohnianaaDoor
/- U14 -/
namespace Go.Proofs.YtfjlpndohnianaaDoor
set_option linter.unusedSimpArgs false
set_option linter.unusedVariables false
open Go.RowKit
def okJ (p : Proof) : Nat → Bool
  | 0 => decide (p.kind = 0) || decide (p.kind = 1)
  | 1 => decide (0 ≤ p.depth) && decide (p.depth ≤ 256)
  | 2 => decide (p.kind = 1) || decide (p.leaf = zLeaf)
  | 3 => decide (lastI p.bitmap 256 = p.depth - 1)
  | 4 => decide (((depths p.bitmap).length : Int) = (p.sibs.n : Int))
  | _ => true
/-- the error of a proof's form -/
def checkP (p : Proof) : Int := if okJ p 0 = false then 7 else if okJ p 1 = false then 5 else if okJ p 2 = false then 5 else if okJ p 3 = false then 5 else if okJ p 4 = false then 5 else 0
theorem checkP_bad {p : Proof} {k : Nat} (hk : k < 5) (h : ∀ j, j < k → okJ p j = true) (hb : okJ p k = false) : checkP p = if k = 0 then 7 else 5 := by
  unfold checkP
  rcases (show k = 0 ∨ k = 1 ∨ k = 2 ∨ k = 3 ∨ k = 4 by omega) with rfl | rfl | rfl | rfl | rfl
  · rw [if_pos hb]; rfl
  · rw [h 0 (by omega), if_neg (by simp), if_pos hb]; rfl
  · rw [h 0 (by omega), if_neg (by simp), h 1 (by omega), if_neg (by simp), if_pos hb]; rfl
  · rw [h 0 (by omega), if_neg (by simp), h 1 (by omega), if_neg (by simp), h 2 (by omega), if_neg (by simp), if_pos hb]; rfl
  · rw [h 0 (by omega), if_neg (by simp), h 1 (by omega), if_neg (by simp), h 2 (by omega), if_neg (by simp), h 3 (by omega), if_neg (by simp), if_pos hb]; rfl
theorem checkP_good {p : Proof} (h : ∀ j, j < 5 → okJ p j = true) : checkP p = 0 := by
  unfold checkP
  rw [h 0 (by omega), if_neg (by simp), h 1 (by omega), if_neg (by simp), h 2 (by omega), if_neg (by simp), h 3 (by omega), if_neg (by simp), h 4 (by omega), if_neg (by simp)]
theorem checkP_zero {p : Proof} (h : checkP p = 0) : ∀ j, j < 5 → okJ p j = true := by
  intro j hj
  induction j using Nat.strongRecOn with
  | ind j ih =>
    cases hb : okJ p j with
    | true => rfl
    | false =>
      rw [checkP_bad hj (fun i hi => ih i hi (by omega)) hb] at h
      split at h <;> cases h
theorem rule1_s (p : Proof) (b : B32) : Spec Tryd.prog 71 [.agg p.cells.toArray, .agg b.cells.toArray].toArray [] [] (fun _ : Unit => .bool (okJ p 0)) (fun _ => []) := by
  refine spec_of Tryd.func71 rfl (n := 13) rfl rfl ?_
  intro W
  by_cases h : p.kind = 0
  · refine h_seq ?_
    refine h_reg ?_
    refine h_opX (x_box rfl) fun g2 => ?_
    refine h_opX (x_box rfl) fun g3 => ?_
    refine h_op (r_assign rfl) ?_
    refine h_nil ?_
    refine q_then ?_
    refine h_seq ?_
    refine h_reg ?_
    refine h_op (r_field rfl) ?_
    refine h_op (r_loadc rfl) ?_
    refine h_op (r_bool (r_eql rfl rfl) (decide_eq_true h)) ?_
    refine h_op (r_move rfl) ?_
    refine h_opOff ?_
    refine h_opOff ?_
    refine h_opOff ?_
    refine h_op (r_pick rfl rfl) ?_
    refine h_op (r_assign rfl) ?_
    refine h_nil ?_
    refine q_then ?_
    refine h_ret ?_
    exact h_ret1 rfl (aB rfl (by simp [okJ, h])) fun w s => ⟨(), rfl, s.res (List.nil_sublist _) (by simp)⟩
  · refine h_seq ?_
    refine h_reg ?_
    refine h_opX (x_box rfl) fun g2 => ?_
    refine h_opX (x_box rfl) fun g3 => ?_
    refine h_op (r_assign rfl) ?_
    refine h_nil ?_
    refine q_then ?_
    refine h_seq ?_
    refine h_reg ?_
    refine h_op (r_field rfl) ?_
    refine h_op (r_loadc rfl) ?_
    refine h_op (r_bool (r_eql rfl rfl) (decide_eq_false h)) ?_
    refine h_op (r_move rfl) ?_
    refine h_op (r_field rfl) ?_
    refine h_op (r_loadc rfl) ?_
    refine h_op (r_eql rfl rfl) ?_
    refine h_op (r_pick rfl rfl) ?_
    refine h_op (r_assign rfl) ?_
    refine h_nil ?_
    refine q_then ?_
    refine h_ret ?_
    exact h_ret1 rfl (aB rfl (by simp [okJ, h])) fun w s => ⟨(), rfl, s.res (List.nil_sublist _) (by simp)⟩
theorem rule2_s (p : Proof) (b : B32) : Spec Tryd.prog 72 [.agg p.cells.toArray, .agg b.cells.toArray].toArray [] [] (fun _ : Unit => .bool (okJ p 1)) (fun _ => []) := by
  refine spec_of Tryd.func72 rfl (n := 13) rfl rfl ?_
  intro W
  by_cases h : 0 ≤ p.depth
  · refine h_seq ?_
    refine h_reg ?_
    refine h_opX (x_box rfl) fun g2 => ?_
    refine h_opX (x_box rfl) fun g3 => ?_
    refine h_op (r_assign rfl) ?_
    refine h_nil ?_
    refine q_then ?_
    refine h_seq ?_
    refine h_reg ?_
    refine h_op (r_field rfl) ?_
    refine h_op (r_loadc rfl) ?_
    refine h_op (r_bool (r_geq rfl rfl) (decide_eq_true h)) ?_
    refine h_op (r_move rfl) ?_
    refine h_op (r_field rfl) ?_
    refine h_op (r_loadc rfl) ?_
    refine h_op (r_leq rfl rfl) ?_
    refine h_op (r_pick rfl rfl) ?_
    refine h_op (r_assign rfl) ?_
    refine h_nil ?_
    refine q_then ?_
    refine h_ret ?_
    exact h_ret1 rfl (aB rfl (by simp [okJ, h])) fun w s => ⟨(), rfl, s.res (List.nil_sublist _) (by simp)⟩
  · refine h_seq ?_
    refine h_reg ?_
    refine h_opX (x_box rfl) fun g2 => ?_
    refine h_opX (x_box rfl) fun g3 => ?_
    refine h_op (r_assign rfl) ?_
    refine h_nil ?_
    refine q_then ?_
    refine h_seq ?_
    refine h_reg ?_
    refine h_op (r_field rfl) ?_
    refine h_op (r_loadc rfl) ?_
    refine h_op (r_bool (r_geq rfl rfl) (decide_eq_false h)) ?_
    refine h_op (r_move rfl) ?_
    refine h_opOff ?_
    refine h_opOff ?_
    refine h_opOff ?_
    refine h_op (r_pick rfl rfl) ?_
    refine h_op (r_assign rfl) ?_
    refine h_nil ?_
    refine q_then ?_
    refine h_ret ?_
    exact h_ret1 rfl (aB rfl (by simp [okJ, h])) fun w s => ⟨(), rfl, s.res (List.nil_sublist _) (by simp)⟩
theorem rule3_s (p : Proof) (b : B32) : Spec Tryd.prog 73 [.agg p.cells.toArray, .agg b.cells.toArray].toArray [] [] (fun _ : Unit => .bool (okJ p 2)) (fun _ => []) := by
  refine spec_of Tryd.func73 rfl (n := 14) rfl rfl ?_
  intro W
  by_cases h : p.kind = 1
  · refine h_seq ?_
    refine h_reg ?_
    refine h_opX (x_box rfl) fun g2 => ?_
    refine h_opX (x_box rfl) fun g3 => ?_
    refine h_op (r_assign rfl) ?_
    refine h_nil ?_
    refine q_then ?_
    refine h_seq ?_
    refine h_reg ?_
    refine h_op (r_field rfl) ?_
    refine h_op (r_loadc rfl) ?_
    refine h_op (r_bool (r_eql rfl rfl) (decide_eq_true h)) ?_
    refine h_op (r_move rfl) ?_
    refine h_opOff ?_
    refine h_opOff ?_
    refine h_opOff ?_
    refine h_opOff ?_
    refine h_op (r_pick rfl rfl) ?_
    refine h_op (r_assign rfl) ?_
    refine h_nil ?_
    refine q_then ?_
    refine h_ret ?_
    exact h_ret1 rfl (aB rfl (by simp [okJ, h])) fun w s => ⟨(), rfl, s.res (List.nil_sublist _) (by simp)⟩
  · refine h_seq ?_
    refine h_reg ?_
    refine h_opX (x_box rfl) fun g2 => ?_
    refine h_opX (x_box rfl) fun g3 => ?_
    refine h_op (r_assign rfl) ?_
    refine h_nil ?_
    refine q_then ?_
    refine h_seq ?_
    refine h_reg ?_
    refine h_op (r_field rfl) ?_
    refine h_op (r_loadc rfl) ?_
    refine h_op (r_bool (r_eql rfl rfl) (decide_eq_false h)) ?_
    refine h_op (r_move rfl) ?_
    refine h_op (r_field rfl) ?_
    refine h_op (r_loadr rfl) ?_
    refine h_op (r_build rfl) ?_
    refine h_op (r_eqr rfl rfl) ?_
    refine h_op (r_pick rfl rfl) ?_
    refine h_op (r_assign rfl) ?_
    refine h_nil ?_
    refine q_then ?_
    refine h_ret ?_
    exact h_ret1 rfl (aB rfl (by simp [okJ, h])) fun w s => ⟨(), rfl, s.res (List.nil_sublist _) (by simp)⟩
theorem rule4_s (p : Proof) (h1 : okJ p 1 = true) : Spec Tryd.prog 74 [.agg p.cells.toArray, .agg p.bitmap.cells.toArray].toArray [] [] (fun _ : Unit => .bool (okJ p 3)) (fun _ => []) := by
  have hd : 0 ≤ p.depth ∧ p.depth ≤ 256 := by simpa [okJ] using h1
  refine spec_of Tryd.func74 rfl (n := 11) rfl rfl ?_
  intro W
  refine h_seq ?_
  refine h_reg ?_
  refine h_opX (x_box rfl) fun g2 => ?_
  refine h_opX (x_box rfl) fun g3 => ?_
  refine h_op (r_assign rfl) ?_
  refine h_nil ?_
  refine q_then ?_
  refine h_seq ?_
  refine ha_start [.blk g2 p.cells 29, .blk g3 p.bitmap.cells 92] [] mixed (same) ?_
  refine ha_take 0 rfl (r_loadr rfl) ?_
  refine ha_takeP 2 rfl (r_field rfl) ?_
  refine ha_take 3 rfl (r_loadc rfl) ?_
  refine ha_takeP 4 rfl (r_sub rfl rfl) ?_
  refine ha_one 1 ?_
  refine ho_C 1 rfl ((Last_s p.bitmap).comes) rfl rfl rfl (fun _ => same) fun _ => ?_
  refine ha_takeP 5 rfl (r_eql rfl rfl) ?_
  refine ha_takeP 6 rfl (r_assign rfl) ?_
  refine ha_done (by kernel_rfl) ?_
  refine q_then ?_
  refine h_ret ?_
  exact h_ret1 rfl (aB rfl rfl) fun w s => ⟨(), rfl, s.res (List.nil_sublist _) (by simp)⟩
theorem rule5_s (p : Proof) : Spec Tryd.prog 76 [.agg p.cells.toArray, .agg p.bitmap.cells.toArray].toArray [] [] (fun _ : Unit => .bool (okJ p 4)) (fun _ => []) := by
  refine spec_of Tryd.func76 rfl (n := 11) rfl rfl ?_
  intro W
  refine h_seq ?_
  refine h_reg ?_
  refine h_opX (x_box rfl) fun g2 => ?_
  refine h_opX (x_box rfl) fun g3 => ?_
  refine h_op (r_assign rfl) ?_
  refine h_nil ?_
  refine q_then ?_
  refine h_seq ?_
  refine ha_start [.blk g2 p.cells 29, .blk g3 p.bitmap.cells 92] [] mixed (same) ?_
  refine ha_take 0 rfl (r_loadr rfl) ?_
  refine ha_takeP 2 rfl (r_field rfl) ?_
  refine ha_take 3 rfl (r_loadc rfl) ?_
  refine ha_takeP 4 rfl (r_len rfl) ?_
  refine ha_one 1 ?_
  refine ho_C 1 rfl ((BLen_s p.bitmap).comes) rfl rfl rfl (fun _ => same) fun _ => ?_
  refine ha_takeP 5 rfl (r_eql rfl rfl) ?_
  refine ha_takeP 6 rfl (r_assign rfl) ?_
  refine ha_done (by kernel_rfl) ?_
  refine q_then ?_
  refine h_ret ?_
  exact h_ret1 rfl (aB rfl rfl) fun w s => ⟨(), rfl, s.res (List.nil_sublist _) (by simp)⟩
def rulesV : List Value := [.func (.func 71) #[] #[], .int .i64 7, .func (.func 72) #[] #[], .int .i64 5, .func (.func 73) #[] #[], .int .i64 5, .func (.func 74) #[] #[], .int .i64 5, .func (.func 76) #[] #[], .int .i64 5]
theorem rules_s : Spec Tryd.prog 62 ([] : List Value).toArray [] [] (fun _ : Unit => .agg rulesV.toArray) (fun _ => []) := by
  refine spec_of Tryd.func62 rfl (n := 7) rfl rfl ?_
  intro W
  refine h_seq ?_
  refine h_reg ?_
  refine h_opX (x_alloc) fun g0 => ?_
  refine h_nil ?_
  refine q_then ?_
  refine h_seq ?_
  refine h_reg ?_
  refine h_op (r_build rfl) ?_
  refine h_op (r_build rfl) ?_
  refine h_op (r_build rfl) ?_
  refine h_op (r_build rfl) ?_
  refine h_op (r_build rfl) ?_
  refine h_op (r_build (out := rulesV) rfl (hf := ⟨by kernel_rfl⟩)) ?_
  unfold rulesV
  refine h_opS (s_storer rfl rfl) ?_
  refine h_nil ?_
  refine q_then ?_
  refine h_ret ?_
  exact h_ret1 rfl (rv_row rfl) fun w s => ⟨(), rfl, s.res (List.nil_sublist _) (by simp)⟩
theorem Check_s (p : Proof) : Spec Tryd.prog 48 [.agg p.cells.toArray].toArray [] [] (fun _ : Unit => .int .i64 (checkP p)) (fun _ => []) := by
  refine spec_of Tryd.func48 rfl (n := 19) rfl rfl ?_
  intro W
  refine h_seq ?_
  refine h_reg ?_
  refine h_opX (x_box rfl) fun g1 => ?_
  refine h_op (r_assign rfl) ?_
  refine h_nil ?_
  refine q_then ?_
  refine h_seq ?_
  refine h_seq ?_
  refine h_reg ?_
  refine h_call (rules_s.comes) rfl rfl rfl fun _ => ?_
  unfold rulesV
  refine h_op (r_move rfl) ?_
  refine h_nil ?_
  refine q_then ?_
  refine h_block ?_
  refine h_loop (fun (k : Nat) => k ≤ 5 ∧ ∀ j, j < k → okJ p j = true) (fun (k : Nat) => [(6, .int .i64 (k : Int)), (5, .agg rulesV.toArray), (1, .pointer (some ⟨g1, 0, none⟩))]) (fun (k : Nat) => [.blk g1 p.cells 29]) (fun (k : Nat) => 5 - k) 0 (⟨by omega, fun j hj => by omega⟩) ⟨rfl, rfl, rfl, trivial⟩ (same) ?_
  rintro k ⟨hk, ho⟩
  unfold rulesV
  refine h_seq ?_
  refine h_reg ?_
  refine h_op (r_lss rfl rfl) ?_
  refine h_nil ?_
  refine q_then ?_
  refine h_seq ?_
  refine h_cond rfl (fun h => ?_) (fun h => ?_)
  · have hk5 : k < 5 := by omega
    rcases (show k = 0 ∨ k = 1 ∨ k = 2 ∨ k = 3 ∨ k = 4 by omega) with rfl | rfl | rfl | rfl | rfl
    · refine h_skip ?_
      refine q_then ?_
      refine h_seq ?_
      refine h_block ?_
      refine h_seq ?_
      refine h_reg ?_
      refine h_op (r_ixr rfl rfl (off := 0) rfl) ?_
      refine h_opX (x_alloc) fun g4 => ?_
      refine h_opS (s_storer rfl rfl) ?_
      refine h_nil ?_
      refine q_then ?_
      refine h_seq ?_
      refine h_reg ?_
      refine h_op (r_field rfl) ?_
      refine h_op (r_loadc rfl) ?_
      refine h_op (r_loadr rfl) ?_
      refine h_op (r_field rfl) ?_
      refine h_op (r_loadr rfl) ?_
      refine h_call ((rule1_s p p.bitmap).comes) rfl rfl rfl fun _ => ?_
      refine h_op (r_not rfl) ?_
      refine h_nil ?_
      refine q_then ?_
      refine h_condB rfl (fun hb => ?_) (fun hb => ?_)
      · refine h_seq ?_
        refine h_reg ?_
        refine h_op (r_field rfl) ?_
        refine h_op (r_loadc rfl) ?_
        refine h_op (r_assign rfl) ?_
        refine h_nil ?_
        refine q_then ?_
        refine h_ret ?_
        refine q_blockR ?_
        refine q_thenR ?_
        refine q_thenR ?_
        refine q_blockR ?_
        refine q_thenR ?_
        exact h_ret1 rfl (aI rfl (by rw [checkP_bad (k := 0) (by omega) ho (by simpa using hb)]; rfl)) fun w s => ⟨(), rfl, s.res (List.nil_sublist _) (by simp)⟩
      · refine h_skip ?_
        refine q_block ?_
        refine q_then ?_
        refine h_reg ?_
        refine h_op (r_add rfl rfl) ?_
        refine h_op (r_move rfl) ?_
        refine h_nil ?_
        exact h_back 1 (⟨by omega, fun j hj => by by_cases e : j < 0; exact ho j e; obtain rfl : j = 0 := (by omega); simpa using hb⟩) (by omega) ⟨rfl, rfl, rfl, trivial⟩ (same)
    · refine h_skip ?_
      refine q_then ?_
      refine h_seq ?_
      refine h_block ?_
      refine h_seq ?_
      refine h_reg ?_
      refine h_op (r_ixr rfl rfl (off := 2) rfl) ?_
      refine h_opX (x_alloc) fun g4 => ?_
      refine h_opS (s_storer rfl rfl) ?_
      refine h_nil ?_
      refine q_then ?_
      refine h_seq ?_
      refine h_reg ?_
      refine h_op (r_field rfl) ?_
      refine h_op (r_loadc rfl) ?_
      refine h_op (r_loadr rfl) ?_
      refine h_op (r_field rfl) ?_
      refine h_op (r_loadr rfl) ?_
      refine h_call ((rule2_s p p.bitmap).comes) rfl rfl rfl fun _ => ?_
      refine h_op (r_not rfl) ?_
      refine h_nil ?_
      refine q_then ?_
      refine h_condB rfl (fun hb => ?_) (fun hb => ?_)
      · refine h_seq ?_
        refine h_reg ?_
        refine h_op (r_field rfl) ?_
        refine h_op (r_loadc rfl) ?_
        refine h_op (r_assign rfl) ?_
        refine h_nil ?_
        refine q_then ?_
        refine h_ret ?_
        refine q_blockR ?_
        refine q_thenR ?_
        refine q_thenR ?_
        refine q_blockR ?_
        refine q_thenR ?_
        exact h_ret1 rfl (aI rfl (by rw [checkP_bad (k := 1) (by omega) ho (by simpa using hb)]; rfl)) fun w s => ⟨(), rfl, s.res (List.nil_sublist _) (by simp)⟩
      · refine h_skip ?_
        refine q_block ?_
        refine q_then ?_
        refine h_reg ?_
        refine h_op (r_add rfl rfl) ?_
        refine h_op (r_move rfl) ?_
        refine h_nil ?_
        exact h_back 2 (⟨by omega, fun j hj => by by_cases e : j < 1; exact ho j e; obtain rfl : j = 1 := (by omega); simpa using hb⟩) (by omega) ⟨rfl, rfl, rfl, trivial⟩ (same)
    · refine h_skip ?_
      refine q_then ?_
      refine h_seq ?_
      refine h_block ?_
      refine h_seq ?_
      refine h_reg ?_
      refine h_op (r_ixr rfl rfl (off := 4) rfl) ?_
      refine h_opX (x_alloc) fun g4 => ?_
      refine h_opS (s_storer rfl rfl) ?_
      refine h_nil ?_
      refine q_then ?_
      refine h_seq ?_
      refine h_reg ?_
      refine h_op (r_field rfl) ?_
      refine h_op (r_loadc rfl) ?_
      refine h_op (r_loadr rfl) ?_
      refine h_op (r_field rfl) ?_
      refine h_op (r_loadr rfl) ?_
      refine h_call ((rule3_s p p.bitmap).comes) rfl rfl rfl fun _ => ?_
      refine h_op (r_not rfl) ?_
      refine h_nil ?_
      refine q_then ?_
      refine h_condB rfl (fun hb => ?_) (fun hb => ?_)
      · refine h_seq ?_
        refine h_reg ?_
        refine h_op (r_field rfl) ?_
        refine h_op (r_loadc rfl) ?_
        refine h_op (r_assign rfl) ?_
        refine h_nil ?_
        refine q_then ?_
        refine h_ret ?_
        refine q_blockR ?_
        refine q_thenR ?_
        refine q_thenR ?_
        refine q_blockR ?_
        refine q_thenR ?_
        exact h_ret1 rfl (aI rfl (by rw [checkP_bad (k := 2) (by omega) ho (by simpa using hb)]; rfl)) fun w s => ⟨(), rfl, s.res (List.nil_sublist _) (by simp)⟩
      · refine h_skip ?_
        refine q_block ?_
        refine q_then ?_
        refine h_reg ?_
        refine h_op (r_add rfl rfl) ?_
        refine h_op (r_move rfl) ?_
        refine h_nil ?_
        exact h_back 3 (⟨by omega, fun j hj => by by_cases e : j < 2; exact ho j e; obtain rfl : j = 2 := (by omega); simpa using hb⟩) (by omega) ⟨rfl, rfl, rfl, trivial⟩ (same)
    · refine h_skip ?_
      refine q_then ?_
      refine h_seq ?_
      refine h_block ?_
      refine h_seq ?_
      refine h_reg ?_
      refine h_op (r_ixr rfl rfl (off := 6) rfl) ?_
      refine h_opX (x_alloc) fun g4 => ?_
      refine h_opS (s_storer rfl rfl) ?_
      refine h_nil ?_
      refine q_then ?_
      refine h_seq ?_
      refine h_reg ?_
      refine h_op (r_field rfl) ?_
      refine h_op (r_loadc rfl) ?_
      refine h_op (r_loadr rfl) ?_
      refine h_op (r_field rfl) ?_
      refine h_op (r_loadr rfl) ?_
      refine h_call ((rule4_s p (ho 1 (by omega))).comes) rfl rfl rfl fun _ => ?_
      refine h_op (r_not rfl) ?_
      refine h_nil ?_
      refine q_then ?_
      refine h_condB rfl (fun hb => ?_) (fun hb => ?_)
      · refine h_seq ?_
        refine h_reg ?_
        refine h_op (r_field rfl) ?_
        refine h_op (r_loadc rfl) ?_
        refine h_op (r_assign rfl) ?_
        refine h_nil ?_
        refine q_then ?_
        refine h_ret ?_
        refine q_blockR ?_
        refine q_thenR ?_
        refine q_thenR ?_
        refine q_blockR ?_
        refine q_thenR ?_
        exact h_ret1 rfl (aI rfl (by rw [checkP_bad (k := 3) (by omega) ho (by simpa using hb)]; rfl)) fun w s => ⟨(), rfl, s.res (List.nil_sublist _) (by simp)⟩
      · refine h_skip ?_
        refine q_block ?_
        refine q_then ?_
        refine h_reg ?_
        refine h_op (r_add rfl rfl) ?_
        refine h_op (r_move rfl) ?_
        refine h_nil ?_
        exact h_back 4 (⟨by omega, fun j hj => by by_cases e : j < 3; exact ho j e; obtain rfl : j = 3 := (by omega); simpa using hb⟩) (by omega) ⟨rfl, rfl, rfl, trivial⟩ (same)
    · refine h_skip ?_
      refine q_then ?_
      refine h_seq ?_
      refine h_block ?_
      refine h_seq ?_
      refine h_reg ?_
      refine h_op (r_ixr rfl rfl (off := 8) rfl) ?_
      refine h_opX (x_alloc) fun g4 => ?_
      refine h_opS (s_storer rfl rfl) ?_
      refine h_nil ?_
      refine q_then ?_
      refine h_seq ?_
      refine h_reg ?_
      refine h_op (r_field rfl) ?_
      refine h_op (r_loadc rfl) ?_
      refine h_op (r_loadr rfl) ?_
      refine h_op (r_field rfl) ?_
      refine h_op (r_loadr rfl) ?_
      refine h_call ((rule5_s p).comes) rfl rfl rfl fun _ => ?_
      refine h_op (r_not rfl) ?_
      refine h_nil ?_
      refine q_then ?_
      refine h_condB rfl (fun hb => ?_) (fun hb => ?_)
      · refine h_seq ?_
        refine h_reg ?_
        refine h_op (r_field rfl) ?_
        refine h_op (r_loadc rfl) ?_
        refine h_op (r_assign rfl) ?_
        refine h_nil ?_
        refine q_then ?_
        refine h_ret ?_
        refine q_blockR ?_
        refine q_thenR ?_
        refine q_thenR ?_
        refine q_blockR ?_
        refine q_thenR ?_
        exact h_ret1 rfl (aI rfl (by rw [checkP_bad (k := 4) (by omega) ho (by simpa using hb)]; rfl)) fun w s => ⟨(), rfl, s.res (List.nil_sublist _) (by simp)⟩
      · refine h_skip ?_
        refine q_block ?_
        refine q_then ?_
        refine h_reg ?_
        refine h_op (r_add rfl rfl) ?_
        refine h_op (r_move rfl) ?_
        refine h_nil ?_
        exact h_back 5 (⟨by omega, fun j hj => by by_cases e : j < 4; exact ho j e; obtain rfl : j = 4 := (by omega); simpa using hb⟩) (by omega) ⟨rfl, rfl, rfl, trivial⟩ (same)
  · obtain rfl : k = 5 := by omega
    rw [checkP_good ho]
    refine h_exit ?_
    refine q_thenE ?_
    refine q_thenE ?_
    refine q_blockE ?_
    refine q_then ?_
    refine h_seq ?_
    refine h_reg ?_
    refine h_op (r_assign rfl) ?_
    refine h_nil ?_
    refine q_then ?_
    refine h_ret ?_
    exact h_ret1 rfl rfl fun w s => ⟨(), rfl, s.res (List.nil_sublist _) (by simp)⟩
end Go.Proofs.YtfjlpndohnianaaDoor
/- U15 -/
namespace Go.Proofs.YtfjlpndohnianaaDoor
set_option linter.unusedSimpArgs false
set_option linter.unusedVariables false
open Go.RowKit
/-- the cells of some digests -/
def dgs (l : List B32) : List Value := l.flatMap B32.cells
theorem dgs_nil : dgs [] = [] := rfl
theorem dgs_cons (x : B32) (l : List B32) : dgs (x :: l) = x.cells ++ dgs l := rfl
theorem dgs_append (l m : List B32) : dgs (l ++ m) = dgs l ++ dgs m := by simp [dgs]
theorem dgs_one' (x : B32) : dgs [x] = x.cells := by simp [dgs]
theorem dgs_len (l : List B32) : (dgs l).length = l.length * 32 := by
  induction l with
  | nil => rfl
  | cons x l ih => rw [dgs_cons, List.length_append, B32.cells_length, ih, List.length_cons]; omega
theorem dgs_one (l : List B32) : ∀ v ∈ dgs l, v.oneCell' = true := by
  intro v hv
  obtain ⟨x, _, hx⟩ := List.mem_flatMap.1 hv
  exact B32.cells_one x v hx
theorem dgs_at {l : List B32} {k : Nat} (hk : k < l.length) : ∀ j v, (l.getD k zB32).cells[j]? = some v → (dgs l)[k * 32 + j]? = some v := by
  induction l generalizing k with
  | nil => cases hk
  | cons x l ih =>
    intro j v hv
    rw [dgs_cons]
    cases k with
    | zero =>
      rw [Nat.zero_mul, Nat.zero_add, List.getElem?_append_left (by have := (List.getElem?_eq_some_iff.1 hv).1; simpa using this)]
      exact hv
    | succ k =>
      rw [List.getElem?_append_right (by rw [B32.cells_length]; omega), B32.cells_length, show (k + 1) * 32 + j - 32 = k * 32 + j by omega]
      exact ih (by simpa using hk) j v hv
theorem dgs_set (l : List B32) (k : Nat) (x : B32) (hk : k < l.length) : (dgs l).take (k * 32) ++ x.cells ++ (dgs l).drop (k * 32 + 32) = dgs (l.set k x) := by
  have h1 : l = l.take k ++ l[k] :: l.drop (k + 1) := by rw [← List.drop_eq_getElem_cons hk, List.take_append_drop]
  have hl : (dgs (l.take k)).length = k * 32 := by rw [dgs_len, List.length_take]; congr 1; omega
  have h2 : dgs l = dgs (l.take k) ++ (l[k].cells ++ dgs (l.drop (k + 1))) := by conv => lhs; rw [h1, dgs_append, dgs_cons]
  rw [List.set_eq_take_append_cons_drop, if_pos hk, dgs_append, dgs_cons, h2]
  rw [List.take_append_of_le_length (by omega), List.take_of_length_le (by omega), ← hl, List.drop_append, List.drop_of_length_le (by omega), List.nil_append, show (dgs (l.take k)).length + 32 - (dgs (l.take k)).length = 32 by omega, List.drop_append, List.drop_of_length_le (by rw [B32.cells_length]; exact Nat.le_refl _), B32.cells_length, Nat.sub_self, List.drop_zero, List.nil_append, List.append_assoc]
theorem dgs_zero (n : Nat) : dgs (List.replicate n zB32) = List.replicate (n * 32) (.int .u8 0) := by
  have hz : zB32.cells = List.replicate 32 (.int .u8 0) := by simp [B32.cells, zB32, bc]
  induction n with
  | zero => rfl
  | succ n ih => rw [List.replicate_succ, dgs_cons, ih, hz, List.replicate_append_replicate]; congr 1; omega
theorem made_dgs (n : Nat) : (madeCells (Value.agg zB32.cells.toArray).cells (n * 32)).toList = dgs (List.replicate n zB32) := by
  rw [dgs_zero]
  have hz : zB32.cells = List.replicate 32 (.int .u8 0) := by simp [B32.cells, zB32, bc]
  apply List.ext_getElem?
  intro j
  rw [List.getElem?_replicate]
  by_cases h : j < n * 32
  · have hm : j % 32 < 32 := Nat.mod_lt _ (by decide)
    simp [-List.reduceReplicate, madeCells, h, Value.cells, hz, List.getElem?_replicate, hm]
  · simp [madeCells, h, Value.cells]
section
variable {P : Program}
theorem run_copy_rowS (w : World) (dT sT ty elem : TypeId) (g o dLen dCap size : Nat) (a : Addr) (sLen sCap : Nat) (cur : Array Value) (t : TypeId) (cs : List Value)
    (hu : P.underlying dT = some (.slice elem)) (hs : (P.info? elem).map (·.size) = some size)
    (hg : w.heap[g]? = some (.cells cur t (0, 0))) (hn : cs.length = Nat.min sLen dLen * size)
    (hsrc : ∀ j v, cs[j]? = some v → w.cell? (a.add j) = some v) (hfit : o + cs.length ≤ cur.size) (h1 : ∀ v ∈ cs, v.oneCell' = true) :
    (Builtin.copy_ #[dT, sT] ty #[.slice (some ⟨g, o, none⟩) dLen dCap, .slice (some a) sLen sCap]).run P w =
      .ok (goInt (Nat.min sLen dLen)) (w.setRow g (cur.toList.take o ++ cs ++ cur.toList.drop (o + cs.length)).toArray) := by
  have hl := run_loadCells_list (P := P) w a cs hsrc
  have hst := run_storeCells_at P g o t cs 0 cur w hg (by simpa using hfit) h1
  cases hq : P.info? elem with
  | none => simp [hq] at hs
  | some i =>
    have hi : i.size = size := by simpa [hq] using hs
    rw [hn] at hl
    simp [Builtin.copy_, run_underlying hu, Builtin.lenOf, Builtin.firstCells, sizeOf, typeInfo, hq, hi, hl, hst]
variable {A : List Fa} {W : World} {n : Nat} {D : List Deferred} {E : Env} {L M : List Fa} {x y : Operand}
/-- a copy into a row of one's own, somewhere -/
theorem x_copyAt {dT sT e g o dLen dCap N c size bytes m c' q b O : Nat} {z : Value} [E' : TS P dT e size bytes z] {xs cs xs' : List Value} (hd : ev E x = some (.slice (some ⟨g, o, none⟩) dLen dCap)) (hs : ev E y = some (.slice (some ⟨b, O, none⟩) m c')) [ht : TakeG g L N c e size xs M] (hR : ∀ w, Fx w L → Rd w (some ⟨b, O, none⟩) cs) (hq : Nat.min m dLen = q) (hl : cs.length = q * size) (hfit : o + cs.length ≤ xs.length) (h1 : ∀ u ∈ cs, u.oneCell' = true) (hx : xs.take o ++ cs ++ xs.drop (o + cs.length) = xs') :
    RunsX P A W n D E L (.call { callee := .builtin .copy, args := #[x, y], argTypes := #[dT, sT] }) (fun _ : Unit => .int .i64 (q : Int)) (fun _ => .own (.slice (some ⟨g, 0, none⟩) N c) N e size xs' :: M) := fun a w ka s o' hop => by
  have h2 := s.perm ht.perm
  have ho : w.ownsRow 0 e size (.slice (some ⟨g, 0, none⟩) N c) N xs := h2.ok (.own _ _ _ _ _) (List.mem_cons_self ..)
  obtain ⟨cur, hb, h3, h4, h5, h6⟩ := own_parts ho
  have hxl := ho.1
  have hcl : xs.length ≤ cur.length := by rw [← h6, List.length_take]; omega
  have hrun := run_copy_rowS (P := P) w dT sT o'.type e g o dLen dCap size ⟨b, O, none⟩ m c' cur.toArray e cs E'.el.ht (ts_size (E' := E')) hb (by rw [hq]; exact hl) (fun j v hv => by
    obtain ⟨b', O', e', hc⟩ := hR w s.toFx j v hv
    injection e' with e'
    injection e' with e1 e2
    subst e1 e2
    rw [Addr.add_mid]
    exact hc) (by simp; omega) h1
  have hbl : Below 0 w (w.setRow g (cur.toArray.toList.take o ++ cs ++ cur.toArray.toList.drop (o + cs.length)).toArray) := below_setRow (Below.refl 0 w) (Nat.zero_le _) _
  refine ⟨(), _, ?_, h2.turn rfl (fun k hk => .inl hk) (own_new (setRow_heap w g _ _ e _ hb) ?_ h3 h4 ?_ ?_) hbl.os hbl.tape hbl.output hbl.size fun k _ hne => setRow_other w g k _ fun e => hne (show some g = some k by rw [e])⟩
  · unfold execOp
    simp only [hop, resolve, invoke, builtin, ka.ev hd, ka.ev hs, List.map_toArray, List.map_cons, List.map_nil, Sem.run_bind, Sem.run_pure, Result.andThen_ok, hrun, hq]
    rfl
  · rw [← hx, ← hxl]
    simp only [List.length_append, List.length_take, List.length_drop]
    omega
  · simp only [List.length_append, List.length_take, List.length_drop]
    rw [← h5]
    omega
  · have hc : cur = xs ++ cur.drop (N * size) := by rw [← h6, List.take_append_drop]
    rw [hc] at hcl ⊢
    generalize cur.drop (N * size) = rest at *
    simp only
    rw [List.take_append_of_le_length (show o ≤ xs.length by omega), List.drop_append_of_le_length hfit, ← List.append_assoc, ← hx]
    rw [List.take_append_of_le_length, List.take_of_length_le]
    · simp only [List.length_append, List.length_take, List.length_drop]; omega
    · simp only [List.length_append, List.length_take, List.length_drop]; omega
end
end Go.Proofs.YtfjlpndohnianaaDoor
/- TC -/
namespace Go.Proofs.YtfjlpndohnianaaDoor
set_option linter.unusedSimpArgs false
set_option linter.unusedVariables false
open Go.RowKit Go.ChangeShapes Go.WideShapes
section
variable {H : Type} {enc : TypeId × Value → H} {w : World} {base : Nat} {spare : Nat → Bool} {held : Bool} {v : Value} {d : DataW H} {ps : List MemPlace} {r : Reach} {b0 : Nat}
theorem c_int : Tryd.prog.cellsOf 3 = 1 := by kernel_rfl
theorem c_Digest : Tryd.prog.cellsOf 24 = 32 := by kernel_rfl
theorem c_Key : Tryd.prog.cellsOf 23 = 32 := by kernel_rfl
theorem c_Leaf : Tryd.prog.cellsOf 26 = 64 := by kernel_rfl
theorem c_u8 : Tryd.prog.cellsOf 5 = 1 := by kernel_rfl
theorem c_Proof : Tryd.prog.cellsOf 29 = 99 := by kernel_rfl
theorem c_Digests : Tryd.prog.cellsOf 27 = 1 := by kernel_rfl
theorem c_u8x32 : Tryd.prog.cellsOf 22 = 32 := by kernel_rfl
theorem c_u32 : Tryd.prog.cellsOf 80 = 1 := by kernel_rfl
theorem c_u32x64 : Tryd.prog.cellsOf 123 = 64 := by kernel_rfl
theorem proofFields' : ∃ f1 f2 f3 f4 f5 : Field, Tryd.prog.underlying 29 = some (.struct #[f1, f2, f3, f4, f5]) ∧ f1.type = 3 ∧ f2.type = 3 ∧ f3.type = 26 ∧ f4.type = 22 ∧ f5.type = 27 ∧ f1.offset = 0 ∧ f2.offset = 1 ∧ f3.offset = 2 ∧ f4.offset = 66 ∧ f5.offset = 98 :=
  ⟨_, _, _, _, _, Tryd.underlying29, rfl, rfl, rfl, rfl, rfl, rfl, rfl, rfl, rfl, rfl⟩
set_option maxRecDepth 100000 in
theorem openProof' (hval : Value.okWide Tryd.prog w r b0 29 v) (hd : DataW.Trod enc Tryd.prog w base spare held 29 v d ps) :
    ∃ (p : Proof) (q : List B32), v = .agg p.cells.toArray ∧ p.sibs.n = q.length ∧ Rd w p.sibs.A (dgs q) := by
  obtain ⟨f1, f2, f3, f4, f5, hT, t1, t2, t3, t4, t5, o1, o2, o3, o4, o5⟩ := proofFields'
  obtain ⟨g1, g2, hL, -, -, s1, s2, p1, p2⟩ := leafFields'
  obtain ⟨cs, rfl, -⟩ := okWide_struct hT hval
  obtain ⟨fuel, hf⟩ := hd
  obtain ⟨cs⟩ := cs
  have hf' : DataW.trod enc Tryd.prog w base spare held fuel 29 cs = some (d, ps) := by simpa [Value.cells] using hf
  obtain ⟨xs, n, -, -, hl, hxl, hx⟩ := DataW.trod_struct hT hf'
  rw [c_Proof] at hl
  have hxl' : xs.length = 5 := hxl
  have k1 := hx 0 f1 rfl
  have k2 := hx 1 f2 rfl
  have k3 := hx 2 f3 rfl
  have k4 := hx 3 f4 rfl
  have k5 := hx 4 f5 rfl
  rw [List.getElem?_eq_getElem (by omega)] at k1 k2 k3 k4 k5
  rw [o1, t1, c_int, List.drop_zero] at k1
  rw [o2, t2, c_int] at k2
  rw [o3, t3, c_Leaf] at k3
  rw [o4, t4, c_u8x32] at k4
  rw [o5, t5, c_Digests] at k5
  obtain ⟨m1, e1, -, -⟩ := DataW.trod_int Tryd.underlying3 k1
  obtain ⟨m2, e2, -, -⟩ := DataW.trod_int Tryd.underlying3 k2
  obtain ⟨y3, e3⟩ := dec_Leaf hL c_Leaf p1 p2 (by rw [s1]; exact Tryd.underlying23) (by rw [s2]; exact Tryd.underlying24) (by rw [s1]; exact c_Key) (by rw [s2]; exact c_Digest) Tryd.underlying5 c_u8 k3
  obtain ⟨y4, e4⟩ := dec_B32 Tryd.underlying22 c_u8x32 Tryd.underlying5 c_u8 k4
  have : Inhabited B32 := ⟨zB32⟩
  obtain ⟨q, A, c, e5, -, -, -, hr, -⟩ := open_rows_t B32.cells_length (by omega) Tryd.underlying27 c_Digest (fun _ => True) (fun fuel cs x h => (dec_B32 Tryd.underlying24 c_Digest Tryd.underlying5 c_u8 h).imp fun _ h => ⟨h, trivial⟩) k5
  refine ⟨⟨m1, m2, y3, y4, ⟨A, q.length, c⟩⟩, q, ?_, rfl, hr⟩
  have r1 : cs = cs.take 1 ++ ((cs.drop 1).take 1 ++ ((cs.drop 2).take 64 ++ ((cs.drop 66).take 32 ++ (cs.drop 98).take 1))) := by
    rw [List.take_of_length_le (l := cs.drop 98) (by simp; omega)]
    rw [show cs.drop 98 = (cs.drop 66).drop 32 by rw [List.drop_drop], List.take_append_drop]
    rw [show cs.drop 66 = (cs.drop 2).drop 64 by rw [List.drop_drop], List.take_append_drop]
    rw [show cs.drop 2 = (cs.drop 1).drop 1 by rw [List.drop_drop], List.take_append_drop, List.take_append_drop]
  rw [r1, e1, e2, e3, e4, e5]
  rfl
end
theorem Rx.sub0 {W w : World} {N : List Fa} (h : Rx [] W w N) : Rx [] W w [] := ⟨h.toSx.sub (List.nil_sublist _), fun _ h => (List.not_mem_nil h).elim⟩
theorem laidOut' : laidOutB Tryd.prog = true := by kernel_rfl
theorem own' : ownKnob Tryd.prog.godebug = none := by kernel_rfl
/-! the table -/
abbrev laidR : List (String × DataW Unit) := [("sparsetree/sha.rounds", Rows.laid_sparsetree_sha_rounds)]
theorem gRounds : Tryd.prog.globalNamed "sparsetree/sha.rounds" = some 0 := by kernel_rfl
theorem tRounds : (Tryd.prog.globals[0]?).map (·.type) = some 123 := by kernel_rfl
theorem door_met (os : Os) (args : Array Value) : laidMetH Tryd.prog laidR ((World.doorLaid Tryd.prog 14 os).forCall (fun _ _ => 0) ⟨#[], args, []⟩).memory :=
  laidMetH_of_parts3 (fuel := 8) (laidMet_of_run' 8 (by kernel_rfl) (by kernel_rfl)) (by kernel_rfl) (by kernel_rfl)
theorem table_of {W : World} (h : laidMetH Tryd.prog laidR W) : Rd W (some ⟨0, 0, none⟩) hashT := by
  rw [MakeChecks.laidMetH_plain _ _ _ (by kernel_rfl)] at h
  obtain ⟨ps, ⟨g0, t0, cs0, f0, p0, q0, hg0, ht0, hv0, hd0, _, _⟩, _, _⟩ := h
  obtain rfl := Option.some.inj (gRounds.symm.trans hg0)
  obtain rfl := Option.some.inj (tRounds.symm.trans ht0)
  have e : Rows.laid_sparsetree_sha_rounds (H := Unit) = .agg ((K64.map BitVec.toNat).map fun k : Nat => DataW.lit (.int .u32 (k : Int))) := by kernel_rfl
  rw [e] at hd0
  have h1 := words_of Tryd.underlying123 Tryd.underlying80 c_u32 c_u32x64 hd0
  intro j u hu
  refine ⟨0, 0, rfl, ?_⟩
  rw [Nat.zero_add, World.var?_cell hg0 hv0, ← Array.getElem?_toList, h1, ← hu]
  simp [wc]
  rfl
end Go.Proofs.YtfjlpndohnianaaDoor
/- U16 -/
namespace Go.Proofs.YtfjlpndohnianaaDoor
set_option linter.unusedSimpArgs false
set_option linter.unusedVariables false
open Go.RowKit
instance : Wd 64 4294967295 4294967295 := ⟨rfl⟩
theorem Mul64_s (n : Nat) (hn : n ≤ 256) : Spec Tryd.prog 79 [.int .u64 (((BitVec.ofNat 64 1).toNat : Nat) : Int), .int .u64 (((BitVec.ofNat 64 n).toNat : Nat) : Int)].toArray [] [] (fun _ : Unit => .tuple #[.int .u64 0, .int .u64 (n : Int)]) (fun _ => []) := by
  refine spec_of Tryd.func79 rfl (n := 51) rfl rfl ?_
  intro W
  refine h_seq ?_
  refine h_reg ?_
  refine h_op (r_assign rfl) ?_
  refine h_op (r_assign rfl) ?_
  refine h_nil ?_
  refine q_then ?_
  refine h_seq ?_
  refine h_reg ?_
  refine h_op (r_move rfl) ?_
  refine h_op (r_and rfl rfl) ?_
  refine h_op (r_assign rfl) ?_
  refine h_nil ?_
  refine q_then ?_
  refine h_seq ?_
  refine h_reg ?_
  refine h_op (r_move rfl) ?_
  refine h_op (r_shr rfl rfl) ?_
  refine h_op (r_assign rfl) ?_
  refine h_nil ?_
  refine q_then ?_
  refine h_seq ?_
  refine h_reg ?_
  refine h_op (r_move rfl) ?_
  refine h_op (r_and rfl rfl) ?_
  refine h_op (r_assign rfl) ?_
  refine h_nil ?_
  refine q_then ?_
  refine h_seq ?_
  refine h_reg ?_
  refine h_op (r_move rfl) ?_
  refine h_op (r_shr rfl rfl) ?_
  refine h_op (r_assign rfl) ?_
  refine h_nil ?_
  refine q_then ?_
  refine h_seq ?_
  refine h_reg ?_
  refine h_op (r_move rfl) ?_
  refine h_op (r_move rfl) ?_
  refine h_op (r_mulW rfl rfl) ?_
  refine h_op (r_assign rfl) ?_
  refine h_nil ?_
  refine q_then ?_
  refine h_seq ?_
  refine h_reg ?_
  refine h_op (r_move rfl) ?_
  refine h_op (r_move rfl) ?_
  refine h_op (r_mulW rfl rfl) ?_
  refine h_op (r_move rfl) ?_
  refine h_op (r_shr rfl rfl) ?_
  refine h_op (r_addW rfl rfl) ?_
  refine h_op (r_assign rfl) ?_
  refine h_nil ?_
  refine q_then ?_
  refine h_seq ?_
  refine h_reg ?_
  refine h_op (r_move rfl) ?_
  refine h_op (r_and rfl rfl) ?_
  refine h_op (r_assign rfl) ?_
  refine h_nil ?_
  refine q_then ?_
  refine h_seq ?_
  refine h_reg ?_
  refine h_op (r_move rfl) ?_
  refine h_op (r_shr rfl rfl) ?_
  refine h_op (r_assign rfl) ?_
  refine h_nil ?_
  refine q_then ?_
  refine h_seq ?_
  refine h_reg ?_
  refine h_op (r_move rfl) ?_
  refine h_op (r_move rfl) ?_
  refine h_op (r_move rfl) ?_
  refine h_op (r_mulW rfl rfl) ?_
  refine h_op (r_addW rfl rfl) ?_
  refine h_op (r_assign rfl) ?_
  refine h_nil ?_
  refine q_then ?_
  refine h_seq ?_
  refine h_reg ?_
  refine h_op (r_move rfl) ?_
  refine h_op (r_move rfl) ?_
  refine h_op (r_mulW rfl rfl) ?_
  refine h_op (r_move rfl) ?_
  refine h_op (r_addW rfl rfl) ?_
  refine h_op (r_move rfl) ?_
  refine h_op (r_shr rfl rfl) ?_
  refine h_op (r_addW rfl rfl) ?_
  refine h_op (r_assign rfl) ?_
  refine h_nil ?_
  refine q_then ?_
  refine h_seq ?_
  refine h_reg ?_
  refine h_op (r_move rfl) ?_
  refine h_op (r_move rfl) ?_
  refine h_op (r_mulW rfl rfl) ?_
  refine h_op (r_assign rfl) ?_
  refine h_nil ?_
  refine q_then ?_
  refine h_ret ?_
  exact h_ret2 rfl (aI rfl (by obtain ⟨m, rfl⟩ : ∃ m : Fin 257, m.val = n := ⟨⟨n, by omega⟩, rfl⟩; clear hn; revert m; decide +kernel)) (aI rfl (by obtain ⟨m, rfl⟩ : ∃ m : Fin 257, m.val = n := ⟨⟨n, by omega⟩, rfl⟩; clear hn; revert m; decide +kernel)) fun w s => ⟨(), rfl, s.res (List.nil_sublist _) (by simp)⟩
theorem Mul_s (n : Nat) (hn : n ≤ 256) : Spec Tryd.prog 63 [.int .u64 (((BitVec.ofNat 64 1).toNat : Nat) : Int), .int .u64 (((BitVec.ofNat 64 n).toNat : Nat) : Int)].toArray [] [] (fun _ : Unit => .tuple #[.int .u64 0, .int .u64 (n : Int)]) (fun _ => []) := by
  refine spec_of Tryd.func63 rfl (n := 30) rfl rfl ?_
  intro W
  refine h_seq ?_
  refine h_reg ?_
  refine h_op (r_assign rfl) ?_
  refine h_op (r_assign rfl) ?_
  refine h_nil ?_
  refine q_then ?_
  refine h_seq ?_
  refine h_condF rfl ?_
  refine h_skip ?_
  refine q_then ?_
  refine h_seq ?_
  refine h_reg ?_
  refine h_op (r_move rfl) ?_
  refine h_op (r_move rfl) ?_
  refine h_call ((Mul64_s n hn).comes) rfl rfl rfl fun _ => ?_
  refine h_op (r_move rfl) ?_
  refine h_op (r_extract rfl rfl) ?_
  refine h_op (r_extract rfl rfl) ?_
  refine h_op (r_assign rfl) ?_
  refine h_op (r_assign rfl) ?_
  refine h_nil ?_
  refine q_then ?_
  refine h_seq ?_
  refine h_reg ?_
  refine h_op (r_move rfl) ?_
  refine h_op (r_move rfl) ?_
  refine h_op (r_assign rfl) ?_
  refine h_op (r_assign rfl) ?_
  refine h_nil ?_
  refine q_then ?_
  refine h_ret ?_
  exact h_ret2 rfl rfl rfl fun w s => ⟨(), rfl, s.res (List.nil_sublist _) (by simp)⟩
def rep (k n : Nat) (x : B32) : List B32 := List.replicate k x ++ List.replicate (n - k) zB32
theorem rep_len (k n : Nat) (x : B32) (h : k ≤ n) : (rep k n x).length = n := by simp [rep]; omega
theorem rep_step (k n q : Nat) (x : B32) (hk : k + q ≤ n) : (dgs (rep k n x)).take (k * 32) ++ dgs (List.replicate q x) ++ (dgs (rep k n x)).drop (k * 32 + q * 32) = dgs (rep (k + q) n x) := by
  have h1 : rep k n x = List.replicate k x ++ (List.replicate q zB32 ++ List.replicate (n - (k + q)) zB32) := by
    unfold rep
    rw [List.replicate_append_replicate]
    congr 2
    omega
  have h2 : rep (k + q) n x = List.replicate k x ++ (List.replicate q x ++ List.replicate (n - (k + q)) zB32) := by
    unfold rep
    rw [← List.append_assoc, List.replicate_append_replicate]
  have l1 : (dgs (List.replicate k x)).length = k * 32 := by rw [dgs_len, List.length_replicate]
  have l2 : (dgs (List.replicate q zB32)).length = q * 32 := by rw [dgs_len, List.length_replicate]
  rw [h1, h2]
  simp only [dgs_append]
  generalize dgs (List.replicate k x) = a at *
  generalize dgs (List.replicate q zB32) = b at *
  rw [List.take_append_of_le_length (by omega), List.take_of_length_le (by omega), List.append_assoc]
  congr 2
  rw [List.drop_append, List.drop_of_length_le (by omega), List.nil_append, l1, show k * 32 + q * 32 - k * 32 = q * 32 by omega, List.drop_append, List.drop_of_length_le (by omega), l2, Nat.sub_self, List.drop_zero, List.nil_append]
theorem rd_le1 {w : World} {B : Option Addr} {x : B32} {q : Nat} (h : q ≤ 1) (hr : Rd w B x.cells) : Rd w B (dgs (List.replicate q x)) := by
  rcases (show q = 0 ∨ q = 1 by omega) with rfl | rfl
  · exact Rd.nil _ _
  · rw [show List.replicate 1 x = [x] from rfl, dgs_one']
    exact hr
theorem rep_pre {k n q : Nat} {x : B32} (h : q ≤ k) : ∀ (j : Nat) (v : Value), (dgs (List.replicate q x))[j]? = some v → (dgs (rep k n x))[j]? = some v := fun j v hv => by
  have h1 : rep k n x = List.replicate q x ++ (List.replicate (k - q) x ++ List.replicate (n - k) zB32) := by
    unfold rep
    rw [← List.append_assoc, List.replicate_append_replicate]
    congr 2
    omega
  rw [h1, dgs_append, List.getElem?_append_left (List.getElem?_eq_some_iff.1 hv).1]
  exact hv
theorem Repeat_s (x : B32) (n b o c : Nat) (hn : n ≤ 256) : Spec Tryd.prog 49 [.slice (some ⟨b, o, none⟩) 1 c, .int .i64 (n : Int)].toArray [.rd (some ⟨b, o, none⟩) x.cells] [] (fun g : Nat => .slice (some ⟨g, 0, none⟩) n n) (fun g => [.own (.slice (some ⟨g, 0, none⟩) n n) n 24 32 (dgs (List.replicate n x))]) := by
  refine spec_of Tryd.func49 rfl (n := 48) rfl rfl ?_
  intro W
  refine h_seq ?_
  refine h_reg ?_
  refine h_op (r_assign rfl) ?_
  refine h_nil ?_
  refine q_then ?_
  refine h_seq ?_
  refine h_seq ?_
  refine h_reg ?_
  refine h_op (r_move rfl) ?_
  refine h_op (r_bool (r_lss rfl rfl) (decide_eq_false (by omega))) ?_
  refine h_nil ?_
  refine q_then ?_
  refine h_condF rfl ?_
  refine h_skip ?_
  refine q_then ?_
  refine h_seq ?_
  refine h_reg ?_
  refine h_op (r_move rfl) ?_
  refine h_op (r_len rfl) ?_
  refine h_op (r_cNW rfl) ?_
  refine h_op (r_move rfl) ?_
  refine h_op (r_cNW rfl) ?_
  refine h_call ((Mul_s n hn).comes) rfl rfl rfl fun _ => ?_
  refine h_op (r_move rfl) ?_
  refine h_op (r_extract rfl rfl) ?_
  refine h_op (r_extract rfl rfl) ?_
  refine h_op (r_assign rfl) ?_
  refine h_op (r_assign rfl) ?_
  refine h_nil ?_
  refine q_then ?_
  refine h_seq ?_
  refine h_seq ?_
  refine h_reg ?_
  refine h_op (r_move rfl) ?_
  refine h_op (r_bool (r_gtr rfl rfl) (show _ = false by decide)) ?_
  refine h_op (r_move rfl) ?_
  refine h_op (r_move rfl) ?_
  refine h_op (r_bool (r_gtr rfl rfl) (decide_eq_false (by omega))) ?_
  refine h_op (r_pick rfl rfl) ?_
  refine h_nil ?_
  refine q_then ?_
  refine h_condF rfl ?_
  refine h_skip ?_
  refine q_then ?_
  refine h_seq ?_
  refine h_reg ?_
  refine h_op (r_move rfl) ?_
  refine h_op (r_cN rfl (IntWalk.i64_in _ (by omega))) ?_
  refine h_opX (x_make rfl rfl) fun g30 => ?_
  refine h_op (r_assign rfl) ?_
  refine h_nil ?_
  refine q_then ?_
  refine h_seq ?_
  refine h_reg ?_
  rw [made_dgs]
  rw [show List.replicate n zB32 = rep 0 n x by simp [rep]]
  obtain ⟨q, hq⟩ : ∃ q, q = Nat.min 1 n := ⟨_, rfl⟩
  have hq1 : q ≤ 1 := hq ▸ Nat.min_le_left 1 n
  have hq2 : q ≤ n := hq ▸ Nat.min_le_right 1 n
  have hq3 : 1 ≤ q ∨ n = 0 := by
    by_cases h0 : n = 0
    · exact .inr h0
    · exact .inl (by rw [hq]; exact Nat.le_min.2 ⟨Nat.le_refl _, by omega⟩)
  have hst := rep_step 0 n q x (by omega)
  have hl := rep_len 0 n x (by omega)
  refine h_op (r_move rfl) ?_
  refine h_op (r_move rfl) ?_
  refine h_opX (x_copyAt (q := q) (cs := dgs (List.replicate q x)) (xs' := dgs (rep (0 + q) n x)) rfl rfl (fun w hw => rd_le1 hq1 (hw.ok (.rd _ _) (by simp))) hq.symm (by rw [dgs_len, List.length_replicate]) (by rw [dgs_len, dgs_len, List.length_replicate, hl]; omega) (dgs_one _) (by rw [dgs_len, List.length_replicate]; simpa using hst)) fun _ => ?_
  refine h_op (r_assign rfl) ?_
  refine h_nil ?_
  refine q_then ?_
  refine h_seq ?_
  refine h_block ?_
  rw [Nat.zero_add]
  refine h_loop (fun (k : Nat) => k ≤ n ∧ (1 ≤ k ∨ n = 0)) (fun (k : Nat) => [(8, .int .i64 (k : Int)), (7, .slice (some ⟨g30, 0, none⟩) n n)]) (fun (k : Nat) => [.own (.slice (some ⟨g30, 0, none⟩) n n) n 24 32 (dgs (rep k n x))]) (fun (k : Nat) => n - k) q (⟨hq2, hq3⟩) ⟨rfl, rfl, trivial⟩ (same) ?_
  clear hq hq1 hq2 hq3 hst hl
  intro k hk
  refine h_seq ?_
  refine h_seq ?_
  refine h_reg ?_
  refine h_op (r_move rfl) ?_
  refine h_op (r_move rfl) ?_
  refine h_op (r_len rfl) ?_
  refine h_op (r_lss rfl rfl) ?_
  refine h_nil ?_
  refine q_then ?_
  refine h_cond rfl (fun h => ?_) (fun h => ?_)
  · have hkn : k < n := by omega
    have hk1 : 1 ≤ k := by omega
    obtain ⟨q, hq⟩ : ∃ q, q = Nat.min k (n - k) := ⟨_, rfl⟩
    have hq1 : q ≤ k := hq ▸ Nat.min_le_left k (n - k)
    have hq2 : q ≤ n - k := hq ▸ Nat.min_le_right k (n - k)
    have hq3 : 1 ≤ q := hq ▸ Nat.le_min.2 ⟨hk1, by omega⟩
    have hst := rep_step k n q x (by omega)
    have hl := rep_len k n x (by omega)
    refine h_skip ?_
    refine q_then ?_
    refine h_block ?_
    refine ha_start [] [] mixed (same) ?_
    refine ha_takeP 0 rfl (r_move rfl) ?_
    refine ha_takeP 1 rfl (r_move rfl) ?_
    refine ha_takeP 2 rfl (r_move rfl) ?_
    refine ha_takeP 3 rfl (r_as (r_slL rfl rfl) (show _ = Value.slice (some ⟨g30, k * 32, none⟩) (n - k) (n - k) by rw [cutA_lt (by omega), Nat.zero_add])) ?_
    refine ha_takeP 4 rfl (r_move rfl) ?_
    refine ha_takeP 5 rfl (r_move rfl) ?_
    refine ha_takeP 6 rfl (r_as (r_slH rfl rfl) (show _ = Value.slice (some ⟨g30, 0, none⟩) k n by rw [cutA_lt (by omega)])) ?_
    refine ha_one 7 ?_
    refine ho_X 7 rfl (rk (x_copyAt (q := q) (cs := dgs (List.replicate q x)) (xs' := dgs (rep (k + q) n x)) rfl rfl (fun w hw => (fun j v hv => ⟨g30, 0, rfl, by rw [Nat.zero_add]; exact own_cell (hw.ok (.own _ _ _ _ _) (List.mem_cons_self ..)) (rep_pre hq1 j v hv)⟩)) hq.symm (by rw [dgs_len, List.length_replicate]) (by rw [dgs_len, dgs_len, List.length_replicate, hl]; omega) (dgs_one _) (by rw [dgs_len, List.length_replicate]; exact hst))) (fun _ => same) fun _ => ?_
    refine ha_takeP 8 rfl (r_add rfl rfl) ?_
    refine ha_takeP 9 rfl (r_assign rfl) ?_
    refine ha_done (by kernel_rfl) ?_
    refine q_block ?_
    exact h_back (k + q) (⟨by omega, by omega⟩) (by omega) ⟨rfl, rfl, trivial⟩ (same)
  · obtain rfl : k = n := by omega
    rw [show rep k k x = List.replicate k x by simp [rep]]
    refine h_exit ?_
    refine q_thenE ?_
    refine q_thenE ?_
    refine q_blockE ?_
    refine q_then ?_
    refine h_seq ?_
    refine h_reg ?_
    refine h_op (r_move rfl) ?_
    refine h_op (r_assign rfl) ?_
    refine h_nil ?_
    refine q_then ?_
    refine h_ret ?_
    exact h_ret1 rfl rfl fun w s => ⟨g30, rfl, s.res (List.Sublist.refl _) (by simp [Fa.wr])⟩
theorem nilDigest_s (n : Nat) (hn : n ≤ 256) (gh gc k : Nat) (hk : k ≤ 1000000000000) : Spec Tryd.prog 50 [.pointer (some ⟨gh, 0, none⟩), .pointer none].toArray [.rd (some ⟨gh, 0, none⟩) [.pointer (some ⟨gc, 0, none⟩), .int .i64 (n : Int)], .rd (some ⟨0, 0, none⟩) hashT] [.blk gc [.int .i64 (k : Int)] 78] (fun _ : Unit => .agg (sumB n preE).cells.toArray) (fun _ => [.blk gc [.int .i64 ((k + 1 : Nat) : Int)] 78]) := by
  refine spec_of Tryd.func50 rfl (n := 14) rfl rfl ?_
  intro W
  refine h_seq ?_
  refine h_reg ?_
  refine h_opX (x_alloc) fun g4 => ?_
  refine h_nil ?_
  refine q_then ?_
  refine h_seq ?_
  refine h_seq ?_
  refine h_reg ?_
  refine h_op (r_move rfl) ?_
  refine h_op (r_nilR rfl rfl) ?_
  refine h_nil ?_
  refine q_then ?_
  refine h_condT rfl ?_
  refine h_seq ?_
  refine h_reg ?_
  refine h_op (r_move rfl) ?_
  refine h_call (pEmpty_s.comes) rfl rfl rfl fun ⟨g8, c8⟩ => ?_
  dsimp only
  refine h_call ((HSum_s n hn gh gc k hk preE (some ⟨g8, 0, none⟩) c8 (fun h => by cases h) (by decide)).comes) rfl rfl rfl fun _ => ?_
  refine h_opS (s_storer rfl rfl) ?_
  refine h_nil ?_
  refine q_then ?_
  refine h_ret ?_
  refine q_thenR ?_
  exact h_ret1 rfl (rv_row rfl) fun w s => ⟨(), rfl, (same w s).res (List.Sublist.refl _) (by simp [Fa.wr])⟩
end Go.Proofs.YtfjlpndohnianaaDoor
/- E10 -/
namespace Go.Proofs.YtfjlpndohnianaaDoor
set_option linter.unusedSimpArgs false
set_option linter.unusedVariables false
open Go.RowKit
def expL (e : B32) (b : B32) (ss : List B32) : Nat → List B32
  | 0 => []
  | k + 1 => expL e b ss k ++ [if bitAt b k then ss.getD (dep b k).length zB32 else e]
theorem expL_len (e : B32) (b : B32) (ss : List B32) : ∀ n, (expL e b ss n).length = n
  | 0 => rfl
  | n + 1 => by rw [expL, List.length_append, expL_len e b ss n]; rfl
theorem expL_eq (e : B32) (b : B32) (ss : List B32) : ∀ n, expL e b ss n = (List.range n).map fun i => if bitAt b i then ss.getD (dep b i).length zB32 else e
  | 0 => rfl
  | n + 1 => by rw [expL, expL_eq e b ss n, List.range_succ, List.map_append]; rfl
def expJ (e : B32) (b : B32) (ss : List B32) (n j : Nat) : List B32 := (List.range n).map fun i => if bitAt b i = true ∧ (dep b i).length < j then ss.getD (dep b i).length zB32 else e
theorem expJ_len (e : B32) (b : B32) (ss : List B32) (n j : Nat) : (expJ e b ss n j).length = n := by simp [expJ]
theorem expJ_0 (e : B32) (b : B32) (ss : List B32) (n : Nat) : expJ e b ss n 0 = List.replicate n e := by
  apply List.ext_getElem?
  intro i
  unfold expJ
  rw [List.getElem?_map, List.getElem?_replicate]
  by_cases h : i < n
  · rw [List.getElem?_range h, if_pos h]; simp
  · rw [List.getElem?_eq_none (by simpa using h), if_neg h]; rfl
theorem dep_split (b : B32) {i : Nat} (h : i < 256) : depths b = dep b i ++ ((if bitAt b i then [i] else []) ++ ((List.range (255 - i)).map (i + 1 + ·)).filter (bitAt b)) := by
  unfold depths dep
  have e : (256 : Nat) = (i + 1) + (255 - i) := by omega
  rw [e, List.range_add, List.filter_append, List.range_succ, List.filter_append, List.append_assoc]
  congr 2
  rw [List.filter_cons]
  split <;> rfl
theorem dep_nth {b : B32} {i : Nat} (h : i < 256) (hb : bitAt b i = true) : (depths b)[(dep b i).length]? = some i := by
  rw [dep_split b h, if_pos hb, List.getElem?_append_right (Nat.le_refl _), Nat.sub_self]
  rfl
theorem dep_lt {b : B32} {i : Nat} (h : i < 256) (hb : bitAt b i = true) : (dep b i).length < (depths b).length := (List.getElem?_eq_some_iff.1 (dep_nth h hb)).1
theorem dep_pos {b : B32} {i j : Nat} (h : (depths b)[j]? = some i) : i < 256 ∧ bitAt b i = true ∧ (dep b i).length = j := by
  have hm := List.mem_of_getElem? h
  unfold depths at hm
  rw [List.mem_filter] at hm
  have hi : i < 256 := by simpa using hm.1
  refine ⟨hi, hm.2, ?_⟩
  have h2 := dep_nth hi hm.2
  have hnd : (depths b).Nodup := List.nodup_range.filter _
  obtain ⟨h3, h4⟩ := List.getElem?_eq_some_iff.1 h
  obtain ⟨h5, h6⟩ := List.getElem?_eq_some_iff.1 h2
  exact (List.getElem_inj hnd).1 (h6.trans h4.symm)
theorem expJ_all (e : B32) (b : B32) (ss : List B32) (n j : Nat) (hn : n ≤ 256) (hj : (depths b).length ≤ j) : expJ e b ss n j = expL e b ss n := by
  rw [expL_eq]
  unfold expJ
  apply List.map_congr_left
  intro i hi
  have hi : i < n := by simpa using hi
  by_cases hb : bitAt b i = true
  · rw [if_pos ⟨hb, by have := dep_lt (b := b) (i := i) (by omega) hb; omega⟩, if_pos hb]
  · rw [if_neg (fun h => hb h.1), if_neg hb]
theorem expJ_set (e : B32) (b : B32) (ss : List B32) (n j : Nat) {i0 : Nat} (h : (depths b)[j]? = some i0) (hn : n ≤ 256) (h0 : i0 < n) : (expJ e b ss n j).set i0 (ss.getD j zB32) = expJ e b ss n (j + 1) := by
  obtain ⟨h1, h2, h3⟩ := dep_pos h
  apply List.ext_getElem?
  intro i
  rw [List.getElem?_set, expJ_len]
  unfold expJ
  by_cases e2 : i0 = i
  · subst e2
    rw [if_pos rfl, if_pos h0, List.getElem?_map, List.getElem?_range h0, Option.map_some, if_pos ⟨h2, by omega⟩, h3]
  · rw [if_neg e2, List.getElem?_map, List.getElem?_map]
    by_cases hi : i < n
    · rw [List.getElem?_range hi, Option.map_some, Option.map_some]
      congr 1
      by_cases hb : bitAt b i = true
      · have hne : (dep b i).length ≠ j := fun hj => by
          have := dep_nth (b := b) (i := i) (by omega) hb
          rw [hj, h] at this
          injection this with this
          exact e2 this
        by_cases hl : (dep b i).length < j
        · rw [if_pos ⟨hb, hl⟩, if_pos ⟨hb, by omega⟩]
        · rw [if_neg (fun h => hl h.2), if_neg (fun h => by have := h.2; omega)]
      · rw [if_neg (fun h => hb h.1), if_neg (fun h => hb h.1)]
    · rw [List.getElem?_eq_none (by simpa using hi)]; rfl
theorem lastI_max (b : B32) : ∀ (n i : Nat), i < n → bitAt b i = true → (i : Int) ≤ lastI b n
  | 0, i, h, _ => by omega
  | n + 1, i, h, hb => by
    rw [lastI_succ]
    by_cases hn : bitAt b n = true
    · rw [if_pos hn]; omega
    · rw [if_neg hn]
      have : i ≠ n := fun e => hn (e ▸ hb)
      exact lastI_max b n i (by omega) hb
theorem lastI_depths (b : B32) : lastI b 256 = match (depths b).getLast? with | some i => (i : Int) | none => -1 := rfl
end Go.Proofs.YtfjlpndohnianaaDoor
/- U17 -/
namespace Go.Proofs.YtfjlpndohnianaaDoor
set_option linter.unusedSimpArgs false
set_option linter.unusedVariables false
open Go.RowKit
theorem ok_depth {p : Proof} (h : checkP p = 0) : 0 ≤ p.depth ∧ p.depth ≤ 256 := by simpa [okJ] using checkP_zero h 1 (by omega)
theorem ok_last {p : Proof} (h : checkP p = 0) : lastI p.bitmap 256 = p.depth - 1 := by simpa [okJ] using checkP_zero h 3 (by omega)
theorem ok_sibs {p : Proof} (h : checkP p = 0) : (depths p.bitmap).length = p.sibs.n := by
  have := checkP_zero h 4 (by omega)
  simp only [okJ, decide_eq_true_eq] at this
  omega
theorem Expand_bad (p : Proof) (h : checkP p ≠ 0) (gh : Nat) : Spec Tryd.prog 31 [.pointer (some ⟨gh, 0, none⟩), .agg p.cells.toArray].toArray [] [] (fun _ : Unit => .tuple #[.slice none 0 0, .int .i64 (checkP p)]) (fun _ => []) := by
  refine spec_of Tryd.func31 rfl (n := 40) rfl rfl ?_
  intro W
  refine h_seq ?_
  refine h_reg ?_
  refine h_opX (x_box rfl) fun g3 => ?_
  refine h_op (r_assign rfl) ?_
  refine h_op (r_assign rfl) ?_
  refine h_nil ?_
  refine q_then ?_
  refine h_seq ?_
  refine h_seq ?_
  refine h_reg ?_
  refine h_op (r_loadr rfl) ?_
  refine h_call ((Check_s p).comes) rfl rfl rfl fun _ => ?_
  refine h_op (r_assign rfl) ?_
  refine h_nil ?_
  refine q_then ?_
  refine h_seq ?_
  refine h_reg ?_
  refine h_op (r_move rfl) ?_
  refine h_op (r_neq rfl rfl) ?_
  refine h_nil ?_
  refine q_then ?_
  refine h_yes rfl (h) ?_
  refine h_seq ?_
  refine h_reg ?_
  refine h_op (r_move rfl) ?_
  refine h_op (r_assign rfl) ?_
  refine h_op (r_assign rfl) ?_
  refine h_nil ?_
  refine q_then ?_
  refine h_ret ?_
  refine q_thenR ?_
  exact h_ret2 rfl rfl rfl fun w s => ⟨(), rfl, s.res (List.nil_sublist _) (by simp)⟩
theorem Expand_s (p : Proof) (hc : checkP p = 0) (ss : List B32) (hs : p.sibs.n = ss.length) (n : Nat) (hn : n ≤ 256) (gh gc k : Nat) (hk : k ≤ 1000000000000) (d : Nat) (hd : p.depth = (d : Int)) : Spec Tryd.prog 31 [.pointer (some ⟨gh, 0, none⟩), .agg p.cells.toArray].toArray [.rd (some ⟨gh, 0, none⟩) [.pointer (some ⟨gc, 0, none⟩), .int .i64 (n : Int)], .rd p.sibs.A (dgs ss), .rd (some ⟨0, 0, none⟩) hashT] [.blk gc [.int .i64 (k : Int)] 78] (fun g : Nat => .tuple #[.slice (some ⟨g, 0, none⟩) d d, .int .i64 0]) (fun g => [.own (.slice (some ⟨g, 0, none⟩) d d) d 24 32 (dgs (expL (sumB n preE) p.bitmap ss d)), .blk gc [.int .i64 ((k + 1 : Nat) : Int)] 78]) := by
  have hd2 := ok_depth hc
  have hl := ok_last hc
  have hsb := ok_sibs hc
  have hd256 : d ≤ 256 := by omega
  have hl256 : (depths p.bitmap).length ≤ 256 := dep_len p.bitmap 256
  refine spec_of Tryd.func31 rfl (n := 40) rfl rfl ?_
  intro W
  refine h_seq ?_
  refine h_reg ?_
  refine h_opX (x_box rfl) fun g3 => ?_
  refine h_op (r_assign rfl) ?_
  refine h_op (r_assign rfl) ?_
  refine h_nil ?_
  refine q_then ?_
  refine h_seq ?_
  refine h_seq ?_
  refine h_reg ?_
  refine h_op (r_loadr rfl) ?_
  refine h_call ((Check_s p).comes) rfl rfl rfl fun _ => ?_
  rw [hc]
  refine h_op (r_assign rfl) ?_
  refine h_nil ?_
  refine q_then ?_
  refine h_seq ?_
  refine h_reg ?_
  refine h_op (r_move rfl) ?_
  refine h_op (r_neq rfl rfl) ?_
  refine h_nil ?_
  refine q_then ?_
  refine h_no rfl ((fun h => h rfl)) ?_
  refine h_skip ?_
  refine q_then ?_
  refine h_seq ?_
  refine ha_start [.blk g3 p.cells 29] [] mixed (same) ?_
  refine ha_takeP 0 rfl (r_move rfl) ?_
  refine ha_takeP 3 rfl (r_field rfl) ?_
  refine ha_take 4 rfl (r_int (r_loadc rfl) hd) ?_
  refine ha_one 1 ?_
  refine ho_C 1 rfl ((nilDigest_s n hn gh gc k hk).comes) rfl rfl rfl (fun _ => same) fun _ => ?_
  refine ha_one 2 ?_
  refine ho_X 2 rfl (rk (x_bsl rfl rfl)) (fun _ => same) fun g17 => ?_
  refine ha_one 5 ?_
  refine ho_C 5 rfl ((Repeat_s (sumB n preE) d g17 0 1 hd256).comes) rfl rfl rfl (fun _ => same) fun g20 => ?_
  refine ha_takeP 6 rfl (r_assign rfl) ?_
  refine ha_done (by kernel_rfl) ?_
  refine q_then ?_
  rw [← expJ_0 (sumB n preE) p.bitmap ss d]
  generalize sumB n preE = e at *
  refine h_seq ?_
  refine h_seq ?_
  refine h_reg ?_
  refine h_op (r_field rfl) ?_
  refine h_op (r_loadr rfl) ?_
  refine h_call ((List_s p.bitmap).comes) rfl rfl rfl fun ⟨A23, c23⟩ => ?_
  dsimp only
  refine h_op (r_len rfl) ?_
  refine h_op (r_move rfl) ?_
  refine h_nil ?_
  refine q_then ?_
  refine h_block ?_
  refine h_loop (fun (j : Nat) => j ≤ (depths p.bitmap).length) (fun (j : Nat) => [(25, .int .i64 (j : Int)), (24, .int .i64 ((depths p.bitmap).length : Int)), (23, .slice A23 (depths p.bitmap).length c23), (7, .slice (some ⟨g20, 0, none⟩) d d), (3, .pointer (some ⟨g3, 0, none⟩))]) (fun (j : Nat) => [.own (.slice A23 (depths p.bitmap).length c23) (depths p.bitmap).length 3 1 (ic (depths p.bitmap)), .own (.slice (some ⟨g20, 0, none⟩) d d) d 24 32 (dgs (expJ e p.bitmap ss d j)), .blk gc [.int .i64 ((k + 1 : Nat) : Int)] 78, .blk g3 p.cells 29, .rd p.sibs.A (dgs ss)]) (fun (j : Nat) => (depths p.bitmap).length - j) 0 (Nat.zero_le _) ⟨rfl, rfl, rfl, rfl, rfl, trivial⟩ (same) ?_
  intro j hj
  refine h_seq ?_
  refine h_reg ?_
  refine h_op (r_lss rfl rfl) ?_
  refine h_nil ?_
  refine q_then ?_
  refine h_seq ?_
  refine h_cond rfl (fun h => ?_) (fun h => ?_)
  · have hlt : j < (depths p.bitmap).length := by omega
    obtain ⟨i, hi⟩ : ∃ i, (depths p.bitmap)[j]? = some i := ⟨_, List.getElem?_eq_getElem hlt⟩
    obtain ⟨h1, h2, h3⟩ := dep_pos hi
    have hmx := lastI_max p.bitmap 256 i h1 h2
    have hid : i < d := by omega
    have hgi : (depths p.bitmap).getD j 0 = i := by rw [List.getD, hi]; rfl
    have hset := expJ_set e p.bitmap ss d j hi hd256 hid
    have hdl := expJ_len e p.bitmap ss d j
    have hds := dgs_set (expJ e p.bitmap ss d j) i (ss.getD j zB32) (by omega)
    rw [hset] at hds
    have hjs : j < ss.length := by omega
    refine h_pure (φ := (∃ g, A23 = some ⟨g, 0, none⟩) ∧ ∃ b o, p.sibs.A = some ⟨b, o, none⟩) (fun w s => ⟨s.ownSome (N := (depths p.bitmap).length) (c := c23) (by omega), Rd.some (s.ok (.rd p.sibs.A (dgs ss)) (by simp)) (by rw [dgs_len]; omega)⟩) ?_
    rintro ⟨⟨g23, rfl⟩, b, o, hA⟩
    refine h_skip ?_
    refine q_then ?_
    refine h_seq ?_
    refine h_block ?_
    refine h_seq ?_
    refine h_reg ?_
    refine h_op (r_move rfl) ?_
    refine h_op (r_idx rfl rfl) ?_
    refine h_op (r_nth rfl (ic_at (by omega))) ?_
    refine h_op (r_assign rfl) ?_
    refine h_op (r_assign rfl) ?_
    refine h_nil ?_
    refine q_then ?_
    refine h_reg ?_
    rw [hgi]
    refine h_op (r_move rfl) ?_
    refine h_op (r_move rfl) ?_
    refine h_op (r_field rfl) ?_
    refine h_op (r_loadc rfl) ?_
    rw [hA]
    refine h_op (r_move rfl) ?_
    refine h_op (r_idx rfl rfl) ?_
    refine h_op (r_nthr rfl (out := (ss.getD j zB32).cells) (B32.cells_length _) (dgs_at hjs)) ?_
    refine h_op (r_idx rfl rfl) ?_
    refine h_opS (s_setrO rfl rfl (by rw [dgs_len, hdl]; omega) hds) ?_
    refine h_nil ?_
    refine q_block ?_
    refine q_then ?_
    refine h_reg ?_
    refine h_op (r_add rfl rfl) ?_
    refine h_op (r_move rfl) ?_
    refine h_nil ?_
    exact h_back (j + 1) (by omega) (by omega) ⟨rfl, rfl, rfl, rfl, rfl, trivial⟩ (same)
  · obtain rfl : j = (depths p.bitmap).length := by omega
    rw [expJ_all e p.bitmap ss d _ hd256 (Nat.le_refl _)]
    refine h_exit ?_
    refine q_thenE ?_
    refine q_thenE ?_
    refine q_blockE ?_
    refine q_then ?_
    refine h_seq ?_
    refine h_reg ?_
    refine h_op (r_move rfl) ?_
    refine h_op (r_assign rfl) ?_
    refine h_op (r_assign rfl) ?_
    refine h_nil ?_
    refine q_then ?_
    refine h_ret ?_
    exact h_ret2 rfl rfl rfl fun w s => ⟨g20, rfl, (same w s).res (List.Sublist.refl _) (by simp [Fa.wr])⟩
end Go.Proofs.YtfjlpndohnianaaDoor
/- N9 -/
namespace Go.Proofs.YtfjlpndohnianaaDoor
set_option linter.unusedSimpArgs false
set_option linter.unusedVariables false
open Go.RowKit
def IterG (P : Program) (gf : FuncId) (lb : List Value) (R A : List Fa) {τ : Type} (N : Nat) (enc : Nat → τ → List Value) (G : Nat → τ → List Fa) (A' : List Fa) : Prop :=
  ∀ (l : Nat) (J : Nat → List Fa → Prop) (Rm m0 : List Fa) (w : World), (∀ k m, J k m → ∀ f ∈ m, f.wr = true) →
    (∀ k u m, k < N → J k m → ∀ w, Fx w (G k u ++ m) → Reads w (G k u ++ m) Rm → YieldAt Fence.wide 0 P l (enc k u).toArray w fun e w' => e = .returned (.bool true) ∧ ∃ m', J (k + 1) m' ∧ Rx (G k u ++ m) w w' m') →
    J 0 m0 → Fx w (A ++ m0) → Reads w (A ++ m0) (R ++ Rm) →
    Calls P gf (.func (.yield l) #[] #[] :: lb).toArray w fun e w' => ∃ v m', e = .returned v ∧ J N m' ∧ Rx (A ++ m0) w w' (A' ++ m')
theorem wf_perm {A A' : List Fa} (h : A.Perm A') (k : Nat) : wf A k ↔ wf A' k := ⟨fun ⟨f, hf, h1⟩ => ⟨f, h.mem_iff.1 hf, h1⟩, fun ⟨f, hf, h1⟩ => ⟨f, h.mem_iff.2 hf, h1⟩⟩
theorem Rx.permA {A A' : List Fa} {W w : World} {N : List Fa} (hr : Rx A W w N) (h : A.Perm A') : Rx A' W w N :=
  ⟨⟨hr.toFx, hr.os, hr.tape, hr.output, hr.size, fun k hk hn => hr.block k hk fun hw => hn ((wf_perm h k).1 hw), fun f hf hw k hk => (hr.fresh f hf hw k hk).imp_right (wf_perm h k).1⟩, fun f hf k hk => (hr.all f hf k hk).imp_right (wf_perm h k).1⟩
theorem Reads.perm {w : World} {A A' R : List Fa} (hr : Reads w A R) (h : A.Perm A') : Reads w A' R := fun r hrm => ⟨(hr r hrm).1, (hr r hrm).2.1, fun a ha => (hr r hrm).2.2 a (h.mem_iff.2 ha)⟩
instance (priority := 2000) (G m Rm L M' M : List Fa) [h : Take G L M'] [k : TakeT m Rm M' M] : TakeT (G ++ m) Rm L M := ⟨by
  refine h.perm.trans ?_
  rw [List.append_assoc]
  exact List.Perm.append_left _ k.perm⟩
section
variable {A : List Fa} {W : World} {n : Nat} {D : List Deferred} {E : Env} {L M : List Fa} {P : Program} {Q : Exit → Act → World → Prop}
theorem h_rangeG {τ : Type} {N : Nat} {G : Nat → τ → List Fa} {g : Operand} {ps : List Nat} {assign body : Code} {gf : FuncId} {lb : List Value} {R Ai Ai' : List Fa} {enc : Nat → τ → List Value} (it : IterG P gf lb R Ai N enc G Ai') (hg : ev E g = some (.func (.func gf) #[] lb.toArray)) [eg : Ent P gf]
    (J : Nat → List Fa → Prop) (m0 Rm : List Fa) [ht : Take (Ai ++ m0) L M] [hr : Rds M (R ++ Rm)] (hJw : ∀ k m, J k m → ∀ f ∈ m, f.wr = true) (h0 : J 0 m0) (hps : (ps.all fun p => Nat.blt p n) = true) (hen : ∀ k u, (enc k u).length = ps.length)
    (hround : ∀ (l : Nat) (r : Loop) (k : Nat) (u : τ) (m : List Fa) (W1 : World), r.state = .ready → r.pending = none → k < N → J k m →
      H (.obj l (.loop r) :: (G k u ++ m)) W1 n [] (parEnv ps (enc k u) E) (.obj l (.loop r) :: ((G k u ++ m) ++ Rm)) (assign.wpIn (FR (some l)) 0 P (Exit.then (fun a₁ w₁ => ∃ w₂, (Instr.beginRound l).run P w₁ = .ok () w₂ ∧ body.wpIn (FR (some l)) 0 P (roundPost P l (RoundOk l r (J (k + 1)) (G k u ++ m) W1)) a₁ w₂) (fun _ _ _ => False))))
    (hdone : ∀ (b : Nat) (m : List Fa), J N m → H A W n ({ target := .collected b, args := #[] } :: D) E ((Ai' ++ m) ++ (.obj b (.deferred (some [])) :: M)) (Q .normal)) :
    H A W n D E L ((Code.rangeFunc g ps.toArray assign body).wpIn (FR none) 0 P Q) := fun a w ka s => by
  refine wpIn_rangeFunc ?_
  intro fn hfn
  obtain ⟨rec, hrec⟩ : ∃ rec : Loop, rec = { state := .ready, pending := none, fn, tmps := a.tmps, params := ps.toArray, assign, body, defers := w.heap.size } := ⟨_, rfl⟩
  have s1 := (s.allocObj (.deferred (some []))).allocObj (.loop rec)
  rw [World.size_alloc] at s1
  generalize hW1 : (w.alloc (.deferred (some []))).alloc (.loop rec) = W1 at s1
  have s2 := s1.zag ht.perm
  have hev : a.eval g = .func (.func gf) #[] lb.toArray := ka.ev hg
  refine ⟨w.heap.size + 1, [{ target := .collected w.heap.size, args := #[] }], W1, { target := .fn (.func gf) lb.toArray, args := #[.func (.yield (w.heap.size + 1)) #[] #[]] }, W1, gf, #[.func (.yield (w.heap.size + 1)) #[] #[]] ++ lb.toArray, W1, ?_, ?_, ?_, ?_, (fun h => by cases h), ?_⟩
  · rw [← hW1, hrec]
    exact run_enterLoop_outer _ _ _ _ _
  · simp only [resolve, hev]
    simp [go_sem]
  · intro f' _
    trivial
  · simp only [invoke]
    exact eg.ok _ _
  · have hcall := it (w.heap.size + 1) (fun k m => ∃ m1, m = .obj (w.heap.size + 1) (.loop rec) :: m1 ∧ J k m1) Rm (.obj (w.heap.size + 1) (.loop rec) :: m0) W1 (by rintro k m ⟨m1, rfl, hm⟩ f hf; exact (List.mem_cons.1 hf).elim (fun h => by rw [h]; rfl) (hJw k m1 hm f)) ?_ ⟨m0, rfl, h0⟩ (s2.toFx.sub (List.sublist_append_left _ _)) ?_
    · rw [show (#[.func (.yield (w.heap.size + 1)) #[] #[]] ++ lb.toArray : Array Value) = (.func (.yield (w.heap.size + 1)) #[] #[] :: lb).toArray by simp]
      refine (calls_FR hcall).mono ?_
      rintro e w3 ⟨v, m', rfl, ⟨m1, rfl, hJ⟩, hx⟩
      have s3 := s2.ret hx
      have s4 := s3.perm (M := .obj (w.heap.size + 1) (.loop rec) :: ((Ai' ++ m1) ++ (.obj w.heap.size (.deferred (some [])) :: M))) (by
        simp only [List.append_assoc, List.cons_append]
        exact List.perm_middle)
      have ho : w3.heap[w.heap.size + 1]? = some (.loop rec) := s4.ok (.obj _ _) (List.mem_cons_self ..)
      refine ⟨none, w3.putObj (w.heap.size + 1) (.loop { rec with state := .exhausted }), ?_, ?_⟩
      · have := run_endLoop (P := P) ho (by rw [hrec]; simp)
        have hpn : rec.pending = none := by rw [hrec]
        rw [this, hpn]
      · exact hdone _ m1 hJ _ _ ⟨ka.size, by show [_] ++ a.defers = _; rw [ka.defers]; rfl, ka.val⟩ (s4.putObj _).tail
    · rintro k u m hkN ⟨m1, rfl, hJ⟩ w4 hf0 hR0
      have hpm : (G k u ++ .obj (w.heap.size + 1) (.loop rec) :: m1).Perm (.obj (w.heap.size + 1) (.loop rec) :: (G k u ++ m1)) := List.perm_middle
      have hf := hf0.perm hpm
      have hR := hR0.perm hpm
      have ho : w4.heap[w.heap.size + 1]? = some (.loop rec) := hf.ok (.obj _ _) (List.mem_cons_self ..)
      have hy := run_yield (P := P) (args := (enc k u).toArray) ho (by rw [hrec]; simpa using hen k u)
      refine ⟨_, _, _, _, hy, ?_⟩
      have hk : Kn n [] E { tmps := a.tmps, defers := [] } := ⟨ka.size, rfl, ka.val⟩
      have hk2 := Kn.par ps (enc k u) E a.tmps hps hk
      have hh := hround (w.heap.size + 1) rec k u m1 w4 (by rw [hrec]) (by rw [hrec]) hkN hJ _ w4 hk2 (Sx.start hf hR)
      rw [hrec] at hh ⊢
      refine (roundIn_of_wpIn (F := Fence.wide) trivial (R := RoundOk (w.heap.size + 1) rec (J (k + 1)) (G k u ++ m1) w4) ?_).mono ?_
      · rw [hrec]
        simp only [List.zip_toArray, List.foldl_toArray]
        exact hh
      · rintro e w5 ⟨rfl, m', hJ', hx⟩
        rw [← hrec]
        exact ⟨rfl, _, ⟨m', rfl, hJ'⟩, hx.permA hpm.symm⟩
    · refine s2.reads (M := .obj w.heap.size (.deferred (some [])) :: M) (List.Perm.refl _) ⟨fun hw r hrm => ?_⟩
      obtain ⟨h1, h2, h3⟩ := hr.ok hw.tail r hrm
      exact ⟨h1, h2, fun k hk => let ⟨f, hf, hfk⟩ := h3 k hk; ⟨f, List.mem_cons_of_mem _ hf, hfk⟩⟩
theorem iter_ofG {L1 LL : List Fa → List Fa → List Fa} {gf n : Nat} {fn : Func} {c : Code} {lb : List Value} {R Ai Ai' : List Fa} {τ : Type} {N : Nat} {enc : Nat → τ → List Value} {G : Nat → τ → List Fa} (hf : P.funcs[gf]? = some fn) (hb : fn.body = some c) (hn : fn.ntmps = n) (hl : Nat.ble (lb.length + 1) n = true) [hL1 : ∀ m0 Rm, App R (m0 ++ Rm) (L1 m0 Rm)] [hL2 : ∀ m0 Rm, App Ai (L1 m0 Rm) (LL m0 Rm)]
    (h : ∀ (l : Nat) (J : Nat → List Fa → Prop) (Rm m0 : List Fa) (W : World), (∀ k m, J k m → ∀ f ∈ m, f.wr = true) → (∀ r ∈ Rm, r.wr = false) → (∀ k u m, k < N → J k m → YA P l (enc k u) Rm (G k u ++ m) (J (k + 1))) → J 0 m0 →
      H (Ai ++ m0) W n [] (argsEnv 0 (.func (.yield l) #[] #[] :: lb)) (LL m0 Rm) (c.wpIn (FR none) 0 P (bodyPostM (FR none) 0 P fn fun e w' => ∃ v m', e = .returned v ∧ J N m' ∧ Rx (Ai ++ m0) W w' (Ai' ++ m')))) : IterG P gf lb R Ai N enc G Ai' := fun l J Rm m0 w hJw hy h0 hA hR => by
  have hl' : (Value.func (.yield l) #[] #[] :: lb).length ≤ n := by simpa using hl
  have hp : (Ai ++ m0 ++ (R ++ Rm)).Perm (Ai ++ (R ++ (m0 ++ Rm))) := by
    rw [List.append_assoc]
    refine List.Perm.append_left _ ?_
    rw [← List.append_assoc, ← List.append_assoc]
    exact List.Perm.append_right _ List.perm_append_comm
  have s := (Sx.start hA hR).perm hp
  rw [(hL1 m0 Rm).eq, (hL2 m0 Rm).eq] at s
  refine (callsIn_wide (n := 0)).1 (callsIn_of_wp_marks hf hb trivial (h l J Rm m0 w hJw (fun r hr => (hR r (List.mem_append_right _ hr)).1) hy h0 _ w ⟨?_, rfl, fun t u ht => ?_⟩ s))
  · simp only [hn, Array.size_append, List.size_toArray, Array.size_replicate]
    omega
  · obtain ⟨_, h2⟩ := argsEnv_look (.func (.yield l) #[] #[] :: lb) 0 t u ht
    have hlt : t < (Value.func (.yield l) #[] #[] :: lb).length := by
      obtain ⟨h3, _⟩ := List.getElem?_eq_some_iff.1 h2
      simpa using h3
    rw [Array.getElem?_append_left (by simpa using hlt)]
    simpa using h2
end
end Go.Proofs.YtfjlpndohnianaaDoor
/- U18 -/
namespace Go.Proofs.YtfjlpndohnianaaDoor
set_option linter.unusedSimpArgs false
set_option linter.unusedVariables false
open Go.RowKit
def endP (p : Proof) : List UInt8 := if p.kind = 1 then preL p.leaf else preE
theorem endP_len (p : Proof) : (endP p).length ≤ 65 := by
  unfold endP
  split
  · rw [preL_len]; exact Nat.le_refl _
  · decide
theorem end_s (p : Proof) : Spec Tryd.prog 30 [.agg p.cells.toArray].toArray [] [] (fun u : Nat × Nat => .slice (some ⟨u.1, 0, none⟩) (endP p).length u.2) (fun u => [.own (.slice (some ⟨u.1, 0, none⟩) (endP p).length u.2) (endP p).length 5 1 (bc (endP p))]) := by
  refine spec_of Tryd.func30 rfl (n := 10) rfl rfl ?_
  intro W
  refine h_seq ?_
  refine h_reg ?_
  refine h_opX (x_box rfl) fun g1 => ?_
  refine h_op (r_assign rfl) ?_
  refine h_nil ?_
  refine q_then ?_
  refine h_seq ?_
  refine h_seq ?_
  refine h_reg ?_
  refine h_op (r_field rfl) ?_
  refine h_op (r_loadc rfl) ?_
  refine h_op (r_eql rfl rfl) ?_
  refine h_nil ?_
  refine q_then ?_
  refine h_cond rfl (fun h => ?_) (fun h => ?_)
  · rw [show endP p = preL p.leaf from if_pos h]
    refine h_seq ?_
    refine h_reg ?_
    refine h_op (r_field rfl) ?_
    refine h_op (r_loadr rfl) ?_
    refine h_call ((pLeaf_s p.leaf).comes) rfl rfl rfl fun ⟨g, c⟩ => ?_
    dsimp only
    refine h_op (r_assign rfl) ?_
    refine h_nil ?_
    refine q_then ?_
    refine h_ret ?_
    refine q_thenR ?_
    exact h_ret1 rfl rfl fun w s => ⟨(g, c), rfl, s.res ((List.nil_sublist _).cons_cons _) (by simp [Fa.wr])⟩
  · rw [show endP p = preE from if_neg h]
    refine h_skip ?_
    refine q_then ?_
    refine h_seq ?_
    refine h_reg ?_
    refine h_call (pEmpty_s.comes) rfl rfl rfl fun ⟨g, c⟩ => ?_
    dsimp only
    refine h_op (r_assign rfl) ?_
    refine h_nil ?_
    refine q_then ?_
    refine h_ret ?_
    exact h_ret1 rfl rfl fun w s => ⟨(g, c), rfl, s.res ((List.nil_sublist _).cons_cons _) (by simp [Fa.wr])⟩
theorem End_s (p : Proof) (n : Nat) (hn : n ≤ 256) (gh gc k : Nat) (hk : k ≤ 1000000000000) : Spec Tryd.prog 14 [.pointer (some ⟨gh, 0, none⟩), .agg p.cells.toArray].toArray [.rd (some ⟨gh, 0, none⟩) [.pointer (some ⟨gc, 0, none⟩), .int .i64 (n : Int)], .rd (some ⟨0, 0, none⟩) hashT] [.blk gc [.int .i64 (k : Int)] 78] (fun _ : Unit => .agg (sumB n (endP p)).cells.toArray) (fun _ => [.blk gc [.int .i64 ((k + 1 : Nat) : Int)] 78]) := by
  have hl := endP_len p
  refine spec_of Tryd.func14 rfl (n := 9) rfl rfl ?_
  intro W
  refine h_seq ?_
  refine h_reg ?_
  refine h_opX (x_box rfl) fun g3 => ?_
  refine h_opX (x_alloc) fun g4 => ?_
  refine h_nil ?_
  refine q_then ?_
  refine h_seq ?_
  refine h_reg ?_
  refine h_op (r_move rfl) ?_
  refine h_op (r_loadr rfl) ?_
  refine h_call ((end_s p).comes) rfl rfl rfl fun ⟨g, c⟩ => ?_
  dsimp only
  refine h_call ((HSum_s n hn gh gc k hk (endP p) (some ⟨g, 0, none⟩) c (fun h => by cases h) (by omega)).comes) rfl rfl rfl fun _ => ?_
  refine h_opS (s_storer rfl rfl) ?_
  refine h_nil ?_
  refine q_then ?_
  refine h_ret ?_
  exact h_ret1 rfl (rv_row rfl) fun w s => ⟨(), rfl, (same w s).res (List.Sublist.refl _) (by simp [Fa.wr])⟩
theorem Backward_s (A : Option Addr) (N c : Nat) : Spec Tryd.prog 53 [.slice A N c].toArray [] [] (fun g : Nat => .func (.func 65) #[] [.pointer (some ⟨g, 0, none⟩)].toArray) (fun g => [.blk g [.slice A N c] 27]) := by
  refine spec_of Tryd.func53 rfl (n := 4) rfl rfl ?_
  intro W
  refine h_seq ?_
  refine h_reg ?_
  refine h_opX (x_box1 rfl) fun g1 => ?_
  refine h_op (r_assign rfl) ?_
  refine h_nil ?_
  refine q_then ?_
  refine h_seq ?_
  refine h_reg ?_
  refine h_op (r_func rfl rfl) ?_
  refine h_op (r_assign rfl) ?_
  refine h_nil ?_
  refine q_then ?_
  refine h_ret ?_
  exact h_ret1 rfl rfl fun w s => ⟨g1, rfl, s.res (List.Sublist.refl _) (by simp [Fa.wr])⟩
theorem Backward_it (ds : List B32) (b o c g1 : Nat) (hl : ds.length ≤ 1000000) : IterG Tryd.prog 65 [.pointer (some ⟨g1, 0, none⟩)] [.rd (some ⟨g1, 0, none⟩) [.slice (some ⟨b, o, none⟩) ds.length c], .rd (some ⟨b, o, none⟩) (dgs ds)] [] ds.length (fun k (_ : Unit) => [.int .i64 ((ds.length - 1 - k : Nat) : Int), .agg (ds.getD (ds.length - 1 - k) zB32).cells.toArray]) (fun _ _ => []) [] := by
  refine iter_ofG Tryd.func65 rfl (n := 19) rfl rfl ?_
  intro l J Rm m0 W hJw hRm hy h0
  refine h_seq ?_
  refine h_reg ?_
  refine h_op (r_loadc rfl) ?_
  refine h_op (r_len rfl) ?_
  refine h_op (r_sub rfl rfl) ?_
  refine h_op (r_assign rfl) ?_
  refine h_nil ?_
  refine q_then ?_
  refine h_block ?_
  refine h_loop (fun (s : Nat × List Fa) => s.1 ≤ ds.length ∧ J s.1 s.2) (fun (s : Nat × List Fa) => [(3, .int .i64 ((ds.length : Int) - 1 - (s.1 : Int))), (0, .func (.yield l) #[] #[]), (1, .pointer (some ⟨g1, 0, none⟩))]) (fun (s : Nat × List Fa) => .rd (some ⟨g1, 0, none⟩) [.slice (some ⟨b, o, none⟩) ds.length c] :: .rd (some ⟨b, o, none⟩) (dgs ds) :: (s.2 ++ Rm)) (fun (s : Nat × List Fa) => ds.length - s.1) (0, m0) ((show 0 ≤ ds.length ∧ J 0 m0 from ⟨by omega, h0⟩)) ⟨aI rfl (by dsimp only; omega), rfl, rfl, trivial⟩ (fun _ s => s) ?_
  rintro ⟨k, mm⟩ ⟨hk, hJ⟩
  dsimp only at hk hJ ⊢
  refine h_seq ?_
  refine h_seq ?_
  refine h_reg ?_
  refine h_op (r_move rfl) ?_
  refine h_op (r_geq rfl rfl) ?_
  refine h_nil ?_
  refine q_then ?_
  refine h_cond rfl (fun h => ?_) (fun h => ?_)
  · have hk2 : k < ds.length := by omega
    refine h_E (E' := [(3, .int .i64 ((ds.length - 1 - k : Nat) : Int)), (0, .func (.yield l) #[] #[]), (1, .pointer (some ⟨g1, 0, none⟩))]) ⟨aI rfl (by omega), rfl, rfl, trivial⟩ ?_
    refine h_skip ?_
    refine q_then ?_
    refine h_seq ?_
    refine h_block ?_
    refine h_seq ?_
    refine h_reg ?_
    refine h_op (r_move rfl) ?_
    refine h_op (r_move rfl) ?_
    refine h_op (r_loadc rfl) ?_
    refine h_op (r_move rfl) ?_
    refine h_op (r_idx rfl rfl) ?_
    refine h_op (r_nthr rfl (out := (ds.getD (ds.length - 1 - k) zB32).cells) (B32.cells_length _) (dgs_at (by omega))) ?_
    refine h_yield (hy k () mm hk2 hJ) hRm rfl rfl fun m' hJ' => ?_
    refine h_op (r_not rfl) ?_
    refine h_nil ?_
    refine q_then ?_
    refine h_condF rfl ?_
    refine h_skip ?_
    refine q_block ?_
    refine q_then ?_
    refine h_reg ?_
    refine h_op (r_move rfl) ?_
    refine h_op (r_sub rfl rfl) ?_
    refine h_op (r_assign rfl) ?_
    refine h_nil ?_
    exact h_back (k + 1, m') ((show k + 1 ≤ ds.length ∧ J (k + 1) m' from ⟨by omega, hJ'⟩)) ((show ds.length - (k + 1) < ds.length - k by omega)) ⟨aI rfl (by omega), rfl, rfl, trivial⟩ (fun _ s => s)
  · obtain rfl : k = ds.length := by omega
    refine h_exit ?_
    refine q_thenE ?_
    refine q_thenE ?_
    refine q_blockE ?_
    refine h_end ?_
    exact h_ret0 rfl fun w s => ⟨_, mm, rfl, hJ, s.res (((List.sublist_append_left _ _).cons _).cons _) (hJw _ _ hJ)⟩
theorem ways_s (gh : Value) (p : Proof) (A : Option Addr) (N c : Nat) (key : B32) (hg : gh.cells = #[gh]) : Spec Tryd.prog 32 [gh, .agg p.cells.toArray, .slice A N c, .agg key.cells.toArray].toArray [] [] (fun u : Nat × Nat × Nat × Nat => .func (.func 52) #[] [.pointer (some ⟨u.1, 0, none⟩), .pointer (some ⟨u.2.1, 0, none⟩), .pointer (some ⟨u.2.2.1, 0, none⟩), .pointer (some ⟨u.2.2.2, 0, none⟩)].toArray) (fun u => [.blk u.1 p.cells 29, .blk u.2.1 [gh] 32, .blk u.2.2.1 [.slice A N c] 27, .blk u.2.2.2 key.cells 23]) := by
  refine spec_of Tryd.func32 rfl (n := 10) rfl rfl ?_
  intro W
  refine h_seq ?_
  refine h_reg ?_
  refine h_opX (x_box1 rfl hg) fun g4 => ?_
  refine h_opX (x_box rfl) fun g5 => ?_
  refine h_opX (x_box1 rfl) fun g6 => ?_
  refine h_opX (x_box rfl) fun g7 => ?_
  refine h_op (r_assign rfl) ?_
  refine h_nil ?_
  refine q_then ?_
  refine h_seq ?_
  refine h_reg ?_
  refine h_op (r_func rfl rfl) ?_
  refine h_op (r_assign rfl) ?_
  refine h_nil ?_
  refine q_then ?_
  refine h_ret ?_
  exact h_ret1 rfl rfl fun w s => ⟨(g5, g4, g6, g7), rfl, (same w s).res (List.Sublist.refl _) (by simp [Fa.wr])⟩
end Go.Proofs.YtfjlpndohnianaaDoor
