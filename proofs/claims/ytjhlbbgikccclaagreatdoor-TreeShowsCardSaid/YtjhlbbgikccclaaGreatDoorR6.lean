/- The reference's bits; The hasher, and the reference's; Grow and Concat; the preimages; The preimages; The reference's preimages; what is the same; The rules of a proof's form, and its check; Rows of digests; Repeat; Arguments of this translation, opened; what the law's condition says of the table of rounds; What a proof's siblings are, expanded. Plain Lean; Maps of keys, and their trees: plain Lean; The digest of a tree, and the proof of a map: plain Lean; Trees in memory: what a zone holds of them; Repeat (joined texts: U9 U10 U11 U12 U13 U14 U15 TC E10 E11 E12 UT U16) -/
import Derived.Test.YtjhlbbgikccclaaGreatDoorR5
import Derived.LaidMore
import Derived.Stop.Joined
set_option linter.all false
/- U9 -/
namespace Go.Proofs.YtjhlbbgikccclaaGreatDoor
open Go.RowKit
theorem refBit_s (b : B32) (i : Nat) (hi : i < 256) : Spec Tryz.prog 203 [.agg b.cells.toArray, .int .i64 (i : Int)].toArray [] [] (fun _ : Unit => .int .i64 ((bitN b i : Nat) : Int)) (fun _ => []) := by
 have hb := b.2
 have hd := bitN_div b i
 have hx := UInt8.toNat_lt (b.1.getD (i / 8) 0)
 refine spec_of Tryz.func203 rfl (n := 28) rfl rfl ?_
 intro W
 refine yR ?_
 refine h_opX (x_box rfl) fun g2 => ?_
 refine yS rfl ?_
 refine yN ?_
 refine h_seq ?_
 refine yR ?_
 refine yM rfl ?_
 refine h_op (r_bool (r_lss rfl rfl) (decide_eq_false (by omega))) ?_
 refine yM rfl ?_
 refine yM rfl ?_
 refine h_op (r_bool (r_gtr rfl rfl) (decide_eq_false (by omega))) ?_
 refine h_op (r_pick rfl rfl) ?_
 refine yN ?_
 refine h_condF rfl ?_
 refine h_skip ?_
 refine q_then ?_
 refine yR ?_
 refine yM rfl ?_
 refine h_op (r_quo rfl rfl) ?_
 refine h_op (r_idxA rfl rfl) ?_
 refine h_op (r_nth rfl (bc_at' (by omega))) ?_
 refine h_op (r_int (r_cUI rfl) (show _ = (((b.1.getD (i / 8) 0).toNat : Nat) : Int) from rfl)) ?_
 refine yS rfl ?_
 refine yN ?_
 refine h_seq ?_
 refine yR ?_
 refine yM rfl ?_
 refine h_op (r_rem rfl rfl) ?_
 refine yS rfl ?_
 refine yN ?_
 refine h_block ?_
 generalize (b.1.getD (i / 8) 0) = x at *
 refine h_loop (fun (k : Nat) => i % 8 ≤ k ∧ k ≤ 7) (fun (k : Nat) => [(6, .int .i64 (k : Int)), (5, .int .i64 ((x.toNat / 2 ^ (k - i % 8) : Nat) : Int))]) (fun (k : Nat) => []) (fun (k : Nat) => 7 - k) (i % 8) (⟨Nat.le_refl _, by omega⟩) ⟨aI rfl (by omega), aI rfl (by rw [Nat.sub_self, Nat.pow_zero, Nat.div_one]), trivial⟩ (same) ?_
 intro k hk
 have hq : x.toNat / 2 ^ (k - i % 8) < 256 := Nat.lt_of_le_of_lt (Nat.div_le_self _ _) hx
 refine h_seq ?_
 refine yR ?_
 refine yM rfl ?_
 refine h_op (r_lss rfl rfl) ?_
 refine yN ?_
 refine h_cond rfl (fun h => ?_) (fun h => ?_)
 ·have hs : x.toNat / 2 ^ (k - i % 8) / 2 = x.toNat / 2 ^ (k + 1 - i % 8) := by
   rw [Nat.div_div_eq_div_mul, ← Nat.pow_succ]
   congr 2
   omega
  generalize x.toNat / 2 ^ (k - i % 8) = y at *
  refine h_skip ?_
  refine q_then ?_
  refine h_seq ?_
  refine h_block ?_
  refine h_reg ?_
  refine yM rfl ?_
  refine h_op (r_quo rfl rfl) ?_
  refine yS rfl ?_
  refine h_nil ?_
  refine q_block ?_
  refine q_then ?_
  refine h_reg ?_
  refine yM rfl ?_
  refine h_op (r_add rfl rfl) ?_
  refine yS rfl ?_
  refine h_nil ?_
  exact h_back (k + 1) (⟨by omega, by omega⟩) (by omega) ⟨rfl, aI rfl (by rw [← hs]; rfl), trivial⟩ (same)
 ·obtain rfl : k = 7 := by omega
  generalize x.toNat / 2 ^ (7 - i % 8) = y at *
  refine h_exit ?_
  refine q_thenE ?_
  refine q_thenE ?_
  refine q_blockE ?_
  refine q_then ?_
  refine yR ?_
  refine yM rfl ?_
  refine h_op (r_int (r_rem rfl rfl) hd) ?_
  refine yS rfl ?_
  refine yN ?_
  refine h_ret ?_
  exact h_ret1 rfl rfl fun w s => ⟨(), rfl, s.res (List.nil_sublist _) (by simp)⟩
theorem value_s (i : Nat) (hi : i < 256) : Spec Tryz.prog 254 [.int .i64 (i : Int)].toArray [] [] (fun _ : Unit => .int .i64 ((2 ^ (7 - i % 8) : Nat) : Int)) (fun _ => []) := by
 refine spec_of Tryz.func254 rfl (n := 14) rfl rfl ?_
 intro W
 refine yR ?_
 refine yS rfl ?_
 refine yN ?_
 refine yR ?_
 refine yS rfl ?_
 refine yN ?_
 refine h_seq ?_
 refine yR ?_
 refine yM rfl ?_
 refine h_op (r_rem rfl rfl) ?_
 refine yS rfl ?_
 refine yN ?_
 refine h_block ?_
 refine h_loop (fun (k : Nat) => i % 8 ≤ k ∧ k ≤ 7) (fun (k : Nat) => [(4, .int .i64 (k : Int)), (3, .int .i64 ((2 ^ (k - i % 8) : Nat) : Int))]) (fun (k : Nat) => []) (fun (k : Nat) => 7 - k) (i % 8) (⟨Nat.le_refl _, by omega⟩) ⟨aI rfl (by omega), aI rfl (by rw [Nat.sub_self]; rfl), trivial⟩ (same) ?_
 intro k hk
 have hq : 2 ^ (k - i % 8) ≤ 2 ^ 7 := Nat.pow_le_pow_right (by decide) (by omega)
 refine h_seq ?_
 refine yR ?_
 refine yM rfl ?_
 refine h_op (r_lss rfl rfl) ?_
 refine yN ?_
 refine h_cond rfl (fun h => ?_) (fun h => ?_)
 ·have hs : 2 ^ (k - i % 8) * 2 = 2 ^ (k + 1 - i % 8) := by
   rw [← Nat.pow_succ]
   congr 1
   omega
  generalize 2 ^ (k - i % 8) = y at *
  refine h_skip ?_
  refine q_then ?_
  refine h_seq ?_
  refine h_block ?_
  refine h_reg ?_
  refine yM rfl ?_
  refine h_op (r_mul rfl rfl) ?_
  refine yS rfl ?_
  refine h_nil ?_
  refine q_block ?_
  refine q_then ?_
  refine h_reg ?_
  refine yM rfl ?_
  refine h_op (r_add rfl rfl) ?_
  refine yS rfl ?_
  refine h_nil ?_
  exact h_back (k + 1) (⟨by omega, by omega⟩) (by omega) ⟨rfl, aI rfl (by rw [← hs]; rfl), trivial⟩ (same)
 ·obtain rfl : k = 7 := by omega
  refine h_exit ?_
  refine q_thenE ?_
  refine q_thenE ?_
  refine q_blockE ?_
  refine q_then ?_
  refine yR ?_
  refine yM rfl ?_
  refine yS rfl ?_
  refine yN ?_
  refine h_ret ?_
  exact h_ret1 rfl rfl fun w s => ⟨(), rfl, s.res (List.nil_sublist _) (by simp)⟩
theorem refFlip_s (b : B32) (i : Nat) (hi : i < 256) : Spec Tryz.prog 204 [.agg b.cells.toArray, .int .i64 (i : Int)].toArray [] [] (fun _ : Unit => .agg (flipAt b i).cells.toArray) (fun _ => []) := by
 have hb := b.2
 have hx := UInt8.toNat_lt (b.1.getD (i / 8) 0)
 have hq : 2 ^ (7 - i % 8) ≤ 2 ^ 7 := Nat.pow_le_pow_right (by decide) (by omega)
 have hf : b.1.set (i / 8) (flipB (b.1.getD (i / 8) 0) (i % 8)) = (flipAt b i).1 := rfl
 have hup := flip_up (b.1.getD (i / 8) 0) (i % 8)
 have hdn := flip_down (b.1.getD (i / 8) 0) (i % 8)
 have hge := bbit_ge (b.1.getD (i / 8) 0) (i % 8)
 have hv := value_s i hi
 generalize 2 ^ (7 - i % 8) = q at *
 refine spec_of Tryz.func204 rfl (n := 37) rfl rfl ?_
 intro W
 change H _ _ _ _ (argsEnv 0 [.agg (bc b.1).toArray, .int .i64 (i : Int)]) _ _
 refine yR ?_
 refine h_opX (x_box rfl) fun g2 => ?_
 refine h_opX (x_alloc) fun g4 => ?_
 refine yN ?_
 refine h_seq ?_
 refine yR ?_
 refine h_op (r_loadr rfl) ?_
 refine yM rfl ?_
 refine h_call ((refBit_s b i hi).comes) rfl rfl rfl fun _ => ?_
 by_cases hbit : bitAt b i = true
 ·have hn : bitN b i = 1 := by unfold bitN; rw [hbit]; rfl
  rw [hn]
  have hdn := hdn hbit
  have hge := hge hbit
  refine yN ?_
  refine h_block ?_
  refine yR ?_
  refine h_op (r_bool (r_eql rfl rfl) (show _ = false by decide)) ?_
  refine yS rfl ?_
  refine yN ?_
  refine h_condF rfl ?_
  refine yR ?_
  refine h_op (r_bool (r_eql rfl rfl) (show _ = true by decide)) ?_
  refine yS rfl ?_
  refine yN ?_
  refine h_condT rfl ?_
  refine ha_start [.blk g2 (bc b.1) 34] [] mixed (same) ?_
  refine ha_takeP 0 rfl (r_move rfl) ?_
  refine ha_takeP 1 rfl (r_quo rfl rfl) ?_
  refine ha_takeP 2 rfl (r_move rfl) ?_
  refine ha_takeP 3 rfl (r_quo rfl rfl) ?_
  refine ha_takeP 4 rfl (r_idxA rfl rfl) ?_
  refine ha_take 5 rfl (r_nth rfl (bc_at' (by omega))) ?_
  refine ha_takeP 6 rfl (r_int (r_cUI rfl) (show _ = (((b.1.getD (i / 8) 0).toNat : Nat) : Int) from rfl)) ?_
  refine ha_takeP 7 rfl (r_move rfl) ?_
  refine ha_one 8 ?_
  refine ho_C 8 rfl (hv.comes) rfl rfl rfl (fun xx => same) fun _ => ?_
  refine ha_takeP 9 rfl (r_subN rfl rfl) ?_
  refine ha_takeP 10 rfl (r_cNW rfl) ?_
  refine ha_takeP 11 rfl (r_idxA rfl rfl) ?_
  refine ha_one 12 ?_
  refine ho_SL 12 rfl (s_setB rfl rfl) ?_
  refine q_block ?_
  refine q_then ?_
  rw [hdn, hf]
  change H _ _ _ _ _ (.blk g2 (flipAt b i).cells _ :: _) _
  refine yR ?_
  refine h_op (r_loadr rfl) ?_
  refine h_opS (s_storer rfl rfl) ?_
  refine yN ?_
  refine h_ret ?_
  exact h_ret1 rfl (rv_row rfl) fun w s => ⟨(), rfl, s.res (List.nil_sublist _) (by simp)⟩
 ·have hbit : bitAt b i = false := by simpa using hbit
  have hn : bitN b i = 0 := by unfold bitN; rw [hbit]; rfl
  rw [hn]
  have hup := hup hbit
  refine yN ?_
  refine h_block ?_
  refine yR ?_
  refine h_op (r_bool (r_eql rfl rfl) (show _ = true by decide)) ?_
  refine yS rfl ?_
  refine yN ?_
  refine h_condT rfl ?_
  refine ha_start [.blk g2 (bc b.1) 34] [] mixed (same) ?_
  refine ha_takeP 0 rfl (r_move rfl) ?_
  refine ha_takeP 1 rfl (r_quo rfl rfl) ?_
  refine ha_takeP 2 rfl (r_move rfl) ?_
  refine ha_takeP 3 rfl (r_quo rfl rfl) ?_
  refine ha_takeP 4 rfl (r_idxA rfl rfl) ?_
  refine ha_take 5 rfl (r_nth rfl (bc_at' (by omega))) ?_
  refine ha_takeP 6 rfl (r_int (r_cUI rfl) (show _ = (((b.1.getD (i / 8) 0).toNat : Nat) : Int) from rfl)) ?_
  refine ha_takeP 7 rfl (r_move rfl) ?_
  refine ha_one 8 ?_
  refine ho_C 8 rfl (hv.comes) rfl rfl rfl (fun xx => same) fun _ => ?_
  refine ha_takeP 9 rfl (r_add rfl rfl) ?_
  refine ha_takeP 10 rfl (r_cNW rfl) ?_
  refine ha_takeP 11 rfl (r_idxA rfl rfl) ?_
  refine ha_one 12 ?_
  refine ho_SL 12 rfl (s_setB rfl rfl) ?_
  refine q_block ?_
  refine q_then ?_
  rw [hup, hf]
  change H _ _ _ _ _ (.blk g2 (flipAt b i).cells _ :: _) _
  refine yR ?_
  refine h_op (r_loadr rfl) ?_
  refine h_opS (s_storer rfl rfl) ?_
  refine yN ?_
  refine h_ret ?_
  exact h_ret1 rfl (rv_row rfl) fun w s => ⟨(), rfl, s.res (List.nil_sublist _) (by simp)⟩
theorem Prefix_s (b : B32) (n : Nat) (hn : n ≤ 256) : Spec Tryz.prog 130 [.agg b.cells.toArray, .int .i64 (n : Int)].toArray [] [] (fun _ : Unit => .agg (cutB b n).cells.toArray) (fun _ => []) := by
 refine spec_of Tryz.func130 rfl (n := 21) rfl rfl ?_
 intro W
 refine yR ?_
 refine h_opX (x_box rfl) fun g2 => ?_
 refine h_opX (x_alloc) fun g4 => ?_
 refine yN ?_
 refine h_seq ?_
 refine yR ?_
 refine yM rfl ?_
 refine h_op (r_bool (r_lss rfl rfl) (decide_eq_false (by omega))) ?_
 refine yN ?_
 refine h_condF rfl ?_
 refine h_skip ?_
 refine q_then ?_
 refine h_seq ?_
 refine yR ?_
 refine yS rfl ?_
 refine yN ?_
 refine h_block ?_
 rw [show b.cells = (cutB b 256).cells by rw [cutB_all b 256 (Nat.le_refl _)]]
 refine h_loop (fun (j : Nat) => j ≤ 256 - n) (fun (j : Nat) => [(5, .int .i64 (255 - (j : Int))), (1, .int .i64 (n : Int)), (2, .pointer (some ⟨g2, 0, none⟩)), (4, .pointer (some ⟨g4, 0, none⟩))]) (fun (j : Nat) => [.blk g2 (cutB b (256 - j)).cells 34, .blk g4 zB32.cells 34]) (fun (j : Nat) => 256 - j) 0 (by omega) ⟨rfl, rfl, rfl, rfl, trivial⟩ (same) ?_
 intro j hj
 refine h_seq ?_
 refine yR ?_
 refine yM rfl ?_
 refine yM rfl ?_
 refine h_op (r_geq rfl rfl) ?_
 refine yN ?_
 refine h_cond rfl (fun h => ?_) (fun h => ?_)
 ·have hi : 255 - j < 256 := by omega
  have h1 : 256 - j = (255 - j) + 1 := by omega
  have h2 : 256 - (j + 1) = 255 - j := by omega
  rw [h1]
  have hbt : bitN (cutB b (255 - j + 1)) (255 - j) = bitN b (255 - j) := by unfold bitN; rw [cutB_bit _ _ _ hi, decide_eq_true (by omega)]; rfl
  refine h_skip ?_
  refine q_then ?_
  refine h_seq ?_
  refine h_block ?_
  refine yR ?_
  refine h_op (r_loadr rfl) ?_
  refine yM rfl ?_
  refine h_E (E' := [(14, .int .i64 ((255 - j : Nat) : Int)), (13, .agg (cutB b (255 - j + 1)).cells.toArray), (5, .int .i64 ((255 - j : Nat) : Int)), (1, .int .i64 (n : Int)), (2, .pointer (some ⟨g2, 0, none⟩)), (4, .pointer (some ⟨g4, 0, none⟩))]) ⟨aI rfl (by omega), rfl, aI rfl (by omega), rfl, rfl, rfl, trivial⟩ ?_
  refine h_call ((refBit_s (cutB b (255 - j + 1)) (255 - j) hi).comes) rfl rfl rfl fun _ => ?_
  rw [hbt]
  by_cases hbit : bitAt b (255 - j) = true
  ·have hn1 : bitN b (255 - j) = 1 := by unfold bitN; rw [hbit]; rfl
   rw [hn1]
   refine h_op (r_bool (r_eql rfl rfl) (show _ = true by decide)) ?_
   refine yN ?_
   refine h_condT rfl ?_
   refine h_reg ?_
   refine h_op (r_loadr rfl) ?_
   refine yM rfl ?_
   refine h_call ((refFlip_s (cutB b (255 - j + 1)) (255 - j) hi).comes) rfl rfl rfl fun _ => ?_
   rw [cutB_flip b (255 - j) hi hbit]
   refine h_opS (s_storer rfl rfl) ?_
   refine h_nil ?_
   refine q_block ?_
   refine q_then ?_
   refine h_reg ?_
   refine yM rfl ?_
   refine h_op (r_sub rfl rfl) ?_
   refine yS rfl ?_
   refine h_nil ?_
   rw [← h2]
   exact h_back (j + 1) (by omega) (by omega) ⟨aI rfl (by omega), rfl, rfl, rfl, trivial⟩ (same)
  ·have hbit : bitAt b (255 - j) = false := by simpa using hbit
   have hn1 : bitN b (255 - j) = 0 := by unfold bitN; rw [hbit]; rfl
   rw [hn1, cutB_same b (255 - j) hi hbit]
   refine h_op (r_bool (r_eql rfl rfl) (show _ = false by decide)) ?_
   refine yN ?_
   refine h_condF rfl ?_
   refine h_skip ?_
   refine q_block ?_
   refine q_then ?_
   refine h_reg ?_
   refine yM rfl ?_
   refine h_op (r_sub rfl rfl) ?_
   refine yS rfl ?_
   refine h_nil ?_
   rw [← h2]
   exact h_back (j + 1) (by omega) (by omega) ⟨aI rfl (by omega), rfl, rfl, rfl, trivial⟩ (same)
 ·obtain rfl : j = 256 - n := by omega
  rw [show 256 - (256 - n) = n by omega]
  refine h_exit ?_
  refine q_thenE ?_
  refine q_thenE ?_
  refine q_blockE ?_
  refine q_then ?_
  refine yR ?_
  refine h_op (r_loadr rfl) ?_
  refine h_opS (s_storer rfl rfl) ?_
  refine yN ?_
  refine h_ret ?_
  exact h_ret1 rfl (rv_row rfl) fun w s => ⟨(), rfl, s.res (List.nil_sublist _) (by simp)⟩
end Go.Proofs.YtjhlbbgikccclaaGreatDoor
/- U10 -/
namespace Go.Proofs.YtjhlbbgikccclaaGreatDoor
open Go.RowKit
def sumB (n : Nat) (l : List UInt8) : B32 := cutB (sha l) n
abbrev hashT : List Value := wc .u32 K64
theorem Cut_s (b : B32) (n : Nat) (hn : n ≤ 256) : Spec Tryz.prog 148 [.agg b.cells.toArray, .int .i64 (n : Int)].toArray [] [] (fun _ : Unit => .agg (cutB b n).cells.toArray) (fun _ => []) := by
 refine spec_of Tryz.func148 rfl (n := 29) rfl rfl ?_
 intro W
 change H _ _ _ _ (argsEnv 0 [.agg (bc (cutI b n 0)).toArray, .int .i64 (n : Int)]) _ _
 have h0 := cutI_len b n 0 (by omega)
 refine yR ?_
 refine h_opX (x_box (cs := bc (cutI b n 0)) rfl) fun g2 => ?_
 refine h_opX (x_alloc) fun g4 => ?_
 refine yN ?_
 refine yR ?_
 refine yM rfl ?_
 refine h_op (r_int (r_max rfl rfl) (show _ = (n : Int) by rw [if_neg (by omega)])) ?_
 refine h_op (r_int (r_min rfl rfl) (show _ = (n : Int) by split <;> omega)) ?_
 refine yS rfl ?_
 refine yN ?_
 refine h_seq ?_
 refine yR ?_
 refine yM rfl ?_
 refine yN ?_
 refine h_block ?_
 refine h_loop (fun (k : Nat) => k ≤ 32) (fun (k : Nat) => [(10, .int .i64 (k : Int)), (1, .int .i64 (n : Int)), (2, .pointer (some ⟨g2, 0, none⟩)), (4, .pointer (some ⟨g4, 0, none⟩))]) (fun (k : Nat) => [.blk g2 (bc (cutI b n k)) 45, .blk g4 zB32.cells 45]) (fun (k : Nat) => 32 - k) 0 (by omega) ⟨rfl, rfl, rfl, rfl, trivial⟩ (same) ?_
 intro k hk
 have hl := cutI_len b n k hk
 have hg := cutI_get b n k
 refine yR ?_
 refine h_op (r_lss rfl rfl) ?_
 refine yN ?_
 refine h_seq ?_
 refine h_cond rfl (fun h => ?_) (fun h => ?_)
 ·have hst := cutI_set b n k (by omega)
  unfold cut8 at hst
  refine h_skip ?_
  refine q_then ?_
  refine h_seq ?_
  refine h_block ?_
  refine yR ?_
  refine yM rfl ?_
  refine yS rfl ?_
  refine yN ?_
  refine yR ?_
  refine yM rfl ?_
  refine yM rfl ?_
  refine h_op (r_mul rfl rfl) ?_
  refine h_op (r_sub rfl rfl) ?_
  refine h_op (r_int (r_max rfl rfl) (show _ = ((n - 8 * k : Nat) : Int) by split <;> omega)) ?_
  refine h_op (r_int (r_min rfl rfl) (show _ = ((min 8 (n - 8 * k) : Nat) : Int) by split <;> omega)) ?_
  refine yS rfl ?_
  refine yN ?_
  refine ha_start [.blk g2 (bc (cutI b n k)) 45] [] mixed (same) ?_
  refine ha_takeP 0 rfl (r_move rfl) ?_
  refine ha_takeP 1 rfl (r_idxA rfl rfl) ?_
  refine ha_take 2 rfl (r_nth rfl (bc_at' (by omega))) ?_
  refine ha_takeP 3 rfl (r_move rfl) ?_
  refine ha_takeP 4 rfl (r_subN rfl rfl) ?_
  refine ha_takeP 5 rfl (r_shl rfl rfl) ?_
  refine ha_takeP 6 rfl (r_and rfl rfl) ?_
  refine ha_takeP 7 rfl (r_idxA rfl rfl) ?_
  refine ha_one 8 ?_
  refine ho_SL 8 rfl (s_setB rfl rfl) ?_
  refine q_block ?_
  refine q_then ?_
  rw [hg, hst]
  refine h_reg ?_
  refine h_op (r_add rfl rfl) ?_
  refine yM rfl ?_
  refine h_nil ?_
  exact h_back (k + 1) (by omega) (by omega) ⟨rfl, rfl, rfl, rfl, trivial⟩ (same)
 ·obtain rfl : k = 32 := by omega
  rw [cutI_32]
  change H _ _ _ _ _ (.blk g2 (cutB b n).cells _ :: _) _
  refine h_exit ?_
  refine q_thenE ?_
  refine q_thenE ?_
  refine q_blockE ?_
  refine q_then ?_
  refine yR ?_
  refine h_op (r_loadr rfl) ?_
  refine h_opS (s_storer rfl rfl) ?_
  refine yN ?_
  refine h_ret ?_
  exact h_ret1 rfl (rv_row rfl) fun w s => ⟨(), rfl, s.res (List.nil_sublist _) (by simp)⟩
theorem refCut_s (b : B32) (n : Nat) (hn : n ≤ 256) : Spec Tryz.prog 69 [.agg b.cells.toArray, .int .i64 (n : Int)].toArray [] [] (fun _ : Unit => .agg (cutB b n).cells.toArray) (fun _ => []) := by
 refine spec_of Tryz.func69 rfl (n := 8) rfl rfl ?_
 intro W
 refine yR ?_
 refine h_opX (x_box rfl) fun g2 => ?_
 refine h_opX (x_alloc) fun g4 => ?_
 refine yN ?_
 refine yR ?_
 refine h_op (r_loadr rfl) ?_
 refine yM rfl ?_
 refine h_call ((Prefix_s b n hn).comes) rfl rfl rfl fun _ => ?_
 refine h_opS (s_storer rfl rfl) ?_
 refine yN ?_
 refine h_ret ?_
 exact h_ret1 rfl (rv_row rfl) fun w s => ⟨(), rfl, s.res (List.nil_sublist _) (by simp)⟩
theorem refSum5_s (n : Nat) (hn : n ≤ 256) (l : List UInt8) (B : Option Addr) (c : Nat) (hB : B = none → l.length = 0 ∧ c = 0) (hl : l.length ≤ 100000000000) : Spec Tryz.prog 27 [.int .i64 (n : Int), .slice B l.length c].toArray [.rd B (bc l)] [] (fun _ : Unit => .agg (sumB n l).cells.toArray) (fun _ => []) := by
 refine spec_of Tryz.func27 rfl (n := 9) rfl rfl ?_
 intro W
 refine yR ?_
 refine h_opX (x_alloc) fun g4 => ?_
 refine yN ?_
 refine yR ?_
 refine yM rfl ?_
 refine h_call ((refSum_s l B c hB hl).comes) rfl rfl rfl fun _ => ?_
 refine yM rfl ?_
 refine h_call ((refCut_s (sha l) n hn).comes) rfl rfl rfl fun _ => ?_
 change H _ _ _ _ ((_, .agg (sumB n l).cells.toArray) :: _) _ _
 refine h_opS (s_storer rfl rfl) ?_
 refine yN ?_
 refine h_ret ?_
 exact h_ret1 rfl (rv_row rfl) fun w s => ⟨(), rfl, s.res (List.nil_sublist _) (by simp)⟩
theorem Right_yes (n : Nat) (hn : n ≤ 256) : Spec Tryz.prog 32 [.int .i64 (n : Int)].toArray [] [] (fun _ : Unit => .bool true) (fun _ => []) := by
 refine spec_of Tryz.func32 rfl (n := 9) rfl rfl ?_
 intro W
 refine yR ?_
 refine yS rfl ?_
 refine yN ?_
 refine yR ?_
 refine yM rfl ?_
 refine h_op (r_bool (r_geq rfl rfl) (decide_eq_true (by omega))) ?_
 refine yM rfl ?_
 refine yM rfl ?_
 refine h_op (r_bool (r_leq rfl rfl) (decide_eq_true (by omega))) ?_
 refine h_op (r_pick rfl rfl) ?_
 refine yS rfl ?_
 refine yN ?_
 refine h_ret ?_
 exact h_ret1 rfl rfl fun w s => ⟨(), rfl, s.res (List.nil_sublist _) (by simp)⟩
theorem Right_no (i : Int) (h : ¬ (0 ≤ i ∧ i ≤ 256)) : Spec Tryz.prog 32 [.int .i64 i].toArray [] [] (fun _ : Unit => .bool false) (fun _ => []) := by
 refine spec_of Tryz.func32 rfl (n := 9) rfl rfl ?_
 intro W
 by_cases h0 : 0 ≤ i
 ·refine h_seq ?_
  refine h_reg ?_
  refine yS rfl ?_
  refine yN ?_
  refine yR ?_
  refine yM rfl ?_
  refine h_op (r_bool (r_geq rfl rfl) (decide_eq_true (by omega))) ?_
  refine yM rfl ?_
  refine yM rfl ?_
  refine h_op (r_bool (r_leq rfl rfl) (decide_eq_false (by omega))) ?_
  refine h_op (r_pick rfl rfl) ?_
  refine yS rfl ?_
  refine yN ?_
  refine h_ret ?_
  exact h_ret1 rfl rfl fun w s => ⟨(), rfl, s.res (List.nil_sublist _) (by simp)⟩
 ·refine h_seq ?_
  refine h_reg ?_
  refine yS rfl ?_
  refine yN ?_
  refine yR ?_
  refine yM rfl ?_
  refine h_op (r_bool (r_geq rfl rfl) (decide_eq_false (by omega))) ?_
  refine yM rfl ?_
  refine h_opOff ?_
  refine h_opOff ?_
  refine h_op (r_pick rfl rfl) ?_
  refine yS rfl ?_
  refine yN ?_
  refine h_ret ?_
  exact h_ret1 rfl rfl fun w s => ⟨(), rfl, s.res (List.nil_sublist _) (by simp)⟩
theorem New_s (n : Nat) (hn : n ≤ 256) : Spec Tryz.prog 79 [.int .i64 (n : Int)].toArray [] [] (fun u : Nat × Nat => .tuple #[.pointer (some ⟨u.1, 0, none⟩), .int .i64 0]) (fun u => [.blk u.1 [.pointer (some ⟨u.2, 0, none⟩), .int .i64 (n : Int)] 170, .blk u.2 [.int .i64 0] 272]) := by
 refine spec_of Tryz.func79 rfl (n := 15) rfl rfl ?_
 intro W
 refine yR ?_
 refine yS rfl ?_
 refine yS rfl ?_
 refine yN ?_
 refine h_seq ?_
 refine yR ?_
 refine yM rfl ?_
 refine h_op (r_bool (r_lss rfl rfl) (decide_eq_false (by omega))) ?_
 refine yM rfl ?_
 refine yM rfl ?_
 refine h_op (r_bool (r_gtr rfl rfl) (decide_eq_false (by omega))) ?_
 refine h_op (r_pick rfl rfl) ?_
 refine yN ?_
 refine h_condF rfl ?_
 refine h_skip ?_
 refine q_then ?_
 refine yR ?_
 refine h_op (r_build rfl) ?_
 refine h_opX (x_box rfl) fun g11 => ?_
 refine yM rfl ?_
 refine h_op (r_build rfl) ?_
 refine h_opX (x_box rfl) fun g14 => ?_
 refine yS rfl ?_
 refine yS rfl ?_
 refine yN ?_
 refine h_ret ?_
 exact h_ret2 rfl rfl rfl fun w s => ⟨(g14, g11), rfl, s.res (List.Sublist.refl _) (by simp [Fa.wr])⟩
theorem HSum_s (n : Nat) (hn : n ≤ 256) (gh gc k : Nat) (hk : k ≤ 1000000000000) (l : List UInt8) (B : Option Addr) (c : Nat) (hB : B = none → l.length = 0 ∧ c = 0) (hl : l.length ≤ 100000000000) : Spec Tryz.prog 89 [.pointer (some ⟨gh, 0, none⟩), .slice B l.length c].toArray [.rd (some ⟨gh, 0, none⟩) [.pointer (some ⟨gc, 0, none⟩), .int .i64 (n : Int)], .rd B (bc l), .rd (some ⟨1, 0, none⟩) hashT] [.blk gc [.int .i64 (k : Int)] 272] (fun _ : Unit => .agg (sumB n l).cells.toArray) (fun _ => [.blk gc [.int .i64 ((k + 1 : Nat) : Int)] 272]) := by
 refine spec_of Tryz.func89 rfl (n := 25) rfl rfl ?_
 intro W
 refine yR ?_
 refine h_opX (x_alloc) fun g4 => ?_
 refine yN ?_
 refine h_seq ?_
 refine yR ?_
 refine yM rfl ?_
 refine h_op (r_nilR rfl rfl) ?_
 refine yN ?_
 refine h_condF rfl ?_
 refine h_skip ?_
 refine q_then ?_
 refine yR ?_
 refine yM rfl ?_
 refine h_op (r_nilc rfl) ?_
 refine h_op (r_field rfl) ?_
 refine h_op (r_loadc rfl) ?_
 refine h_op (r_nilc rfl) ?_
 refine h_op (r_field rfl) ?_
 refine h_op (r_loadc rfl) ?_
 refine h_op (r_int (r_add rfl rfl) (show _ = ((k + 1 : Nat) : Int) by omega)) ?_
 refine h_op (r_nilc rfl) ?_
 refine h_op (r_field rfl) ?_
 refine h_opS (s_store rfl rfl rfl) ?_
 refine yN ?_
 refine h_seq ?_
 refine ha_start [.rd (some ⟨gh, 0, none⟩) [.pointer (some ⟨gc, 0, none⟩), .int .i64 (n : Int)]] [] mixed (same) ?_
 refine ha_takeP 0 rfl (r_move rfl) ?_
 refine ha_takeP 2 rfl (r_move rfl) ?_
 refine ha_takeP 3 rfl (r_nilc rfl) ?_
 refine ha_takeP 4 rfl (r_field rfl) ?_
 refine ha_take 5 rfl (r_loadc rfl) ?_
 refine ha_one 1 ?_
 refine ho_C 1 rfl ((Sum_s l B c hB hl).comes) rfl rfl rfl (fun xx => same) fun _ => ?_
 refine ha_one 6 ?_
 refine ho_C 6 rfl ((Cut_s (sha l) n hn).comes) rfl rfl rfl (fun xx => same) fun _ => ?_
 refine ha_one 7 ?_
 refine ho_SL 7 rfl (s_storer rfl rfl) ?_
 refine q_then ?_
 change H _ _ _ _ _ (.blk g4 (sumB n l).cells _ :: _) _
 refine h_ret ?_
 exact h_ret1 rfl (rv_row rfl) fun w s => ⟨(), rfl, (same w s).res (List.Sublist.refl _) (by simp [Fa.wr])⟩
end Go.Proofs.YtjhlbbgikccclaaGreatDoor
/- U11 -/
namespace Go.Proofs.YtjhlbbgikccclaaGreatDoor
open Go.RowKit
section
variable {P : Program} {A : List Fa} {W : World} {n : Nat} {D : List Deferred} {E : Env} {L M : List Fa} {T : TypeId} {x y : Operand}
theorem r_cap {e size bytes : Nat} {z : Value} [E' : TS P T e size bytes z] {B : Option Addr} {N c : Nat} (hx : ev E x = some (.slice B N c)) : Runs0 P n D E L (.call { callee := .builtin .cap, args := #[x], argTypes := #[T] }) (.int .i64 (c : Int)) := fun a w ka s o ho => by
 unfold execOp
 simp [ho, resolve, invoke, builtin, ka.ev hx, Builtin.cap_, run_underlying E'.el.ht, goInt]
theorem x_appZ {t e xt size bytes N : Nat} {z : Value} {k : IntKind} [E' : TS P t e size bytes z] (hxt : P.underlying xt = some (.int k)) (hs : ev E x = some (.slice none 0 0)) (hx : ev E y = some (.int .i64 (N : Int))) (h0 : 0 < N) (hb : N * bytes ≤ 140737488355328 := by omega) :
  RunsX P A W n D E L (.call { callee := .builtin .append, args := #[x, y], argTypes := #[t, xt] }) (fun u : Nat × Nat => .slice (some ⟨u.1, 0, none⟩) N u.2) (fun u => .own (.slice (some ⟨u.1, 0, none⟩) N u.2) N e size ((List.range (N * size)).map fun i => z.cells[i % size]!) :: L) := fun a w ka s o hop => by
 obtain ⟨v', w', hrun, h2, h3, h4⟩ := xAppendZ hxt hop (ka.ev hs) (ka.ev hx) h0 hb (base := 0) (Nat.zero_le _)
 have hb2 : Below w.heap.size w w' := ⟨h3.os, h3.tape, h3.output, h3.size, fun k hk => h3.block k hk (by simp)⟩
 rcases h2.2 with ⟨rfl, h5⟩ | ⟨g, cap, cur, rfl, _⟩
 ·omega
 ·have hg : some g = some w.heap.size := h4
  injection hg with hg
  subst hg
  refine ⟨(w.heap.size, cap), w', hrun, (s.call hb2).cons h2 ?_ ?_⟩
  ·intro f hf _ k hk hk'
   have hk2 : some w.heap.size = some k := hk
   injection hk2 with hk2
   have := Fa.bound (s.ok f hf) hk'
   omega
  ·intro _ k hk
   have hk2 : some w.heap.size = some k := hk
   injection hk2 with hk2
   exact .inl (by have := s.size; omega)
end
theorem Sx.shrink {A : List Fa} {W w : World} {L M : List Fa} {g N c m e size : Nat} {xs : List Value} (s : Sx A W w L) [hd : TakeG g L N c e size xs M] (hm : m ≤ N) : Sx A W w (.own (.slice (some ⟨g, 0, none⟩) m c) m e size (xs.take (m * size)) :: M) := by
 have s2 := s.perm hd.perm
 have ho : w.ownsRow 0 e size (.slice (some ⟨g, 0, none⟩) N c) N xs := s2.ok (.own _ _ _ _ _) (List.mem_cons_self ..)
 obtain ⟨cur, hb, h3, h4, h5, h6⟩ := own_parts ho
 refine s2.turn rfl (fun k hk => .inl hk) (own_new hb ?_ (Nat.le_trans hm h3) h4 h5 ?_) rfl rfl rfl (Nat.le_refl _) fun _ _ _ => rfl
 ·rw [List.length_take, ho.1]
  exact Nat.min_eq_left (Nat.mul_le_mul_right _ hm)
 ·rw [← h6, List.take_take, Nat.min_eq_left (Nat.mul_le_mul_right _ hm)]
theorem GrowNil_s (N : Nat) (hN : N ≤ 100000000000) : Spec Tryz.prog 152 [.slice none 0 0, .int .i64 (N : Int)].toArray [] [] (fun u : Option Addr × Nat => .slice u.1 0 u.2) (fun u => [.own (.slice u.1 0 u.2) 0 5 1 (bc [])]) := by
 refine spec_of Tryz.func152 rfl (n := 27) rfl rfl ?_
 intro W
 refine yR ?_
 refine yS rfl ?_
 refine yN ?_
 refine h_seq ?_
 refine yR ?_
 refine yM rfl ?_
 refine h_op (r_bool (r_lss rfl rfl) (decide_eq_false (by omega))) ?_
 refine yN ?_
 refine h_condF rfl ?_
 refine h_skip ?_
 refine q_then ?_
 refine h_seq ?_
 refine yR ?_
 refine yM rfl ?_
 refine yM rfl ?_
 refine h_op (r_cap rfl) ?_
 refine yM rfl ?_
 refine h_op (r_len rfl) ?_
 refine h_op (r_sub rfl rfl) ?_
 refine h_op (r_int (r_sub rfl rfl) (show _ = (N : Int) by omega)) ?_
 refine yS rfl ?_
 refine yN ?_
 refine yR ?_
 refine yM rfl ?_
 refine h_op (r_gtr rfl rfl) ?_
 refine yN ?_
 refine h_cond rfl (fun h => ?_) (fun h => ?_)
 ·refine h_reg ?_
  refine yM rfl ?_
  refine yM rfl ?_
  refine h_op (r_cap rfl) ?_
  refine h_op (r_as (r_slH rfl rfl) (show _ = Value.slice none 0 0 from rfl)) ?_
  refine yM rfl ?_
  refine h_opX (x_appZ (N := N) Tryz.underlying3 rfl rfl (by omega)) fun ⟨g22, c22⟩ => ?_
  refine h_pure (φ := N ≤ c22) (fun w s => (s.ownLe (B := some ⟨g22, 0, none⟩) (N := N) (c := c22)).1) fun hc => ?_
  refine h_L (fun w s => s.shrink (g := g22) (m := 0) (Nat.zero_le _)) ?_
  rw [Nat.zero_mul, List.take_zero]
  refine yM rfl ?_
  refine h_op (r_len rfl) ?_
  refine h_op (r_as (r_slH rfl rfl) (show _ = Value.slice (some ⟨g22, 0, none⟩) 0 c22 by rw [cutA_lt (by omega)])) ?_
  refine yS rfl ?_
  refine yN ?_
  refine yR ?_
  refine yM rfl ?_
  refine yS rfl ?_
  refine yN ?_
  refine h_ret ?_
  exact h_ret1 rfl rfl fun w s => ⟨(some ⟨g22, 0, none⟩, c22), rfl, s.res (List.Sublist.refl _) (by simp [Fa.wr])⟩
 ·refine h_skip ?_
  refine q_then ?_
  refine yR ?_
  refine yM rfl ?_
  refine yS rfl ?_
  refine yN ?_
  refine h_ret ?_
  refine h_nil_own 5 1 (xs := bc []) rfl ?_
  exact h_ret1 rfl rfl fun w s => ⟨(none, 0), rfl, s.res (List.Sublist.refl _) (by simp [Fa.wr])⟩
abbrev Seg := Option Addr × Nat × List UInt8
def sv (x : Seg) : Value := .slice x.1 x.2.2.length x.2.1
def svs (xs : List Seg) : List Value := xs.map sv
def rdsOf : List Seg → List Fa
 | [] => []
 | x :: l => .rd x.1 (bc x.2.2) :: rdsOf l
theorem rdsOf_mem {xs : List Seg} {x : Seg} (h : x ∈ xs) : Fa.rd x.1 (bc x.2.2) ∈ rdsOf xs := by
 induction xs with
 | nil => cases h
 | cons y l ih => exact (List.mem_cons.1 h).elim (fun e => by rw [e]; exact List.mem_cons_self ..) fun e => List.mem_cons_of_mem _ (ih e)
instance (L : List Fa) : Rds L (rdsOf []) := ⟨fun _ _ h => (List.not_mem_nil h).elim⟩
instance (L : List Fa) (x : Seg) (xs : List Seg) [h : Rds L (.rd x.1 (bc x.2.2) :: rdsOf xs)] : Rds L (rdsOf (x :: xs)) := h
theorem rd1_mem {L : List Fa} {B : Option Addr} {cs : List Value} (h : Fa.rd B cs ∈ L) : Rd1 L (.rd B cs) := ⟨fun hw => ⟨rfl, hw.ok _ h, fun k hk => ⟨_, h, hk⟩⟩⟩
def segN (xs : List Seg) : Nat := (xs.map (·.2.2.length)).sum
def segB (xs : List Seg) : List UInt8 := xs.flatMap (·.2.2)
theorem segN_succ {xs : List Seg} {k : Nat} {x : Seg} (h : xs[k]? = some x) : segN (xs.take (k + 1)) = segN (xs.take k) + x.2.2.length := by
 unfold segN
 rw [List.take_add_one, h, List.map_append, List.sum_append]
 simp
theorem segN_le (xs : List Seg) (k : Nat) : segN (xs.take k) ≤ segN xs := by
 unfold segN
 conv => rhs; rw [← List.take_append_drop k xs, List.map_append, List.sum_append]
 omega
theorem segB_len (xs : List Seg) : (segB xs).length = segN xs := by
 unfold segB segN
 rw [List.length_flatMap]
theorem segB_succ {xs : List Seg} {k : Nat} {x : Seg} (h : xs[k]? = some x) : segB (xs.take (k + 1)) = segB (xs.take k) ++ x.2.2 := by
 unfold segB
 rw [List.take_add_one, h, List.flatMap_append]
 simp
theorem svs_len (xs : List Seg) : (svs xs).length = xs.length := by simp [svs]
theorem svs_get {xs : List Seg} {k : Nat} {x : Seg} (h : xs[k]? = some x) : (svs xs)[k]? = some (.slice x.1 x.2.2.length x.2.1) := by
 unfold svs
 rw [List.getElem?_map, h]
 rfl
theorem Fx.rdSome {w : World} {L : List Fa} {B : Option Addr} {cs : List Value} (h : Fx w (.rd B cs :: L)) (hc : 0 < cs.length) : ∃ b o, B = some ⟨b, o, none⟩ := by
 have h1 : Rd w B cs := h.ok (.rd B cs) (List.mem_cons_self ..)
 obtain ⟨b, o, e, _⟩ := h1 0 _ (List.getElem?_eq_getElem hc)
 exact ⟨b, o, e⟩
theorem Concat_s (xs : List Seg) (B : Option Addr) (cp : Nat) (hx : ∀ x ∈ xs, x.1 = none → x.2.2.length = 0 ∧ x.2.1 = 0) (hmax : segN xs ≤ 1000000000 ∧ xs.length ≤ 1000000000) : Spec Tryz.prog 97 [.slice B xs.length cp].toArray (.rd B (svs xs) :: rdsOf xs) [] (fun u : Option Addr × Nat => .slice u.1 (segB xs).length u.2) (fun u => [.own (.slice u.1 (segB xs).length u.2) (segB xs).length 5 1 (bc (segB xs))]) := by
 refine spec_of Tryz.func97 rfl (n := 36) rfl rfl ?_
 intro W
 refine yR ?_
 refine yS rfl ?_
 refine yN ?_
 refine yR ?_
 refine yS rfl ?_
 refine yN ?_
 refine h_seq ?_
 refine yR ?_
 refine yM rfl ?_
 refine h_op (r_len rfl) ?_
 refine yM rfl ?_
 refine yN ?_
 refine h_block ?_
 refine h_loop (fun (k : Nat) => k ≤ xs.length) (fun (k : Nat) => [(11, .int .i64 (k : Int)), (10, .int .i64 (xs.length : Int)), (9, .slice B xs.length cp), (3, .int .i64 ((segN (xs.take k) : Nat) : Int)), (0, .slice B xs.length cp)]) (fun (k : Nat) => .rd B (svs xs) :: rdsOf xs) (fun (k : Nat) => xs.length - k) 0 (Nat.zero_le _) ⟨rfl, rfl, rfl, rfl, rfl, trivial⟩ (fun _ s => s) ?_
 intro k hk
 have hle := segN_le xs k
 refine yR ?_
 refine h_op (r_lss rfl rfl) ?_
 refine yN ?_
 refine h_seq ?_
 refine h_cond rfl (fun h => ?_) (fun h => ?_)
 ·have hlt : k < xs.length := by omega
  obtain ⟨x, hxk⟩ : ∃ x, xs[k]? = some x := ⟨xs[k], by simp [hlt]⟩
  have hs := segN_succ hxk
  have hle2 := segN_le xs (k + 1)
  refine h_pure (φ := ∃ b o, B = some ⟨b, o, none⟩) (fun w s => s.toFx.rdSome (by rw [svs_len]; omega)) ?_
  rintro ⟨b, o, rfl⟩
  refine h_skip ?_
  refine q_then ?_
  refine h_seq ?_
  refine h_block ?_
  refine yR ?_
  refine h_op (r_idx rfl rfl) ?_
  refine h_op (r_nth rfl (svs_get hxk)) ?_
  refine yS rfl ?_
  refine yN ?_
  refine yR ?_
  refine yM rfl ?_
  refine yM rfl ?_
  refine h_op (r_len rfl) ?_
  refine h_op (r_add rfl rfl) ?_
  refine yS rfl ?_
  refine yN ?_
  refine yR ?_
  refine yM rfl ?_
  refine h_op (r_lss rfl rfl) ?_
  refine yN ?_
  refine h_no rfl (by omega) ?_
  refine h_skip ?_
  refine q_block ?_
  refine q_then ?_
  refine h_reg ?_
  refine h_op (r_add rfl rfl) ?_
  refine yM rfl ?_
  refine h_nil ?_
  exact h_back (k + 1) (by omega) (by omega) ⟨rfl, rfl, rfl, aI rfl (by rw [hs]; omega), rfl, trivial⟩ (fun _ s => s)
 ·obtain rfl : k = xs.length := by omega
  rw [List.take_length]
  refine h_exit ?_
  refine q_thenE ?_
  refine q_thenE ?_
  refine q_blockE ?_
  refine q_then ?_
  refine yR ?_
  refine yM rfl ?_
  refine h_call ((GrowNil_s (segN xs) (by omega)).comes) rfl rfl rfl fun ⟨A24, c24⟩ => ?_
  dsimp only
  refine yS rfl ?_
  refine yN ?_
  refine h_seq ?_
  refine yR ?_
  refine yM rfl ?_
  refine h_op (r_len rfl) ?_
  refine yM rfl ?_
  refine yN ?_
  refine h_block ?_
  refine h_loop (fun (s : Nat × Option Addr × Nat) => s.1 ≤ xs.length) (fun (s : Nat × Option Addr × Nat) => [(27, .int .i64 (s.1 : Int)), (26, .int .i64 (xs.length : Int)), (25, .slice B xs.length cp), (6, .slice s.2.1 (segB (xs.take s.1)).length s.2.2)]) (fun (s : Nat × Option Addr × Nat) => .own (.slice s.2.1 (segB (xs.take s.1)).length s.2.2) (segB (xs.take s.1)).length 5 1 (bc (segB (xs.take s.1))) :: .rd B (svs xs) :: rdsOf xs) (fun (s : Nat × Option Addr × Nat) => xs.length - s.1) (0, A24, c24) ((show 0 ≤ xs.length from Nat.zero_le _)) ⟨rfl, rfl, rfl, rfl, trivial⟩ (fun _ s => s) ?_
  rintro ⟨k, B', c'⟩ hk
  dsimp only at hk ⊢
  have hle := segN_le xs k
  refine yR ?_
  refine h_op (r_lss rfl rfl) ?_
  refine yN ?_
  refine h_seq ?_
  refine h_cond rfl (fun h => ?_) (fun h => ?_)
  ·have hlt : k < xs.length := by omega
   obtain ⟨x, hxk⟩ : ∃ x, xs[k]? = some x := ⟨xs[k], by simp [hlt]⟩
   have hs := segN_succ hxk
   have hle2 := segN_le xs (k + 1)
   have hsb := segB_succ hxk
   have hbl := segB_len (xs.take k)
   have hbl2 : (segB (xs.take (k + 1))).length = (segB (xs.take k)).length + x.2.2.length := by rw [hsb, List.length_append]
   have hxm := List.mem_of_getElem? hxk
   refine h_pure (φ := ∃ b o, B = some ⟨b, o, none⟩) (fun w s => s.tail.toFx.rdSome (by rw [svs_len]; omega)) ?_
   rintro ⟨b, o, rfl⟩
   refine h_skip ?_
   refine q_then ?_
   refine h_seq ?_
   refine h_block ?_
   refine yR ?_
   refine h_op (r_idx rfl rfl) ?_
   refine h_op (r_nth rfl (svs_get hxk)) ?_
   refine yS rfl ?_
   refine yN ?_
   refine h_reg ?_
   refine yM rfl ?_
   refine yM rfl ?_
   refine h_opX (x_appAB rfl rfl (hx x hxm) rfl (hr := rd1_mem (List.mem_cons_of_mem _ (rdsOf_mem hxm))) (hN := hbl2.symm)) fun ⟨A33, c33⟩ => ?_
   refine yS rfl ?_
   refine h_nil ?_
   refine q_block ?_
   refine q_then ?_
   refine h_reg ?_
   refine h_op (r_add rfl rfl) ?_
   refine yM rfl ?_
   refine h_nil ?_
   rw [← hsb]
   exact h_back (k + 1, A33, c33) ((show k + 1 ≤ xs.length by omega)) ((show xs.length - (k + 1) < xs.length - k by omega)) ⟨rfl, rfl, rfl, rfl, trivial⟩ (fun _ s => s)
  ·obtain rfl : k = xs.length := by omega
   rw [List.take_length]
   refine h_exit ?_
   refine q_thenE ?_
   refine q_thenE ?_
   refine q_blockE ?_
   refine q_then ?_
   refine yR ?_
   refine yM rfl ?_
   refine yS rfl ?_
   refine yN ?_
   refine h_ret ?_
   exact h_ret1 rfl rfl fun w s => ⟨(B', c'), rfl, s.res ((List.nil_sublist _).cons_cons _) (by simp [Fa.wr])⟩
end Go.Proofs.YtjhlbbgikccclaaGreatDoor
/- U12 -/
namespace Go.Proofs.YtjhlbbgikccclaaGreatDoor
open Go.RowKit
def preL (l : Leaf) : List UInt8 := 0 :: (l.key.1 ++ l.value.1)
def preN (a b : B32) : List UInt8 := 1 :: (a.1 ++ b.1)
def preE : List UInt8 := [3]
theorem preL_len (l : Leaf) : (preL l).length = 65 := by have := l.key.2; have := l.value.2; simp [preL]; omega
theorem preN_len (a b : B32) : (preN a b).length = 65 := by have := a.2; have := b.2; simp [preN]; omega
theorem x_bslV {P : Program} {A : List Fa} {W : World} {n : Nat} {D : List Deferred} {E : Env} {L : List Fa} {t e m bytes : Nat} {z : Value} [E' : TS P t e 1 bytes z] {l : List (Nat × Operand)} (xs : List Value) {ys : List Value} (hv : evp E l = some (idxd 0 ys)) (he : ys = xs) (h1 : ∀ v ∈ xs, v.oneCell' = true) (hm : xs.length = m := by rfl) (h0 : 0 < m ∧ m * 1 ≤ 16777216 := by decide) :
  RunsX P A W n D E L (.buildSlice t m l.toArray) (fun g : Nat => .slice (some ⟨g, 0, none⟩) m m) (fun g => .own (.slice (some ⟨g, 0, none⟩) m m) m e 1 xs :: L) := by
 subst he
 exact x_bsl (E' := E') hv (by rw [idxd_len, hm]) (hf := parts_idxd _ 0 h1) (ho := ⟨hm, h1⟩) (Nat.mul_one _) h0
theorem svs_one (xs : List Seg) : ∀ v ∈ svs xs, v.oneCell' = true := by
 intro v hv
 obtain ⟨x, _, rfl⟩ := List.mem_map.1 hv
 rfl
theorem rds_nil {M : List Fa} : Rds M (.rd none (svs []) :: rdsOf []) := inferInstanceAs (Rds M [.rd none []])
theorem rds2 {L : List Fa} {B A1 A2 : Option Addr} {n1 n2 : Nat} {l1 l2 : List UInt8} {c1 c2 : List Value} (e1 : c1 = bc l1) (e2 : c2 = bc l2) [h0 : Rd1 L (.rd B (svs [(A1, n1, l1), (A2, n2, l2)]))] [h1 : Rd1 L (.rd A1 c1)] [h2 : Rd1 L (.rd A2 c2)] : Rds L (.rd B (svs [(A1, n1, l1), (A2, n2, l2)]) :: rdsOf [(A1, n1, l1), (A2, n2, l2)]) := by
 subst e1 e2
 exact inferInstanceAs (Rds L [.rd B (svs [(A1, n1, l1), (A2, n2, l2)]), .rd A1 (bc l1), .rd A2 (bc l2)])
theorem rds_wr (xs : List Seg) (B : Option Addr) : ∀ r ∈ Fa.rd B (svs xs) :: rdsOf xs, r.wr = false := by
 intro r hr
 rcases List.mem_cons.1 hr with rfl | hr
 ·rfl
 ·induction xs with
  | nil => cases hr
  | cons x l ih => rcases List.mem_cons.1 hr with rfl | h; rfl; exact ih (List.mem_cons_of_mem _ h) h
theorem build_s (t : UInt8) (xs : List Seg) (B : Option Addr) (cp : Nat) (hx : ∀ x ∈ xs, x.1 = none → x.2.2.length = 0 ∧ x.2.1 = 0) (hmax : segN xs ≤ 1000000000 ∧ xs.length ≤ 1000000000) : Spec Tryz.prog 150 [.int .u8 (t.toNat : Int), .slice B xs.length cp].toArray (.rd B (svs xs) :: rdsOf xs) [] (fun u : Nat × Nat => .slice (some ⟨u.1, 0, none⟩) (t :: segB xs).length u.2) (fun u => [.own (.slice (some ⟨u.1, 0, none⟩) (t :: segB xs).length u.2) (t :: segB xs).length 5 1 (bc (t :: segB xs))]) := by
 have hl := segB_len xs
 refine spec_of Tryz.func150 rfl (n := 10) rfl rfl ?_
 intro W
 refine yR ?_
 refine yS rfl ?_
 refine yN ?_
 refine yR ?_
 refine yM rfl ?_
 refine h_opX (x_bsl rfl rfl) fun g6 => ?_
 refine yM rfl ?_
 change H _ _ _ _ _ (.own (.slice (some ⟨g6, 0, none⟩) 1 1) 1 5 1 (bc [t]) :: .rd B (svs xs) :: rdsOf xs) _
 refine h_call ((Concat_s xs B cp hx hmax).comes (hr := ⟨fun hw r hr => ⟨(rds_wr xs B r hr), hw.ok r (List.mem_cons_of_mem _ hr), fun k hk => ⟨r, List.mem_cons_of_mem _ hr, hk⟩⟩⟩)) rfl rfl rfl fun ⟨A8, c8⟩ => ?_
 dsimp only
 refine h_pure (φ := A8 = none → (segB xs).length = 0 ∧ c8 = 0) (fun w s => (s.ownLe (B := A8) (N := (segB xs).length) (c := c8)).2.2) fun hA => ?_
 refine h_opX (x_appAB rfl rfl hA rfl (hN := Nat.add_comm _ _)) fun ⟨A9, c9⟩ => ?_
 refine h_pure (φ := ∃ g, A9 = some ⟨g, 0, none⟩) (fun w s => s.ownSome (N := (segB xs).length + 1) (c := c9) (by omega)) ?_
 rintro ⟨g, rfl⟩
 refine yS rfl ?_
 refine yN ?_
 refine h_ret ?_
 exact h_ret1 rfl rfl fun w s => ⟨(g, c9), rfl, s.res ((List.nil_sublist _).cons_cons _) (by simp [Fa.wr])⟩
theorem pEmpty_s : Spec Tryz.prog 90 ([] : List Value).toArray [] [] (fun u : Nat × Nat => .slice (some ⟨u.1, 0, none⟩) 1 u.2) (fun u => [.own (.slice (some ⟨u.1, 0, none⟩) 1 u.2) 1 5 1 (bc preE)]) := by
 refine spec_of Tryz.func90 rfl (n := 2) rfl rfl ?_
 intro W
 refine yR ?_
 refine yS rfl ?_
 refine yN ?_
 refine yR ?_
 refine h_call ((build_s 3 [] none 0 (fun _ h => (List.not_mem_nil h).elim) (by decide)).comes (hr := rds_nil)) rfl rfl rfl fun ⟨g, c⟩ => ?_
 dsimp only
 refine yS rfl ?_
 refine yN ?_
 refine h_ret ?_
 exact h_ret1 rfl rfl fun w s => ⟨(g, c), rfl, s.res (List.Sublist.refl _) (by simp [Fa.wr])⟩
theorem pLeaf_s (l : Leaf) : Spec Tryz.prog 214 [.agg l.cells.toArray].toArray [] [] (fun u : Nat × Nat => .slice (some ⟨u.1, 0, none⟩) (preL l).length u.2) (fun u => [.own (.slice (some ⟨u.1, 0, none⟩) (preL l).length u.2) (preL l).length 5 1 (bc (preL l))]) := by
 have hk := l.key.2
 have hv := l.value.2
 have hseg : ∀ g : Nat, (0 : UInt8) :: segB [(some ⟨g, 0, none⟩, 32, l.key.1), (some ⟨g, 32, none⟩, 32, l.value.1)] = preL l := fun g => by simp [segB, preL]
 refine spec_of Tryz.func214 rfl (n := 9) rfl rfl ?_
 intro W
 refine yR ?_
 refine h_opX (x_box rfl) fun g1 => ?_
 refine yS rfl ?_
 refine yN ?_
 refine h_seq ?_
 refine ha_start [] [] mixed (same) ?_
 refine ha_takeP 0 rfl (r_field rfl) ?_
 refine ha_takeP 1 rfl (r_slA rfl) ?_
 refine ha_takeP 2 rfl (r_field rfl) ?_
 refine ha_takeP 3 rfl (r_slA rfl) ?_
 refine ha_one 4 ?_
 refine ho_X 4 rfl (rk (x_bslV (ys := [.slice (some ⟨g1, 0, none⟩) 32 32, .slice (some ⟨g1, 32, none⟩) 32 32]) (svs [(some ⟨g1, 0, none⟩, 32, l.key.1), (some ⟨g1, 32, none⟩, 32, l.value.1)]) rfl (by simp only [svs, sv, List.map_cons, List.map_nil, hk, hv]) (svs_one _))) (fun _ => same) fun g7 => ?_
 refine ha_one 5 ?_
 refine ho_C 5 rfl ((build_s 0 [(some ⟨g1, 0, none⟩, 32, l.key.1), (some ⟨g1, 32, none⟩, 32, l.value.1)] (some ⟨g7, 0, none⟩) 2 (by simp) (by simp [segN]; omega)).comes (hr := rds2 (c1 := l.key.cells) (c2 := l.value.cells) rfl rfl)) rfl rfl rfl (fun xx => same) fun ⟨g8, c8⟩ => ?_
 refine ha_takeP 6 rfl (r_assign rfl) ?_
 refine ha_done (by kernel_rfl) ?_
 refine q_then ?_
 dsimp only
 rw [hseg]
 refine h_ret ?_
 exact h_ret1 rfl rfl fun w s => ⟨(g8, c8), rfl, s.res ((List.nil_sublist _).cons_cons _) (by simp [Fa.wr])⟩
theorem pNode_s (a b : B32) : Spec Tryz.prog 199 [.agg a.cells.toArray, .agg b.cells.toArray].toArray [] [] (fun u : Nat × Nat => .slice (some ⟨u.1, 0, none⟩) (preN a b).length u.2) (fun u => [.own (.slice (some ⟨u.1, 0, none⟩) (preN a b).length u.2) (preN a b).length 5 1 (bc (preN a b))]) := by
 have hk := a.2
 have hv := b.2
 have hseg : ∀ g g' : Nat, (1 : UInt8) :: segB [(some ⟨g, 0, none⟩, 32, a.1), (some ⟨g', 0, none⟩, 32, b.1)] = preN a b := fun g g' => by simp [segB, preN]
 refine spec_of Tryz.func199 rfl (n := 9) rfl rfl ?_
 intro W
 refine yR ?_
 refine h_opX (x_box rfl) fun g2 => ?_
 refine h_opX (x_box rfl) fun g3 => ?_
 refine yS rfl ?_
 refine yN ?_
 refine h_seq ?_
 refine ha_start [] [] mixed (same) ?_
 refine ha_takeP 0 rfl (r_slA rfl) ?_
 refine ha_takeP 1 rfl (r_slA rfl) ?_
 refine ha_one 2 ?_
 refine ho_X 2 rfl (rk (x_bslV (ys := [.slice (some ⟨g2, 0, none⟩) 32 32, .slice (some ⟨g3, 0, none⟩) 32 32]) (svs [(some ⟨g2, 0, none⟩, 32, a.1), (some ⟨g3, 0, none⟩, 32, b.1)]) rfl (by simp only [svs, sv, List.map_cons, List.map_nil, hk, hv]) (svs_one _))) (fun _ => same) fun g7 => ?_
 refine ha_one 3 ?_
 refine ho_C 3 rfl ((build_s 1 [(some ⟨g2, 0, none⟩, 32, a.1), (some ⟨g3, 0, none⟩, 32, b.1)] (some ⟨g7, 0, none⟩) 2 (by simp) (by simp [segN]; omega)).comes (hr := rds2 (c1 := a.cells) (c2 := b.cells) rfl rfl)) rfl rfl rfl (fun xx => same) fun ⟨g8, c8⟩ => ?_
 refine ha_takeP 4 rfl (r_assign rfl) ?_
 refine ha_done (by kernel_rfl) ?_
 refine q_then ?_
 dsimp only
 rw [hseg]
 refine h_ret ?_
 exact h_ret1 rfl rfl fun w s => ⟨(g8, c8), rfl, s.res ((List.nil_sublist _).cons_cons _) (by simp [Fa.wr])⟩
end Go.Proofs.YtjhlbbgikccclaaGreatDoor
/- U13 -/
namespace Go.Proofs.YtjhlbbgikccclaaGreatDoor
open Go.RowKit
theorem snocB (t : List UInt8) (a : List UInt8) (k : Nat) (h : k < a.length) : (t ++ a.take k) ++ [UInt8.ofBitVec (a.getD k 0).toBitVec] = t ++ a.take (k + 1) := by
 rw [take_snoc (d := 0) h, List.append_assoc]
theorem two_s (t : UInt8) (a b : B32) : Spec Tryz.prog 219 [.int .u8 (t.toNat : Int), .agg a.cells.toArray, .agg b.cells.toArray].toArray [] [] (fun u : Nat × Nat => .slice (some ⟨u.1, 0, none⟩) 65 u.2) (fun u => [.own (.slice (some ⟨u.1, 0, none⟩) 65 u.2) 65 5 1 (bc (t :: (a.1 ++ b.1)))]) := by
 have ha := a.2
 have hb := b.2
 refine spec_of Tryz.func219 rfl (n := 33) rfl rfl ?_
 intro W
 refine yR ?_
 refine h_opX (x_box rfl) fun g4 => ?_
 refine h_opX (x_box rfl) fun g5 => ?_
 refine yS rfl ?_
 refine yN ?_
 refine yR ?_
 refine yM rfl ?_
 refine h_opX (x_bsl rfl rfl) fun g11 => ?_
 refine yS rfl ?_
 refine yN ?_
 refine h_seq ?_
 refine yR ?_
 refine yS rfl ?_
 refine yN ?_
 refine h_block ?_
 change H _ _ _ _ _ (.own (.slice (some ⟨g11, 0, none⟩) (1 + 0) 1) (1 + 0) _ _ (bc ([t] ++ a.1.take 0)) :: _) _
 refine h_loop (fun (s : Nat × Nat × Nat) => s.1 ≤ 32) (fun (s : Nat × Nat × Nat) => [(8, .int .i64 (s.1 : Int)), (7, .slice (some ⟨s.2.1, 0, none⟩) (1 + s.1) s.2.2), (4, .pointer (some ⟨g4, 0, none⟩)), (5, .pointer (some ⟨g5, 0, none⟩))]) (fun (s : Nat × Nat × Nat) => [.own (.slice (some ⟨s.2.1, 0, none⟩) (1 + s.1) s.2.2) (1 + s.1) 5 1 (bc ([t] ++ a.1.take s.1)), .blk g5 b.cells 33, .blk g4 a.cells 33]) (fun (s : Nat × Nat × Nat) => 32 - s.1) (0, g11, 1) ((show 0 ≤ 32 by omega)) ⟨rfl, rfl, rfl, rfl, trivial⟩ (same) ?_
 rintro ⟨k, g, c⟩ hk
 dsimp only at hk ⊢
 refine h_seq ?_
 refine yR ?_
 refine yM rfl ?_
 refine h_op (r_lss rfl rfl) ?_
 refine yN ?_
 refine h_cond rfl (fun h => ?_) (fun h => ?_)
 ·have hs := snocB [t] a.1 k (by omega)
  refine h_skip ?_
  refine q_then ?_
  refine h_seq ?_
  refine h_block ?_
  refine h_reg ?_
  refine yM rfl ?_
  refine yM rfl ?_
  refine h_op (r_idxA rfl rfl) ?_
  refine h_op (r_nth rfl (bc_at' (by omega))) ?_
  refine h_opX (x_bsl rfl rfl) fun g20 => ?_
  refine h_opX (x_app1B rfl rfl) fun ⟨g21, c21⟩ => ?_
  refine yS rfl ?_
  refine h_nil ?_
  refine q_block ?_
  refine q_then ?_
  refine h_reg ?_
  refine yM rfl ?_
  refine h_op (r_add rfl rfl) ?_
  refine yS rfl ?_
  refine h_nil ?_
  rw [hs]
  exact h_back (k + 1, g21, c21) ((show k + 1 ≤ 32 by omega)) ((show 32 - (k + 1) < 32 - k by omega)) ⟨rfl, rfl, rfl, rfl, trivial⟩ (same)
 ·obtain rfl : k = 32 := by omega
  refine h_exit ?_
  refine q_thenE ?_
  refine q_thenE ?_
  refine q_blockE ?_
  refine q_then ?_
  refine h_seq ?_
  refine yR ?_
  refine yS rfl ?_
  refine yN ?_
  refine h_block ?_
  rw [show [t] ++ a.1.take 32 = (t :: a.1) ++ b.1.take 0 by rw [List.take_of_length_le (by omega)]; simp]
  change H _ _ _ _ _ (.own (.slice (some ⟨g, 0, none⟩) (33 + 0) c) (33 + 0) _ _ _ :: _) _
  refine h_loop (fun (s : Nat × Nat × Nat) => s.1 ≤ 32) (fun (s : Nat × Nat × Nat) => [(9, .int .i64 (s.1 : Int)), (7, .slice (some ⟨s.2.1, 0, none⟩) (33 + s.1) s.2.2), (5, .pointer (some ⟨g5, 0, none⟩))]) (fun (s : Nat × Nat × Nat) => [.own (.slice (some ⟨s.2.1, 0, none⟩) (33 + s.1) s.2.2) (33 + s.1) 5 1 (bc ((t :: a.1) ++ b.1.take s.1)), .blk g5 b.cells 33]) (fun (s : Nat × Nat × Nat) => 32 - s.1) (0, g, c) ((show 0 ≤ 32 by omega)) ⟨rfl, rfl, rfl, trivial⟩ (same) ?_
  rintro ⟨k, g, c⟩ hk
  dsimp only at hk ⊢
  refine h_seq ?_
  refine yR ?_
  refine yM rfl ?_
  refine h_op (r_lss rfl rfl) ?_
  refine yN ?_
  refine h_cond rfl (fun h => ?_) (fun h => ?_)
  ·have hs := snocB (t :: a.1) b.1 k (by omega)
   refine h_skip ?_
   refine q_then ?_
   refine h_seq ?_
   refine h_block ?_
   refine h_reg ?_
   refine yM rfl ?_
   refine yM rfl ?_
   refine h_op (r_idxA rfl rfl) ?_
   refine h_op (r_nth rfl (bc_at' (by omega))) ?_
   refine h_opX (x_bsl rfl rfl) fun g30 => ?_
   refine h_opX (x_app1B rfl rfl) fun ⟨g31, c31⟩ => ?_
   refine yS rfl ?_
   refine h_nil ?_
   refine q_block ?_
   refine q_then ?_
   refine h_reg ?_
   refine yM rfl ?_
   refine h_op (r_add rfl rfl) ?_
   refine yS rfl ?_
   refine h_nil ?_
   rw [hs]
   exact h_back (k + 1, g31, c31) ((show k + 1 ≤ 32 by omega)) ((show 32 - (k + 1) < 32 - k by omega)) ⟨rfl, rfl, rfl, trivial⟩ (same)
  ·obtain rfl : k = 32 := by omega
   rw [show (t :: a.1) ++ b.1.take 32 = t :: (a.1 ++ b.1) by rw [List.take_of_length_le (by omega)]; simp]
   refine h_exit ?_
   refine q_thenE ?_
   refine q_thenE ?_
   refine q_blockE ?_
   refine q_then ?_
   refine yR ?_
   refine yM rfl ?_
   refine yS rfl ?_
   refine yN ?_
   refine h_ret ?_
   exact h_ret1 rfl rfl fun w s => ⟨(g, c), rfl, s.res ((List.nil_sublist _).cons_cons _) (by simp [Fa.wr])⟩
theorem rLeaf_s (l : Leaf) : Spec Tryz.prog 144 [.agg l.cells.toArray].toArray [] [] (fun u : Nat × Nat => .slice (some ⟨u.1, 0, none⟩) (preL l).length u.2) (fun u => [.own (.slice (some ⟨u.1, 0, none⟩) (preL l).length u.2) (preL l).length 5 1 (bc (preL l))]) := by
 rw [preL_len]
 refine spec_of Tryz.func144 rfl (n := 8) rfl rfl ?_
 intro W
 refine yR ?_
 refine h_opX (x_box rfl) fun g1 => ?_
 refine yS rfl ?_
 refine yN ?_
 refine yR ?_
 refine h_op (r_field rfl) ?_
 refine h_op (r_loadr rfl) ?_
 refine h_op (r_field rfl) ?_
 refine h_op (r_loadr rfl) ?_
 refine h_call ((two_s 0 l.key l.value).comes) rfl rfl rfl fun ⟨g, c⟩ => ?_
 dsimp only
 refine yS rfl ?_
 refine yN ?_
 refine h_ret ?_
 exact h_ret1 rfl rfl fun w s => ⟨(g, c), rfl, s.res ((List.nil_sublist _).cons_cons _) (by simp [Fa.wr])⟩
theorem rNode_s (a b : B32) : Spec Tryz.prog 147 [.agg a.cells.toArray, .agg b.cells.toArray].toArray [] [] (fun u : Nat × Nat => .slice (some ⟨u.1, 0, none⟩) (preN a b).length u.2) (fun u => [.own (.slice (some ⟨u.1, 0, none⟩) (preN a b).length u.2) (preN a b).length 5 1 (bc (preN a b))]) := by
 rw [preN_len]
 refine spec_of Tryz.func147 rfl (n := 8) rfl rfl ?_
 intro W
 refine yR ?_
 refine h_opX (x_box rfl) fun g2 => ?_
 refine h_opX (x_box rfl) fun g3 => ?_
 refine yS rfl ?_
 refine yN ?_
 refine yR ?_
 refine h_op (r_loadr rfl) ?_
 refine h_op (r_loadr rfl) ?_
 refine h_call ((two_s 1 a b).comes) rfl rfl rfl fun ⟨g, c⟩ => ?_
 dsimp only
 refine yS rfl ?_
 refine yN ?_
 refine h_ret ?_
 exact h_ret1 rfl rfl fun w s => ⟨(g, c), rfl, s.res ((List.nil_sublist _).cons_cons _) (by simp [Fa.wr])⟩
theorem rEmpty_s (n : Nat) (hn : n ≤ 256) : Spec Tryz.prog 143 [.int .i64 (n : Int)].toArray [] [] (fun _ : Unit => .agg (sumB n preE).cells.toArray) (fun _ => []) := by
 refine spec_of Tryz.func143 rfl (n := 6) rfl rfl ?_
 intro W
 refine yR ?_
 refine h_opX (x_alloc) fun g2 => ?_
 refine yN ?_
 refine yR ?_
 refine yM rfl ?_
 refine h_opX (x_bsl rfl rfl) fun g4 => ?_
 change H _ _ _ _ _ (.own (.slice (some ⟨g4, 0, none⟩) 1 1) 1 _ _ (bc preE) :: _) _
 refine h_call ((refSum5_s n hn preE (some ⟨g4, 0, none⟩) 1 (fun h => by cases h) (by decide)).comes) rfl rfl rfl fun _ => ?_
 refine h_opS (s_storer rfl rfl) ?_
 refine yN ?_
 refine h_ret ?_
 exact h_ret1 rfl (rv_row rfl) fun w s => ⟨(), rfl, s.res (List.nil_sublist _) (by simp)⟩
theorem Rd.some {w : World} {B : Option Addr} {cs : List Value} (h : Rd w B cs) (hc : 0 < cs.length) : ∃ b o, B = some ⟨b, o, none⟩ := by
 obtain ⟨b, o, e, _⟩ := h 0 _ (List.getElem?_eq_getElem hc)
 exact ⟨b, o, e⟩
theorem Same_yes (l : List UInt8) (B B' : Option Addr) (c c' : Nat) (hl : l.length ≤ 1000000000) : Spec Tryz.prog 26 [.slice B l.length c, .slice B' l.length c'].toArray [.rd B (bc l), .rd B' (bc l)] [] (fun _ : Unit => .bool true) (fun _ => []) := by
 refine spec_of Tryz.func26 rfl (n := 26) rfl rfl ?_
 intro W
 refine yR ?_
 refine yS rfl ?_
 refine yN ?_
 refine h_seq ?_
 refine yR ?_
 refine yM rfl ?_
 refine h_op (r_len rfl) ?_
 refine yM rfl ?_
 refine h_op (r_len rfl) ?_
 refine h_op (r_neq rfl rfl) ?_
 refine yN ?_
 refine h_no rfl ((fun h => h rfl)) ?_
 refine h_skip ?_
 refine q_then ?_
 refine h_seq ?_
 refine yR ?_
 refine yS rfl ?_
 refine yN ?_
 refine h_block ?_
 refine h_loop (fun (k : Nat) => k ≤ l.length) (fun (k : Nat) => [(5, .int .i64 (k : Int)), (0, .slice B l.length c), (1, .slice B' l.length c')]) (fun (k : Nat) => [.rd B (bc l), .rd B' (bc l)]) (fun (k : Nat) => l.length - k) 0 (Nat.zero_le _) ⟨rfl, rfl, rfl, trivial⟩ (same) ?_
 intro k hk
 refine h_seq ?_
 refine yR ?_
 refine yM rfl ?_
 refine yM rfl ?_
 refine h_op (r_len rfl) ?_
 refine h_op (r_lss rfl rfl) ?_
 refine yN ?_
 refine h_cond rfl (fun h => ?_) (fun h => ?_)
 ·refine h_pure (φ := (∃ b o, B = some ⟨b, o, none⟩) ∧ ∃ b o, B' = some ⟨b, o, none⟩) (fun w s => ⟨Rd.some (s.ok (.rd B (bc l)) (by simp)) (by rw [bc_length]; omega), Rd.some (s.ok (.rd B' (bc l)) (by simp)) (by rw [bc_length]; omega)⟩) ?_
  rintro ⟨⟨b, o, rfl⟩, b', o', rfl⟩
  refine h_skip ?_
  refine q_then ?_
  refine h_seq ?_
  refine h_block ?_
  refine h_seq ?_
  refine ha_start [.rd (some ⟨b, o, none⟩) (bc l), .rd (some ⟨b', o', none⟩) (bc l)] [] mixed (same) ?_
  refine ha_takeP 0 rfl (r_move rfl) ?_
  refine ha_takeP 1 rfl (r_move rfl) ?_
  refine ha_takeP 2 rfl (r_idx rfl rfl) ?_
  refine ha_take 3 rfl (r_nth rfl (bc_at' (by omega))) ?_
  refine ha_takeP 4 rfl (r_move rfl) ?_
  refine ha_takeP 5 rfl (r_move rfl) ?_
  refine ha_takeP 6 rfl (r_idx rfl rfl) ?_
  refine ha_take 7 rfl (r_nth rfl (bc_at' (by omega))) ?_
  refine ha_takeP 8 rfl (r_neq rfl rfl) ?_
  refine ha_done (by kernel_rfl) ?_
  refine q_then ?_
  refine h_no rfl ((fun h => h rfl)) ?_
  refine h_skip ?_
  refine q_block ?_
  refine q_then ?_
  refine h_reg ?_
  refine yM rfl ?_
  refine h_op (r_add rfl rfl) ?_
  refine yS rfl ?_
  refine h_nil ?_
  exact h_back (k + 1) (by omega) (by omega) ⟨rfl, rfl, rfl, trivial⟩ (same)
 ·refine h_exit ?_
  refine q_thenE ?_
  refine q_thenE ?_
  refine q_blockE ?_
  refine q_then ?_
  refine yR ?_
  refine yS rfl ?_
  refine yN ?_
  refine h_ret ?_
  exact h_ret1 rfl rfl fun w s => ⟨(), rfl, s.res (List.nil_sublist _) (by simp)⟩
end Go.Proofs.YtjhlbbgikccclaaGreatDoor
/- U14 -/
namespace Go.Proofs.YtjhlbbgikccclaaGreatDoor
open Go.RowKit
end Go.Proofs.YtjhlbbgikccclaaGreatDoor
/- U15 -/
namespace Go.Proofs.YtjhlbbgikccclaaGreatDoor
open Go.RowKit
def dgs (l : List B32) : List Value := l.flatMap B32.cells
theorem dgs_cons (x : B32) (l : List B32) : dgs (x :: l) = x.cells ++ dgs l := rfl
theorem dgs_append (l m : List B32) : dgs (l ++ m) = dgs l ++ dgs m := by simp [dgs]
theorem dgs_len (l : List B32) : (dgs l).length = l.length * 32 := by
 induction l with
 | nil => rfl
 | cons x l ih => rw [dgs_cons, List.length_append, B32.cells_length, ih, List.length_cons]; omega
theorem dgs_at {l : List B32} {k : Nat} (hk : k < l.length) : ∀ j v, (l.getD k zB32).cells[j]? = some v → (dgs l)[k * 32 + j]? = some v := by
 induction l generalizing k with
 | nil => cases hk
 | cons x l ih =>
  intro j v hv
  rw [dgs_cons]
  cases k with
  | zero =>
   rw [Nat.zero_mul, Nat.zero_add, List.getElem?_append_left (by have := (List.getElem?_eq_some_iff.1 hv).1; simpa using this)]
   exact hv
  | succ k =>
   rw [List.getElem?_append_right (by rw [B32.cells_length]; omega), B32.cells_length, show (k + 1) * 32 + j - 32 = k * 32 + j by omega]
   exact ih (by simpa using hk) j v hv
theorem dgs_set (l : List B32) (k : Nat) (x : B32) (hk : k < l.length) : (dgs l).take (k * 32) ++ x.cells ++ (dgs l).drop (k * 32 + 32) = dgs (l.set k x) := by
 have h1 : l = l.take k ++ l[k] :: l.drop (k + 1) := by rw [← List.drop_eq_getElem_cons hk, List.take_append_drop]
 have hl : (dgs (l.take k)).length = k * 32 := by rw [dgs_len, List.length_take]; congr 1; omega
 have h2 : dgs l = dgs (l.take k) ++ (l[k].cells ++ dgs (l.drop (k + 1))) := by conv => lhs; rw [h1, dgs_append, dgs_cons]
 rw [List.set_eq_take_append_cons_drop, if_pos hk, dgs_append, dgs_cons, h2]
 rw [List.take_append_of_le_length (by omega), List.take_of_length_le (by omega), ← hl, List.drop_append, List.drop_of_length_le (by omega), List.nil_append, show (dgs (l.take k)).length + 32 - (dgs (l.take k)).length = 32 by omega, List.drop_append, List.drop_of_length_le (by rw [B32.cells_length]; exact Nat.le_refl _), B32.cells_length, Nat.sub_self, List.drop_zero, List.nil_append, List.append_assoc]
theorem dgs_zero (n : Nat) : dgs (List.replicate n zB32) = List.replicate (n * 32) (.int .u8 0) := by
 have hz : zB32.cells = List.replicate 32 (.int .u8 0) := by simp [B32.cells, zB32, bc]
 induction n with
 | zero => rfl
 | succ n ih => rw [List.replicate_succ, dgs_cons, ih, hz, List.replicate_append_replicate]; congr 1; omega
theorem made_dgs (n : Nat) : (madeCells (Value.agg zB32.cells.toArray).cells (n * 32)).toList = dgs (List.replicate n zB32) := by
 rw [dgs_zero]
 have hz : zB32.cells = List.replicate 32 (.int .u8 0) := by simp [B32.cells, zB32, bc]
 apply List.ext_getElem?
 intro j
 rw [List.getElem?_replicate]
 by_cases h : j < n * 32
 ·have hm : j % 32 < 32 := Nat.mod_lt _ (by decide)
  simp [-List.reduceReplicate, madeCells, h, Value.cells, hz, List.getElem?_replicate, hm]
 ·simp [madeCells, h, Value.cells]
section
variable {P : Program}
theorem run_copy_rowS (w : World) (dT sT ty elem : TypeId) (g o dLen dCap size : Nat) (a : Addr) (sLen sCap : Nat) (cur : Array Value) (t : TypeId) (cs : List Value)
  (hu : P.underlying dT = some (.slice elem)) (hs : (P.info? elem).map (·.size) = some size)
  (hg : w.heap[g]? = some (.cells cur t (0, 0))) (hn : cs.length = Nat.min sLen dLen * size)
  (hsrc : ∀ j v, cs[j]? = some v → w.cell? (a.add j) = some v) (hfit : o + cs.length ≤ cur.size) (h1 : ∀ v ∈ cs, v.oneCell' = true) :
  (Builtin.copy_ #[dT, sT] ty #[.slice (some ⟨g, o, none⟩) dLen dCap, .slice (some a) sLen sCap]).run P w =
   .ok (goInt (Nat.min sLen dLen)) (w.setRow g (cur.toList.take o ++ cs ++ cur.toList.drop (o + cs.length)).toArray) := by
 have hl := run_loadCells_list (P := P) w a cs hsrc
 have hst := run_storeCells_at P g o t cs 0 cur w hg (by simpa using hfit) h1
 cases hq : P.info? elem with
 | none => simp [hq] at hs
 | some i =>
  have hi : i.size = size := by simpa [hq] using hs
  rw [hn] at hl
  simp [Builtin.copy_, run_underlying hu, Builtin.lenOf, Builtin.firstCells, sizeOf, typeInfo, hq, hi, hl, hst]
variable {A : List Fa} {W : World} {n : Nat} {D : List Deferred} {E : Env} {L M : List Fa} {x y : Operand}
theorem x_copyAt {dT sT e g o dLen dCap N c size bytes m c' q b O : Nat} {z : Value} [E' : TS P dT e size bytes z] {xs cs xs' : List Value} (hd : ev E x = some (.slice (some ⟨g, o, none⟩) dLen dCap)) (hs : ev E y = some (.slice (some ⟨b, O, none⟩) m c')) [ht : TakeG g L N c e size xs M] (hR : ∀ w, Fx w L → Rd w (some ⟨b, O, none⟩) cs) (hq : Nat.min m dLen = q) (hl : cs.length = q * size) (hfit : o + cs.length ≤ xs.length) (h1 : ∀ u ∈ cs, u.oneCell' = true) (hx : xs.take o ++ cs ++ xs.drop (o + cs.length) = xs') :
  RunsX P A W n D E L (.call { callee := .builtin .copy, args := #[x, y], argTypes := #[dT, sT] }) (fun _ : Unit => .int .i64 (q : Int)) (fun _ => .own (.slice (some ⟨g, 0, none⟩) N c) N e size xs' :: M) := fun a w ka s o' hop => by
 have h2 := s.perm ht.perm
 have ho : w.ownsRow 0 e size (.slice (some ⟨g, 0, none⟩) N c) N xs := h2.ok (.own _ _ _ _ _) (List.mem_cons_self ..)
 obtain ⟨cur, hb, h3, h4, h5, h6⟩ := own_parts ho
 have hxl := ho.1
 have hcl : xs.length ≤ cur.length := by rw [← h6, List.length_take]; omega
 have hrun := run_copy_rowS (P := P) w dT sT o'.type e g o dLen dCap size ⟨b, O, none⟩ m c' cur.toArray e cs E'.el.ht (ts_size (E' := E')) hb (by rw [hq]; exact hl) (fun j v hv => by
  obtain ⟨b', O', e', hc⟩ := hR w s.toFx j v hv
  injection e' with e'
  injection e' with e1 e2
  subst e1 e2
  rw [Addr.add_mid]
  exact hc) (by simp; omega) h1
 have hbl : Below 0 w (w.setRow g (cur.toArray.toList.take o ++ cs ++ cur.toArray.toList.drop (o + cs.length)).toArray) := below_setRow (Below.refl 0 w) (Nat.zero_le _) _
 refine ⟨(), _, ?_, h2.turn rfl (fun k hk => .inl hk) (own_new (setRow_heap w g _ _ e _ hb) ?_ h3 h4 ?_ ?_) hbl.os hbl.tape hbl.output hbl.size fun k _ hne => setRow_other w g k _ fun e => hne (show some g = some k by rw [e])⟩
 ·unfold execOp
  simp only [hop, resolve, invoke, builtin, ka.ev hd, ka.ev hs, List.map_toArray, List.map_cons, List.map_nil, Sem.run_bind, Sem.run_pure, Result.andThen_ok, hrun, hq]
  rfl
 ·rw [← hx, ← hxl]
  simp only [List.length_append, List.length_take, List.length_drop]
  omega
 ·simp only [List.length_append, List.length_take, List.length_drop]
  rw [← h5]
  omega
 ·have hc : cur = xs ++ cur.drop (N * size) := by rw [← h6, List.take_append_drop]
  rw [hc] at hcl ⊢
  generalize cur.drop (N * size) = rest at *
  simp only
  rw [List.take_append_of_le_length (show o ≤ xs.length by omega), List.drop_append_of_le_length hfit, ← List.append_assoc, ← hx]
  rw [List.take_append_of_le_length, List.take_of_length_le]
  ·simp only [List.length_append, List.length_take, List.length_drop]; omega
  ·simp only [List.length_append, List.length_take, List.length_drop]; omega
end
end Go.Proofs.YtjhlbbgikccclaaGreatDoor
/- TC -/
namespace Go.Proofs.YtjhlbbgikccclaaGreatDoor
open Go.RowKit Go.ChangeShapes Go.WideShapes
section
variable {H : Type} {enc : TypeId × Value → H} {w : World} {base : Nat} {spare : Nat → Bool} {held : Bool} {v : Value} {d : DataW H} {ps : List MemPlace} {r : Reach} {b0 : Nat}
theorem c_u8 : Tryz.prog.cellsOf 5 = 1 := by kernel_rfl
theorem c_u32 : Tryz.prog.cellsOf 251 = 1 := by kernel_rfl
theorem c_u32x64 : Tryz.prog.cellsOf 391 = 64 := by kernel_rfl
end
theorem laidOut' : laidOutB Tryz.prog = true := by kernel_rfl
theorem own' : ownKnob Tryz.prog.godebug = none := by kernel_rfl
abbrev laidR : List (String × DataW Unit) := [("sparsetree/sha.rounds", Rows.laid_sparsetree_sha_rounds)]
theorem gRounds : Tryz.prog.globalNamed "sparsetree/sha.rounds" = some 1 := by kernel_rfl
theorem tRounds : (Tryz.prog.globals[1]?).map (·.type) = some 391 := by kernel_rfl
theorem table_of {W : World} (h : laidMetH Tryz.prog laidR W) : Rd W (some ⟨1, 0, none⟩) hashT := by
 rw [MakeChecks.laidMetH_plain _ _ _ (by kernel_rfl)] at h
 obtain ⟨ps, ⟨g0, t0, cs0, f0, p0, q0, hg0, ht0, hv0, hd0, _, _⟩, _, _⟩ := h
 obtain rfl := Option.some.inj (gRounds.symm.trans hg0)
 obtain rfl := Option.some.inj (tRounds.symm.trans ht0)
 have e : Rows.laid_sparsetree_sha_rounds (H := Unit) = .agg ((K64.map BitVec.toNat).map fun k : Nat => DataW.lit (.int .u32 (k : Int))) := by kernel_rfl
 rw [e] at hd0
 have h1 := words_of Tryz.underlying391 Tryz.underlying251 c_u32 c_u32x64 hd0
 intro j u hu
 refine ⟨1, 0, rfl, ?_⟩
 rw [Nat.zero_add, World.var?_cell hg0 hv0, ← Array.getElem?_toList, h1, ← hu]
 simp [wc]
 rfl
end Go.Proofs.YtjhlbbgikccclaaGreatDoor
/- E10 -/
namespace Go.Proofs.YtjhlbbgikccclaaGreatDoor
open Go.RowKit
end Go.Proofs.YtjhlbbgikccclaaGreatDoor
/- E11 -/
namespace Go.Proofs.YtjhlbbgikccclaaGreatDoor
open Go.RowKit
structure En where
 e : Entry
 val : List UInt8
abbrev En.key (x : En) : B32 := x.e.key
inductive Tr where
 | nil
 | leaf (k : B32) (v : List UInt8)
 | node (l r : Tr)
def Tr.cnt : Tr → Nat
 | .nil => 0
 | .leaf .. => 1
 | .node l r => l.cnt + r.cnt
def Tr.kind : Tr → Nat
 | .nil => 0
 | .leaf .. => 1
 | .node .. => 2
def Tr.lf : Tr → Option (B32 × List UInt8)
 | .leaf k v => some (k, v)
 | _ => none
def Tr.sub : Bool → Tr → Tr
 | false, .node l _ => l
 | true, .node _ r => r
 | _, _ => .nil
def part (m : List En) (d : Nat) (b : Bool) : List En := m.filter fun e => bitAt e.key d == b
theorem part_len (m : List En) (d : Nat) : (part m d false).length + (part m d true).length = m.length := by
 unfold part
 induction m with
 | nil => rfl
 | cons e m ih =>
  cases hb : bitAt e.key d
  ·rw [List.filter_cons_of_pos (by simp [hb]), List.filter_cons_of_neg (by simp [hb]), List.length_cons, List.length_cons]; omega
  ·rw [List.filter_cons_of_neg (by simp [hb]), List.filter_cons_of_pos (by simp [hb]), List.length_cons, List.length_cons]; omega
theorem part_le (m : List En) (d : Nat) (b : Bool) : (part m d b).length ≤ m.length := List.length_filter_le _ _
theorem part_mem {m : List En} {d : Nat} {b : Bool} {e : En} : e ∈ part m d b ↔ e ∈ m ∧ bitAt e.key d = b := by simp [part]
structure Alike (m : List En) (d : Nat) : Prop where
 nodup : (m.map En.key).Nodup
 same : ∀ e ∈ m, ∀ f ∈ m, ∀ i, i < d → bitAt e.key i = bitAt f.key i
theorem Alike.part {m : List En} {d : Nat} (h : Alike m d) (b : Bool) : Alike (part m d b) (d + 1) := by
 refine ⟨(h.nodup.sublist ((List.filter_sublist).map _)), fun e he f hf i hi => ?_⟩
 obtain ⟨he, hb⟩ := part_mem.1 he
 obtain ⟨hf, hb'⟩ := part_mem.1 hf
 rcases Nat.lt_or_ge i d with h1 | h1
 ·exact h.same e he f hf i h1
 ·obtain rfl : i = d := by omega
  rw [hb, hb']
theorem Alike.start {m : List En} (h : (m.map En.key).Nodup) : Alike m 0 := ⟨h, fun _ _ _ _ _ hi => by omega⟩
theorem Alike.last {m : List En} {d : Nat} (h : Alike m d) (hd : 256 ≤ d) : m.length ≤ 1 := by
 match m, h with
 | [], _ => simp
 | [_], _ => simp
 | e :: f :: m, h =>
  have := bits_ext (a := e.key) (b := f.key) fun i hi => h.same e (by simp) f (by simp) i (by omega)
  have h1 := h.nodup
  simp [this] at h1
theorem Alike.lt {m : List En} {d : Nat} (h : Alike m d) (hm : 1 < m.length) : d < 256 := by
 rcases Nat.lt_or_ge d 256 with h1 | h1
 ·exact h1
 ·have := h.last h1; omega
def mkF : Nat → List En → Nat → Tr
 | 0, _, _ => .nil
 | f + 1, m, d => match m with
  | [] => .nil
  | [e] => .leaf e.key e.val
  | _ => .node (mkF f (part m d false) (d + 1)) (mkF f (part m d true) (d + 1))
def mkT (m : List En) (d : Nat) : Tr := mkF (257 - d) m d
theorem mkT_nil (d : Nat) : mkT [] d = .nil := by
 unfold mkT
 cases 257 - d <;> rfl
theorem mkT_one (e : En) {d : Nat} (h : d ≤ 256) : mkT [e] d = .leaf e.key e.val := by
 unfold mkT
 rw [show 257 - d = 256 - d + 1 by omega]
 rfl
theorem mkT_two {m : List En} {d : Nat} (h : 1 < m.length) (hd : d ≤ 256) : mkT m d = .node (mkT (part m d false) (d + 1)) (mkT (part m d true) (d + 1)) := by
 unfold mkT
 rw [show 257 - d = 257 - (d + 1) + 1 by omega]
 match m, h with
 | [], h => simp at h
 | [_], h => simp at h
 | _ :: _ :: _, _ => rfl
theorem mkT_kind (m : List En) {d : Nat} (hd : d ≤ 256) : (mkT m d).kind = min m.length 2 := by
 match m with
 | [] => rw [mkT_nil]; rfl
 | [e] => rw [mkT_one e hd]; rfl
 | e :: f :: m => rw [mkT_two (by simp) hd]; simp [Tr.kind]
theorem parts_ind {p : List En → Nat → Prop} (h0 : ∀ d, p [] d) (h1 : ∀ e d, d ≤ 256 → p [e] d) (h2 : ∀ m d, Alike m d → 1 < m.length → d < 256 → p (part m d false) (d + 1) → p (part m d true) (d + 1) → p m d) : ∀ (k : Nat) (m : List En) (d : Nat), 256 - d ≤ k → d ≤ 256 → Alike m d → p m d
 | k, m, d, hk, hd, ha => by
  match m, ha with
  | [], _ => exact h0 d
  | [e], _ => exact h1 e d hd
  | e :: f :: m, ha =>
   have hl : 1 < (e :: f :: m).length := by simp
   have hlt := ha.lt hl
   cases k with
   | zero => omega
   | succ k => exact h2 _ d ha hl hlt (parts_ind h0 h1 h2 k _ _ (by omega) (by omega) (ha.part false)) (parts_ind h0 h1 h2 k _ _ (by omega) (by omega) (ha.part true))
theorem mkT_cnt {m : List En} {d : Nat} (hd : d ≤ 256) (ha : Alike m d) : (mkT m d).cnt = m.length :=
 parts_ind (p := fun m d => (mkT m d).cnt = m.length) (fun d => by rw [mkT_nil]; rfl) (fun e d h => by rw [mkT_one e h]; rfl)
  (fun m d _ hm hd i1 i2 => by rw [mkT_two hm (by omega)]; show _ + _ = _; rw [i1, i2, part_len]) 256 m d (by omega) hd ha
def sibs (k : B32) : Tr → Nat → List Tr
 | .node l r, d => if bitAt k d then l :: sibs k r (d + 1) else r :: sibs k l (d + 1)
 | _, _ => []
def endF (k : B32) : Nat → List En → Nat → List En × Nat
 | 0, m, d => (m, d)
 | f + 1, m, d => if m.length ≤ 1 then (m, d) else endF k f (part m d (bitAt k d)) (d + 1)
def endM (k : B32) (m : List En) (d : Nat) : List En × Nat := endF k (257 - d) m d
theorem endM_one {k : B32} {m : List En} {d : Nat} (h : m.length ≤ 1) : endM k m d = (m, d) := by
 unfold endM
 cases 257 - d with
 | zero => rfl
 | succ f => unfold endF; rw [if_pos h]
theorem endM_two {k : B32} {m : List En} {d : Nat} (h : 1 < m.length) (hd : d ≤ 256) : endM k m d = endM k (part m d (bitAt k d)) (d + 1) := by
 unfold endM
 rw [show 257 - d = 257 - (d + 1) + 1 by omega]
 conv => lhs; unfold endF
 rw [if_neg (by omega)]
def atM (k : B32) (m : List En) : Nat → List En
 | 0 => m
 | d + 1 => part (atM k m d) d (bitAt k d)
def sibM (k : B32) (m : List En) (d : Nat) : List En := part (atM k m d) d (!bitAt k d)
theorem atM_alike {k : B32} {m : List En} (h : Alike m 0) : ∀ d, Alike (atM k m d) d
 | 0 => h
 | d + 1 => (atM_alike h d).part _
theorem endM_at {k : B32} {m : List En} (h : Alike m 0) : ∀ (j d : Nat), 256 - d ≤ j → d ≤ 256 → ∃ D, d ≤ D ∧ D ≤ 256 ∧ endM k (atM k m d) d = (atM k m D, D) ∧ (atM k m D).length ≤ 1 ∧ ∀ i, d ≤ i → i < D → 1 < (atM k m i).length
 | j, d, hj, hd => by
  by_cases h1 : (atM k m d).length ≤ 1
  ·exact ⟨d, Nat.le_refl _, hd, endM_one h1, h1, fun i a b => by omega⟩
  ·have hlt := (atM_alike (k := k) h d).lt (by omega)
   cases j with
   | zero => omega
   | succ j =>
    obtain ⟨D, a1, a2, a3, a4, a5⟩ := endM_at h j (d + 1) (by omega) (by omega)
    refine ⟨D, by omega, a2, by rw [endM_two (by omega) hd]; exact a3, a4, fun i b1 b2 => ?_⟩
    rcases Nat.eq_or_lt_of_le b1 with e | e
    ·subst e; omega
    ·exact a5 i e b2
def cmpL : List UInt8 → List UInt8 → Int
 | x :: xs, y :: ys => if x < y then -1 else if y < x then 1 else cmpL xs ys
 | _, _ => 0
def cmpB (a b : B32) : Int := cmpL a.1 b.1
def remK (m : List En) (k : B32) : List En := m.filter fun e => decide (e.key ≠ k)
def insE (e : En) : List En → List En
 | [] => [e]
 | f :: m => if cmpB e.key f.key < 0 then e :: f :: m else f :: insE e m
def putM (m : List En) (e : En) : List En := insE e (remK m e.key)
def ofM (l : List En) : List En := l.foldl putM []
theorem insE_snoc_in {e x : En} : ∀ {l : List En}, (∃ f ∈ l, cmpB e.key f.key < 0) → insE e (l ++ [x]) = insE e l ++ [x]
 | [], h => by obtain ⟨f, hf, _⟩ := h; cases hf
 | g :: l, h => by
  by_cases h1 : cmpB e.key g.key < 0
  ·rw [List.cons_append, insE, insE, if_pos h1, if_pos h1]; rfl
  ·rw [List.cons_append, insE, insE, if_neg h1, if_neg h1, insE_snoc_in (l := l)]
   ·rfl
   ·obtain ⟨f, hf, h2⟩ := h
    rcases List.mem_cons.1 hf with rfl | hf
    ·exact (h1 h2).elim
    ·exact ⟨f, hf, h2⟩
theorem insE_none {e : En} : ∀ {l : List En}, (∀ f ∈ l, ¬ cmpB e.key f.key < 0) → insE e l = l ++ [e]
 | [], _ => rfl
 | g :: l, h => by rw [insE, if_neg (h g (List.mem_cons_self ..)), insE_none fun f hf => h f (List.mem_cons_of_mem _ hf)]; rfl
theorem insE_snoc_now {e x : En} : ∀ {l : List En}, (∀ f ∈ l, ¬ cmpB e.key f.key < 0) → cmpB e.key x.key < 0 → insE e (l ++ [x]) = l ++ [e, x]
 | [], _, h => by rw [List.nil_append, insE, if_pos h]; rfl
 | g :: l, h, h' => by rw [List.cons_append, insE, if_neg (h g (List.mem_cons_self ..)), insE_snoc_now (fun f hf => h f (List.mem_cons_of_mem _ hf)) h']; rfl
theorem insE_mem {e f : En} : ∀ {l : List En}, f ∈ insE e l ↔ f = e ∨ f ∈ l
 | [] => by simp [insE]
 | g :: l => by
  unfold insE
  split
  ·simp
  ·rw [List.mem_cons, insE_mem (l := l), List.mem_cons]
   constructor <;> (rintro (h | h | h) <;> simp_all)
theorem insE_len (e : En) : ∀ (l : List En), (insE e l).length = l.length + 1
 | [] => rfl
 | g :: l => by
  unfold insE
  split
  ·rfl
  ·rw [List.length_cons, insE_len e l]; rfl
theorem putM_mem {m : List En} {e f : En} (h : f ∈ putM m e) : f = e ∨ f ∈ m := (insE_mem.1 h).imp_right fun h => (List.mem_filter.1 h).1
theorem putM_len (m : List En) (e : En) : (putM m e).length ≤ m.length + 1 := by
 unfold putM
 rw [insE_len]
 have := List.length_filter_le (fun f => decide (f.key ≠ e.key)) m
 unfold remK
 omega
theorem foldM_mem : ∀ (l m : List En) (f : En), f ∈ l.foldl putM m → f ∈ l ∨ f ∈ m
 | [], _, _, h => .inr h
 | e :: l, m, f, h => by
  rcases foldM_mem l _ f h with h | h
  ·exact .inl (List.mem_cons_of_mem _ h)
  ·rcases putM_mem h with rfl | h
   ·exact .inl (List.mem_cons_self ..)
   ·exact .inr h
theorem ofM_mem {l : List En} {f : En} (h : f ∈ ofM l) : f ∈ l := (foldM_mem l [] f h).elim id fun h => by cases h
end Go.Proofs.YtjhlbbgikccclaaGreatDoor
/- E12 -/
namespace Go.Proofs.YtjhlbbgikccclaaGreatDoor
open Go.RowKit
def preV (v : List UInt8) : List UInt8 := 2 :: v
def leafOf (n : Nat) (k : B32) (v : List UInt8) : Leaf := ⟨k, sumB n (preV v)⟩
def dgT (n : Nat) : Tr → B32
 | .nil => sumB n preE
 | .leaf k v => sumB n (preL (leafOf n k v))
 | .node l r => sumB n (preN (dgT n l) (dgT n r))
def rootM (n : Nat) (m : List En) (d : Nat) : B32 := dgT n (mkT m d)
theorem rootM_nil (n d : Nat) : rootM n [] d = sumB n preE := by unfold rootM; rw [mkT_nil]; rfl
theorem rootM_one (n : Nat) (e : En) {d : Nat} (h : d ≤ 256) : rootM n [e] d = sumB n (preL (leafOf n e.key e.val)) := by unfold rootM; rw [mkT_one e h]; rfl
theorem rootM_two (n : Nat) {m : List En} {d : Nat} (h : 1 < m.length) (hd : d ≤ 256) : rootM n m d = sumB n (preN (rootM n (part m d false) (d + 1)) (rootM n (part m d true) (d + 1))) := by unfold rootM; rw [mkT_two h hd]; rfl
def dset (l : List Nat) : B32 := ⟨(List.range 32).map fun k => UInt8.ofNat (((List.range 8).filter fun j => decide (8 * k + j ∈ l)).map fun j => 2 ^ (7 - j)).sum, by simp⟩
theorem byte_sum (p : Nat → Bool) : ∀ j, j < 8 → bbit (UInt8.ofNat (((List.range 8).filter p).map fun j => 2 ^ (7 - j)).sum) j = p j := by
 have key : ∀ (a b c d e f g h : Bool) (j : Nat), j < 8 → bbit (UInt8.ofNat (((List.range 8).filter fun i => [a, b, c, d, e, f, g, h].getD i false).map fun j => 2 ^ (7 - j)).sum) j = [a, b, c, d, e, f, g, h].getD j false := by decide +kernel
 intro j hj
 have hf : (List.range 8).filter p = (List.range 8).filter fun i => [p 0, p 1, p 2, p 3, p 4, p 5, p 6, p 7].getD i false := by
  apply List.filter_congr
  intro i hi
  have := List.mem_range.1 hi
  match i, this with
  | 0, _ | 1, _ | 2, _ | 3, _ | 4, _ | 5, _ | 6, _ | 7, _ => rfl
 rw [hf, key _ _ _ _ _ _ _ _ j hj]
 match j, hj with
 | 0, _ | 1, _ | 2, _ | 3, _ | 4, _ | 5, _ | 6, _ | 7, _ => rfl
theorem dset_bit (l : List Nat) (i : Nat) (hi : i < 256) : bitAt (dset l) i = decide (i ∈ l) := by
 unfold bitAt dset
 simp only [List.getD_eq_getElem?_getD, List.getElem?_map]
 rw [List.getElem?_range (by omega)]
 simp only [Option.map_some, Option.getD_some]
 rw [byte_sum _ _ (by omega), Nat.div_add_mod]
theorem dset_nil : dset [] = zB32 := bits_ext fun i hi => by rw [dset_bit _ i hi, bitAt_zero]; simp
def leafT (n : Nat) : Tr → Leaf
 | .leaf k v => leafOf n k v
 | _ => zLeaf
end Go.Proofs.YtjhlbbgikccclaaGreatDoor
/- UT -/
namespace Go.Proofs.YtjhlbbgikccclaaGreatDoor
open Go.RowKit
abbrev HR (gh gc n : Nat) : Fa := .rd (some ⟨gh, 0, none⟩) [.pointer (some ⟨gc, 0, none⟩), .int .i64 (n : Int)]
abbrev CN (gc k : Nat) : Fa := .blk gc [.int .i64 (k : Int)] 272
abbrev TBL : Fa := .rd (some ⟨1, 0, none⟩) hashT
class SlZ (h : Zh) (s : Sl) (b : List UInt8) : Prop where
 len : s.n = b.length
 cap : s.n ≤ s.c
 nil : s.A = none → s.n = 0 ∧ s.c = 0
 rd : RdZ h s.A (bc b)
theorem SlZ.mono {h h' : Zh} (hl : LeZ h h') {s : Sl} {b : List UInt8} (x : SlZ h s b) : SlZ h' s b := ⟨x.len, x.cap, x.nil, x.rd.mono hl⟩
def trZ (n : Nat) (h : Zh) : Tr → Option Addr → Prop
 | .nil, p => p = none
 | .leaf k b, p => ∃ g s, p = some ⟨g, 0, none⟩ ∧ RdZ h p (Nd.cells ⟨.iface 281 (.agg (NLeaf.cells ⟨leafOf n k b, s⟩).toArray), dgT n (.leaf k b)⟩) ∧ SlZ h s b
 | .node l r, p => ∃ g pl pr, p = some ⟨g, 0, none⟩ ∧ RdZ h p (Nd.cells ⟨.iface 181 (.agg (NInner.cells ⟨pl, pr, dgT n l, dgT n r, ((l.cnt + r.cnt : Nat) : Int)⟩).toArray), dgT n (.node l r)⟩) ∧ trZ n h l pl ∧ trZ n h r pr
theorem trZ.mono {n : Nat} {h h' : Zh} (hl : LeZ h h') : ∀ {t : Tr} {p : Option Addr}, trZ n h t p → trZ n h' t p
 | .nil, _, x => x
 | .leaf _ _, _, ⟨g, s, e, r, b⟩ => ⟨g, s, e, r.mono hl, b.mono hl⟩
 | .node _ _, _, ⟨g, pl, pr, e, r, x, y⟩ => ⟨g, pl, pr, e, r.mono hl, trZ.mono hl x, trZ.mono hl y⟩
class TrZ (n : Nat) (h : Zh) (t : Tr) (p : Option Addr) : Prop where
 ok : trZ n h t p
instance (n : Nat) (h : Zh) : TrZ n h .nil none := ⟨rfl⟩
instance (priority := 10) (n : Nat) (h h' : Zh) (t : Tr) (p : Option Addr) [hl : LeZ h h'] [x : TrZ n h t p] : TrZ n h' t p := ⟨x.ok.mono hl⟩
def subP (h : Zh) (b : Bool) : Option Addr → Option Addr
 | some ⟨g, 0, none⟩ => match h.cell g 0 with
  | some (.iface T (.agg cs)) => if T = 181 then (match cs[(if b then 1 else 0 : Nat)]? with | some (.pointer q) => q | _ => none) else none
  | _ => none
 | _ => none
theorem subP_node {h : Zh} {g : Nat} {x : NInner} {d : B32} (hr : RdZ h (some ⟨g, 0, none⟩) (Nd.cells ⟨.iface 181 (.agg x.cells.toArray), d⟩)) (b : Bool) : subP h b (some ⟨g, 0, none⟩) = if b then x.r else x.l := by
 have hc := hr.cell (j := 0) (v := .iface 181 (.agg x.cells.toArray)) rfl
 rw [Nat.zero_add] at hc
 have e : x.cells.toArray[(if b then 1 else 0 : Nat)]? = some (.pointer (if b then x.r else x.l)) := by cases b <;> simp [NInner.cells]
 unfold subP
 simp only [hc, if_true, e]
theorem subP_leaf {h : Zh} {g : Nat} {x : NLeaf} {d : B32} (hr : RdZ h (some ⟨g, 0, none⟩) (Nd.cells ⟨.iface 281 (.agg x.cells.toArray), d⟩)) (b : Bool) : subP h b (some ⟨g, 0, none⟩) = none := by
 have hc := hr.cell (j := 0) (v := .iface 281 (.agg x.cells.toArray)) rfl
 rw [Nat.zero_add] at hc
 have e : ¬ 281 = 181 := by decide
 unfold subP
 simp only [hc, if_neg e]
theorem trZ.sub {n : Nat} {h : Zh} {t : Tr} {p : Option Addr} (x : trZ n h t p) (b : Bool) : trZ n h (t.sub b) (subP h b p) := by
 rcases t with _ | ⟨kk, v⟩ | ⟨l, r⟩
 ·obtain rfl : p = none := x
  cases b <;> rfl
 ·obtain ⟨g, s, rfl, hr, _⟩ := x
  cases b <;> exact subP_leaf hr _
 ·obtain ⟨g, pl, pr, rfl, hr, hl, hr2⟩ := x
  rw [subP_node hr]
  cases b
  ·exact hl
  ·exact hr2
theorem TrZ.left {n : Nat} {h : Zh} {l r : Tr} {p : Option Addr} (x : TrZ n h (.node l r) p) : TrZ n h l (subP h false p) := ⟨x.ok.sub false⟩
theorem TrZ.right {n : Nat} {h : Zh} {l r : Tr} {p : Option Addr} (x : TrZ n h (.node l r) p) : TrZ n h r (subP h true p) := ⟨x.ok.sub true⟩
def wayK (key : B32) (t : Tr) : Nat → Tr
 | 0 => t
 | k + 1 => (wayK key t k).sub (bitAt key k)
def wayQ (h : Zh) (key : B32) (p : Option Addr) : Nat → Option Addr
 | 0 => p
 | k + 1 => subP h (bitAt key k) (wayQ h key p k)
theorem wayK_ok {n : Nat} {h : Zh} {t : Tr} {p : Option Addr} (x : trZ n h t p) (key : B32) : ∀ k, trZ n h (wayK key t k) (wayQ h key p k)
 | 0 => x
 | k + 1 => (wayK_ok x key k).sub _
instance (n : Nat) (h : Zh) (t : Tr) (p : Option Addr) (key : B32) (k : Nat) [x : TrZ n h t p] : TrZ n h (wayK key t k) (wayQ h key p k) := ⟨wayK_ok x.ok key k⟩
structure WayTo (key : B32) (t : Tr) (D : Nat) : Prop where
 le : D ≤ 256
 end_ : (wayK key t D).kind ≠ 2
 on : ∀ i, i < D → (wayK key t i).kind = 2
theorem wayK_mkT {key : B32} {m : List En} (h : Alike m 0) {D : Nat} (hD : D ≤ 256) (h2 : ∀ i, i < D → 1 < (atM key m i).length) : ∀ i, i ≤ D → wayK key (mkT m 0) i = mkT (atM key m i) i
 | 0, _ => by rw [wayK, atM]
 | i + 1, hi => by
  have hl := h2 i (by omega)
  rw [wayK, atM]
  rw [wayK_mkT h hD h2 i (by omega), mkT_two hl (by omega)]
  cases bitAt key i <;> simp only [Tr.sub]
theorem wayTo_mkT {key : B32} {m : List En} (h : Alike m 0) : ∃ D, WayTo key (mkT m 0) D ∧ endM key m 0 = (atM key m D, D) ∧ (atM key m D).length ≤ 1 ∧ (∀ i, i < D → 1 < (atM key m i).length) ∧ ∀ i, i ≤ D → wayK key (mkT m 0) i = mkT (atM key m i) i := by
 obtain ⟨D, _, hD, h1, h2, h3⟩ := endM_at (k := key) h 256 0 (by omega) (by omega)
 have hw := wayK_mkT (key := key) h hD (fun i hi => h3 i (by omega) hi)
 refine ⟨D, ⟨hD, ?_, fun i hi => ?_⟩, h1, h2, fun i hi => h3 i (by omega) hi, hw⟩
 ·rw [hw D (Nat.le_refl _), mkT_kind _ hD]; omega
 ·have := h3 i (by omega) hi
  rw [hw i (by omega), mkT_kind _ (by omega)]; omega
instance (x : NInner) : RowAt x.cells 0 2 [.pointer x.l, .pointer x.r] := .mk' (pre := []) (post := x.dl.cells ++ (x.dr.cells ++ [.int .i64 x.n])) (by simp [NInner.cells]) rfl rfl
instance (x : NInner) (a b : Option Addr) : SetAt x.cells 0 [.pointer a, .pointer b] ({ x with l := a, r := b } : NInner).cells := .mk' (pre := []) (old := [.pointer x.l, .pointer x.r]) (post := x.dl.cells ++ (x.dr.cells ++ [.int .i64 x.n])) (by simp [NInner.cells]) (by simp [NInner.cells]) rfl rfl
instance (x : NInner) (a b : B32) : SetAt x.cells 2 (a.cells ++ b.cells) ({ x with dl := a, dr := b } : NInner).cells := .mk' (pre := [.pointer x.l, .pointer x.r]) (old := x.dl.cells ++ x.dr.cells) (post := [.int .i64 x.n]) (by simp [NInner.cells]) (by simp [NInner.cells]) rfl (by simp [B32.cells_length])
instance : TB Tryz.prog 179 (zB32.cells ++ zB32.cells) (plArr 32) := ⟨fun w ps cells h => run_build_array Tryz.underlying179 (z := (zB32.cells ++ zB32.cells).toArray) (n := 64) (by kernel_rfl) (s := 32) (by kernel_rfl) h⟩
instance (a b c : B32) : SetAt (a.cells ++ b.cells) 0 c.cells (c.cells ++ b.cells) := .mk' (pre := []) (old := a.cells) (post := b.cells) (by simp) (by simp) rfl (by rw [B32.cells_length, B32.cells_length])
instance (a b c : B32) : SetAt (a.cells ++ b.cells) 32 c.cells (a.cells ++ c.cells) := .mk' (pre := a.cells) (old := b.cells) (post := []) (by simp) (by simp) (B32.cells_length _) (by rw [B32.cells_length, B32.cells_length])
instance (a b : B32) : Row (a.cells ++ b.cells) 64 := ⟨by rw [List.length_append, B32.cells_length, B32.cells_length], fun v hv => (List.mem_append.1 hv).elim (B32.cells_one a v) (B32.cells_one b v)⟩
instance (a b : Option Addr) : Row [.pointer a, .pointer b] 2 := ⟨rfl, by simp [Value.oneCell']⟩
instance : TZero Tryz.prog 281 (.agg zNLeaf.cells.toArray) := ⟨fun w => by kernel_rfl⟩
instance : MethT Tryz.prog 281 "sparsetree/node.preimage" 316 := ⟨fun v args w => by kernel_rfl⟩
instance : MethT Tryz.prog 181 "sparsetree/node.preimage" 310 := ⟨fun v args w => by kernel_rfl⟩
end Go.Proofs.YtjhlbbgikccclaaGreatDoor
/- U16 -/
namespace Go.Proofs.YtjhlbbgikccclaaGreatDoor
open Go.RowKit
end Go.Proofs.YtjhlbbgikccclaaGreatDoor
