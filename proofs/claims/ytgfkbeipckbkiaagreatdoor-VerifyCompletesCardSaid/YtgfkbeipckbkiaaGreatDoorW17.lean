/- The reference's preimages and steps; The reference's steps; rows of digests that are the same; The reference's checks of claims; The reference's check; law18.Short; The example of chapter 18: plain; law15.alive: it is true; law18.alive: it is true; The hasher's count, read; law18: VerifyChecks, VerifyExplains, VerifyClaims are true; law18: VerifyAccepts is true (joined texts: U24 U25 U98 U99 E24 U46 U100 U10c U101 U102) -/
import Derived.Test.YtgfkbeipckbkiaaGreatDoorW16
set_option linter.all false
/- U24 -/
namespace Go.Proofs.YtgfkbeipckbkiaaGreatDoor
set_option linter.unusedSimpArgs false
set_option linter.unusedVariables false
open Go.RowKit
theorem rPre_s (p : Proof) (hc : checkP p = 0) (ss : List B32) (hs : p.sibs.n = ss.length) (key : B32) (n : Nat) (hn : n ≤ 256) (d : Nat) (hd : p.depth = (d : Int)) : Spec Tryz.prog 125 [.int .i64 (n : Int), .agg p.cells.toArray, .agg key.cells.toArray].toArray [.rd p.sibs.A (dgs ss)] [] (fun u : { u : Nat × Nat × List Seg // SegsOk u.2.2 (preLs n key (expL (sumB n preE) p.bitmap ss d) (endP p) (d + 1)).reverse } => .slice (some ⟨u.1.1, 0, none⟩) (d + 1) u.1.2.1) (fun u => .own (.slice (some ⟨u.1.1, 0, none⟩) (d + 1) u.1.2.1) (d + 1) 66 1 (svs u.1.2.2) :: ownsOf u.1.2.2) := by
  have hd2 := ok_depth hc
  have hE := rExpand_s p hc ss hs n hn d hd
  have hlen := expL_len (sumB n preE) p.bitmap ss d
  generalize expL (sumB n preE) p.bitmap ss d = ds at *
  subst hlen
  have hds : ds.length ≤ 256 := by omega
  have hel := endP_len p
  have hwl := wayP_len n key ds (endP p) hel
  generalize hpre : endP p = pre at *
  refine spec_of Tryz.func125 rfl (n := 58) rfl rfl ?_
  intro W
  refine h_seq ?_
  refine h_reg ?_
  refine h_opX (x_box rfl) fun g4 => ?_
  refine h_opX (x_box rfl) fun g5 => ?_
  refine h_op (r_assign rfl) ?_
  refine h_nil ?_
  refine q_then ?_
  refine h_seq ?_
  refine h_reg ?_
  refine h_op (r_move rfl) ?_
  refine h_op (r_loadr rfl) ?_
  refine h_call (hE.comes) rfl rfl rfl fun ⟨Bx, cx⟩ => ?_
  dsimp only
  refine h_op (r_assign rfl) ?_
  refine h_nil ?_
  refine q_then ?_
  refine h_seq ?_
  refine h_reg ?_
  refine h_opX (x_bsl rfl rfl) fun g16 => ?_
  refine h_op (r_assign rfl) ?_
  refine h_nil ?_
  refine q_then ?_
  refine h_seq ?_
  refine h_seq ?_
  refine h_reg ?_
  refine h_op (r_field rfl) ?_
  refine h_op (r_loadc rfl) ?_
  refine h_op (r_eql rfl rfl) ?_
  refine h_nil ?_
  refine q_then ?_
  change H _ _ _ _ _ (.own (.slice (some ⟨g16, 0, none⟩) 1 1) 1 _ _ (bc preE) :: _) _
  by_cases hkd : p.kind = 1
  · obtain rfl : pre = preL p.leaf := hpre.symm.trans (if_pos hkd)
    refine h_yes rfl (hkd) ?_
    refine h_reg ?_
    refine h_op (r_field rfl) ?_
    refine h_op (r_loadr rfl) ?_
    refine h_call ((rLeaf_s p.leaf).comes) rfl rfl rfl fun ⟨g22, c22⟩ => ?_
    dsimp only
    refine h_op (r_assign rfl) ?_
    refine h_nil ?_
    refine q_then ?_
    refine h_seq ?_
    refine h_reg ?_
    refine h_op (r_move rfl) ?_
    refine h_opX (x_bsl rfl rfl) fun g24 => ?_
    refine h_op (r_assign rfl) ?_
    refine h_nil ?_
    refine q_then ?_
    refine h_seq ?_
    refine h_seq ?_
    refine h_reg ?_
    refine h_op (r_field rfl) ?_
    refine h_op (r_loadc rfl) ?_
    refine h_op (r_sub rfl rfl) ?_
    refine h_op (r_assign rfl) ?_
    refine h_nil ?_
    refine q_then ?_
    refine h_block ?_
    change H _ _ _ _ _ (.own (.slice (some ⟨g24, 0, none⟩) (0 + 1) 1) (0 + 1) _ _ (svs [(some ⟨g22, 0, none⟩, c22, wayP n key ds (preL p.leaf) 0)]) :: .own (.slice (some ⟨g22, 0, none⟩) (wayP n key ds (preL p.leaf) 0).length c22) (wayP n key ds (preL p.leaf) 0).length _ _ (bc (wayP n key ds (preL p.leaf) 0)) :: _) _
    refine h_loop (fun (s : Nat × Nat × Nat × List Seg) => s.1 ≤ ds.length ∧ SegsOk s.2.2.2 (preLs n key ds (preL p.leaf) (s.1 + 1)).reverse) (fun (s : Nat × Nat × Nat × List Seg) => [(10, .int .i64 ((ds.length : Int) - 1 - (s.1 : Int))), (9, .slice (some ⟨s.2.1, 0, none⟩) (s.1 + 1) s.2.2.1), (7, .slice Bx ds.length cx), (5, .pointer (some ⟨g5, 0, none⟩)), (0, .int .i64 (n : Int))]) (fun (s : Nat × Nat × Nat × List Seg) => .own (.slice (some ⟨s.2.1, 0, none⟩) (s.1 + 1) s.2.2.1) (s.1 + 1) 66 1 (svs s.2.2.2) :: .own (.slice Bx ds.length cx) ds.length 41 32 (dgs ds) :: .blk g5 key.cells 39 :: ownsOf s.2.2.2) (fun (s : Nat × Nat × Nat × List Seg) => ds.length - s.1) (0, g24, 1, [(some ⟨g22, 0, none⟩, c22, wayP n key ds (preL p.leaf) 0)]) ((show 0 ≤ ds.length ∧ SegsOk [(some ⟨g22, 0, none⟩, c22, wayP n key ds (preL p.leaf) 0)] (preLs n key ds (preL p.leaf) 1).reverse from ⟨Nat.zero_le _, rfl, fun x hx => ⟨g22, by rw [List.mem_singleton.1 hx]⟩⟩)) ⟨aI rfl (by dsimp only; omega), rfl, rfl, rfl, rfl, trivial⟩ (fun w s => (same (L' := [.own (.slice (some ⟨g24, 0, none⟩) (0 + 1) 1) (0 + 1) 66 1 (svs [(some ⟨g22, 0, none⟩, c22, wayP n key ds (preL p.leaf) 0)]), .own (.slice Bx ds.length cx) ds.length 41 32 (dgs ds), .blk g5 key.cells 39, .own (.slice (some ⟨g22, 0, none⟩) (wayP n key ds (preL p.leaf) 0).length c22) (wayP n key ds (preL p.leaf) 0).length 5 1 (bc (wayP n key ds (preL p.leaf) 0))]) w s)) ?_
    rintro ⟨k, g, c, xs⟩ ⟨hk, hxs⟩
    dsimp only at hk hxs ⊢
    refine h_seq ?_
    refine h_seq ?_
    refine h_reg ?_
    refine h_op (r_move rfl) ?_
    refine h_op (r_geq rfl rfl) ?_
    refine h_nil ?_
    refine q_then ?_
    refine h_cond rfl (fun h => ?_) (fun h => ?_)
    · have hkd2 : k < ds.length := by omega
      have hxl : xs.length = k + 1 := by rw [hxs.len, List.length_reverse, preLs_len]
      have hxs0 := hxs
      rw [preLs_succ] at hxs
      obtain ⟨gx, cx', xs', rfl, hxs'⟩ := hxs.cons
      refine h_E (E' := [(10, .int .i64 ((ds.length - 1 - k : Nat) : Int)), (9, .slice (some ⟨g, 0, none⟩) (k + 1) c), (7, .slice Bx ds.length cx), (5, .pointer (some ⟨g5, 0, none⟩)), (0, .int .i64 (n : Int))]) ⟨aI rfl (by omega), rfl, rfl, rfl, rfl, trivial⟩ ?_
      refine h_L (L' := .own (.slice (some ⟨g, 0, none⟩) (k + 1) c) (k + 1) 66 1 (svs ((some ⟨gx, 0, none⟩, cx', wayP n key ds (preL p.leaf) k) :: xs')) :: .own (.slice Bx ds.length cx) ds.length 41 32 (dgs ds) :: .blk g5 key.cells 39 :: .own (.slice (some ⟨gx, 0, none⟩) (wayP n key ds (preL p.leaf) k).length cx') (wayP n key ds (preL p.leaf) k).length 5 1 (bc (wayP n key ds (preL p.leaf) k)) :: ownsOf xs') (fun _ s => s) ?_
      refine h_pure (φ := ∃ g, Bx = some ⟨g, 0, none⟩) (fun w s => s.ownSome (N := ds.length) (c := cx) (by omega)) ?_
      rintro ⟨gB, rfl⟩
      have hlk := hwl k
      refine h_skip ?_
      refine q_then ?_
      refine h_seq ?_
      refine h_block ?_
      refine h_seq ?_
      refine h_reg ?_
      refine h_op (r_move rfl) ?_
      refine h_op (r_move rfl) ?_
      refine h_op (r_idx rfl rfl) ?_
      refine h_op (r_nth rfl (v := .slice (some ⟨gx, 0, none⟩) (wayP n key ds (preL p.leaf) k).length cx') rfl) ?_
      refine h_call ((refSum5_s n hn (wayP n key ds (preL p.leaf) k) (some ⟨gx, 0, none⟩) cx' (fun h => by cases h) (by omega)).comes) rfl rfl rfl fun _ => ?_
      refine h_opX (x_alloc) fun g11 => ?_
      refine h_opS (s_storer rfl rfl) ?_
      refine h_nil ?_
      refine q_then ?_
      refine h_seq ?_
      refine ha_start [.blk g11 (sumB n (wayP n key ds (preL p.leaf) k)).cells 41, .own (.slice (some ⟨gB, 0, none⟩) ds.length cx) ds.length 41 32 (dgs ds)] [] mixed (same) ?_
      refine ha_take 0 rfl (r_loadr rfl) ?_
      refine ha_takeP 1 rfl (r_move rfl) ?_
      refine ha_takeP 2 rfl (r_move rfl) ?_
      refine ha_takeP 3 rfl (r_idx rfl rfl) ?_
      refine ha_take 4 rfl (r_nthr rfl (out := (ds.getD (ds.length - 1 - k) zB32).cells) (B32.cells_length _) (dgs_at (by omega))) ?_
      refine ha_one 5 ?_
      refine ho_C 5 rfl ((rNode_s (sumB n (wayP n key ds (preL p.leaf) k)) (ds.getD (ds.length - 1 - k) zB32)).comes) rfl rfl rfl (fun xx => same) fun ⟨g42, c42⟩ => ?_
      refine ha_takeP 6 rfl (r_assign rfl) ?_
      refine ha_done (by kernel_rfl) ?_
      refine q_then ?_
      dsimp only
      refine h_seq ?_
      refine h_seq ?_
      refine h_reg ?_
      refine h_op (r_loadr rfl) ?_
      refine h_op (r_move rfl) ?_
      refine h_call ((refBit_s key (ds.length - 1 - k) (by omega)).comes) rfl rfl rfl fun _ => ?_
      refine h_op (r_bool (r_eql rfl rfl) (bitN_one key (ds.length - 1 - k))) ?_
      refine h_nil ?_
      refine q_then ?_
      refine h_condB rfl (fun hb => ?_) (fun hb => ?_)
      · have hw1 : wayP n key ds (preL p.leaf) (k + 1) = preN (ds.getD (ds.length - 1 - k) zB32) (sumB n (wayP n key ds (preL p.leaf) k)) := by rw [wayP, if_pos hb]
        refine ha_start [.blk g11 (sumB n (wayP n key ds (preL p.leaf) k)).cells 41, .own (.slice (some ⟨gB, 0, none⟩) ds.length cx) ds.length 41 32 (dgs ds)] [] mixed (same) ?_
        refine ha_takeP 0 rfl (r_move rfl) ?_
        refine ha_takeP 1 rfl (r_move rfl) ?_
        refine ha_takeP 2 rfl (r_idx rfl rfl) ?_
        refine ha_take 3 rfl (r_nthr rfl (out := (ds.getD (ds.length - 1 - k) zB32).cells) (B32.cells_length _) (dgs_at (by omega))) ?_
        refine ha_take 4 rfl (r_loadr rfl) ?_
        refine ha_one 5 ?_
        refine ho_C 5 rfl ((rNode_s (ds.getD (ds.length - 1 - k) zB32) (sumB n (wayP n key ds (preL p.leaf) k))).comes) rfl rfl rfl (fun xx => same) fun ⟨g52, c52⟩ => ?_
        refine ha_takeP 6 rfl (r_assign rfl) ?_
        refine ha_done (by kernel_rfl) ?_
        refine q_then ?_
        dsimp only
        have hsn : SegsOk ((some ⟨g52, 0, none⟩, c52, wayP n key ds (preL p.leaf) (k + 1)) :: (some ⟨gx, 0, none⟩, cx', wayP n key ds (preL p.leaf) k) :: xs') (preLs n key ds (preL p.leaf) (k + 1 + 1)).reverse := ⟨by rw [preLs_succ, List.map_cons, hxs0.1], fun x hx => (List.mem_cons.1 hx).elim (fun e => ⟨g52, by rw [e]⟩) (hxs0.2 x)⟩
        rw [← hw1]
        refine h_reg ?_
        refine h_op (r_move rfl) ?_
        refine h_opX (x_bsl rfl rfl) fun g54 => ?_
        refine h_op (r_move rfl) ?_
        refine h_opX (x_appA (cs := svs ((some ⟨gx, 0, none⟩, cx', wayP n key ds (preL p.leaf) k) :: xs')) rfl rfl (fun h => by cases h) (by rw [svs_len, hxl]; omega) (svs_one _)) fun ⟨A56, c56⟩ => ?_
        refine h_pure (φ := ∃ g, A56 = some ⟨g, 0, none⟩) (fun w s => s.ownSome (N := 1 + (k + 1)) (c := c56) (by omega)) ?_
        rintro ⟨g56, rfl⟩
        change H _ _ _ _ _ (.own _ _ _ _ (svs ((some ⟨g52, 0, none⟩, c52, wayP n key ds (preL p.leaf) (k + 1)) :: (some ⟨gx, 0, none⟩, cx', wayP n key ds (preL p.leaf) k) :: xs')) :: _) _
        rw [Nat.add_comm 1 (k + 1)]
        refine h_op (r_assign rfl) ?_
        refine h_nil ?_
        refine q_block ?_
        refine q_then ?_
        refine h_reg ?_
        refine h_op (r_move rfl) ?_
        refine h_op (r_sub rfl rfl) ?_
        refine h_op (r_assign rfl) ?_
        refine h_nil ?_
        exact h_back (k + 1, g56, c56, (some ⟨g52, 0, none⟩, c52, wayP n key ds (preL p.leaf) (k + 1)) :: (some ⟨gx, 0, none⟩, cx', wayP n key ds (preL p.leaf) k) :: xs') ((show k + 1 ≤ ds.length ∧ SegsOk _ (preLs n key ds (preL p.leaf) (k + 1 + 1)).reverse from ⟨by omega, hsn⟩)) ((show ds.length - (k + 1) < ds.length - k by omega)) ⟨aI rfl (by dsimp only; omega), rfl, rfl, rfl, rfl, trivial⟩ (fun w s => (same (L' := .own (.slice (some ⟨g56, 0, none⟩) (k + 1 + 1) c56) (k + 1 + 1) 66 1 (svs ((some ⟨g52, 0, none⟩, c52, wayP n key ds (preL p.leaf) (k + 1)) :: (some ⟨gx, 0, none⟩, cx', wayP n key ds (preL p.leaf) k) :: xs')) :: .own (.slice (some ⟨gB, 0, none⟩) ds.length cx) ds.length 41 32 (dgs ds) :: .blk g5 key.cells 39 :: .own (.slice (some ⟨g52, 0, none⟩) (wayP n key ds (preL p.leaf) (k + 1)).length c52) (wayP n key ds (preL p.leaf) (k + 1)).length 5 1 (bc (wayP n key ds (preL p.leaf) (k + 1))) :: .own (.slice (some ⟨gx, 0, none⟩) (wayP n key ds (preL p.leaf) k).length cx') (wayP n key ds (preL p.leaf) k).length 5 1 (bc (wayP n key ds (preL p.leaf) k)) :: ownsOf xs') w s))
      · have hw1 : wayP n key ds (preL p.leaf) (k + 1) = preN (sumB n (wayP n key ds (preL p.leaf) k)) (ds.getD (ds.length - 1 - k) zB32) := by rw [wayP, if_neg (by rw [hb]; simp)]
        have hsn : SegsOk ((some ⟨g42, 0, none⟩, c42, wayP n key ds (preL p.leaf) (k + 1)) :: (some ⟨gx, 0, none⟩, cx', wayP n key ds (preL p.leaf) k) :: xs') (preLs n key ds (preL p.leaf) (k + 1 + 1)).reverse := ⟨by rw [preLs_succ, List.map_cons, hxs0.1], fun x hx => (List.mem_cons.1 hx).elim (fun e => ⟨g42, by rw [e]⟩) (hxs0.2 x)⟩
        rw [← hw1]
        refine h_skip ?_
        refine q_then ?_
        refine h_reg ?_
        refine h_op (r_move rfl) ?_
        refine h_opX (x_bsl rfl rfl) fun g54 => ?_
        refine h_op (r_move rfl) ?_
        refine h_opX (x_appA (cs := svs ((some ⟨gx, 0, none⟩, cx', wayP n key ds (preL p.leaf) k) :: xs')) rfl rfl (fun h => by cases h) (by rw [svs_len, hxl]; omega) (svs_one _)) fun ⟨A56, c56⟩ => ?_
        refine h_pure (φ := ∃ g, A56 = some ⟨g, 0, none⟩) (fun w s => s.ownSome (N := 1 + (k + 1)) (c := c56) (by omega)) ?_
        rintro ⟨g56, rfl⟩
        change H _ _ _ _ _ (.own _ _ _ _ (svs ((some ⟨g42, 0, none⟩, c42, wayP n key ds (preL p.leaf) (k + 1)) :: (some ⟨gx, 0, none⟩, cx', wayP n key ds (preL p.leaf) k) :: xs')) :: _) _
        rw [Nat.add_comm 1 (k + 1)]
        refine h_op (r_assign rfl) ?_
        refine h_nil ?_
        refine q_block ?_
        refine q_then ?_
        refine h_reg ?_
        refine h_op (r_move rfl) ?_
        refine h_op (r_sub rfl rfl) ?_
        refine h_op (r_assign rfl) ?_
        refine h_nil ?_
        exact h_back (k + 1, g56, c56, (some ⟨g42, 0, none⟩, c42, wayP n key ds (preL p.leaf) (k + 1)) :: (some ⟨gx, 0, none⟩, cx', wayP n key ds (preL p.leaf) k) :: xs') ((show k + 1 ≤ ds.length ∧ SegsOk _ (preLs n key ds (preL p.leaf) (k + 1 + 1)).reverse from ⟨by omega, hsn⟩)) ((show ds.length - (k + 1) < ds.length - k by omega)) ⟨aI rfl (by dsimp only; omega), rfl, rfl, rfl, rfl, trivial⟩ (fun w s => (same (L' := .own (.slice (some ⟨g56, 0, none⟩) (k + 1 + 1) c56) (k + 1 + 1) 66 1 (svs ((some ⟨g42, 0, none⟩, c42, wayP n key ds (preL p.leaf) (k + 1)) :: (some ⟨gx, 0, none⟩, cx', wayP n key ds (preL p.leaf) k) :: xs')) :: .own (.slice (some ⟨gB, 0, none⟩) ds.length cx) ds.length 41 32 (dgs ds) :: .blk g5 key.cells 39 :: .own (.slice (some ⟨g42, 0, none⟩) (wayP n key ds (preL p.leaf) (k + 1)).length c42) (wayP n key ds (preL p.leaf) (k + 1)).length 5 1 (bc (wayP n key ds (preL p.leaf) (k + 1))) :: .own (.slice (some ⟨gx, 0, none⟩) (wayP n key ds (preL p.leaf) k).length cx') (wayP n key ds (preL p.leaf) k).length 5 1 (bc (wayP n key ds (preL p.leaf) k)) :: ownsOf xs') w s))
    · obtain rfl : k = ds.length := by omega
      refine h_exit ?_
      refine q_thenE ?_
      refine q_thenE ?_
      refine q_blockE ?_
      refine q_then ?_
      refine h_seq ?_
      refine h_reg ?_
      refine h_op (r_move rfl) ?_
      refine h_op (r_assign rfl) ?_
      refine h_nil ?_
      refine q_then ?_
      refine h_ret ?_
      exact h_ret1 rfl rfl fun w s => ⟨⟨(g, c, xs), hxs⟩, rfl, (same w s).res (List.Sublist.refl _) (by intro f hf; simp only [List.mem_cons] at hf; exact hf.elim (fun h => by rw [h]; rfl) (ownsOf_wr xs f))⟩
  · obtain rfl : pre = preE := hpre.symm.trans (if_neg hkd)
    refine h_no rfl (hkd) ?_
    refine h_skip ?_
    refine q_then ?_
    refine h_seq ?_
    refine h_reg ?_
    refine h_op (r_move rfl) ?_
    refine h_opX (x_bsl rfl rfl) fun g24 => ?_
    refine h_op (r_assign rfl) ?_
    refine h_nil ?_
    refine q_then ?_
    refine h_seq ?_
    refine h_seq ?_
    refine h_reg ?_
    refine h_op (r_field rfl) ?_
    refine h_op (r_loadc rfl) ?_
    refine h_op (r_sub rfl rfl) ?_
    refine h_op (r_assign rfl) ?_
    refine h_nil ?_
    refine q_then ?_
    refine h_block ?_
    change H _ _ _ _ _ (.own (.slice (some ⟨g24, 0, none⟩) (0 + 1) 1) (0 + 1) _ _ (svs [(some ⟨g16, 0, none⟩, 1, wayP n key ds preE 0)]) :: .own (.slice (some ⟨g16, 0, none⟩) (wayP n key ds preE 0).length 1) (wayP n key ds preE 0).length _ _ (bc (wayP n key ds preE 0)) :: _) _
    refine h_loop (fun (s : Nat × Nat × Nat × List Seg) => s.1 ≤ ds.length ∧ SegsOk s.2.2.2 (preLs n key ds preE (s.1 + 1)).reverse) (fun (s : Nat × Nat × Nat × List Seg) => [(10, .int .i64 ((ds.length : Int) - 1 - (s.1 : Int))), (9, .slice (some ⟨s.2.1, 0, none⟩) (s.1 + 1) s.2.2.1), (7, .slice Bx ds.length cx), (5, .pointer (some ⟨g5, 0, none⟩)), (0, .int .i64 (n : Int))]) (fun (s : Nat × Nat × Nat × List Seg) => .own (.slice (some ⟨s.2.1, 0, none⟩) (s.1 + 1) s.2.2.1) (s.1 + 1) 66 1 (svs s.2.2.2) :: .own (.slice Bx ds.length cx) ds.length 41 32 (dgs ds) :: .blk g5 key.cells 39 :: ownsOf s.2.2.2) (fun (s : Nat × Nat × Nat × List Seg) => ds.length - s.1) (0, g24, 1, [(some ⟨g16, 0, none⟩, 1, wayP n key ds preE 0)]) ((show 0 ≤ ds.length ∧ SegsOk [(some ⟨g16, 0, none⟩, 1, wayP n key ds preE 0)] (preLs n key ds preE 1).reverse from ⟨Nat.zero_le _, rfl, fun x hx => ⟨g16, by rw [List.mem_singleton.1 hx]⟩⟩)) ⟨aI rfl (by dsimp only; omega), rfl, rfl, rfl, rfl, trivial⟩ (fun w s => (same (L' := [.own (.slice (some ⟨g24, 0, none⟩) (0 + 1) 1) (0 + 1) 66 1 (svs [(some ⟨g16, 0, none⟩, 1, wayP n key ds preE 0)]), .own (.slice Bx ds.length cx) ds.length 41 32 (dgs ds), .blk g5 key.cells 39, .own (.slice (some ⟨g16, 0, none⟩) (wayP n key ds preE 0).length 1) (wayP n key ds preE 0).length 5 1 (bc (wayP n key ds preE 0))]) w s)) ?_
    rintro ⟨k, g, c, xs⟩ ⟨hk, hxs⟩
    dsimp only at hk hxs ⊢
    refine h_seq ?_
    refine h_seq ?_
    refine h_reg ?_
    refine h_op (r_move rfl) ?_
    refine h_op (r_geq rfl rfl) ?_
    refine h_nil ?_
    refine q_then ?_
    refine h_cond rfl (fun h => ?_) (fun h => ?_)
    · have hkd2 : k < ds.length := by omega
      have hxl : xs.length = k + 1 := by rw [hxs.len, List.length_reverse, preLs_len]
      have hxs0 := hxs
      rw [preLs_succ] at hxs
      obtain ⟨gx, cx', xs', rfl, hxs'⟩ := hxs.cons
      refine h_E (E' := [(10, .int .i64 ((ds.length - 1 - k : Nat) : Int)), (9, .slice (some ⟨g, 0, none⟩) (k + 1) c), (7, .slice Bx ds.length cx), (5, .pointer (some ⟨g5, 0, none⟩)), (0, .int .i64 (n : Int))]) ⟨aI rfl (by omega), rfl, rfl, rfl, rfl, trivial⟩ ?_
      refine h_L (L' := .own (.slice (some ⟨g, 0, none⟩) (k + 1) c) (k + 1) 66 1 (svs ((some ⟨gx, 0, none⟩, cx', wayP n key ds preE k) :: xs')) :: .own (.slice Bx ds.length cx) ds.length 41 32 (dgs ds) :: .blk g5 key.cells 39 :: .own (.slice (some ⟨gx, 0, none⟩) (wayP n key ds preE k).length cx') (wayP n key ds preE k).length 5 1 (bc (wayP n key ds preE k)) :: ownsOf xs') (fun _ s => s) ?_
      refine h_pure (φ := ∃ g, Bx = some ⟨g, 0, none⟩) (fun w s => s.ownSome (N := ds.length) (c := cx) (by omega)) ?_
      rintro ⟨gB, rfl⟩
      have hlk := hwl k
      refine h_skip ?_
      refine q_then ?_
      refine h_seq ?_
      refine h_block ?_
      refine h_seq ?_
      refine h_reg ?_
      refine h_op (r_move rfl) ?_
      refine h_op (r_move rfl) ?_
      refine h_op (r_idx rfl rfl) ?_
      refine h_op (r_nth rfl (v := .slice (some ⟨gx, 0, none⟩) (wayP n key ds preE k).length cx') rfl) ?_
      refine h_call ((refSum5_s n hn (wayP n key ds preE k) (some ⟨gx, 0, none⟩) cx' (fun h => by cases h) (by omega)).comes) rfl rfl rfl fun _ => ?_
      refine h_opX (x_alloc) fun g11 => ?_
      refine h_opS (s_storer rfl rfl) ?_
      refine h_nil ?_
      refine q_then ?_
      refine h_seq ?_
      refine ha_start [.blk g11 (sumB n (wayP n key ds preE k)).cells 41, .own (.slice (some ⟨gB, 0, none⟩) ds.length cx) ds.length 41 32 (dgs ds)] [] mixed (same) ?_
      refine ha_take 0 rfl (r_loadr rfl) ?_
      refine ha_takeP 1 rfl (r_move rfl) ?_
      refine ha_takeP 2 rfl (r_move rfl) ?_
      refine ha_takeP 3 rfl (r_idx rfl rfl) ?_
      refine ha_take 4 rfl (r_nthr rfl (out := (ds.getD (ds.length - 1 - k) zB32).cells) (B32.cells_length _) (dgs_at (by omega))) ?_
      refine ha_one 5 ?_
      refine ho_C 5 rfl ((rNode_s (sumB n (wayP n key ds preE k)) (ds.getD (ds.length - 1 - k) zB32)).comes) rfl rfl rfl (fun xx => same) fun ⟨g42, c42⟩ => ?_
      refine ha_takeP 6 rfl (r_assign rfl) ?_
      refine ha_done (by kernel_rfl) ?_
      refine q_then ?_
      dsimp only
      refine h_seq ?_
      refine h_seq ?_
      refine h_reg ?_
      refine h_op (r_loadr rfl) ?_
      refine h_op (r_move rfl) ?_
      refine h_call ((refBit_s key (ds.length - 1 - k) (by omega)).comes) rfl rfl rfl fun _ => ?_
      refine h_op (r_bool (r_eql rfl rfl) (bitN_one key (ds.length - 1 - k))) ?_
      refine h_nil ?_
      refine q_then ?_
      refine h_condB rfl (fun hb => ?_) (fun hb => ?_)
      · have hw1 : wayP n key ds preE (k + 1) = preN (ds.getD (ds.length - 1 - k) zB32) (sumB n (wayP n key ds preE k)) := by rw [wayP, if_pos hb]
        refine ha_start [.blk g11 (sumB n (wayP n key ds preE k)).cells 41, .own (.slice (some ⟨gB, 0, none⟩) ds.length cx) ds.length 41 32 (dgs ds)] [] mixed (same) ?_
        refine ha_takeP 0 rfl (r_move rfl) ?_
        refine ha_takeP 1 rfl (r_move rfl) ?_
        refine ha_takeP 2 rfl (r_idx rfl rfl) ?_
        refine ha_take 3 rfl (r_nthr rfl (out := (ds.getD (ds.length - 1 - k) zB32).cells) (B32.cells_length _) (dgs_at (by omega))) ?_
        refine ha_take 4 rfl (r_loadr rfl) ?_
        refine ha_one 5 ?_
        refine ho_C 5 rfl ((rNode_s (ds.getD (ds.length - 1 - k) zB32) (sumB n (wayP n key ds preE k))).comes) rfl rfl rfl (fun xx => same) fun ⟨g52, c52⟩ => ?_
        refine ha_takeP 6 rfl (r_assign rfl) ?_
        refine ha_done (by kernel_rfl) ?_
        refine q_then ?_
        dsimp only
        have hsn : SegsOk ((some ⟨g52, 0, none⟩, c52, wayP n key ds preE (k + 1)) :: (some ⟨gx, 0, none⟩, cx', wayP n key ds preE k) :: xs') (preLs n key ds preE (k + 1 + 1)).reverse := ⟨by rw [preLs_succ, List.map_cons, hxs0.1], fun x hx => (List.mem_cons.1 hx).elim (fun e => ⟨g52, by rw [e]⟩) (hxs0.2 x)⟩
        rw [← hw1]
        refine h_reg ?_
        refine h_op (r_move rfl) ?_
        refine h_opX (x_bsl rfl rfl) fun g54 => ?_
        refine h_op (r_move rfl) ?_
        refine h_opX (x_appA (cs := svs ((some ⟨gx, 0, none⟩, cx', wayP n key ds preE k) :: xs')) rfl rfl (fun h => by cases h) (by rw [svs_len, hxl]; omega) (svs_one _)) fun ⟨A56, c56⟩ => ?_
        refine h_pure (φ := ∃ g, A56 = some ⟨g, 0, none⟩) (fun w s => s.ownSome (N := 1 + (k + 1)) (c := c56) (by omega)) ?_
        rintro ⟨g56, rfl⟩
        change H _ _ _ _ _ (.own _ _ _ _ (svs ((some ⟨g52, 0, none⟩, c52, wayP n key ds preE (k + 1)) :: (some ⟨gx, 0, none⟩, cx', wayP n key ds preE k) :: xs')) :: _) _
        rw [Nat.add_comm 1 (k + 1)]
        refine h_op (r_assign rfl) ?_
        refine h_nil ?_
        refine q_block ?_
        refine q_then ?_
        refine h_reg ?_
        refine h_op (r_move rfl) ?_
        refine h_op (r_sub rfl rfl) ?_
        refine h_op (r_assign rfl) ?_
        refine h_nil ?_
        exact h_back (k + 1, g56, c56, (some ⟨g52, 0, none⟩, c52, wayP n key ds preE (k + 1)) :: (some ⟨gx, 0, none⟩, cx', wayP n key ds preE k) :: xs') ((show k + 1 ≤ ds.length ∧ SegsOk _ (preLs n key ds preE (k + 1 + 1)).reverse from ⟨by omega, hsn⟩)) ((show ds.length - (k + 1) < ds.length - k by omega)) ⟨aI rfl (by dsimp only; omega), rfl, rfl, rfl, rfl, trivial⟩ (fun w s => (same (L' := .own (.slice (some ⟨g56, 0, none⟩) (k + 1 + 1) c56) (k + 1 + 1) 66 1 (svs ((some ⟨g52, 0, none⟩, c52, wayP n key ds preE (k + 1)) :: (some ⟨gx, 0, none⟩, cx', wayP n key ds preE k) :: xs')) :: .own (.slice (some ⟨gB, 0, none⟩) ds.length cx) ds.length 41 32 (dgs ds) :: .blk g5 key.cells 39 :: .own (.slice (some ⟨g52, 0, none⟩) (wayP n key ds preE (k + 1)).length c52) (wayP n key ds preE (k + 1)).length 5 1 (bc (wayP n key ds preE (k + 1))) :: .own (.slice (some ⟨gx, 0, none⟩) (wayP n key ds preE k).length cx') (wayP n key ds preE k).length 5 1 (bc (wayP n key ds preE k)) :: ownsOf xs') w s))
      · have hw1 : wayP n key ds preE (k + 1) = preN (sumB n (wayP n key ds preE k)) (ds.getD (ds.length - 1 - k) zB32) := by rw [wayP, if_neg (by rw [hb]; simp)]
        have hsn : SegsOk ((some ⟨g42, 0, none⟩, c42, wayP n key ds preE (k + 1)) :: (some ⟨gx, 0, none⟩, cx', wayP n key ds preE k) :: xs') (preLs n key ds preE (k + 1 + 1)).reverse := ⟨by rw [preLs_succ, List.map_cons, hxs0.1], fun x hx => (List.mem_cons.1 hx).elim (fun e => ⟨g42, by rw [e]⟩) (hxs0.2 x)⟩
        rw [← hw1]
        refine h_skip ?_
        refine q_then ?_
        refine h_reg ?_
        refine h_op (r_move rfl) ?_
        refine h_opX (x_bsl rfl rfl) fun g54 => ?_
        refine h_op (r_move rfl) ?_
        refine h_opX (x_appA (cs := svs ((some ⟨gx, 0, none⟩, cx', wayP n key ds preE k) :: xs')) rfl rfl (fun h => by cases h) (by rw [svs_len, hxl]; omega) (svs_one _)) fun ⟨A56, c56⟩ => ?_
        refine h_pure (φ := ∃ g, A56 = some ⟨g, 0, none⟩) (fun w s => s.ownSome (N := 1 + (k + 1)) (c := c56) (by omega)) ?_
        rintro ⟨g56, rfl⟩
        change H _ _ _ _ _ (.own _ _ _ _ (svs ((some ⟨g42, 0, none⟩, c42, wayP n key ds preE (k + 1)) :: (some ⟨gx, 0, none⟩, cx', wayP n key ds preE k) :: xs')) :: _) _
        rw [Nat.add_comm 1 (k + 1)]
        refine h_op (r_assign rfl) ?_
        refine h_nil ?_
        refine q_block ?_
        refine q_then ?_
        refine h_reg ?_
        refine h_op (r_move rfl) ?_
        refine h_op (r_sub rfl rfl) ?_
        refine h_op (r_assign rfl) ?_
        refine h_nil ?_
        exact h_back (k + 1, g56, c56, (some ⟨g42, 0, none⟩, c42, wayP n key ds preE (k + 1)) :: (some ⟨gx, 0, none⟩, cx', wayP n key ds preE k) :: xs') ((show k + 1 ≤ ds.length ∧ SegsOk _ (preLs n key ds preE (k + 1 + 1)).reverse from ⟨by omega, hsn⟩)) ((show ds.length - (k + 1) < ds.length - k by omega)) ⟨aI rfl (by dsimp only; omega), rfl, rfl, rfl, rfl, trivial⟩ (fun w s => (same (L' := .own (.slice (some ⟨g56, 0, none⟩) (k + 1 + 1) c56) (k + 1 + 1) 66 1 (svs ((some ⟨g42, 0, none⟩, c42, wayP n key ds preE (k + 1)) :: (some ⟨gx, 0, none⟩, cx', wayP n key ds preE k) :: xs')) :: .own (.slice (some ⟨gB, 0, none⟩) ds.length cx) ds.length 41 32 (dgs ds) :: .blk g5 key.cells 39 :: .own (.slice (some ⟨g42, 0, none⟩) (wayP n key ds preE (k + 1)).length c42) (wayP n key ds preE (k + 1)).length 5 1 (bc (wayP n key ds preE (k + 1))) :: .own (.slice (some ⟨gx, 0, none⟩) (wayP n key ds preE k).length cx') (wayP n key ds preE k).length 5 1 (bc (wayP n key ds preE k)) :: ownsOf xs') w s))
    · obtain rfl : k = ds.length := by omega
      refine h_exit ?_
      refine q_thenE ?_
      refine q_thenE ?_
      refine q_blockE ?_
      refine q_then ?_
      refine h_seq ?_
      refine h_reg ?_
      refine h_op (r_move rfl) ?_
      refine h_op (r_assign rfl) ?_
      refine h_nil ?_
      refine q_then ?_
      refine h_ret ?_
      exact h_ret1 rfl rfl fun w s => ⟨⟨(g, c, xs), hxs⟩, rfl, (same w s).res (List.Sublist.refl _) (by intro f hf; simp only [List.mem_cons] at hf; exact hf.elim (fun h => by rw [h]; rfl) (ownsOf_wr xs f))⟩
end Go.Proofs.YtgfkbeipckbkiaaGreatDoor
/- U25 -/
namespace Go.Proofs.YtgfkbeipckbkiaaGreatDoor
set_option linter.unusedSimpArgs false
set_option linter.unusedVariables false
open Go.RowKit
theorem preLs_at (n : Nat) (key : B32) (ds : List B32) (pre : List UInt8) (d k : Nat) (h : k ≤ d) : (preLs n key ds pre (d + 1)).reverse[d - k]? = some (wayP n key ds pre k) := by
  rw [List.getElem?_reverse (by rw [preLs_len]; omega), preLs_len]
  unfold preLs
  rw [List.getElem?_map, List.getElem?_range (by omega), show d + 1 - 1 - (d - k) = k by omega]
  rfl
theorem rSteps_s (p : Proof) (hc : checkP p = 0) (ss : List B32) (hs : p.sibs.n = ss.length) (key : B32) (n : Nat) (hn : n ≤ 256) (d : Nat) (hd : p.depth = (d : Int)) : Spec Tryz.prog 83 [.int .i64 (n : Int), .agg p.cells.toArray, .agg key.cells.toArray].toArray [.rd p.sibs.A (dgs ss)] [] (fun u : Nat × Nat => .slice (some ⟨u.1, 0, none⟩) (d + 1) u.2) (fun u => [.own (.slice (some ⟨u.1, 0, none⟩) (d + 1) u.2) (d + 1) 41 32 (dgs (stepL n key (expL (sumB n preE) p.bitmap ss d) (endP p) (d + 1)))]) := by
  have hd2 := ok_depth hc
  have hP := rPre_s p hc ss hs key n hn d hd
  have hwl := wayP_len n key (expL (sumB n preE) p.bitmap ss d) (endP p) (endP_len p)
  generalize expL (sumB n preE) p.bitmap ss d = ds at *
  refine spec_of Tryz.func83 rfl (n := 31) rfl rfl ?_
  intro W
  refine h_seq ?_
  refine h_reg ?_
  refine h_opX (x_box rfl) fun g4 => ?_
  refine h_opX (x_box rfl) fun g5 => ?_
  refine h_op (r_assign rfl) ?_
  refine h_nil ?_
  refine q_then ?_
  refine h_seq ?_
  refine h_reg ?_
  refine h_op (r_move rfl) ?_
  refine h_op (r_loadr rfl) ?_
  refine h_op (r_loadr rfl) ?_
  refine h_call (hP.comes) rfl rfl rfl fun ⟨⟨g13, c13, xs⟩, hxs⟩ => ?_
  dsimp only at hxs ⊢
  refine h_op (r_assign rfl) ?_
  refine h_nil ?_
  refine q_then ?_
  refine h_seq ?_
  refine h_reg ?_
  refine h_op (r_assign rfl) ?_
  refine h_nil ?_
  refine q_then ?_
  refine h_seq ?_
  refine h_seq ?_
  refine h_reg ?_
  refine h_op (r_move rfl) ?_
  refine h_op (r_len rfl) ?_
  refine h_op (r_sub rfl rfl) ?_
  refine h_op (r_assign rfl) ?_
  refine h_nil ?_
  refine q_then ?_
  refine h_block ?_
  refine h_nil_own 41 32 (xs := dgs (stepL n key ds (endP p) 0)) rfl ?_
  have hxl : xs.length = d + 1 := by rw [hxs.len, List.length_reverse, preLs_len]
  refine h_loop (fun (s : Nat × Option Addr × Nat) => s.1 ≤ d + 1) (fun (s : Nat × Option Addr × Nat) => [(9, .int .i64 ((d : Int) - (s.1 : Int))), (8, .slice s.2.1 s.1 s.2.2), (7, .slice (some ⟨g13, 0, none⟩) (d + 1) c13), (0, .int .i64 (n : Int))]) (fun (s : Nat × Option Addr × Nat) => .own (.slice s.2.1 s.1 s.2.2) s.1 41 32 (dgs (stepL n key ds (endP p) s.1)) :: .own (.slice (some ⟨g13, 0, none⟩) (d + 1) c13) (d + 1) 66 1 (svs xs) :: ownsOf xs) (fun (s : Nat × Option Addr × Nat) => d + 1 - s.1) (0, none, 0) ((show 0 ≤ d + 1 by omega)) ⟨aI rfl (by dsimp only; omega), rfl, rfl, rfl, trivial⟩ (fun w s => (same w s)) ?_
  rintro ⟨k, B, c⟩ hk
  dsimp only at hk ⊢
  have hst := stepL_succ n key ds (endP p) k
  refine h_seq ?_
  refine h_seq ?_
  refine h_reg ?_
  refine h_op (r_move rfl) ?_
  refine h_op (r_geq rfl rfl) ?_
  refine h_nil ?_
  refine q_then ?_
  refine h_cond rfl (fun h => ?_) (fun h => ?_)
  · have hkd : k ≤ d := by omega
    obtain ⟨gx, cx, hx⟩ := hxs.at (preLs_at n key ds (endP p) d k hkd)
    have hlk := hwl k
    refine h_E (E' := [(9, .int .i64 ((d - k : Nat) : Int)), (8, .slice B k c), (7, .slice (some ⟨g13, 0, none⟩) (d + 1) c13), (0, .int .i64 (n : Int))]) ⟨aI rfl (by omega), rfl, rfl, rfl, trivial⟩ ?_
    refine h_skip ?_
    refine q_then ?_
    refine h_seq ?_
    refine h_block ?_
    refine h_reg ?_
    refine h_op (r_move rfl) ?_
    refine h_op (r_move rfl) ?_
    refine h_op (r_move rfl) ?_
    refine h_op (r_move rfl) ?_
    refine h_op (r_idx rfl rfl) ?_
    refine h_op (r_nth rfl (v := .slice (some ⟨gx, 0, none⟩) (wayP n key ds (endP p) k).length cx) (svs_get hx)) ?_
    refine h_call ((refSum5_s n hn (wayP n key ds (endP p) k) (some ⟨gx, 0, none⟩) cx (fun h => by cases h) (by omega)).comes (hr := rds_one (rd1_own (List.mem_cons_of_mem _ (List.mem_cons_of_mem _ (ownsOf_mem (List.mem_of_getElem? hx))))))) rfl rfl rfl fun _ => ?_
    refine h_opX (x_bsl rfl rfl) fun g28 => ?_
    refine h_opX (x_app rfl rfl (k := 32)) fun ⟨g29, c29⟩ => ?_
    refine h_op (r_assign rfl) ?_
    refine h_nil ?_
    refine q_block ?_
    refine q_then ?_
    refine h_reg ?_
    refine h_op (r_move rfl) ?_
    refine h_op (r_sub rfl rfl) ?_
    refine h_op (r_assign rfl) ?_
    refine h_nil ?_
    rw [hst]
    exact h_back (k + 1, some ⟨g29, 0, none⟩, c29) ((show k + 1 ≤ d + 1 by omega)) ((show d + 1 - (k + 1) < d + 1 - k by omega)) ⟨aI rfl (by dsimp only; omega), rfl, rfl, rfl, trivial⟩ (same)
  · obtain rfl : k = d + 1 := by omega
    refine h_pure (φ := ∃ g, B = some ⟨g, 0, none⟩) (fun w s => s.ownSome (N := d + 1) (c := c) (by omega)) ?_
    rintro ⟨g, rfl⟩
    refine h_exit ?_
    refine q_thenE ?_
    refine q_thenE ?_
    refine q_blockE ?_
    refine q_then ?_
    refine h_seq ?_
    refine h_reg ?_
    refine h_op (r_move rfl) ?_
    refine h_op (r_assign rfl) ?_
    refine h_nil ?_
    refine q_then ?_
    refine h_ret ?_
    exact h_ret1 rfl rfl fun w s => ⟨(g, c), rfl, s.res ((List.nil_sublist _).cons_cons _) (by simp [Fa.wr])⟩
end Go.Proofs.YtgfkbeipckbkiaaGreatDoor
/- U98 -/
namespace Go.Proofs.YtgfkbeipckbkiaaGreatDoor
set_option linter.unusedSimpArgs false
set_option linter.unusedVariables false
open Go.RowKit
def claimS (c : Claim) : Int := if c.key.n = 32 then (if c.present = true ∧ 65535 < c.value.n then 2 else 0) else 1
theorem rClaim18_s (c : Claim) : Spec Tryz.prog 39 [.agg c.cells.toArray].toArray [] [] (fun _ : Unit => .tuple #[.int .i64 (claimS c), .int .i64 (claimE c)]) (fun _ => []) := by
  obtain ⟨ks, vs, b⟩ := c
  refine spec_of Tryz.func39 rfl (n := 16) rfl rfl ?_
  intro W
  by_cases h1 : ks.n = 32
  · refine h_seq ?_
    refine h_reg ?_
    refine h_opX (x_box rfl) fun g1 => ?_
    refine h_op (r_assign rfl) ?_
    refine h_op (r_assign rfl) ?_
    refine h_nil ?_
    refine q_then ?_
    refine h_seq ?_
    refine h_seq ?_
    refine h_reg ?_
    refine h_op (r_field rfl) ?_
    refine h_op (r_loadc rfl) ?_
    refine h_op (r_len rfl) ?_
    refine h_op (r_bool (r_neq rfl rfl) (decide_eq_false (show ¬ ¬ (ks.n : Int) = 32 by omega))) ?_
    refine h_nil ?_
    refine q_then ?_
    refine h_condF rfl ?_
    cases b
    · rw [show claimS ⟨ks, vs, false⟩ = 0 by unfold claimS; rw [if_pos h1, if_neg (by simp)], show claimE ⟨ks, vs, false⟩ = 0 by unfold claimE; rw [if_pos h1, if_neg (by simp)]]
      refine h_skip ?_
      refine q_then ?_
      refine h_seq ?_
      refine h_seq ?_
      refine h_reg ?_
      refine h_op (r_field rfl) ?_
      refine h_op (r_loadc rfl) ?_
      refine h_op (r_move rfl) ?_
      refine h_opOff ?_
      refine h_opOff ?_
      refine h_opOff ?_
      refine h_opOff ?_
      refine h_op (r_pick rfl rfl) ?_
      refine h_nil ?_
      refine q_then ?_
      refine h_condF rfl ?_
      refine h_skip ?_
      refine q_then ?_
      refine h_seq ?_
      refine h_reg ?_
      refine h_op (r_assign rfl) ?_
      refine h_op (r_assign rfl) ?_
      refine h_nil ?_
      refine q_then ?_
      refine h_ret ?_
      exact h_ret2 rfl rfl rfl fun w s => ⟨(), rfl, s.res (List.nil_sublist _) (by simp)⟩
    · by_cases h2 : 65535 < vs.n
      · rw [show claimS ⟨ks, vs, true⟩ = 2 by unfold claimS; rw [if_pos h1, if_pos ⟨rfl, h2⟩], show claimE ⟨ks, vs, true⟩ = 3 by unfold claimE; rw [if_pos h1, if_pos ⟨rfl, h2⟩]]
        refine h_skip ?_
        refine q_then ?_
        refine h_seq ?_
        refine h_seq ?_
        refine h_reg ?_
        refine h_op (r_field rfl) ?_
        refine h_op (r_loadc rfl) ?_
        refine h_op (r_move rfl) ?_
        refine h_op (r_field rfl) ?_
        refine h_op (r_loadc rfl) ?_
        refine h_op (r_len rfl) ?_
        refine h_op (r_bool (r_gtr rfl rfl) (decide_eq_true (show (65535 : Int) < (vs.n : Int) by omega))) ?_
        refine h_op (r_pick rfl rfl) ?_
        refine h_nil ?_
        refine q_then ?_
        refine h_condT rfl ?_
        refine h_seq ?_
        refine h_reg ?_
        refine h_op (r_assign rfl) ?_
        refine h_op (r_assign rfl) ?_
        refine h_nil ?_
        refine q_then ?_
        refine h_ret ?_
        refine q_thenR ?_
        exact h_ret2 rfl rfl rfl fun w s => ⟨(), rfl, s.res (List.nil_sublist _) (by simp)⟩
      · rw [show claimS ⟨ks, vs, true⟩ = 0 by unfold claimS; rw [if_pos h1, if_neg (fun h => h2 h.2)], show claimE ⟨ks, vs, true⟩ = 0 by unfold claimE; rw [if_pos h1, if_neg (fun h => h2 h.2)]]
        refine h_skip ?_
        refine q_then ?_
        refine h_seq ?_
        refine h_seq ?_
        refine h_reg ?_
        refine h_op (r_field rfl) ?_
        refine h_op (r_loadc rfl) ?_
        refine h_op (r_move rfl) ?_
        refine h_op (r_field rfl) ?_
        refine h_op (r_loadc rfl) ?_
        refine h_op (r_len rfl) ?_
        refine h_op (r_bool (r_gtr rfl rfl) (decide_eq_false (show ¬ (65535 : Int) < (vs.n : Int) by omega))) ?_
        refine h_op (r_pick rfl rfl) ?_
        refine h_nil ?_
        refine q_then ?_
        refine h_condF rfl ?_
        refine h_skip ?_
        refine q_then ?_
        refine h_seq ?_
        refine h_reg ?_
        refine h_op (r_assign rfl) ?_
        refine h_op (r_assign rfl) ?_
        refine h_nil ?_
        refine q_then ?_
        refine h_ret ?_
        exact h_ret2 rfl rfl rfl fun w s => ⟨(), rfl, s.res (List.nil_sublist _) (by simp)⟩
  · rw [show claimS ⟨ks, vs, b⟩ = 1 from if_neg h1, show claimE ⟨ks, vs, b⟩ = 2 from if_neg h1]
    refine h_seq ?_
    refine h_reg ?_
    refine h_opX (x_box rfl) fun g1 => ?_
    refine h_op (r_assign rfl) ?_
    refine h_op (r_assign rfl) ?_
    refine h_nil ?_
    refine q_then ?_
    refine h_seq ?_
    refine h_seq ?_
    refine h_reg ?_
    refine h_op (r_field rfl) ?_
    refine h_op (r_loadc rfl) ?_
    refine h_op (r_len rfl) ?_
    refine h_op (r_bool (r_neq rfl rfl) (decide_eq_true (show ¬ (ks.n : Int) = 32 by omega))) ?_
    refine h_nil ?_
    refine q_then ?_
    refine h_condT rfl ?_
    refine h_seq ?_
    refine h_reg ?_
    refine h_op (r_assign rfl) ?_
    refine h_op (r_assign rfl) ?_
    refine h_nil ?_
    refine q_then ?_
    refine h_ret ?_
    refine q_thenR ?_
    exact h_ret2 rfl rfl rfl fun w s => ⟨(), rfl, s.res (List.nil_sublist _) (by simp)⟩
/-- the step and the code of the last two checks -/
def lastSC (n : Nat) (root : B32) (c : Claim) (kb vb : List UInt8) (p : DP) : Int × Int :=
  if supP (p.pr none 0) (keyOf kb) (valD n c.present vb) c.present then (if rootP n p (keyOf kb) = root then (0, 0) else (5, 13)) else (4, 12)
section
variable (n : Nat) (hn : n ≤ 256) (h : Zh) (c : Claim) (kb vb : List UInt8) [hK : SlZ h c.key kb] [hV : SlZ h c.value vb] (hvl : vb.length ≤ 100000000)
include hn hvl
theorem rLast18_s (hkl : kb.length = 32) (root : B32) (p : DP) (A : Option Addr) (c' : Nat) (hck : checkP (p.pr none 0) = 0) [hS : RdZ h A (dgs p.ss)] : Spec Tryz.prog 42 [.int .i64 (n : Int), .agg root.cells.toArray, .agg c.cells.toArray, .agg (p.pr A c').cells.toArray].toArray [.zone false h] [] (fun _ : Unit => .tuple #[.int .i64 (lastSC n root c kb vb p).1, .int .i64 (lastSC n root c kb vb p).2]) (fun _ => []) := by
  have hkn := hK.len
  have hvn := hV.len
  have hKr : RdZ h c.key.A (bc kb) := hK.rd
  have hVr : RdZ h c.value.A (bc vb) := hV.rd
  have hVn := hV.nil
  have hdd : p.d ≤ 256 := by
    have h1 := ok_depth hck
    have h2 : (p.pr none 0).depth = (p.d : Int) := rfl
    omega
  have hSu := rSupports_s (p.pr A c') (keyOf kb) (valD n c.present vb) c.present
  rw [show supP (p.pr A c') (keyOf kb) (valD n c.present vb) c.present = supP (p.pr none 0) (keyOf kb) (valD n c.present vb) c.present from rfl] at hSu
  have hSt := rSteps_s (p.pr A c') hck p.ss rfl (keyOf kb) n hn p.d rfl
  change Spec _ _ _ [.rd A (dgs p.ss)] _ _ (fun u : Nat × Nat => [.own (.slice (some ⟨u.1, 0, none⟩) (p.d + 1) u.2) (p.d + 1) 41 32 (dgs (stepL n (keyOf kb) (expL (sumB n preE) p.bm p.ss p.d) (endP (p.pr none 0)) (p.d + 1)))]) at hSt
  have hla : (stepL n (keyOf kb) (expL (sumB n preE) p.bm p.ss p.d) (endP (p.pr none 0)) (p.d + 1)).getD p.d zB32 = rootP n p (keyOf kb) := by
    unfold stepL rootP
    simp [List.getD_eq_getElem?_getD]
  have hat := dgs_at (l := stepL n (keyOf kb) (expL (sumB n preE) p.bm p.ss p.d) (endP (p.pr none 0)) (p.d + 1)) (k := p.d) (by simp [stepL])
  rw [hla] at hat
  have hLf := rLeafOf_s n hn (keyOf kb) vb c.value.A c.value.c (fun e => by have := hVn e; omega) hvl
  unfold lastSC
  obtain ⟨⟨kA, kn, kc⟩, ⟨vA, vn, vc⟩, pr⟩ := c
  dsimp only at hkn hvn hKr hVr hVn hSu hLf ⊢
  subst hkn hvn
  obtain ⟨bs, hbs⟩ : ∃ bs, supP (p.pr none 0) (keyOf kb) (valD n pr vb) pr = bs := ⟨_, rfl⟩
  rw [hbs] at hSu ⊢
  generalize stepL n (keyOf kb) (expL (sumB n preE) p.bm p.ss p.d) (endP (p.pr none 0)) (p.d + 1) = sts at *
  cases pr
  · refine spec_of Tryz.func42 rfl (n := 43) rfl rfl ?_
    intro W
    refine h_seq ?_
    refine h_reg ?_
    refine h_opX (x_box rfl) fun g5 => ?_
    refine h_opX (x_box rfl) fun g6 => ?_
    refine h_opX (x_box rfl) fun g7 => ?_
    refine h_op (r_assign rfl) ?_
    refine h_op (r_assign rfl) ?_
    refine h_nil ?_
    refine q_then ?_
    refine h_seq ?_
    refine h_reg ?_
    refine h_op (r_field rfl) ?_
    refine h_op (r_loadc rfl) ?_
    refine h_call ((rOf_s kb kA kc hkl).comes) rfl rfl rfl fun _ => ?_
    refine h_opX (x_alloc) fun g10 => ?_
    refine h_opS (s_storer rfl rfl) ?_
    refine h_nil ?_
    refine q_then ?_
    refine h_seq ?_
    refine h_reg ?_
    refine h_opX (x_alloc) fun g11 => ?_
    refine h_nil ?_
    refine q_then ?_
    refine h_seq ?_
    refine h_seq ?_
    refine h_reg ?_
    refine h_op (r_field rfl) ?_
    refine h_op (r_loadc rfl) ?_
    refine h_nil ?_
    refine q_then ?_
    refine h_condF rfl ?_
    refine h_skip ?_
    refine q_then ?_
    refine h_seq ?_
    refine h_seq ?_
    refine h_reg ?_
    refine h_op (r_loadr rfl) ?_
    refine h_op (r_loadr rfl) ?_
    refine h_op (r_loadr rfl) ?_
    refine h_op (r_field rfl) ?_
    refine h_op (r_loadc rfl) ?_
    refine h_call (hSu.comes) rfl rfl rfl fun _ => ?_
    refine h_op (r_not rfl) ?_
    refine h_nil ?_
    refine q_then ?_
    cases bs
    · refine h_condT rfl ?_
      refine h_seq ?_
      refine h_reg ?_
      refine h_op (r_assign rfl) ?_
      refine h_op (r_assign rfl) ?_
      refine h_nil ?_
      refine q_then ?_
      refine h_ret ?_
      refine q_thenR ?_
      exact h_ret2 rfl rfl rfl fun w s => ⟨(), rfl, s.res (List.nil_sublist _) (by simp)⟩
    · refine h_condF rfl ?_
      refine h_skip ?_
      refine q_then ?_
      refine h_seq ?_
      refine h_reg ?_
      refine h_op (r_move rfl) ?_
      refine h_op (r_loadr rfl) ?_
      refine h_op (r_loadr rfl) ?_
      refine h_call (hSt.comes) rfl rfl rfl fun ⟨g34, c34⟩ => ?_
      refine h_op (r_assign rfl) ?_
      refine h_nil ?_
      refine q_then ?_
      refine h_seq ?_
      refine h_seq ?_
      by_cases hr : rootP n p (keyOf kb) = root
      · rw [if_pos hr]
        refine ha_start [.blk g5 root.cells 41, .own (.slice (some ⟨g34, 0, none⟩) (p.d + 1) c34) (p.d + 1) 41 32 (dgs sts)] [] mixed (same) ?_
        refine ha_takeP 0 rfl (r_move rfl) ?_
        refine ha_takeP 1 rfl (r_move rfl) ?_
        refine ha_takeP 2 rfl (r_len rfl) ?_
        refine ha_takeP 3 rfl (r_subN rfl rfl (m := p.d) (hm := by omega)) ?_
        refine ha_takeP 4 rfl (r_idx rfl rfl) ?_
        refine ha_take 5 rfl (r_nthr rfl (out := (rootP n p (keyOf kb)).cells) (B32.cells_length _) hat) ?_
        refine ha_take 6 rfl (r_loadr rfl) ?_
        refine ha_takeP 7 rfl (r_bool (r_ner rfl rfl) (decide_eq_false (fun h => h hr))) ?_
        refine ha_done (by kernel_rfl) ?_
        refine q_then ?_
        refine h_condF rfl ?_
        refine h_skip ?_
        refine q_then ?_
        refine h_seq ?_
        refine h_reg ?_
        refine h_op (r_assign rfl) ?_
        refine h_op (r_assign rfl) ?_
        refine h_nil ?_
        refine q_then ?_
        refine h_ret ?_
        exact h_ret2 rfl rfl rfl fun w s => ⟨(), rfl, s.res (List.nil_sublist _) (by simp)⟩
      · rw [if_neg hr]
        refine ha_start [.blk g5 root.cells 41, .own (.slice (some ⟨g34, 0, none⟩) (p.d + 1) c34) (p.d + 1) 41 32 (dgs sts)] [] mixed (same) ?_
        refine ha_takeP 0 rfl (r_move rfl) ?_
        refine ha_takeP 1 rfl (r_move rfl) ?_
        refine ha_takeP 2 rfl (r_len rfl) ?_
        refine ha_takeP 3 rfl (r_subN rfl rfl (m := p.d) (hm := by omega)) ?_
        refine ha_takeP 4 rfl (r_idx rfl rfl) ?_
        refine ha_take 5 rfl (r_nthr rfl (out := (rootP n p (keyOf kb)).cells) (B32.cells_length _) hat) ?_
        refine ha_take 6 rfl (r_loadr rfl) ?_
        refine ha_takeP 7 rfl (r_bool (r_ner rfl rfl) (decide_eq_true hr)) ?_
        refine ha_done (by kernel_rfl) ?_
        refine q_then ?_
        refine h_condT rfl ?_
        refine h_seq ?_
        refine h_reg ?_
        refine h_op (r_assign rfl) ?_
        refine h_op (r_assign rfl) ?_
        refine h_nil ?_
        refine q_then ?_
        refine h_ret ?_
        refine q_thenR ?_
        exact h_ret2 rfl rfl rfl fun w s => ⟨(), rfl, s.res (List.nil_sublist _) (by simp)⟩
  · refine spec_of Tryz.func42 rfl (n := 43) rfl rfl ?_
    intro W
    refine h_seq ?_
    refine h_reg ?_
    refine h_opX (x_box rfl) fun g5 => ?_
    refine h_opX (x_box rfl) fun g6 => ?_
    refine h_opX (x_box rfl) fun g7 => ?_
    refine h_op (r_assign rfl) ?_
    refine h_op (r_assign rfl) ?_
    refine h_nil ?_
    refine q_then ?_
    refine h_seq ?_
    refine h_reg ?_
    refine h_op (r_field rfl) ?_
    refine h_op (r_loadc rfl) ?_
    refine h_call ((rOf_s kb kA kc hkl).comes) rfl rfl rfl fun _ => ?_
    refine h_opX (x_alloc) fun g10 => ?_
    refine h_opS (s_storer rfl rfl) ?_
    refine h_nil ?_
    refine q_then ?_
    refine h_seq ?_
    refine h_reg ?_
    refine h_opX (x_alloc) fun g11 => ?_
    refine h_nil ?_
    refine q_then ?_
    refine h_seq ?_
    refine h_seq ?_
    refine h_reg ?_
    refine h_op (r_field rfl) ?_
    refine h_op (r_loadc rfl) ?_
    refine h_nil ?_
    refine q_then ?_
    refine h_condT rfl ?_
    refine h_reg ?_
    refine h_op (r_move rfl) ?_
    refine h_op (r_loadr rfl) ?_
    refine h_op (r_field rfl) ?_
    refine h_op (r_loadc rfl) ?_
    refine h_call (hLf.comes) rfl rfl rfl fun _ => ?_
    refine h_op (r_fldr rfl) ?_
    refine h_opS (s_storer rfl rfl) ?_
    refine h_nil ?_
    refine q_then ?_
    refine h_seq ?_
    refine h_seq ?_
    refine h_reg ?_
    refine h_op (r_loadr rfl) ?_
    refine h_op (r_loadr rfl) ?_
    refine h_op (r_loadr rfl) ?_
    refine h_op (r_field rfl) ?_
    refine h_op (r_loadc rfl) ?_
    change H _ _ _ _ _ (.blk g11 (valD n true vb).cells _ :: _) _
    refine h_call (hSu.comes) rfl rfl rfl fun _ => ?_
    refine h_op (r_not rfl) ?_
    refine h_nil ?_
    refine q_then ?_
    cases bs
    · refine h_condT rfl ?_
      refine h_seq ?_
      refine h_reg ?_
      refine h_op (r_assign rfl) ?_
      refine h_op (r_assign rfl) ?_
      refine h_nil ?_
      refine q_then ?_
      refine h_ret ?_
      refine q_thenR ?_
      exact h_ret2 rfl rfl rfl fun w s => ⟨(), rfl, s.res (List.nil_sublist _) (by simp)⟩
    · refine h_condF rfl ?_
      refine h_skip ?_
      refine q_then ?_
      refine h_seq ?_
      refine h_reg ?_
      refine h_op (r_move rfl) ?_
      refine h_op (r_loadr rfl) ?_
      refine h_op (r_loadr rfl) ?_
      refine h_call (hSt.comes) rfl rfl rfl fun ⟨g34, c34⟩ => ?_
      refine h_op (r_assign rfl) ?_
      refine h_nil ?_
      refine q_then ?_
      refine h_seq ?_
      refine h_seq ?_
      by_cases hr : rootP n p (keyOf kb) = root
      · rw [if_pos hr]
        refine ha_start [.blk g5 root.cells 41, .own (.slice (some ⟨g34, 0, none⟩) (p.d + 1) c34) (p.d + 1) 41 32 (dgs sts)] [] mixed (same) ?_
        refine ha_takeP 0 rfl (r_move rfl) ?_
        refine ha_takeP 1 rfl (r_move rfl) ?_
        refine ha_takeP 2 rfl (r_len rfl) ?_
        refine ha_takeP 3 rfl (r_subN rfl rfl (m := p.d) (hm := by omega)) ?_
        refine ha_takeP 4 rfl (r_idx rfl rfl) ?_
        refine ha_take 5 rfl (r_nthr rfl (out := (rootP n p (keyOf kb)).cells) (B32.cells_length _) hat) ?_
        refine ha_take 6 rfl (r_loadr rfl) ?_
        refine ha_takeP 7 rfl (r_bool (r_ner rfl rfl) (decide_eq_false (fun h => h hr))) ?_
        refine ha_done (by kernel_rfl) ?_
        refine q_then ?_
        refine h_condF rfl ?_
        refine h_skip ?_
        refine q_then ?_
        refine h_seq ?_
        refine h_reg ?_
        refine h_op (r_assign rfl) ?_
        refine h_op (r_assign rfl) ?_
        refine h_nil ?_
        refine q_then ?_
        refine h_ret ?_
        exact h_ret2 rfl rfl rfl fun w s => ⟨(), rfl, s.res (List.nil_sublist _) (by simp)⟩
      · rw [if_neg hr]
        refine ha_start [.blk g5 root.cells 41, .own (.slice (some ⟨g34, 0, none⟩) (p.d + 1) c34) (p.d + 1) 41 32 (dgs sts)] [] mixed (same) ?_
        refine ha_takeP 0 rfl (r_move rfl) ?_
        refine ha_takeP 1 rfl (r_move rfl) ?_
        refine ha_takeP 2 rfl (r_len rfl) ?_
        refine ha_takeP 3 rfl (r_subN rfl rfl (m := p.d) (hm := by omega)) ?_
        refine ha_takeP 4 rfl (r_idx rfl rfl) ?_
        refine ha_take 5 rfl (r_nthr rfl (out := (rootP n p (keyOf kb)).cells) (B32.cells_length _) hat) ?_
        refine ha_take 6 rfl (r_loadr rfl) ?_
        refine ha_takeP 7 rfl (r_bool (r_ner rfl rfl) (decide_eq_true hr)) ?_
        refine ha_done (by kernel_rfl) ?_
        refine q_then ?_
        refine h_condT rfl ?_
        refine h_seq ?_
        refine h_reg ?_
        refine h_op (r_assign rfl) ?_
        refine h_op (r_assign rfl) ?_
        refine h_nil ?_
        refine q_then ?_
        refine h_ret ?_
        refine q_thenR ?_
        exact h_ret2 rfl rfl rfl fun w s => ⟨(), rfl, s.res (List.nil_sublist _) (by simp)⟩
end
end Go.Proofs.YtgfkbeipckbkiaaGreatDoor
/- U99 -/
namespace Go.Proofs.YtgfkbeipckbkiaaGreatDoor
set_option linter.unusedSimpArgs false
set_option linter.unusedVariables false
open Go.RowKit
theorem firstC_at {code : Nat → Int} {i : Nat} {e : Int} (hi : i < 6) (hz : ∀ j, j < i → code j = 0) (he : code i = e) (hne : e ≠ 0) : firstC code = some (i, e) := by
  subst he
  exact firstF_some code i hne 6 0 (Nat.zero_le _) (by omega) fun j _ h => hz j h
theorem firstC_no {code : Nat → Int} (hz : ∀ j, j < 6 → code j = 0) : firstC code = none := firstF_none code 6 0 fun j _ h => hz j (by omega)
theorem Short_s (c : Claim) : Spec Tryz.prog 33 [.agg c.cells.toArray].toArray [] [] (fun _ : Unit => .int .i64 (if c.key.n ≤ 100 ∧ c.value.n ≤ 70000 then 1 else 0)) (fun _ => []) := by
  obtain ⟨ks, vs, b⟩ := c
  refine spec_of Tryz.func33 rfl (n := 13) rfl rfl ?_
  intro W
  by_cases h1 : ks.n ≤ 100
  · by_cases h2 : vs.n ≤ 70000
    · rw [if_pos ⟨h1, h2⟩]
      refine h_seq ?_
      refine h_reg ?_
      refine h_opX (x_box rfl) fun g1 => ?_
      refine h_op (r_assign rfl) ?_
      refine h_nil ?_
      refine q_then ?_
      refine h_seq ?_
      refine h_seq ?_
      refine h_reg ?_
      refine h_op (r_field rfl) ?_
      refine h_op (r_loadc rfl) ?_
      refine h_op (r_len rfl) ?_
      refine h_op (r_bool (r_gtr rfl rfl) (decide_eq_false (show ¬ (100 : Int) < (ks.n : Int) by omega))) ?_
      refine h_op (r_move rfl) ?_
      refine h_op (r_field rfl) ?_
      refine h_op (r_loadc rfl) ?_
      refine h_op (r_len rfl) ?_
      refine h_op (r_bool (r_gtr rfl rfl) (decide_eq_false (show ¬ (70000 : Int) < (vs.n : Int) by omega))) ?_
      refine h_op (r_pick rfl rfl) ?_
      refine h_nil ?_
      refine q_then ?_
      refine h_condF rfl ?_
      refine h_skip ?_
      refine q_then ?_
      refine h_seq ?_
      refine h_reg ?_
      refine h_op (r_assign rfl) ?_
      refine h_nil ?_
      refine q_then ?_
      refine h_ret ?_
      exact h_ret1 rfl rfl fun w s => ⟨(), rfl, s.res (List.nil_sublist _) (by simp)⟩
    · rw [if_neg (fun h => h2 h.2)]
      refine h_seq ?_
      refine h_reg ?_
      refine h_opX (x_box rfl) fun g1 => ?_
      refine h_op (r_assign rfl) ?_
      refine h_nil ?_
      refine q_then ?_
      refine h_seq ?_
      refine h_seq ?_
      refine h_reg ?_
      refine h_op (r_field rfl) ?_
      refine h_op (r_loadc rfl) ?_
      refine h_op (r_len rfl) ?_
      refine h_op (r_bool (r_gtr rfl rfl) (decide_eq_false (show ¬ (100 : Int) < (ks.n : Int) by omega))) ?_
      refine h_op (r_move rfl) ?_
      refine h_op (r_field rfl) ?_
      refine h_op (r_loadc rfl) ?_
      refine h_op (r_len rfl) ?_
      refine h_op (r_bool (r_gtr rfl rfl) (decide_eq_true (show (70000 : Int) < (vs.n : Int) by omega))) ?_
      refine h_op (r_pick rfl rfl) ?_
      refine h_nil ?_
      refine q_then ?_
      refine h_condT rfl ?_
      refine h_seq ?_
      refine h_reg ?_
      refine h_op (r_assign rfl) ?_
      refine h_nil ?_
      refine q_then ?_
      refine h_ret ?_
      refine q_thenR ?_
      exact h_ret1 rfl rfl fun w s => ⟨(), rfl, s.res (List.nil_sublist _) (by simp)⟩
  · rw [if_neg (fun h => h1 h.1)]
    refine h_seq ?_
    refine h_reg ?_
    refine h_opX (x_box rfl) fun g1 => ?_
    refine h_op (r_assign rfl) ?_
    refine h_nil ?_
    refine q_then ?_
    refine h_seq ?_
    refine h_seq ?_
    refine h_reg ?_
    refine h_op (r_field rfl) ?_
    refine h_op (r_loadc rfl) ?_
    refine h_op (r_len rfl) ?_
    refine h_op (r_bool (r_gtr rfl rfl) (decide_eq_true (show (100 : Int) < (ks.n : Int) by omega))) ?_
    refine h_op (r_move rfl) ?_
    refine h_opOff ?_
    refine h_opOff ?_
    refine h_opOff ?_
    refine h_opOff ?_
    refine h_op (r_pick rfl rfl) ?_
    refine h_nil ?_
    refine q_then ?_
    refine h_condT rfl ?_
    refine h_seq ?_
    refine h_reg ?_
    refine h_op (r_assign rfl) ?_
    refine h_nil ?_
    refine q_then ?_
    refine h_ret ?_
    refine q_thenR ?_
    exact h_ret1 rfl rfl fun w s => ⟨(), rfl, s.res (List.nil_sublist _) (by simp)⟩
end Go.Proofs.YtgfkbeipckbkiaaGreatDoor
/- E24 -/
namespace Go.Proofs.YtgfkbeipckbkiaaGreatDoor
set_option linter.unusedSimpArgs false
set_option linter.unusedVariables false
open Go.RowKit
abbrev E18 : B32 := sumB 256 preE
abbrev p18 : DP := ⟨0, 0, zLeaf, zB32, []⟩
abbrev bb18 : List UInt8 := encC 0 0 zLeaf zB32 []
abbrev kb18 : List UInt8 := List.replicate 32 0
theorem E18_ne : E18 ≠ zB32 := by decide +kernel
theorem check18 : checkP (p18.pr none 0) = 0 := by kernel_rfl
theorem decB18 : decB bb18 = .ok p18 := by
  have h1 : 36 ≤ bb18.length := by decide
  have hE := decB_end (l := bb18) h1 rfl (by decide) (N := 0) (by decide) (by decide)
  have hD : dDP bb18 0 = p18 := by
    unfold dDP dLf
    have h2 : b32At bb18 4 = zB32 := Subtype.ext (by decide)
    rw [h2]
    rfl
  rw [hD, check18] at hE
  exact hE
theorem root18 (key : B32) : rootP 256 p18 key = E18 := congrArg (sumB 256) rfl
theorem keyOf_val (x : B32) : keyOf x.1 = x := by unfold keyOf; rw [dif_pos x.2]
theorem first18 (A B : Option Addr) (c c' : Nat) : firstC (vcode 256 ⟨A, 32, c⟩ ⟨⟨B, 32, c'⟩, ⟨none, 0, 0⟩, false⟩ E18.1 kb18 [] bb18) = none := by
  refine firstC_no fun j hj => ?_
  have h4 : ∀ j, j < 6 → 4 ≤ j → vcode 256 ⟨A, 32, c⟩ ⟨⟨B, 32, c'⟩, ⟨none, 0, 0⟩, false⟩ E18.1 kb18 [] bb18 j = 0 := fun j h1 h2 => by
    rcases (by omega : j = 4 ∨ j = 5) with rfl | rfl
    · unfold vcode
      rw [decB18]
      rfl
    · unfold vcode
      rw [decB18]
      show (if decide (rootP 256 p18 (keyOf kb18) = keyOf E18.1) then (0 : Int) else 13) = 0
      rw [root18, keyOf_val, if_pos (by simp)]
  rcases (by omega : j = 0 ∨ j = 1 ∨ j = 2 ∨ j = 3 ∨ 4 ≤ j) with rfl | rfl | rfl | rfl | h5
  · rfl
  · rfl
  · rfl
  · show codeD (decB bb18) = 0
    rw [decB18]; rfl
  · exact h4 j hj h5
theorem first18b (A : Option Addr) (c : Nat) (rb kb vb bb : List UInt8) : firstC (vcode 256 ⟨A, 31, c⟩ zClaim rb kb vb bb) = some (0, 4) := firstC_at (by decide) (fun j hj => absurd hj (Nat.not_lt_zero _)) rfl (by decide)
theorem acc18 (B : Option Addr) (c' : Nat) : accV 256 E18 ⟨⟨B, 32, c'⟩, ⟨none, 0, 0⟩, false⟩ kb18 [] zProof [] = true := by
  unfold accV
  rw [show dpOf zProof [] = p18 from rfl, root18, decide_eq_true (show claimE ⟨⟨B, 32, c'⟩, ⟨none, 0, 0⟩, false⟩ = 0 by unfold claimE; rw [if_pos rfl, if_neg (by simp)]), decide_eq_true (show checkP zProof = 0 from check18), decide_eq_true rfl]
  rfl
theorem acc18b (B : Option Addr) (c' : Nat) : accV 256 zB32 ⟨⟨B, 32, c'⟩, ⟨none, 0, 0⟩, false⟩ kb18 [] zProof [] = false := by
  unfold accV
  rw [show dpOf zProof [] = p18 from rfl, root18, decide_eq_false E18_ne]
  simp
end Go.Proofs.YtgfkbeipckbkiaaGreatDoor
/- U46 -/
namespace Go.Proofs.YtgfkbeipckbkiaaGreatDoor
set_option linter.unusedSimpArgs false
set_option linter.unusedVariables false
open Go.RowKit
/-- the deepest subtree beside the way is not empty -/
def LastOk (key : B32) (t : Tr) (D : Nat) : Prop := ∀ i, D = i + 1 → (sibK key t i).kind ≠ 0
theorem prf_depths {key : B32} {t : Tr} {D : Nat} (hD : D ≤ 256) : depths (dset (dsK key t D)) = dsK key t D :=
  dset_depths ((List.pairwise_lt_range).filter _) fun i hi => by have := dsK_lt hi; omega
theorem prf_ok (n : Nat) {key : B32} {t : Tr} {D : Nat} (hD : WayTo key t D) (hL : LastOk key t D) (A : Option Addr) (c : Nat) : checkP (prfK n key t D A c) = 0 := by
  have hle := hD.le
  have hdep := prf_depths (key := key) (t := t) hle
  have hk : (wayK key t D).kind = 0 ∨ (wayK key t D).kind = 1 := by
    have := hD.end_
    generalize wayK key t D = x at *
    cases x with
    | nil => exact .inl rfl
    | leaf k v => exact .inr rfl
    | node l r => exact (this rfl).elim
  refine checkP_ok ?_ ?_ ?_ ?_ ?_
  · show (decide (((wayK key t D).kind : Int) = 0) || decide (((wayK key t D).kind : Int) = 1)) = true
    rcases hk with h | h <;> rw [h] <;> rfl
  · show (decide (0 ≤ (D : Int)) && decide ((D : Int) ≤ 256)) = true
    simp; omega
  · show (decide (((wayK key t D).kind : Int) = 1) || decide (leafT n (wayK key t D) = zLeaf)) = true
    rcases hk with h | h
    · rw [leafT_ne n _ (by omega)]; simp
    · rw [h]; rfl
  · show decide (lastI (dset (dsK key t D)) 256 = (D : Int) - 1) = true
    refine decide_eq_true ?_
    rcases D with _ | i
    · rw [lastI_nil (by rw [hdep]; rfl)]; rfl
    · have h1 := dsK_yes (hL i rfl)
      rw [lastI_pos (by rw [hdep, h1]; simp), hdep, h1]
      simp
  · show decide (((depths (dset (dsK key t D))).length : Int) = ((dsK key t D).length : Int)) = true
    rw [hdep]; simp
theorem rsK_len (n : Nat) (key : B32) (t : Tr) (D : Nat) : (rsK n key t D).length = (dsK key t D).length := by unfold rsK; rw [List.length_map]
def kB (x : UInt8) : B32 := ⟨x :: List.replicate 31 0, rfl⟩
theorem slz_nil (h : Zh) : SlZ h ⟨none, 0, 0⟩ [] := ⟨rfl, Nat.le_refl _, fun _ => ⟨rfl, rfl⟩, RdZ.nil _ _⟩
theorem z7 : prfK 256 (kB 7) .nil 0 none 0 = zProof := by
  unfold prfK
  show (⟨0, 0, zLeaf, dset [], ⟨none, 0, 0⟩⟩ : Proof) = zProof
  rw [dset_nil]; rfl
end Go.Proofs.YtgfkbeipckbkiaaGreatDoor
/- U100 -/
namespace Go.Proofs.YtgfkbeipckbkiaaGreatDoor
set_option linter.unusedSimpArgs false
set_option linter.unusedVariables false
open Go.RowKit
theorem sl31 {z : Zh} {g : Nat} {x : B32} (hr : RdZ z (some ⟨g, 0, none⟩) x.cells) : SlZ z ⟨some ⟨g, 0, none⟩, 31, 32⟩ (x.1.take 31) := by
  refine ⟨by rw [List.length_take, x.2]; rfl, Nat.le_succ 31, (fun h => by cases h), ⟨fun j v hv => hr.at_ j v ?_⟩⟩
  have e : x.cells = bc (x.1.take 31) ++ bc (x.1.drop 31) := by rw [← bc_app, List.take_append_drop]; rfl
  rw [e, List.getElem?_append_left (List.getElem?_eq_some_iff.1 hv).1]
  exact hv
theorem sl32 {z : Zh} {g : Nat} {x : B32} (hr : RdZ z (some ⟨g, 0, none⟩) x.cells) : SlZ z ⟨some ⟨g, 0, none⟩, 32, 32⟩ x.1 := ⟨x.2.symm, Nat.le_refl _, (fun h => by cases h), hr⟩
/-- what stood in the zone still does -/
theorem zb {A : List Fa} {W : World} {z z' : Zh} (hl : LeZ z z') {C : Fa} {L M M' : List Fa} [tz : TakeZ L z' M] [tc : Take [C] M M'] : ∀ w, Sx A W w L → Sx A W w [.zone false z, C] := fun w s => by
  have s1 := s.perm tz.perm
  have s2 : Sx A W w (.zone true z' :: ([C] ++ M')) := s1.perm (tc.perm.cons _)
  have s3 : Sx A W w [.zone true z', C] := s2.sub (List.Sublist.cons_cons _ (List.Sublist.cons_cons _ (List.nil_sublist _)))
  have hz := s3.ok (.zone true z') (List.mem_cons_self ..)
  have hC := s3.sub (List.sublist_cons_self _ _)
  refine hC.cons (fun k o ho => hz k o (hl.le k o ho)) (fun g hg hw k hk1 hk2 => ?_) (fun h => by cases h)
  obtain ⟨h1, h2⟩ := List.pairwise_cons.1 s3.sep
  obtain ⟨o, ho⟩ := hk1
  exact h1 g hg (by rw [Bool.or_eq_true]; exact .inl rfl) k ⟨o, hl.le k o ho⟩ hk2
theorem alive18_s (h : Zh) [hT : RdZ h (some ⟨2, 0, none⟩) hashT] [hE : RdZ h (some ⟨0, 0, none⟩) [rty 76]] : Spec Tryz.prog 34 ([] : List Value).toArray [] [.zone true h] (fun _ : {x : Zh // LeZ h x} => .bool true) (fun x => [.zone true x.1]) := by
  have hrn : RdZ h none (dgs []) := RdZ.nil _ _
  have hEn := cEncode_s zProof 0 0 check18 rfl rfl (.inl rfl) [] rfl
  refine spec_of Tryz.func34 rfl (n := 92) rfl rfl ?_
  intro W
  refine h_seq ?_
  refine h_reg ?_
  refine h_op (r_assign rfl) ?_
  refine h_nil ?_
  refine q_then ?_
  refine h_seq ?_
  refine h_reg ?_
  refine h_call ((Hash_s 256 (by decide)).comes) rfl rfl rfl fun ⟨gh, gc⟩ => ?_
  dsimp only
  refine h_op (r_assign rfl) ?_
  refine h_nil ?_
  refine q_then ?_
  refine h_seq ?_
  refine h_seq ?_
  refine h_reg ?_
  refine h_op (r_move rfl) ?_
  refine h_op (r_nilR rfl rfl) ?_
  refine h_nil ?_
  refine q_then ?_
  refine h_condF rfl ?_
  refine h_skip ?_
  refine q_then ?_
  refine h_seq ?_
  refine h_reg ?_
  refine h_call ((rEmpty_s 256 (by decide)).comes) rfl rfl rfl fun _ => ?_
  refine h_opX (x_alloc) fun g2 => ?_
  refine h_opS (s_storer rfl rfl) ?_
  refine h_nil ?_
  refine q_then ?_
  refine h_seq ?_
  refine h_reg ?_
  refine h_op (r_build rfl) ?_
  refine h_call ((hEn.comes (hr := inferInstanceAs (Rds _ [.rd none (dgs [])])))) rfl rfl rfl fun ⟨A16, c16⟩ => ?_
  dsimp only
  refine h_op (r_move rfl) ?_
  refine h_op (r_extract rfl rfl) ?_
  refine h_op (r_extract rfl rfl) ?_
  refine h_op (r_assign rfl) ?_
  refine h_op (r_assign rfl) ?_
  refine h_nil ?_
  refine q_then ?_
  refine h_seq ?_
  refine h_reg ?_
  refine h_opX (x_makeB rfl rfl) fun g19 => ?_
  refine h_op (r_build rfl) ?_
  refine h_opX (x_alloc) fun g5 => ?_
  refine h_opS (s_storer rfl rfl) ?_
  refine h_nil ?_
  refine q_then ?_
  refine h_seq ?_
  change H _ _ _ _ _ (.blk g5 (Claim.cells ⟨⟨some ⟨g19, 0, none⟩, 32, 32⟩, ⟨none, 0, 0⟩, false⟩) _ :: .own (.slice (some ⟨g19, 0, none⟩) 32 32) 32 _ 1 (bc kb18) :: .own (.slice A16 36 c16) 36 _ 1 (bc bb18) :: .blk g2 E18.cells _ :: _) _
  refine h_freeze g2 (cs := E18.cells) (T := 41) fun z1 hz1 hr1 => ?_
  refine h_freezeO (.slice A16 36 c16) fun z2 B2 c2 e2 hle2 hlen2 hnil2 hz2 hr2 => ?_
  injection e2 with e2 _ e2'
  subst e2 e2'
  refine h_freezeO (.slice (some ⟨g19, 0, none⟩) 32 32) fun z3 B3 c3 e3 hle3 hlen3 hnil3 hz3 hr3 => ?_
  injection e3 with e3 _ e3'
  subst e3 e3'
  have hT3 : RdZ z3 (some ⟨2, 0, none⟩) hashT := ((hT.mono hz1).mono hz2).mono hz3
  have hE3 : RdZ z3 (some ⟨0, 0, none⟩) [rty 76] := ((hE.mono hz1).mono hz2).mono hz3
  have hr13 : RdZ z3 (some ⟨g2, 0, none⟩) E18.cells := (hr1.mono hz2).mono hz3
  have sr31 := sl31 hr13
  have sr32 := sl32 hr13
  have sb : SlZ z3 ⟨A16, 36, c16⟩ bb18 := ⟨rfl, hle2, hnil2, hr2.mono hz3⟩
  have sk : SlZ z3 ⟨some ⟨g19, 0, none⟩, 32, 32⟩ kb18 := ⟨rfl, Nat.le_refl _, (fun h => by cases h), hr3⟩
  have s0 : ∀ z, SlZ z ⟨none, 0, 0⟩ [] := slz_nil
  have hV1 := fun (z : Zh) (_ : RdZ z (some ⟨2, 0, none⟩) hashT) (_ : SlZ z ⟨some ⟨g2, 0, none⟩, 31, 32⟩ (E18.1.take 31)) k hk => Verify_s 256 (by decide) z gh gc k hk ⟨some ⟨g2, 0, none⟩, 31, 32⟩ zClaim ⟨none, 0, 0⟩ (E18.1.take 31) [] [] [] (hK := s0 z) (hV := s0 z) (hB := s0 z) (by decide) (by decide)
  have hC1 := fun (z : Zh) (_ : RdZ z (some ⟨2, 0, none⟩) hashT) (_ : RdZ z (some ⟨0, 0, none⟩) [rty 76]) (_ : SlZ z ⟨some ⟨g2, 0, none⟩, 31, 32⟩ (E18.1.take 31)) k hk => vCheck_s 256 (by decide) z gh gc k hk ⟨some ⟨g2, 0, none⟩, 31, 32⟩ zClaim ⟨none, 0, 0⟩ (E18.1.take 31) [] [] [] (hK := s0 z) (hV := s0 z) (hB := s0 z) (by decide) (by decide)
  have hV2 := fun (z : Zh) (_ : RdZ z (some ⟨2, 0, none⟩) hashT) (_ : SlZ z ⟨some ⟨g2, 0, none⟩, 32, 32⟩ E18.1) (hK : SlZ z ⟨some ⟨g19, 0, none⟩, 32, 32⟩ kb18) (_ : SlZ z ⟨A16, 36, c16⟩ bb18) k hk => Verify_s 256 (by decide) z gh gc k hk ⟨some ⟨g2, 0, none⟩, 32, 32⟩ ⟨⟨some ⟨g19, 0, none⟩, 32, 32⟩, ⟨none, 0, 0⟩, false⟩ ⟨A16, 36, c16⟩ E18.1 kb18 [] bb18 (hK := hK) (hV := s0 z) (by decide) (by decide)
  have hC2 := fun (z : Zh) (_ : RdZ z (some ⟨2, 0, none⟩) hashT) (_ : RdZ z (some ⟨0, 0, none⟩) [rty 76]) (_ : SlZ z ⟨some ⟨g2, 0, none⟩, 32, 32⟩ E18.1) (hK : SlZ z ⟨some ⟨g19, 0, none⟩, 32, 32⟩ kb18) (_ : SlZ z ⟨A16, 36, c16⟩ bb18) k hk => vCheck_s 256 (by decide) z gh gc k hk ⟨some ⟨g2, 0, none⟩, 32, 32⟩ ⟨⟨some ⟨g19, 0, none⟩, 32, 32⟩, ⟨none, 0, 0⟩, false⟩ ⟨A16, 36, c16⟩ E18.1 kb18 [] bb18 (hK := hK) (hV := s0 z) (by decide) (by decide)
  have hA1 := fun (z : Zh) (_ : RdZ z (some ⟨2, 0, none⟩) hashT) (hK : SlZ z ⟨some ⟨g19, 0, none⟩, 32, 32⟩ kb18) k hk root => Accepts_s 256 (by decide) z gh gc k hk root ⟨⟨some ⟨g19, 0, none⟩, 32, 32⟩, ⟨none, 0, 0⟩, false⟩ kb18 [] (hK := hK) (hV := s0 z) (by decide) zProof [] rfl (hS := RdZ.nil _ _)
  have hCl := Claim_s zClaim
  rw [show claimE zClaim = 2 from rfl] at hCl
  simp only [first18, first18b, errV, errN, errE] at hV1 hV2 hC1 hC2
  have hA1t := fun z a b k hk => hA1 z a b k hk E18
  have hA1f := fun z a b k hk => hA1 z a b k hk zB32
  simp only [acc18] at hA1t
  simp only [acc18b] at hA1f
  refine h_reg ?_
  refine h_op (r_move rfl) ?_
  refine h_op (r_slAH rfl rfl) ?_
  refine h_op (r_build rfl) ?_
  refine h_call ((hV1 z3 hT3 sr31 0 (by decide)).comes) rfl rfl rfl fun ⟨⟨g24, z4, k4⟩, hz4, hk4⟩ => ?_
  dsimp only at hz4 hk4 ⊢
  have hT4 : RdZ z4 (some ⟨2, 0, none⟩) hashT := hT3.mono hz4
  have hE4 : RdZ z4 (some ⟨0, 0, none⟩) [rty 76] := hE3.mono hz4
  have hr14 : RdZ z4 (some ⟨g2, 0, none⟩) E18.cells := hr13.mono hz4
  have sr31' := sl31 hr14
  have sr32' := sl32 hr14
  have sb' : SlZ z4 ⟨A16, 36, c16⟩ bb18 := sb.mono hz4
  have sk' : SlZ z4 ⟨some ⟨g19, 0, none⟩, 32, 32⟩ kb18 := sk.mono hz4
  refine h_op (r_assign rfl) ?_
  refine h_nil ?_
  refine q_then ?_
  refine h_seq ?_
  refine h_reg ?_
  refine h_op (r_move rfl) ?_
  refine h_call ((First_s g24 verifyB ((0 : Nat) : Int) 4).comes) rfl rfl rfl fun _ => ?_
  refine h_op (r_move rfl) ?_
  refine h_op (r_extract rfl rfl) ?_
  refine h_op (r_extract rfl rfl) ?_
  refine h_op (r_extract rfl rfl) ?_
  refine h_op (r_assign rfl) ?_
  refine h_op (r_assign rfl) ?_
  refine h_op (r_assign rfl) ?_
  refine h_nil ?_
  refine q_then ?_
  refine h_seq ?_
  refine ha_start [.zone false z4, .blk g5 (Claim.cells ⟨⟨some ⟨g19, 0, none⟩, 32, 32⟩, ⟨none, 0, 0⟩, false⟩) 70] [] mixed (zb (LeZ.refl z4)) ?_
  refine ha_takeP 0 rfl (r_move rfl) ?_
  refine ha_takeP 1 rfl (r_bool (r_eql rfl rfl) rfl) ?_
  refine ha_takeP 2 rfl (r_move rfl) ?_
  refine ha_takeP 3 rfl (r_move rfl) ?_
  refine ha_takeP 4 rfl (r_slAH rfl rfl) ?_
  refine ha_takeP 5 rfl (r_build rfl) ?_
  refine ha_one 6 ?_
  refine ho_C 6 rfl ((hC1 z4 hT4 hE4 sr31' k4 (by omega)).comes) rfl rfl rfl (fun xx => zb xx.2.1) fun ⟨⟨z5, k5⟩, hz5, hk5⟩ => ?_
  refine ha_takeP 7 rfl (r_bool (r_eql rfl rfl) rfl) ?_
  refine ha_takeP 8 rfl (r_pick rfl rfl) ?_
  refine ha_takeP 9 rfl (r_move rfl) ?_
  refine ha_takeP 10 rfl (r_move rfl) ?_
  refine ha_one 11 ?_
  refine ho_C 11 rfl ((Code_s g24 verifyB ((0 : Nat) : Int) 4).comes) rfl rfl rfl (fun xx => zb hz5) fun _ => ?_
  refine ha_takeP 12 rfl (r_bool (r_eql rfl rfl) rfl) ?_
  refine ha_takeP 13 rfl (r_pick rfl rfl) ?_
  refine ha_takeP 14 rfl (r_move rfl) ?_
  refine ha_takeP 15 rfl (r_move rfl) ?_
  refine ha_takeP 16 rfl (r_bool (r_eqS rfl rfl) (show (verifyB.toList == verifyB.toList) = true from beq_self_eq_true _)) ?_
  refine ha_takeP 17 rfl (r_pick rfl rfl) ?_
  refine ha_takeP 18 rfl (r_move rfl) ?_
  refine ha_takeP 19 rfl (r_move rfl) ?_
  refine ha_takeP 20 rfl (r_bool (r_eql rfl rfl) rfl) ?_
  refine ha_takeP 21 rfl (r_pick rfl rfl) ?_
  refine ha_takeP 22 rfl (r_move rfl) ?_
  refine ha_takeP 23 rfl (r_move rfl) ?_
  refine ha_takeP 24 rfl (r_pick rfl rfl) ?_
  refine ha_takeP 25 rfl (r_move rfl) ?_
  refine ha_takeP 26 rfl (r_move rfl) ?_
  refine ha_takeP 27 rfl (r_slA rfl) ?_
  refine ha_take 28 rfl (r_loadr rfl) ?_
  refine ha_takeP 29 rfl (r_move rfl) ?_
  refine ha_one 30 ?_
  refine ho_C 30 rfl ((hC2 z5 (hT4.mono hz5) (hE4.mono hz5) (sr32'.mono hz5) (sk'.mono hz5) (sb'.mono hz5) k5 (by have h5 : k5 ≤ k4 + 259 := hk5; omega)).comes) rfl rfl rfl (fun xx => zb (LeZ.trans hz5 xx.2.1)) fun ⟨⟨z6, k6⟩, hz6, hk6⟩ => ?_
  refine ha_takeP 31 rfl (r_bool (r_eql rfl rfl) rfl) ?_
  refine ha_takeP 32 rfl (r_pick rfl rfl) ?_
  refine ha_takeP 33 rfl (r_move rfl) ?_
  refine ha_takeP 34 rfl (r_move rfl) ?_
  refine ha_takeP 35 rfl (r_slA rfl) ?_
  refine ha_take 36 rfl (r_loadr rfl) ?_
  refine ha_takeP 37 rfl (r_move rfl) ?_
  refine ha_one 38 ?_
  refine ho_C 38 rfl ((hV2 z6 ((hT4.mono hz5).mono hz6) ((sr32'.mono hz5).mono hz6) ((sk'.mono hz5).mono hz6) ((sb'.mono hz5).mono hz6) k6 (by have h5 : k5 ≤ k4 + 259 := hk5; have h6 : k6 ≤ k5 + 259 := hk6; omega)).comes) rfl rfl rfl (fun xx => zb (LeZ.trans (LeZ.trans hz5 hz6) xx.2.1)) fun ⟨⟨g69, z7, k7⟩, hz7, hk7⟩ => ?_
  refine ha_takeP 39 rfl (r_nilnil rfl) ?_
  refine ha_takeP 40 rfl (r_pick rfl rfl) ?_
  refine ha_takeP 41 rfl (r_move rfl) ?_
  refine ha_takeP 42 rfl (r_build rfl) ?_
  refine ha_one 43 ?_
  refine ho_C 43 rfl (hCl.comes) rfl rfl rfl (fun xx => zb (LeZ.trans (LeZ.trans hz5 hz6) hz7)) fun _ => ?_
  refine ha_takeP 44 rfl (r_bool (r_eql rfl rfl) rfl) ?_
  refine ha_takeP 45 rfl (r_pick rfl rfl) ?_
  refine ha_takeP 46 rfl (r_move rfl) ?_
  refine ha_takeP 47 rfl (r_move rfl) ?_
  refine ha_take 48 rfl (r_loadr rfl) ?_
  refine ha_take 49 rfl (r_loadr rfl) ?_
  refine ha_takeP 50 rfl (r_build rfl) ?_
  refine ha_one 51 ?_
  refine ho_C 51 rfl ((hA1t z7 (((hT4.mono hz5).mono hz6).mono hz7) (((sk'.mono hz5).mono hz6).mono hz7) k7 (by have h5 : k5 ≤ k4 + 259 := hk5; have h6 : k6 ≤ k5 + 259 := hk6; have h7 : k7 ≤ k6 + 259 := hk7; omega)).comes) rfl rfl rfl (fun xx => zb (LeZ.trans (LeZ.trans (LeZ.trans hz5 hz6) hz7) xx.2.1)) fun ⟨⟨z8, k8⟩, hz8, hk8⟩ => ?_
  refine ha_takeP 52 rfl (r_pick rfl rfl) ?_
  refine ha_takeP 53 rfl (r_move rfl) ?_
  refine ha_takeP 54 rfl (r_move rfl) ?_
  refine ha_takeP 55 rfl (r_build rfl) ?_
  refine ha_take 56 rfl (r_loadr rfl) ?_
  refine ha_takeP 57 rfl (r_build rfl) ?_
  refine ha_one 58 ?_
  refine ho_C 58 rfl ((hA1f z8 ((((hT4.mono hz5).mono hz6).mono hz7).mono hz8) ((((sk'.mono hz5).mono hz6).mono hz7).mono hz8) k8 (by have h5 : k5 ≤ k4 + 259 := hk5; have h6 : k6 ≤ k5 + 259 := hk6; have h7 : k7 ≤ k6 + 259 := hk7; have h8 : k8 ≤ k7 + 259 := hk8; omega)).comes) rfl rfl rfl (fun xx => zb (LeZ.trans (LeZ.trans (LeZ.trans (LeZ.trans hz5 hz6) hz7) hz8) xx.2.1)) fun ⟨⟨z9, k9⟩, hz9, hk9⟩ => ?_
  refine ha_takeP 59 rfl (r_not rfl) ?_
  refine ha_takeP 60 rfl (r_pick rfl rfl) ?_
  refine ha_takeP 61 rfl (r_assign rfl) ?_
  refine ha_done (by kernel_rfl) ?_
  refine q_then ?_
  refine h_ret ?_
  have hzz : LeZ h z9 := (((hz1.trans hz2).trans (hz3.trans hz4)).trans (LeZ.trans hz5 (LeZ.trans hz6 hz7))).trans (LeZ.trans hz8 hz9)
  exact h_ret1 rfl rfl fun w s => ⟨⟨z9, hzz⟩, rfl, (same (L' := [.zone true z9]) w s).res (List.Sublist.refl _) (by simp [Fa.wr])⟩
end Go.Proofs.YtgfkbeipckbkiaaGreatDoor
/- U10c -/
namespace Go.Proofs.YtgfkbeipckbkiaaGreatDoor
set_option linter.unusedSimpArgs false
set_option linter.unusedVariables false
open Go.RowKit
end Go.Proofs.YtgfkbeipckbkiaaGreatDoor
/- U101 -/
namespace Go.Proofs.YtgfkbeipckbkiaaGreatDoor
set_option linter.unusedSimpArgs false
set_option linter.unusedVariables false
open Go.RowKit
end Go.Proofs.YtgfkbeipckbkiaaGreatDoor
/- U102 -/
namespace Go.Proofs.YtgfkbeipckbkiaaGreatDoor
set_option linter.unusedSimpArgs false
set_option linter.unusedVariables false
open Go.RowKit
instance : TBool Tryz.prog 4 := ⟨Tryz.underlying4⟩
structure RtP where
  root : B32
  p : Proof
def RtP.cells (x : RtP) : List Value := x.root.cells ++ (x.p.cells ++ [])
theorem RtP.cells_length (x : RtP) : x.cells.length = 131 := by simp [RtP.cells, B32.cells_length, Proof.cells_length]
theorem RtP.cells_one (x : RtP) : ∀ v ∈ x.cells, v.oneCell' = true := by
  intro v hv
  simp only [RtP.cells, List.mem_append, List.not_mem_nil, or_false] at hv
  rcases hv with h | h
  · exact B32.cells_one _ v h
  · exact Proof.cells_one _ v h
instance (x : RtP) : Row x.cells 131 := ⟨RtP.cells_length x, RtP.cells_one x⟩
instance (x : RtP) : RowAt x.cells 0 131 x.cells := .whole (RtP.cells_length x)
instance (x : RtP) : RowAt x.cells 0 32 x.root.cells := .mk' (pre := []) (post := x.p.cells) (by simp [RtP.cells]) rfl (B32.cells_length _)
instance (x : RtP) : RowAt x.cells 32 99 x.p.cells := .mk' (pre := x.root.cells) (post := []) (by simp [RtP.cells]) (B32.cells_length _) (Proof.cells_length _)
instance (x : RtP) : CellAt x.cells 130 (.slice x.p.sibs.A x.p.sibs.n x.p.sibs.c) := .mk' (pre := x.root.cells ++ ([.int .i64 x.p.kind] ++ ([.int .i64 x.p.depth] ++ (x.p.leaf.cells ++ x.p.bitmap.cells)))) (post := []) (by simp [RtP.cells, Proof.cells]) (by simp [B32.cells_length, Leaf.cells_length])
section
variable (h : Zh) [hT : RdZ h (some ⟨2, 0, none⟩) hashT] [hE : RdZ h (some ⟨0, 0, none⟩) [rty 76]]
theorem VerifyAccepts_s (i : Int) (c : Claim) (kb vb : List UInt8) [hK : SlZ h c.key kb] [hV : SlZ h c.value vb] (root : B32) (p : Proof) (ss : List B32) (hs : p.sibs.n = ss.length) [hS : RdZ h p.sibs.A (dgs ss)] : Spec Tryz.prog 8 [.int .i64 i, .agg c.cells.toArray, .agg (RtP.cells ⟨root, p⟩).toArray].toArray [] [.zone true h] (fun _ : {x : Zh // LeZ h x} => .bool true) (fun x => [.zone true x.1]) := by
  have hSh := Short_s c
  have hvn := hV.len
  have hkn := hK.len
  have hCl := rClaim18_s c
  have hCk := rCheck_s p
  refine spec_of Tryz.func8 rfl (n := 70) rfl rfl ?_
  intro W
  refine h_seq ?_
  refine h_reg ?_
  refine h_opX (x_box rfl) fun g4 => ?_
  refine h_opX (x_box rfl) fun g5 => ?_
  refine h_op (r_assign rfl) ?_
  refine h_nil ?_
  refine q_then ?_
  refine h_seq ?_
  refine h_seq ?_
  refine h_reg ?_
  refine h_op (r_move rfl) ?_
  by_cases hi : 0 ≤ i ∧ i ≤ 256
  · obtain ⟨n, rfl⟩ : ∃ n : Nat, i = (n : Int) := ⟨i.toNat, by omega⟩
    have hn : n ≤ 256 := by omega
    refine h_call ((Right_yes n hn).comes) rfl rfl rfl fun _ => ?_
    by_cases hsh : c.key.n ≤ 100 ∧ c.value.n ≤ 70000
    · rw [if_pos hsh] at hSh
      refine h_op (r_not rfl) ?_
      refine h_op (r_move rfl) ?_
      refine h_op (r_loadr rfl) ?_
      refine h_call (hSh.comes) rfl rfl rfl fun _ => ?_
      by_cases hr : p.sibs.n ≤ 300
      · refine h_op (r_bool (r_eql rfl rfl) rfl) ?_
        refine h_op (r_pick rfl rfl) ?_
        refine h_op (r_move rfl) ?_
        refine h_op (r_field rfl) ?_
        refine h_op (r_field rfl) ?_
        refine h_op (r_loadc rfl) ?_
        refine h_op (r_len rfl) ?_
        refine h_op (r_bool (r_gtr rfl rfl) (decide_eq_false (show ¬ (300 : Int) < (p.sibs.n : Int) by omega))) ?_
        refine h_op (r_pick rfl rfl) ?_
        refine h_nil ?_
        refine q_then ?_
        refine h_condF rfl ?_
        refine h_skip ?_
        refine q_then ?_
        refine h_seq ?_
        refine h_reg ?_
        refine h_op (r_move rfl) ?_
        refine h_call ((Hash_s n hn).comes) rfl rfl rfl fun ⟨gh, gc⟩ => ?_
        dsimp only
        refine h_op (r_assign rfl) ?_
        refine h_nil ?_
        refine q_then ?_
        refine h_seq ?_
        refine h_seq ?_
        refine h_reg ?_
        refine h_op (r_move rfl) ?_
        refine h_op (r_nilR rfl rfl) ?_
        refine h_nil ?_
        refine q_then ?_
        refine h_condF rfl ?_
        refine h_skip ?_
        refine q_then ?_
        refine h_seq ?_
        refine h_reg ?_
        refine h_op (r_assign rfl) ?_
        refine h_nil ?_
        refine q_then ?_
        refine h_seq ?_
        refine h_seq ?_
        refine h_reg ?_
        refine h_op (r_loadr rfl) ?_
        by_cases h1 : claimE c = 0
        · by_cases h2 : checkP p = 0
          · have hk32 : kb.length = 32 := by
              unfold claimE at h1
              split at h1
              · omega
              · cases h1
            have hpe := dpOf_pr hs h2
            have hck2 : checkP ((dpOf p ss).pr none 0) = 0 := by rw [checkP_sib _ none p.sibs.A 0 p.sibs.c, ← hpe]; exact h2
            have hLa := rLast18_s n hn h c kb vb (by omega) hk32 root (dpOf p ss) p.sibs.A p.sibs.c hck2 (hS := hS)
            rw [← hpe] at hLa
            have hsu : supP ((dpOf p ss).pr none 0) (keyOf kb) (valD n c.present vb) c.present = supP p (keyOf kb) (valD n c.present vb) c.present := by
              conv => rhs; rw [hpe]
              rfl
            have hw : decide ((lastSC n root c kb vb (dpOf p ss)).2 = 0) = accV n root c kb vb p ss := by
              unfold lastSC accV
              rw [hsu, decide_eq_true h1, decide_eq_true h2]
              by_cases hb : supP p (keyOf kb) (valD n c.present vb) c.present = true
              · rw [if_pos hb, hb]
                by_cases hq : rootP n (dpOf p ss) (keyOf kb) = root
                · rw [if_pos hq, decide_eq_true hq]; rfl
                · rw [if_neg hq, decide_eq_false hq]; rfl
              · rw [if_neg hb]
                have hb' : supP p (keyOf kb) (valD n c.present vb) c.present = false := by simpa using hb
                rw [hb']; rfl
            rw [h1] at hCl
            rw [h2] at hCk
            refine h_call (hCl.comes) rfl rfl rfl fun _ => ?_
            refine h_op (r_move rfl) ?_
            refine h_op (r_extract rfl rfl) ?_
            refine h_op (r_extract rfl rfl) ?_
            refine h_op (r_assign rfl) ?_
            refine h_op (r_assign rfl) ?_
            refine h_nil ?_
            refine q_then ?_
            refine h_seq ?_
            refine h_reg ?_
            refine h_op (r_move rfl) ?_
            refine h_op (r_eql rfl rfl) ?_
            refine h_op (r_move rfl) ?_
            refine h_op (r_field rfl) ?_
            refine h_op (r_loadr rfl) ?_
            refine h_call (hCk.comes) rfl rfl rfl fun _ => ?_
            refine h_op (r_bool (r_eql rfl rfl) rfl) ?_
            refine h_op (r_pick rfl rfl) ?_
            refine h_nil ?_
            refine q_then ?_
            refine h_condT rfl ?_
            refine h_seq ?_
            refine h_reg ?_
            refine h_op (r_move rfl) ?_
            refine h_op (r_field rfl) ?_
            refine h_op (r_loadr rfl) ?_
            refine h_op (r_loadr rfl) ?_
            refine h_op (r_field rfl) ?_
            refine h_op (r_loadr rfl) ?_
            refine h_call (hLa.comes) rfl rfl rfl fun _ => ?_
            refine h_op (r_move rfl) ?_
            refine h_op (r_extract rfl rfl) ?_
            refine h_op (r_extract rfl rfl) ?_
            refine h_op (r_assign rfl) ?_
            refine h_op (r_assign rfl) ?_
            refine h_nil ?_
            refine q_then ?_
            refine h_reg ?_
            refine h_op (r_move rfl) ?_
            refine h_op (r_bool (r_eql rfl rfl) hw) ?_
            refine h_op (r_assign rfl) ?_
            refine h_nil ?_
            refine q_then ?_
            refine h_seq ?_
            refine h_reg ?_
            refine h_call ((alive18_s h).comes) rfl rfl rfl fun ⟨z3, hz3⟩ => ?_
            dsimp only
            refine h_op (r_move rfl) ?_
            refine h_op (r_move rfl) ?_
            refine h_op (r_field rfl) ?_
            refine h_op (r_loadr rfl) ?_
            refine h_op (r_loadr rfl) ?_
            refine h_op (r_field rfl) ?_
            refine h_op (r_loadr rfl) ?_
            refine h_call ((Accepts_s n hn z3 gh gc 0 (by decide) root c kb vb (by omega) p ss hs (hT := hT.mono hz3) (hK := hK.mono hz3) (hV := hV.mono hz3) (hS := hS.mono hz3)).comes) rfl rfl rfl fun ⟨⟨z4, k4⟩, hz4, hk4⟩ => ?_
            dsimp only at hz4 hk4 ⊢
            refine h_op (r_move rfl) ?_
            refine h_op (r_bool (r_eqb rfl rfl) (beq_self_eq_true _)) ?_
            refine h_op (r_pick rfl rfl) ?_
            refine h_op (r_assign rfl) ?_
            refine h_nil ?_
            refine q_then ?_
            refine h_ret ?_
            exact h_ret1 rfl rfl fun w s => ⟨⟨z4, LeZ.trans hz3 hz4⟩, rfl, (same (L' := [.zone true z4]) w s).res (List.Sublist.refl _) (by simp [Fa.wr])⟩
          · have hw : (accV n root c kb vb p ss == false) = true := by
              unfold accV; rw [decide_eq_false h2]; simp
            rw [h1] at hCl
            refine h_call (hCl.comes) rfl rfl rfl fun _ => ?_
            refine h_op (r_move rfl) ?_
            refine h_op (r_extract rfl rfl) ?_
            refine h_op (r_extract rfl rfl) ?_
            refine h_op (r_assign rfl) ?_
            refine h_op (r_assign rfl) ?_
            refine h_nil ?_
            refine q_then ?_
            refine h_seq ?_
            refine h_reg ?_
            refine h_op (r_move rfl) ?_
            refine h_op (r_eql rfl rfl) ?_
            refine h_op (r_move rfl) ?_
            refine h_op (r_field rfl) ?_
            refine h_op (r_loadr rfl) ?_
            refine h_call (hCk.comes) rfl rfl rfl fun _ => ?_
            refine h_op (r_bool (r_eql rfl rfl) (decide_eq_false h2)) ?_
            refine h_op (r_pick rfl rfl) ?_
            refine h_nil ?_
            refine q_then ?_
            refine h_condF rfl ?_
            refine h_skip ?_
            refine q_then ?_
            refine h_seq ?_
            refine h_reg ?_
            refine h_call ((alive18_s h).comes) rfl rfl rfl fun ⟨z3, hz3⟩ => ?_
            dsimp only
            refine h_op (r_move rfl) ?_
            refine h_op (r_move rfl) ?_
            refine h_op (r_field rfl) ?_
            refine h_op (r_loadr rfl) ?_
            refine h_op (r_loadr rfl) ?_
            refine h_op (r_field rfl) ?_
            refine h_op (r_loadr rfl) ?_
            refine h_call ((Accepts_s n hn z3 gh gc 0 (by decide) root c kb vb (by omega) p ss hs (hT := hT.mono hz3) (hK := hK.mono hz3) (hV := hV.mono hz3) (hS := hS.mono hz3)).comes) rfl rfl rfl fun ⟨⟨z4, k4⟩, hz4, hk4⟩ => ?_
            dsimp only at hz4 hk4 ⊢
            refine h_op (r_move rfl) ?_
            refine h_op (r_bool (r_eqb rfl rfl) (hw)) ?_
            refine h_op (r_pick rfl rfl) ?_
            refine h_op (r_assign rfl) ?_
            refine h_nil ?_
            refine q_then ?_
            refine h_ret ?_
            exact h_ret1 rfl rfl fun w s => ⟨⟨z4, LeZ.trans hz3 hz4⟩, rfl, (same (L' := [.zone true z4]) w s).res (List.Sublist.refl _) (by simp [Fa.wr])⟩
        · have hw : (accV n root c kb vb p ss == false) = true := by
            unfold accV; rw [decide_eq_false h1]; simp
          refine h_call (hCl.comes) rfl rfl rfl fun _ => ?_
          refine h_op (r_move rfl) ?_
          refine h_op (r_extract rfl rfl) ?_
          refine h_op (r_extract rfl rfl) ?_
          refine h_op (r_assign rfl) ?_
          refine h_op (r_assign rfl) ?_
          refine h_nil ?_
          refine q_then ?_
          refine h_seq ?_
          refine h_reg ?_
          refine h_op (r_move rfl) ?_
          refine h_op (r_bool (r_eql rfl rfl) (decide_eq_false h1)) ?_
          refine h_op (r_move rfl) ?_
          refine h_opOff ?_
          refine h_opOff ?_
          refine h_opOff ?_
          refine h_opOff ?_
          refine h_op (r_pick rfl rfl) ?_
          refine h_nil ?_
          refine q_then ?_
          refine h_condF rfl ?_
          refine h_skip ?_
          refine q_then ?_
          refine h_seq ?_
          refine h_reg ?_
          refine h_call ((alive18_s h).comes) rfl rfl rfl fun ⟨z3, hz3⟩ => ?_
          dsimp only
          refine h_op (r_move rfl) ?_
          refine h_op (r_move rfl) ?_
          refine h_op (r_field rfl) ?_
          refine h_op (r_loadr rfl) ?_
          refine h_op (r_loadr rfl) ?_
          refine h_op (r_field rfl) ?_
          refine h_op (r_loadr rfl) ?_
          refine h_call ((Accepts_s n hn z3 gh gc 0 (by decide) root c kb vb (by omega) p ss hs (hT := hT.mono hz3) (hK := hK.mono hz3) (hV := hV.mono hz3) (hS := hS.mono hz3)).comes) rfl rfl rfl fun ⟨⟨z4, k4⟩, hz4, hk4⟩ => ?_
          dsimp only at hz4 hk4 ⊢
          refine h_op (r_move rfl) ?_
          refine h_op (r_bool (r_eqb rfl rfl) (hw)) ?_
          refine h_op (r_pick rfl rfl) ?_
          refine h_op (r_assign rfl) ?_
          refine h_nil ?_
          refine q_then ?_
          refine h_ret ?_
          exact h_ret1 rfl rfl fun w s => ⟨⟨z4, LeZ.trans hz3 hz4⟩, rfl, (same (L' := [.zone true z4]) w s).res (List.Sublist.refl _) (by simp [Fa.wr])⟩
      · refine h_op (r_bool (r_eql rfl rfl) rfl) ?_
        refine h_op (r_pick rfl rfl) ?_
        refine h_op (r_move rfl) ?_
        refine h_op (r_field rfl) ?_
        refine h_op (r_field rfl) ?_
        refine h_op (r_loadc rfl) ?_
        refine h_op (r_len rfl) ?_
        refine h_op (r_bool (r_gtr rfl rfl) (decide_eq_true (show (300 : Int) < (p.sibs.n : Int) by omega))) ?_
        refine h_op (r_pick rfl rfl) ?_
        refine h_nil ?_
        refine q_then ?_
        refine h_condT rfl ?_
        refine h_seq ?_
        refine h_reg ?_
        refine h_call ((alive18_s h).comes) rfl rfl rfl fun ⟨h1, hle1⟩ => ?_
        refine h_op (r_assign rfl) ?_
        refine h_nil ?_
        refine q_then ?_
        refine h_ret ?_
        refine q_thenR ?_
        exact h_ret1 rfl rfl fun w s => ⟨⟨h1, hle1⟩, rfl, (same (L' := [.zone true h1]) w s).res (List.Sublist.refl _) (by simp [Fa.wr])⟩
    · rw [if_neg hsh] at hSh
      refine h_op (r_not rfl) ?_
      refine h_op (r_move rfl) ?_
      refine h_op (r_loadr rfl) ?_
      refine h_call (hSh.comes) rfl rfl rfl fun _ => ?_
      refine h_op (r_bool (r_eql rfl rfl) rfl) ?_
      refine h_op (r_pick rfl rfl) ?_
      refine h_op (r_move rfl) ?_
      refine h_opOff ?_
      refine h_opOff ?_
      refine h_opOff ?_
      refine h_opOff ?_
      refine h_opOff ?_
      refine h_op (r_pick rfl rfl) ?_
      refine h_nil ?_
      refine q_then ?_
      refine h_condT rfl ?_
      refine h_seq ?_
      refine h_reg ?_
      refine h_call ((alive18_s h).comes) rfl rfl rfl fun ⟨h1, hle1⟩ => ?_
      refine h_op (r_assign rfl) ?_
      refine h_nil ?_
      refine q_then ?_
      refine h_ret ?_
      refine q_thenR ?_
      exact h_ret1 rfl rfl fun w s => ⟨⟨h1, hle1⟩, rfl, (same (L' := [.zone true h1]) w s).res (List.Sublist.refl _) (by simp [Fa.wr])⟩
  · refine h_call ((Right_no i hi).comes) rfl rfl rfl fun _ => ?_
    refine h_op (r_not rfl) ?_
    refine h_op (r_move rfl) ?_
    refine h_opOff ?_
    refine h_opOff ?_
    refine h_opOff ?_
    refine h_op (r_pick rfl rfl) ?_
    refine h_op (r_move rfl) ?_
    refine h_opOff ?_
    refine h_opOff ?_
    refine h_opOff ?_
    refine h_opOff ?_
    refine h_opOff ?_
    refine h_op (r_pick rfl rfl) ?_
    refine h_nil ?_
    refine q_then ?_
    refine h_condT rfl ?_
    refine h_seq ?_
    refine h_reg ?_
    refine h_call ((alive18_s h).comes) rfl rfl rfl fun ⟨h1, hle1⟩ => ?_
    refine h_op (r_assign rfl) ?_
    refine h_nil ?_
    refine q_then ?_
    refine h_ret ?_
    refine q_thenR ?_
    exact h_ret1 rfl rfl fun w s => ⟨⟨h1, hle1⟩, rfl, (same (L' := [.zone true h1]) w s).res (List.Sublist.refl _) (by simp [Fa.wr])⟩
end
end Go.Proofs.YtgfkbeipckbkiaaGreatDoor
