/- The reference's steps; rows of digests that are the same; The reference's check; law16.alive: it is true; law16.FoldEnds: it is true; law16.FoldWorks: it is true; law16.FoldSteps: it is true (joined texts: U25 U26 U27 U28 U29 U30) -/
import Derived.Test.YtfjlpndohnianaaDoorZ10
set_option linter.all false
/- U25 -/
namespace Go.Proofs.YtfjlpndohnianaaDoor
set_option linter.unusedSimpArgs false
set_option linter.unusedVariables false
open Go.RowKit
instance (priority := 5) (N M : List Fa) : App N M (N ++ M) := ⟨rfl⟩
theorem rd1_own {L : List Fa} {A : Option Addr} {n c e size : Nat} {cs : List Value} (h : Fa.own (.slice A n c) n e size cs ∈ L) : Rd1 L (.rd A cs) := ⟨fun hw => ⟨rfl, own_rd' (hw.ok _ h), fun k hk => ⟨_, h, by obtain ⟨_, o, rfl⟩ := hk; rfl⟩⟩⟩
theorem rds_one {L : List Fa} {r : Fa} (h : Rd1 L r) : Rds L [r] := inferInstance
theorem SegsOk.at {xs : List Seg} {ls : List (List UInt8)} (h : SegsOk xs ls) {i : Nat} {l : List UInt8} (hl : ls[i]? = some l) : ∃ g c, xs[i]? = some (some ⟨g, 0, none⟩, c, l) := by
  rw [← h.1, List.getElem?_map] at hl
  obtain ⟨x, hx, e⟩ := Option.map_eq_some_iff.1 hl
  obtain ⟨g, hg⟩ := h.2 x (List.mem_of_getElem? hx)
  obtain ⟨A, c, l'⟩ := x
  simp only at e hg
  subst e hg
  exact ⟨g, c, hx⟩
theorem preLs_at (n : Nat) (key : B32) (ds : List B32) (pre : List UInt8) (d k : Nat) (h : k ≤ d) : (preLs n key ds pre (d + 1)).reverse[d - k]? = some (wayP n key ds pre k) := by
  rw [List.getElem?_reverse (by rw [preLs_len]; omega), preLs_len]
  unfold preLs
  rw [List.getElem?_map, List.getElem?_range (by omega), show d + 1 - 1 - (d - k) = k by omega]
  rfl
theorem rSteps_s (p : Proof) (hc : checkP p = 0) (ss : List B32) (hs : p.sibs.n = ss.length) (key : B32) (n : Nat) (hn : n ≤ 256) (d : Nat) (hd : p.depth = (d : Int)) : Spec Tryd.prog 23 [.int .i64 (n : Int), .agg p.cells.toArray, .agg key.cells.toArray].toArray [.rd p.sibs.A (dgs ss)] [] (fun u : Nat × Nat => .slice (some ⟨u.1, 0, none⟩) (d + 1) u.2) (fun u => [.own (.slice (some ⟨u.1, 0, none⟩) (d + 1) u.2) (d + 1) 24 32 (dgs (stepL n key (expL (sumB n preE) p.bitmap ss d) (endP p) (d + 1)))]) := by
  have hd2 := ok_depth hc
  have hP := rPre_s p hc ss hs key n hn d hd
  have hwl := wayP_len n key (expL (sumB n preE) p.bitmap ss d) (endP p) (endP_len p)
  generalize expL (sumB n preE) p.bitmap ss d = ds at *
  refine spec_of Tryd.func23 rfl (n := 31) rfl rfl ?_
  intro W
  refine h_seq ?_
  refine h_reg ?_
  refine h_opX (x_box rfl) fun g4 => ?_
  refine h_opX (x_box rfl) fun g5 => ?_
  refine h_op (r_assign rfl) ?_
  refine h_nil ?_
  refine q_then ?_
  refine h_seq ?_
  refine h_reg ?_
  refine h_op (r_move rfl) ?_
  refine h_op (r_loadr rfl) ?_
  refine h_op (r_loadr rfl) ?_
  refine h_call (hP.comes) rfl rfl rfl fun ⟨⟨g13, c13, xs⟩, hxs⟩ => ?_
  dsimp only at hxs ⊢
  refine h_op (r_assign rfl) ?_
  refine h_nil ?_
  refine q_then ?_
  refine h_seq ?_
  refine h_reg ?_
  refine h_op (r_assign rfl) ?_
  refine h_nil ?_
  refine q_then ?_
  refine h_seq ?_
  refine h_seq ?_
  refine h_reg ?_
  refine h_op (r_move rfl) ?_
  refine h_op (r_len rfl) ?_
  refine h_op (r_sub rfl rfl) ?_
  refine h_op (r_assign rfl) ?_
  refine h_nil ?_
  refine q_then ?_
  refine h_block ?_
  refine h_nil_own 24 32 (xs := dgs (stepL n key ds (endP p) 0)) rfl ?_
  have hxl : xs.length = d + 1 := by rw [hxs.len, List.length_reverse, preLs_len]
  refine h_loop (fun (s : Nat × Option Addr × Nat) => s.1 ≤ d + 1) (fun (s : Nat × Option Addr × Nat) => [(9, .int .i64 ((d : Int) - (s.1 : Int))), (8, .slice s.2.1 s.1 s.2.2), (7, .slice (some ⟨g13, 0, none⟩) (d + 1) c13), (0, .int .i64 (n : Int))]) (fun (s : Nat × Option Addr × Nat) => .own (.slice s.2.1 s.1 s.2.2) s.1 24 32 (dgs (stepL n key ds (endP p) s.1)) :: .own (.slice (some ⟨g13, 0, none⟩) (d + 1) c13) (d + 1) 36 1 (svs xs) :: ownsOf xs) (fun (s : Nat × Option Addr × Nat) => d + 1 - s.1) (0, none, 0) ((show 0 ≤ d + 1 by omega)) ⟨aI rfl (by dsimp only; omega), rfl, rfl, rfl, trivial⟩ (fun w s => (same w s)) ?_
  rintro ⟨k, B, c⟩ hk
  dsimp only at hk ⊢
  have hst := stepL_succ n key ds (endP p) k
  refine h_seq ?_
  refine h_seq ?_
  refine h_reg ?_
  refine h_op (r_move rfl) ?_
  refine h_op (r_geq rfl rfl) ?_
  refine h_nil ?_
  refine q_then ?_
  refine h_cond rfl (fun h => ?_) (fun h => ?_)
  · have hkd : k ≤ d := by omega
    obtain ⟨gx, cx, hx⟩ := hxs.at (preLs_at n key ds (endP p) d k hkd)
    have hlk := hwl k
    refine h_E (E' := [(9, .int .i64 ((d - k : Nat) : Int)), (8, .slice B k c), (7, .slice (some ⟨g13, 0, none⟩) (d + 1) c13), (0, .int .i64 (n : Int))]) ⟨aI rfl (by omega), rfl, rfl, rfl, trivial⟩ ?_
    refine h_skip ?_
    refine q_then ?_
    refine h_seq ?_
    refine h_block ?_
    refine h_reg ?_
    refine h_op (r_move rfl) ?_
    refine h_op (r_move rfl) ?_
    refine h_op (r_move rfl) ?_
    refine h_op (r_move rfl) ?_
    refine h_op (r_idx rfl rfl) ?_
    refine h_op (r_nth rfl (v := .slice (some ⟨gx, 0, none⟩) (wayP n key ds (endP p) k).length cx) (svs_get hx)) ?_
    refine h_call ((refSum5_s n hn (wayP n key ds (endP p) k) (some ⟨gx, 0, none⟩) cx (fun h => by cases h) (by omega)).comes (hr := rds_one (rd1_own (List.mem_cons_of_mem _ (List.mem_cons_of_mem _ (ownsOf_mem (List.mem_of_getElem? hx))))))) rfl rfl rfl fun _ => ?_
    refine h_opX (x_bsl rfl rfl) fun g28 => ?_
    refine h_opX (x_app rfl rfl (k := 32)) fun ⟨g29, c29⟩ => ?_
    refine h_op (r_assign rfl) ?_
    refine h_nil ?_
    refine q_block ?_
    refine q_then ?_
    refine h_reg ?_
    refine h_op (r_move rfl) ?_
    refine h_op (r_sub rfl rfl) ?_
    refine h_op (r_assign rfl) ?_
    refine h_nil ?_
    rw [hst]
    exact h_back (k + 1, some ⟨g29, 0, none⟩, c29) ((show k + 1 ≤ d + 1 by omega)) ((show d + 1 - (k + 1) < d + 1 - k by omega)) ⟨aI rfl (by dsimp only; omega), rfl, rfl, rfl, trivial⟩ (same)
  · obtain rfl : k = d + 1 := by omega
    refine h_pure (φ := ∃ g, B = some ⟨g, 0, none⟩) (fun w s => s.ownSome (N := d + 1) (c := c) (by omega)) ?_
    rintro ⟨g, rfl⟩
    refine h_exit ?_
    refine q_thenE ?_
    refine q_thenE ?_
    refine q_blockE ?_
    refine q_then ?_
    refine h_seq ?_
    refine h_reg ?_
    refine h_op (r_move rfl) ?_
    refine h_op (r_assign rfl) ?_
    refine h_nil ?_
    refine q_then ?_
    refine h_ret ?_
    exact h_ret1 rfl rfl fun w s => ⟨(g, c), rfl, s.res ((List.nil_sublist _).cons_cons _) (by simp [Fa.wr])⟩
theorem Equal_yes (l : List B32) (B B' : Option Addr) (c c' : Nat) (hl : l.length ≤ 1000000000) : Spec Tryd.prog 24 [.slice B l.length c, .slice B' l.length c'].toArray [.rd B (dgs l), .rd B' (dgs l)] [] (fun _ : Unit => .bool true) (fun _ => []) := by
  refine spec_of Tryd.func24 rfl (n := 26) rfl rfl ?_
  intro W
  refine h_seq ?_
  refine h_reg ?_
  refine h_op (r_assign rfl) ?_
  refine h_nil ?_
  refine q_then ?_
  refine h_seq ?_
  refine h_seq ?_
  refine h_reg ?_
  refine h_op (r_move rfl) ?_
  refine h_op (r_len rfl) ?_
  refine h_op (r_move rfl) ?_
  refine h_op (r_len rfl) ?_
  refine h_op (r_neq rfl rfl) ?_
  refine h_nil ?_
  refine q_then ?_
  refine h_no rfl ((fun h => h rfl)) ?_
  refine h_skip ?_
  refine q_then ?_
  refine h_seq ?_
  refine h_seq ?_
  refine h_reg ?_
  refine h_op (r_move rfl) ?_
  refine h_op (r_len rfl) ?_
  refine h_op (r_move rfl) ?_
  refine h_nil ?_
  refine q_then ?_
  refine h_block ?_
  refine h_loop (fun (k : Nat) => k ≤ l.length) (fun (k : Nat) => [(13, .int .i64 (k : Int)), (12, .int .i64 (l.length : Int)), (0, .slice B l.length c), (1, .slice B' l.length c')]) (fun (k : Nat) => [.rd B (dgs l), .rd B' (dgs l)]) (fun (k : Nat) => l.length - k) 0 (Nat.zero_le _) ⟨rfl, rfl, rfl, rfl, trivial⟩ (same) ?_
  intro k hk
  refine h_seq ?_
  refine h_reg ?_
  refine h_op (r_lss rfl rfl) ?_
  refine h_nil ?_
  refine q_then ?_
  refine h_seq ?_
  refine h_cond rfl (fun h => ?_) (fun h => ?_)
  · have hlt : k < l.length := by omega
    refine h_pure (φ := (∃ b o, B = some ⟨b, o, none⟩) ∧ ∃ b o, B' = some ⟨b, o, none⟩) (fun w s => ⟨Rd.some (s.ok (.rd B (dgs l)) (by simp)) (by rw [dgs_len]; omega), Rd.some (s.ok (.rd B' (dgs l)) (by simp)) (by rw [dgs_len]; omega)⟩) ?_
    rintro ⟨⟨b, o, rfl⟩, b', o', rfl⟩
    refine h_skip ?_
    refine q_then ?_
    refine h_seq ?_
    refine h_block ?_
    refine h_seq ?_
    refine h_reg ?_
    refine h_op (r_move rfl) ?_
    refine h_op (r_assign rfl) ?_
    refine h_nil ?_
    refine q_then ?_
    refine h_seq ?_
    refine ha_start [.rd (some ⟨b, o, none⟩) (dgs l), .rd (some ⟨b', o', none⟩) (dgs l)] [] mixed (same) ?_
    refine ha_takeP 0 rfl (r_move rfl) ?_
    refine ha_takeP 1 rfl (r_move rfl) ?_
    refine ha_takeP 2 rfl (r_idx rfl rfl) ?_
    refine ha_take 3 rfl (r_nthr rfl (out := (l.getD k zB32).cells) (B32.cells_length _) (dgs_at hlt)) ?_
    refine ha_takeP 4 rfl (r_move rfl) ?_
    refine ha_takeP 5 rfl (r_move rfl) ?_
    refine ha_takeP 6 rfl (r_idx rfl rfl) ?_
    refine ha_take 7 rfl (r_nthr rfl (out := (l.getD k zB32).cells) (B32.cells_length _) (dgs_at hlt)) ?_
    refine ha_takeP 8 rfl (r_bool (r_ner rfl rfl) (show _ = false by simp)) ?_
    refine ha_done (by kernel_rfl) ?_
    refine q_then ?_
    refine h_condF rfl ?_
    refine h_skip ?_
    refine q_block ?_
    refine q_then ?_
    refine h_reg ?_
    refine h_op (r_add rfl rfl) ?_
    refine h_op (r_move rfl) ?_
    refine h_nil ?_
    exact h_back (k + 1) (by omega) (by omega) ⟨rfl, rfl, rfl, rfl, trivial⟩ (same)
  · refine h_exit ?_
    refine q_thenE ?_
    refine q_thenE ?_
    refine q_blockE ?_
    refine q_then ?_
    refine h_seq ?_
    refine h_reg ?_
    refine h_op (r_assign rfl) ?_
    refine h_nil ?_
    refine q_then ?_
    refine h_ret ?_
    exact h_ret1 rfl rfl fun w s => ⟨(), rfl, s.res (List.nil_sublist _) (by simp)⟩
end Go.Proofs.YtfjlpndohnianaaDoor
/- U26 -/
namespace Go.Proofs.YtfjlpndohnianaaDoor
set_option linter.unusedSimpArgs false
set_option linter.unusedVariables false
open Go.RowKit
theorem checkP_5 {p : Proof} (h0 : okJ p 0 = true) {j : Nat} (hj : 1 ≤ j ∧ j < 5) (h : okJ p j = false) : checkP p = 5 := by
  unfold checkP
  rw [h0, if_neg (by simp)]
  rcases (show j = 1 ∨ j = 2 ∨ j = 3 ∨ j = 4 by omega) with rfl | rfl | rfl | rfl
  · rw [if_pos h]
  · by_cases h1 : okJ p 1 = false
    · rw [if_pos h1]
    · rw [if_neg h1, if_pos h]
  · by_cases h1 : okJ p 1 = false
    · rw [if_pos h1]
    · by_cases h2 : okJ p 2 = false
      · rw [if_neg h1, if_pos h2]
      · rw [if_neg h1, if_neg h2, if_pos h]
  · by_cases h1 : okJ p 1 = false
    · rw [if_pos h1]
    · by_cases h2 : okJ p 2 = false
      · rw [if_neg h1, if_pos h2]
      · by_cases h3 : okJ p 3 = false
        · rw [if_neg h1, if_neg h2, if_pos h3]
        · rw [if_neg h1, if_neg h2, if_neg h3, if_pos h]
theorem checkP_ok {p : Proof} (h0 : okJ p 0 = true) (h1 : okJ p 1 = true) (h2 : okJ p 2 = true) (h3 : okJ p 3 = true) (h4 : okJ p 4 = true) : checkP p = 0 := by
  unfold checkP
  rw [h0, if_neg (by simp), h1, if_neg (by simp), h2, if_neg (by simp), h3, if_neg (by simp), h4, if_neg (by simp)]
theorem lastI_pos {b : B32} (h : 0 < (depths b).length) : lastI b 256 = (((depths b).getD ((depths b).length - 1) 0 : Nat) : Int) := by
  rw [lastI_depths, List.getLast?_eq_getElem?, List.getD]
  cases hx : (depths b)[(depths b).length - 1]? with
  | none => rw [List.getElem?_eq_none_iff] at hx; omega
  | some i => rfl
theorem lastI_nil {b : B32} (h : (depths b).length = 0) : lastI b 256 = -1 := by
  rw [lastI_depths, List.eq_nil_of_length_eq_zero h]
  rfl
theorem rCheck_s (p : Proof) : Spec Tryd.prog 16 [.agg p.cells.toArray].toArray [] [] (fun _ : Unit => .int .i64 (checkP p)) (fun _ => []) := by
  have hdl := dep_len p.bitmap 256
  rw [dep_256] at hdl
  refine spec_of Tryd.func16 rfl (n := 69) rfl rfl ?_
  intro W
  by_cases hk : p.kind = 0
  · have h0 : okJ p 0 = true := by simp [okJ, hk]
    refine h_seq ?_
    refine h_reg ?_
    refine h_opX (x_box rfl) fun g1 => ?_
    refine h_op (r_assign rfl) ?_
    refine h_nil ?_
    refine q_then ?_
    refine h_seq ?_
    refine h_seq ?_
    refine h_reg ?_
    refine h_op (r_field rfl) ?_
    refine h_op (r_loadc rfl) ?_
    refine h_op (r_bool (r_neq rfl rfl) (decide_eq_false (fun h => h hk))) ?_
    refine h_op (r_move rfl) ?_
    refine h_opOff ?_
    refine h_opOff ?_
    refine h_opOff ?_
    refine h_op (r_pick rfl rfl) ?_
    refine h_nil ?_
    refine q_then ?_
    refine h_condF rfl ?_
    refine h_skip ?_
    refine q_then ?_
    refine h_seq ?_
    refine h_reg ?_
    refine h_op (r_loadr rfl) ?_
    refine h_call ((rDepths_s p).comes) rfl rfl rfl fun ⟨A14, c14⟩ => ?_
    dsimp only
    refine h_op (r_assign rfl) ?_
    refine h_nil ?_
    refine q_then ?_
    refine h_seq ?_
    refine h_reg ?_
    refine h_opX (x_alloc) fun g4 => ?_
    refine h_nil ?_
    refine q_then ?_
    refine h_seq ?_
    refine h_block ?_
    refine h_seq ?_
    refine h_reg ?_
    by_cases hd1 : p.depth < 0
    · refine h_op (r_field rfl) ?_
      refine h_op (r_loadc rfl) ?_
      refine h_op (r_bool (r_lss rfl rfl) (decide_eq_true hd1)) ?_
      refine h_op (r_move rfl) ?_
      refine h_opOff ?_
      refine h_opOff ?_
      refine h_opOff ?_
      refine h_op (r_pick rfl rfl) ?_
      refine h_op (r_move rfl) ?_
      refine h_opOff ?_
      refine h_opOff ?_
      refine h_opOff ?_
      refine h_opOff ?_
      refine h_opOff ?_
      refine h_opOff ?_
      refine h_opOff ?_
      refine h_opOff ?_
      refine h_opOff ?_
      refine h_op (r_pick rfl rfl) ?_
      refine h_op (r_move rfl) ?_
      refine h_opOff ?_
      refine h_opOff ?_
      refine h_opOff ?_
      refine h_opOff ?_
      refine h_opOff ?_
      refine h_opOff ?_
      refine h_op (r_pick rfl rfl) ?_
      refine h_op (r_assign rfl) ?_
      refine h_nil ?_
      refine q_then ?_
      refine h_condT rfl ?_
      refine h_seq ?_
      refine h_reg ?_
      refine h_op (r_assign rfl) ?_
      refine h_nil ?_
      refine q_then ?_
      refine h_ret ?_
      refine q_blockR ?_
      refine q_thenR ?_
      exact h_ret1 rfl (aI rfl (checkP_5 h0 (j := 1) (by omega) (by simp only [okJ, Bool.and_eq_false_iff, decide_eq_false_iff_not]; omega)).symm) fun w s => ⟨(), rfl, s.res (List.nil_sublist _) (by simp)⟩
    · by_cases hd2 : 256 < p.depth
      · refine h_op (r_field rfl) ?_
        refine h_op (r_loadc rfl) ?_
        refine h_op (r_bool (r_lss rfl rfl) (decide_eq_false hd1)) ?_
        refine h_op (r_move rfl) ?_
        refine h_op (r_field rfl) ?_
        refine h_op (r_loadc rfl) ?_
        refine h_op (r_bool (r_gtr rfl rfl) (decide_eq_true hd2)) ?_
        refine h_op (r_pick rfl rfl) ?_
        refine h_op (r_move rfl) ?_
        refine h_opOff ?_
        refine h_opOff ?_
        refine h_opOff ?_
        refine h_opOff ?_
        refine h_opOff ?_
        refine h_opOff ?_
        refine h_opOff ?_
        refine h_opOff ?_
        refine h_opOff ?_
        refine h_op (r_pick rfl rfl) ?_
        refine h_op (r_move rfl) ?_
        refine h_opOff ?_
        refine h_opOff ?_
        refine h_opOff ?_
        refine h_opOff ?_
        refine h_opOff ?_
        refine h_opOff ?_
        refine h_op (r_pick rfl rfl) ?_
        refine h_op (r_assign rfl) ?_
        refine h_nil ?_
        refine q_then ?_
        refine h_condT rfl ?_
        refine h_seq ?_
        refine h_reg ?_
        refine h_op (r_assign rfl) ?_
        refine h_nil ?_
        refine q_then ?_
        refine h_ret ?_
        refine q_blockR ?_
        refine q_thenR ?_
        exact h_ret1 rfl (aI rfl (checkP_5 h0 (j := 1) (by omega) (by simp only [okJ, Bool.and_eq_false_iff, decide_eq_false_iff_not]; omega)).symm) fun w s => ⟨(), rfl, s.res (List.nil_sublist _) (by simp)⟩
      · have h1 : okJ p 1 = true := by simp only [okJ, Bool.and_eq_true, decide_eq_true_eq]; omega
        by_cases hlf : p.leaf = zLeaf
        · have h2 : okJ p 2 = true := by simp [okJ, hlf]
          refine h_op (r_field rfl) ?_
          refine h_op (r_loadc rfl) ?_
          refine h_op (r_bool (r_lss rfl rfl) (decide_eq_false hd1)) ?_
          refine h_op (r_move rfl) ?_
          refine h_op (r_field rfl) ?_
          refine h_op (r_loadc rfl) ?_
          refine h_op (r_bool (r_gtr rfl rfl) (decide_eq_false hd2)) ?_
          refine h_op (r_pick rfl rfl) ?_
          refine h_op (r_move rfl) ?_
          refine h_op (r_field rfl) ?_
          refine h_op (r_loadc rfl) ?_
          refine h_op (r_bool (r_eql rfl rfl) (decide_eq_true hk)) ?_
          refine h_op (r_move rfl) ?_
          refine h_op (r_field rfl) ?_
          refine h_op (r_loadr rfl) ?_
          refine h_op (r_loadr rfl) ?_
          refine h_op (r_bool (r_ner rfl rfl) (show _ = false by simp [hlf])) ?_
          refine h_op (r_pick rfl rfl) ?_
          refine h_op (r_pick rfl rfl) ?_
          refine h_op (r_move rfl) ?_
          refine h_op (r_move rfl) ?_
          refine h_op (r_len rfl) ?_
          refine h_op (r_field rfl) ?_
          refine h_op (r_loadc rfl) ?_
          refine h_op (r_len rfl) ?_
          refine h_op (r_neq rfl rfl) ?_
          refine h_op (r_pick rfl rfl) ?_
          refine h_op (r_assign rfl) ?_
          refine h_nil ?_
          refine q_then ?_
          refine h_cond rfl (fun hlen => ?_) (fun hlen => ?_)
          · refine h_seq ?_
            refine h_reg ?_
            refine h_op (r_assign rfl) ?_
            refine h_nil ?_
            refine q_then ?_
            refine h_ret ?_
            refine q_blockR ?_
            refine q_thenR ?_
            exact h_ret1 rfl (aI rfl (checkP_5 h0 (j := 4) (by omega) (by simp only [okJ, decide_eq_false_iff_not]; exact hlen)).symm) fun w s => ⟨(), rfl, s.res (List.nil_sublist _) (by simp)⟩
          · have h4 : okJ p 4 = true := by simp only [okJ, decide_eq_true_eq]; omega
            by_cases hz : (depths p.bitmap).length = 0
            · refine h_seq ?_
              refine ha_start [.blk g1 p.cells 29] [] mixed (same) ?_
              refine ha_takeP 0 rfl (r_move rfl) ?_
              refine ha_takeP 1 rfl (r_len rfl) ?_
              refine ha_takeP 2 rfl (r_bool (r_gtr rfl rfl) (decide_eq_false (by omega))) ?_
              refine ha_takeP 3 rfl (r_move rfl) ?_
              refine ha_off 4 rfl ?_
              refine ha_off 5 rfl ?_
              refine ha_off 6 rfl ?_
              refine ha_off 7 rfl ?_
              refine ha_off 8 rfl ?_
              refine ha_off 9 rfl ?_
              refine ha_off 10 rfl ?_
              refine ha_off 11 rfl ?_
              refine ha_off 12 rfl ?_
              refine ha_off 13 rfl ?_
              refine ha_takeP 14 rfl (r_pick rfl rfl) ?_
              refine ha_takeP 15 rfl (r_move rfl) ?_
              refine ha_takeP 16 rfl (r_move rfl) ?_
              refine ha_takeP 17 rfl (r_len rfl) ?_
              refine ha_takeP 18 rfl (r_bool (r_eql rfl rfl) (decide_eq_true (by omega))) ?_
              refine ha_takeP 19 rfl (r_move rfl) ?_
              refine ha_takeP 20 rfl (r_field rfl) ?_
              refine ha_take 21 rfl (r_loadc rfl) ?_
              refine ha_takeP 22 rfl (r_gtr rfl rfl) ?_
              refine ha_takeP 23 rfl (r_pick rfl rfl) ?_
              refine ha_takeP 24 rfl (r_pick rfl rfl) ?_
              refine ha_takeP 25 rfl (r_assign rfl) ?_
              refine ha_done (by kernel_rfl) ?_
              refine q_then ?_
              refine h_cond rfl (fun hp => ?_) (fun hp => ?_)
              · refine h_seq ?_
                refine h_reg ?_
                refine h_op (r_assign rfl) ?_
                refine h_nil ?_
                refine q_then ?_
                refine h_ret ?_
                refine q_blockR ?_
                refine q_thenR ?_
                exact h_ret1 rfl (aI rfl (checkP_5 h0 (j := 3) (by omega) (by simp only [okJ, decide_eq_false_iff_not]; rw [lastI_nil hz]; omega)).symm) fun w s => ⟨(), rfl, s.res (List.nil_sublist _) (by simp)⟩
              · rw [checkP_ok h0 h1 h2 (by simp only [okJ, decide_eq_true_eq]; rw [lastI_nil hz]; omega) h4]
                refine h_skip ?_
                refine q_block ?_
                refine q_then ?_
                refine h_seq ?_
                refine h_reg ?_
                refine h_op (r_assign rfl) ?_
                refine h_nil ?_
                refine q_then ?_
                refine h_ret ?_
                exact h_ret1 rfl rfl fun w s => ⟨(), rfl, s.res (List.nil_sublist _) (by simp)⟩
            · refine h_pure (φ := ∃ g, A14 = some ⟨g, 0, none⟩) (fun w s => s.ownSome (N := (depths p.bitmap).length) (c := c14) (by omega)) ?_
              rintro ⟨g14, rfl⟩
              have hlp := lastI_pos (b := p.bitmap) (by omega)
              by_cases hq : (((depths p.bitmap).getD ((depths p.bitmap).length - 1) 0 : Nat) : Int) = p.depth - 1
              · rw [checkP_ok h0 h1 h2 (by simp only [okJ, decide_eq_true_eq]; rw [hlp]; exact hq) h4]
                refine h_seq ?_
                refine ha_start [.blk g1 p.cells 29, .own (.slice (some ⟨g14, 0, none⟩) (depths p.bitmap).length c14) (depths p.bitmap).length 3 1 (ic (depths p.bitmap))] [] mixed (same) ?_
                refine ha_takeP 0 rfl (r_move rfl) ?_
                refine ha_takeP 1 rfl (r_len rfl) ?_
                refine ha_takeP 2 rfl (r_bool (r_gtr rfl rfl) (decide_eq_true (by omega))) ?_
                refine ha_takeP 3 rfl (r_move rfl) ?_
                refine ha_takeP 4 rfl (r_move rfl) ?_
                refine ha_takeP 5 rfl (r_move rfl) ?_
                refine ha_takeP 6 rfl (r_len rfl) ?_
                refine ha_takeP 7 rfl (r_subN rfl rfl) ?_
                refine ha_takeP 8 rfl (r_idx rfl rfl) ?_
                refine ha_take 9 rfl (r_nth rfl (ic_at (by omega))) ?_
                refine ha_takeP 10 rfl (r_field rfl) ?_
                refine ha_take 11 rfl (r_loadc rfl) ?_
                refine ha_takeP 12 rfl (r_sub rfl rfl) ?_
                refine ha_takeP 13 rfl (r_bool (r_neq rfl rfl) (decide_eq_false (fun h => h hq))) ?_
                refine ha_takeP 14 rfl (r_pick rfl rfl) ?_
                refine ha_takeP 15 rfl (r_move rfl) ?_
                refine ha_takeP 16 rfl (r_move rfl) ?_
                refine ha_takeP 17 rfl (r_len rfl) ?_
                refine ha_takeP 18 rfl (r_bool (r_eql rfl rfl) (decide_eq_false (by omega))) ?_
                refine ha_takeP 19 rfl (r_move rfl) ?_
                refine ha_off 20 rfl ?_
                refine ha_off 21 rfl ?_
                refine ha_off 22 rfl ?_
                refine ha_takeP 23 rfl (r_pick rfl rfl) ?_
                refine ha_takeP 24 rfl (r_pick rfl rfl) ?_
                refine ha_takeP 25 rfl (r_assign rfl) ?_
                refine ha_done (by kernel_rfl) ?_
                refine q_then ?_
                refine h_condF rfl ?_
                refine h_skip ?_
                refine q_block ?_
                refine q_then ?_
                refine h_seq ?_
                refine h_reg ?_
                refine h_op (r_assign rfl) ?_
                refine h_nil ?_
                refine q_then ?_
                refine h_ret ?_
                exact h_ret1 rfl rfl fun w s => ⟨(), rfl, s.res (List.nil_sublist _) (by simp)⟩
              · refine h_seq ?_
                refine ha_start [.blk g1 p.cells 29, .own (.slice (some ⟨g14, 0, none⟩) (depths p.bitmap).length c14) (depths p.bitmap).length 3 1 (ic (depths p.bitmap))] [] mixed (same) ?_
                refine ha_takeP 0 rfl (r_move rfl) ?_
                refine ha_takeP 1 rfl (r_len rfl) ?_
                refine ha_takeP 2 rfl (r_bool (r_gtr rfl rfl) (decide_eq_true (by omega))) ?_
                refine ha_takeP 3 rfl (r_move rfl) ?_
                refine ha_takeP 4 rfl (r_move rfl) ?_
                refine ha_takeP 5 rfl (r_move rfl) ?_
                refine ha_takeP 6 rfl (r_len rfl) ?_
                refine ha_takeP 7 rfl (r_subN rfl rfl) ?_
                refine ha_takeP 8 rfl (r_idx rfl rfl) ?_
                refine ha_take 9 rfl (r_nth rfl (ic_at (by omega))) ?_
                refine ha_takeP 10 rfl (r_field rfl) ?_
                refine ha_take 11 rfl (r_loadc rfl) ?_
                refine ha_takeP 12 rfl (r_sub rfl rfl) ?_
                refine ha_takeP 13 rfl (r_bool (r_neq rfl rfl) (decide_eq_true hq)) ?_
                refine ha_takeP 14 rfl (r_pick rfl rfl) ?_
                refine ha_takeP 15 rfl (r_move rfl) ?_
                refine ha_off 16 rfl ?_
                refine ha_off 17 rfl ?_
                refine ha_off 18 rfl ?_
                refine ha_off 19 rfl ?_
                refine ha_off 20 rfl ?_
                refine ha_off 21 rfl ?_
                refine ha_off 22 rfl ?_
                refine ha_off 23 rfl ?_
                refine ha_takeP 24 rfl (r_pick rfl rfl) ?_
                refine ha_takeP 25 rfl (r_assign rfl) ?_
                refine ha_done (by kernel_rfl) ?_
                refine q_then ?_
                refine h_condT rfl ?_
                refine h_seq ?_
                refine h_reg ?_
                refine h_op (r_assign rfl) ?_
                refine h_nil ?_
                refine q_then ?_
                refine h_ret ?_
                refine q_blockR ?_
                refine q_thenR ?_
                exact h_ret1 rfl (aI rfl (checkP_5 h0 (j := 3) (by omega) (by simp only [okJ, decide_eq_false_iff_not]; rw [hlp]; exact hq)).symm) fun w s => ⟨(), rfl, s.res (List.nil_sublist _) (by simp)⟩
        · have hk1 : ¬ p.kind = 1 := by omega
          refine h_op (r_field rfl) ?_
          refine h_op (r_loadc rfl) ?_
          refine h_op (r_bool (r_lss rfl rfl) (decide_eq_false hd1)) ?_
          refine h_op (r_move rfl) ?_
          refine h_op (r_field rfl) ?_
          refine h_op (r_loadc rfl) ?_
          refine h_op (r_bool (r_gtr rfl rfl) (decide_eq_false hd2)) ?_
          refine h_op (r_pick rfl rfl) ?_
          refine h_op (r_move rfl) ?_
          refine h_op (r_field rfl) ?_
          refine h_op (r_loadc rfl) ?_
          refine h_op (r_bool (r_eql rfl rfl) (decide_eq_true hk)) ?_
          refine h_op (r_move rfl) ?_
          refine h_op (r_field rfl) ?_
          refine h_op (r_loadr rfl) ?_
          refine h_op (r_loadr rfl) ?_
          refine h_op (r_bool (r_ner rfl rfl) (show _ = true by simp [hlf])) ?_
          refine h_op (r_pick rfl rfl) ?_
          refine h_op (r_pick rfl rfl) ?_
          refine h_op (r_move rfl) ?_
          refine h_opOff ?_
          refine h_opOff ?_
          refine h_opOff ?_
          refine h_opOff ?_
          refine h_opOff ?_
          refine h_opOff ?_
          refine h_op (r_pick rfl rfl) ?_
          refine h_op (r_assign rfl) ?_
          refine h_nil ?_
          refine q_then ?_
          refine h_condT rfl ?_
          refine h_seq ?_
          refine h_reg ?_
          refine h_op (r_assign rfl) ?_
          refine h_nil ?_
          refine q_then ?_
          refine h_ret ?_
          refine q_blockR ?_
          refine q_thenR ?_
          exact h_ret1 rfl (aI rfl (checkP_5 h0 (j := 2) (by omega) (by simp [okJ, hlf, hk1])).symm) fun w s => ⟨(), rfl, s.res (List.nil_sublist _) (by simp)⟩
  · by_cases hk1 : p.kind = 1
    · have h0 : okJ p 0 = true := by simp [okJ, hk1]
      refine h_seq ?_
      refine h_reg ?_
      refine h_opX (x_box rfl) fun g1 => ?_
      refine h_op (r_assign rfl) ?_
      refine h_nil ?_
      refine q_then ?_
      refine h_seq ?_
      refine h_seq ?_
      refine h_reg ?_
      refine h_op (r_field rfl) ?_
      refine h_op (r_loadc rfl) ?_
      refine h_op (r_bool (r_neq rfl rfl) (decide_eq_true hk)) ?_
      refine h_op (r_move rfl) ?_
      refine h_op (r_field rfl) ?_
      refine h_op (r_loadc rfl) ?_
      refine h_op (r_bool (r_neq rfl rfl) (decide_eq_false (fun h => h hk1))) ?_
      refine h_op (r_pick rfl rfl) ?_
      refine h_nil ?_
      refine q_then ?_
      refine h_condF rfl ?_
      refine h_skip ?_
      refine q_then ?_
      refine h_seq ?_
      refine h_reg ?_
      refine h_op (r_loadr rfl) ?_
      refine h_call ((rDepths_s p).comes) rfl rfl rfl fun ⟨A14, c14⟩ => ?_
      dsimp only
      refine h_op (r_assign rfl) ?_
      refine h_nil ?_
      refine q_then ?_
      refine h_seq ?_
      refine h_reg ?_
      refine h_opX (x_alloc) fun g4 => ?_
      refine h_nil ?_
      refine q_then ?_
      refine h_seq ?_
      refine h_block ?_
      refine h_seq ?_
      refine h_reg ?_
      by_cases hd1 : p.depth < 0
      · refine h_op (r_field rfl) ?_
        refine h_op (r_loadc rfl) ?_
        refine h_op (r_bool (r_lss rfl rfl) (decide_eq_true hd1)) ?_
        refine h_op (r_move rfl) ?_
        refine h_opOff ?_
        refine h_opOff ?_
        refine h_opOff ?_
        refine h_op (r_pick rfl rfl) ?_
        refine h_op (r_move rfl) ?_
        refine h_opOff ?_
        refine h_opOff ?_
        refine h_opOff ?_
        refine h_opOff ?_
        refine h_opOff ?_
        refine h_opOff ?_
        refine h_opOff ?_
        refine h_opOff ?_
        refine h_opOff ?_
        refine h_op (r_pick rfl rfl) ?_
        refine h_op (r_move rfl) ?_
        refine h_opOff ?_
        refine h_opOff ?_
        refine h_opOff ?_
        refine h_opOff ?_
        refine h_opOff ?_
        refine h_opOff ?_
        refine h_op (r_pick rfl rfl) ?_
        refine h_op (r_assign rfl) ?_
        refine h_nil ?_
        refine q_then ?_
        refine h_condT rfl ?_
        refine h_seq ?_
        refine h_reg ?_
        refine h_op (r_assign rfl) ?_
        refine h_nil ?_
        refine q_then ?_
        refine h_ret ?_
        refine q_blockR ?_
        refine q_thenR ?_
        exact h_ret1 rfl (aI rfl (checkP_5 h0 (j := 1) (by omega) (by simp only [okJ, Bool.and_eq_false_iff, decide_eq_false_iff_not]; omega)).symm) fun w s => ⟨(), rfl, s.res (List.nil_sublist _) (by simp)⟩
      · by_cases hd2 : 256 < p.depth
        · refine h_op (r_field rfl) ?_
          refine h_op (r_loadc rfl) ?_
          refine h_op (r_bool (r_lss rfl rfl) (decide_eq_false hd1)) ?_
          refine h_op (r_move rfl) ?_
          refine h_op (r_field rfl) ?_
          refine h_op (r_loadc rfl) ?_
          refine h_op (r_bool (r_gtr rfl rfl) (decide_eq_true hd2)) ?_
          refine h_op (r_pick rfl rfl) ?_
          refine h_op (r_move rfl) ?_
          refine h_opOff ?_
          refine h_opOff ?_
          refine h_opOff ?_
          refine h_opOff ?_
          refine h_opOff ?_
          refine h_opOff ?_
          refine h_opOff ?_
          refine h_opOff ?_
          refine h_opOff ?_
          refine h_op (r_pick rfl rfl) ?_
          refine h_op (r_move rfl) ?_
          refine h_opOff ?_
          refine h_opOff ?_
          refine h_opOff ?_
          refine h_opOff ?_
          refine h_opOff ?_
          refine h_opOff ?_
          refine h_op (r_pick rfl rfl) ?_
          refine h_op (r_assign rfl) ?_
          refine h_nil ?_
          refine q_then ?_
          refine h_condT rfl ?_
          refine h_seq ?_
          refine h_reg ?_
          refine h_op (r_assign rfl) ?_
          refine h_nil ?_
          refine q_then ?_
          refine h_ret ?_
          refine q_blockR ?_
          refine q_thenR ?_
          exact h_ret1 rfl (aI rfl (checkP_5 h0 (j := 1) (by omega) (by simp only [okJ, Bool.and_eq_false_iff, decide_eq_false_iff_not]; omega)).symm) fun w s => ⟨(), rfl, s.res (List.nil_sublist _) (by simp)⟩
        · have h1 : okJ p 1 = true := by simp only [okJ, Bool.and_eq_true, decide_eq_true_eq]; omega
          have h2 : okJ p 2 = true := by simp [okJ, hk1]
          refine h_op (r_field rfl) ?_
          refine h_op (r_loadc rfl) ?_
          refine h_op (r_bool (r_lss rfl rfl) (decide_eq_false hd1)) ?_
          refine h_op (r_move rfl) ?_
          refine h_op (r_field rfl) ?_
          refine h_op (r_loadc rfl) ?_
          refine h_op (r_bool (r_gtr rfl rfl) (decide_eq_false hd2)) ?_
          refine h_op (r_pick rfl rfl) ?_
          refine h_op (r_move rfl) ?_
          refine h_op (r_field rfl) ?_
          refine h_op (r_loadc rfl) ?_
          refine h_op (r_bool (r_eql rfl rfl) (decide_eq_false (by omega))) ?_
          refine h_op (r_move rfl) ?_
          refine h_opOff ?_
          refine h_opOff ?_
          refine h_opOff ?_
          refine h_opOff ?_
          refine h_op (r_pick rfl rfl) ?_
          refine h_op (r_pick rfl rfl) ?_
          refine h_op (r_move rfl) ?_
          refine h_op (r_move rfl) ?_
          refine h_op (r_len rfl) ?_
          refine h_op (r_field rfl) ?_
          refine h_op (r_loadc rfl) ?_
          refine h_op (r_len rfl) ?_
          refine h_op (r_neq rfl rfl) ?_
          refine h_op (r_pick rfl rfl) ?_
          refine h_op (r_assign rfl) ?_
          refine h_nil ?_
          refine q_then ?_
          refine h_cond rfl (fun hlen => ?_) (fun hlen => ?_)
          · refine h_seq ?_
            refine h_reg ?_
            refine h_op (r_assign rfl) ?_
            refine h_nil ?_
            refine q_then ?_
            refine h_ret ?_
            refine q_blockR ?_
            refine q_thenR ?_
            exact h_ret1 rfl (aI rfl (checkP_5 h0 (j := 4) (by omega) (by simp only [okJ, decide_eq_false_iff_not]; exact hlen)).symm) fun w s => ⟨(), rfl, s.res (List.nil_sublist _) (by simp)⟩
          · have h4 : okJ p 4 = true := by simp only [okJ, decide_eq_true_eq]; omega
            by_cases hz : (depths p.bitmap).length = 0
            · refine h_seq ?_
              refine ha_start [.blk g1 p.cells 29] [] mixed (same) ?_
              refine ha_takeP 0 rfl (r_move rfl) ?_
              refine ha_takeP 1 rfl (r_len rfl) ?_
              refine ha_takeP 2 rfl (r_bool (r_gtr rfl rfl) (decide_eq_false (by omega))) ?_
              refine ha_takeP 3 rfl (r_move rfl) ?_
              refine ha_off 4 rfl ?_
              refine ha_off 5 rfl ?_
              refine ha_off 6 rfl ?_
              refine ha_off 7 rfl ?_
              refine ha_off 8 rfl ?_
              refine ha_off 9 rfl ?_
              refine ha_off 10 rfl ?_
              refine ha_off 11 rfl ?_
              refine ha_off 12 rfl ?_
              refine ha_off 13 rfl ?_
              refine ha_takeP 14 rfl (r_pick rfl rfl) ?_
              refine ha_takeP 15 rfl (r_move rfl) ?_
              refine ha_takeP 16 rfl (r_move rfl) ?_
              refine ha_takeP 17 rfl (r_len rfl) ?_
              refine ha_takeP 18 rfl (r_bool (r_eql rfl rfl) (decide_eq_true (by omega))) ?_
              refine ha_takeP 19 rfl (r_move rfl) ?_
              refine ha_takeP 20 rfl (r_field rfl) ?_
              refine ha_take 21 rfl (r_loadc rfl) ?_
              refine ha_takeP 22 rfl (r_gtr rfl rfl) ?_
              refine ha_takeP 23 rfl (r_pick rfl rfl) ?_
              refine ha_takeP 24 rfl (r_pick rfl rfl) ?_
              refine ha_takeP 25 rfl (r_assign rfl) ?_
              refine ha_done (by kernel_rfl) ?_
              refine q_then ?_
              refine h_cond rfl (fun hp => ?_) (fun hp => ?_)
              · refine h_seq ?_
                refine h_reg ?_
                refine h_op (r_assign rfl) ?_
                refine h_nil ?_
                refine q_then ?_
                refine h_ret ?_
                refine q_blockR ?_
                refine q_thenR ?_
                exact h_ret1 rfl (aI rfl (checkP_5 h0 (j := 3) (by omega) (by simp only [okJ, decide_eq_false_iff_not]; rw [lastI_nil hz]; omega)).symm) fun w s => ⟨(), rfl, s.res (List.nil_sublist _) (by simp)⟩
              · rw [checkP_ok h0 h1 h2 (by simp only [okJ, decide_eq_true_eq]; rw [lastI_nil hz]; omega) h4]
                refine h_skip ?_
                refine q_block ?_
                refine q_then ?_
                refine h_seq ?_
                refine h_reg ?_
                refine h_op (r_assign rfl) ?_
                refine h_nil ?_
                refine q_then ?_
                refine h_ret ?_
                exact h_ret1 rfl rfl fun w s => ⟨(), rfl, s.res (List.nil_sublist _) (by simp)⟩
            · refine h_pure (φ := ∃ g, A14 = some ⟨g, 0, none⟩) (fun w s => s.ownSome (N := (depths p.bitmap).length) (c := c14) (by omega)) ?_
              rintro ⟨g14, rfl⟩
              have hlp := lastI_pos (b := p.bitmap) (by omega)
              by_cases hq : (((depths p.bitmap).getD ((depths p.bitmap).length - 1) 0 : Nat) : Int) = p.depth - 1
              · rw [checkP_ok h0 h1 h2 (by simp only [okJ, decide_eq_true_eq]; rw [hlp]; exact hq) h4]
                refine h_seq ?_
                refine ha_start [.blk g1 p.cells 29, .own (.slice (some ⟨g14, 0, none⟩) (depths p.bitmap).length c14) (depths p.bitmap).length 3 1 (ic (depths p.bitmap))] [] mixed (same) ?_
                refine ha_takeP 0 rfl (r_move rfl) ?_
                refine ha_takeP 1 rfl (r_len rfl) ?_
                refine ha_takeP 2 rfl (r_bool (r_gtr rfl rfl) (decide_eq_true (by omega))) ?_
                refine ha_takeP 3 rfl (r_move rfl) ?_
                refine ha_takeP 4 rfl (r_move rfl) ?_
                refine ha_takeP 5 rfl (r_move rfl) ?_
                refine ha_takeP 6 rfl (r_len rfl) ?_
                refine ha_takeP 7 rfl (r_subN rfl rfl) ?_
                refine ha_takeP 8 rfl (r_idx rfl rfl) ?_
                refine ha_take 9 rfl (r_nth rfl (ic_at (by omega))) ?_
                refine ha_takeP 10 rfl (r_field rfl) ?_
                refine ha_take 11 rfl (r_loadc rfl) ?_
                refine ha_takeP 12 rfl (r_sub rfl rfl) ?_
                refine ha_takeP 13 rfl (r_bool (r_neq rfl rfl) (decide_eq_false (fun h => h hq))) ?_
                refine ha_takeP 14 rfl (r_pick rfl rfl) ?_
                refine ha_takeP 15 rfl (r_move rfl) ?_
                refine ha_takeP 16 rfl (r_move rfl) ?_
                refine ha_takeP 17 rfl (r_len rfl) ?_
                refine ha_takeP 18 rfl (r_bool (r_eql rfl rfl) (decide_eq_false (by omega))) ?_
                refine ha_takeP 19 rfl (r_move rfl) ?_
                refine ha_off 20 rfl ?_
                refine ha_off 21 rfl ?_
                refine ha_off 22 rfl ?_
                refine ha_takeP 23 rfl (r_pick rfl rfl) ?_
                refine ha_takeP 24 rfl (r_pick rfl rfl) ?_
                refine ha_takeP 25 rfl (r_assign rfl) ?_
                refine ha_done (by kernel_rfl) ?_
                refine q_then ?_
                refine h_condF rfl ?_
                refine h_skip ?_
                refine q_block ?_
                refine q_then ?_
                refine h_seq ?_
                refine h_reg ?_
                refine h_op (r_assign rfl) ?_
                refine h_nil ?_
                refine q_then ?_
                refine h_ret ?_
                exact h_ret1 rfl rfl fun w s => ⟨(), rfl, s.res (List.nil_sublist _) (by simp)⟩
              · refine h_seq ?_
                refine ha_start [.blk g1 p.cells 29, .own (.slice (some ⟨g14, 0, none⟩) (depths p.bitmap).length c14) (depths p.bitmap).length 3 1 (ic (depths p.bitmap))] [] mixed (same) ?_
                refine ha_takeP 0 rfl (r_move rfl) ?_
                refine ha_takeP 1 rfl (r_len rfl) ?_
                refine ha_takeP 2 rfl (r_bool (r_gtr rfl rfl) (decide_eq_true (by omega))) ?_
                refine ha_takeP 3 rfl (r_move rfl) ?_
                refine ha_takeP 4 rfl (r_move rfl) ?_
                refine ha_takeP 5 rfl (r_move rfl) ?_
                refine ha_takeP 6 rfl (r_len rfl) ?_
                refine ha_takeP 7 rfl (r_subN rfl rfl) ?_
                refine ha_takeP 8 rfl (r_idx rfl rfl) ?_
                refine ha_take 9 rfl (r_nth rfl (ic_at (by omega))) ?_
                refine ha_takeP 10 rfl (r_field rfl) ?_
                refine ha_take 11 rfl (r_loadc rfl) ?_
                refine ha_takeP 12 rfl (r_sub rfl rfl) ?_
                refine ha_takeP 13 rfl (r_bool (r_neq rfl rfl) (decide_eq_true hq)) ?_
                refine ha_takeP 14 rfl (r_pick rfl rfl) ?_
                refine ha_takeP 15 rfl (r_move rfl) ?_
                refine ha_off 16 rfl ?_
                refine ha_off 17 rfl ?_
                refine ha_off 18 rfl ?_
                refine ha_off 19 rfl ?_
                refine ha_off 20 rfl ?_
                refine ha_off 21 rfl ?_
                refine ha_off 22 rfl ?_
                refine ha_off 23 rfl ?_
                refine ha_takeP 24 rfl (r_pick rfl rfl) ?_
                refine ha_takeP 25 rfl (r_assign rfl) ?_
                refine ha_done (by kernel_rfl) ?_
                refine q_then ?_
                refine h_condT rfl ?_
                refine h_seq ?_
                refine h_reg ?_
                refine h_op (r_assign rfl) ?_
                refine h_nil ?_
                refine q_then ?_
                refine h_ret ?_
                refine q_blockR ?_
                refine q_thenR ?_
                exact h_ret1 rfl (aI rfl (checkP_5 h0 (j := 3) (by omega) (by simp only [okJ, decide_eq_false_iff_not]; rw [hlp]; exact hq)).symm) fun w s => ⟨(), rfl, s.res (List.nil_sublist _) (by simp)⟩
    · refine h_seq ?_
      refine h_reg ?_
      refine h_opX (x_box rfl) fun g1 => ?_
      refine h_op (r_assign rfl) ?_
      refine h_nil ?_
      refine q_then ?_
      refine h_seq ?_
      refine h_seq ?_
      refine h_reg ?_
      refine h_op (r_field rfl) ?_
      refine h_op (r_loadc rfl) ?_
      refine h_op (r_bool (r_neq rfl rfl) (decide_eq_true hk)) ?_
      refine h_op (r_move rfl) ?_
      refine h_op (r_field rfl) ?_
      refine h_op (r_loadc rfl) ?_
      refine h_op (r_bool (r_neq rfl rfl) (decide_eq_true hk1)) ?_
      refine h_op (r_pick rfl rfl) ?_
      refine h_nil ?_
      refine q_then ?_
      refine h_condT rfl ?_
      refine h_seq ?_
      refine h_reg ?_
      refine h_op (r_assign rfl) ?_
      refine h_nil ?_
      refine q_then ?_
      refine h_ret ?_
      refine q_thenR ?_
      exact h_ret1 rfl (aI rfl (by rw [checkP_bad (k := 0) (by omega) (fun j hj => by omega) (by simp [okJ, hk, hk1])]; rfl)) fun w s => ⟨(), rfl, s.res (List.nil_sublist _) (by simp)⟩
end Go.Proofs.YtfjlpndohnianaaDoor
/- U27 -/
namespace Go.Proofs.YtfjlpndohnianaaDoor
set_option linter.unusedSimpArgs false
set_option linter.unusedVariables false
open Go.RowKit
def k5 : B32 := ⟨5 :: List.replicate 31 0, rfl⟩
instance (L : List Fa) (A : Option Addr) : Rd1 L (.rd A (dgs [])) := inferInstanceAs (Rd1 L (.rd A []))
theorem depths_z : depths zB32 = [] := by
  unfold depths
  rw [List.filter_eq_nil_iff]
  intro i _
  rw [bitAt_zero]
  simp
theorem check_z : checkP zProof = 0 := checkP_ok rfl rfl rfl (by
  show decide (lastI zB32 256 = 0 - 1) = true
  rw [lastI_nil (b := zB32) (by rw [depths_z]; rfl)]
  rfl) (by
  show decide (((depths zB32).length : Int) = (0 : Nat)) = true
  rw [depths_z]
  rfl)
theorem end_z : endP zProof = preE := if_neg (by decide)
theorem alive_s : Spec Tryd.prog 9 ([] : List Value).toArray [.rd (some ⟨0, 0, none⟩) hashT] [] (fun _ : Unit => .bool true) (fun _ => []) := by
  have hR := fun gh gc k0 hk => Root_s zProof check_z [] rfl k5 256 (by decide) gh gc k0 hk 0 rfl
  have hP := fun gh gc k0 hk => Pre_s zProof check_z [] rfl k5 256 (by decide) gh gc k0 hk 0 rfl
  have hS := fun gh gc k0 hk => Steps_s zProof check_z [] rfl k5 256 (by decide) gh gc k0 hk 0 rfl
  have hE := fun gh gc k hk => End_s zProof 256 (by decide) gh gc k hk
  have hw : wayP 256 k5 (expL (sumB 256 preE) zProof.bitmap [] 0) (endP zProof) 0 = preE := end_z
  have hp1 : (preLs 256 k5 (expL (sumB 256 preE) zProof.bitmap [] 0) (endP zProof) (0 + 1)).reverse = [preE] := by unfold preLs; simp only [Nat.zero_add, List.range_one, List.map_cons, List.map_nil, List.reverse_singleton]; rw [hw]
  have hs1 : stepL 256 k5 (expL (sumB 256 preE) zProof.bitmap [] 0) (endP zProof) (0 + 1) = [sumB 256 preE] := by unfold stepL; simp only [Nat.zero_add, List.range_one, List.map_cons, List.map_nil]; rw [hw]
  rw [hw] at hR
  rw [hp1] at hP
  rw [hs1] at hS
  rw [end_z] at hE
  have hk5 : Instr.fill (plArr 1) zB32.cells.toArray [(0, Value.int .u8 5)] = some k5.cells.toArray := by kernel_rfl
  refine spec_of Tryd.func9 rfl (n := 78) rfl rfl ?_
  intro W
  refine h_seq ?_
  refine h_reg ?_
  refine h_op (r_assign rfl) ?_
  refine h_nil ?_
  refine q_then ?_
  refine h_seq ?_
  refine h_reg ?_
  refine h_call ((Hash_s 256 (by decide)).comes) rfl rfl rfl fun ⟨gh, gc⟩ => ?_
  dsimp only
  refine h_op (r_assign rfl) ?_
  refine h_nil ?_
  refine q_then ?_
  refine h_seq ?_
  refine h_seq ?_
  refine h_reg ?_
  refine h_op (r_move rfl) ?_
  refine h_op (r_nilR rfl rfl) ?_
  refine h_nil ?_
  refine q_then ?_
  refine h_condF rfl ?_
  refine h_skip ?_
  refine q_then ?_
  refine h_seq ?_
  refine h_reg ?_
  refine h_op (r_move rfl) ?_
  refine h_op (r_build rfl) ?_
  refine h_op (r_build (out := k5.cells) rfl (hf := ⟨hk5⟩)) ?_
  refine h_call ((hR gh gc 0 (by decide)).comes) rfl rfl rfl fun _ => ?_
  refine h_op (r_move rfl) ?_
  refine h_op (r_extract rfl rfl) ?_
  refine h_op (r_extract rfl rfl) ?_
  refine h_opX (x_alloc) fun g2 => ?_
  refine h_opS (s_storer rfl rfl) ?_
  refine h_op (r_assign rfl) ?_
  refine h_nil ?_
  refine q_then ?_
  refine h_seq ?_
  refine h_reg ?_
  refine h_op (r_move rfl) ?_
  refine h_op (r_build rfl) ?_
  refine h_op (r_build (out := k5.cells) rfl (hf := ⟨hk5⟩)) ?_
  refine h_call ((hP gh gc (0 + 1 + 0 + 1) (by decide)).comes) rfl rfl rfl fun ⟨⟨g22, c22, xs⟩, hxs⟩ => ?_
  dsimp only at hxs ⊢
  obtain ⟨gx, cx, xs', rfl, hxs'⟩ := hxs.cons
  obtain rfl : xs' = [] := List.eq_nil_of_length_eq_zero hxs'.len
  refine h_L (L' := [.own (.slice (some ⟨g22, 0, none⟩) 1 c22) 1 36 1 [.slice (some ⟨gx, 0, none⟩) 1 cx], .blk gc [.int .i64 ((0 + 1 + 0 + 1 + 1 + 0 + 1 : Nat) : Int)] 78, .own (.slice (some ⟨gx, 0, none⟩) 1 cx) 1 5 1 (bc preE), .blk g2 (sumB 256 preE).cells 24, .blk gh [.pointer (some ⟨gc, 0, none⟩), .int .i64 ((256 : Nat) : Int)] 76, .rd (some ⟨0, 0, none⟩) hashT]) (fun _ s => s) ?_
  refine h_op (r_move rfl) ?_
  refine h_op (r_extract rfl rfl) ?_
  refine h_op (r_extract rfl rfl) ?_
  refine h_op (r_assign rfl) ?_
  refine h_op (r_assign rfl) ?_
  refine h_nil ?_
  refine q_then ?_
  refine h_seq ?_
  refine h_reg ?_
  refine h_op (r_move rfl) ?_
  refine h_op (r_build rfl) ?_
  refine h_op (r_build (out := k5.cells) rfl (hf := ⟨hk5⟩)) ?_
  refine h_call ((hS gh gc (0 + 1 + 0 + 1 + 1 + 0 + 1) (by decide)).comes) rfl rfl rfl fun ⟨g29, c29⟩ => ?_
  dsimp only
  refine h_op (r_move rfl) ?_
  refine h_op (r_extract rfl rfl) ?_
  refine h_op (r_extract rfl rfl) ?_
  refine h_op (r_assign rfl) ?_
  refine h_op (r_assign rfl) ?_
  refine h_nil ?_
  refine q_then ?_
  refine h_seq ?_
  refine ha_start [.blk g2 (sumB 256 preE).cells 24, .own (.slice (some ⟨g22, 0, none⟩) 1 c22) 1 36 1 [.slice (some ⟨gx, 0, none⟩) 1 cx], .own (.slice (some ⟨g29, 0, none⟩) (0 + 1) c29) (0 + 1) 24 32 (dgs [sumB 256 preE])] [] mixed (same) ?_
  refine ha_take 0 rfl (r_loadr rfl) ?_
  refine ha_one 1 ?_
  refine ho_C 1 rfl ((rEmpty_s 256 (by decide)).comes) rfl rfl rfl (fun _ => same) fun _ => ?_
  refine ha_takeP 2 rfl (r_bool (r_eqr rfl rfl) (show _ = true by simp)) ?_
  refine ha_takeP 3 rfl (r_move rfl) ?_
  refine ha_takeP 4 rfl (r_move rfl) ?_
  refine ha_takeP 5 rfl (r_bool (r_eql rfl rfl) (show _ = true by decide)) ?_
  refine ha_takeP 6 rfl (r_pick rfl rfl) ?_
  refine ha_takeP 7 rfl (r_move rfl) ?_
  refine ha_takeP 8 rfl (r_move rfl) ?_
  refine ha_takeP 9 rfl (r_len rfl) ?_
  refine ha_takeP 10 rfl (r_bool (r_eql rfl rfl) (show _ = true by decide)) ?_
  refine ha_takeP 11 rfl (r_pick rfl rfl) ?_
  refine ha_takeP 12 rfl (r_move rfl) ?_
  refine ha_takeP 13 rfl (r_move rfl) ?_
  refine ha_takeP 14 rfl (r_idx rfl rfl) ?_
  refine ha_take 15 rfl (r_loadc rfl) ?_
  refine ha_one 16 ?_
  refine ho_X 16 rfl (rk (x_bslV (bc preE) (ys := [.int .u8 3]) rfl rfl (bc_one _))) (fun _ => same) fun g48 => ?_
  refine ha_one 17 ?_
  refine ho_C 17 rfl ((Same_yes preE (some ⟨gx, 0, none⟩) (some ⟨g48, 0, none⟩) cx 1 (by decide)).comes) rfl rfl rfl (fun _ => same) fun _ => ?_
  refine ha_takeP 18 rfl (r_pick rfl rfl) ?_
  refine ha_takeP 19 rfl (r_move rfl) ?_
  refine ha_takeP 20 rfl (r_move rfl) ?_
  refine ha_takeP 21 rfl (r_bool (r_eql rfl rfl) (show _ = true by decide)) ?_
  refine ha_takeP 22 rfl (r_pick rfl rfl) ?_
  refine ha_takeP 23 rfl (r_move rfl) ?_
  refine ha_takeP 24 rfl (r_move rfl) ?_
  refine ha_takeP 25 rfl (r_len rfl) ?_
  refine ha_takeP 26 rfl (r_bool (r_eql rfl rfl) (show _ = true by decide)) ?_
  refine ha_takeP 27 rfl (r_pick rfl rfl) ?_
  refine ha_takeP 28 rfl (r_move rfl) ?_
  refine ha_takeP 29 rfl (r_move rfl) ?_
  refine ha_takeP 30 rfl (r_idx rfl rfl) ?_
  refine ha_take 31 rfl (r_nthr rfl (out := (sumB 256 preE).cells) (B32.cells_length _) (dgs_at (l := [sumB 256 preE]) (k := 0) (by decide))) ?_
  refine ha_take 32 rfl (r_loadr rfl) ?_
  refine ha_takeP 33 rfl (r_bool (r_eqr rfl rfl) (show _ = true by simp)) ?_
  refine ha_takeP 34 rfl (r_pick rfl rfl) ?_
  refine ha_takeP 35 rfl (r_move rfl) ?_
  refine ha_takeP 36 rfl (r_move rfl) ?_
  refine ha_takeP 37 rfl (r_bool (r_eql rfl rfl) (show _ = true by decide)) ?_
  refine ha_takeP 38 rfl (r_pick rfl rfl) ?_
  refine ha_takeP 39 rfl (r_move rfl) ?_
  refine ha_takeP 40 rfl (r_move rfl) ?_
  refine ha_takeP 41 rfl (r_build rfl) ?_
  refine ha_take 43 rfl (r_loadr rfl) ?_
  refine ha_one 42 ?_
  refine ho_C 42 rfl ((hE gh gc (0 + 1 + 0 + 1 + 1 + 0 + 1 + 1 + 0 + 1) (by decide)).comes) rfl rfl rfl (fun _ => same) fun _ => ?_
  refine ha_takeP 44 rfl (r_bool (r_eqr rfl rfl) (show _ = true by simp)) ?_
  refine ha_takeP 45 rfl (r_pick rfl rfl) ?_
  refine ha_takeP 46 rfl (r_assign rfl) ?_
  refine ha_done (by kernel_rfl) ?_
  refine q_then ?_
  refine h_ret ?_
  exact h_ret1 rfl rfl fun w s => ⟨(), rfl, s.res (List.nil_sublist _) (by simp)⟩
end Go.Proofs.YtfjlpndohnianaaDoor
/- U28 -/
namespace Go.Proofs.YtfjlpndohnianaaDoor
set_option linter.unusedSimpArgs false
set_option linter.unusedVariables false
open Go.RowKit
theorem FoldEnds_s (i : Int) (p : Proof) : Spec Tryd.prog 3 [.int .i64 i, .agg p.cells.toArray].toArray [.rd (some ⟨0, 0, none⟩) hashT] [] (fun _ : Unit => .bool true) (fun _ => []) := by
  refine spec_of Tryd.func3 rfl (n := 43) rfl rfl ?_
  intro W
  by_cases hi : 0 ≤ i ∧ i ≤ 256
  · obtain ⟨n, rfl⟩ : ∃ n : Nat, i = (n : Int) := ⟨i.toNat, by omega⟩
    have hn : n ≤ 256 := by omega
    by_cases hk : p.kind = 0
    · have he : endP p = preE := if_neg (by omega)
      have hE := fun gh gc => End_s p n hn gh gc 0 (by decide)
      rw [he] at hE
      refine h_seq ?_
      refine h_reg ?_
      refine h_opX (x_box rfl) fun g3 => ?_
      refine h_op (r_assign rfl) ?_
      refine h_nil ?_
      refine q_then ?_
      refine h_seq ?_
      refine h_seq ?_
      refine h_reg ?_
      refine h_op (r_move rfl) ?_
      refine h_call ((Right_yes n hn).comes) rfl rfl rfl fun _ => ?_
      refine h_op (r_not rfl) ?_
      refine h_op (r_move rfl) ?_
      refine h_op (r_field rfl) ?_
      refine h_op (r_loadc rfl) ?_
      refine h_op (r_bool (r_neq rfl rfl) (decide_eq_false (fun h => h hk))) ?_
      refine h_op (r_move rfl) ?_
      refine h_opOff ?_
      refine h_opOff ?_
      refine h_opOff ?_
      refine h_op (r_pick rfl rfl) ?_
      refine h_op (r_pick rfl rfl) ?_
      refine h_nil ?_
      refine q_then ?_
      refine h_condF rfl ?_
      refine h_skip ?_
      refine q_then ?_
      refine h_seq ?_
      refine h_reg ?_
      refine h_op (r_move rfl) ?_
      refine h_call ((Hash_s n hn).comes) rfl rfl rfl fun ⟨gh, gc⟩ => ?_
      dsimp only
      refine h_op (r_assign rfl) ?_
      refine h_nil ?_
      refine q_then ?_
      refine h_seq ?_
      refine h_seq ?_
      refine h_reg ?_
      refine h_op (r_move rfl) ?_
      refine h_op (r_nilR rfl rfl) ?_
      refine h_nil ?_
      refine q_then ?_
      refine h_condF rfl ?_
      refine h_skip ?_
      refine q_then ?_
      refine h_seq ?_
      refine h_reg ?_
      refine h_op (r_move rfl) ?_
      refine h_call ((rEmpty_s n hn).comes) rfl rfl rfl fun _ => ?_
      refine h_opX (x_alloc) fun g6 => ?_
      refine h_opS (s_storer rfl rfl) ?_
      refine h_nil ?_
      refine q_then ?_
      refine h_seq ?_
      refine h_seq ?_
      refine h_reg ?_
      refine h_op (r_field rfl) ?_
      refine h_op (r_loadc rfl) ?_
      refine h_op (r_eql rfl rfl) ?_
      refine h_nil ?_
      refine q_then ?_
      refine h_no rfl ((by omega)) ?_
      refine h_skip ?_
      refine q_then ?_
      refine h_seq ?_
      refine ha_start [.blk g6 (sumB n preE).cells 24, .blk g3 p.cells 29] [] mixed (same) ?_
      refine ha_one 0 ?_
      refine ho_C 0 rfl (alive_s.comes) rfl rfl rfl (fun _ => same) fun _ => ?_
      refine ha_takeP 1 rfl (r_move rfl) ?_
      refine ha_takeP 2 rfl (r_move rfl) ?_
      refine ha_take 3 rfl (r_loadr rfl) ?_
      refine ha_take 5 rfl (r_loadr rfl) ?_
      refine ha_one 4 ?_
      refine ho_C 4 rfl ((hE gh gc).comes) rfl rfl rfl (fun _ => same) fun _ => ?_
      refine ha_takeP 6 rfl (r_bool (r_eqr rfl rfl) (show _ = true by simp)) ?_
      refine ha_takeP 7 rfl (r_pick rfl rfl) ?_
      refine ha_takeP 8 rfl (r_assign rfl) ?_
      refine ha_done (by kernel_rfl) ?_
      refine q_then ?_
      refine h_ret ?_
      exact h_ret1 rfl rfl fun w s => ⟨(), rfl, s.res (List.nil_sublist _) (by simp)⟩
    · by_cases hk1 : p.kind = 1
      · have he : endP p = preL p.leaf := if_pos hk1
        have hE := fun gh gc => End_s p n hn gh gc 0 (by decide)
        rw [he] at hE
        refine h_seq ?_
        refine h_reg ?_
        refine h_opX (x_box rfl) fun g3 => ?_
        refine h_op (r_assign rfl) ?_
        refine h_nil ?_
        refine q_then ?_
        refine h_seq ?_
        refine h_seq ?_
        refine h_reg ?_
        refine h_op (r_move rfl) ?_
        refine h_call ((Right_yes n hn).comes) rfl rfl rfl fun _ => ?_
        refine h_op (r_not rfl) ?_
        refine h_op (r_move rfl) ?_
        refine h_op (r_field rfl) ?_
        refine h_op (r_loadc rfl) ?_
        refine h_op (r_bool (r_neq rfl rfl) (decide_eq_true hk)) ?_
        refine h_op (r_move rfl) ?_
        refine h_op (r_field rfl) ?_
        refine h_op (r_loadc rfl) ?_
        refine h_op (r_bool (r_neq rfl rfl) (decide_eq_false (fun h => h hk1))) ?_
        refine h_op (r_pick rfl rfl) ?_
        refine h_op (r_pick rfl rfl) ?_
        refine h_nil ?_
        refine q_then ?_
        refine h_condF rfl ?_
        refine h_skip ?_
        refine q_then ?_
        refine h_seq ?_
        refine h_reg ?_
        refine h_op (r_move rfl) ?_
        refine h_call ((Hash_s n hn).comes) rfl rfl rfl fun ⟨gh, gc⟩ => ?_
        dsimp only
        refine h_op (r_assign rfl) ?_
        refine h_nil ?_
        refine q_then ?_
        refine h_seq ?_
        refine h_seq ?_
        refine h_reg ?_
        refine h_op (r_move rfl) ?_
        refine h_op (r_nilR rfl rfl) ?_
        refine h_nil ?_
        refine q_then ?_
        refine h_condF rfl ?_
        refine h_skip ?_
        refine q_then ?_
        refine h_seq ?_
        refine h_reg ?_
        refine h_op (r_move rfl) ?_
        refine h_call ((rEmpty_s n hn).comes) rfl rfl rfl fun _ => ?_
        refine h_opX (x_alloc) fun g6 => ?_
        refine h_opS (s_storer rfl rfl) ?_
        refine h_nil ?_
        refine q_then ?_
        refine h_seq ?_
        refine h_seq ?_
        refine h_reg ?_
        refine h_op (r_field rfl) ?_
        refine h_op (r_loadc rfl) ?_
        refine h_op (r_eql rfl rfl) ?_
        refine h_nil ?_
        refine q_then ?_
        refine h_yes rfl (hk1) ?_
        refine h_reg ?_
        refine h_op (r_move rfl) ?_
        refine h_op (r_field rfl) ?_
        refine h_op (r_loadr rfl) ?_
        refine h_call ((rLeaf_s p.leaf).comes) rfl rfl rfl fun ⟨g33, c33⟩ => ?_
        dsimp only
        refine h_call ((refSum5_s n hn (preL p.leaf) (some ⟨g33, 0, none⟩) c33 (fun h => by cases h) (by rw [preL_len]; decide)).comes) rfl rfl rfl fun _ => ?_
        refine h_opS (s_storer rfl rfl) ?_
        refine h_nil ?_
        refine q_then ?_
        refine h_seq ?_
        refine ha_start [.blk g6 (sumB n (preL p.leaf)).cells 24, .blk g3 p.cells 29] [] mixed (same) ?_
        refine ha_one 0 ?_
        refine ho_C 0 rfl (alive_s.comes) rfl rfl rfl (fun _ => same) fun _ => ?_
        refine ha_takeP 1 rfl (r_move rfl) ?_
        refine ha_takeP 2 rfl (r_move rfl) ?_
        refine ha_take 3 rfl (r_loadr rfl) ?_
        refine ha_take 5 rfl (r_loadr rfl) ?_
        refine ha_one 4 ?_
        refine ho_C 4 rfl ((hE gh gc).comes) rfl rfl rfl (fun _ => same) fun _ => ?_
        refine ha_takeP 6 rfl (r_bool (r_eqr rfl rfl) (show _ = true by simp)) ?_
        refine ha_takeP 7 rfl (r_pick rfl rfl) ?_
        refine ha_takeP 8 rfl (r_assign rfl) ?_
        refine ha_done (by kernel_rfl) ?_
        refine q_then ?_
        refine h_ret ?_
        exact h_ret1 rfl rfl fun w s => ⟨(), rfl, s.res (List.nil_sublist _) (by simp)⟩
      · refine h_seq ?_
        refine h_reg ?_
        refine h_opX (x_box rfl) fun g3 => ?_
        refine h_op (r_assign rfl) ?_
        refine h_nil ?_
        refine q_then ?_
        refine h_seq ?_
        refine h_seq ?_
        refine h_reg ?_
        refine h_op (r_move rfl) ?_
        refine h_call ((Right_yes n hn).comes) rfl rfl rfl fun _ => ?_
        refine h_op (r_not rfl) ?_
        refine h_op (r_move rfl) ?_
        refine h_op (r_field rfl) ?_
        refine h_op (r_loadc rfl) ?_
        refine h_op (r_bool (r_neq rfl rfl) (decide_eq_true hk)) ?_
        refine h_op (r_move rfl) ?_
        refine h_op (r_field rfl) ?_
        refine h_op (r_loadc rfl) ?_
        refine h_op (r_bool (r_neq rfl rfl) (decide_eq_true hk1)) ?_
        refine h_op (r_pick rfl rfl) ?_
        refine h_op (r_pick rfl rfl) ?_
        refine h_nil ?_
        refine q_then ?_
        refine h_condT rfl ?_
        refine h_seq ?_
        refine h_reg ?_
        refine h_call (alive_s.comes) rfl rfl rfl fun _ => ?_
        refine h_op (r_assign rfl) ?_
        refine h_nil ?_
        refine q_then ?_
        refine h_ret ?_
        refine q_thenR ?_
        exact h_ret1 rfl rfl fun w s => ⟨(), rfl, s.res (List.nil_sublist _) (by simp)⟩
  · refine h_seq ?_
    refine h_reg ?_
    refine h_opX (x_box rfl) fun g3 => ?_
    refine h_op (r_assign rfl) ?_
    refine h_nil ?_
    refine q_then ?_
    refine h_seq ?_
    refine h_seq ?_
    refine h_reg ?_
    refine h_op (r_move rfl) ?_
    refine h_call ((Right_no i hi).comes) rfl rfl rfl fun _ => ?_
    refine h_op (r_not rfl) ?_
    refine h_op (r_move rfl) ?_
    refine h_opOff ?_
    refine h_opOff ?_
    refine h_opOff ?_
    refine h_opOff ?_
    refine h_opOff ?_
    refine h_opOff ?_
    refine h_opOff ?_
    refine h_opOff ?_
    refine h_op (r_pick rfl rfl) ?_
    refine h_nil ?_
    refine q_then ?_
    refine h_condT rfl ?_
    refine h_seq ?_
    refine h_reg ?_
    refine h_call (alive_s.comes) rfl rfl rfl fun _ => ?_
    refine h_op (r_assign rfl) ?_
    refine h_nil ?_
    refine q_then ?_
    refine h_ret ?_
    refine q_thenR ?_
    exact h_ret1 rfl rfl fun w s => ⟨(), rfl, s.res (List.nil_sublist _) (by simp)⟩
end Go.Proofs.YtfjlpndohnianaaDoor
/- U29 -/
namespace Go.Proofs.YtfjlpndohnianaaDoor
set_option linter.unusedSimpArgs false
set_option linter.unusedVariables false
open Go.RowKit
theorem FoldWorks_s (i : Int) (p : Proof) (key : B32) (ss : List B32) (hs : p.sibs.n = ss.length) : Spec Tryd.prog 6 [.int .i64 i, .agg p.cells.toArray, .agg key.cells.toArray].toArray [.rd p.sibs.A (dgs ss), .rd (some ⟨0, 0, none⟩) hashT] [] (fun _ : Unit => .bool true) (fun _ => []) := by
  refine spec_of Tryd.func6 rfl (n := 56) rfl rfl ?_
  intro W
  by_cases hi : 0 ≤ i ∧ i ≤ 256
  · obtain ⟨n, rfl⟩ : ∃ n : Nat, i = (n : Int) := ⟨i.toNat, by omega⟩
    have hn : n ≤ 256 := by omega
    by_cases h3 : 300 < p.sibs.n
    · refine h_seq ?_
      refine h_reg ?_
      refine h_opX (x_box rfl) fun g4 => ?_
      refine h_opX (x_box rfl) fun g5 => ?_
      refine h_op (r_assign rfl) ?_
      refine h_nil ?_
      refine q_then ?_
      refine h_seq ?_
      refine h_seq ?_
      refine h_reg ?_
      refine h_op (r_move rfl) ?_
      refine h_call ((Right_yes n hn).comes) rfl rfl rfl fun _ => ?_
      refine h_op (r_not rfl) ?_
      refine h_op (r_move rfl) ?_
      refine h_op (r_field rfl) ?_
      refine h_op (r_loadc rfl) ?_
      refine h_op (r_len rfl) ?_
      refine h_op (r_bool (r_gtr rfl rfl) (decide_eq_true (by omega))) ?_
      refine h_op (r_pick rfl rfl) ?_
      refine h_op (r_move rfl) ?_
      refine h_opOff ?_
      refine h_opOff ?_
      refine h_opOff ?_
      refine h_op (r_pick rfl rfl) ?_
      refine h_nil ?_
      refine q_then ?_
      refine h_condT rfl ?_
      refine h_seq ?_
      refine h_reg ?_
      refine h_call (alive_s.comes) rfl rfl rfl fun _ => ?_
      refine h_op (r_assign rfl) ?_
      refine h_nil ?_
      refine q_then ?_
      refine h_ret ?_
      refine q_thenR ?_
      exact h_ret1 rfl rfl fun w s => ⟨(), rfl, s.res (List.nil_sublist _) (by simp)⟩
    · by_cases hc : checkP p = 0
      · have hd2 := ok_depth hc
        obtain ⟨d, hd⟩ : ∃ d : Nat, p.depth = (d : Int) := ⟨p.depth.toNat, by omega⟩
        refine h_seq ?_
        refine h_reg ?_
        refine h_opX (x_box rfl) fun g4 => ?_
        refine h_opX (x_box rfl) fun g5 => ?_
        refine h_op (r_assign rfl) ?_
        refine h_nil ?_
        refine q_then ?_
        refine h_seq ?_
        refine h_seq ?_
        refine h_reg ?_
        refine h_op (r_move rfl) ?_
        refine h_call ((Right_yes n hn).comes) rfl rfl rfl fun _ => ?_
        refine h_op (r_not rfl) ?_
        refine h_op (r_move rfl) ?_
        refine h_op (r_field rfl) ?_
        refine h_op (r_loadc rfl) ?_
        refine h_op (r_len rfl) ?_
        refine h_op (r_bool (r_gtr rfl rfl) (decide_eq_false (by omega))) ?_
        refine h_op (r_pick rfl rfl) ?_
        refine h_op (r_move rfl) ?_
        refine h_op (r_loadr rfl) ?_
        refine h_call ((rCheck_s p).comes) rfl rfl rfl fun _ => ?_
        refine h_op (r_bool (r_neq rfl rfl) (decide_eq_false (fun h => h hc))) ?_
        refine h_op (r_pick rfl rfl) ?_
        refine h_nil ?_
        refine q_then ?_
        refine h_condF rfl ?_
        refine h_skip ?_
        refine q_then ?_
        refine h_seq ?_
        refine h_reg ?_
        refine h_op (r_move rfl) ?_
        refine h_call ((Hash_s n hn).comes) rfl rfl rfl fun ⟨gh, gc⟩ => ?_
        dsimp only
        refine h_op (r_assign rfl) ?_
        refine h_nil ?_
        refine q_then ?_
        refine h_seq ?_
        refine h_seq ?_
        refine h_reg ?_
        refine h_op (r_move rfl) ?_
        refine h_op (r_nilR rfl rfl) ?_
        refine h_nil ?_
        refine q_then ?_
        refine h_condF rfl ?_
        refine h_skip ?_
        refine q_then ?_
        refine h_seq ?_
        refine h_reg ?_
        refine h_op (r_move rfl) ?_
        refine h_op (r_loadr rfl) ?_
        refine h_op (r_loadr rfl) ?_
        refine h_call ((Root_s p hc ss hs key n hn gh gc 0 (by omega) d hd).comes) rfl rfl rfl fun _ => ?_
        refine h_nil ?_
        refine q_then ?_
        refine h_seq ?_
        refine h_reg ?_
        refine h_op (r_move rfl) ?_
        refine h_call ((Calls_s n gh gc (0 + 1 + d + 1)).comes) rfl rfl rfl fun _ => ?_
        refine h_op (r_assign rfl) ?_
        refine h_nil ?_
        refine q_then ?_
        refine h_seq ?_
        refine h_reg ?_
        refine h_op (r_move rfl) ?_
        refine h_op (r_loadr rfl) ?_
        refine h_op (r_loadr rfl) ?_
        refine h_call ((Steps_s p hc ss hs key n hn gh gc (0 + 1 + d + 1) (by omega) d hd).comes) rfl rfl rfl fun ⟨g37, c37⟩ => ?_
        dsimp only
        refine h_nil ?_
        refine q_then ?_
        refine h_seq ?_
        refine ha_start [.blk g4 p.cells 29] [] mixed (same) ?_
        refine ha_one 0 ?_
        refine ho_C 0 rfl (alive_s.comes) rfl rfl rfl (fun _ => same) fun _ => ?_
        refine ha_takeP 1 rfl (r_move rfl) ?_
        refine ha_takeP 2 rfl (r_move rfl) ?_
        refine ha_takeP 3 rfl (r_field rfl) ?_
        refine ha_take 4 rfl (r_int (r_loadc rfl) hd) ?_
        refine ha_takeP 5 rfl (r_add rfl rfl) ?_
        refine ha_takeP 6 rfl (r_bool (r_leq rfl rfl) (decide_eq_true (by omega))) ?_
        refine ha_takeP 7 rfl (r_pick rfl rfl) ?_
        refine ha_takeP 8 rfl (r_move rfl) ?_
        refine ha_takeP 9 rfl (r_move rfl) ?_
        refine ha_takeP 11 rfl (r_move rfl) ?_
        refine ha_takeP 13 rfl (r_field rfl) ?_
        refine ha_take 14 rfl (r_int (r_loadc rfl) hd) ?_
        refine ha_takeP 15 rfl (r_add rfl rfl) ?_
        refine ha_one 10 ?_
        refine ho_C 10 rfl ((Calls_s n gh gc (0 + 1 + d + 1 + 1 + d + 1)).comes) rfl rfl rfl (fun _ => same) fun _ => ?_
        refine ha_takeP 12 rfl (r_sub rfl rfl) ?_
        refine ha_takeP 16 rfl (r_bool (r_leq rfl rfl) (decide_eq_true (by omega))) ?_
        refine ha_takeP 17 rfl (r_pick rfl rfl) ?_
        refine ha_takeP 18 rfl (r_assign rfl) ?_
        refine ha_done (by kernel_rfl) ?_
        refine q_then ?_
        refine h_ret ?_
        exact h_ret1 rfl rfl fun w s => ⟨(), rfl, s.res (List.nil_sublist _) (by simp)⟩
      · refine h_seq ?_
        refine h_reg ?_
        refine h_opX (x_box rfl) fun g4 => ?_
        refine h_opX (x_box rfl) fun g5 => ?_
        refine h_op (r_assign rfl) ?_
        refine h_nil ?_
        refine q_then ?_
        refine h_seq ?_
        refine h_seq ?_
        refine h_reg ?_
        refine h_op (r_move rfl) ?_
        refine h_call ((Right_yes n hn).comes) rfl rfl rfl fun _ => ?_
        refine h_op (r_not rfl) ?_
        refine h_op (r_move rfl) ?_
        refine h_op (r_field rfl) ?_
        refine h_op (r_loadc rfl) ?_
        refine h_op (r_len rfl) ?_
        refine h_op (r_bool (r_gtr rfl rfl) (decide_eq_false (by omega))) ?_
        refine h_op (r_pick rfl rfl) ?_
        refine h_op (r_move rfl) ?_
        refine h_op (r_loadr rfl) ?_
        refine h_call ((rCheck_s p).comes) rfl rfl rfl fun _ => ?_
        refine h_op (r_bool (r_neq rfl rfl) (decide_eq_true hc)) ?_
        refine h_op (r_pick rfl rfl) ?_
        refine h_nil ?_
        refine q_then ?_
        refine h_condT rfl ?_
        refine h_seq ?_
        refine h_reg ?_
        refine h_call (alive_s.comes) rfl rfl rfl fun _ => ?_
        refine h_op (r_assign rfl) ?_
        refine h_nil ?_
        refine q_then ?_
        refine h_ret ?_
        refine q_thenR ?_
        exact h_ret1 rfl rfl fun w s => ⟨(), rfl, s.res (List.nil_sublist _) (by simp)⟩
  · refine h_seq ?_
    refine h_reg ?_
    refine h_opX (x_box rfl) fun g4 => ?_
    refine h_opX (x_box rfl) fun g5 => ?_
    refine h_op (r_assign rfl) ?_
    refine h_nil ?_
    refine q_then ?_
    refine h_seq ?_
    refine h_seq ?_
    refine h_reg ?_
    refine h_op (r_move rfl) ?_
    refine h_call ((Right_no i hi).comes) rfl rfl rfl fun _ => ?_
    refine h_op (r_not rfl) ?_
    refine h_op (r_move rfl) ?_
    refine h_opOff ?_
    refine h_opOff ?_
    refine h_opOff ?_
    refine h_opOff ?_
    refine h_op (r_pick rfl rfl) ?_
    refine h_op (r_move rfl) ?_
    refine h_opOff ?_
    refine h_opOff ?_
    refine h_opOff ?_
    refine h_op (r_pick rfl rfl) ?_
    refine h_nil ?_
    refine q_then ?_
    refine h_condT rfl ?_
    refine h_seq ?_
    refine h_reg ?_
    refine h_call (alive_s.comes) rfl rfl rfl fun _ => ?_
    refine h_op (r_assign rfl) ?_
    refine h_nil ?_
    refine q_then ?_
    refine h_ret ?_
    refine q_thenR ?_
    exact h_ret1 rfl rfl fun w s => ⟨(), rfl, s.res (List.nil_sublist _) (by simp)⟩
end Go.Proofs.YtfjlpndohnianaaDoor
/- U30 -/
namespace Go.Proofs.YtfjlpndohnianaaDoor
set_option linter.unusedSimpArgs false
set_option linter.unusedVariables false
open Go.RowKit
theorem FoldSteps_s (i : Int) (p : Proof) (key : B32) (ss : List B32) (hs : p.sibs.n = ss.length) : Spec Tryd.prog 7 [.int .i64 i, .agg p.cells.toArray, .agg key.cells.toArray].toArray [.rd p.sibs.A (dgs ss), .rd (some ⟨0, 0, none⟩) hashT] [] (fun _ : Unit => .bool true) (fun _ => []) := by
  refine spec_of Tryd.func7 rfl (n := 95) rfl rfl ?_
  intro W
  by_cases hi : 0 ≤ i ∧ i ≤ 256
  · obtain ⟨n, rfl⟩ : ∃ n : Nat, i = (n : Int) := ⟨i.toNat, by omega⟩
    have hn : n ≤ 256 := by omega
    by_cases h3 : 300 < p.sibs.n
    · refine h_seq ?_
      refine h_reg ?_
      refine h_opX (x_box rfl) fun g4 => ?_
      refine h_opX (x_box rfl) fun g5 => ?_
      refine h_op (r_assign rfl) ?_
      refine h_nil ?_
      refine q_then ?_
      refine h_seq ?_
      refine h_seq ?_
      refine h_reg ?_
      refine h_op (r_move rfl) ?_
      refine h_call ((Right_yes n hn).comes) rfl rfl rfl fun _ => ?_
      refine h_op (r_not rfl) ?_
      refine h_op (r_move rfl) ?_
      refine h_op (r_field rfl) ?_
      refine h_op (r_loadc rfl) ?_
      refine h_op (r_len rfl) ?_
      refine h_op (r_bool (r_gtr rfl rfl) (decide_eq_true (by omega))) ?_
      refine h_op (r_pick rfl rfl) ?_
      refine h_nil ?_
      refine q_then ?_
      refine h_condT rfl ?_
      refine h_seq ?_
      refine h_reg ?_
      refine h_call (alive_s.comes) rfl rfl rfl fun _ => ?_
      refine h_op (r_assign rfl) ?_
      refine h_nil ?_
      refine q_then ?_
      refine h_ret ?_
      refine q_thenR ?_
      exact h_ret1 rfl rfl fun w s => ⟨(), rfl, s.res (List.nil_sublist _) (by simp)⟩
    · by_cases hc : checkP p = 0
      · have hd2 := ok_depth hc
        obtain ⟨d, hd⟩ : ∃ d : Nat, p.depth = (d : Int) := ⟨p.depth.toNat, by omega⟩
        have hR := fun gh gc => Root_s p hc ss hs key n hn gh gc (0 + 1 + d + 1) (by omega) d hd
        have hS := fun gh gc => Steps_s p hc ss hs key n hn gh gc 0 (by omega) d hd
        have hS2 := rSteps_s p hc ss hs key n hn d hd
        generalize expL (sumB n preE) p.bitmap ss d = ds at *
        have hget : (stepL n key ds (endP p) (d + 1)).getD d zB32 = sumB n (wayP n key ds (endP p) d) := by
          unfold stepL
          rw [List.getD, List.getElem?_map, List.getElem?_range (by omega)]
          rfl
        have hsl := stepL_len n key ds (endP p) (d + 1)
        have hat := dgs_at (l := stepL n key ds (endP p) (d + 1)) (k := d) (by rw [stepL_len]; omega)
        rw [hget] at hat
        have hEq := fun (B B' : Option Addr) (c c' : Nat) => Equal_yes (stepL n key ds (endP p) (d + 1)) B B' c c' (by rw [hsl]; omega)
        rw [hsl] at hEq
        refine h_seq ?_
        refine h_reg ?_
        refine h_opX (x_box rfl) fun g4 => ?_
        refine h_opX (x_box rfl) fun g5 => ?_
        refine h_op (r_assign rfl) ?_
        refine h_nil ?_
        refine q_then ?_
        refine h_seq ?_
        refine h_seq ?_
        refine h_reg ?_
        refine h_op (r_move rfl) ?_
        refine h_call ((Right_yes n hn).comes) rfl rfl rfl fun _ => ?_
        refine h_op (r_not rfl) ?_
        refine h_op (r_move rfl) ?_
        refine h_op (r_field rfl) ?_
        refine h_op (r_loadc rfl) ?_
        refine h_op (r_len rfl) ?_
        refine h_op (r_bool (r_gtr rfl rfl) (decide_eq_false (by omega))) ?_
        refine h_op (r_pick rfl rfl) ?_
        refine h_nil ?_
        refine q_then ?_
        refine h_condF rfl ?_
        refine h_skip ?_
        refine q_then ?_
        refine h_seq ?_
        refine h_reg ?_
        refine h_op (r_move rfl) ?_
        refine h_call ((Hash_s n hn).comes) rfl rfl rfl fun ⟨gh, gc⟩ => ?_
        dsimp only
        refine h_op (r_assign rfl) ?_
        refine h_nil ?_
        refine q_then ?_
        refine h_seq ?_
        refine h_seq ?_
        refine h_reg ?_
        refine h_op (r_move rfl) ?_
        refine h_op (r_nilR rfl rfl) ?_
        refine h_nil ?_
        refine q_then ?_
        refine h_condF rfl ?_
        refine h_skip ?_
        refine q_then ?_
        refine h_seq ?_
        refine h_reg ?_
        refine h_op (r_move rfl) ?_
        refine h_op (r_loadr rfl) ?_
        refine h_op (r_loadr rfl) ?_
        refine h_call ((hS gh gc).comes) rfl rfl rfl fun ⟨g32, c32⟩ => ?_
        dsimp only
        refine h_op (r_move rfl) ?_
        refine h_op (r_extract rfl rfl) ?_
        refine h_op (r_extract rfl rfl) ?_
        refine h_op (r_assign rfl) ?_
        refine h_op (r_assign rfl) ?_
        refine h_nil ?_
        refine q_then ?_
        refine h_seq ?_
        refine h_reg ?_
        refine h_op (r_move rfl) ?_
        refine h_op (r_loadr rfl) ?_
        refine h_op (r_loadr rfl) ?_
        refine h_call ((hR gh gc).comes) rfl rfl rfl fun _ => ?_
        refine h_op (r_move rfl) ?_
        refine h_op (r_extract rfl rfl) ?_
        refine h_op (r_extract rfl rfl) ?_
        refine h_opX (x_alloc) fun g10 => ?_
        refine h_opS (s_storer rfl rfl) ?_
        refine h_op (r_assign rfl) ?_
        refine h_nil ?_
        refine q_then ?_
        refine h_seq ?_
        refine h_seq ?_
        refine h_reg ?_
        refine h_op (r_loadr rfl) ?_
        refine h_call ((rCheck_s p).comes) rfl rfl rfl fun _ => ?_
        rw [hc]
        refine h_op (r_assign rfl) ?_
        refine h_nil ?_
        refine q_then ?_
        refine h_seq ?_
        refine h_reg ?_
        refine h_op (r_move rfl) ?_
        refine h_op (r_neq rfl rfl) ?_
        refine h_nil ?_
        refine q_then ?_
        refine h_no rfl ((fun h => h rfl)) ?_
        refine h_skip ?_
        refine q_then ?_
        refine h_seq ?_
        refine h_reg ?_
        refine h_op (r_move rfl) ?_
        refine h_op (r_loadr rfl) ?_
        refine h_op (r_loadr rfl) ?_
        refine h_call (hS2.comes) rfl rfl rfl fun ⟨g70, c70⟩ => ?_
        dsimp only
        refine h_op (r_assign rfl) ?_
        refine h_nil ?_
        refine q_then ?_
        refine h_seq ?_
        refine ha_start [.blk g10 (sumB n (wayP n key ds (endP p) d)).cells 24, .own (.slice (some ⟨g70, 0, none⟩) (d + 1) c70) (d + 1) 24 32 (dgs (stepL n key ds (endP p) (d + 1)))] [] mixed (same) ?_
        refine ha_one 0 ?_
        refine ho_C 0 rfl (alive_s.comes) rfl rfl rfl (fun _ => same) fun _ => ?_
        refine ha_takeP 1 rfl (r_move rfl) ?_
        refine ha_takeP 2 rfl (r_move rfl) ?_
        refine ha_takeP 3 rfl (r_bool (r_eql rfl rfl) (show _ = true by decide)) ?_
        refine ha_takeP 4 rfl (r_pick rfl rfl) ?_
        refine ha_takeP 5 rfl (r_move rfl) ?_
        refine ha_takeP 6 rfl (r_move rfl) ?_
        refine ha_takeP 7 rfl (r_bool (r_eql rfl rfl) (show _ = true by decide)) ?_
        refine ha_takeP 8 rfl (r_pick rfl rfl) ?_
        refine ha_takeP 9 rfl (r_move rfl) ?_
        refine ha_takeP 10 rfl (r_move rfl) ?_
        refine ha_takeP 11 rfl (r_move rfl) ?_
        refine ha_one 12 ?_
        refine ho_C 12 rfl ((hEq (some ⟨g32, 0, none⟩) (some ⟨g70, 0, none⟩) c32 c70).comes) rfl rfl rfl (fun _ => same) fun _ => ?_
        refine ha_takeP 13 rfl (r_pick rfl rfl) ?_
        refine ha_takeP 14 rfl (r_move rfl) ?_
        refine ha_take 15 rfl (r_loadr rfl) ?_
        refine ha_takeP 16 rfl (r_move rfl) ?_
        refine ha_takeP 17 rfl (r_move rfl) ?_
        refine ha_takeP 18 rfl (r_len rfl) ?_
        refine ha_takeP 19 rfl (r_subN rfl rfl (m := d) (hm := by omega)) ?_
        refine ha_takeP 20 rfl (r_idx rfl rfl) ?_
        refine ha_take 21 rfl (r_nthr rfl (B32.cells_length _) hat) ?_
        refine ha_takeP 22 rfl (r_bool (r_eqr rfl rfl) (show _ = true by simp)) ?_
        refine ha_takeP 23 rfl (r_pick rfl rfl) ?_
        refine ha_takeP 24 rfl (r_assign rfl) ?_
        refine ha_done (by kernel_rfl) ?_
        refine q_then ?_
        refine h_ret ?_
        exact h_ret1 rfl rfl fun w s => ⟨(), rfl, s.res (List.nil_sublist _) (by simp)⟩
      · refine h_seq ?_
        refine h_reg ?_
        refine h_opX (x_box rfl) fun g4 => ?_
        refine h_opX (x_box rfl) fun g5 => ?_
        refine h_op (r_assign rfl) ?_
        refine h_nil ?_
        refine q_then ?_
        refine h_seq ?_
        refine h_seq ?_
        refine h_reg ?_
        refine h_op (r_move rfl) ?_
        refine h_call ((Right_yes n hn).comes) rfl rfl rfl fun _ => ?_
        refine h_op (r_not rfl) ?_
        refine h_op (r_move rfl) ?_
        refine h_op (r_field rfl) ?_
        refine h_op (r_loadc rfl) ?_
        refine h_op (r_len rfl) ?_
        refine h_op (r_bool (r_gtr rfl rfl) (decide_eq_false (by omega))) ?_
        refine h_op (r_pick rfl rfl) ?_
        refine h_nil ?_
        refine q_then ?_
        refine h_condF rfl ?_
        refine h_skip ?_
        refine q_then ?_
        refine h_seq ?_
        refine h_reg ?_
        refine h_op (r_move rfl) ?_
        refine h_call ((Hash_s n hn).comes) rfl rfl rfl fun ⟨gh, gc⟩ => ?_
        dsimp only
        refine h_op (r_assign rfl) ?_
        refine h_nil ?_
        refine q_then ?_
        refine h_seq ?_
        refine h_seq ?_
        refine h_reg ?_
        refine h_op (r_move rfl) ?_
        refine h_op (r_nilR rfl rfl) ?_
        refine h_nil ?_
        refine q_then ?_
        refine h_condF rfl ?_
        refine h_skip ?_
        refine q_then ?_
        refine h_seq ?_
        refine h_reg ?_
        refine h_op (r_move rfl) ?_
        refine h_op (r_loadr rfl) ?_
        refine h_op (r_loadr rfl) ?_
        refine h_call ((Steps_bad p hc key gh).comes) rfl rfl rfl fun _ => ?_
        refine h_op (r_move rfl) ?_
        refine h_op (r_extract rfl rfl) ?_
        refine h_op (r_extract rfl rfl) ?_
        refine h_op (r_assign rfl) ?_
        refine h_op (r_assign rfl) ?_
        refine h_nil ?_
        refine q_then ?_
        refine h_seq ?_
        refine h_reg ?_
        refine h_op (r_move rfl) ?_
        refine h_op (r_loadr rfl) ?_
        refine h_op (r_loadr rfl) ?_
        refine h_call ((Root_bad p hc key gh).comes) rfl rfl rfl fun _ => ?_
        refine h_op (r_move rfl) ?_
        refine h_op (r_extract rfl rfl) ?_
        refine h_op (r_extract rfl rfl) ?_
        refine h_opX (x_alloc) fun g10 => ?_
        refine h_opS (s_storer rfl rfl) ?_
        refine h_op (r_assign rfl) ?_
        refine h_nil ?_
        refine q_then ?_
        refine h_seq ?_
        refine h_seq ?_
        refine h_reg ?_
        refine h_op (r_loadr rfl) ?_
        refine h_call ((rCheck_s p).comes) rfl rfl rfl fun _ => ?_
        refine h_op (r_assign rfl) ?_
        refine h_nil ?_
        refine q_then ?_
        refine h_seq ?_
        refine h_reg ?_
        refine h_op (r_move rfl) ?_
        refine h_op (r_neq rfl rfl) ?_
        refine h_nil ?_
        refine q_then ?_
        refine h_yes rfl (hc) ?_
        refine h_seq ?_
        refine h_reg ?_
        refine h_call (alive_s.comes) rfl rfl rfl fun _ => ?_
        refine h_op (r_move rfl) ?_
        refine h_op (r_move rfl) ?_
        refine h_op (r_len rfl) ?_
        refine h_op (r_bool (r_eql rfl rfl) (show _ = true by decide)) ?_
        refine h_op (r_pick rfl rfl) ?_
        refine h_op (r_move rfl) ?_
        refine h_op (r_move rfl) ?_
        refine h_op (r_move rfl) ?_
        refine h_op (r_bool (r_eql rfl rfl) (show _ = true by simp)) ?_
        refine h_op (r_pick rfl rfl) ?_
        refine h_op (r_move rfl) ?_
        refine h_op (r_loadr rfl) ?_
        refine h_op (r_build rfl) ?_
        refine h_op (r_bool (r_eqr rfl rfl) (show _ = true by simp)) ?_
        refine h_op (r_pick rfl rfl) ?_
        refine h_op (r_move rfl) ?_
        refine h_op (r_move rfl) ?_
        refine h_op (r_move rfl) ?_
        refine h_op (r_bool (r_eql rfl rfl) (show _ = true by simp)) ?_
        refine h_op (r_pick rfl rfl) ?_
        refine h_op (r_assign rfl) ?_
        refine h_nil ?_
        refine q_then ?_
        refine h_ret ?_
        refine q_thenR ?_
        exact h_ret1 rfl rfl fun w s => ⟨(), rfl, s.res (List.nil_sublist _) (by simp)⟩
  · refine h_seq ?_
    refine h_reg ?_
    refine h_opX (x_box rfl) fun g4 => ?_
    refine h_opX (x_box rfl) fun g5 => ?_
    refine h_op (r_assign rfl) ?_
    refine h_nil ?_
    refine q_then ?_
    refine h_seq ?_
    refine h_seq ?_
    refine h_reg ?_
    refine h_op (r_move rfl) ?_
    refine h_call ((Right_no i hi).comes) rfl rfl rfl fun _ => ?_
    refine h_op (r_not rfl) ?_
    refine h_op (r_move rfl) ?_
    refine h_opOff ?_
    refine h_opOff ?_
    refine h_opOff ?_
    refine h_opOff ?_
    refine h_op (r_pick rfl rfl) ?_
    refine h_nil ?_
    refine q_then ?_
    refine h_condT rfl ?_
    refine h_seq ?_
    refine h_reg ?_
    refine h_call (alive_s.comes) rfl rfl rfl fun _ => ?_
    refine h_op (r_assign rfl) ?_
    refine h_nil ?_
    refine q_then ?_
    refine h_ret ?_
    refine q_thenR ?_
    exact h_ret1 rfl rfl fun w s => ⟨(), rfl, s.res (List.nil_sublist _) (by simp)⟩
end Go.Proofs.YtfjlpndohnianaaDoor
