/- law16.FoldPreimages: it is true; law16.FoldForgets: it is true (joined texts: U31 U32) -/
import Derived.Test.YtfjlpndohnianaaDoorZ11
set_option linter.all false
/- U31 -/
namespace Go.Proofs.YtfjlpndohnianaaDoor
set_option linter.unusedSimpArgs false
set_option linter.unusedVariables false
open Go.RowKit
instance (priority := 6) (m n R : List Fa) : TakeTl (m ++ n) (m ++ (n ++ R)) R := ⟨by rw [List.append_assoc]⟩
theorem rds_pair {L : List Fa} {r q : Fa} (h : Rd1 L r) (h' : Rd1 L q) : Rds L [r, q] := inferInstance
theorem FoldPreimages_s (i : Int) (p : Proof) (key : B32) (ss : List B32) (hs : p.sibs.n = ss.length) : Spec Tryd.prog 4 [.int .i64 i, .agg p.cells.toArray, .agg key.cells.toArray].toArray [.rd p.sibs.A (dgs ss), .rd (some ⟨0, 0, none⟩) hashT] [] (fun _ : Unit => .bool true) (fun _ => []) := by
  refine spec_of Tryd.func4 rfl (n := 79) rfl rfl ?_
  intro W
  by_cases hi : 0 ≤ i ∧ i ≤ 256
  · obtain ⟨n, rfl⟩ : ∃ n : Nat, i = (n : Int) := ⟨i.toNat, by omega⟩
    have hn : n ≤ 256 := by omega
    by_cases h3 : 300 < p.sibs.n
    · refine h_seq ?_
      refine h_reg ?_
      refine h_opX (x_box rfl) fun g4 => ?_
      refine h_opX (x_box rfl) fun g5 => ?_
      refine h_op (r_assign rfl) ?_
      refine h_nil ?_
      refine q_then ?_
      refine h_seq ?_
      refine h_seq ?_
      refine h_reg ?_
      refine h_op (r_move rfl) ?_
      refine h_call ((Right_yes n hn).comes) rfl rfl rfl fun _ => ?_
      refine h_op (r_not rfl) ?_
      refine h_op (r_move rfl) ?_
      refine h_op (r_field rfl) ?_
      refine h_op (r_loadc rfl) ?_
      refine h_op (r_len rfl) ?_
      refine h_op (r_bool (r_gtr rfl rfl) (decide_eq_true (by omega))) ?_
      refine h_op (r_pick rfl rfl) ?_
      refine h_nil ?_
      refine q_then ?_
      refine h_condT rfl ?_
      refine h_seq ?_
      refine h_reg ?_
      refine h_call (alive_s.comes) rfl rfl rfl fun _ => ?_
      refine h_op (r_assign rfl) ?_
      refine h_nil ?_
      refine q_then ?_
      refine h_ret ?_
      refine q_thenR ?_
      exact h_ret1 rfl rfl fun w s => ⟨(), rfl, s.res (List.nil_sublist _) (by simp)⟩
    · by_cases hc : checkP p = 0
      · have hd2 := ok_depth hc
        obtain ⟨d, hd⟩ : ∃ d : Nat, p.depth = (d : Int) := ⟨p.depth.toNat, by omega⟩
        have hP := fun gh gc => Pre_s p hc ss hs key n hn gh gc 0 (by omega) d hd
        have hP2 := rPre_s p hc ss hs key n hn d hd
        have hwl := wayP_len n key (expL (sumB n preE) p.bitmap ss d) (endP p) (endP_len p)
        generalize expL (sumB n preE) p.bitmap ss d = ds at *
        refine h_seq ?_
        refine h_reg ?_
        refine h_opX (x_box rfl) fun g4 => ?_
        refine h_opX (x_box rfl) fun g5 => ?_
        refine h_op (r_assign rfl) ?_
        refine h_nil ?_
        refine q_then ?_
        refine h_seq ?_
        refine h_seq ?_
        refine h_reg ?_
        refine h_op (r_move rfl) ?_
        refine h_call ((Right_yes n hn).comes) rfl rfl rfl fun _ => ?_
        refine h_op (r_not rfl) ?_
        refine h_op (r_move rfl) ?_
        refine h_op (r_field rfl) ?_
        refine h_op (r_loadc rfl) ?_
        refine h_op (r_len rfl) ?_
        refine h_op (r_bool (r_gtr rfl rfl) (decide_eq_false (by omega))) ?_
        refine h_op (r_pick rfl rfl) ?_
        refine h_nil ?_
        refine q_then ?_
        refine h_condF rfl ?_
        refine h_skip ?_
        refine q_then ?_
        refine h_seq ?_
        refine h_reg ?_
        refine h_op (r_move rfl) ?_
        refine h_call ((Hash_s n hn).comes) rfl rfl rfl fun ⟨gh, gc⟩ => ?_
        dsimp only
        refine h_op (r_assign rfl) ?_
        refine h_nil ?_
        refine q_then ?_
        refine h_seq ?_
        refine h_seq ?_
        refine h_reg ?_
        refine h_op (r_move rfl) ?_
        refine h_op (r_nilR rfl rfl) ?_
        refine h_nil ?_
        refine q_then ?_
        refine h_condF rfl ?_
        refine h_skip ?_
        refine q_then ?_
        refine h_seq ?_
        refine h_reg ?_
        refine h_op (r_move rfl) ?_
        refine h_op (r_loadr rfl) ?_
        refine h_op (r_loadr rfl) ?_
        refine h_call ((hP gh gc).comes) rfl rfl rfl fun ⟨⟨g31, c31, xs⟩, hxs⟩ => ?_
        dsimp only at hxs ⊢
        refine h_L (fun w s => Sx.mid0 (pre := [_, _]) (m := ownsOf xs) (l := [.blk gh [.pointer (some ⟨gc, 0, none⟩), .int .i64 (n : Int)] 76, .blk g5 key.cells 23, .blk g4 p.cells 29, .rd p.sibs.A (dgs ss), .rd (some ⟨0, 0, none⟩) hashT]) s) ?_
        simp only [List.nil_append, List.cons_append]
        refine h_op (r_move rfl) ?_
        refine h_op (r_extract rfl rfl) ?_
        refine h_op (r_extract rfl rfl) ?_
        refine h_op (r_assign rfl) ?_
        refine h_op (r_assign rfl) ?_
        refine h_nil ?_
        refine q_then ?_
        refine h_seq ?_
        refine h_seq ?_
        refine h_reg ?_
        refine h_op (r_loadr rfl) ?_
        refine h_call ((rCheck_s p).comes) rfl rfl rfl fun _ => ?_
        rw [hc]
        refine h_op (r_assign rfl) ?_
        refine h_nil ?_
        refine q_then ?_
        refine h_seq ?_
        refine h_reg ?_
        refine h_op (r_move rfl) ?_
        refine h_op (r_neq rfl rfl) ?_
        refine h_nil ?_
        refine q_then ?_
        refine h_no rfl ((fun h => h rfl)) ?_
        refine h_skip ?_
        refine q_then ?_
        refine h_seq ?_
        refine h_reg ?_
        refine h_op (r_move rfl) ?_
        refine h_op (r_loadr rfl) ?_
        refine h_op (r_loadr rfl) ?_
        refine h_call (hP2.comes) rfl rfl rfl fun ⟨⟨g52, c52, ys⟩, hys⟩ => ?_
        dsimp only at hys ⊢
        refine h_L (fun w s => Sx.mid (pre := [_]) (m := ownsOf ys) (l := [.own (.slice (some ⟨g31, 0, none⟩) (d + 1) c31) (d + 1) 36 1 (svs xs), .blk gc [.int .i64 ((0 + 1 + d + 1 : Nat) : Int)] 78, .blk gh [.pointer (some ⟨gc, 0, none⟩), .int .i64 (n : Int)] 76, .blk g5 key.cells 23, .blk g4 p.cells 29, .rd p.sibs.A (dgs ss), .rd (some ⟨0, 0, none⟩) hashT]) (R := ownsOf xs) s) ?_
        simp only [List.nil_append, List.cons_append]
        have hxl : xs.length = d + 1 := by rw [hxs.len, List.length_reverse, preLs_len]
        have hyl : ys.length = d + 1 := by rw [hys.len, List.length_reverse, preLs_len]
        refine h_op (r_assign rfl) ?_
        refine h_nil ?_
        refine q_then ?_
        refine h_seq ?_
        refine h_seq ?_
        refine h_reg ?_
        refine h_op (r_move rfl) ?_
        refine h_op (r_bool (r_neq rfl rfl) (show _ = false by decide)) ?_
        refine h_op (r_move rfl) ?_
        refine h_op (r_move rfl) ?_
        refine h_op (r_len rfl) ?_
        refine h_op (r_move rfl) ?_
        refine h_op (r_len rfl) ?_
        refine h_op (r_bool (r_neq rfl rfl) (decide_eq_false (fun h => h rfl))) ?_
        refine h_op (r_pick rfl rfl) ?_
        refine h_nil ?_
        refine q_then ?_
        refine h_condF rfl ?_
        refine h_skip ?_
        refine q_then ?_
        refine h_seq ?_
        refine h_seq ?_
        refine h_reg ?_
        refine h_op (r_move rfl) ?_
        refine h_op (r_len rfl) ?_
        refine h_op (r_move rfl) ?_
        refine h_nil ?_
        refine q_then ?_
        refine h_block ?_
        refine h_loop (fun (k : Nat) => k ≤ d + 1) (fun (k : Nat) => [(64, .int .i64 (k : Int)), (63, .int .i64 ((d + 1 : Nat) : Int)), (8, .slice (some ⟨g31, 0, none⟩) (d + 1) c31), (11, .slice (some ⟨g52, 0, none⟩) (d + 1) c52)]) (fun (k : Nat) => .own (.slice (some ⟨g52, 0, none⟩) (d + 1) c52) (d + 1) 36 1 (svs ys) :: .own (.slice (some ⟨g31, 0, none⟩) (d + 1) c31) (d + 1) 36 1 (svs xs) :: .rd (some ⟨0, 0, none⟩) hashT :: (ownsOf ys ++ ownsOf xs)) (fun (k : Nat) => d + 1 - k) 0 (Nat.zero_le _) ⟨rfl, rfl, rfl, rfl, trivial⟩ (same) ?_
        intro k hk
        refine h_seq ?_
        refine h_reg ?_
        refine h_op (r_lss rfl rfl) ?_
        refine h_nil ?_
        refine q_then ?_
        refine h_seq ?_
        refine h_cond rfl (fun h => ?_) (fun h => ?_)
        · have hkd : k ≤ d := by omega
          have hat := preLs_at n key ds (endP p) d (d - k) (by omega)
          rw [show d - (d - k) = k by omega] at hat
          obtain ⟨gx, cx, hx⟩ := hxs.at hat
          obtain ⟨gy, cy, hy⟩ := hys.at hat
          have hlk := hwl (d - k)
          refine h_skip ?_
          refine q_then ?_
          refine h_seq ?_
          refine h_block ?_
          refine h_seq ?_
          refine h_reg ?_
          refine h_op (r_move rfl) ?_
          refine h_op (r_assign rfl) ?_
          refine h_nil ?_
          refine q_then ?_
          refine h_seq ?_
          refine ha_start [.own (.slice (some ⟨g52, 0, none⟩) (d + 1) c52) (d + 1) 36 1 (svs ys), .own (.slice (some ⟨g31, 0, none⟩) (d + 1) c31) (d + 1) 36 1 (svs xs)] [] mixed (same) ?_
          refine ha_takeP 0 rfl (r_move rfl) ?_
          refine ha_takeP 1 rfl (r_move rfl) ?_
          refine ha_takeP 2 rfl (r_idx rfl rfl) ?_
          refine ha_take 3 rfl (r_nth rfl (v := .slice (some ⟨gx, 0, none⟩) (wayP n key ds (endP p) (d - k)).length cx) (svs_get hx)) ?_
          refine ha_takeP 4 rfl (r_move rfl) ?_
          refine ha_takeP 5 rfl (r_move rfl) ?_
          refine ha_takeP 6 rfl (r_idx rfl rfl) ?_
          refine ha_take 7 rfl (r_nth rfl (v := .slice (some ⟨gy, 0, none⟩) (wayP n key ds (endP p) (d - k)).length cy) (svs_get hy)) ?_
          refine ha_one 8 ?_
          refine ho_C 8 rfl ((Same_yes (wayP n key ds (endP p) (d - k)) (some ⟨gx, 0, none⟩) (some ⟨gy, 0, none⟩) cx cy (by omega)).comes (hr := rds_pair (rd1_own (List.mem_cons_of_mem _ (List.mem_cons_of_mem _ (List.mem_cons_of_mem _ (List.mem_append_right _ (ownsOf_mem (List.mem_of_getElem? hx))))))) (rd1_own (List.mem_cons_of_mem _ (List.mem_cons_of_mem _ (List.mem_cons_of_mem _ (List.mem_append_left _ (ownsOf_mem (List.mem_of_getElem? hy))))))))) rfl rfl rfl (fun _ => same) fun _ => ?_
          refine ha_takeP 9 rfl (r_not rfl) ?_
          refine ha_done (by kernel_rfl) ?_
          refine q_then ?_
          refine h_condF rfl ?_
          refine h_skip ?_
          refine q_block ?_
          refine q_then ?_
          refine h_reg ?_
          refine h_op (r_add rfl rfl) ?_
          refine h_op (r_move rfl) ?_
          refine h_nil ?_
          exact h_back (k + 1) (by omega) (by omega) ⟨rfl, rfl, rfl, rfl, trivial⟩ (same)
        · refine h_exit ?_
          refine q_thenE ?_
          refine q_thenE ?_
          refine q_blockE ?_
          refine q_then ?_
          refine h_seq ?_
          refine h_reg ?_
          refine h_call (alive_s.comes) rfl rfl rfl fun _ => ?_
          refine h_op (r_assign rfl) ?_
          refine h_nil ?_
          refine q_then ?_
          refine h_ret ?_
          exact h_ret1 rfl rfl fun w s => ⟨(), rfl, s.res (List.nil_sublist _) (by simp)⟩
      · refine h_seq ?_
        refine h_reg ?_
        refine h_opX (x_box rfl) fun g4 => ?_
        refine h_opX (x_box rfl) fun g5 => ?_
        refine h_op (r_assign rfl) ?_
        refine h_nil ?_
        refine q_then ?_
        refine h_seq ?_
        refine h_seq ?_
        refine h_reg ?_
        refine h_op (r_move rfl) ?_
        refine h_call ((Right_yes n hn).comes) rfl rfl rfl fun _ => ?_
        refine h_op (r_not rfl) ?_
        refine h_op (r_move rfl) ?_
        refine h_op (r_field rfl) ?_
        refine h_op (r_loadc rfl) ?_
        refine h_op (r_len rfl) ?_
        refine h_op (r_bool (r_gtr rfl rfl) (decide_eq_false (by omega))) ?_
        refine h_op (r_pick rfl rfl) ?_
        refine h_nil ?_
        refine q_then ?_
        refine h_condF rfl ?_
        refine h_skip ?_
        refine q_then ?_
        refine h_seq ?_
        refine h_reg ?_
        refine h_op (r_move rfl) ?_
        refine h_call ((Hash_s n hn).comes) rfl rfl rfl fun ⟨gh, gc⟩ => ?_
        dsimp only
        refine h_op (r_assign rfl) ?_
        refine h_nil ?_
        refine q_then ?_
        refine h_seq ?_
        refine h_seq ?_
        refine h_reg ?_
        refine h_op (r_move rfl) ?_
        refine h_op (r_nilR rfl rfl) ?_
        refine h_nil ?_
        refine q_then ?_
        refine h_condF rfl ?_
        refine h_skip ?_
        refine q_then ?_
        refine h_seq ?_
        refine h_reg ?_
        refine h_op (r_move rfl) ?_
        refine h_op (r_loadr rfl) ?_
        refine h_op (r_loadr rfl) ?_
        refine h_call ((Pre_bad p hc key gh).comes) rfl rfl rfl fun _ => ?_
        refine h_op (r_move rfl) ?_
        refine h_op (r_extract rfl rfl) ?_
        refine h_op (r_extract rfl rfl) ?_
        refine h_op (r_assign rfl) ?_
        refine h_op (r_assign rfl) ?_
        refine h_nil ?_
        refine q_then ?_
        refine h_seq ?_
        refine h_seq ?_
        refine h_reg ?_
        refine h_op (r_loadr rfl) ?_
        refine h_call ((rCheck_s p).comes) rfl rfl rfl fun _ => ?_
        refine h_op (r_assign rfl) ?_
        refine h_nil ?_
        refine q_then ?_
        refine h_seq ?_
        refine h_reg ?_
        refine h_op (r_move rfl) ?_
        refine h_op (r_neq rfl rfl) ?_
        refine h_nil ?_
        refine q_then ?_
        refine h_yes rfl (hc) ?_
        refine h_seq ?_
        refine h_reg ?_
        refine h_call (alive_s.comes) rfl rfl rfl fun _ => ?_
        refine h_op (r_move rfl) ?_
        refine h_op (r_move rfl) ?_
        refine h_op (r_len rfl) ?_
        refine h_op (r_bool (r_eql rfl rfl) (show _ = true by decide)) ?_
        refine h_op (r_pick rfl rfl) ?_
        refine h_op (r_move rfl) ?_
        refine h_op (r_move rfl) ?_
        refine h_op (r_move rfl) ?_
        refine h_op (r_bool (r_eql rfl rfl) (show _ = true by simp)) ?_
        refine h_op (r_pick rfl rfl) ?_
        refine h_op (r_assign rfl) ?_
        refine h_nil ?_
        refine q_then ?_
        refine h_ret ?_
        refine q_thenR ?_
        exact h_ret1 rfl rfl fun w s => ⟨(), rfl, s.res (List.nil_sublist _) (by simp)⟩
  · refine h_seq ?_
    refine h_reg ?_
    refine h_opX (x_box rfl) fun g4 => ?_
    refine h_opX (x_box rfl) fun g5 => ?_
    refine h_op (r_assign rfl) ?_
    refine h_nil ?_
    refine q_then ?_
    refine h_seq ?_
    refine h_seq ?_
    refine h_reg ?_
    refine h_op (r_move rfl) ?_
    refine h_call ((Right_no i hi).comes) rfl rfl rfl fun _ => ?_
    refine h_op (r_not rfl) ?_
    refine h_op (r_move rfl) ?_
    refine h_opOff ?_
    refine h_opOff ?_
    refine h_opOff ?_
    refine h_opOff ?_
    refine h_op (r_pick rfl rfl) ?_
    refine h_nil ?_
    refine q_then ?_
    refine h_condT rfl ?_
    refine h_seq ?_
    refine h_reg ?_
    refine h_call (alive_s.comes) rfl rfl rfl fun _ => ?_
    refine h_op (r_assign rfl) ?_
    refine h_nil ?_
    refine q_then ?_
    refine h_ret ?_
    refine q_thenR ?_
    exact h_ret1 rfl rfl fun w s => ⟨(), rfl, s.res (List.nil_sublist _) (by simp)⟩
end Go.Proofs.YtfjlpndohnianaaDoor
/- U32 -/
namespace Go.Proofs.YtfjlpndohnianaaDoor
set_option linter.unusedSimpArgs false
set_option linter.unusedVariables false
open Go.RowKit
theorem common_below {a b : B32} {i : Nat} (h : i < common a b) : bitAt a i = bitAt b i := by
  unfold common at h
  cases hf : (List.range 256).find? (fun i => bitAt a i ^^ bitAt b i) with
  | none =>
    rw [hf] at h
    have := List.find?_eq_none.1 hf i (by simpa using h)
    simpa using this
  | some m =>
    rw [hf] at h
    rw [List.find?_range_eq_some] at hf
    have := hf.2.2 i (by simpa using h)
    simpa using this
theorem wayP_same (n : Nat) (a b : B32) (ds : List B32) (pre : List UInt8) (h : ∀ i, i < ds.length → bitAt a i = bitAt b i) : ∀ k, k ≤ ds.length → wayP n a ds pre k = wayP n b ds pre k
  | 0, _ => rfl
  | k + 1, hk => by rw [wayP, wayP, wayP_same n a b ds pre h k (by omega), h _ (by omega)]
theorem FoldForgets_s (i : Int) (p : Proof) (a b : B32) (ss : List B32) (hs : p.sibs.n = ss.length) : Spec Tryd.prog 5 [.int .i64 i, .agg p.cells.toArray, .agg (a.cells ++ b.cells).toArray].toArray [.rd p.sibs.A (dgs ss), .rd (some ⟨0, 0, none⟩) hashT] [] (fun _ : Unit => .bool true) (fun _ => []) := by
  refine spec_of Tryd.func5 rfl (n := 63) rfl rfl ?_
  intro W
  by_cases hi : 0 ≤ i ∧ i ≤ 256
  · obtain ⟨n, rfl⟩ : ∃ n : Nat, i = (n : Int) := ⟨i.toNat, by omega⟩
    have hn : n ≤ 256 := by omega
    by_cases h3 : 300 < p.sibs.n
    · refine h_seq ?_
      refine h_reg ?_
      refine h_opX (x_box rfl) fun g4 => ?_
      refine h_opX (x_box rfl) fun g5 => ?_
      refine h_op (r_assign rfl) ?_
      refine h_nil ?_
      refine q_then ?_
      refine h_seq ?_
      refine h_seq ?_
      refine ha_start [.blk g5 (a.cells ++ b.cells) 48, .blk g4 p.cells 29] [] mixed (same) ?_
      refine ha_takeP 0 rfl (r_move rfl) ?_
      refine ha_one 1 ?_
      refine ho_C 1 rfl ((Right_yes n hn).comes) rfl rfl rfl (fun _ => same) fun _ => ?_
      refine ha_takeP 2 rfl (r_not rfl) ?_
      refine ha_takeP 3 rfl (r_move rfl) ?_
      refine ha_takeP 4 rfl (r_field rfl) ?_
      refine ha_take 5 rfl (r_loadc rfl) ?_
      refine ha_takeP 6 rfl (r_len rfl) ?_
      refine ha_takeP 7 rfl (r_bool (r_gtr rfl rfl) (decide_eq_true (by omega))) ?_
      refine ha_takeP 8 rfl (r_pick rfl rfl) ?_
      refine ha_takeP 9 rfl (r_move rfl) ?_
      refine ha_off 10 rfl ?_
      refine ha_off 11 rfl ?_
      refine ha_off 12 rfl ?_
      refine ha_off 13 rfl ?_
      refine ha_off 14 rfl ?_
      refine ha_off 15 rfl ?_
      refine ha_off 16 rfl ?_
      refine ha_off 17 rfl ?_
      refine ha_takeP 18 rfl (r_pick rfl rfl) ?_
      refine ha_done (by kernel_rfl) ?_
      refine q_then ?_
      refine h_condT rfl ?_
      refine h_seq ?_
      refine h_reg ?_
      refine h_call (alive_s.comes) rfl rfl rfl fun _ => ?_
      refine h_op (r_assign rfl) ?_
      refine h_nil ?_
      refine q_then ?_
      refine h_ret ?_
      refine q_thenR ?_
      exact h_ret1 rfl rfl fun w s => ⟨(), rfl, s.res (List.nil_sublist _) (by simp)⟩
    · by_cases hcm : (common a b : Int) < p.depth
      · refine h_seq ?_
        refine h_reg ?_
        refine h_opX (x_box rfl) fun g4 => ?_
        refine h_opX (x_box rfl) fun g5 => ?_
        refine h_op (r_assign rfl) ?_
        refine h_nil ?_
        refine q_then ?_
        refine h_seq ?_
        refine h_seq ?_
        refine ha_start [.blk g5 (a.cells ++ b.cells) 48, .blk g4 p.cells 29] [] mixed (same) ?_
        refine ha_takeP 0 rfl (r_move rfl) ?_
        refine ha_one 1 ?_
        refine ho_C 1 rfl ((Right_yes n hn).comes) rfl rfl rfl (fun _ => same) fun _ => ?_
        refine ha_takeP 2 rfl (r_not rfl) ?_
        refine ha_takeP 3 rfl (r_move rfl) ?_
        refine ha_takeP 4 rfl (r_field rfl) ?_
        refine ha_take 5 rfl (r_loadc rfl) ?_
        refine ha_takeP 6 rfl (r_len rfl) ?_
        refine ha_takeP 7 rfl (r_bool (r_gtr rfl rfl) (decide_eq_false (by omega))) ?_
        refine ha_takeP 8 rfl (r_pick rfl rfl) ?_
        refine ha_takeP 9 rfl (r_move rfl) ?_
        refine ha_takeP 10 rfl (r_idxA rfl rfl) ?_
        refine ha_take 11 rfl (r_loadr rfl) ?_
        refine ha_takeP 12 rfl (r_idxA rfl rfl) ?_
        refine ha_take 13 rfl (r_loadr rfl) ?_
        refine ha_takeP 15 rfl (r_field rfl) ?_
        refine ha_take 16 rfl (r_loadc rfl) ?_
        refine ha_one 14 ?_
        refine ho_C 14 rfl ((refCommon_s a b).comes) rfl rfl rfl (fun _ => same) fun _ => ?_
        refine ha_takeP 17 rfl (r_bool (r_lss rfl rfl) (decide_eq_true hcm)) ?_
        refine ha_takeP 18 rfl (r_pick rfl rfl) ?_
        refine ha_done (by kernel_rfl) ?_
        refine q_then ?_
        refine h_condT rfl ?_
        refine h_seq ?_
        refine h_reg ?_
        refine h_call (alive_s.comes) rfl rfl rfl fun _ => ?_
        refine h_op (r_assign rfl) ?_
        refine h_nil ?_
        refine q_then ?_
        refine h_ret ?_
        refine q_thenR ?_
        exact h_ret1 rfl rfl fun w s => ⟨(), rfl, s.res (List.nil_sublist _) (by simp)⟩
      · by_cases hc : checkP p = 0
        · have hd2 := ok_depth hc
          obtain ⟨d, hd⟩ : ∃ d : Nat, p.depth = (d : Int) := ⟨p.depth.toNat, by omega⟩
          have hR := fun gh gc => Root_s p hc ss hs a n hn gh gc 0 (by omega) d hd
          have hR2 := fun gh gc => Root_s p hc ss hs b n hn gh gc (0 + 1 + d + 1) (by omega) d hd
          have hlen := expL_len (sumB n preE) p.bitmap ss d
          have hw := wayP_same n a b (expL (sumB n preE) p.bitmap ss d) (endP p) (fun i hi => common_below (by omega)) d (by omega)
          rw [hw] at hR
          generalize sumB n (wayP n b (expL (sumB n preE) p.bitmap ss d) (endP p) d) = x at *
          refine h_seq ?_
          refine h_reg ?_
          refine h_opX (x_box rfl) fun g4 => ?_
          refine h_opX (x_box rfl) fun g5 => ?_
          refine h_op (r_assign rfl) ?_
          refine h_nil ?_
          refine q_then ?_
          refine h_seq ?_
          refine h_seq ?_
          refine ha_start [.blk g5 (a.cells ++ b.cells) 48, .blk g4 p.cells 29] [] mixed (same) ?_
          refine ha_takeP 0 rfl (r_move rfl) ?_
          refine ha_one 1 ?_
          refine ho_C 1 rfl ((Right_yes n hn).comes) rfl rfl rfl (fun _ => same) fun _ => ?_
          refine ha_takeP 2 rfl (r_not rfl) ?_
          refine ha_takeP 3 rfl (r_move rfl) ?_
          refine ha_takeP 4 rfl (r_field rfl) ?_
          refine ha_take 5 rfl (r_loadc rfl) ?_
          refine ha_takeP 6 rfl (r_len rfl) ?_
          refine ha_takeP 7 rfl (r_bool (r_gtr rfl rfl) (decide_eq_false (by omega))) ?_
          refine ha_takeP 8 rfl (r_pick rfl rfl) ?_
          refine ha_takeP 9 rfl (r_move rfl) ?_
          refine ha_takeP 10 rfl (r_idxA rfl rfl) ?_
          refine ha_take 11 rfl (r_loadr rfl) ?_
          refine ha_takeP 12 rfl (r_idxA rfl rfl) ?_
          refine ha_take 13 rfl (r_loadr rfl) ?_
          refine ha_takeP 15 rfl (r_field rfl) ?_
          refine ha_take 16 rfl (r_loadc rfl) ?_
          refine ha_one 14 ?_
          refine ho_C 14 rfl ((refCommon_s a b).comes) rfl rfl rfl (fun _ => same) fun _ => ?_
          refine ha_takeP 17 rfl (r_bool (r_lss rfl rfl) (decide_eq_false hcm)) ?_
          refine ha_takeP 18 rfl (r_pick rfl rfl) ?_
          refine ha_done (by kernel_rfl) ?_
          refine q_then ?_
          refine h_condF rfl ?_
          refine h_skip ?_
          refine q_then ?_
          refine h_seq ?_
          refine h_reg ?_
          refine h_op (r_move rfl) ?_
          refine h_call ((Hash_s n hn).comes) rfl rfl rfl fun ⟨gh, gc⟩ => ?_
          dsimp only
          refine h_op (r_assign rfl) ?_
          refine h_nil ?_
          refine q_then ?_
          refine h_seq ?_
          refine h_seq ?_
          refine h_reg ?_
          refine h_op (r_move rfl) ?_
          refine h_op (r_nilR rfl rfl) ?_
          refine h_nil ?_
          refine q_then ?_
          refine h_condF rfl ?_
          refine h_skip ?_
          refine q_then ?_
          refine h_seq ?_
          refine h_reg ?_
          refine h_op (r_move rfl) ?_
          refine h_op (r_loadr rfl) ?_
          refine h_op (r_idxA rfl rfl) ?_
          refine h_op (r_loadr rfl) ?_
          refine h_call ((hR gh gc).comes) rfl rfl rfl fun _ => ?_
          refine h_op (r_move rfl) ?_
          refine h_op (r_extract rfl rfl) ?_
          refine h_op (r_extract rfl rfl) ?_
          refine h_opX (x_alloc) fun g8 => ?_
          refine h_opS (s_storer rfl rfl) ?_
          refine h_op (r_assign rfl) ?_
          refine h_nil ?_
          refine q_then ?_
          refine h_seq ?_
          refine h_reg ?_
          refine h_op (r_move rfl) ?_
          refine h_op (r_loadr rfl) ?_
          refine h_op (r_idxA rfl rfl) ?_
          refine h_op (r_loadr rfl) ?_
          refine h_call ((hR2 gh gc).comes) rfl rfl rfl fun _ => ?_
          refine h_op (r_move rfl) ?_
          refine h_op (r_extract rfl rfl) ?_
          refine h_op (r_extract rfl rfl) ?_
          refine h_opX (x_alloc) fun g10 => ?_
          refine h_opS (s_storer rfl rfl) ?_
          refine h_op (r_assign rfl) ?_
          refine h_nil ?_
          refine q_then ?_
          refine h_seq ?_
          refine h_reg ?_
          refine h_call (alive_s.comes) rfl rfl rfl fun _ => ?_
          refine h_op (r_move rfl) ?_
          refine h_op (r_loadr rfl) ?_
          refine h_op (r_loadr rfl) ?_
          refine h_op (r_bool (r_eqr rfl rfl) (show _ = true by simp)) ?_
          refine h_op (r_pick rfl rfl) ?_
          refine h_op (r_move rfl) ?_
          refine h_op (r_move rfl) ?_
          refine h_op (r_move rfl) ?_
          refine h_op (r_bool (r_eql rfl rfl) (show _ = true by decide)) ?_
          refine h_op (r_pick rfl rfl) ?_
          refine h_op (r_assign rfl) ?_
          refine h_nil ?_
          refine q_then ?_
          refine h_ret ?_
          exact h_ret1 rfl rfl fun w s => ⟨(), rfl, s.res (List.nil_sublist _) (by simp)⟩
        · refine h_seq ?_
          refine h_reg ?_
          refine h_opX (x_box rfl) fun g4 => ?_
          refine h_opX (x_box rfl) fun g5 => ?_
          refine h_op (r_assign rfl) ?_
          refine h_nil ?_
          refine q_then ?_
          refine h_seq ?_
          refine h_seq ?_
          refine ha_start [.blk g5 (a.cells ++ b.cells) 48, .blk g4 p.cells 29] [] mixed (same) ?_
          refine ha_takeP 0 rfl (r_move rfl) ?_
          refine ha_one 1 ?_
          refine ho_C 1 rfl ((Right_yes n hn).comes) rfl rfl rfl (fun _ => same) fun _ => ?_
          refine ha_takeP 2 rfl (r_not rfl) ?_
          refine ha_takeP 3 rfl (r_move rfl) ?_
          refine ha_takeP 4 rfl (r_field rfl) ?_
          refine ha_take 5 rfl (r_loadc rfl) ?_
          refine ha_takeP 6 rfl (r_len rfl) ?_
          refine ha_takeP 7 rfl (r_bool (r_gtr rfl rfl) (decide_eq_false (by omega))) ?_
          refine ha_takeP 8 rfl (r_pick rfl rfl) ?_
          refine ha_takeP 9 rfl (r_move rfl) ?_
          refine ha_takeP 10 rfl (r_idxA rfl rfl) ?_
          refine ha_take 11 rfl (r_loadr rfl) ?_
          refine ha_takeP 12 rfl (r_idxA rfl rfl) ?_
          refine ha_take 13 rfl (r_loadr rfl) ?_
          refine ha_takeP 15 rfl (r_field rfl) ?_
          refine ha_take 16 rfl (r_loadc rfl) ?_
          refine ha_one 14 ?_
          refine ho_C 14 rfl ((refCommon_s a b).comes) rfl rfl rfl (fun _ => same) fun _ => ?_
          refine ha_takeP 17 rfl (r_bool (r_lss rfl rfl) (decide_eq_false hcm)) ?_
          refine ha_takeP 18 rfl (r_pick rfl rfl) ?_
          refine ha_done (by kernel_rfl) ?_
          refine q_then ?_
          refine h_condF rfl ?_
          refine h_skip ?_
          refine q_then ?_
          refine h_seq ?_
          refine h_reg ?_
          refine h_op (r_move rfl) ?_
          refine h_call ((Hash_s n hn).comes) rfl rfl rfl fun ⟨gh, gc⟩ => ?_
          dsimp only
          refine h_op (r_assign rfl) ?_
          refine h_nil ?_
          refine q_then ?_
          refine h_seq ?_
          refine h_seq ?_
          refine h_reg ?_
          refine h_op (r_move rfl) ?_
          refine h_op (r_nilR rfl rfl) ?_
          refine h_nil ?_
          refine q_then ?_
          refine h_condF rfl ?_
          refine h_skip ?_
          refine q_then ?_
          refine h_seq ?_
          refine h_reg ?_
          refine h_op (r_move rfl) ?_
          refine h_op (r_loadr rfl) ?_
          refine h_op (r_idxA rfl rfl) ?_
          refine h_op (r_loadr rfl) ?_
          refine h_call ((Root_bad p hc a gh).comes) rfl rfl rfl fun _ => ?_
          refine h_op (r_move rfl) ?_
          refine h_op (r_extract rfl rfl) ?_
          refine h_op (r_extract rfl rfl) ?_
          refine h_opX (x_alloc) fun g8 => ?_
          refine h_opS (s_storer rfl rfl) ?_
          refine h_op (r_assign rfl) ?_
          refine h_nil ?_
          refine q_then ?_
          refine h_seq ?_
          refine h_reg ?_
          refine h_op (r_move rfl) ?_
          refine h_op (r_loadr rfl) ?_
          refine h_op (r_idxA rfl rfl) ?_
          refine h_op (r_loadr rfl) ?_
          refine h_call ((Root_bad p hc b gh).comes) rfl rfl rfl fun _ => ?_
          refine h_op (r_move rfl) ?_
          refine h_op (r_extract rfl rfl) ?_
          refine h_op (r_extract rfl rfl) ?_
          refine h_opX (x_alloc) fun g10 => ?_
          refine h_opS (s_storer rfl rfl) ?_
          refine h_op (r_assign rfl) ?_
          refine h_nil ?_
          refine q_then ?_
          refine h_seq ?_
          refine h_reg ?_
          refine h_call (alive_s.comes) rfl rfl rfl fun _ => ?_
          refine h_op (r_move rfl) ?_
          refine h_op (r_loadr rfl) ?_
          refine h_op (r_loadr rfl) ?_
          refine h_op (r_bool (r_eqr rfl rfl) (show _ = true by simp)) ?_
          refine h_op (r_pick rfl rfl) ?_
          refine h_op (r_move rfl) ?_
          refine h_op (r_move rfl) ?_
          refine h_op (r_move rfl) ?_
          refine h_op (r_bool (r_eql rfl rfl) (show _ = true by simp)) ?_
          refine h_op (r_pick rfl rfl) ?_
          refine h_op (r_assign rfl) ?_
          refine h_nil ?_
          refine q_then ?_
          refine h_ret ?_
          exact h_ret1 rfl rfl fun w s => ⟨(), rfl, s.res (List.nil_sublist _) (by simp)⟩
  · refine h_seq ?_
    refine h_reg ?_
    refine h_opX (x_box rfl) fun g4 => ?_
    refine h_opX (x_box rfl) fun g5 => ?_
    refine h_op (r_assign rfl) ?_
    refine h_nil ?_
    refine q_then ?_
    refine h_seq ?_
    refine h_seq ?_
    refine ha_start [.blk g5 (a.cells ++ b.cells) 48, .blk g4 p.cells 29] [] mixed (same) ?_
    refine ha_takeP 0 rfl (r_move rfl) ?_
    refine ha_one 1 ?_
    refine ho_C 1 rfl ((Right_no i hi).comes) rfl rfl rfl (fun _ => same) fun _ => ?_
    refine ha_takeP 2 rfl (r_not rfl) ?_
    refine ha_takeP 3 rfl (r_move rfl) ?_
    refine ha_off 4 rfl ?_
    refine ha_off 5 rfl ?_
    refine ha_off 6 rfl ?_
    refine ha_off 7 rfl ?_
    refine ha_takeP 8 rfl (r_pick rfl rfl) ?_
    refine ha_takeP 9 rfl (r_move rfl) ?_
    refine ha_off 10 rfl ?_
    refine ha_off 11 rfl ?_
    refine ha_off 12 rfl ?_
    refine ha_off 13 rfl ?_
    refine ha_off 14 rfl ?_
    refine ha_off 15 rfl ?_
    refine ha_off 16 rfl ?_
    refine ha_off 17 rfl ?_
    refine ha_takeP 18 rfl (r_pick rfl rfl) ?_
    refine ha_done (by kernel_rfl) ?_
    refine q_then ?_
    refine h_condT rfl ?_
    refine h_seq ?_
    refine h_reg ?_
    refine h_call (alive_s.comes) rfl rfl rfl fun _ => ?_
    refine h_op (r_assign rfl) ?_
    refine h_nil ?_
    refine q_then ?_
    refine h_ret ?_
    refine q_thenR ?_
    exact h_ret1 rfl rfl fun w s => ⟨(), rfl, s.res (List.nil_sublist _) (by simp)⟩
end Go.Proofs.YtfjlpndohnianaaDoor
