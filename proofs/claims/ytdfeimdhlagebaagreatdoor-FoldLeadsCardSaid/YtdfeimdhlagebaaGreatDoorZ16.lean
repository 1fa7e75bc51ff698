/- fold.Steps, fold.Root; slices.Reverse; fold.Preimages; fold.Preimages; Rows of one's own, one by one: plain; law16.alive: it is true; law16: FoldLeads is true (joined texts: U20 U21 U22 U24p U27 U55) -/
import Derived.Test.YtdfeimdhlagebaaGreatDoorZ15
set_option linter.all false
/- U20 -/
namespace Go.Proofs.YtdfeimdhlagebaaGreatDoor
set_option linter.unusedSimpArgs false
set_option linter.unusedVariables false
open Go.RowKit
def stepL (n : Nat) (key : B32) (ds : List B32) (pre : List UInt8) (N : Nat) : List B32 := (List.range N).map fun k => sumB n (wayP n key ds pre k)
theorem stepL_len (n : Nat) (key : B32) (ds : List B32) (pre : List UInt8) (N : Nat) : (stepL n key ds pre N).length = N := by simp [stepL]
theorem stepL_succ (n : Nat) (key : B32) (ds : List B32) (pre : List UInt8) (N : Nat) : dgs (stepL n key ds pre N) ++ (sumB n (wayP n key ds pre N)).cells = dgs (stepL n key ds pre (N + 1)) := by
  unfold stepL
  rw [List.range_succ, List.map_append, dgs_append]
  simp [dgs]
theorem Steps_bad (p : Proof) (h : checkP p ≠ 0) (key : B32) (gh : Nat) : Spec Tryz.prog 68 [.pointer (some ⟨gh, 0, none⟩), .agg p.cells.toArray, .agg key.cells.toArray].toArray [] [] (fun _ : Unit => .tuple #[.slice none 0 0, .int .i64 (checkP p)]) (fun _ => []) := by
  refine spec_of Tryz.func68 rfl (n := 34) rfl rfl ?_
  intro W
  refine h_seq ?_
  refine h_reg ?_
  refine h_opX (x_box rfl) fun g4 => ?_
  refine h_opX (x_box rfl) fun g5 => ?_
  refine h_op (r_assign rfl) ?_
  refine h_op (r_assign rfl) ?_
  refine h_nil ?_
  refine q_then ?_
  refine h_seq ?_
  refine h_reg ?_
  refine h_op (r_move rfl) ?_
  refine h_op (r_loadr rfl) ?_
  refine h_call ((Expand_bad p h gh).comes) rfl rfl rfl fun _ => ?_
  refine h_op (r_move rfl) ?_
  refine h_op (r_extract rfl rfl) ?_
  refine h_op (r_extract rfl rfl) ?_
  refine h_op (r_assign rfl) ?_
  refine h_op (r_assign rfl) ?_
  refine h_nil ?_
  refine q_then ?_
  refine h_seq ?_
  refine h_seq ?_
  refine h_reg ?_
  refine h_op (r_move rfl) ?_
  refine h_op (r_neq rfl rfl) ?_
  refine h_nil ?_
  refine q_then ?_
  refine h_yes rfl (h) ?_
  refine h_seq ?_
  refine h_reg ?_
  refine h_op (r_move rfl) ?_
  refine h_op (r_assign rfl) ?_
  refine h_op (r_assign rfl) ?_
  refine h_nil ?_
  refine q_then ?_
  refine h_ret ?_
  refine q_thenR ?_
  exact h_ret2 rfl rfl rfl fun w s => ⟨(), rfl, s.res (List.nil_sublist _) (by simp)⟩
theorem Steps_s (p : Proof) (hc : checkP p = 0) (ss : List B32) (hs : p.sibs.n = ss.length) (key : B32) (n : Nat) (hn : n ≤ 256) (gh gc k0 : Nat) (hk : k0 ≤ 800000000000) (d : Nat) (hd : p.depth = (d : Int)) : Spec Tryz.prog 68 [.pointer (some ⟨gh, 0, none⟩), .agg p.cells.toArray, .agg key.cells.toArray].toArray [.rd (some ⟨gh, 0, none⟩) [.pointer (some ⟨gc, 0, none⟩), .int .i64 (n : Int)], .rd p.sibs.A (dgs ss), .rd (some ⟨0, 0, none⟩) hashT] [.blk gc [.int .i64 (k0 : Int)] 166] (fun u : Nat × Nat => .tuple #[.slice (some ⟨u.1, 0, none⟩) (d + 1) u.2, .int .i64 0]) (fun u => [.own (.slice (some ⟨u.1, 0, none⟩) (d + 1) u.2) (d + 1) 31 32 (dgs (stepL n key (expL (sumB n preE) p.bitmap ss d) (endP p) (d + 1))), .blk gc [.int .i64 ((k0 + 1 + d + 1 : Nat) : Int)] 166]) := by
  have hd2 := ok_depth hc
  have hE := Expand_s p hc ss hs n hn gh gc k0 (by omega) d hd
  have hlen := expL_len (sumB n preE) p.bitmap ss d
  generalize expL (sumB n preE) p.bitmap ss d = ds at *
  subst hlen
  have hds : ds.length ≤ 256 := by omega
  refine spec_of Tryz.func68 rfl (n := 34) rfl rfl ?_
  intro W
  refine h_seq ?_
  refine h_reg ?_
  refine h_opX (x_box rfl) fun g4 => ?_
  refine h_opX (x_box rfl) fun g5 => ?_
  refine h_op (r_assign rfl) ?_
  refine h_op (r_assign rfl) ?_
  refine h_nil ?_
  refine q_then ?_
  refine h_seq ?_
  refine h_reg ?_
  refine h_op (r_move rfl) ?_
  refine h_op (r_loadr rfl) ?_
  refine h_call (hE.comes) rfl rfl rfl fun g15 => ?_
  refine h_op (r_move rfl) ?_
  refine h_op (r_extract rfl rfl) ?_
  refine h_op (r_extract rfl rfl) ?_
  refine h_op (r_assign rfl) ?_
  refine h_op (r_assign rfl) ?_
  refine h_nil ?_
  refine q_then ?_
  refine h_seq ?_
  refine h_seq ?_
  refine h_reg ?_
  refine h_op (r_move rfl) ?_
  refine h_op (r_neq rfl rfl) ?_
  refine h_nil ?_
  refine q_then ?_
  refine h_no rfl ((fun h => h rfl)) ?_
  refine h_skip ?_
  refine q_then ?_
  refine h_seq ?_
  refine h_reg ?_
  refine h_opX (x_alloc) fun g10 => ?_
  refine h_nil ?_
  refine q_then ?_
  refine h_seq ?_
  refine h_seq ?_
  refine h_reg ?_
  refine h_op (r_move rfl) ?_
  refine h_op (r_loadr rfl) ?_
  refine h_op (r_move rfl) ?_
  refine h_op (r_loadr rfl) ?_
  refine h_call ((ways_s (.pointer (some ⟨gh, 0, none⟩)) p (some ⟨g15, 0, none⟩) ds.length ds.length key rfl).comes) rfl rfl rfl fun ⟨a2, a1, a3, a4⟩ => ?_
  dsimp only
  refine h_nil_own 31 32 (xs := dgs (stepL n key ds (endP p) 0)) rfl ?_
  refine h_nil ?_
  refine q_then ?_
  refine h_block ?_
  refine h_rangeG (ways_it p n hn key ds hds gh gc (k0 + 1) g15 0 ds.length a2 a1 a3 a4 (by omega)) rfl (fun k mm => ∃ v : Option Addr × Nat, mm = [.blk g10 [.slice v.1 k v.2] 34, .own (.slice v.1 k v.2) k 31 32 (dgs (stepL n key ds (endP p) k))]) [.blk g10 [.slice none 0 0] 34, .own (.slice none 0 0) 0 31 32 (dgs (stepL n key ds (endP p) 0))] [] (by rintro k mm ⟨v, rfl⟩ f hf; simp only [List.mem_cons, List.not_mem_nil, or_false] at hf; exact hf.elim (fun h => by rw [h]; rfl) (fun h => by rw [h]; rfl)) ⟨(none, 0), rfl⟩ rfl (fun _ _ => rfl) ?_ ?_
  · intro ll rr k u mm W1 hr hrp hkN hJ2
    obtain ⟨⟨B, c'⟩, rfl⟩ := hJ2
    dsimp only
    simp only [List.nil_append, List.cons_append]
    have hst := stepL_succ n key ds (endP p) k
    refine h_reg ?_
    refine h_opX (x_alloc) fun g12 => ?_
    refine h_opS (s_storer rfl rfl) ?_
    refine h_nil ?_
    refine q_then ?_
    refine h_begin hr ?_
    refine h_block ?_
    refine h_reg ?_
    refine h_op (r_loadc rfl) ?_
    refine h_op (r_loadr rfl) ?_
    refine h_opX (x_bsl rfl rfl) fun g31 => ?_
    refine h_opX (x_app rfl rfl (k := 32)) fun ⟨g32, c32⟩ => ?_
    refine h_opS (s_store rfl rfl rfl) ?_
    refine h_nil ?_
    refine q_block ?_
    rw [hst]
    exact h_endround [.blk g10 [.slice (some ⟨g32, 0, none⟩) (k + 1) c32] 34, .own (.slice (some ⟨g32, 0, none⟩) (k + 1) c32) (k + 1) 31 32 (dgs (stepL n key ds (endP p) (k + 1)))] hr hrp ⟨(some ⟨g32, 0, none⟩, c32), rfl⟩ (by intro f hf; simp only [List.mem_cons, List.not_mem_nil, or_false] at hf; exact hf.elim (fun h => by rw [h]; rfl) (fun h => by rw [h]; rfl))
  · intro bb mm hJ2
    obtain ⟨⟨B, c'⟩, rfl⟩ := hJ2
    refine q_block ?_
    refine q_then ?_
    dsimp only
    simp only [List.nil_append, List.cons_append]
    refine h_pure (φ := ∃ g, B = some ⟨g, 0, none⟩) (fun w s => s.ownSome (N := ds.length + 1) (c := c') (by omega)) ?_
    rintro ⟨g, rfl⟩
    refine h_seq ?_
    refine h_reg ?_
    refine h_op (r_loadc rfl) ?_
    refine h_op (r_assign rfl) ?_
    refine h_op (r_assign rfl) ?_
    refine h_nil ?_
    refine q_then ?_
    refine h_ret ?_
    refine h_mark ?_
    exact h_ret2 rfl rfl rfl fun w s => ⟨(g, c'), rfl, (same w s).res (List.Sublist.refl _) (by simp [Fa.wr])⟩
theorem Root_bad (p : Proof) (h : checkP p ≠ 0) (key : B32) (gh : Nat) : Spec Tryz.prog 24 [.pointer (some ⟨gh, 0, none⟩), .agg p.cells.toArray, .agg key.cells.toArray].toArray [] [] (fun _ : Unit => .tuple #[.agg zB32.cells.toArray, .int .i64 (checkP p)]) (fun _ => []) := by
  refine spec_of Tryz.func24 rfl (n := 27) rfl rfl ?_
  intro W
  refine h_seq ?_
  refine h_reg ?_
  refine h_opX (x_box rfl) fun g4 => ?_
  refine h_opX (x_box rfl) fun g5 => ?_
  refine h_opX (x_alloc) fun g6 => ?_
  refine h_op (r_assign rfl) ?_
  refine h_nil ?_
  refine q_then ?_
  refine h_seq ?_
  refine h_reg ?_
  refine h_op (r_move rfl) ?_
  refine h_op (r_loadr rfl) ?_
  refine h_op (r_loadr rfl) ?_
  refine h_call ((Steps_bad p h key gh).comes) rfl rfl rfl fun _ => ?_
  refine h_op (r_move rfl) ?_
  refine h_op (r_extract rfl rfl) ?_
  refine h_op (r_extract rfl rfl) ?_
  refine h_op (r_assign rfl) ?_
  refine h_op (r_assign rfl) ?_
  refine h_nil ?_
  refine q_then ?_
  refine h_seq ?_
  refine h_seq ?_
  refine h_reg ?_
  refine h_op (r_move rfl) ?_
  refine h_op (r_neq rfl rfl) ?_
  refine h_nil ?_
  refine q_then ?_
  refine h_yes rfl (h) ?_
  refine h_seq ?_
  refine h_reg ?_
  refine h_op (r_build rfl) ?_
  refine h_op (r_move rfl) ?_
  refine h_opS (s_storer rfl rfl) ?_
  refine h_op (r_assign rfl) ?_
  refine h_nil ?_
  refine q_then ?_
  refine h_ret ?_
  refine q_thenR ?_
  exact h_ret2 rfl (rv_row rfl) rfl fun w s => ⟨(), rfl, s.res (List.nil_sublist _) (by simp)⟩
theorem Root_s (p : Proof) (hc : checkP p = 0) (ss : List B32) (hs : p.sibs.n = ss.length) (key : B32) (n : Nat) (hn : n ≤ 256) (gh gc k0 : Nat) (hk : k0 ≤ 800000000000) (d : Nat) (hd : p.depth = (d : Int)) : Spec Tryz.prog 24 [.pointer (some ⟨gh, 0, none⟩), .agg p.cells.toArray, .agg key.cells.toArray].toArray [.rd (some ⟨gh, 0, none⟩) [.pointer (some ⟨gc, 0, none⟩), .int .i64 (n : Int)], .rd p.sibs.A (dgs ss), .rd (some ⟨0, 0, none⟩) hashT] [.blk gc [.int .i64 (k0 : Int)] 166] (fun _ : Unit => .tuple #[.agg (sumB n (wayP n key (expL (sumB n preE) p.bitmap ss d) (endP p) d)).cells.toArray, .int .i64 0]) (fun _ => [.blk gc [.int .i64 ((k0 + 1 + d + 1 : Nat) : Int)] 166]) := by
  have hd2 := ok_depth hc
  have hS := Steps_s p hc ss hs key n hn gh gc k0 hk d hd
  generalize expL (sumB n preE) p.bitmap ss d = ds at *
  have hget : (stepL n key ds (endP p) (d + 1)).getD d zB32 = sumB n (wayP n key ds (endP p) d) := by
    unfold stepL
    rw [List.getD, List.getElem?_map, List.getElem?_range (by omega)]
    rfl
  have hat := dgs_at (l := stepL n key ds (endP p) (d + 1)) (k := d) (by rw [stepL_len]; omega)
  rw [hget] at hat
  refine spec_of Tryz.func24 rfl (n := 27) rfl rfl ?_
  intro W
  refine h_seq ?_
  refine h_reg ?_
  refine h_opX (x_box rfl) fun g4 => ?_
  refine h_opX (x_box rfl) fun g5 => ?_
  refine h_opX (x_alloc) fun g6 => ?_
  refine h_op (r_assign rfl) ?_
  refine h_nil ?_
  refine q_then ?_
  refine h_seq ?_
  refine h_reg ?_
  refine h_op (r_move rfl) ?_
  refine h_op (r_loadr rfl) ?_
  refine h_op (r_loadr rfl) ?_
  refine h_call (hS.comes) rfl rfl rfl fun ⟨g14, c14⟩ => ?_
  dsimp only
  refine h_op (r_move rfl) ?_
  refine h_op (r_extract rfl rfl) ?_
  refine h_op (r_extract rfl rfl) ?_
  refine h_op (r_assign rfl) ?_
  refine h_op (r_assign rfl) ?_
  refine h_nil ?_
  refine q_then ?_
  refine h_seq ?_
  refine h_seq ?_
  refine h_reg ?_
  refine h_op (r_move rfl) ?_
  refine h_op (r_neq rfl rfl) ?_
  refine h_nil ?_
  refine q_then ?_
  refine h_no rfl ((fun h => h rfl)) ?_
  refine h_skip ?_
  refine q_then ?_
  refine h_seq ?_
  refine h_reg ?_
  refine h_op (r_move rfl) ?_
  refine h_op (r_move rfl) ?_
  refine h_op (r_len rfl) ?_
  refine h_op (r_subN rfl rfl (m := d) (hm := by omega)) ?_
  refine h_op (r_idx rfl rfl) ?_
  refine h_op (r_nthr rfl (B32.cells_length _) hat) ?_
  refine h_opS (s_storer rfl rfl) ?_
  refine h_op (r_assign rfl) ?_
  refine h_nil ?_
  refine q_then ?_
  refine h_ret ?_
  exact h_ret2 rfl (rv_row rfl) rfl fun w s => ⟨(), rfl, (same w s).res (List.Sublist.refl _) (by simp [Fa.wr])⟩
end Go.Proofs.YtdfeimdhlagebaaGreatDoor
/- U21 -/
namespace Go.Proofs.YtdfeimdhlagebaaGreatDoor
set_option linter.unusedSimpArgs false
set_option linter.unusedVariables false
open Go.RowKit
def revI (xs : List Value) (i : Nat) : List Value := (List.range xs.length).map fun t => if t < i ∨ xs.length - i ≤ t then xs.getD (xs.length - 1 - t) .nilFunc else xs.getD t .nilFunc
theorem revI_len (xs : List Value) (i : Nat) : (revI xs i).length = xs.length := by simp [revI]
theorem revI_at (xs : List Value) (i t : Nat) (h : t < xs.length) : (revI xs i)[t]? = some (if t < i ∨ xs.length - i ≤ t then xs.getD (xs.length - 1 - t) .nilFunc else xs.getD t .nilFunc) := by
  unfold revI
  rw [List.getElem?_map, List.getElem?_range h]
  rfl
theorem revI_0 (xs : List Value) : revI xs 0 = xs := by
  apply List.ext_getElem?
  intro t
  by_cases h : t < xs.length
  · rw [revI_at xs 0 t h, if_neg (by omega), List.getD, List.getElem?_eq_getElem h]; rfl
  · rw [List.getElem?_eq_none (by rw [revI_len]; omega), List.getElem?_eq_none (by omega)]
theorem revI_end (xs : List Value) (i : Nat) (h : xs.length ≤ 2 * i + 1) (hi : i ≤ xs.length) : revI xs i = xs.reverse := by
  apply List.ext_getElem?
  intro t
  by_cases ht : t < xs.length
  · rw [revI_at xs i t ht, List.getElem?_reverse ht]
    by_cases h2 : t < i ∨ xs.length - i ≤ t
    · rw [if_pos h2, List.getD, List.getElem?_eq_getElem (by omega)]; rfl
    · rw [if_neg h2, show xs.length - 1 - t = t by omega, List.getD, List.getElem?_eq_getElem ht]; rfl
  · rw [List.getElem?_eq_none (by rw [revI_len]; omega), List.getElem?_eq_none (by rw [List.length_reverse]; omega)]
theorem revI_step (xs : List Value) (i : Nat) (h : i < xs.length - 1 - i) : ((revI xs i).set i (xs.getD (xs.length - 1 - i) .nilFunc)).set (xs.length - 1 - i) (xs.getD i .nilFunc) = revI xs (i + 1) := by
  apply List.ext_getElem?
  intro t
  rw [List.getElem?_set, List.length_set, revI_len, List.getElem?_set, revI_len]
  by_cases ht : t < xs.length
  · rw [revI_at xs (i + 1) t ht, revI_at xs i t ht]
    by_cases e1 : xs.length - 1 - i = t
    · rw [if_pos e1, if_pos (by omega), if_pos (by omega), show xs.length - 1 - t = i by omega]
    · rw [if_neg e1]
      by_cases e2 : i = t
      · rw [if_pos e2, if_pos (by omega), if_pos (by omega), e2]
      · rw [if_neg e2]
        congr 1
        by_cases h3 : t < i ∨ xs.length - i ≤ t
        · rw [if_pos h3, if_pos (by omega)]
        · rw [if_neg h3, if_neg (by omega)]
  · rw [if_neg (by omega), if_neg (by omega), List.getElem?_eq_none (by rw [revI_len]; omega), List.getElem?_eq_none (by rw [revI_len]; omega)]
theorem getD_one {xs : List Value} (h1 : ∀ v ∈ xs, v.oneCell' = true) (i : Nat) : (xs.getD i .nilFunc).oneCell' = true := by
  rw [List.getD]
  cases h : xs[i]? with
  | none => rfl
  | some v => exact h1 v (List.mem_of_getElem? h)
theorem Reverse_s (xs : List Value) (h1 : ∀ v ∈ xs, v.oneCell' = true) (g c : Nat) (hk : xs.length ≤ 1000000) : Spec Tryz.prog 107 [.slice (some ⟨g, 0, none⟩) xs.length c].toArray [] [.own (.slice (some ⟨g, 0, none⟩) xs.length c) xs.length 38 1 xs] (fun _ : Unit => .tuple #[]) (fun _ => [.own (.slice (some ⟨g, 0, none⟩) xs.length c) xs.length 38 1 xs.reverse]) := by
  refine spec_of Tryz.func107 rfl (n := 28) rfl rfl ?_
  intro W
  refine h_seq ?_
  refine h_reg ?_
  refine h_op (r_move rfl) ?_
  refine h_op (r_len rfl) ?_
  refine h_op (r_sub rfl rfl) ?_
  refine h_op (r_assign rfl) ?_
  refine h_op (r_assign rfl) ?_
  refine h_nil ?_
  refine q_then ?_
  refine h_block ?_
  refine h_L (L' := [.own (.slice (some ⟨g, 0, none⟩) xs.length c) xs.length 38 1 (revI xs 0)]) (fun w s => by rw [revI_0]; exact s) ?_
  refine h_loop (fun (i : Nat) => i ≤ xs.length) (fun (i : Nat) => [(2, .int .i64 (i : Int)), (3, .int .i64 ((xs.length : Int) - 1 - (i : Int))), (0, .slice (some ⟨g, 0, none⟩) xs.length c)]) (fun (i : Nat) => [.own (.slice (some ⟨g, 0, none⟩) xs.length c) xs.length 38 1 (revI xs i)]) (fun (i : Nat) => xs.length - i) 0 (Nat.zero_le _) ⟨rfl, aI rfl (by omega), rfl, trivial⟩ (same) ?_
  intro i hi
  refine h_seq ?_
  refine h_seq ?_
  refine h_reg ?_
  refine h_op (r_move rfl) ?_
  refine h_op (r_move rfl) ?_
  refine h_op (r_lss rfl rfl) ?_
  refine h_nil ?_
  refine q_then ?_
  refine h_cond rfl (fun h => ?_) (fun h => ?_)
  · have hlt : i < xs.length - 1 - i := by omega
    have hstep := revI_step xs i hlt
    have hln := revI_len xs i
    have g1 := revI_at xs i i (by omega)
    rw [if_neg (by omega)] at g1
    have g2 := revI_at xs i (xs.length - 1 - i) (by omega)
    rw [if_neg (by omega)] at g2
    refine h_E (E' := [(2, .int .i64 (i : Int)), (3, .int .i64 ((xs.length - 1 - i : Nat) : Int)), (0, .slice (some ⟨g, 0, none⟩) xs.length c)]) ⟨rfl, aI rfl (by omega), rfl, trivial⟩ ?_
    refine h_skip ?_
    refine q_then ?_
    refine h_seq ?_
    refine h_block ?_
    refine ha_start [.own (.slice (some ⟨g, 0, none⟩) xs.length c) xs.length 38 1 (revI xs i)] [] mixed (same) ?_
    refine ha_takeP 0 rfl (r_move rfl) ?_
    refine ha_takeP 1 rfl (r_move rfl) ?_
    refine ha_takeP 2 rfl (r_move rfl) ?_
    refine ha_takeP 3 rfl (r_move rfl) ?_
    refine ha_takeP 4 rfl (r_move rfl) ?_
    refine ha_takeP 5 rfl (r_move rfl) ?_
    refine ha_takeP 6 rfl (r_idx rfl rfl) ?_
    refine ha_take 7 rfl (r_nth rfl g2) ?_
    refine ha_takeP 8 rfl (r_move rfl) ?_
    refine ha_takeP 9 rfl (r_move rfl) ?_
    refine ha_takeP 10 rfl (r_idx rfl rfl) ?_
    refine ha_take 11 rfl (r_nth rfl g1) ?_
    refine ha_takeP 12 rfl (r_idx rfl rfl) ?_
    refine ha_hl ?_
    refine hl_S 13 rfl (s_setO rfl rfl (getD_one h1 _) (by omega) rfl) ?_
    refine hl_0 14 rfl (r_idx rfl rfl) ?_
    refine hl_S 15 rfl (s_setO rfl rfl (getD_one h1 _) (by rw [List.length_set]; omega) hstep) ?_
    refine hl_done (by kernel_rfl) ?_
    refine q_block ?_
    refine q_then ?_
    refine h_reg ?_
    refine h_op (r_move rfl) ?_
    refine h_op (r_add rfl rfl) ?_
    refine h_op (r_move rfl) ?_
    refine h_op (r_sub rfl rfl) ?_
    refine h_op (r_assign rfl) ?_
    refine h_op (r_assign rfl) ?_
    refine h_nil ?_
    exact h_back (i + 1) (by omega) (by omega) ⟨rfl, aI rfl (by omega), rfl, trivial⟩ (same)
  · rw [revI_end xs i (by omega) hi]
    refine h_exit ?_
    refine q_thenE ?_
    refine q_thenE ?_
    refine q_blockE ?_
    refine h_end ?_
    exact h_ret0 rfl fun w s => ⟨(), rfl, s.res (List.Sublist.refl _) (by simp [Fa.wr])⟩
end Go.Proofs.YtdfeimdhlagebaaGreatDoor
/- U22 -/
namespace Go.Proofs.YtdfeimdhlagebaaGreatDoor
set_option linter.unusedSimpArgs false
set_option linter.unusedVariables false
open Go.RowKit
instance (m : List Fa) : TakeTl m m [] := ⟨by rw [List.append_nil]⟩
theorem Sx.mid0 {A : List Fa} {W w : World} {pre m l : List Fa} (s : Sx A W w (pre ++ (m ++ l))) : Sx A W w (pre ++ (l ++ m)) := s.perm (List.Perm.append_left _ List.perm_append_comm)
def preLs (n : Nat) (key : B32) (ds : List B32) (pre : List UInt8) (N : Nat) : List (List UInt8) := (List.range N).map (wayP n key ds pre)
/-- rows of one's own -/
def ownsOf : List Seg → List Fa
  | [] => []
  | x :: l => .own (sv x) x.2.2.length 5 1 (bc x.2.2) :: ownsOf l
theorem ownsOf_wr (xs : List Seg) : ∀ f ∈ ownsOf xs, f.wr = true := by
  induction xs with
  | nil => intro f hf; cases hf
  | cons x l ih => intro f hf; rcases List.mem_cons.1 hf with rfl | h; rfl; exact ih f h
theorem ownsOf_mem {xs : List Seg} {x : Seg} (h : x ∈ xs) : Fa.own (sv x) x.2.2.length 5 1 (bc x.2.2) ∈ ownsOf xs := by
  induction xs with
  | nil => cases h
  | cons y l ih => exact (List.mem_cons.1 h).elim (fun e => by rw [e]; exact List.mem_cons_self ..) fun e => List.mem_cons_of_mem _ (ih e)
theorem svs_snoc (ys : List Seg) (x : Seg) : svs ys.reverse ++ [sv x] = svs (x :: ys).reverse := by simp [svs]
theorem svs_rev (ys : List Seg) : (svs ys.reverse).reverse = svs ys := by simp [svs]
/-- rows that are somewhere, with these bytes -/
def SegsOk (ys : List Seg) (ls : List (List UInt8)) : Prop := ys.map (fun x => x.2.2) = ls ∧ ∀ x ∈ ys, ∃ g, x.1 = some ⟨g, 0, none⟩
theorem SegsOk.len {ys : List Seg} {ls : List (List UInt8)} (h : SegsOk ys ls) : ys.length = ls.length := by rw [← h.1, List.length_map]
theorem preLs_len (n : Nat) (key : B32) (ds : List B32) (pre : List UInt8) (N : Nat) : (preLs n key ds pre N).length = N := by simp [preLs]
theorem preLs_succ (n : Nat) (key : B32) (ds : List B32) (pre : List UInt8) (N : Nat) : (preLs n key ds pre (N + 1)).reverse = wayP n key ds pre N :: (preLs n key ds pre N).reverse := by
  unfold preLs
  rw [List.range_succ, List.map_append, List.reverse_append]
  rfl
theorem Pre_bad (p : Proof) (h : checkP p ≠ 0) (key : B32) (gh : Nat) : Spec Tryz.prog 67 [.pointer (some ⟨gh, 0, none⟩), .agg p.cells.toArray, .agg key.cells.toArray].toArray [] [] (fun _ : Unit => .tuple #[.slice none 0 0, .int .i64 (checkP p)]) (fun _ => []) := by
  refine spec_of Tryz.func67 rfl (n := 35) rfl rfl ?_
  intro W
  refine h_seq ?_
  refine h_reg ?_
  refine h_opX (x_box rfl) fun g4 => ?_
  refine h_opX (x_box rfl) fun g5 => ?_
  refine h_op (r_assign rfl) ?_
  refine h_op (r_assign rfl) ?_
  refine h_nil ?_
  refine q_then ?_
  refine h_seq ?_
  refine h_reg ?_
  refine h_op (r_move rfl) ?_
  refine h_op (r_loadr rfl) ?_
  refine h_call ((Expand_bad p h gh).comes) rfl rfl rfl fun _ => ?_
  refine h_op (r_move rfl) ?_
  refine h_op (r_extract rfl rfl) ?_
  refine h_op (r_extract rfl rfl) ?_
  refine h_op (r_assign rfl) ?_
  refine h_op (r_assign rfl) ?_
  refine h_nil ?_
  refine q_then ?_
  refine h_seq ?_
  refine h_seq ?_
  refine h_reg ?_
  refine h_op (r_move rfl) ?_
  refine h_op (r_neq rfl rfl) ?_
  refine h_nil ?_
  refine q_then ?_
  refine h_yes rfl (h) ?_
  refine h_seq ?_
  refine h_reg ?_
  refine h_op (r_move rfl) ?_
  refine h_op (r_assign rfl) ?_
  refine h_op (r_assign rfl) ?_
  refine h_nil ?_
  refine q_then ?_
  refine h_ret ?_
  refine q_thenR ?_
  exact h_ret2 rfl rfl rfl fun w s => ⟨(), rfl, s.res (List.nil_sublist _) (by simp)⟩
theorem Pre_s (p : Proof) (hc : checkP p = 0) (ss : List B32) (hs : p.sibs.n = ss.length) (key : B32) (n : Nat) (hn : n ≤ 256) (gh gc k0 : Nat) (hk : k0 ≤ 800000000000) (d : Nat) (hd : p.depth = (d : Int)) : Spec Tryz.prog 67 [.pointer (some ⟨gh, 0, none⟩), .agg p.cells.toArray, .agg key.cells.toArray].toArray [.rd (some ⟨gh, 0, none⟩) [.pointer (some ⟨gc, 0, none⟩), .int .i64 (n : Int)], .rd p.sibs.A (dgs ss), .rd (some ⟨0, 0, none⟩) hashT] [.blk gc [.int .i64 (k0 : Int)] 166] (fun u : { u : Nat × Nat × List Seg // SegsOk u.2.2 (preLs n key (expL (sumB n preE) p.bitmap ss d) (endP p) (d + 1)).reverse } => .tuple #[.slice (some ⟨u.1.1, 0, none⟩) (d + 1) u.1.2.1, .int .i64 0]) (fun u => .own (.slice (some ⟨u.1.1, 0, none⟩) (d + 1) u.1.2.1) (d + 1) 38 1 (svs u.1.2.2) :: .blk gc [.int .i64 ((k0 + 1 + d + 1 : Nat) : Int)] 166 :: ownsOf u.1.2.2) := by
  have hd2 := ok_depth hc
  have hE := Expand_s p hc ss hs n hn gh gc k0 (by omega) d hd
  have hlen := expL_len (sumB n preE) p.bitmap ss d
  generalize expL (sumB n preE) p.bitmap ss d = ds at *
  subst hlen
  have hds : ds.length ≤ 256 := by omega
  refine spec_of Tryz.func67 rfl (n := 35) rfl rfl ?_
  intro W
  refine h_seq ?_
  refine h_reg ?_
  refine h_opX (x_box rfl) fun g4 => ?_
  refine h_opX (x_box rfl) fun g5 => ?_
  refine h_op (r_assign rfl) ?_
  refine h_op (r_assign rfl) ?_
  refine h_nil ?_
  refine q_then ?_
  refine h_seq ?_
  refine h_reg ?_
  refine h_op (r_move rfl) ?_
  refine h_op (r_loadr rfl) ?_
  refine h_call (hE.comes) rfl rfl rfl fun g15 => ?_
  refine h_op (r_move rfl) ?_
  refine h_op (r_extract rfl rfl) ?_
  refine h_op (r_extract rfl rfl) ?_
  refine h_op (r_assign rfl) ?_
  refine h_op (r_assign rfl) ?_
  refine h_nil ?_
  refine q_then ?_
  refine h_seq ?_
  refine h_seq ?_
  refine h_reg ?_
  refine h_op (r_move rfl) ?_
  refine h_op (r_neq rfl rfl) ?_
  refine h_nil ?_
  refine q_then ?_
  refine h_no rfl ((fun h => h rfl)) ?_
  refine h_skip ?_
  refine q_then ?_
  refine h_seq ?_
  refine h_reg ?_
  refine h_opX (x_alloc) fun g10 => ?_
  refine h_nil ?_
  refine q_then ?_
  refine h_seq ?_
  refine h_seq ?_
  refine h_reg ?_
  refine h_op (r_move rfl) ?_
  refine h_op (r_loadr rfl) ?_
  refine h_op (r_move rfl) ?_
  refine h_op (r_loadr rfl) ?_
  refine h_call ((ways_s (.pointer (some ⟨gh, 0, none⟩)) p (some ⟨g15, 0, none⟩) ds.length ds.length key rfl).comes) rfl rfl rfl fun ⟨a2, a1, a3, a4⟩ => ?_
  dsimp only
  refine h_nil_own 38 1 (xs := svs ([] : List Seg).reverse) rfl ?_
  refine h_nil ?_
  refine q_then ?_
  refine h_block ?_
  refine h_rangeG (ways_it p n hn key ds hds gh gc (k0 + 1) g15 0 ds.length a2 a1 a3 a4 (by omega)) rfl (fun k mm => ∃ (v : Option Addr × Nat) (ys : List Seg), SegsOk ys (preLs n key ds (endP p) k).reverse ∧ mm = .blk g10 [.slice v.1 k v.2] 72 :: .own (.slice v.1 k v.2) k 38 1 (svs ys.reverse) :: ownsOf ys) [.blk g10 [.slice none 0 0] 72, .own (.slice none 0 0) 0 38 1 (svs ([] : List Seg).reverse)] [] (by rintro k mm ⟨v, ys, _, rfl⟩ f hf; simp only [List.mem_cons] at hf; exact hf.elim (fun h => by rw [h]; rfl) (fun h => h.elim (fun h => by rw [h]; rfl) (ownsOf_wr ys f))) ⟨(none, 0), [], ⟨rfl, by simp⟩, rfl⟩ rfl (fun _ _ => rfl) ?_ ?_
  · intro ll rr k u mm W1 hr hrp hkN hJ2
    obtain ⟨⟨B, c'⟩, ys, hys, rfl⟩ := hJ2
    obtain ⟨g, c⟩ := u
    dsimp only
    simp only [List.nil_append, List.cons_append, List.append_nil]
    have hsn := svs_snoc ys (some ⟨g, 0, none⟩, c, wayP n key ds (endP p) k)
    have hys2 : SegsOk ((some ⟨g, 0, none⟩, c, wayP n key ds (endP p) k) :: ys) (preLs n key ds (endP p) (k + 1)).reverse := ⟨by rw [preLs_succ, List.map_cons, hys.1], fun x hx => (List.mem_cons.1 hx).elim (fun e => ⟨g, by rw [e]⟩) (hys.2 x)⟩
    unfold sv at hsn
    dsimp only at hsn
    refine h_reg ?_
    refine h_op (r_assign rfl) ?_
    refine h_nil ?_
    refine q_then ?_
    refine h_begin hr ?_
    refine h_block ?_
    refine h_reg ?_
    refine h_op (r_loadc rfl) ?_
    refine h_op (r_move rfl) ?_
    refine h_opX (x_bsl rfl rfl) fun g30 => ?_
    refine h_opX (x_app rfl rfl) fun ⟨g31, c31⟩ => ?_
    refine h_opS (s_store rfl rfl rfl) ?_
    refine h_nil ?_
    refine q_block ?_
    rw [hsn]
    exact h_endround (.blk g10 [.slice (some ⟨g31, 0, none⟩) (k + 1) c31] 72 :: .own (.slice (some ⟨g31, 0, none⟩) (k + 1) c31) (k + 1) 38 1 (svs ((some ⟨g, 0, none⟩, c, wayP n key ds (endP p) k) :: ys : List Seg).reverse) :: .own (.slice (some ⟨g, 0, none⟩) (wayP n key ds (endP p) k).length c) (wayP n key ds (endP p) k).length 5 1 (bc (wayP n key ds (endP p) k)) :: ownsOf ys) hr hrp ⟨(some ⟨g31, 0, none⟩, c31), _, hys2, rfl⟩ (by intro f hf; simp only [List.mem_cons] at hf; exact hf.elim (fun h => by rw [h]; rfl) (fun h => h.elim (fun h => by rw [h]; rfl) (fun h => h.elim (fun h => by rw [h]; rfl) (ownsOf_wr ys f))))
  · intro bb mm hJ2
    obtain ⟨⟨B, c'⟩, ys, hys, rfl⟩ := hJ2
    refine q_block ?_
    refine q_then ?_
    dsimp only
    simp only [List.nil_append, List.cons_append]
    refine h_L (fun w s => Sx.mid0 (pre := [_, _, _]) (m := ownsOf ys) (l := [.obj bb (.deferred (some [])), .blk a2 p.cells 36, .blk a1 [.pointer (some ⟨gh, 0, none⟩)] 28, .blk a3 [.slice (some ⟨g15, 0, none⟩) ds.length ds.length] 34, .blk a4 key.cells 24, .own (.slice (some ⟨g15, 0, none⟩) ds.length ds.length) ds.length 31 32 (dgs ds), .blk g5 key.cells 24, .blk g4 p.cells 36, .rd (some ⟨gh, 0, none⟩) [.pointer (some ⟨gc, 0, none⟩), .int .i64 (n : Int)], .rd p.sibs.A (dgs ss), .rd (some ⟨0, 0, none⟩) hashT]) s) ?_
    simp only [List.nil_append, List.cons_append]
    refine h_pure (φ := ∃ g, B = some ⟨g, 0, none⟩) (fun w s => s.ownSome (N := ds.length + 1) (c := c') (by omega)) ?_
    rintro ⟨g, rfl⟩
    have hyl : (svs ys.reverse).length = ds.length + 1 := by rw [svs_len, List.length_reverse, hys.len, List.length_reverse, preLs_len]
    have hR := Reverse_s (svs ys.reverse) (svs_one _) g c' (by omega)
    rw [hyl, svs_rev] at hR
    refine h_seq ?_
    refine h_reg ?_
    refine h_op (r_loadc rfl) ?_
    refine h_call (hR.comes) rfl rfl rfl fun _ => ?_
    refine h_nil ?_
    refine q_then ?_
    refine h_seq ?_
    refine h_reg ?_
    refine h_op (r_loadc rfl) ?_
    refine h_op (r_assign rfl) ?_
    refine h_op (r_assign rfl) ?_
    refine h_nil ?_
    refine q_then ?_
    refine h_ret ?_
    refine h_mark ?_
    exact h_ret2 rfl rfl rfl fun w s => ⟨⟨(g, c', ys), hys⟩, rfl, (same w s).res (List.Sublist.refl _) (by intro f hf; simp only [List.mem_cons] at hf; exact hf.elim (fun h => by rw [h]; rfl) (fun h => h.elim (fun h => by rw [h]; rfl) (ownsOf_wr ys f)))⟩
end Go.Proofs.YtdfeimdhlagebaaGreatDoor
/- U24p -/
namespace Go.Proofs.YtdfeimdhlagebaaGreatDoor
set_option linter.unusedSimpArgs false
set_option linter.unusedVariables false
open Go.RowKit
theorem SegsOk.cons {xs : List Seg} {l : List UInt8} {ls : List (List UInt8)} (h : SegsOk xs (l :: ls)) : ∃ g c xs', xs = (some ⟨g, 0, none⟩, c, l) :: xs' ∧ SegsOk xs' ls := by
  obtain ⟨h1, h2⟩ := h
  cases xs with
  | nil => cases h1
  | cons x xs' =>
    rw [List.map_cons] at h1
    injection h1 with h3 h4
    obtain ⟨g, hg⟩ := h2 x (List.mem_cons_self ..)
    obtain ⟨A, c, l'⟩ := x
    simp only at h3 hg
    subst h3 hg
    exact ⟨g, c, xs', rfl, h4, fun y hy => h2 y (List.mem_cons_of_mem _ hy)⟩
instance (priority := 5) (N M : List Fa) : App N M (N ++ M) := ⟨rfl⟩
theorem rd1_own {L : List Fa} {A : Option Addr} {n c e size : Nat} {cs : List Value} (h : Fa.own (.slice A n c) n e size cs ∈ L) : Rd1 L (.rd A cs) := ⟨fun hw => ⟨rfl, own_rd' (hw.ok _ h), fun k hk => ⟨_, h, by obtain ⟨_, o, rfl⟩ := hk; rfl⟩⟩⟩
theorem rds_one {L : List Fa} {r : Fa} (h : Rd1 L r) : Rds L [r] := inferInstance
theorem SegsOk.at {xs : List Seg} {ls : List (List UInt8)} (h : SegsOk xs ls) {i : Nat} {l : List UInt8} (hl : ls[i]? = some l) : ∃ g c, xs[i]? = some (some ⟨g, 0, none⟩, c, l) := by
  rw [← h.1, List.getElem?_map] at hl
  obtain ⟨x, hx, e⟩ := Option.map_eq_some_iff.1 hl
  obtain ⟨g, hg⟩ := h.2 x (List.mem_of_getElem? hx)
  obtain ⟨A, c, l'⟩ := x
  simp only at e hg
  subst e hg
  exact ⟨g, c, hx⟩
end Go.Proofs.YtdfeimdhlagebaaGreatDoor
/- U27 -/
namespace Go.Proofs.YtdfeimdhlagebaaGreatDoor
set_option linter.unusedSimpArgs false
set_option linter.unusedVariables false
open Go.RowKit
def k5 : B32 := ⟨5 :: List.replicate 31 0, rfl⟩
instance (L : List Fa) (A : Option Addr) : Rd1 L (.rd A (dgs [])) := inferInstanceAs (Rd1 L (.rd A []))
theorem depths_z : depths zB32 = [] := by
  unfold depths
  rw [List.filter_eq_nil_iff]
  intro i _
  rw [bitAt_zero]
  simp
theorem check_z : checkP zProof = 0 := checkP_ok rfl rfl rfl (by
  show decide (lastI zB32 256 = 0 - 1) = true
  rw [lastI_nil (b := zB32) (by rw [depths_z]; rfl)]
  rfl) (by
  show decide (((depths zB32).length : Int) = (0 : Nat)) = true
  rw [depths_z]
  rfl)
theorem end_z : endP zProof = preE := if_neg (by decide)
theorem alive_s : Spec Tryz.prog 23 ([] : List Value).toArray [.rd (some ⟨0, 0, none⟩) hashT] [] (fun _ : Unit => .bool true) (fun _ => []) := by
  have hR := fun gh gc k0 hk => Root_s zProof check_z [] rfl k5 256 (by decide) gh gc k0 hk 0 rfl
  have hP := fun gh gc k0 hk => Pre_s zProof check_z [] rfl k5 256 (by decide) gh gc k0 hk 0 rfl
  have hS := fun gh gc k0 hk => Steps_s zProof check_z [] rfl k5 256 (by decide) gh gc k0 hk 0 rfl
  have hE := fun gh gc k hk => End_s zProof 256 (by decide) gh gc k hk
  have hw : wayP 256 k5 (expL (sumB 256 preE) zProof.bitmap [] 0) (endP zProof) 0 = preE := end_z
  have hp1 : (preLs 256 k5 (expL (sumB 256 preE) zProof.bitmap [] 0) (endP zProof) (0 + 1)).reverse = [preE] := by unfold preLs; simp only [Nat.zero_add, List.range_one, List.map_cons, List.map_nil, List.reverse_singleton]; rw [hw]
  have hs1 : stepL 256 k5 (expL (sumB 256 preE) zProof.bitmap [] 0) (endP zProof) (0 + 1) = [sumB 256 preE] := by unfold stepL; simp only [Nat.zero_add, List.range_one, List.map_cons, List.map_nil]; rw [hw]
  rw [hw] at hR
  rw [hp1] at hP
  rw [hs1] at hS
  rw [end_z] at hE
  have hk5 : Instr.fill (plArr 1) zB32.cells.toArray [(0, Value.int .u8 5)] = some k5.cells.toArray := by kernel_rfl
  refine spec_of Tryz.func23 rfl (n := 78) rfl rfl ?_
  intro W
  refine h_seq ?_
  refine h_reg ?_
  refine h_op (r_assign rfl) ?_
  refine h_nil ?_
  refine q_then ?_
  refine h_seq ?_
  refine h_reg ?_
  refine h_call ((Hash_s 256 (by decide)).comes) rfl rfl rfl fun ⟨gh, gc⟩ => ?_
  dsimp only
  refine h_op (r_assign rfl) ?_
  refine h_nil ?_
  refine q_then ?_
  refine h_seq ?_
  refine h_seq ?_
  refine h_reg ?_
  refine h_op (r_move rfl) ?_
  refine h_op (r_nilR rfl rfl) ?_
  refine h_nil ?_
  refine q_then ?_
  refine h_condF rfl ?_
  refine h_skip ?_
  refine q_then ?_
  refine h_seq ?_
  refine h_reg ?_
  refine h_op (r_move rfl) ?_
  refine h_op (r_build rfl) ?_
  refine h_op (r_build (out := k5.cells) rfl (hf := ⟨hk5⟩)) ?_
  refine h_call ((hR gh gc 0 (by decide)).comes) rfl rfl rfl fun _ => ?_
  refine h_op (r_move rfl) ?_
  refine h_op (r_extract rfl rfl) ?_
  refine h_op (r_extract rfl rfl) ?_
  refine h_opX (x_alloc) fun g2 => ?_
  refine h_opS (s_storer rfl rfl) ?_
  refine h_op (r_assign rfl) ?_
  refine h_nil ?_
  refine q_then ?_
  refine h_seq ?_
  refine h_reg ?_
  refine h_op (r_move rfl) ?_
  refine h_op (r_build rfl) ?_
  refine h_op (r_build (out := k5.cells) rfl (hf := ⟨hk5⟩)) ?_
  refine h_call ((hP gh gc (0 + 1 + 0 + 1) (by decide)).comes) rfl rfl rfl fun ⟨⟨g22, c22, xs⟩, hxs⟩ => ?_
  dsimp only at hxs ⊢
  obtain ⟨gx, cx, xs', rfl, hxs'⟩ := hxs.cons
  obtain rfl : xs' = [] := List.eq_nil_of_length_eq_zero hxs'.len
  refine h_L (L' := [.own (.slice (some ⟨g22, 0, none⟩) 1 c22) 1 38 1 [.slice (some ⟨gx, 0, none⟩) 1 cx], .blk gc [.int .i64 ((0 + 1 + 0 + 1 + 1 + 0 + 1 : Nat) : Int)] 166, .own (.slice (some ⟨gx, 0, none⟩) 1 cx) 1 5 1 (bc preE), .blk g2 (sumB 256 preE).cells 31, .blk gh [.pointer (some ⟨gc, 0, none⟩), .int .i64 ((256 : Nat) : Int)] 168, .rd (some ⟨0, 0, none⟩) hashT]) (fun _ s => s) ?_
  refine h_op (r_move rfl) ?_
  refine h_op (r_extract rfl rfl) ?_
  refine h_op (r_extract rfl rfl) ?_
  refine h_op (r_assign rfl) ?_
  refine h_op (r_assign rfl) ?_
  refine h_nil ?_
  refine q_then ?_
  refine h_seq ?_
  refine h_reg ?_
  refine h_op (r_move rfl) ?_
  refine h_op (r_build rfl) ?_
  refine h_op (r_build (out := k5.cells) rfl (hf := ⟨hk5⟩)) ?_
  refine h_call ((hS gh gc (0 + 1 + 0 + 1 + 1 + 0 + 1) (by decide)).comes) rfl rfl rfl fun ⟨g29, c29⟩ => ?_
  dsimp only
  refine h_op (r_move rfl) ?_
  refine h_op (r_extract rfl rfl) ?_
  refine h_op (r_extract rfl rfl) ?_
  refine h_op (r_assign rfl) ?_
  refine h_op (r_assign rfl) ?_
  refine h_nil ?_
  refine q_then ?_
  refine h_seq ?_
  refine ha_start [.blk g2 (sumB 256 preE).cells 31, .own (.slice (some ⟨g22, 0, none⟩) 1 c22) 1 38 1 [.slice (some ⟨gx, 0, none⟩) 1 cx], .own (.slice (some ⟨g29, 0, none⟩) (0 + 1) c29) (0 + 1) 31 32 (dgs [sumB 256 preE])] [] mixed (same) ?_
  refine ha_take 0 rfl (r_loadr rfl) ?_
  refine ha_one 1 ?_
  refine ho_C 1 rfl ((rEmpty_s 256 (by decide)).comes) rfl rfl rfl (fun _ => same) fun _ => ?_
  refine ha_takeP 2 rfl (r_bool (r_eqr rfl rfl) (show _ = true by simp)) ?_
  refine ha_takeP 3 rfl (r_move rfl) ?_
  refine ha_takeP 4 rfl (r_move rfl) ?_
  refine ha_takeP 5 rfl (r_bool (r_eql rfl rfl) (show _ = true by decide)) ?_
  refine ha_takeP 6 rfl (r_pick rfl rfl) ?_
  refine ha_takeP 7 rfl (r_move rfl) ?_
  refine ha_takeP 8 rfl (r_move rfl) ?_
  refine ha_takeP 9 rfl (r_len rfl) ?_
  refine ha_takeP 10 rfl (r_bool (r_eql rfl rfl) (show _ = true by decide)) ?_
  refine ha_takeP 11 rfl (r_pick rfl rfl) ?_
  refine ha_takeP 12 rfl (r_move rfl) ?_
  refine ha_takeP 13 rfl (r_move rfl) ?_
  refine ha_takeP 14 rfl (r_idx rfl rfl) ?_
  refine ha_take 15 rfl (r_loadc rfl) ?_
  refine ha_one 16 ?_
  refine ho_X 16 rfl (rk (x_bslV (bc preE) (ys := [.int .u8 3]) rfl rfl (bc_one _))) (fun _ => same) fun g48 => ?_
  refine ha_one 17 ?_
  refine ho_C 17 rfl ((Same_yes preE (some ⟨gx, 0, none⟩) (some ⟨g48, 0, none⟩) cx 1 (by decide)).comes) rfl rfl rfl (fun _ => same) fun _ => ?_
  refine ha_takeP 18 rfl (r_pick rfl rfl) ?_
  refine ha_takeP 19 rfl (r_move rfl) ?_
  refine ha_takeP 20 rfl (r_move rfl) ?_
  refine ha_takeP 21 rfl (r_bool (r_eql rfl rfl) (show _ = true by decide)) ?_
  refine ha_takeP 22 rfl (r_pick rfl rfl) ?_
  refine ha_takeP 23 rfl (r_move rfl) ?_
  refine ha_takeP 24 rfl (r_move rfl) ?_
  refine ha_takeP 25 rfl (r_len rfl) ?_
  refine ha_takeP 26 rfl (r_bool (r_eql rfl rfl) (show _ = true by decide)) ?_
  refine ha_takeP 27 rfl (r_pick rfl rfl) ?_
  refine ha_takeP 28 rfl (r_move rfl) ?_
  refine ha_takeP 29 rfl (r_move rfl) ?_
  refine ha_takeP 30 rfl (r_idx rfl rfl) ?_
  refine ha_take 31 rfl (r_nthr rfl (out := (sumB 256 preE).cells) (B32.cells_length _) (dgs_at (l := [sumB 256 preE]) (k := 0) (by decide))) ?_
  refine ha_take 32 rfl (r_loadr rfl) ?_
  refine ha_takeP 33 rfl (r_bool (r_eqr rfl rfl) (show _ = true by simp)) ?_
  refine ha_takeP 34 rfl (r_pick rfl rfl) ?_
  refine ha_takeP 35 rfl (r_move rfl) ?_
  refine ha_takeP 36 rfl (r_move rfl) ?_
  refine ha_takeP 37 rfl (r_bool (r_eql rfl rfl) (show _ = true by decide)) ?_
  refine ha_takeP 38 rfl (r_pick rfl rfl) ?_
  refine ha_takeP 39 rfl (r_move rfl) ?_
  refine ha_takeP 40 rfl (r_move rfl) ?_
  refine ha_takeP 41 rfl (r_build rfl) ?_
  refine ha_take 43 rfl (r_loadr rfl) ?_
  refine ha_one 42 ?_
  refine ho_C 42 rfl ((hE gh gc (0 + 1 + 0 + 1 + 1 + 0 + 1 + 1 + 0 + 1) (by decide)).comes) rfl rfl rfl (fun _ => same) fun _ => ?_
  refine ha_takeP 44 rfl (r_bool (r_eqr rfl rfl) (show _ = true by simp)) ?_
  refine ha_takeP 45 rfl (r_pick rfl rfl) ?_
  refine ha_takeP 46 rfl (r_assign rfl) ?_
  refine ha_done (by kernel_rfl) ?_
  refine q_then ?_
  refine h_ret ?_
  exact h_ret1 rfl rfl fun w s => ⟨(), rfl, s.res (List.nil_sublist _) (by simp)⟩
end Go.Proofs.YtdfeimdhlagebaaGreatDoor
/- U55 -/
namespace Go.Proofs.YtdfeimdhlagebaaGreatDoor
set_option linter.unusedSimpArgs false
set_option linter.unusedVariables false
open Go.RowKit
theorem kind_zero {t : Tr} (h : ¬ t.kind ≠ 0) : t = .nil := by
  cases t with
  | nil => rfl
  | leaf k v => exact (h (by simp [Tr.kind])).elim
  | node l r => exact (h (by simp [Tr.kind])).elim
theorem dep_dsK {key : B32} {t : Tr} {D : Nat} (hD : D ≤ 256) : ∀ i, i ≤ D → dep (dset (dsK key t D)) i = dsK key t i := fun i hi => by
  show (List.range i).filter _ = (List.range i).filter _
  apply List.filter_congr
  intro j hj
  have hj := List.mem_range.1 hj
  rw [dset_bit _ j (by omega)]
  refine decide_eq_decide.2 ⟨fun h => by simpa using (List.mem_filter.1 h).2, fun h => List.mem_filter.2 ⟨List.mem_range.2 (by omega), by simpa using h⟩⟩
theorem dsK_pre (key : B32) (t : Tr) (i : Nat) : ∀ j, ∃ r, dsK key t (i + j) = dsK key t i ++ r
  | 0 => ⟨[], by simp⟩
  | j + 1 => by
    obtain ⟨r, hr⟩ := dsK_pre key t i j
    by_cases h : (sibK key t (i + j)).kind ≠ 0
    · exact ⟨r ++ [i + j], by rw [← Nat.add_assoc, dsK_yes h, hr, List.append_assoc]⟩
    · exact ⟨r, by rw [← Nat.add_assoc, dsK_no h, hr]⟩
theorem expL_prf (n : Nat) {key : B32} {t : Tr} {D : Nat} (hD : D ≤ 256) : expL (sumB n preE) (dset (dsK key t D)) (rsK n key t D) D = (List.range D).map fun i => dgT n (sibK key t i) := by
  rw [expL_eq]
  apply List.map_congr_left
  intro i hi
  have hi := List.mem_range.1 hi
  rw [dset_bit _ i (by omega), dep_dsK hD i (by omega)]
  by_cases h : (sibK key t i).kind ≠ 0
  · have hm : i ∈ dsK key t D := List.mem_filter.2 ⟨List.mem_range.2 hi, by simpa using h⟩
    rw [decide_eq_true hm, if_pos rfl]
    obtain ⟨r, hr⟩ := dsK_pre key t (i + 1) (D - (i + 1))
    rw [show i + 1 + (D - (i + 1)) = D by omega, dsK_yes h] at hr
    unfold rsK
    rw [hr, List.getD_eq_getElem?_getD, List.map_append, List.map_append, List.append_assoc, List.getElem?_append_right (by simp)]
    simp
  · have hm : i ∉ dsK key t D := fun hm => h (by simpa using (List.mem_filter.1 hm).2)
    rw [decide_eq_false hm, if_neg (by simp), kind_zero h]
    rfl
theorem wayP_prf (n : Nat) {key : B32} {t : Tr} {D : Nat} (hw : WayTo key t D) (A : Option Addr) (c : Nat) : ∀ k, k ≤ D → sumB n (wayP n key ((List.range D).map fun i => dgT n (sibK key t i)) (endP (prfK n key t D A c)) k) = dgT n (wayK key t (D - k))
  | 0, _ => by
    have he := hw.end_
    show sumB n (if (((wayK key t D).kind : Nat) : Int) = 1 then preL (leafT n (wayK key t D)) else preE) = dgT n (wayK key t D)
    generalize wayK key t D = x at *
    cases x with
    | nil => rfl
    | leaf k v => rfl
    | node l r => exact (he rfl).elim
  | k + 1, hk => by
    have ih := wayP_prf n hw A c k (by omega)
    have hlen : ((List.range D).map fun i => dgT n (sibK key t i)).length = D := by simp
    have hi : D - 1 - k < D := by omega
    have hget : ((List.range D).map fun i => dgT n (sibK key t i)).getD (D - 1 - k) zB32 = dgT n (sibK key t (D - 1 - k)) := by
      rw [List.getD_eq_getElem?_getD, List.getElem?_map, List.getElem?_range hi]; rfl
    rw [wayP, hlen, hget, ih, show D - (k + 1) = D - 1 - k by omega, show D - k = (D - 1 - k) + 1 by omega]
    have hon := hw.on (D - 1 - k) hi
    unfold sibK
    show sumB n _ = _
    rw [show wayK key t (D - 1 - k + 1) = (wayK key t (D - 1 - k)).sub (bitAt key (D - 1 - k)) from rfl]
    generalize wayK key t (D - 1 - k) = x at *
    cases x with
    | nil => cases hon
    | leaf k v => cases hon
    | node l r => cases bitAt key (D - 1 - k) <;> rfl
theorem Root_prf (n : Nat) (hn : n ≤ 256) {key : B32} {t : Tr} {D : Nat} (hw : WayTo key t D) (hL : LastOk key t D) (A : Option Addr) (c gh gc k : Nat) (hk : k ≤ 800000000000) : Spec Tryz.prog 24 [.pointer (some ⟨gh, 0, none⟩), .agg (prfK n key t D A c).cells.toArray, .agg key.cells.toArray].toArray [HR gh gc n, .rd A (dgs (rsK n key t D)), TBL] [CN gc k] (fun _ : Unit => .tuple #[.agg (dgT n t).cells.toArray, .int .i64 0]) (fun _ => [CN gc (k + 1 + D + 1)]) := by
  have h1 := Root_s (prfK n key t D A c) (prf_ok n hw hL A c) (rsK n key t D) (rsK_len n key t D).symm key n hn gh gc k hk D rfl
  have h2 := wayP_prf n hw A c D (Nat.le_refl _)
  rw [Nat.sub_self] at h2
  rw [show (prfK n key t D A c).bitmap = dset (dsK key t D) from rfl, expL_prf n hw.le, h2] at h1
  exact h1
section
variable (h : Zh) [hT : RdZ h (some ⟨0, 0, none⟩) hashT]
theorem FoldLeads_s (i : Int) (l : List En) (B : Option Addr) (c : Nat) [hB : RdZ h B (ents l)] (hv : SlsZ h l) (key : B32) : Spec Tryz.prog 5 [.int .i64 i, .slice B l.length c, .agg key.cells.toArray].toArray [] [.zone true h] (fun _ : {x : Zh // LeZ h x} => .bool true) (fun x => [.zone true x.1]) := by
  refine spec_of Tryz.func5 rfl (n := 47) rfl rfl ?_
  intro W
  by_cases hi : 0 ≤ i ∧ i ≤ 256
  · obtain ⟨n, rfl⟩ : ∃ n : Nat, i = (n : Int) := ⟨i.toNat, by omega⟩
    have hn : n ≤ 256 := by omega
    by_cases hf : fewM l = true
    · have hvl := hv.few hf
      have hal : Alike (ofM l) 0 := Alike.start (ofM_nodup l)
      obtain ⟨D, hw⟩ := wayM (key := key) hal
      have hD := hw.way.le
      have hlm : (ofM l).length ≤ 12 := Nat.le_trans (ofM_len l) (by unfold fewM at hf; rw [Bool.and_eq_true, decide_eq_true_eq] at hf; exact hf.1)
      refine h_seq ?_
      refine h_reg ?_
      refine h_opX (x_box rfl) fun g5 => ?_
      refine h_op (r_assign rfl) ?_
      refine h_nil ?_
      refine q_then ?_
      refine h_seq ?_
      refine h_reg ?_
      refine h_op (r_move rfl) ?_
      refine h_op (r_move rfl) ?_
      refine h_call ((Tree_yes n hn l B c hf h hvl).comes) rfl rfl rfl fun ⟨⟨h1, q1, A1, c1⟩, hle1, ht1⟩ => ?_
      dsimp only at hle1 ht1 ⊢
      refine h_freezeO (.slice A1 (ofM l).length c1) fun h2 B2 c2 e2 hle2 hlen2 hnil2 hz2 hr2 => ?_
      injection e2 with e2 _ e3
      subst e2 e3
      have hT2 : RdZ h2 (some ⟨0, 0, none⟩) hashT := (hT.mono hle1).mono hz2
      have hroot := Root_any n hn h2 (show 0 ≤ 256 by omega) hal (by omega) (ValsZ.few hvl (hle1.trans hz2)) A1 c1
      rw [show rootM n (ofM l) 0 = dgT n (mkT (ofM l) 0) from rfl] at hroot
      refine h_op (r_move rfl) ?_
      refine h_op (r_extract rfl rfl) ?_
      refine h_op (r_extract rfl rfl) ?_
      refine h_op (r_extract rfl rfl) ?_
      refine h_op (r_assign rfl) ?_
      refine h_op (r_assign rfl) ?_
      refine h_op (r_assign rfl) ?_
      refine h_nil ?_
      refine q_then ?_
      refine h_seq ?_
      refine h_reg ?_
      refine h_op (r_move rfl) ?_
      refine h_call ((Hash_s n hn).comes) rfl rfl rfl fun ⟨gh, gc⟩ => ?_
      dsimp only
      refine h_op (r_assign rfl) ?_
      refine h_nil ?_
      refine q_then ?_
      refine h_seq ?_
      refine h_seq ?_
      refine h_reg ?_
      refine h_op (r_move rfl) ?_
      refine h_op (r_not rfl) ?_
      refine h_nil ?_
      refine q_then ?_
      refine h_condF rfl ?_
      refine h_skip ?_
      refine q_then ?_
      refine h_seq ?_
      refine h_join (fun (u : Nat) => [(12, .int .i64 0), (11, .pointer (some ⟨u, 0, none⟩)), (7, .slice A1 (ofM l).length c1), (0, .int .i64 (n : Int))]) (fun (u : Nat) => [.blk u (dgT n (mkT (ofM l) 0)).cells 31, .zone true h2]) (fun kk => ?_) ?_
      · refine ha_start [.blk g5 key.cells 24] [] mixed (same) ?_
        refine ha_takeP 0 rfl (r_move rfl) ?_
        refine ha_takeP 1 rfl (r_move rfl) ?_
        refine ha_takeP 2 rfl (r_move rfl) ?_
        refine ha_take 3 rfl (r_loadr rfl) ?_
        refine ha_take 5 rfl (r_loadr rfl) ?_
        refine ha_two 4 10 ?_ ?_
        · refine ho_C 4 rfl ((Prove_s n hn gh gc 0 (by decide) h2 (mkT (ofM l) 0) q1 key D hw.way).comes) rfl rfl rfl (fun _ => same) fun ⟨A30, c30⟩ => ?_
          refine ha_two 6 10 ?_ ?_
          · refine ho_C 6 rfl ((Root_prf n hn hw.way hw.lastOk A30 c30 gh gc 0 (by decide)).comes) rfl rfl rfl (fun _ => same) fun _ => ?_
            refine ha_takeP 7 rfl (r_move rfl) ?_
            refine ha_takeP 8 rfl (r_extract rfl rfl) ?_
            refine ha_takeP 9 rfl (r_extract rfl rfl) ?_
            refine ha_one 10 ?_
            refine ho_X 10 rfl (rk (x_alloc)) (fun _ => same) fun g11 => ?_
            refine ha_one 11 ?_
            refine ho_S 11 rfl (s_storer rfl rfl) (same) ?_
            refine ha_takeP 12 rfl (r_assign rfl) ?_
            exact ha_done (by kernel_rfl) (h_K (kk g11) (⟨rfl, rfl, rfl, rfl, trivial⟩) same)
          · refine ho_X 10 rfl (rk (x_alloc)) (fun _ => same) fun g11 => ?_
            refine ha_one 6 ?_
            refine ho_C 6 rfl ((Root_prf n hn hw.way hw.lastOk A30 c30 gh gc 0 (by decide)).comes) rfl rfl rfl (fun _ => same) fun _ => ?_
            refine ha_takeP 7 rfl (r_move rfl) ?_
            refine ha_takeP 8 rfl (r_extract rfl rfl) ?_
            refine ha_takeP 9 rfl (r_extract rfl rfl) ?_
            refine ha_one 11 ?_
            refine ho_S 11 rfl (s_storer rfl rfl) (same) ?_
            refine ha_takeP 12 rfl (r_assign rfl) ?_
            exact ha_done (by kernel_rfl) (h_K (kk g11) (⟨rfl, rfl, rfl, rfl, trivial⟩) same)
        · refine ho_X 10 rfl (rk (x_alloc)) (fun _ => same) fun g11 => ?_
          refine ha_one 4 ?_
          refine ho_C 4 rfl ((Prove_s n hn gh gc 0 (by decide) h2 (mkT (ofM l) 0) q1 key D hw.way).comes) rfl rfl rfl (fun _ => same) fun ⟨A30, c30⟩ => ?_
          refine ha_one 6 ?_
          refine ho_C 6 rfl ((Root_prf n hn hw.way hw.lastOk A30 c30 gh gc 0 (by decide)).comes) rfl rfl rfl (fun _ => same) fun _ => ?_
          refine ha_takeP 7 rfl (r_move rfl) ?_
          refine ha_takeP 8 rfl (r_extract rfl rfl) ?_
          refine ha_takeP 9 rfl (r_extract rfl rfl) ?_
          refine ha_one 11 ?_
          refine ho_S 11 rfl (s_storer rfl rfl) (same) ?_
          refine ha_takeP 12 rfl (r_assign rfl) ?_
          exact ha_done (by kernel_rfl) (h_K (kk g11) (⟨rfl, rfl, rfl, rfl, trivial⟩) same)
      rintro g11
      refine q_then ?_
      refine h_seq ?_
      refine ha_start [.blk g11 (dgT n (mkT (ofM l) 0)).cells 31] [] mixed (same) ?_
      refine ha_one 0 ?_
      refine ho_C 0 rfl (alive_s.comes) rfl rfl rfl (fun _ => same) fun _ => ?_
      refine ha_takeP 1 rfl (r_move rfl) ?_
      refine ha_takeP 2 rfl (r_move rfl) ?_
      refine ha_takeP 3 rfl (r_bool (r_eql rfl rfl) (show _ = true from rfl)) ?_
      refine ha_takeP 4 rfl (r_pick rfl rfl) ?_
      refine ha_takeP 5 rfl (r_move rfl) ?_
      refine ha_take 6 rfl (r_loadr rfl) ?_
      refine ha_takeP 7 rfl (r_move rfl) ?_
      refine ha_takeP 8 rfl (r_move rfl) ?_
      refine ha_one 9 ?_
      refine ho_C 9 rfl (hroot.comes) rfl rfl rfl (fun _ => same) fun _ => ?_
      refine ha_takeP 10 rfl (r_bool (r_eqr rfl rfl) (show _ = true by simp)) ?_
      refine ha_takeP 11 rfl (r_pick rfl rfl) ?_
      refine ha_takeP 12 rfl (r_assign rfl) ?_
      refine ha_done (by kernel_rfl) ?_
      refine q_then ?_
      refine h_ret ?_
      exact h_ret1 rfl rfl fun w s => ⟨⟨h2, hle1.trans hz2⟩, rfl, (same (L' := [.zone true h2]) w s).res (List.Sublist.refl _) (by simp [Fa.wr])⟩
    · refine h_seq ?_
      refine h_reg ?_
      refine h_opX (x_box rfl) fun g5 => ?_
      refine h_op (r_assign rfl) ?_
      refine h_nil ?_
      refine q_then ?_
      refine h_seq ?_
      refine h_reg ?_
      refine h_op (r_move rfl) ?_
      refine h_op (r_move rfl) ?_
      refine h_call ((Tree_few n hn l B c (by simpa using hf)).comes) rfl rfl rfl fun _ => ?_
      refine h_op (r_move rfl) ?_
      refine h_op (r_extract rfl rfl) ?_
      refine h_op (r_extract rfl rfl) ?_
      refine h_op (r_extract rfl rfl) ?_
      refine h_op (r_assign rfl) ?_
      refine h_op (r_assign rfl) ?_
      refine h_op (r_assign rfl) ?_
      refine h_nil ?_
      refine q_then ?_
      refine h_seq ?_
      refine h_reg ?_
      refine h_op (r_move rfl) ?_
      refine h_call ((Hash_s n hn).comes) rfl rfl rfl fun ⟨gh, gc⟩ => ?_
      dsimp only
      refine h_op (r_assign rfl) ?_
      refine h_nil ?_
      refine q_then ?_
      refine h_seq ?_
      refine h_seq ?_
      refine h_reg ?_
      refine h_op (r_move rfl) ?_
      refine h_op (r_not rfl) ?_
      refine h_nil ?_
      refine q_then ?_
      refine h_condT rfl ?_
      refine h_seq ?_
      refine h_reg ?_
      refine h_call (alive_s.comes) rfl rfl rfl fun _ => ?_
      refine h_op (r_assign rfl) ?_
      refine h_nil ?_
      refine q_then ?_
      refine h_ret ?_
      refine q_thenR ?_
      exact h_ret1 rfl rfl fun w s => ⟨⟨h, LeZ.refl h⟩, rfl, (same (L' := [.zone true h]) w s).res (List.Sublist.refl _) (by simp [Fa.wr])⟩
  · refine h_seq ?_
    refine h_reg ?_
    refine h_opX (x_box rfl) fun g5 => ?_
    refine h_op (r_assign rfl) ?_
    refine h_nil ?_
    refine q_then ?_
    refine h_seq ?_
    refine h_reg ?_
    refine h_op (r_move rfl) ?_
    refine h_op (r_move rfl) ?_
    refine h_call ((Tree_bits i hi l B c).comes) rfl rfl rfl fun _ => ?_
    refine h_op (r_move rfl) ?_
    refine h_op (r_extract rfl rfl) ?_
    refine h_op (r_extract rfl rfl) ?_
    refine h_op (r_extract rfl rfl) ?_
    refine h_op (r_assign rfl) ?_
    refine h_op (r_assign rfl) ?_
    refine h_op (r_assign rfl) ?_
    refine h_nil ?_
    refine q_then ?_
    refine h_seq ?_
    refine h_reg ?_
    refine h_op (r_move rfl) ?_
    refine h_call ((Hash_no i hi).comes) rfl rfl rfl fun _ => ?_
    refine h_op (r_assign rfl) ?_
    refine h_nil ?_
    refine q_then ?_
    refine h_seq ?_
    refine h_seq ?_
    refine h_reg ?_
    refine h_op (r_move rfl) ?_
    refine h_op (r_not rfl) ?_
    refine h_nil ?_
    refine q_then ?_
    refine h_condT rfl ?_
    refine h_seq ?_
    refine h_reg ?_
    refine h_call (alive_s.comes) rfl rfl rfl fun _ => ?_
    refine h_op (r_assign rfl) ?_
    refine h_nil ?_
    refine q_then ?_
    refine h_ret ?_
    refine q_thenR ?_
    exact h_ret1 rfl rfl fun w s => ⟨⟨h, LeZ.refl h⟩, rfl, (same (L' := [.zone true h]) w s).res (List.Sublist.refl _) (by simp [Fa.wr])⟩
end
end Go.Proofs.YtdfeimdhlagebaaGreatDoor
