/- The reference's expansion; slices.Reverse; fold.Preimages; fold.Preimages; Rows of one's own, one by one: plain; The reference's preimages and steps; The reference's steps; rows of digests that are the same; The reference's checks of claims; The reference's check; law18.Short; The example of chapter 18: plain; law15.alive: it is true (joined texts: U23e U21 U22 U24p U24 U25 U98 U99 E24 U46) -/
import Derived.Test.YtgfkbeipckbkiaaGreatDoorY15
set_option linter.all false
/- U23e -/
namespace Go.Proofs.YtgfkbeipckbkiaaGreatDoor
set_option linter.unusedSimpArgs false
set_option linter.unusedVariables false
open Go.RowKit
theorem expL_succ (e : B32) (b : B32) (ss : List B32) (k : Nat) (x : B32) (h : x = if bitAt b k then ss.getD (dep b k).length zB32 else e) : dgs (expL e b ss k) ++ x.cells = dgs (expL e b ss (k + 1)) := by
  rw [expL, dgs_append, ← h]
  simp [dgs]
theorem rExpand_s (p : Proof) (hc : checkP p = 0) (ss : List B32) (hs : p.sibs.n = ss.length) (n : Nat) (hn : n ≤ 256) (d : Nat) (hd : p.depth = (d : Int)) : Spec Tryz.prog 156 [.int .i64 (n : Int), .agg p.cells.toArray].toArray [.rd p.sibs.A (dgs ss)] [] (fun u : Option Addr × Nat => .slice u.1 d u.2) (fun u => [.own (.slice u.1 d u.2) d 41 32 (dgs (expL (sumB n preE) p.bitmap ss d))]) := by
  have hd2 := ok_depth hc
  have hsb := ok_sibs hc
  refine spec_of Tryz.func156 rfl (n := 35) rfl rfl ?_
  intro W
  refine h_seq ?_
  refine h_reg ?_
  refine h_opX (x_box rfl) fun g3 => ?_
  refine h_op (r_assign rfl) ?_
  refine h_nil ?_
  refine q_then ?_
  refine h_seq ?_
  refine h_reg ?_
  refine h_op (r_assign rfl) ?_
  refine h_nil ?_
  refine q_then ?_
  refine h_seq ?_
  refine h_reg ?_
  refine h_op (r_assign rfl) ?_
  refine h_nil ?_
  refine q_then ?_
  refine h_seq ?_
  refine h_seq ?_
  refine h_reg ?_
  refine h_op (r_assign rfl) ?_
  refine h_nil ?_
  refine q_then ?_
  refine h_block ?_
  refine h_nil_own 41 32 (xs := dgs (expL (sumB n preE) p.bitmap ss 0)) rfl ?_
  refine h_loop (fun (s : Nat × Option Addr × Nat) => s.1 ≤ d) (fun (s : Nat × Option Addr × Nat) => [(7, .int .i64 (s.1 : Int)), (6, .int .i64 (((dep p.bitmap s.1).length : Nat) : Int)), (5, .slice s.2.1 s.1 s.2.2), (3, .pointer (some ⟨g3, 0, none⟩)), (0, .int .i64 (n : Int))]) (fun (s : Nat × Option Addr × Nat) => [.own (.slice s.2.1 s.1 s.2.2) s.1 41 32 (dgs (expL (sumB n preE) p.bitmap ss s.1)), .blk g3 p.cells 87, .rd p.sibs.A (dgs ss)]) (fun (s : Nat × Option Addr × Nat) => d - s.1) (0, none, 0) ((show 0 ≤ d by omega)) ⟨rfl, rfl, rfl, rfl, rfl, trivial⟩ (same) ?_
  rintro ⟨k, B, c⟩ hk
  dsimp only at hk ⊢
  have hdl := dep_len p.bitmap k
  refine h_seq ?_
  refine h_seq ?_
  refine h_reg ?_
  refine h_op (r_move rfl) ?_
  refine h_op (r_field rfl) ?_
  refine h_op (r_int (r_loadc rfl) hd) ?_
  refine h_op (r_lss rfl rfl) ?_
  refine h_nil ?_
  refine q_then ?_
  refine h_cond rfl (fun h => ?_) (fun h => ?_)
  · have hk256 : k < 256 := by omega
    refine h_skip ?_
    refine q_then ?_
    refine h_seq ?_
    refine h_block ?_
    refine h_seq ?_
    refine h_reg ?_
    refine h_op (r_field rfl) ?_
    refine h_op (r_loadr rfl) ?_
    refine h_op (r_move rfl) ?_
    refine h_call ((refBit_s p.bitmap k hk256).comes) rfl rfl rfl fun _ => ?_
    refine h_op (r_bool (r_eql rfl rfl) (bitN_one p.bitmap k)) ?_
    refine h_nil ?_
    refine q_then ?_
    refine h_condB rfl (fun h2 => ?_) (fun h2 => ?_)
    · have he := dep_yes h2
      have hl := dep_lt hk256 h2
      have hl1 : (dep p.bitmap (k + 1)).length = (dep p.bitmap k).length + 1 := by rw [he]; simp
      have hex := expL_succ (sumB n preE) p.bitmap ss k (ss.getD (dep p.bitmap k).length zB32) (by rw [if_pos h2])
      refine h_pure (φ := ∃ b o, p.sibs.A = some ⟨b, o, none⟩) (fun w s => Rd.some (s.ok (.rd p.sibs.A (dgs ss)) (by simp)) (by rw [dgs_len]; omega)) ?_
      rintro ⟨b, o, hA⟩
      refine h_seq ?_
      refine h_reg ?_
      refine h_op (r_move rfl) ?_
      refine h_op (r_field rfl) ?_
      refine h_op (r_loadc rfl) ?_
      rw [hA]
      refine h_op (r_move rfl) ?_
      refine h_op (r_idx rfl rfl) ?_
      refine h_op (r_nthr rfl (out := (ss.getD (dep p.bitmap k).length zB32).cells) (B32.cells_length _) (dgs_at (by omega))) ?_
      refine h_opX (x_bsl rfl rfl) fun g25 => ?_
      refine h_opX (x_app rfl rfl (k := 32)) fun ⟨g26, c26⟩ => ?_
      refine h_op (r_assign rfl) ?_
      refine h_nil ?_
      refine q_then ?_
      refine h_reg ?_
      refine h_op (r_move rfl) ?_
      refine h_op (r_add rfl rfl) ?_
      refine h_op (r_assign rfl) ?_
      refine h_nil ?_
      refine q_block ?_
      refine q_then ?_
      refine h_reg ?_
      refine h_op (r_move rfl) ?_
      refine h_op (r_add rfl rfl) ?_
      refine h_op (r_assign rfl) ?_
      refine h_nil ?_
      rw [hex]
      exact h_back (k + 1, some ⟨g26, 0, none⟩, c26) ((show k + 1 ≤ d by omega)) ((show d - (k + 1) < d - k by omega)) ⟨rfl, aI rfl (by dsimp only; omega), rfl, rfl, rfl, trivial⟩ (same)
    · have he := dep_no (b := p.bitmap) (k := k) (by rw [h2]; simp)
      have hex := expL_succ (sumB n preE) p.bitmap ss k (sumB n preE) (by rw [if_neg (by rw [h2]; simp)])
      refine h_reg ?_
      refine h_op (r_move rfl) ?_
      refine h_op (r_move rfl) ?_
      refine h_call ((rEmpty_s n hn).comes) rfl rfl rfl fun _ => ?_
      refine h_opX (x_bsl rfl rfl) fun g32 => ?_
      refine h_opX (x_app rfl rfl (k := 32)) fun ⟨g33, c33⟩ => ?_
      refine h_op (r_assign rfl) ?_
      refine h_nil ?_
      refine q_block ?_
      refine q_then ?_
      refine h_reg ?_
      refine h_op (r_move rfl) ?_
      refine h_op (r_add rfl rfl) ?_
      refine h_op (r_assign rfl) ?_
      refine h_nil ?_
      rw [hex]
      exact h_back (k + 1, some ⟨g33, 0, none⟩, c33) ((show k + 1 ≤ d by omega)) ((show d - (k + 1) < d - k by omega)) ⟨rfl, aI rfl (by dsimp only; rw [he]), rfl, rfl, rfl, trivial⟩ (same)
  · obtain rfl : k = d := by omega
    refine h_exit ?_
    refine q_thenE ?_
    refine q_thenE ?_
    refine q_blockE ?_
    refine q_then ?_
    refine h_seq ?_
    refine h_reg ?_
    refine h_op (r_move rfl) ?_
    refine h_op (r_assign rfl) ?_
    refine h_nil ?_
    refine q_then ?_
    refine h_ret ?_
    exact h_ret1 rfl rfl fun w s => ⟨(B, c), rfl, s.res ((List.nil_sublist _).cons_cons _) (by simp [Fa.wr])⟩
end Go.Proofs.YtgfkbeipckbkiaaGreatDoor
/- U21 -/
namespace Go.Proofs.YtgfkbeipckbkiaaGreatDoor
set_option linter.unusedSimpArgs false
set_option linter.unusedVariables false
open Go.RowKit
end Go.Proofs.YtgfkbeipckbkiaaGreatDoor
/- U22 -/
namespace Go.Proofs.YtgfkbeipckbkiaaGreatDoor
set_option linter.unusedSimpArgs false
set_option linter.unusedVariables false
open Go.RowKit
instance (m : List Fa) : TakeTl m m [] := ⟨by rw [List.append_nil]⟩
def preLs (n : Nat) (key : B32) (ds : List B32) (pre : List UInt8) (N : Nat) : List (List UInt8) := (List.range N).map (wayP n key ds pre)
/-- rows of one's own -/
def ownsOf : List Seg → List Fa
  | [] => []
  | x :: l => .own (sv x) x.2.2.length 5 1 (bc x.2.2) :: ownsOf l
theorem ownsOf_wr (xs : List Seg) : ∀ f ∈ ownsOf xs, f.wr = true := by
  induction xs with
  | nil => intro f hf; cases hf
  | cons x l ih => intro f hf; rcases List.mem_cons.1 hf with rfl | h; rfl; exact ih f h
theorem ownsOf_mem {xs : List Seg} {x : Seg} (h : x ∈ xs) : Fa.own (sv x) x.2.2.length 5 1 (bc x.2.2) ∈ ownsOf xs := by
  induction xs with
  | nil => cases h
  | cons y l ih => exact (List.mem_cons.1 h).elim (fun e => by rw [e]; exact List.mem_cons_self ..) fun e => List.mem_cons_of_mem _ (ih e)
/-- rows that are somewhere, with these bytes -/
def SegsOk (ys : List Seg) (ls : List (List UInt8)) : Prop := ys.map (fun x => x.2.2) = ls ∧ ∀ x ∈ ys, ∃ g, x.1 = some ⟨g, 0, none⟩
theorem SegsOk.len {ys : List Seg} {ls : List (List UInt8)} (h : SegsOk ys ls) : ys.length = ls.length := by rw [← h.1, List.length_map]
theorem preLs_len (n : Nat) (key : B32) (ds : List B32) (pre : List UInt8) (N : Nat) : (preLs n key ds pre N).length = N := by simp [preLs]
theorem preLs_succ (n : Nat) (key : B32) (ds : List B32) (pre : List UInt8) (N : Nat) : (preLs n key ds pre (N + 1)).reverse = wayP n key ds pre N :: (preLs n key ds pre N).reverse := by
  unfold preLs
  rw [List.range_succ, List.map_append, List.reverse_append]
  rfl
end Go.Proofs.YtgfkbeipckbkiaaGreatDoor
/- U24p -/
namespace Go.Proofs.YtgfkbeipckbkiaaGreatDoor
set_option linter.unusedSimpArgs false
set_option linter.unusedVariables false
open Go.RowKit
theorem SegsOk.cons {xs : List Seg} {l : List UInt8} {ls : List (List UInt8)} (h : SegsOk xs (l :: ls)) : ∃ g c xs', xs = (some ⟨g, 0, none⟩, c, l) :: xs' ∧ SegsOk xs' ls := by
  obtain ⟨h1, h2⟩ := h
  cases xs with
  | nil => cases h1
  | cons x xs' =>
    rw [List.map_cons] at h1
    injection h1 with h3 h4
    obtain ⟨g, hg⟩ := h2 x (List.mem_cons_self ..)
    obtain ⟨A, c, l'⟩ := x
    simp only at h3 hg
    subst h3 hg
    exact ⟨g, c, xs', rfl, h4, fun y hy => h2 y (List.mem_cons_of_mem _ hy)⟩
instance (priority := 5) (N M : List Fa) : App N M (N ++ M) := ⟨rfl⟩
theorem rd1_own {L : List Fa} {A : Option Addr} {n c e size : Nat} {cs : List Value} (h : Fa.own (.slice A n c) n e size cs ∈ L) : Rd1 L (.rd A cs) := ⟨fun hw => ⟨rfl, own_rd' (hw.ok _ h), fun k hk => ⟨_, h, by obtain ⟨_, o, rfl⟩ := hk; rfl⟩⟩⟩
theorem rds_one {L : List Fa} {r : Fa} (h : Rd1 L r) : Rds L [r] := inferInstance
theorem SegsOk.at {xs : List Seg} {ls : List (List UInt8)} (h : SegsOk xs ls) {i : Nat} {l : List UInt8} (hl : ls[i]? = some l) : ∃ g c, xs[i]? = some (some ⟨g, 0, none⟩, c, l) := by
  rw [← h.1, List.getElem?_map] at hl
  obtain ⟨x, hx, e⟩ := Option.map_eq_some_iff.1 hl
  obtain ⟨g, hg⟩ := h.2 x (List.mem_of_getElem? hx)
  obtain ⟨A, c, l'⟩ := x
  simp only at e hg
  subst e hg
  exact ⟨g, c, hx⟩
end Go.Proofs.YtgfkbeipckbkiaaGreatDoor
/- U24 -/
namespace Go.Proofs.YtgfkbeipckbkiaaGreatDoor
set_option linter.unusedSimpArgs false
set_option linter.unusedVariables false
open Go.RowKit
theorem rPre_s (p : Proof) (hc : checkP p = 0) (ss : List B32) (hs : p.sibs.n = ss.length) (key : B32) (n : Nat) (hn : n ≤ 256) (d : Nat) (hd : p.depth = (d : Int)) : Spec Tryz.prog 125 [.int .i64 (n : Int), .agg p.cells.toArray, .agg key.cells.toArray].toArray [.rd p.sibs.A (dgs ss)] [] (fun u : { u : Nat × Nat × List Seg // SegsOk u.2.2 (preLs n key (expL (sumB n preE) p.bitmap ss d) (endP p) (d + 1)).reverse } => .slice (some ⟨u.1.1, 0, none⟩) (d + 1) u.1.2.1) (fun u => .own (.slice (some ⟨u.1.1, 0, none⟩) (d + 1) u.1.2.1) (d + 1) 66 1 (svs u.1.2.2) :: ownsOf u.1.2.2) := by
  have hd2 := ok_depth hc
  have hE := rExpand_s p hc ss hs n hn d hd
  have hlen := expL_len (sumB n preE) p.bitmap ss d
  generalize expL (sumB n preE) p.bitmap ss d = ds at *
  subst hlen
  have hds : ds.length ≤ 256 := by omega
  have hel := endP_len p
  have hwl := wayP_len n key ds (endP p) hel
  generalize hpre : endP p = pre at *
  refine spec_of Tryz.func125 rfl (n := 58) rfl rfl ?_
  intro W
  refine h_seq ?_
  refine h_reg ?_
  refine h_opX (x_box rfl) fun g4 => ?_
  refine h_opX (x_box rfl) fun g5 => ?_
  refine h_op (r_assign rfl) ?_
  refine h_nil ?_
  refine q_then ?_
  refine h_seq ?_
  refine h_reg ?_
  refine h_op (r_move rfl) ?_
  refine h_op (r_loadr rfl) ?_
  refine h_call (hE.comes) rfl rfl rfl fun ⟨Bx, cx⟩ => ?_
  dsimp only
  refine h_op (r_assign rfl) ?_
  refine h_nil ?_
  refine q_then ?_
  refine h_seq ?_
  refine h_reg ?_
  refine h_opX (x_bsl rfl rfl) fun g16 => ?_
  refine h_op (r_assign rfl) ?_
  refine h_nil ?_
  refine q_then ?_
  refine h_seq ?_
  refine h_seq ?_
  refine h_reg ?_
  refine h_op (r_field rfl) ?_
  refine h_op (r_loadc rfl) ?_
  refine h_op (r_eql rfl rfl) ?_
  refine h_nil ?_
  refine q_then ?_
  change H _ _ _ _ _ (.own (.slice (some ⟨g16, 0, none⟩) 1 1) 1 _ _ (bc preE) :: _) _
  by_cases hkd : p.kind = 1
  · obtain rfl : pre = preL p.leaf := hpre.symm.trans (if_pos hkd)
    refine h_yes rfl (hkd) ?_
    refine h_reg ?_
    refine h_op (r_field rfl) ?_
    refine h_op (r_loadr rfl) ?_
    refine h_call ((rLeaf_s p.leaf).comes) rfl rfl rfl fun ⟨g22, c22⟩ => ?_
    dsimp only
    refine h_op (r_assign rfl) ?_
    refine h_nil ?_
    refine q_then ?_
    refine h_seq ?_
    refine h_reg ?_
    refine h_op (r_move rfl) ?_
    refine h_opX (x_bsl rfl rfl) fun g24 => ?_
    refine h_op (r_assign rfl) ?_
    refine h_nil ?_
    refine q_then ?_
    refine h_seq ?_
    refine h_seq ?_
    refine h_reg ?_
    refine h_op (r_field rfl) ?_
    refine h_op (r_loadc rfl) ?_
    refine h_op (r_sub rfl rfl) ?_
    refine h_op (r_assign rfl) ?_
    refine h_nil ?_
    refine q_then ?_
    refine h_block ?_
    change H _ _ _ _ _ (.own (.slice (some ⟨g24, 0, none⟩) (0 + 1) 1) (0 + 1) _ _ (svs [(some ⟨g22, 0, none⟩, c22, wayP n key ds (preL p.leaf) 0)]) :: .own (.slice (some ⟨g22, 0, none⟩) (wayP n key ds (preL p.leaf) 0).length c22) (wayP n key ds (preL p.leaf) 0).length _ _ (bc (wayP n key ds (preL p.leaf) 0)) :: _) _
    refine h_loop (fun (s : Nat × Nat × Nat × List Seg) => s.1 ≤ ds.length ∧ SegsOk s.2.2.2 (preLs n key ds (preL p.leaf) (s.1 + 1)).reverse) (fun (s : Nat × Nat × Nat × List Seg) => [(10, .int .i64 ((ds.length : Int) - 1 - (s.1 : Int))), (9, .slice (some ⟨s.2.1, 0, none⟩) (s.1 + 1) s.2.2.1), (7, .slice Bx ds.length cx), (5, .pointer (some ⟨g5, 0, none⟩)), (0, .int .i64 (n : Int))]) (fun (s : Nat × Nat × Nat × List Seg) => .own (.slice (some ⟨s.2.1, 0, none⟩) (s.1 + 1) s.2.2.1) (s.1 + 1) 66 1 (svs s.2.2.2) :: .own (.slice Bx ds.length cx) ds.length 41 32 (dgs ds) :: .blk g5 key.cells 39 :: ownsOf s.2.2.2) (fun (s : Nat × Nat × Nat × List Seg) => ds.length - s.1) (0, g24, 1, [(some ⟨g22, 0, none⟩, c22, wayP n key ds (preL p.leaf) 0)]) ((show 0 ≤ ds.length ∧ SegsOk [(some ⟨g22, 0, none⟩, c22, wayP n key ds (preL p.leaf) 0)] (preLs n key ds (preL p.leaf) 1).reverse from ⟨Nat.zero_le _, rfl, fun x hx => ⟨g22, by rw [List.mem_singleton.1 hx]⟩⟩)) ⟨aI rfl (by dsimp only; omega), rfl, rfl, rfl, rfl, trivial⟩ (fun w s => (same (L' := [.own (.slice (some ⟨g24, 0, none⟩) (0 + 1) 1) (0 + 1) 66 1 (svs [(some ⟨g22, 0, none⟩, c22, wayP n key ds (preL p.leaf) 0)]), .own (.slice Bx ds.length cx) ds.length 41 32 (dgs ds), .blk g5 key.cells 39, .own (.slice (some ⟨g22, 0, none⟩) (wayP n key ds (preL p.leaf) 0).length c22) (wayP n key ds (preL p.leaf) 0).length 5 1 (bc (wayP n key ds (preL p.leaf) 0))]) w s)) ?_
    rintro ⟨k, g, c, xs⟩ ⟨hk, hxs⟩
    dsimp only at hk hxs ⊢
    refine h_seq ?_
    refine h_seq ?_
    refine h_reg ?_
    refine h_op (r_move rfl) ?_
    refine h_op (r_geq rfl rfl) ?_
    refine h_nil ?_
    refine q_then ?_
    refine h_cond rfl (fun h => ?_) (fun h => ?_)
    · have hkd2 : k < ds.length := by omega
      have hxl : xs.length = k + 1 := by rw [hxs.len, List.length_reverse, preLs_len]
      have hxs0 := hxs
      rw [preLs_succ] at hxs
      obtain ⟨gx, cx', xs', rfl, hxs'⟩ := hxs.cons
      refine h_E (E' := [(10, .int .i64 ((ds.length - 1 - k : Nat) : Int)), (9, .slice (some ⟨g, 0, none⟩) (k + 1) c), (7, .slice Bx ds.length cx), (5, .pointer (some ⟨g5, 0, none⟩)), (0, .int .i64 (n : Int))]) ⟨aI rfl (by omega), rfl, rfl, rfl, rfl, trivial⟩ ?_
      refine h_L (L' := .own (.slice (some ⟨g, 0, none⟩) (k + 1) c) (k + 1) 66 1 (svs ((some ⟨gx, 0, none⟩, cx', wayP n key ds (preL p.leaf) k) :: xs')) :: .own (.slice Bx ds.length cx) ds.length 41 32 (dgs ds) :: .blk g5 key.cells 39 :: .own (.slice (some ⟨gx, 0, none⟩) (wayP n key ds (preL p.leaf) k).length cx') (wayP n key ds (preL p.leaf) k).length 5 1 (bc (wayP n key ds (preL p.leaf) k)) :: ownsOf xs') (fun _ s => s) ?_
      refine h_pure (φ := ∃ g, Bx = some ⟨g, 0, none⟩) (fun w s => s.ownSome (N := ds.length) (c := cx) (by omega)) ?_
      rintro ⟨gB, rfl⟩
      have hlk := hwl k
      refine h_skip ?_
      refine q_then ?_
      refine h_seq ?_
      refine h_block ?_
      refine h_seq ?_
      refine h_reg ?_
      refine h_op (r_move rfl) ?_
      refine h_op (r_move rfl) ?_
      refine h_op (r_idx rfl rfl) ?_
      refine h_op (r_nth rfl (v := .slice (some ⟨gx, 0, none⟩) (wayP n key ds (preL p.leaf) k).length cx') rfl) ?_
      refine h_call ((refSum5_s n hn (wayP n key ds (preL p.leaf) k) (some ⟨gx, 0, none⟩) cx' (fun h => by cases h) (by omega)).comes) rfl rfl rfl fun _ => ?_
      refine h_opX (x_alloc) fun g11 => ?_
      refine h_opS (s_storer rfl rfl) ?_
      refine h_nil ?_
      refine q_then ?_
      refine h_seq ?_
      refine ha_start [.blk g11 (sumB n (wayP n key ds (preL p.leaf) k)).cells 41, .own (.slice (some ⟨gB, 0, none⟩) ds.length cx) ds.length 41 32 (dgs ds)] [] mixed (same) ?_
      refine ha_take 0 rfl (r_loadr rfl) ?_
      refine ha_takeP 1 rfl (r_move rfl) ?_
      refine ha_takeP 2 rfl (r_move rfl) ?_
      refine ha_takeP 3 rfl (r_idx rfl rfl) ?_
      refine ha_take 4 rfl (r_nthr rfl (out := (ds.getD (ds.length - 1 - k) zB32).cells) (B32.cells_length _) (dgs_at (by omega))) ?_
      refine ha_one 5 ?_
      refine ho_C 5 rfl ((rNode_s (sumB n (wayP n key ds (preL p.leaf) k)) (ds.getD (ds.length - 1 - k) zB32)).comes) rfl rfl rfl (fun xx => same) fun ⟨g42, c42⟩ => ?_
      refine ha_takeP 6 rfl (r_assign rfl) ?_
      refine ha_done (by kernel_rfl) ?_
      refine q_then ?_
      dsimp only
      refine h_seq ?_
      refine h_seq ?_
      refine h_reg ?_
      refine h_op (r_loadr rfl) ?_
      refine h_op (r_move rfl) ?_
      refine h_call ((refBit_s key (ds.length - 1 - k) (by omega)).comes) rfl rfl rfl fun _ => ?_
      refine h_op (r_bool (r_eql rfl rfl) (bitN_one key (ds.length - 1 - k))) ?_
      refine h_nil ?_
      refine q_then ?_
      refine h_condB rfl (fun hb => ?_) (fun hb => ?_)
      · have hw1 : wayP n key ds (preL p.leaf) (k + 1) = preN (ds.getD (ds.length - 1 - k) zB32) (sumB n (wayP n key ds (preL p.leaf) k)) := by rw [wayP, if_pos hb]
        refine ha_start [.blk g11 (sumB n (wayP n key ds (preL p.leaf) k)).cells 41, .own (.slice (some ⟨gB, 0, none⟩) ds.length cx) ds.length 41 32 (dgs ds)] [] mixed (same) ?_
        refine ha_takeP 0 rfl (r_move rfl) ?_
        refine ha_takeP 1 rfl (r_move rfl) ?_
        refine ha_takeP 2 rfl (r_idx rfl rfl) ?_
        refine ha_take 3 rfl (r_nthr rfl (out := (ds.getD (ds.length - 1 - k) zB32).cells) (B32.cells_length _) (dgs_at (by omega))) ?_
        refine ha_take 4 rfl (r_loadr rfl) ?_
        refine ha_one 5 ?_
        refine ho_C 5 rfl ((rNode_s (ds.getD (ds.length - 1 - k) zB32) (sumB n (wayP n key ds (preL p.leaf) k))).comes) rfl rfl rfl (fun xx => same) fun ⟨g52, c52⟩ => ?_
        refine ha_takeP 6 rfl (r_assign rfl) ?_
        refine ha_done (by kernel_rfl) ?_
        refine q_then ?_
        dsimp only
        have hsn : SegsOk ((some ⟨g52, 0, none⟩, c52, wayP n key ds (preL p.leaf) (k + 1)) :: (some ⟨gx, 0, none⟩, cx', wayP n key ds (preL p.leaf) k) :: xs') (preLs n key ds (preL p.leaf) (k + 1 + 1)).reverse := ⟨by rw [preLs_succ, List.map_cons, hxs0.1], fun x hx => (List.mem_cons.1 hx).elim (fun e => ⟨g52, by rw [e]⟩) (hxs0.2 x)⟩
        rw [← hw1]
        refine h_reg ?_
        refine h_op (r_move rfl) ?_
        refine h_opX (x_bsl rfl rfl) fun g54 => ?_
        refine h_op (r_move rfl) ?_
        refine h_opX (x_appA (cs := svs ((some ⟨gx, 0, none⟩, cx', wayP n key ds (preL p.leaf) k) :: xs')) rfl rfl (fun h => by cases h) (by rw [svs_len, hxl]; omega) (svs_one _)) fun ⟨A56, c56⟩ => ?_
        refine h_pure (φ := ∃ g, A56 = some ⟨g, 0, none⟩) (fun w s => s.ownSome (N := 1 + (k + 1)) (c := c56) (by omega)) ?_
        rintro ⟨g56, rfl⟩
        change H _ _ _ _ _ (.own _ _ _ _ (svs ((some ⟨g52, 0, none⟩, c52, wayP n key ds (preL p.leaf) (k + 1)) :: (some ⟨gx, 0, none⟩, cx', wayP n key ds (preL p.leaf) k) :: xs')) :: _) _
        rw [Nat.add_comm 1 (k + 1)]
        refine h_op (r_assign rfl) ?_
        refine h_nil ?_
        refine q_block ?_
        refine q_then ?_
        refine h_reg ?_
        refine h_op (r_move rfl) ?_
        refine h_op (r_sub rfl rfl) ?_
        refine h_op (r_assign rfl) ?_
        refine h_nil ?_
        exact h_back (k + 1, g56, c56, (some ⟨g52, 0, none⟩, c52, wayP n key ds (preL p.leaf) (k + 1)) :: (some ⟨gx, 0, none⟩, cx', wayP n key ds (preL p.leaf) k) :: xs') ((show k + 1 ≤ ds.length ∧ SegsOk _ (preLs n key ds (preL p.leaf) (k + 1 + 1)).reverse from ⟨by omega, hsn⟩)) ((show ds.length - (k + 1) < ds.length - k by omega)) ⟨aI rfl (by dsimp only; omega), rfl, rfl, rfl, rfl, trivial⟩ (fun w s => (same (L' := .own (.slice (some ⟨g56, 0, none⟩) (k + 1 + 1) c56) (k + 1 + 1) 66 1 (svs ((some ⟨g52, 0, none⟩, c52, wayP n key ds (preL p.leaf) (k + 1)) :: (some ⟨gx, 0, none⟩, cx', wayP n key ds (preL p.leaf) k) :: xs')) :: .own (.slice (some ⟨gB, 0, none⟩) ds.length cx) ds.length 41 32 (dgs ds) :: .blk g5 key.cells 39 :: .own (.slice (some ⟨g52, 0, none⟩) (wayP n key ds (preL p.leaf) (k + 1)).length c52) (wayP n key ds (preL p.leaf) (k + 1)).length 5 1 (bc (wayP n key ds (preL p.leaf) (k + 1))) :: .own (.slice (some ⟨gx, 0, none⟩) (wayP n key ds (preL p.leaf) k).length cx') (wayP n key ds (preL p.leaf) k).length 5 1 (bc (wayP n key ds (preL p.leaf) k)) :: ownsOf xs') w s))
      · have hw1 : wayP n key ds (preL p.leaf) (k + 1) = preN (sumB n (wayP n key ds (preL p.leaf) k)) (ds.getD (ds.length - 1 - k) zB32) := by rw [wayP, if_neg (by rw [hb]; simp)]
        have hsn : SegsOk ((some ⟨g42, 0, none⟩, c42, wayP n key ds (preL p.leaf) (k + 1)) :: (some ⟨gx, 0, none⟩, cx', wayP n key ds (preL p.leaf) k) :: xs') (preLs n key ds (preL p.leaf) (k + 1 + 1)).reverse := ⟨by rw [preLs_succ, List.map_cons, hxs0.1], fun x hx => (List.mem_cons.1 hx).elim (fun e => ⟨g42, by rw [e]⟩) (hxs0.2 x)⟩
        rw [← hw1]
        refine h_skip ?_
        refine q_then ?_
        refine h_reg ?_
        refine h_op (r_move rfl) ?_
        refine h_opX (x_bsl rfl rfl) fun g54 => ?_
        refine h_op (r_move rfl) ?_
        refine h_opX (x_appA (cs := svs ((some ⟨gx, 0, none⟩, cx', wayP n key ds (preL p.leaf) k) :: xs')) rfl rfl (fun h => by cases h) (by rw [svs_len, hxl]; omega) (svs_one _)) fun ⟨A56, c56⟩ => ?_
        refine h_pure (φ := ∃ g, A56 = some ⟨g, 0, none⟩) (fun w s => s.ownSome (N := 1 + (k + 1)) (c := c56) (by omega)) ?_
        rintro ⟨g56, rfl⟩
        change H _ _ _ _ _ (.own _ _ _ _ (svs ((some ⟨g42, 0, none⟩, c42, wayP n key ds (preL p.leaf) (k + 1)) :: (some ⟨gx, 0, none⟩, cx', wayP n key ds (preL p.leaf) k) :: xs')) :: _) _
        rw [Nat.add_comm 1 (k + 1)]
        refine h_op (r_assign rfl) ?_
        refine h_nil ?_
        refine q_block ?_
        refine q_then ?_
        refine h_reg ?_
        refine h_op (r_move rfl) ?_
        refine h_op (r_sub rfl rfl) ?_
        refine h_op (r_assign rfl) ?_
        refine h_nil ?_
        exact h_back (k + 1, g56, c56, (some ⟨g42, 0, none⟩, c42, wayP n key ds (preL p.leaf) (k + 1)) :: (some ⟨gx, 0, none⟩, cx', wayP n key ds (preL p.leaf) k) :: xs') ((show k + 1 ≤ ds.length ∧ SegsOk _ (preLs n key ds (preL p.leaf) (k + 1 + 1)).reverse from ⟨by omega, hsn⟩)) ((show ds.length - (k + 1) < ds.length - k by omega)) ⟨aI rfl (by dsimp only; omega), rfl, rfl, rfl, rfl, trivial⟩ (fun w s => (same (L' := .own (.slice (some ⟨g56, 0, none⟩) (k + 1 + 1) c56) (k + 1 + 1) 66 1 (svs ((some ⟨g42, 0, none⟩, c42, wayP n key ds (preL p.leaf) (k + 1)) :: (some ⟨gx, 0, none⟩, cx', wayP n key ds (preL p.leaf) k) :: xs')) :: .own (.slice (some ⟨gB, 0, none⟩) ds.length cx) ds.length 41 32 (dgs ds) :: .blk g5 key.cells 39 :: .own (.slice (some ⟨g42, 0, none⟩) (wayP n key ds (preL p.leaf) (k + 1)).length c42) (wayP n key ds (preL p.leaf) (k + 1)).length 5 1 (bc (wayP n key ds (preL p.leaf) (k + 1))) :: .own (.slice (some ⟨gx, 0, none⟩) (wayP n key ds (preL p.leaf) k).length cx') (wayP n key ds (preL p.leaf) k).length 5 1 (bc (wayP n key ds (preL p.leaf) k)) :: ownsOf xs') w s))
    · obtain rfl : k = ds.length := by omega
      refine h_exit ?_
      refine q_thenE ?_
      refine q_thenE ?_
      refine q_blockE ?_
      refine q_then ?_
      refine h_seq ?_
      refine h_reg ?_
      refine h_op (r_move rfl) ?_
      refine h_op (r_assign rfl) ?_
      refine h_nil ?_
      refine q_then ?_
      refine h_ret ?_
      exact h_ret1 rfl rfl fun w s => ⟨⟨(g, c, xs), hxs⟩, rfl, (same w s).res (List.Sublist.refl _) (by intro f hf; simp only [List.mem_cons] at hf; exact hf.elim (fun h => by rw [h]; rfl) (ownsOf_wr xs f))⟩
  · obtain rfl : pre = preE := hpre.symm.trans (if_neg hkd)
    refine h_no rfl (hkd) ?_
    refine h_skip ?_
    refine q_then ?_
    refine h_seq ?_
    refine h_reg ?_
    refine h_op (r_move rfl) ?_
    refine h_opX (x_bsl rfl rfl) fun g24 => ?_
    refine h_op (r_assign rfl) ?_
    refine h_nil ?_
    refine q_then ?_
    refine h_seq ?_
    refine h_seq ?_
    refine h_reg ?_
    refine h_op (r_field rfl) ?_
    refine h_op (r_loadc rfl) ?_
    refine h_op (r_sub rfl rfl) ?_
    refine h_op (r_assign rfl) ?_
    refine h_nil ?_
    refine q_then ?_
    refine h_block ?_
    change H _ _ _ _ _ (.own (.slice (some ⟨g24, 0, none⟩) (0 + 1) 1) (0 + 1) _ _ (svs [(some ⟨g16, 0, none⟩, 1, wayP n key ds preE 0)]) :: .own (.slice (some ⟨g16, 0, none⟩) (wayP n key ds preE 0).length 1) (wayP n key ds preE 0).length _ _ (bc (wayP n key ds preE 0)) :: _) _
    refine h_loop (fun (s : Nat × Nat × Nat × List Seg) => s.1 ≤ ds.length ∧ SegsOk s.2.2.2 (preLs n key ds preE (s.1 + 1)).reverse) (fun (s : Nat × Nat × Nat × List Seg) => [(10, .int .i64 ((ds.length : Int) - 1 - (s.1 : Int))), (9, .slice (some ⟨s.2.1, 0, none⟩) (s.1 + 1) s.2.2.1), (7, .slice Bx ds.length cx), (5, .pointer (some ⟨g5, 0, none⟩)), (0, .int .i64 (n : Int))]) (fun (s : Nat × Nat × Nat × List Seg) => .own (.slice (some ⟨s.2.1, 0, none⟩) (s.1 + 1) s.2.2.1) (s.1 + 1) 66 1 (svs s.2.2.2) :: .own (.slice Bx ds.length cx) ds.length 41 32 (dgs ds) :: .blk g5 key.cells 39 :: ownsOf s.2.2.2) (fun (s : Nat × Nat × Nat × List Seg) => ds.length - s.1) (0, g24, 1, [(some ⟨g16, 0, none⟩, 1, wayP n key ds preE 0)]) ((show 0 ≤ ds.length ∧ SegsOk [(some ⟨g16, 0, none⟩, 1, wayP n key ds preE 0)] (preLs n key ds preE 1).reverse from ⟨Nat.zero_le _, rfl, fun x hx => ⟨g16, by rw [List.mem_singleton.1 hx]⟩⟩)) ⟨aI rfl (by dsimp only; omega), rfl, rfl, rfl, rfl, trivial⟩ (fun w s => (same (L' := [.own (.slice (some ⟨g24, 0, none⟩) (0 + 1) 1) (0 + 1) 66 1 (svs [(some ⟨g16, 0, none⟩, 1, wayP n key ds preE 0)]), .own (.slice Bx ds.length cx) ds.length 41 32 (dgs ds), .blk g5 key.cells 39, .own (.slice (some ⟨g16, 0, none⟩) (wayP n key ds preE 0).length 1) (wayP n key ds preE 0).length 5 1 (bc (wayP n key ds preE 0))]) w s)) ?_
    rintro ⟨k, g, c, xs⟩ ⟨hk, hxs⟩
    dsimp only at hk hxs ⊢
    refine h_seq ?_
    refine h_seq ?_
    refine h_reg ?_
    refine h_op (r_move rfl) ?_
    refine h_op (r_geq rfl rfl) ?_
    refine h_nil ?_
    refine q_then ?_
    refine h_cond rfl (fun h => ?_) (fun h => ?_)
    · have hkd2 : k < ds.length := by omega
      have hxl : xs.length = k + 1 := by rw [hxs.len, List.length_reverse, preLs_len]
      have hxs0 := hxs
      rw [preLs_succ] at hxs
      obtain ⟨gx, cx', xs', rfl, hxs'⟩ := hxs.cons
      refine h_E (E' := [(10, .int .i64 ((ds.length - 1 - k : Nat) : Int)), (9, .slice (some ⟨g, 0, none⟩) (k + 1) c), (7, .slice Bx ds.length cx), (5, .pointer (some ⟨g5, 0, none⟩)), (0, .int .i64 (n : Int))]) ⟨aI rfl (by omega), rfl, rfl, rfl, rfl, trivial⟩ ?_
      refine h_L (L' := .own (.slice (some ⟨g, 0, none⟩) (k + 1) c) (k + 1) 66 1 (svs ((some ⟨gx, 0, none⟩, cx', wayP n key ds preE k) :: xs')) :: .own (.slice Bx ds.length cx) ds.length 41 32 (dgs ds) :: .blk g5 key.cells 39 :: .own (.slice (some ⟨gx, 0, none⟩) (wayP n key ds preE k).length cx') (wayP n key ds preE k).length 5 1 (bc (wayP n key ds preE k)) :: ownsOf xs') (fun _ s => s) ?_
      refine h_pure (φ := ∃ g, Bx = some ⟨g, 0, none⟩) (fun w s => s.ownSome (N := ds.length) (c := cx) (by omega)) ?_
      rintro ⟨gB, rfl⟩
      have hlk := hwl k
      refine h_skip ?_
      refine q_then ?_
      refine h_seq ?_
      refine h_block ?_
      refine h_seq ?_
      refine h_reg ?_
      refine h_op (r_move rfl) ?_
      refine h_op (r_move rfl) ?_
      refine h_op (r_idx rfl rfl) ?_
      refine h_op (r_nth rfl (v := .slice (some ⟨gx, 0, none⟩) (wayP n key ds preE k).length cx') rfl) ?_
      refine h_call ((refSum5_s n hn (wayP n key ds preE k) (some ⟨gx, 0, none⟩) cx' (fun h => by cases h) (by omega)).comes) rfl rfl rfl fun _ => ?_
      refine h_opX (x_alloc) fun g11 => ?_
      refine h_opS (s_storer rfl rfl) ?_
      refine h_nil ?_
      refine q_then ?_
      refine h_seq ?_
      refine ha_start [.blk g11 (sumB n (wayP n key ds preE k)).cells 41, .own (.slice (some ⟨gB, 0, none⟩) ds.length cx) ds.length 41 32 (dgs ds)] [] mixed (same) ?_
      refine ha_take 0 rfl (r_loadr rfl) ?_
      refine ha_takeP 1 rfl (r_move rfl) ?_
      refine ha_takeP 2 rfl (r_move rfl) ?_
      refine ha_takeP 3 rfl (r_idx rfl rfl) ?_
      refine ha_take 4 rfl (r_nthr rfl (out := (ds.getD (ds.length - 1 - k) zB32).cells) (B32.cells_length _) (dgs_at (by omega))) ?_
      refine ha_one 5 ?_
      refine ho_C 5 rfl ((rNode_s (sumB n (wayP n key ds preE k)) (ds.getD (ds.length - 1 - k) zB32)).comes) rfl rfl rfl (fun xx => same) fun ⟨g42, c42⟩ => ?_
      refine ha_takeP 6 rfl (r_assign rfl) ?_
      refine ha_done (by kernel_rfl) ?_
      refine q_then ?_
      dsimp only
      refine h_seq ?_
      refine h_seq ?_
      refine h_reg ?_
      refine h_op (r_loadr rfl) ?_
      refine h_op (r_move rfl) ?_
      refine h_call ((refBit_s key (ds.length - 1 - k) (by omega)).comes) rfl rfl rfl fun _ => ?_
      refine h_op (r_bool (r_eql rfl rfl) (bitN_one key (ds.length - 1 - k))) ?_
      refine h_nil ?_
      refine q_then ?_
      refine h_condB rfl (fun hb => ?_) (fun hb => ?_)
      · have hw1 : wayP n key ds preE (k + 1) = preN (ds.getD (ds.length - 1 - k) zB32) (sumB n (wayP n key ds preE k)) := by rw [wayP, if_pos hb]
        refine ha_start [.blk g11 (sumB n (wayP n key ds preE k)).cells 41, .own (.slice (some ⟨gB, 0, none⟩) ds.length cx) ds.length 41 32 (dgs ds)] [] mixed (same) ?_
        refine ha_takeP 0 rfl (r_move rfl) ?_
        refine ha_takeP 1 rfl (r_move rfl) ?_
        refine ha_takeP 2 rfl (r_idx rfl rfl) ?_
        refine ha_take 3 rfl (r_nthr rfl (out := (ds.getD (ds.length - 1 - k) zB32).cells) (B32.cells_length _) (dgs_at (by omega))) ?_
        refine ha_take 4 rfl (r_loadr rfl) ?_
        refine ha_one 5 ?_
        refine ho_C 5 rfl ((rNode_s (ds.getD (ds.length - 1 - k) zB32) (sumB n (wayP n key ds preE k))).comes) rfl rfl rfl (fun xx => same) fun ⟨g52, c52⟩ => ?_
        refine ha_takeP 6 rfl (r_assign rfl) ?_
        refine ha_done (by kernel_rfl) ?_
        refine q_then ?_
        dsimp only
        have hsn : SegsOk ((some ⟨g52, 0, none⟩, c52, wayP n key ds preE (k + 1)) :: (some ⟨gx, 0, none⟩, cx', wayP n key ds preE k) :: xs') (preLs n key ds preE (k + 1 + 1)).reverse := ⟨by rw [preLs_succ, List.map_cons, hxs0.1], fun x hx => (List.mem_cons.1 hx).elim (fun e => ⟨g52, by rw [e]⟩) (hxs0.2 x)⟩
        rw [← hw1]
        refine h_reg ?_
        refine h_op (r_move rfl) ?_
        refine h_opX (x_bsl rfl rfl) fun g54 => ?_
        refine h_op (r_move rfl) ?_
        refine h_opX (x_appA (cs := svs ((some ⟨gx, 0, none⟩, cx', wayP n key ds preE k) :: xs')) rfl rfl (fun h => by cases h) (by rw [svs_len, hxl]; omega) (svs_one _)) fun ⟨A56, c56⟩ => ?_
        refine h_pure (φ := ∃ g, A56 = some ⟨g, 0, none⟩) (fun w s => s.ownSome (N := 1 + (k + 1)) (c := c56) (by omega)) ?_
        rintro ⟨g56, rfl⟩
        change H _ _ _ _ _ (.own _ _ _ _ (svs ((some ⟨g52, 0, none⟩, c52, wayP n key ds preE (k + 1)) :: (some ⟨gx, 0, none⟩, cx', wayP n key ds preE k) :: xs')) :: _) _
        rw [Nat.add_comm 1 (k + 1)]
        refine h_op (r_assign rfl) ?_
        refine h_nil ?_
        refine q_block ?_
        refine q_then ?_
        refine h_reg ?_
        refine h_op (r_move rfl) ?_
        refine h_op (r_sub rfl rfl) ?_
        refine h_op (r_assign rfl) ?_
        refine h_nil ?_
        exact h_back (k + 1, g56, c56, (some ⟨g52, 0, none⟩, c52, wayP n key ds preE (k + 1)) :: (some ⟨gx, 0, none⟩, cx', wayP n key ds preE k) :: xs') ((show k + 1 ≤ ds.length ∧ SegsOk _ (preLs n key ds preE (k + 1 + 1)).reverse from ⟨by omega, hsn⟩)) ((show ds.length - (k + 1) < ds.length - k by omega)) ⟨aI rfl (by dsimp only; omega), rfl, rfl, rfl, rfl, trivial⟩ (fun w s => (same (L' := .own (.slice (some ⟨g56, 0, none⟩) (k + 1 + 1) c56) (k + 1 + 1) 66 1 (svs ((some ⟨g52, 0, none⟩, c52, wayP n key ds preE (k + 1)) :: (some ⟨gx, 0, none⟩, cx', wayP n key ds preE k) :: xs')) :: .own (.slice (some ⟨gB, 0, none⟩) ds.length cx) ds.length 41 32 (dgs ds) :: .blk g5 key.cells 39 :: .own (.slice (some ⟨g52, 0, none⟩) (wayP n key ds preE (k + 1)).length c52) (wayP n key ds preE (k + 1)).length 5 1 (bc (wayP n key ds preE (k + 1))) :: .own (.slice (some ⟨gx, 0, none⟩) (wayP n key ds preE k).length cx') (wayP n key ds preE k).length 5 1 (bc (wayP n key ds preE k)) :: ownsOf xs') w s))
      · have hw1 : wayP n key ds preE (k + 1) = preN (sumB n (wayP n key ds preE k)) (ds.getD (ds.length - 1 - k) zB32) := by rw [wayP, if_neg (by rw [hb]; simp)]
        have hsn : SegsOk ((some ⟨g42, 0, none⟩, c42, wayP n key ds preE (k + 1)) :: (some ⟨gx, 0, none⟩, cx', wayP n key ds preE k) :: xs') (preLs n key ds preE (k + 1 + 1)).reverse := ⟨by rw [preLs_succ, List.map_cons, hxs0.1], fun x hx => (List.mem_cons.1 hx).elim (fun e => ⟨g42, by rw [e]⟩) (hxs0.2 x)⟩
        rw [← hw1]
        refine h_skip ?_
        refine q_then ?_
        refine h_reg ?_
        refine h_op (r_move rfl) ?_
        refine h_opX (x_bsl rfl rfl) fun g54 => ?_
        refine h_op (r_move rfl) ?_
        refine h_opX (x_appA (cs := svs ((some ⟨gx, 0, none⟩, cx', wayP n key ds preE k) :: xs')) rfl rfl (fun h => by cases h) (by rw [svs_len, hxl]; omega) (svs_one _)) fun ⟨A56, c56⟩ => ?_
        refine h_pure (φ := ∃ g, A56 = some ⟨g, 0, none⟩) (fun w s => s.ownSome (N := 1 + (k + 1)) (c := c56) (by omega)) ?_
        rintro ⟨g56, rfl⟩
        change H _ _ _ _ _ (.own _ _ _ _ (svs ((some ⟨g42, 0, none⟩, c42, wayP n key ds preE (k + 1)) :: (some ⟨gx, 0, none⟩, cx', wayP n key ds preE k) :: xs')) :: _) _
        rw [Nat.add_comm 1 (k + 1)]
        refine h_op (r_assign rfl) ?_
        refine h_nil ?_
        refine q_block ?_
        refine q_then ?_
        refine h_reg ?_
        refine h_op (r_move rfl) ?_
        refine h_op (r_sub rfl rfl) ?_
        refine h_op (r_assign rfl) ?_
        refine h_nil ?_
        exact h_back (k + 1, g56, c56, (some ⟨g42, 0, none⟩, c42, wayP n key ds preE (k + 1)) :: (some ⟨gx, 0, none⟩, cx', wayP n key ds preE k) :: xs') ((show k + 1 ≤ ds.length ∧ SegsOk _ (preLs n key ds preE (k + 1 + 1)).reverse from ⟨by omega, hsn⟩)) ((show ds.length - (k + 1) < ds.length - k by omega)) ⟨aI rfl (by dsimp only; omega), rfl, rfl, rfl, rfl, trivial⟩ (fun w s => (same (L' := .own (.slice (some ⟨g56, 0, none⟩) (k + 1 + 1) c56) (k + 1 + 1) 66 1 (svs ((some ⟨g42, 0, none⟩, c42, wayP n key ds preE (k + 1)) :: (some ⟨gx, 0, none⟩, cx', wayP n key ds preE k) :: xs')) :: .own (.slice (some ⟨gB, 0, none⟩) ds.length cx) ds.length 41 32 (dgs ds) :: .blk g5 key.cells 39 :: .own (.slice (some ⟨g42, 0, none⟩) (wayP n key ds preE (k + 1)).length c42) (wayP n key ds preE (k + 1)).length 5 1 (bc (wayP n key ds preE (k + 1))) :: .own (.slice (some ⟨gx, 0, none⟩) (wayP n key ds preE k).length cx') (wayP n key ds preE k).length 5 1 (bc (wayP n key ds preE k)) :: ownsOf xs') w s))
    · obtain rfl : k = ds.length := by omega
      refine h_exit ?_
      refine q_thenE ?_
      refine q_thenE ?_
      refine q_blockE ?_
      refine q_then ?_
      refine h_seq ?_
      refine h_reg ?_
      refine h_op (r_move rfl) ?_
      refine h_op (r_assign rfl) ?_
      refine h_nil ?_
      refine q_then ?_
      refine h_ret ?_
      exact h_ret1 rfl rfl fun w s => ⟨⟨(g, c, xs), hxs⟩, rfl, (same w s).res (List.Sublist.refl _) (by intro f hf; simp only [List.mem_cons] at hf; exact hf.elim (fun h => by rw [h]; rfl) (ownsOf_wr xs f))⟩
end Go.Proofs.YtgfkbeipckbkiaaGreatDoor
/- U25 -/
namespace Go.Proofs.YtgfkbeipckbkiaaGreatDoor
set_option linter.unusedSimpArgs false
set_option linter.unusedVariables false
open Go.RowKit
theorem preLs_at (n : Nat) (key : B32) (ds : List B32) (pre : List UInt8) (d k : Nat) (h : k ≤ d) : (preLs n key ds pre (d + 1)).reverse[d - k]? = some (wayP n key ds pre k) := by
  rw [List.getElem?_reverse (by rw [preLs_len]; omega), preLs_len]
  unfold preLs
  rw [List.getElem?_map, List.getElem?_range (by omega), show d + 1 - 1 - (d - k) = k by omega]
  rfl
theorem rSteps_s (p : Proof) (hc : checkP p = 0) (ss : List B32) (hs : p.sibs.n = ss.length) (key : B32) (n : Nat) (hn : n ≤ 256) (d : Nat) (hd : p.depth = (d : Int)) : Spec Tryz.prog 83 [.int .i64 (n : Int), .agg p.cells.toArray, .agg key.cells.toArray].toArray [.rd p.sibs.A (dgs ss)] [] (fun u : Nat × Nat => .slice (some ⟨u.1, 0, none⟩) (d + 1) u.2) (fun u => [.own (.slice (some ⟨u.1, 0, none⟩) (d + 1) u.2) (d + 1) 41 32 (dgs (stepL n key (expL (sumB n preE) p.bitmap ss d) (endP p) (d + 1)))]) := by
  have hd2 := ok_depth hc
  have hP := rPre_s p hc ss hs key n hn d hd
  have hwl := wayP_len n key (expL (sumB n preE) p.bitmap ss d) (endP p) (endP_len p)
  generalize expL (sumB n preE) p.bitmap ss d = ds at *
  refine spec_of Tryz.func83 rfl (n := 31) rfl rfl ?_
  intro W
  refine h_seq ?_
  refine h_reg ?_
  refine h_opX (x_box rfl) fun g4 => ?_
  refine h_opX (x_box rfl) fun g5 => ?_
  refine h_op (r_assign rfl) ?_
  refine h_nil ?_
  refine q_then ?_
  refine h_seq ?_
  refine h_reg ?_
  refine h_op (r_move rfl) ?_
  refine h_op (r_loadr rfl) ?_
  refine h_op (r_loadr rfl) ?_
  refine h_call (hP.comes) rfl rfl rfl fun ⟨⟨g13, c13, xs⟩, hxs⟩ => ?_
  dsimp only at hxs ⊢
  refine h_op (r_assign rfl) ?_
  refine h_nil ?_
  refine q_then ?_
  refine h_seq ?_
  refine h_reg ?_
  refine h_op (r_assign rfl) ?_
  refine h_nil ?_
  refine q_then ?_
  refine h_seq ?_
  refine h_seq ?_
  refine h_reg ?_
  refine h_op (r_move rfl) ?_
  refine h_op (r_len rfl) ?_
  refine h_op (r_sub rfl rfl) ?_
  refine h_op (r_assign rfl) ?_
  refine h_nil ?_
  refine q_then ?_
  refine h_block ?_
  refine h_nil_own 41 32 (xs := dgs (stepL n key ds (endP p) 0)) rfl ?_
  have hxl : xs.length = d + 1 := by rw [hxs.len, List.length_reverse, preLs_len]
  refine h_loop (fun (s : Nat × Option Addr × Nat) => s.1 ≤ d + 1) (fun (s : Nat × Option Addr × Nat) => [(9, .int .i64 ((d : Int) - (s.1 : Int))), (8, .slice s.2.1 s.1 s.2.2), (7, .slice (some ⟨g13, 0, none⟩) (d + 1) c13), (0, .int .i64 (n : Int))]) (fun (s : Nat × Option Addr × Nat) => .own (.slice s.2.1 s.1 s.2.2) s.1 41 32 (dgs (stepL n key ds (endP p) s.1)) :: .own (.slice (some ⟨g13, 0, none⟩) (d + 1) c13) (d + 1) 66 1 (svs xs) :: ownsOf xs) (fun (s : Nat × Option Addr × Nat) => d + 1 - s.1) (0, none, 0) ((show 0 ≤ d + 1 by omega)) ⟨aI rfl (by dsimp only; omega), rfl, rfl, rfl, trivial⟩ (fun w s => (same w s)) ?_
  rintro ⟨k, B, c⟩ hk
  dsimp only at hk ⊢
  have hst := stepL_succ n key ds (endP p) k
  refine h_seq ?_
  refine h_seq ?_
  refine h_reg ?_
  refine h_op (r_move rfl) ?_
  refine h_op (r_geq rfl rfl) ?_
  refine h_nil ?_
  refine q_then ?_
  refine h_cond rfl (fun h => ?_) (fun h => ?_)
  · have hkd : k ≤ d := by omega
    obtain ⟨gx, cx, hx⟩ := hxs.at (preLs_at n key ds (endP p) d k hkd)
    have hlk := hwl k
    refine h_E (E' := [(9, .int .i64 ((d - k : Nat) : Int)), (8, .slice B k c), (7, .slice (some ⟨g13, 0, none⟩) (d + 1) c13), (0, .int .i64 (n : Int))]) ⟨aI rfl (by omega), rfl, rfl, rfl, trivial⟩ ?_
    refine h_skip ?_
    refine q_then ?_
    refine h_seq ?_
    refine h_block ?_
    refine h_reg ?_
    refine h_op (r_move rfl) ?_
    refine h_op (r_move rfl) ?_
    refine h_op (r_move rfl) ?_
    refine h_op (r_move rfl) ?_
    refine h_op (r_idx rfl rfl) ?_
    refine h_op (r_nth rfl (v := .slice (some ⟨gx, 0, none⟩) (wayP n key ds (endP p) k).length cx) (svs_get hx)) ?_
    refine h_call ((refSum5_s n hn (wayP n key ds (endP p) k) (some ⟨gx, 0, none⟩) cx (fun h => by cases h) (by omega)).comes (hr := rds_one (rd1_own (List.mem_cons_of_mem _ (List.mem_cons_of_mem _ (ownsOf_mem (List.mem_of_getElem? hx))))))) rfl rfl rfl fun _ => ?_
    refine h_opX (x_bsl rfl rfl) fun g28 => ?_
    refine h_opX (x_app rfl rfl (k := 32)) fun ⟨g29, c29⟩ => ?_
    refine h_op (r_assign rfl) ?_
    refine h_nil ?_
    refine q_block ?_
    refine q_then ?_
    refine h_reg ?_
    refine h_op (r_move rfl) ?_
    refine h_op (r_sub rfl rfl) ?_
    refine h_op (r_assign rfl) ?_
    refine h_nil ?_
    rw [hst]
    exact h_back (k + 1, some ⟨g29, 0, none⟩, c29) ((show k + 1 ≤ d + 1 by omega)) ((show d + 1 - (k + 1) < d + 1 - k by omega)) ⟨aI rfl (by dsimp only; omega), rfl, rfl, rfl, trivial⟩ (same)
  · obtain rfl : k = d + 1 := by omega
    refine h_pure (φ := ∃ g, B = some ⟨g, 0, none⟩) (fun w s => s.ownSome (N := d + 1) (c := c) (by omega)) ?_
    rintro ⟨g, rfl⟩
    refine h_exit ?_
    refine q_thenE ?_
    refine q_thenE ?_
    refine q_blockE ?_
    refine q_then ?_
    refine h_seq ?_
    refine h_reg ?_
    refine h_op (r_move rfl) ?_
    refine h_op (r_assign rfl) ?_
    refine h_nil ?_
    refine q_then ?_
    refine h_ret ?_
    exact h_ret1 rfl rfl fun w s => ⟨(g, c), rfl, s.res ((List.nil_sublist _).cons_cons _) (by simp [Fa.wr])⟩
end Go.Proofs.YtgfkbeipckbkiaaGreatDoor
/- U98 -/
namespace Go.Proofs.YtgfkbeipckbkiaaGreatDoor
set_option linter.unusedSimpArgs false
set_option linter.unusedVariables false
open Go.RowKit
def claimS (c : Claim) : Int := if c.key.n = 32 then (if c.present = true ∧ 65535 < c.value.n then 2 else 0) else 1
theorem rClaim18_s (c : Claim) : Spec Tryz.prog 39 [.agg c.cells.toArray].toArray [] [] (fun _ : Unit => .tuple #[.int .i64 (claimS c), .int .i64 (claimE c)]) (fun _ => []) := by
  obtain ⟨ks, vs, b⟩ := c
  refine spec_of Tryz.func39 rfl (n := 16) rfl rfl ?_
  intro W
  by_cases h1 : ks.n = 32
  · refine h_seq ?_
    refine h_reg ?_
    refine h_opX (x_box rfl) fun g1 => ?_
    refine h_op (r_assign rfl) ?_
    refine h_op (r_assign rfl) ?_
    refine h_nil ?_
    refine q_then ?_
    refine h_seq ?_
    refine h_seq ?_
    refine h_reg ?_
    refine h_op (r_field rfl) ?_
    refine h_op (r_loadc rfl) ?_
    refine h_op (r_len rfl) ?_
    refine h_op (r_bool (r_neq rfl rfl) (decide_eq_false (show ¬ ¬ (ks.n : Int) = 32 by omega))) ?_
    refine h_nil ?_
    refine q_then ?_
    refine h_condF rfl ?_
    cases b
    · rw [show claimS ⟨ks, vs, false⟩ = 0 by unfold claimS; rw [if_pos h1, if_neg (by simp)], show claimE ⟨ks, vs, false⟩ = 0 by unfold claimE; rw [if_pos h1, if_neg (by simp)]]
      refine h_skip ?_
      refine q_then ?_
      refine h_seq ?_
      refine h_seq ?_
      refine h_reg ?_
      refine h_op (r_field rfl) ?_
      refine h_op (r_loadc rfl) ?_
      refine h_op (r_move rfl) ?_
      refine h_opOff ?_
      refine h_opOff ?_
      refine h_opOff ?_
      refine h_opOff ?_
      refine h_op (r_pick rfl rfl) ?_
      refine h_nil ?_
      refine q_then ?_
      refine h_condF rfl ?_
      refine h_skip ?_
      refine q_then ?_
      refine h_seq ?_
      refine h_reg ?_
      refine h_op (r_assign rfl) ?_
      refine h_op (r_assign rfl) ?_
      refine h_nil ?_
      refine q_then ?_
      refine h_ret ?_
      exact h_ret2 rfl rfl rfl fun w s => ⟨(), rfl, s.res (List.nil_sublist _) (by simp)⟩
    · by_cases h2 : 65535 < vs.n
      · rw [show claimS ⟨ks, vs, true⟩ = 2 by unfold claimS; rw [if_pos h1, if_pos ⟨rfl, h2⟩], show claimE ⟨ks, vs, true⟩ = 3 by unfold claimE; rw [if_pos h1, if_pos ⟨rfl, h2⟩]]
        refine h_skip ?_
        refine q_then ?_
        refine h_seq ?_
        refine h_seq ?_
        refine h_reg ?_
        refine h_op (r_field rfl) ?_
        refine h_op (r_loadc rfl) ?_
        refine h_op (r_move rfl) ?_
        refine h_op (r_field rfl) ?_
        refine h_op (r_loadc rfl) ?_
        refine h_op (r_len rfl) ?_
        refine h_op (r_bool (r_gtr rfl rfl) (decide_eq_true (show (65535 : Int) < (vs.n : Int) by omega))) ?_
        refine h_op (r_pick rfl rfl) ?_
        refine h_nil ?_
        refine q_then ?_
        refine h_condT rfl ?_
        refine h_seq ?_
        refine h_reg ?_
        refine h_op (r_assign rfl) ?_
        refine h_op (r_assign rfl) ?_
        refine h_nil ?_
        refine q_then ?_
        refine h_ret ?_
        refine q_thenR ?_
        exact h_ret2 rfl rfl rfl fun w s => ⟨(), rfl, s.res (List.nil_sublist _) (by simp)⟩
      · rw [show claimS ⟨ks, vs, true⟩ = 0 by unfold claimS; rw [if_pos h1, if_neg (fun h => h2 h.2)], show claimE ⟨ks, vs, true⟩ = 0 by unfold claimE; rw [if_pos h1, if_neg (fun h => h2 h.2)]]
        refine h_skip ?_
        refine q_then ?_
        refine h_seq ?_
        refine h_seq ?_
        refine h_reg ?_
        refine h_op (r_field rfl) ?_
        refine h_op (r_loadc rfl) ?_
        refine h_op (r_move rfl) ?_
        refine h_op (r_field rfl) ?_
        refine h_op (r_loadc rfl) ?_
        refine h_op (r_len rfl) ?_
        refine h_op (r_bool (r_gtr rfl rfl) (decide_eq_false (show ¬ (65535 : Int) < (vs.n : Int) by omega))) ?_
        refine h_op (r_pick rfl rfl) ?_
        refine h_nil ?_
        refine q_then ?_
        refine h_condF rfl ?_
        refine h_skip ?_
        refine q_then ?_
        refine h_seq ?_
        refine h_reg ?_
        refine h_op (r_assign rfl) ?_
        refine h_op (r_assign rfl) ?_
        refine h_nil ?_
        refine q_then ?_
        refine h_ret ?_
        exact h_ret2 rfl rfl rfl fun w s => ⟨(), rfl, s.res (List.nil_sublist _) (by simp)⟩
  · rw [show claimS ⟨ks, vs, b⟩ = 1 from if_neg h1, show claimE ⟨ks, vs, b⟩ = 2 from if_neg h1]
    refine h_seq ?_
    refine h_reg ?_
    refine h_opX (x_box rfl) fun g1 => ?_
    refine h_op (r_assign rfl) ?_
    refine h_op (r_assign rfl) ?_
    refine h_nil ?_
    refine q_then ?_
    refine h_seq ?_
    refine h_seq ?_
    refine h_reg ?_
    refine h_op (r_field rfl) ?_
    refine h_op (r_loadc rfl) ?_
    refine h_op (r_len rfl) ?_
    refine h_op (r_bool (r_neq rfl rfl) (decide_eq_true (show ¬ (ks.n : Int) = 32 by omega))) ?_
    refine h_nil ?_
    refine q_then ?_
    refine h_condT rfl ?_
    refine h_seq ?_
    refine h_reg ?_
    refine h_op (r_assign rfl) ?_
    refine h_op (r_assign rfl) ?_
    refine h_nil ?_
    refine q_then ?_
    refine h_ret ?_
    refine q_thenR ?_
    exact h_ret2 rfl rfl rfl fun w s => ⟨(), rfl, s.res (List.nil_sublist _) (by simp)⟩
/-- the step and the code of the last two checks -/
def lastSC (n : Nat) (root : B32) (c : Claim) (kb vb : List UInt8) (p : DP) : Int × Int :=
  if supP (p.pr none 0) (keyOf kb) (valD n c.present vb) c.present then (if rootP n p (keyOf kb) = root then (0, 0) else (5, 13)) else (4, 12)
section
variable (n : Nat) (hn : n ≤ 256) (h : Zh) (c : Claim) (kb vb : List UInt8) [hK : SlZ h c.key kb] [hV : SlZ h c.value vb] (hvl : vb.length ≤ 100000000)
include hn hvl
theorem rLast18_s (hkl : kb.length = 32) (root : B32) (p : DP) (A : Option Addr) (c' : Nat) (hck : checkP (p.pr none 0) = 0) [hS : RdZ h A (dgs p.ss)] : Spec Tryz.prog 42 [.int .i64 (n : Int), .agg root.cells.toArray, .agg c.cells.toArray, .agg (p.pr A c').cells.toArray].toArray [.zone false h] [] (fun _ : Unit => .tuple #[.int .i64 (lastSC n root c kb vb p).1, .int .i64 (lastSC n root c kb vb p).2]) (fun _ => []) := by
  have hkn := hK.len
  have hvn := hV.len
  have hKr : RdZ h c.key.A (bc kb) := hK.rd
  have hVr : RdZ h c.value.A (bc vb) := hV.rd
  have hVn := hV.nil
  have hdd : p.d ≤ 256 := by
    have h1 := ok_depth hck
    have h2 : (p.pr none 0).depth = (p.d : Int) := rfl
    omega
  have hSu := rSupports_s (p.pr A c') (keyOf kb) (valD n c.present vb) c.present
  rw [show supP (p.pr A c') (keyOf kb) (valD n c.present vb) c.present = supP (p.pr none 0) (keyOf kb) (valD n c.present vb) c.present from rfl] at hSu
  have hSt := rSteps_s (p.pr A c') hck p.ss rfl (keyOf kb) n hn p.d rfl
  change Spec _ _ _ [.rd A (dgs p.ss)] _ _ (fun u : Nat × Nat => [.own (.slice (some ⟨u.1, 0, none⟩) (p.d + 1) u.2) (p.d + 1) 41 32 (dgs (stepL n (keyOf kb) (expL (sumB n preE) p.bm p.ss p.d) (endP (p.pr none 0)) (p.d + 1)))]) at hSt
  have hla : (stepL n (keyOf kb) (expL (sumB n preE) p.bm p.ss p.d) (endP (p.pr none 0)) (p.d + 1)).getD p.d zB32 = rootP n p (keyOf kb) := by
    unfold stepL rootP
    simp [List.getD_eq_getElem?_getD]
  have hat := dgs_at (l := stepL n (keyOf kb) (expL (sumB n preE) p.bm p.ss p.d) (endP (p.pr none 0)) (p.d + 1)) (k := p.d) (by simp [stepL])
  rw [hla] at hat
  have hLf := rLeafOf_s n hn (keyOf kb) vb c.value.A c.value.c (fun e => by have := hVn e; omega) hvl
  unfold lastSC
  obtain ⟨⟨kA, kn, kc⟩, ⟨vA, vn, vc⟩, pr⟩ := c
  dsimp only at hkn hvn hKr hVr hVn hSu hLf ⊢
  subst hkn hvn
  obtain ⟨bs, hbs⟩ : ∃ bs, supP (p.pr none 0) (keyOf kb) (valD n pr vb) pr = bs := ⟨_, rfl⟩
  rw [hbs] at hSu ⊢
  generalize stepL n (keyOf kb) (expL (sumB n preE) p.bm p.ss p.d) (endP (p.pr none 0)) (p.d + 1) = sts at *
  cases pr
  · refine spec_of Tryz.func42 rfl (n := 43) rfl rfl ?_
    intro W
    refine h_seq ?_
    refine h_reg ?_
    refine h_opX (x_box rfl) fun g5 => ?_
    refine h_opX (x_box rfl) fun g6 => ?_
    refine h_opX (x_box rfl) fun g7 => ?_
    refine h_op (r_assign rfl) ?_
    refine h_op (r_assign rfl) ?_
    refine h_nil ?_
    refine q_then ?_
    refine h_seq ?_
    refine h_reg ?_
    refine h_op (r_field rfl) ?_
    refine h_op (r_loadc rfl) ?_
    refine h_call ((rOf_s kb kA kc hkl).comes) rfl rfl rfl fun _ => ?_
    refine h_opX (x_alloc) fun g10 => ?_
    refine h_opS (s_storer rfl rfl) ?_
    refine h_nil ?_
    refine q_then ?_
    refine h_seq ?_
    refine h_reg ?_
    refine h_opX (x_alloc) fun g11 => ?_
    refine h_nil ?_
    refine q_then ?_
    refine h_seq ?_
    refine h_seq ?_
    refine h_reg ?_
    refine h_op (r_field rfl) ?_
    refine h_op (r_loadc rfl) ?_
    refine h_nil ?_
    refine q_then ?_
    refine h_condF rfl ?_
    refine h_skip ?_
    refine q_then ?_
    refine h_seq ?_
    refine h_seq ?_
    refine h_reg ?_
    refine h_op (r_loadr rfl) ?_
    refine h_op (r_loadr rfl) ?_
    refine h_op (r_loadr rfl) ?_
    refine h_op (r_field rfl) ?_
    refine h_op (r_loadc rfl) ?_
    refine h_call (hSu.comes) rfl rfl rfl fun _ => ?_
    refine h_op (r_not rfl) ?_
    refine h_nil ?_
    refine q_then ?_
    cases bs
    · refine h_condT rfl ?_
      refine h_seq ?_
      refine h_reg ?_
      refine h_op (r_assign rfl) ?_
      refine h_op (r_assign rfl) ?_
      refine h_nil ?_
      refine q_then ?_
      refine h_ret ?_
      refine q_thenR ?_
      exact h_ret2 rfl rfl rfl fun w s => ⟨(), rfl, s.res (List.nil_sublist _) (by simp)⟩
    · refine h_condF rfl ?_
      refine h_skip ?_
      refine q_then ?_
      refine h_seq ?_
      refine h_reg ?_
      refine h_op (r_move rfl) ?_
      refine h_op (r_loadr rfl) ?_
      refine h_op (r_loadr rfl) ?_
      refine h_call (hSt.comes) rfl rfl rfl fun ⟨g34, c34⟩ => ?_
      refine h_op (r_assign rfl) ?_
      refine h_nil ?_
      refine q_then ?_
      refine h_seq ?_
      refine h_seq ?_
      by_cases hr : rootP n p (keyOf kb) = root
      · rw [if_pos hr]
        refine ha_start [.blk g5 root.cells 41, .own (.slice (some ⟨g34, 0, none⟩) (p.d + 1) c34) (p.d + 1) 41 32 (dgs sts)] [] mixed (same) ?_
        refine ha_takeP 0 rfl (r_move rfl) ?_
        refine ha_takeP 1 rfl (r_move rfl) ?_
        refine ha_takeP 2 rfl (r_len rfl) ?_
        refine ha_takeP 3 rfl (r_subN rfl rfl (m := p.d) (hm := by omega)) ?_
        refine ha_takeP 4 rfl (r_idx rfl rfl) ?_
        refine ha_take 5 rfl (r_nthr rfl (out := (rootP n p (keyOf kb)).cells) (B32.cells_length _) hat) ?_
        refine ha_take 6 rfl (r_loadr rfl) ?_
        refine ha_takeP 7 rfl (r_bool (r_ner rfl rfl) (decide_eq_false (fun h => h hr))) ?_
        refine ha_done (by kernel_rfl) ?_
        refine q_then ?_
        refine h_condF rfl ?_
        refine h_skip ?_
        refine q_then ?_
        refine h_seq ?_
        refine h_reg ?_
        refine h_op (r_assign rfl) ?_
        refine h_op (r_assign rfl) ?_
        refine h_nil ?_
        refine q_then ?_
        refine h_ret ?_
        exact h_ret2 rfl rfl rfl fun w s => ⟨(), rfl, s.res (List.nil_sublist _) (by simp)⟩
      · rw [if_neg hr]
        refine ha_start [.blk g5 root.cells 41, .own (.slice (some ⟨g34, 0, none⟩) (p.d + 1) c34) (p.d + 1) 41 32 (dgs sts)] [] mixed (same) ?_
        refine ha_takeP 0 rfl (r_move rfl) ?_
        refine ha_takeP 1 rfl (r_move rfl) ?_
        refine ha_takeP 2 rfl (r_len rfl) ?_
        refine ha_takeP 3 rfl (r_subN rfl rfl (m := p.d) (hm := by omega)) ?_
        refine ha_takeP 4 rfl (r_idx rfl rfl) ?_
        refine ha_take 5 rfl (r_nthr rfl (out := (rootP n p (keyOf kb)).cells) (B32.cells_length _) hat) ?_
        refine ha_take 6 rfl (r_loadr rfl) ?_
        refine ha_takeP 7 rfl (r_bool (r_ner rfl rfl) (decide_eq_true hr)) ?_
        refine ha_done (by kernel_rfl) ?_
        refine q_then ?_
        refine h_condT rfl ?_
        refine h_seq ?_
        refine h_reg ?_
        refine h_op (r_assign rfl) ?_
        refine h_op (r_assign rfl) ?_
        refine h_nil ?_
        refine q_then ?_
        refine h_ret ?_
        refine q_thenR ?_
        exact h_ret2 rfl rfl rfl fun w s => ⟨(), rfl, s.res (List.nil_sublist _) (by simp)⟩
  · refine spec_of Tryz.func42 rfl (n := 43) rfl rfl ?_
    intro W
    refine h_seq ?_
    refine h_reg ?_
    refine h_opX (x_box rfl) fun g5 => ?_
    refine h_opX (x_box rfl) fun g6 => ?_
    refine h_opX (x_box rfl) fun g7 => ?_
    refine h_op (r_assign rfl) ?_
    refine h_op (r_assign rfl) ?_
    refine h_nil ?_
    refine q_then ?_
    refine h_seq ?_
    refine h_reg ?_
    refine h_op (r_field rfl) ?_
    refine h_op (r_loadc rfl) ?_
    refine h_call ((rOf_s kb kA kc hkl).comes) rfl rfl rfl fun _ => ?_
    refine h_opX (x_alloc) fun g10 => ?_
    refine h_opS (s_storer rfl rfl) ?_
    refine h_nil ?_
    refine q_then ?_
    refine h_seq ?_
    refine h_reg ?_
    refine h_opX (x_alloc) fun g11 => ?_
    refine h_nil ?_
    refine q_then ?_
    refine h_seq ?_
    refine h_seq ?_
    refine h_reg ?_
    refine h_op (r_field rfl) ?_
    refine h_op (r_loadc rfl) ?_
    refine h_nil ?_
    refine q_then ?_
    refine h_condT rfl ?_
    refine h_reg ?_
    refine h_op (r_move rfl) ?_
    refine h_op (r_loadr rfl) ?_
    refine h_op (r_field rfl) ?_
    refine h_op (r_loadc rfl) ?_
    refine h_call (hLf.comes) rfl rfl rfl fun _ => ?_
    refine h_op (r_fldr rfl) ?_
    refine h_opS (s_storer rfl rfl) ?_
    refine h_nil ?_
    refine q_then ?_
    refine h_seq ?_
    refine h_seq ?_
    refine h_reg ?_
    refine h_op (r_loadr rfl) ?_
    refine h_op (r_loadr rfl) ?_
    refine h_op (r_loadr rfl) ?_
    refine h_op (r_field rfl) ?_
    refine h_op (r_loadc rfl) ?_
    change H _ _ _ _ _ (.blk g11 (valD n true vb).cells _ :: _) _
    refine h_call (hSu.comes) rfl rfl rfl fun _ => ?_
    refine h_op (r_not rfl) ?_
    refine h_nil ?_
    refine q_then ?_
    cases bs
    · refine h_condT rfl ?_
      refine h_seq ?_
      refine h_reg ?_
      refine h_op (r_assign rfl) ?_
      refine h_op (r_assign rfl) ?_
      refine h_nil ?_
      refine q_then ?_
      refine h_ret ?_
      refine q_thenR ?_
      exact h_ret2 rfl rfl rfl fun w s => ⟨(), rfl, s.res (List.nil_sublist _) (by simp)⟩
    · refine h_condF rfl ?_
      refine h_skip ?_
      refine q_then ?_
      refine h_seq ?_
      refine h_reg ?_
      refine h_op (r_move rfl) ?_
      refine h_op (r_loadr rfl) ?_
      refine h_op (r_loadr rfl) ?_
      refine h_call (hSt.comes) rfl rfl rfl fun ⟨g34, c34⟩ => ?_
      refine h_op (r_assign rfl) ?_
      refine h_nil ?_
      refine q_then ?_
      refine h_seq ?_
      refine h_seq ?_
      by_cases hr : rootP n p (keyOf kb) = root
      · rw [if_pos hr]
        refine ha_start [.blk g5 root.cells 41, .own (.slice (some ⟨g34, 0, none⟩) (p.d + 1) c34) (p.d + 1) 41 32 (dgs sts)] [] mixed (same) ?_
        refine ha_takeP 0 rfl (r_move rfl) ?_
        refine ha_takeP 1 rfl (r_move rfl) ?_
        refine ha_takeP 2 rfl (r_len rfl) ?_
        refine ha_takeP 3 rfl (r_subN rfl rfl (m := p.d) (hm := by omega)) ?_
        refine ha_takeP 4 rfl (r_idx rfl rfl) ?_
        refine ha_take 5 rfl (r_nthr rfl (out := (rootP n p (keyOf kb)).cells) (B32.cells_length _) hat) ?_
        refine ha_take 6 rfl (r_loadr rfl) ?_
        refine ha_takeP 7 rfl (r_bool (r_ner rfl rfl) (decide_eq_false (fun h => h hr))) ?_
        refine ha_done (by kernel_rfl) ?_
        refine q_then ?_
        refine h_condF rfl ?_
        refine h_skip ?_
        refine q_then ?_
        refine h_seq ?_
        refine h_reg ?_
        refine h_op (r_assign rfl) ?_
        refine h_op (r_assign rfl) ?_
        refine h_nil ?_
        refine q_then ?_
        refine h_ret ?_
        exact h_ret2 rfl rfl rfl fun w s => ⟨(), rfl, s.res (List.nil_sublist _) (by simp)⟩
      · rw [if_neg hr]
        refine ha_start [.blk g5 root.cells 41, .own (.slice (some ⟨g34, 0, none⟩) (p.d + 1) c34) (p.d + 1) 41 32 (dgs sts)] [] mixed (same) ?_
        refine ha_takeP 0 rfl (r_move rfl) ?_
        refine ha_takeP 1 rfl (r_move rfl) ?_
        refine ha_takeP 2 rfl (r_len rfl) ?_
        refine ha_takeP 3 rfl (r_subN rfl rfl (m := p.d) (hm := by omega)) ?_
        refine ha_takeP 4 rfl (r_idx rfl rfl) ?_
        refine ha_take 5 rfl (r_nthr rfl (out := (rootP n p (keyOf kb)).cells) (B32.cells_length _) hat) ?_
        refine ha_take 6 rfl (r_loadr rfl) ?_
        refine ha_takeP 7 rfl (r_bool (r_ner rfl rfl) (decide_eq_true hr)) ?_
        refine ha_done (by kernel_rfl) ?_
        refine q_then ?_
        refine h_condT rfl ?_
        refine h_seq ?_
        refine h_reg ?_
        refine h_op (r_assign rfl) ?_
        refine h_op (r_assign rfl) ?_
        refine h_nil ?_
        refine q_then ?_
        refine h_ret ?_
        refine q_thenR ?_
        exact h_ret2 rfl rfl rfl fun w s => ⟨(), rfl, s.res (List.nil_sublist _) (by simp)⟩
end
end Go.Proofs.YtgfkbeipckbkiaaGreatDoor
/- U99 -/
namespace Go.Proofs.YtgfkbeipckbkiaaGreatDoor
set_option linter.unusedSimpArgs false
set_option linter.unusedVariables false
open Go.RowKit
theorem firstC_at {code : Nat → Int} {i : Nat} {e : Int} (hi : i < 6) (hz : ∀ j, j < i → code j = 0) (he : code i = e) (hne : e ≠ 0) : firstC code = some (i, e) := by
  subst he
  exact firstF_some code i hne 6 0 (Nat.zero_le _) (by omega) fun j _ h => hz j h
theorem firstC_no {code : Nat → Int} (hz : ∀ j, j < 6 → code j = 0) : firstC code = none := firstF_none code 6 0 fun j _ h => hz j (by omega)
/-- the step and the code -/
def scOf : Option (Nat × Int) → Int × Int
  | none => (0, 0)
  | some (i, e) => ((i : Int), e)
theorem scOf_err (r : Option (Nat × Int)) : (scOf r).2 = errE r := by rcases r with _ | ⟨i, e⟩ <;> rfl
theorem Short_s (c : Claim) : Spec Tryz.prog 33 [.agg c.cells.toArray].toArray [] [] (fun _ : Unit => .int .i64 (if c.key.n ≤ 100 ∧ c.value.n ≤ 70000 then 1 else 0)) (fun _ => []) := by
  obtain ⟨ks, vs, b⟩ := c
  refine spec_of Tryz.func33 rfl (n := 13) rfl rfl ?_
  intro W
  by_cases h1 : ks.n ≤ 100
  · by_cases h2 : vs.n ≤ 70000
    · rw [if_pos ⟨h1, h2⟩]
      refine h_seq ?_
      refine h_reg ?_
      refine h_opX (x_box rfl) fun g1 => ?_
      refine h_op (r_assign rfl) ?_
      refine h_nil ?_
      refine q_then ?_
      refine h_seq ?_
      refine h_seq ?_
      refine h_reg ?_
      refine h_op (r_field rfl) ?_
      refine h_op (r_loadc rfl) ?_
      refine h_op (r_len rfl) ?_
      refine h_op (r_bool (r_gtr rfl rfl) (decide_eq_false (show ¬ (100 : Int) < (ks.n : Int) by omega))) ?_
      refine h_op (r_move rfl) ?_
      refine h_op (r_field rfl) ?_
      refine h_op (r_loadc rfl) ?_
      refine h_op (r_len rfl) ?_
      refine h_op (r_bool (r_gtr rfl rfl) (decide_eq_false (show ¬ (70000 : Int) < (vs.n : Int) by omega))) ?_
      refine h_op (r_pick rfl rfl) ?_
      refine h_nil ?_
      refine q_then ?_
      refine h_condF rfl ?_
      refine h_skip ?_
      refine q_then ?_
      refine h_seq ?_
      refine h_reg ?_
      refine h_op (r_assign rfl) ?_
      refine h_nil ?_
      refine q_then ?_
      refine h_ret ?_
      exact h_ret1 rfl rfl fun w s => ⟨(), rfl, s.res (List.nil_sublist _) (by simp)⟩
    · rw [if_neg (fun h => h2 h.2)]
      refine h_seq ?_
      refine h_reg ?_
      refine h_opX (x_box rfl) fun g1 => ?_
      refine h_op (r_assign rfl) ?_
      refine h_nil ?_
      refine q_then ?_
      refine h_seq ?_
      refine h_seq ?_
      refine h_reg ?_
      refine h_op (r_field rfl) ?_
      refine h_op (r_loadc rfl) ?_
      refine h_op (r_len rfl) ?_
      refine h_op (r_bool (r_gtr rfl rfl) (decide_eq_false (show ¬ (100 : Int) < (ks.n : Int) by omega))) ?_
      refine h_op (r_move rfl) ?_
      refine h_op (r_field rfl) ?_
      refine h_op (r_loadc rfl) ?_
      refine h_op (r_len rfl) ?_
      refine h_op (r_bool (r_gtr rfl rfl) (decide_eq_true (show (70000 : Int) < (vs.n : Int) by omega))) ?_
      refine h_op (r_pick rfl rfl) ?_
      refine h_nil ?_
      refine q_then ?_
      refine h_condT rfl ?_
      refine h_seq ?_
      refine h_reg ?_
      refine h_op (r_assign rfl) ?_
      refine h_nil ?_
      refine q_then ?_
      refine h_ret ?_
      refine q_thenR ?_
      exact h_ret1 rfl rfl fun w s => ⟨(), rfl, s.res (List.nil_sublist _) (by simp)⟩
  · rw [if_neg (fun h => h1 h.1)]
    refine h_seq ?_
    refine h_reg ?_
    refine h_opX (x_box rfl) fun g1 => ?_
    refine h_op (r_assign rfl) ?_
    refine h_nil ?_
    refine q_then ?_
    refine h_seq ?_
    refine h_seq ?_
    refine h_reg ?_
    refine h_op (r_field rfl) ?_
    refine h_op (r_loadc rfl) ?_
    refine h_op (r_len rfl) ?_
    refine h_op (r_bool (r_gtr rfl rfl) (decide_eq_true (show (100 : Int) < (ks.n : Int) by omega))) ?_
    refine h_op (r_move rfl) ?_
    refine h_opOff ?_
    refine h_opOff ?_
    refine h_opOff ?_
    refine h_opOff ?_
    refine h_op (r_pick rfl rfl) ?_
    refine h_nil ?_
    refine q_then ?_
    refine h_condT rfl ?_
    refine h_seq ?_
    refine h_reg ?_
    refine h_op (r_assign rfl) ?_
    refine h_nil ?_
    refine q_then ?_
    refine h_ret ?_
    refine q_thenR ?_
    exact h_ret1 rfl rfl fun w s => ⟨(), rfl, s.res (List.nil_sublist _) (by simp)⟩
section
variable (n : Nat) (hn : n ≤ 256) (h : Zh) (root : Sl) (c : Claim) (b : Sl) (rb kb vb bb : List UInt8) [hR : SlZ h root rb] [hK : SlZ h c.key kb] [hV : SlZ h c.value vb] [hB : SlZ h b bb] (hvl : vb.length ≤ 100000000) (hbl : bb.length ≤ 100000000)
include hn hvl hbl
theorem rCheck18_s : Spec Tryz.prog 35 [.int .i64 (n : Int), .slice root.A root.n root.c, .agg c.cells.toArray, .slice b.A b.n b.c].toArray [] [.zone true h] (fun _ : {x : Zh // LeZ h x} => .tuple #[.int .i64 (scOf (firstC (vcode n root c rb kb vb bb))).1, .int .i64 (scOf (firstC (vcode n root c rb kb vb bb))).2]) (fun x => [.zone true x.1]) := by
  have hkn := hK.len
  have hrn := hR.len
  have hbn := hB.len
  have hRr : RdZ h root.A (bc rb) := hR.rd
  have hBr : RdZ h b.A (bc bb) := hB.rd
  have hCl := rClaim18_s c
  have hDe := rDecode17_s bb hbl b.A b.c
  have v0 : vcode n root c rb kb vb bb 0 = if root.n = 32 then 0 else 4 := rfl
  have v1 : vcode n root c rb kb vb bb 1 = if c.key.n = 32 then 0 else 2 := rfl
  have v2 : vcode n root c rb kb vb bb 2 = if c.present = true ∧ 65535 < c.value.n then 3 else 0 := rfl
  have v3 : vcode n root c rb kb vb bb 3 = codeD (decB bb) := rfl
  obtain ⟨rA, rn, rc⟩ := root
  obtain ⟨bA, bn, bc'⟩ := b
  dsimp only at hrn hbn hRr hBr hDe v0 ⊢
  subst hrn hbn
  refine spec_of Tryz.func35 rfl (n := 41) rfl rfl ?_
  intro W
  by_cases h0 : rb.length = 32
  · rw [if_pos h0] at v0
    by_cases h1 : claimE c = 0
    · have hk32 : c.key.n = 32 := by
        unfold claimE at h1
        split at h1
        · assumption
        · cases h1
      have hp3 : ¬ (c.present = true ∧ 65535 < c.value.n) := fun hh => by unfold claimE at h1; rw [if_pos hk32, if_pos hh] at h1; cases h1
      rw [if_pos hk32] at v1
      rw [if_neg hp3] at v2
      rw [h1] at hCl
      rcases hd : decB bb with e | p
      · have hne := decB_err hd
        rw [hd] at hDe v3
        have hf : firstC (vcode n ⟨rA, rb.length, rc⟩ c rb kb vb bb) = some (3, e) := firstC_at (by decide) (fun j hj => by rcases (by omega : j = 0 ∨ j = 1 ∨ j = 2) with rfl | rfl | rfl <;> assumption) v3 hne
        rw [hf]
        replace hDe : Spec Tryz.prog 76 [.slice bA bb.length bc'].toArray [.rd bA (bc bb)] [] (fun _ : Option Addr × Nat => .tuple #[.agg zProof.cells.toArray, .int .i64 e]) (fun _ => []) := hDe
        refine h_seq ?_
        refine h_reg ?_
        refine h_opX (x_box rfl) fun g6 => ?_
        refine h_op (r_assign rfl) ?_
        refine h_op (r_assign rfl) ?_
        refine h_nil ?_
        refine q_then ?_
        refine h_seq ?_
        refine h_seq ?_
        refine h_reg ?_
        refine h_op (r_move rfl) ?_
        refine h_op (r_len rfl) ?_
        refine h_op (r_bool (r_neq rfl rfl) (decide_eq_false (by omega))) ?_
        refine h_nil ?_
        refine q_then ?_
        refine h_condF rfl ?_
        refine h_skip ?_
        refine q_then ?_
        refine h_seq ?_
        refine h_reg ?_
        refine h_op (r_loadr rfl) ?_
        refine h_call (hCl.comes) rfl rfl rfl fun _ => ?_
        refine h_op (r_move rfl) ?_
        refine h_op (r_extract rfl rfl) ?_
        refine h_op (r_extract rfl rfl) ?_
        refine h_op (r_assign rfl) ?_
        refine h_op (r_assign rfl) ?_
        refine h_nil ?_
        refine q_then ?_
        refine h_seq ?_
        refine h_seq ?_
        refine h_reg ?_
        refine h_op (r_move rfl) ?_
        refine h_op (r_neq rfl rfl) ?_
        refine h_nil ?_
        refine q_then ?_
        refine h_no rfl ((fun h => h rfl)) ?_
        refine h_skip ?_
        refine q_then ?_
        refine h_seq ?_
        refine h_reg ?_
        refine h_op (r_move rfl) ?_
        refine h_call (hDe.comes) rfl rfl rfl fun _ => ?_
        refine h_op (r_move rfl) ?_
        refine h_op (r_extract rfl rfl) ?_
        refine h_op (r_extract rfl rfl) ?_
        refine h_opX (x_alloc) fun g12 => ?_
        refine h_opS (s_storer rfl rfl) ?_
        refine h_op (r_assign rfl) ?_
        refine h_nil ?_
        refine q_then ?_
        refine h_seq ?_
        refine h_seq ?_
        refine h_reg ?_
        refine h_op (r_move rfl) ?_
        refine h_op (r_neq rfl rfl) ?_
        refine h_nil ?_
        refine q_then ?_
        refine h_yes rfl (hne) ?_
        refine h_seq ?_
        refine h_reg ?_
        refine h_op (r_move rfl) ?_
        refine h_op (r_assign rfl) ?_
        refine h_op (r_assign rfl) ?_
        refine h_nil ?_
        refine q_then ?_
        refine h_ret ?_
        refine q_thenR ?_
        exact h_ret2 rfl rfl rfl fun w s => ⟨⟨h, LeZ.refl h⟩, rfl, (same (L' := [.zone true h]) w s).res (List.Sublist.refl _) (by simp [Fa.wr])⟩
      · rw [hd] at hDe v3
        have hck := decB_ok hd
        have v4 : vcode n ⟨rA, rb.length, rc⟩ c rb kb vb bb 4 = if supP (p.pr none 0) (keyOf kb) (valD n c.present vb) c.present then 0 else 12 := by unfold vcode; rw [hd]; rfl
        have v5 : vcode n ⟨rA, rb.length, rc⟩ c rb kb vb bb 5 = if decide (rootP n p (keyOf kb) = keyOf rb) then 0 else 13 := by unfold vcode; rw [hd]; rfl
        have hf : scOf (firstC (vcode n ⟨rA, rb.length, rc⟩ c rb kb vb bb)) = lastSC n (keyOf rb) c kb vb p := by
          unfold lastSC
          by_cases hs : supP (p.pr none 0) (keyOf kb) (valD n c.present vb) c.present = true
          · rw [if_pos hs] at v4 ⊢
            by_cases hr : rootP n p (keyOf kb) = keyOf rb
            · rw [if_pos (decide_eq_true hr)] at v5
              rw [if_pos hr, firstC_no (fun j hj => by rcases (by omega : j = 0 ∨ j = 1 ∨ j = 2 ∨ j = 3 ∨ j = 4 ∨ j = 5) with rfl | rfl | rfl | rfl | rfl | rfl <;> assumption)]
              rfl
            · rw [if_neg (by simpa using hr)] at v5
              rw [if_neg hr, firstC_at (i := 5) (e := 13) (by decide) (fun j hj => by rcases (by omega : j = 0 ∨ j = 1 ∨ j = 2 ∨ j = 3 ∨ j = 4) with rfl | rfl | rfl | rfl | rfl <;> assumption) v5 (by decide)]
              rfl
          · rw [if_neg hs] at v4 ⊢
            rw [firstC_at (i := 4) (e := 12) (by decide) (fun j hj => by rcases (by omega : j = 0 ∨ j = 1 ∨ j = 2 ∨ j = 3) with rfl | rfl | rfl | rfl <;> assumption) v4 (by decide)]
            rfl
        rw [hf]
        replace hDe : Spec Tryz.prog 76 [.slice bA bb.length bc'].toArray [.rd bA (bc bb)] [] (fun u : Option Addr × Nat => .tuple #[.agg (p.pr u.1 u.2).cells.toArray, .int .i64 0]) (fun u => [.own (.slice u.1 p.ss.length u.2) p.ss.length 41 32 (dgs p.ss)]) := hDe
        refine h_seq ?_
        refine h_reg ?_
        refine h_opX (x_box rfl) fun g6 => ?_
        refine h_op (r_assign rfl) ?_
        refine h_op (r_assign rfl) ?_
        refine h_nil ?_
        refine q_then ?_
        refine h_seq ?_
        refine h_seq ?_
        refine h_reg ?_
        refine h_op (r_move rfl) ?_
        refine h_op (r_len rfl) ?_
        refine h_op (r_bool (r_neq rfl rfl) (decide_eq_false (by omega))) ?_
        refine h_nil ?_
        refine q_then ?_
        refine h_condF rfl ?_
        refine h_skip ?_
        refine q_then ?_
        refine h_seq ?_
        refine h_reg ?_
        refine h_op (r_loadr rfl) ?_
        refine h_call (hCl.comes) rfl rfl rfl fun _ => ?_
        refine h_op (r_move rfl) ?_
        refine h_op (r_extract rfl rfl) ?_
        refine h_op (r_extract rfl rfl) ?_
        refine h_op (r_assign rfl) ?_
        refine h_op (r_assign rfl) ?_
        refine h_nil ?_
        refine q_then ?_
        refine h_seq ?_
        refine h_seq ?_
        refine h_reg ?_
        refine h_op (r_move rfl) ?_
        refine h_op (r_neq rfl rfl) ?_
        refine h_nil ?_
        refine q_then ?_
        refine h_no rfl ((fun h => h rfl)) ?_
        refine h_skip ?_
        refine q_then ?_
        refine h_seq ?_
        refine h_reg ?_
        refine h_op (r_move rfl) ?_
        refine h_call (hDe.comes) rfl rfl rfl fun ⟨A27, c27⟩ => ?_
        dsimp only
        refine h_freezeO (.slice A27 p.ss.length c27) fun z B2 c2 e2 hle2 hlen2 hnil2 hz2 hr2 => ?_
        injection e2 with e2 _ e3
        subst e2 e3
        have hKz : SlZ z c.key kb := hK.mono hz2
        have hVz : SlZ z c.value vb := hV.mono hz2
        have hRz : RdZ z rA (bc rb) := hRr.mono hz2
        refine h_op (r_move rfl) ?_
        refine h_op (r_extract rfl rfl) ?_
        refine h_op (r_extract rfl rfl) ?_
        refine h_opX (x_alloc) fun g12 => ?_
        refine h_opS (s_storer rfl rfl) ?_
        refine h_op (r_assign rfl) ?_
        refine h_nil ?_
        refine q_then ?_
        refine h_seq ?_
        refine h_seq ?_
        refine h_reg ?_
        refine h_op (r_move rfl) ?_
        refine h_op (r_neq rfl rfl) ?_
        refine h_nil ?_
        refine q_then ?_
        refine h_no rfl ((fun h => h rfl)) ?_
        refine h_skip ?_
        refine q_then ?_
        refine h_seq ?_
        refine ha_start [.blk g6 c.cells 70, .blk g12 (p.pr A27 c27).cells 87, .zone true z] [] mixed (same) ?_
        refine ha_takeP 0 rfl (r_move rfl) ?_
        refine ha_takeP 1 rfl (r_move rfl) ?_
        refine ha_take 3 rfl (r_loadr rfl) ?_
        refine ha_take 4 rfl (r_loadr rfl) ?_
        refine ha_one 2 ?_
        refine ho_C 2 rfl ((rOf_s rb rA rc h0).comes) rfl rfl rfl (fun xx => same) fun _ => ?_
        refine ha_one 5 ?_
        refine ho_C 5 rfl ((rLast18_s n hn z c kb vb hvl (by omega) (keyOf rb) p A27 c27 hck).comes) rfl rfl rfl (fun xx => same) fun _ => ?_
        refine ha_takeP 6 rfl (r_extract rfl rfl) ?_
        refine ha_takeP 7 rfl (r_extract rfl rfl) ?_
        refine ha_takeP 8 rfl (r_assign rfl) ?_
        refine ha_takeP 9 rfl (r_assign rfl) ?_
        refine ha_done (by kernel_rfl) ?_
        refine q_then ?_
        refine h_ret ?_
        exact h_ret2 rfl rfl rfl fun w s => ⟨⟨z, hz2⟩, rfl, (same (L' := [.zone true z]) w s).res (List.Sublist.refl _) (by simp [Fa.wr])⟩
    · have hf : scOf (firstC (vcode n ⟨rA, rb.length, rc⟩ c rb kb vb bb)) = (claimS c, claimE c) := by
        by_cases hk32 : c.key.n = 32
        · rw [if_pos hk32] at v1
          have hp3 : c.present = true ∧ 65535 < c.value.n := by
            by_cases hh : c.present = true ∧ 65535 < c.value.n
            · exact hh
            · exact (h1 (by unfold claimE; rw [if_pos hk32, if_neg hh])).elim
          rw [if_pos hp3] at v2
          rw [firstC_at (i := 2) (e := 3) (by decide) (fun j hj => by rcases (by omega : j = 0 ∨ j = 1) with rfl | rfl <;> assumption) v2 (by decide)]
          unfold claimS claimE
          rw [if_pos hk32, if_pos hp3, if_pos hk32, if_pos hp3]
          rfl
        · rw [if_neg hk32] at v1
          rw [firstC_at (i := 1) (e := 2) (by decide) (fun j hj => by obtain rfl : j = 0 := by omega
                                                                      exact v0) v1 (by decide)]
          unfold claimS claimE
          rw [if_neg hk32, if_neg hk32]
          rfl
      rw [hf]
      refine h_seq ?_
      refine h_reg ?_
      refine h_opX (x_box rfl) fun g6 => ?_
      refine h_op (r_assign rfl) ?_
      refine h_op (r_assign rfl) ?_
      refine h_nil ?_
      refine q_then ?_
      refine h_seq ?_
      refine h_seq ?_
      refine h_reg ?_
      refine h_op (r_move rfl) ?_
      refine h_op (r_len rfl) ?_
      refine h_op (r_bool (r_neq rfl rfl) (decide_eq_false (by omega))) ?_
      refine h_nil ?_
      refine q_then ?_
      refine h_condF rfl ?_
      refine h_skip ?_
      refine q_then ?_
      refine h_seq ?_
      refine h_reg ?_
      refine h_op (r_loadr rfl) ?_
      refine h_call (hCl.comes) rfl rfl rfl fun _ => ?_
      refine h_op (r_move rfl) ?_
      refine h_op (r_extract rfl rfl) ?_
      refine h_op (r_extract rfl rfl) ?_
      refine h_op (r_assign rfl) ?_
      refine h_op (r_assign rfl) ?_
      refine h_nil ?_
      refine q_then ?_
      refine h_seq ?_
      refine h_seq ?_
      refine h_reg ?_
      refine h_op (r_move rfl) ?_
      refine h_op (r_neq rfl rfl) ?_
      refine h_nil ?_
      refine q_then ?_
      refine h_yes rfl (h1) ?_
      refine h_seq ?_
      refine h_reg ?_
      refine h_op (r_move rfl) ?_
      refine h_op (r_move rfl) ?_
      refine h_op (r_assign rfl) ?_
      refine h_op (r_assign rfl) ?_
      refine h_nil ?_
      refine q_then ?_
      refine h_ret ?_
      refine q_thenR ?_
      exact h_ret2 rfl rfl rfl fun w s => ⟨⟨h, LeZ.refl h⟩, rfl, (same (L' := [.zone true h]) w s).res (List.Sublist.refl _) (by simp [Fa.wr])⟩
  · rw [if_neg h0] at v0
    rw [firstC_at (i := 0) (e := 4) (by decide) (fun j hj => absurd hj (Nat.not_lt_zero _)) v0 (by decide)]
    refine h_seq ?_
    refine h_reg ?_
    refine h_opX (x_box rfl) fun g6 => ?_
    refine h_op (r_assign rfl) ?_
    refine h_op (r_assign rfl) ?_
    refine h_nil ?_
    refine q_then ?_
    refine h_seq ?_
    refine h_seq ?_
    refine h_reg ?_
    refine h_op (r_move rfl) ?_
    refine h_op (r_len rfl) ?_
    refine h_op (r_bool (r_neq rfl rfl) (decide_eq_true (by omega))) ?_
    refine h_nil ?_
    refine q_then ?_
    refine h_condT rfl ?_
    refine h_seq ?_
    refine h_reg ?_
    refine h_op (r_assign rfl) ?_
    refine h_op (r_assign rfl) ?_
    refine h_nil ?_
    refine q_then ?_
    refine h_ret ?_
    refine q_thenR ?_
    exact h_ret2 rfl rfl rfl fun w s => ⟨⟨h, LeZ.refl h⟩, rfl, (same (L' := [.zone true h]) w s).res (List.Sublist.refl _) (by simp [Fa.wr])⟩
end
end Go.Proofs.YtgfkbeipckbkiaaGreatDoor
/- E24 -/
namespace Go.Proofs.YtgfkbeipckbkiaaGreatDoor
set_option linter.unusedSimpArgs false
set_option linter.unusedVariables false
open Go.RowKit
abbrev E18 : B32 := sumB 256 preE
abbrev p18 : DP := ⟨0, 0, zLeaf, zB32, []⟩
abbrev bb18 : List UInt8 := encC 0 0 zLeaf zB32 []
abbrev kb18 : List UInt8 := List.replicate 32 0
theorem E18_ne : E18 ≠ zB32 := by decide +kernel
theorem check18 : checkP (p18.pr none 0) = 0 := by kernel_rfl
theorem decB18 : decB bb18 = .ok p18 := by
  have h1 : 36 ≤ bb18.length := by decide
  have hE := decB_end (l := bb18) h1 rfl (by decide) (N := 0) (by decide) (by decide)
  have hD : dDP bb18 0 = p18 := by
    unfold dDP dLf
    have h2 : b32At bb18 4 = zB32 := Subtype.ext (by decide)
    rw [h2]
    rfl
  rw [hD, check18] at hE
  exact hE
theorem root18 (key : B32) : rootP 256 p18 key = E18 := congrArg (sumB 256) rfl
theorem keyOf_val (x : B32) : keyOf x.1 = x := by unfold keyOf; rw [dif_pos x.2]
theorem first18 (A B : Option Addr) (c c' : Nat) : firstC (vcode 256 ⟨A, 32, c⟩ ⟨⟨B, 32, c'⟩, ⟨none, 0, 0⟩, false⟩ E18.1 kb18 [] bb18) = none := by
  refine firstC_no fun j hj => ?_
  have h4 : ∀ j, j < 6 → 4 ≤ j → vcode 256 ⟨A, 32, c⟩ ⟨⟨B, 32, c'⟩, ⟨none, 0, 0⟩, false⟩ E18.1 kb18 [] bb18 j = 0 := fun j h1 h2 => by
    rcases (by omega : j = 4 ∨ j = 5) with rfl | rfl
    · unfold vcode
      rw [decB18]
      rfl
    · unfold vcode
      rw [decB18]
      show (if decide (rootP 256 p18 (keyOf kb18) = keyOf E18.1) then (0 : Int) else 13) = 0
      rw [root18, keyOf_val, if_pos (by simp)]
  rcases (by omega : j = 0 ∨ j = 1 ∨ j = 2 ∨ j = 3 ∨ 4 ≤ j) with rfl | rfl | rfl | rfl | h5
  · rfl
  · rfl
  · rfl
  · show codeD (decB bb18) = 0
    rw [decB18]; rfl
  · exact h4 j hj h5
theorem first18b (A : Option Addr) (c : Nat) (rb kb vb bb : List UInt8) : firstC (vcode 256 ⟨A, 31, c⟩ zClaim rb kb vb bb) = some (0, 4) := firstC_at (by decide) (fun j hj => absurd hj (Nat.not_lt_zero _)) rfl (by decide)
theorem acc18 (B : Option Addr) (c' : Nat) : accV 256 E18 ⟨⟨B, 32, c'⟩, ⟨none, 0, 0⟩, false⟩ kb18 [] zProof [] = true := by
  unfold accV
  rw [show dpOf zProof [] = p18 from rfl, root18, decide_eq_true (show claimE ⟨⟨B, 32, c'⟩, ⟨none, 0, 0⟩, false⟩ = 0 by unfold claimE; rw [if_pos rfl, if_neg (by simp)]), decide_eq_true (show checkP zProof = 0 from check18), decide_eq_true rfl]
  rfl
theorem acc18b (B : Option Addr) (c' : Nat) : accV 256 zB32 ⟨⟨B, 32, c'⟩, ⟨none, 0, 0⟩, false⟩ kb18 [] zProof [] = false := by
  unfold accV
  rw [show dpOf zProof [] = p18 from rfl, root18, decide_eq_false E18_ne]
  simp
end Go.Proofs.YtgfkbeipckbkiaaGreatDoor
/- U46 -/
namespace Go.Proofs.YtgfkbeipckbkiaaGreatDoor
set_option linter.unusedSimpArgs false
set_option linter.unusedVariables false
open Go.RowKit
def kB (x : UInt8) : B32 := ⟨x :: List.replicate 31 0, rfl⟩
theorem slz_nil (h : Zh) : SlZ h ⟨none, 0, 0⟩ [] := ⟨rfl, Nat.le_refl _, fun _ => ⟨rfl, rfl⟩, RdZ.nil _ _⟩
theorem z7 : prfK 256 (kB 7) .nil 0 none 0 = zProof := by
  unfold prfK
  show (⟨0, 0, zLeaf, dset [], ⟨none, 0, 0⟩⟩ : Proof) = zProof
  rw [dset_nil]; rfl
end Go.Proofs.YtgfkbeipckbkiaaGreatDoor
