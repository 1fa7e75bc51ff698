/- slices.Reverse; fold.Preimages; fold.Preimages; Rows of one's own, one by one: plain; The reference's preimages and steps; The reference's steps; rows of digests that are the same; The reference's checks of claims; Keys compared and checked; What mverify's checks of claims compute: plain; Arguments of mverify's laws, opened: claims; a root with bytes; a root with items; keys with an index; The reference's check; law18.Short; The example of chapter 18: plain; law15.alive: it is true; law18.alive: it is true; The hasher's count, read; law18: VerifyChecks, VerifyExplains, VerifyClaims are true; law18: VerifyAccepts is true; An argument that is a root with a proof, opened; Arguments of law22 that are structs: a claim with a proof, a claim with a proof and items; Arguments of law22, opened: a byte slice; a claim with a proof; claims with items; a claim with a proof and items; The reference's proof of a map: List, Bytes, End, Sibling; The reference's proof of a map (joined texts: U21 U22 U24p U24 U25 U98 U69 E29 TM U99 E24 U46 U100 U10c U101 U102 TR U152 TX U49 U50) -/
import Derived.Test.YtjhocljhhpkiiaaGreatDoorR10
set_option linter.all false
/- U21 -/
namespace Go.Proofs.YtjhocljhhpkiiaaGreatDoor
open Go.RowKit
def revI (xs : List Value) (i : Nat) : List Value := (List.range xs.length).map fun t => if t < i ∨ xs.length - i ≤ t then xs.getD (xs.length - 1 - t) .nilFunc else xs.getD t .nilFunc
theorem revI_len (xs : List Value) (i : Nat) : (revI xs i).length = xs.length := by simp [revI]
theorem revI_at (xs : List Value) (i t : Nat) (h : t < xs.length) : (revI xs i)[t]? = some (if t < i ∨ xs.length - i ≤ t then xs.getD (xs.length - 1 - t) .nilFunc else xs.getD t .nilFunc) := by
 unfold revI
 rw [List.getElem?_map, List.getElem?_range h]
 rfl
theorem revI_0 (xs : List Value) : revI xs 0 = xs := by
 apply List.ext_getElem?
 intro t
 by_cases h : t < xs.length
 ·rw [revI_at xs 0 t h, if_neg (by omega), List.getD, List.getElem?_eq_getElem h]; rfl
 ·rw [List.getElem?_eq_none (by rw [revI_len]; omega), List.getElem?_eq_none (by omega)]
theorem revI_end (xs : List Value) (i : Nat) (h : xs.length ≤ 2 * i + 1) (hi : i ≤ xs.length) : revI xs i = xs.reverse := by
 apply List.ext_getElem?
 intro t
 by_cases ht : t < xs.length
 ·rw [revI_at xs i t ht, List.getElem?_reverse ht]
  by_cases h2 : t < i ∨ xs.length - i ≤ t
  ·rw [if_pos h2, List.getD, List.getElem?_eq_getElem (by omega)]; rfl
  ·rw [if_neg h2, show xs.length - 1 - t = t by omega, List.getD, List.getElem?_eq_getElem ht]; rfl
 ·rw [List.getElem?_eq_none (by rw [revI_len]; omega), List.getElem?_eq_none (by rw [List.length_reverse]; omega)]
theorem revI_step (xs : List Value) (i : Nat) (h : i < xs.length - 1 - i) : ((revI xs i).set i (xs.getD (xs.length - 1 - i) .nilFunc)).set (xs.length - 1 - i) (xs.getD i .nilFunc) = revI xs (i + 1) := by
 apply List.ext_getElem?
 intro t
 rw [List.getElem?_set, List.length_set, revI_len, List.getElem?_set, revI_len]
 by_cases ht : t < xs.length
 ·rw [revI_at xs (i + 1) t ht, revI_at xs i t ht]
  by_cases e1 : xs.length - 1 - i = t
  ·rw [if_pos e1, if_pos (by omega), if_pos (by omega), show xs.length - 1 - t = i by omega]
  ·rw [if_neg e1]
   by_cases e2 : i = t
   ·rw [if_pos e2, if_pos (by omega), if_pos (by omega), e2]
   ·rw [if_neg e2]
    congr 1
    by_cases h3 : t < i ∨ xs.length - i ≤ t
    ·rw [if_pos h3, if_pos (by omega)]
    ·rw [if_neg h3, if_neg (by omega)]
 ·rw [if_neg (by omega), if_neg (by omega), List.getElem?_eq_none (by rw [revI_len]; omega), List.getElem?_eq_none (by rw [revI_len]; omega)]
theorem getD_one {xs : List Value} (h1 : ∀ v ∈ xs, v.oneCell' = true) (i : Nat) : (xs.getD i .nilFunc).oneCell' = true := by
 rw [List.getD]
 cases h : xs[i]? with
 | none => rfl
 | some v => exact h1 v (List.mem_of_getElem? h)
theorem Reverse_s (xs : List Value) (h1 : ∀ v ∈ xs, v.oneCell' = true) (g c : Nat) (hk : xs.length ≤ 1000000) : Spec Tryz.prog 141 [.slice (some ⟨g, 0, none⟩) xs.length c].toArray [] [.own (.slice (some ⟨g, 0, none⟩) xs.length c) xs.length 23 1 xs] (fun _ : Unit => .tuple #[]) (fun _ => [.own (.slice (some ⟨g, 0, none⟩) xs.length c) xs.length 23 1 xs.reverse]) := by
 refine spec_of Tryz.func141 rfl (n := 28) rfl rfl ?_
 intro W
 refine yR ?_
 refine yM rfl ?_
 refine h_op (r_len rfl) ?_
 refine h_op (r_sub rfl rfl) ?_
 refine yS rfl ?_
 refine yS rfl ?_
 refine yN ?_
 refine h_block ?_
 refine h_L (L' := [.own (.slice (some ⟨g, 0, none⟩) xs.length c) xs.length 23 1 (revI xs 0)]) (fun w s => by rw [revI_0]; exact s) ?_
 refine h_loop (fun (i : Nat) => i ≤ xs.length) (fun (i : Nat) => [(2, .int .i64 (i : Int)), (3, .int .i64 ((xs.length : Int) - 1 - (i : Int))), (0, .slice (some ⟨g, 0, none⟩) xs.length c)]) (fun (i : Nat) => [.own (.slice (some ⟨g, 0, none⟩) xs.length c) xs.length 23 1 (revI xs i)]) (fun (i : Nat) => xs.length - i) 0 (Nat.zero_le _) ⟨rfl, aI rfl (by omega), rfl, trivial⟩ (same) ?_
 intro i hi
 refine h_seq ?_
 refine yR ?_
 refine yM rfl ?_
 refine yM rfl ?_
 refine h_op (r_lss rfl rfl) ?_
 refine yN ?_
 refine h_cond rfl (fun h => ?_) (fun h => ?_)
 ·have hlt : i < xs.length - 1 - i := by omega
  have hstep := revI_step xs i hlt
  have hln := revI_len xs i
  have g1 := revI_at xs i i (by omega)
  rw [if_neg (by omega)] at g1
  have g2 := revI_at xs i (xs.length - 1 - i) (by omega)
  rw [if_neg (by omega)] at g2
  refine h_E (E' := [(2, .int .i64 (i : Int)), (3, .int .i64 ((xs.length - 1 - i : Nat) : Int)), (0, .slice (some ⟨g, 0, none⟩) xs.length c)]) ⟨rfl, aI rfl (by omega), rfl, trivial⟩ ?_
  refine h_skip ?_
  refine q_then ?_
  refine h_seq ?_
  refine h_block ?_
  refine ha_start [.own (.slice (some ⟨g, 0, none⟩) xs.length c) xs.length 23 1 (revI xs i)] [] mixed (same) ?_
  refine ha_takeP 0 rfl (r_move rfl) ?_
  refine ha_takeP 1 rfl (r_move rfl) ?_
  refine ha_takeP 2 rfl (r_move rfl) ?_
  refine ha_takeP 3 rfl (r_move rfl) ?_
  refine ha_takeP 4 rfl (r_move rfl) ?_
  refine ha_takeP 5 rfl (r_move rfl) ?_
  refine ha_takeP 6 rfl (r_idx rfl rfl) ?_
  refine ha_take 7 rfl (r_nth rfl g2) ?_
  refine ha_takeP 8 rfl (r_move rfl) ?_
  refine ha_takeP 9 rfl (r_move rfl) ?_
  refine ha_takeP 10 rfl (r_idx rfl rfl) ?_
  refine ha_take 11 rfl (r_nth rfl g1) ?_
  refine ha_takeP 12 rfl (r_idx rfl rfl) ?_
  refine ha_hl ?_
  refine hl_S 13 rfl (s_setO rfl rfl (getD_one h1 _) (by omega) rfl) ?_
  refine hl_0 14 rfl (r_idx rfl rfl) ?_
  refine hl_S 15 rfl (s_setO rfl rfl (getD_one h1 _) (by rw [List.length_set]; omega) hstep) ?_
  refine hl_done (by kernel_rfl) ?_
  refine q_block ?_
  refine q_then ?_
  refine h_reg ?_
  refine yM rfl ?_
  refine h_op (r_add rfl rfl) ?_
  refine yM rfl ?_
  refine h_op (r_sub rfl rfl) ?_
  refine yS rfl ?_
  refine yS rfl ?_
  refine h_nil ?_
  exact h_back (i + 1) (by omega) (by omega) ⟨rfl, aI rfl (by omega), rfl, trivial⟩ (same)
 ·rw [revI_end xs i (by omega) hi]
  refine h_exit ?_
  refine q_thenE ?_
  refine q_thenE ?_
  refine q_blockE ?_
  refine h_end ?_
  exact h_ret0 rfl fun w s => ⟨(), rfl, s.res (List.Sublist.refl _) (by simp [Fa.wr])⟩
end Go.Proofs.YtjhocljhhpkiiaaGreatDoor
/- U22 -/
namespace Go.Proofs.YtjhocljhhpkiiaaGreatDoor
open Go.RowKit
instance (m : List Fa) : TakeTl m m [] := ⟨by rw [List.append_nil]⟩
theorem Sx.mid0 {A : List Fa} {W w : World} {pre m l : List Fa} (s : Sx A W w (pre ++ (m ++ l))) : Sx A W w (pre ++ (l ++ m)) := s.perm (List.Perm.append_left _ List.perm_append_comm)
def preLs (n : Nat) (key : B32) (ds : List B32) (pre : List UInt8) (N : Nat) : List (List UInt8) := (List.range N).map (wayP n key ds pre)
def ownsOf : List Seg → List Fa
 | [] => []
 | x :: l => .own (sv x) x.2.2.length 5 1 (bc x.2.2) :: ownsOf l
theorem ownsOf_wr (xs : List Seg) : ∀ f ∈ ownsOf xs, f.wr = true := by
 induction xs with
 | nil => intro f hf; cases hf
 | cons x l ih => intro f hf; rcases List.mem_cons.1 hf with rfl | h; rfl; exact ih f h
theorem ownsOf_mem {xs : List Seg} {x : Seg} (h : x ∈ xs) : Fa.own (sv x) x.2.2.length 5 1 (bc x.2.2) ∈ ownsOf xs := by
 induction xs with
 | nil => cases h
 | cons y l ih => exact (List.mem_cons.1 h).elim (fun e => by rw [e]; exact List.mem_cons_self ..) fun e => List.mem_cons_of_mem _ (ih e)
theorem svs_snoc (ys : List Seg) (x : Seg) : svs ys.reverse ++ [sv x] = svs (x :: ys).reverse := by simp [svs]
theorem svs_rev (ys : List Seg) : (svs ys.reverse).reverse = svs ys := by simp [svs]
def SegsOk (ys : List Seg) (ls : List (List UInt8)) : Prop := ys.map (fun x => x.2.2) = ls ∧ ∀ x ∈ ys, ∃ g, x.1 = some ⟨g, 0, none⟩
theorem SegsOk.len {ys : List Seg} {ls : List (List UInt8)} (h : SegsOk ys ls) : ys.length = ls.length := by rw [← h.1, List.length_map]
theorem preLs_len (n : Nat) (key : B32) (ds : List B32) (pre : List UInt8) (N : Nat) : (preLs n key ds pre N).length = N := by simp [preLs]
theorem preLs_succ (n : Nat) (key : B32) (ds : List B32) (pre : List UInt8) (N : Nat) : (preLs n key ds pre (N + 1)).reverse = wayP n key ds pre N :: (preLs n key ds pre N).reverse := by
 unfold preLs
 rw [List.range_succ, List.map_append, List.reverse_append]
 rfl
theorem Pre_s (p : Proof) (hc : checkP p = 0) (ss : List B32) (hs : p.sibs.n = ss.length) (key : B32) (n : Nat) (hn : n ≤ 256) (gh gc k0 : Nat) (hk : k0 ≤ 800000000000) (d : Nat) (hd : p.depth = (d : Int)) : Spec Tryz.prog 83 [.pointer (some ⟨gh, 0, none⟩), .agg p.cells.toArray, .agg key.cells.toArray].toArray [.rd (some ⟨gh, 0, none⟩) [.pointer (some ⟨gc, 0, none⟩), .int .i64 (n : Int)], .rd p.sibs.A (dgs ss), .rd (some ⟨1, 0, none⟩) hashT] [.blk gc [.int .i64 (k0 : Int)] 144] (fun u : { u : Nat × Nat × List Seg // SegsOk u.2.2 (preLs n key (expL (sumB n preE) p.bitmap ss d) (endP p) (d + 1)).reverse } => .tuple #[.slice (some ⟨u.1.1, 0, none⟩) (d + 1) u.1.2.1, .int .i64 0]) (fun u => .own (.slice (some ⟨u.1.1, 0, none⟩) (d + 1) u.1.2.1) (d + 1) 23 1 (svs u.1.2.2) :: .blk gc [.int .i64 ((k0 + 1 + d + 1 : Nat) : Int)] 144 :: ownsOf u.1.2.2) := by
 have hd2 := ok_depth hc
 have hE := Expand_s p hc ss hs n hn gh gc k0 (by omega) d hd
 have hlen := expL_len (sumB n preE) p.bitmap ss d
 generalize expL (sumB n preE) p.bitmap ss d = ds at *
 subst hlen
 have hds : ds.length ≤ 256 := by omega
 refine spec_of Tryz.func83 rfl (n := 35) rfl rfl ?_
 intro W
 refine yR ?_
 refine h_opX (x_box rfl) fun g4 => ?_
 refine h_opX (x_box rfl) fun g5 => ?_
 refine yS rfl ?_
 refine yS rfl ?_
 refine yN ?_
 refine yR ?_
 refine yM rfl ?_
 refine h_op (r_loadr rfl) ?_
 refine h_call (hE.comes) rfl rfl rfl fun g15 => ?_
 refine yM rfl ?_
 refine h_op (r_extract rfl rfl) ?_
 refine h_op (r_extract rfl rfl) ?_
 refine yS rfl ?_
 refine yS rfl ?_
 refine yN ?_
 refine h_seq ?_
 refine yR ?_
 refine yM rfl ?_
 refine h_op (r_neq rfl rfl) ?_
 refine yN ?_
 refine h_no rfl ((fun h => h rfl)) ?_
 refine h_skip ?_
 refine q_then ?_
 refine yR ?_
 refine h_opX (x_alloc) fun g10 => ?_
 refine yN ?_
 refine h_seq ?_
 refine yR ?_
 refine yM rfl ?_
 refine h_op (r_loadr rfl) ?_
 refine yM rfl ?_
 refine h_op (r_loadr rfl) ?_
 refine h_call ((ways_s (.pointer (some ⟨gh, 0, none⟩)) p (some ⟨g15, 0, none⟩) ds.length ds.length key rfl).comes) rfl rfl rfl fun ⟨a2, a1, a3, a4⟩ => ?_
 dsimp only
 refine h_nil_own 23 1 (xs := svs ([] : List Seg).reverse) rfl ?_
 refine yN ?_
 refine h_block ?_
 refine h_rangeG (ways_it p n hn key ds hds gh gc (k0 + 1) g15 0 ds.length a2 a1 a3 a4 (by omega)) rfl (fun k mm => ∃ (v : Option Addr × Nat) (ys : List Seg), SegsOk ys (preLs n key ds (endP p) k).reverse ∧ mm = .blk g10 [.slice v.1 k v.2] 38 :: .own (.slice v.1 k v.2) k 23 1 (svs ys.reverse) :: ownsOf ys) [.blk g10 [.slice none 0 0] 38, .own (.slice none 0 0) 0 23 1 (svs ([] : List Seg).reverse)] [] (by rintro k mm ⟨v, ys, _, rfl⟩ f hf; simp only [List.mem_cons] at hf; exact hf.elim (fun h => by rw [h]; rfl) (fun h => h.elim (fun h => by rw [h]; rfl) (ownsOf_wr ys f))) ⟨(none, 0), [], ⟨rfl, by simp⟩, rfl⟩ rfl (fun _ _ => rfl) ?_ ?_
 ·intro ll rr k u mm W1 hr hrp hkN hJ2
  obtain ⟨⟨B, c'⟩, ys, hys, rfl⟩ := hJ2
  obtain ⟨g, c⟩ := u
  dsimp only
  simp only [List.nil_append, List.cons_append, List.append_nil]
  have hsn := svs_snoc ys (some ⟨g, 0, none⟩, c, wayP n key ds (endP p) k)
  have hys2 : SegsOk ((some ⟨g, 0, none⟩, c, wayP n key ds (endP p) k) :: ys) (preLs n key ds (endP p) (k + 1)).reverse := ⟨by rw [preLs_succ, List.map_cons, hys.1], fun x hx => (List.mem_cons.1 hx).elim (fun e => ⟨g, by rw [e]⟩) (hys.2 x)⟩
  unfold sv at hsn
  dsimp only at hsn
  refine h_reg ?_
  refine yS rfl ?_
  refine yN ?_
  refine h_begin hr ?_
  refine h_block ?_
  refine h_reg ?_
  refine h_op (r_loadc rfl) ?_
  refine yM rfl ?_
  refine h_opX (x_bsl rfl rfl) fun g30 => ?_
  refine h_opX (x_app rfl rfl) fun ⟨g31, c31⟩ => ?_
  refine h_opS (s_store rfl rfl rfl) ?_
  refine h_nil ?_
  refine q_block ?_
  rw [hsn]
  exact h_endround (.blk g10 [.slice (some ⟨g31, 0, none⟩) (k + 1) c31] 38 :: .own (.slice (some ⟨g31, 0, none⟩) (k + 1) c31) (k + 1) 23 1 (svs ((some ⟨g, 0, none⟩, c, wayP n key ds (endP p) k) :: ys : List Seg).reverse) :: .own (.slice (some ⟨g, 0, none⟩) (wayP n key ds (endP p) k).length c) (wayP n key ds (endP p) k).length 5 1 (bc (wayP n key ds (endP p) k)) :: ownsOf ys) hr hrp ⟨(some ⟨g31, 0, none⟩, c31), _, hys2, rfl⟩ (by intro f hf; simp only [List.mem_cons] at hf; exact hf.elim (fun h => by rw [h]; rfl) (fun h => h.elim (fun h => by rw [h]; rfl) (fun h => h.elim (fun h => by rw [h]; rfl) (ownsOf_wr ys f))))
 ·intro bb mm hJ2
  obtain ⟨⟨B, c'⟩, ys, hys, rfl⟩ := hJ2
  refine q_block ?_
  refine q_then ?_
  dsimp only
  simp only [List.nil_append, List.cons_append]
  refine h_L (fun w s => Sx.mid0 (pre := [_, _, _]) (m := ownsOf ys) (l := [.obj bb (.deferred (some [])), .blk a2 p.cells 54, .blk a1 [.pointer (some ⟨gh, 0, none⟩)] 36, .blk a3 [.slice (some ⟨g15, 0, none⟩) ds.length ds.length] 52, .blk a4 key.cells 35, .own (.slice (some ⟨g15, 0, none⟩) ds.length ds.length) ds.length 42 32 (dgs ds), .blk g5 key.cells 35, .blk g4 p.cells 54, .rd (some ⟨gh, 0, none⟩) [.pointer (some ⟨gc, 0, none⟩), .int .i64 (n : Int)], .rd p.sibs.A (dgs ss), .rd (some ⟨1, 0, none⟩) hashT]) s) ?_
  simp only [List.nil_append, List.cons_append]
  refine h_pure (φ := ∃ g, B = some ⟨g, 0, none⟩) (fun w s => s.ownSome (N := ds.length + 1) (c := c') (by omega)) ?_
  rintro ⟨g, rfl⟩
  have hyl : (svs ys.reverse).length = ds.length + 1 := by rw [svs_len, List.length_reverse, hys.len, List.length_reverse, preLs_len]
  have hR := Reverse_s (svs ys.reverse) (svs_one _) g c' (by omega)
  rw [hyl, svs_rev] at hR
  refine yR ?_
  refine h_op (r_loadc rfl) ?_
  refine h_call (hR.comes) rfl rfl rfl fun _ => ?_
  refine yN ?_
  refine yR ?_
  refine h_op (r_loadc rfl) ?_
  refine yS rfl ?_
  refine yS rfl ?_
  refine yN ?_
  refine h_ret ?_
  refine h_mark ?_
  exact h_ret2 rfl rfl rfl fun w s => ⟨⟨(g, c', ys), hys⟩, rfl, (same w s).res (List.Sublist.refl _) (by intro f hf; simp only [List.mem_cons] at hf; exact hf.elim (fun h => by rw [h]; rfl) (fun h => h.elim (fun h => by rw [h]; rfl) (ownsOf_wr ys f)))⟩
end Go.Proofs.YtjhocljhhpkiiaaGreatDoor
/- U24p -/
namespace Go.Proofs.YtjhocljhhpkiiaaGreatDoor
open Go.RowKit
theorem SegsOk.cons {xs : List Seg} {l : List UInt8} {ls : List (List UInt8)} (h : SegsOk xs (l :: ls)) : ∃ g c xs', xs = (some ⟨g, 0, none⟩, c, l) :: xs' ∧ SegsOk xs' ls := by
 obtain ⟨h1, h2⟩ := h
 cases xs with
 | nil => cases h1
 | cons x xs' =>
  rw [List.map_cons] at h1
  injection h1 with h3 h4
  obtain ⟨g, hg⟩ := h2 x (List.mem_cons_self ..)
  obtain ⟨A, c, l'⟩ := x
  simp only at h3 hg
  subst h3 hg
  exact ⟨g, c, xs', rfl, h4, fun y hy => h2 y (List.mem_cons_of_mem _ hy)⟩
instance (priority := 5) (N M : List Fa) : App N M (N ++ M) := ⟨rfl⟩
theorem rd1_own {L : List Fa} {A : Option Addr} {n c e size : Nat} {cs : List Value} (h : Fa.own (.slice A n c) n e size cs ∈ L) : Rd1 L (.rd A cs) := ⟨fun hw => ⟨rfl, own_rd' (hw.ok _ h), fun k hk => ⟨_, h, by obtain ⟨_, o, rfl⟩ := hk; rfl⟩⟩⟩
theorem rds_one {L : List Fa} {r : Fa} (h : Rd1 L r) : Rds L [r] := inferInstance
theorem SegsOk.at {xs : List Seg} {ls : List (List UInt8)} (h : SegsOk xs ls) {i : Nat} {l : List UInt8} (hl : ls[i]? = some l) : ∃ g c, xs[i]? = some (some ⟨g, 0, none⟩, c, l) := by
 rw [← h.1, List.getElem?_map] at hl
 obtain ⟨x, hx, e⟩ := Option.map_eq_some_iff.1 hl
 obtain ⟨g, hg⟩ := h.2 x (List.mem_of_getElem? hx)
 obtain ⟨A, c, l'⟩ := x
 simp only at e hg
 subst e hg
 exact ⟨g, c, hx⟩
end Go.Proofs.YtjhocljhhpkiiaaGreatDoor
/- U24 -/
namespace Go.Proofs.YtjhocljhhpkiiaaGreatDoor
open Go.RowKit
theorem rPre_s (p : Proof) (hc : checkP p = 0) (ss : List B32) (hs : p.sibs.n = ss.length) (key : B32) (n : Nat) (hn : n ≤ 256) (d : Nat) (hd : p.depth = (d : Int)) : Spec Tryz.prog 34 [.int .i64 (n : Int), .agg p.cells.toArray, .agg key.cells.toArray].toArray [.rd p.sibs.A (dgs ss)] [] (fun u : { u : Nat × Nat × List Seg // SegsOk u.2.2 (preLs n key (expL (sumB n preE) p.bitmap ss d) (endP p) (d + 1)).reverse } => .slice (some ⟨u.1.1, 0, none⟩) (d + 1) u.1.2.1) (fun u => .own (.slice (some ⟨u.1.1, 0, none⟩) (d + 1) u.1.2.1) (d + 1) 23 1 (svs u.1.2.2) :: ownsOf u.1.2.2) := by
 have hd2 := ok_depth hc
 have hE := rExpand_s p hc ss hs n hn d hd
 have hlen := expL_len (sumB n preE) p.bitmap ss d
 generalize expL (sumB n preE) p.bitmap ss d = ds at *
 subst hlen
 have hds : ds.length ≤ 256 := by omega
 have hel := endP_len p
 have hwl := wayP_len n key ds (endP p) hel
 generalize hpre : endP p = pre at *
 refine spec_of Tryz.func34 rfl (n := 58) rfl rfl ?_
 intro W
 refine yR ?_
 refine h_opX (x_box rfl) fun g4 => ?_
 refine h_opX (x_box rfl) fun g5 => ?_
 refine yS rfl ?_
 refine yN ?_
 refine yR ?_
 refine yM rfl ?_
 refine h_op (r_loadr rfl) ?_
 refine h_call (hE.comes) rfl rfl rfl fun ⟨Bx, cx⟩ => ?_
 dsimp only
 refine yS rfl ?_
 refine yN ?_
 refine yR ?_
 refine h_opX (x_bsl rfl rfl) fun g16 => ?_
 refine yS rfl ?_
 refine yN ?_
 refine h_seq ?_
 refine yR ?_
 refine h_op (r_field rfl) ?_
 refine h_op (r_loadc rfl) ?_
 refine h_op (r_eql rfl rfl) ?_
 refine yN ?_
 change H _ _ _ _ _ (.own (.slice (some ⟨g16, 0, none⟩) 1 1) 1 _ _ (bc preE) :: _) _
 by_cases hkd : p.kind = 1
 ·obtain rfl : pre = preL p.leaf := hpre.symm.trans (if_pos hkd)
  refine h_yes rfl (hkd) ?_
  refine h_reg ?_
  refine h_op (r_field rfl) ?_
  refine h_op (r_loadr rfl) ?_
  refine h_call ((rLeaf_s p.leaf).comes) rfl rfl rfl fun ⟨g22, c22⟩ => ?_
  dsimp only
  refine yS rfl ?_
  refine yN ?_
  refine yR ?_
  refine yM rfl ?_
  refine h_opX (x_bsl rfl rfl) fun g24 => ?_
  refine yS rfl ?_
  refine yN ?_
  refine h_seq ?_
  refine yR ?_
  refine h_op (r_field rfl) ?_
  refine h_op (r_loadc rfl) ?_
  refine h_op (r_sub rfl rfl) ?_
  refine yS rfl ?_
  refine yN ?_
  refine h_block ?_
  change H _ _ _ _ _ (.own (.slice (some ⟨g24, 0, none⟩) (0 + 1) 1) (0 + 1) _ _ (svs [(some ⟨g22, 0, none⟩, c22, wayP n key ds (preL p.leaf) 0)]) :: .own (.slice (some ⟨g22, 0, none⟩) (wayP n key ds (preL p.leaf) 0).length c22) (wayP n key ds (preL p.leaf) 0).length _ _ (bc (wayP n key ds (preL p.leaf) 0)) :: _) _
  refine h_loop (fun (s : Nat × Nat × Nat × List Seg) => s.1 ≤ ds.length ∧ SegsOk s.2.2.2 (preLs n key ds (preL p.leaf) (s.1 + 1)).reverse) (fun (s : Nat × Nat × Nat × List Seg) => [(10, .int .i64 ((ds.length : Int) - 1 - (s.1 : Int))), (9, .slice (some ⟨s.2.1, 0, none⟩) (s.1 + 1) s.2.2.1), (7, .slice Bx ds.length cx), (5, .pointer (some ⟨g5, 0, none⟩)), (0, .int .i64 (n : Int))]) (fun (s : Nat × Nat × Nat × List Seg) => .own (.slice (some ⟨s.2.1, 0, none⟩) (s.1 + 1) s.2.2.1) (s.1 + 1) 23 1 (svs s.2.2.2) :: .own (.slice Bx ds.length cx) ds.length 42 32 (dgs ds) :: .blk g5 key.cells 35 :: ownsOf s.2.2.2) (fun (s : Nat × Nat × Nat × List Seg) => ds.length - s.1) (0, g24, 1, [(some ⟨g22, 0, none⟩, c22, wayP n key ds (preL p.leaf) 0)]) ((show 0 ≤ ds.length ∧ SegsOk [(some ⟨g22, 0, none⟩, c22, wayP n key ds (preL p.leaf) 0)] (preLs n key ds (preL p.leaf) 1).reverse from ⟨Nat.zero_le _, rfl, fun x hx => ⟨g22, by rw [List.mem_singleton.1 hx]⟩⟩)) ⟨aI rfl (by dsimp only; omega), rfl, rfl, rfl, rfl, trivial⟩ (fun w s => (same (L' := [.own (.slice (some ⟨g24, 0, none⟩) (0 + 1) 1) (0 + 1) 23 1 (svs [(some ⟨g22, 0, none⟩, c22, wayP n key ds (preL p.leaf) 0)]), .own (.slice Bx ds.length cx) ds.length 42 32 (dgs ds), .blk g5 key.cells 35, .own (.slice (some ⟨g22, 0, none⟩) (wayP n key ds (preL p.leaf) 0).length c22) (wayP n key ds (preL p.leaf) 0).length 5 1 (bc (wayP n key ds (preL p.leaf) 0))]) w s)) ?_
  rintro ⟨k, g, c, xs⟩ ⟨hk, hxs⟩
  dsimp only at hk hxs ⊢
  refine h_seq ?_
  refine yR ?_
  refine yM rfl ?_
  refine h_op (r_geq rfl rfl) ?_
  refine yN ?_
  refine h_cond rfl (fun h => ?_) (fun h => ?_)
  ·have hkd2 : k < ds.length := by omega
   have hxl : xs.length = k + 1 := by rw [hxs.len, List.length_reverse, preLs_len]
   have hxs0 := hxs
   rw [preLs_succ] at hxs
   obtain ⟨gx, cx', xs', rfl, hxs'⟩ := hxs.cons
   refine h_E (E' := [(10, .int .i64 ((ds.length - 1 - k : Nat) : Int)), (9, .slice (some ⟨g, 0, none⟩) (k + 1) c), (7, .slice Bx ds.length cx), (5, .pointer (some ⟨g5, 0, none⟩)), (0, .int .i64 (n : Int))]) ⟨aI rfl (by omega), rfl, rfl, rfl, rfl, trivial⟩ ?_
   refine h_L (L' := .own (.slice (some ⟨g, 0, none⟩) (k + 1) c) (k + 1) 23 1 (svs ((some ⟨gx, 0, none⟩, cx', wayP n key ds (preL p.leaf) k) :: xs')) :: .own (.slice Bx ds.length cx) ds.length 42 32 (dgs ds) :: .blk g5 key.cells 35 :: .own (.slice (some ⟨gx, 0, none⟩) (wayP n key ds (preL p.leaf) k).length cx') (wayP n key ds (preL p.leaf) k).length 5 1 (bc (wayP n key ds (preL p.leaf) k)) :: ownsOf xs') (fun _ s => s) ?_
   refine h_pure (φ := ∃ g, Bx = some ⟨g, 0, none⟩) (fun w s => s.ownSome (N := ds.length) (c := cx) (by omega)) ?_
   rintro ⟨gB, rfl⟩
   have hlk := hwl k
   refine h_skip ?_
   refine q_then ?_
   refine h_seq ?_
   refine h_block ?_
   refine yR ?_
   refine yM rfl ?_
   refine yM rfl ?_
   refine h_op (r_idx rfl rfl) ?_
   refine h_op (r_nth rfl (v := .slice (some ⟨gx, 0, none⟩) (wayP n key ds (preL p.leaf) k).length cx') rfl) ?_
   refine h_call ((refSum5_s n hn (wayP n key ds (preL p.leaf) k) (some ⟨gx, 0, none⟩) cx' (fun h => by cases h) (by omega)).comes) rfl rfl rfl fun _ => ?_
   refine h_opX (x_alloc) fun g11 => ?_
   refine h_opS (s_storer rfl rfl) ?_
   refine yN ?_
   refine h_seq ?_
   refine ha_start [.blk g11 (sumB n (wayP n key ds (preL p.leaf) k)).cells 42, .own (.slice (some ⟨gB, 0, none⟩) ds.length cx) ds.length 42 32 (dgs ds)] [] mixed (same) ?_
   refine ha_take 0 rfl (r_loadr rfl) ?_
   refine ha_takeP 1 rfl (r_move rfl) ?_
   refine ha_takeP 2 rfl (r_move rfl) ?_
   refine ha_takeP 3 rfl (r_idx rfl rfl) ?_
   refine ha_take 4 rfl (r_nthr rfl (out := (ds.getD (ds.length - 1 - k) zB32).cells) (B32.cells_length _) (dgs_at (by omega))) ?_
   refine ha_one 5 ?_
   refine ho_C 5 rfl ((rNode_s (sumB n (wayP n key ds (preL p.leaf) k)) (ds.getD (ds.length - 1 - k) zB32)).comes) rfl rfl rfl (fun xx => same) fun ⟨g42, c42⟩ => ?_
   refine ha_takeP 6 rfl (r_assign rfl) ?_
   refine ha_done (by kernel_rfl) ?_
   refine q_then ?_
   dsimp only
   refine h_seq ?_
   refine yR ?_
   refine h_op (r_loadr rfl) ?_
   refine yM rfl ?_
   refine h_call ((refBit_s key (ds.length - 1 - k) (by omega)).comes) rfl rfl rfl fun _ => ?_
   refine h_op (r_bool (r_eql rfl rfl) (bitN_one key (ds.length - 1 - k))) ?_
   refine yN ?_
   refine h_condB rfl (fun hb => ?_) (fun hb => ?_)
   ·have hw1 : wayP n key ds (preL p.leaf) (k + 1) = preN (ds.getD (ds.length - 1 - k) zB32) (sumB n (wayP n key ds (preL p.leaf) k)) := by rw [wayP, if_pos hb]
    refine ha_start [.blk g11 (sumB n (wayP n key ds (preL p.leaf) k)).cells 42, .own (.slice (some ⟨gB, 0, none⟩) ds.length cx) ds.length 42 32 (dgs ds)] [] mixed (same) ?_
    refine ha_takeP 0 rfl (r_move rfl) ?_
    refine ha_takeP 1 rfl (r_move rfl) ?_
    refine ha_takeP 2 rfl (r_idx rfl rfl) ?_
    refine ha_take 3 rfl (r_nthr rfl (out := (ds.getD (ds.length - 1 - k) zB32).cells) (B32.cells_length _) (dgs_at (by omega))) ?_
    refine ha_take 4 rfl (r_loadr rfl) ?_
    refine ha_one 5 ?_
    refine ho_C 5 rfl ((rNode_s (ds.getD (ds.length - 1 - k) zB32) (sumB n (wayP n key ds (preL p.leaf) k))).comes) rfl rfl rfl (fun xx => same) fun ⟨g52, c52⟩ => ?_
    refine ha_takeP 6 rfl (r_assign rfl) ?_
    refine ha_done (by kernel_rfl) ?_
    refine q_then ?_
    dsimp only
    have hsn : SegsOk ((some ⟨g52, 0, none⟩, c52, wayP n key ds (preL p.leaf) (k + 1)) :: (some ⟨gx, 0, none⟩, cx', wayP n key ds (preL p.leaf) k) :: xs') (preLs n key ds (preL p.leaf) (k + 1 + 1)).reverse := ⟨by rw [preLs_succ, List.map_cons, hxs0.1], fun x hx => (List.mem_cons.1 hx).elim (fun e => ⟨g52, by rw [e]⟩) (hxs0.2 x)⟩
    rw [← hw1]
    refine h_reg ?_
    refine yM rfl ?_
    refine h_opX (x_bsl rfl rfl) fun g54 => ?_
    refine yM rfl ?_
    refine h_opX (x_appA (cs := svs ((some ⟨gx, 0, none⟩, cx', wayP n key ds (preL p.leaf) k) :: xs')) rfl rfl (fun h => by cases h) (by rw [svs_len, hxl]; omega) (svs_one _)) fun ⟨A56, c56⟩ => ?_
    refine h_pure (φ := ∃ g, A56 = some ⟨g, 0, none⟩) (fun w s => s.ownSome (N := 1 + (k + 1)) (c := c56) (by omega)) ?_
    rintro ⟨g56, rfl⟩
    change H _ _ _ _ _ (.own _ _ _ _ (svs ((some ⟨g52, 0, none⟩, c52, wayP n key ds (preL p.leaf) (k + 1)) :: (some ⟨gx, 0, none⟩, cx', wayP n key ds (preL p.leaf) k) :: xs')) :: _) _
    rw [Nat.add_comm 1 (k + 1)]
    refine yS rfl ?_
    refine h_nil ?_
    refine q_block ?_
    refine q_then ?_
    refine h_reg ?_
    refine yM rfl ?_
    refine h_op (r_sub rfl rfl) ?_
    refine yS rfl ?_
    refine h_nil ?_
    exact h_back (k + 1, g56, c56, (some ⟨g52, 0, none⟩, c52, wayP n key ds (preL p.leaf) (k + 1)) :: (some ⟨gx, 0, none⟩, cx', wayP n key ds (preL p.leaf) k) :: xs') ((show k + 1 ≤ ds.length ∧ SegsOk _ (preLs n key ds (preL p.leaf) (k + 1 + 1)).reverse from ⟨by omega, hsn⟩)) ((show ds.length - (k + 1) < ds.length - k by omega)) ⟨aI rfl (by dsimp only; omega), rfl, rfl, rfl, rfl, trivial⟩ (fun w s => (same (L' := .own (.slice (some ⟨g56, 0, none⟩) (k + 1 + 1) c56) (k + 1 + 1) 23 1 (svs ((some ⟨g52, 0, none⟩, c52, wayP n key ds (preL p.leaf) (k + 1)) :: (some ⟨gx, 0, none⟩, cx', wayP n key ds (preL p.leaf) k) :: xs')) :: .own (.slice (some ⟨gB, 0, none⟩) ds.length cx) ds.length 42 32 (dgs ds) :: .blk g5 key.cells 35 :: .own (.slice (some ⟨g52, 0, none⟩) (wayP n key ds (preL p.leaf) (k + 1)).length c52) (wayP n key ds (preL p.leaf) (k + 1)).length 5 1 (bc (wayP n key ds (preL p.leaf) (k + 1))) :: .own (.slice (some ⟨gx, 0, none⟩) (wayP n key ds (preL p.leaf) k).length cx') (wayP n key ds (preL p.leaf) k).length 5 1 (bc (wayP n key ds (preL p.leaf) k)) :: ownsOf xs') w s))
   ·have hw1 : wayP n key ds (preL p.leaf) (k + 1) = preN (sumB n (wayP n key ds (preL p.leaf) k)) (ds.getD (ds.length - 1 - k) zB32) := by rw [wayP, if_neg (by rw [hb]; simp)]
    have hsn : SegsOk ((some ⟨g42, 0, none⟩, c42, wayP n key ds (preL p.leaf) (k + 1)) :: (some ⟨gx, 0, none⟩, cx', wayP n key ds (preL p.leaf) k) :: xs') (preLs n key ds (preL p.leaf) (k + 1 + 1)).reverse := ⟨by rw [preLs_succ, List.map_cons, hxs0.1], fun x hx => (List.mem_cons.1 hx).elim (fun e => ⟨g42, by rw [e]⟩) (hxs0.2 x)⟩
    rw [← hw1]
    refine h_skip ?_
    refine q_then ?_
    refine h_reg ?_
    refine yM rfl ?_
    refine h_opX (x_bsl rfl rfl) fun g54 => ?_
    refine yM rfl ?_
    refine h_opX (x_appA (cs := svs ((some ⟨gx, 0, none⟩, cx', wayP n key ds (preL p.leaf) k) :: xs')) rfl rfl (fun h => by cases h) (by rw [svs_len, hxl]; omega) (svs_one _)) fun ⟨A56, c56⟩ => ?_
    refine h_pure (φ := ∃ g, A56 = some ⟨g, 0, none⟩) (fun w s => s.ownSome (N := 1 + (k + 1)) (c := c56) (by omega)) ?_
    rintro ⟨g56, rfl⟩
    change H _ _ _ _ _ (.own _ _ _ _ (svs ((some ⟨g42, 0, none⟩, c42, wayP n key ds (preL p.leaf) (k + 1)) :: (some ⟨gx, 0, none⟩, cx', wayP n key ds (preL p.leaf) k) :: xs')) :: _) _
    rw [Nat.add_comm 1 (k + 1)]
    refine yS rfl ?_
    refine h_nil ?_
    refine q_block ?_
    refine q_then ?_
    refine h_reg ?_
    refine yM rfl ?_
    refine h_op (r_sub rfl rfl) ?_
    refine yS rfl ?_
    refine h_nil ?_
    exact h_back (k + 1, g56, c56, (some ⟨g42, 0, none⟩, c42, wayP n key ds (preL p.leaf) (k + 1)) :: (some ⟨gx, 0, none⟩, cx', wayP n key ds (preL p.leaf) k) :: xs') ((show k + 1 ≤ ds.length ∧ SegsOk _ (preLs n key ds (preL p.leaf) (k + 1 + 1)).reverse from ⟨by omega, hsn⟩)) ((show ds.length - (k + 1) < ds.length - k by omega)) ⟨aI rfl (by dsimp only; omega), rfl, rfl, rfl, rfl, trivial⟩ (fun w s => (same (L' := .own (.slice (some ⟨g56, 0, none⟩) (k + 1 + 1) c56) (k + 1 + 1) 23 1 (svs ((some ⟨g42, 0, none⟩, c42, wayP n key ds (preL p.leaf) (k + 1)) :: (some ⟨gx, 0, none⟩, cx', wayP n key ds (preL p.leaf) k) :: xs')) :: .own (.slice (some ⟨gB, 0, none⟩) ds.length cx) ds.length 42 32 (dgs ds) :: .blk g5 key.cells 35 :: .own (.slice (some ⟨g42, 0, none⟩) (wayP n key ds (preL p.leaf) (k + 1)).length c42) (wayP n key ds (preL p.leaf) (k + 1)).length 5 1 (bc (wayP n key ds (preL p.leaf) (k + 1))) :: .own (.slice (some ⟨gx, 0, none⟩) (wayP n key ds (preL p.leaf) k).length cx') (wayP n key ds (preL p.leaf) k).length 5 1 (bc (wayP n key ds (preL p.leaf) k)) :: ownsOf xs') w s))
  ·obtain rfl : k = ds.length := by omega
   refine h_exit ?_
   refine q_thenE ?_
   refine q_thenE ?_
   refine q_blockE ?_
   refine q_then ?_
   refine yR ?_
   refine yM rfl ?_
   refine yS rfl ?_
   refine yN ?_
   refine h_ret ?_
   exact h_ret1 rfl rfl fun w s => ⟨⟨(g, c, xs), hxs⟩, rfl, (same w s).res (List.Sublist.refl _) (by intro f hf; simp only [List.mem_cons] at hf; exact hf.elim (fun h => by rw [h]; rfl) (ownsOf_wr xs f))⟩
 ·obtain rfl : pre = preE := hpre.symm.trans (if_neg hkd)
  refine h_no rfl (hkd) ?_
  refine h_skip ?_
  refine q_then ?_
  refine yR ?_
  refine yM rfl ?_
  refine h_opX (x_bsl rfl rfl) fun g24 => ?_
  refine yS rfl ?_
  refine yN ?_
  refine h_seq ?_
  refine yR ?_
  refine h_op (r_field rfl) ?_
  refine h_op (r_loadc rfl) ?_
  refine h_op (r_sub rfl rfl) ?_
  refine yS rfl ?_
  refine yN ?_
  refine h_block ?_
  change H _ _ _ _ _ (.own (.slice (some ⟨g24, 0, none⟩) (0 + 1) 1) (0 + 1) _ _ (svs [(some ⟨g16, 0, none⟩, 1, wayP n key ds preE 0)]) :: .own (.slice (some ⟨g16, 0, none⟩) (wayP n key ds preE 0).length 1) (wayP n key ds preE 0).length _ _ (bc (wayP n key ds preE 0)) :: _) _
  refine h_loop (fun (s : Nat × Nat × Nat × List Seg) => s.1 ≤ ds.length ∧ SegsOk s.2.2.2 (preLs n key ds preE (s.1 + 1)).reverse) (fun (s : Nat × Nat × Nat × List Seg) => [(10, .int .i64 ((ds.length : Int) - 1 - (s.1 : Int))), (9, .slice (some ⟨s.2.1, 0, none⟩) (s.1 + 1) s.2.2.1), (7, .slice Bx ds.length cx), (5, .pointer (some ⟨g5, 0, none⟩)), (0, .int .i64 (n : Int))]) (fun (s : Nat × Nat × Nat × List Seg) => .own (.slice (some ⟨s.2.1, 0, none⟩) (s.1 + 1) s.2.2.1) (s.1 + 1) 23 1 (svs s.2.2.2) :: .own (.slice Bx ds.length cx) ds.length 42 32 (dgs ds) :: .blk g5 key.cells 35 :: ownsOf s.2.2.2) (fun (s : Nat × Nat × Nat × List Seg) => ds.length - s.1) (0, g24, 1, [(some ⟨g16, 0, none⟩, 1, wayP n key ds preE 0)]) ((show 0 ≤ ds.length ∧ SegsOk [(some ⟨g16, 0, none⟩, 1, wayP n key ds preE 0)] (preLs n key ds preE 1).reverse from ⟨Nat.zero_le _, rfl, fun x hx => ⟨g16, by rw [List.mem_singleton.1 hx]⟩⟩)) ⟨aI rfl (by dsimp only; omega), rfl, rfl, rfl, rfl, trivial⟩ (fun w s => (same (L' := [.own (.slice (some ⟨g24, 0, none⟩) (0 + 1) 1) (0 + 1) 23 1 (svs [(some ⟨g16, 0, none⟩, 1, wayP n key ds preE 0)]), .own (.slice Bx ds.length cx) ds.length 42 32 (dgs ds), .blk g5 key.cells 35, .own (.slice (some ⟨g16, 0, none⟩) (wayP n key ds preE 0).length 1) (wayP n key ds preE 0).length 5 1 (bc (wayP n key ds preE 0))]) w s)) ?_
  rintro ⟨k, g, c, xs⟩ ⟨hk, hxs⟩
  dsimp only at hk hxs ⊢
  refine h_seq ?_
  refine yR ?_
  refine yM rfl ?_
  refine h_op (r_geq rfl rfl) ?_
  refine yN ?_
  refine h_cond rfl (fun h => ?_) (fun h => ?_)
  ·have hkd2 : k < ds.length := by omega
   have hxl : xs.length = k + 1 := by rw [hxs.len, List.length_reverse, preLs_len]
   have hxs0 := hxs
   rw [preLs_succ] at hxs
   obtain ⟨gx, cx', xs', rfl, hxs'⟩ := hxs.cons
   refine h_E (E' := [(10, .int .i64 ((ds.length - 1 - k : Nat) : Int)), (9, .slice (some ⟨g, 0, none⟩) (k + 1) c), (7, .slice Bx ds.length cx), (5, .pointer (some ⟨g5, 0, none⟩)), (0, .int .i64 (n : Int))]) ⟨aI rfl (by omega), rfl, rfl, rfl, rfl, trivial⟩ ?_
   refine h_L (L' := .own (.slice (some ⟨g, 0, none⟩) (k + 1) c) (k + 1) 23 1 (svs ((some ⟨gx, 0, none⟩, cx', wayP n key ds preE k) :: xs')) :: .own (.slice Bx ds.length cx) ds.length 42 32 (dgs ds) :: .blk g5 key.cells 35 :: .own (.slice (some ⟨gx, 0, none⟩) (wayP n key ds preE k).length cx') (wayP n key ds preE k).length 5 1 (bc (wayP n key ds preE k)) :: ownsOf xs') (fun _ s => s) ?_
   refine h_pure (φ := ∃ g, Bx = some ⟨g, 0, none⟩) (fun w s => s.ownSome (N := ds.length) (c := cx) (by omega)) ?_
   rintro ⟨gB, rfl⟩
   have hlk := hwl k
   refine h_skip ?_
   refine q_then ?_
   refine h_seq ?_
   refine h_block ?_
   refine yR ?_
   refine yM rfl ?_
   refine yM rfl ?_
   refine h_op (r_idx rfl rfl) ?_
   refine h_op (r_nth rfl (v := .slice (some ⟨gx, 0, none⟩) (wayP n key ds preE k).length cx') rfl) ?_
   refine h_call ((refSum5_s n hn (wayP n key ds preE k) (some ⟨gx, 0, none⟩) cx' (fun h => by cases h) (by omega)).comes) rfl rfl rfl fun _ => ?_
   refine h_opX (x_alloc) fun g11 => ?_
   refine h_opS (s_storer rfl rfl) ?_
   refine yN ?_
   refine h_seq ?_
   refine ha_start [.blk g11 (sumB n (wayP n key ds preE k)).cells 42, .own (.slice (some ⟨gB, 0, none⟩) ds.length cx) ds.length 42 32 (dgs ds)] [] mixed (same) ?_
   refine ha_take 0 rfl (r_loadr rfl) ?_
   refine ha_takeP 1 rfl (r_move rfl) ?_
   refine ha_takeP 2 rfl (r_move rfl) ?_
   refine ha_takeP 3 rfl (r_idx rfl rfl) ?_
   refine ha_take 4 rfl (r_nthr rfl (out := (ds.getD (ds.length - 1 - k) zB32).cells) (B32.cells_length _) (dgs_at (by omega))) ?_
   refine ha_one 5 ?_
   refine ho_C 5 rfl ((rNode_s (sumB n (wayP n key ds preE k)) (ds.getD (ds.length - 1 - k) zB32)).comes) rfl rfl rfl (fun xx => same) fun ⟨g42, c42⟩ => ?_
   refine ha_takeP 6 rfl (r_assign rfl) ?_
   refine ha_done (by kernel_rfl) ?_
   refine q_then ?_
   dsimp only
   refine h_seq ?_
   refine yR ?_
   refine h_op (r_loadr rfl) ?_
   refine yM rfl ?_
   refine h_call ((refBit_s key (ds.length - 1 - k) (by omega)).comes) rfl rfl rfl fun _ => ?_
   refine h_op (r_bool (r_eql rfl rfl) (bitN_one key (ds.length - 1 - k))) ?_
   refine yN ?_
   refine h_condB rfl (fun hb => ?_) (fun hb => ?_)
   ·have hw1 : wayP n key ds preE (k + 1) = preN (ds.getD (ds.length - 1 - k) zB32) (sumB n (wayP n key ds preE k)) := by rw [wayP, if_pos hb]
    refine ha_start [.blk g11 (sumB n (wayP n key ds preE k)).cells 42, .own (.slice (some ⟨gB, 0, none⟩) ds.length cx) ds.length 42 32 (dgs ds)] [] mixed (same) ?_
    refine ha_takeP 0 rfl (r_move rfl) ?_
    refine ha_takeP 1 rfl (r_move rfl) ?_
    refine ha_takeP 2 rfl (r_idx rfl rfl) ?_
    refine ha_take 3 rfl (r_nthr rfl (out := (ds.getD (ds.length - 1 - k) zB32).cells) (B32.cells_length _) (dgs_at (by omega))) ?_
    refine ha_take 4 rfl (r_loadr rfl) ?_
    refine ha_one 5 ?_
    refine ho_C 5 rfl ((rNode_s (ds.getD (ds.length - 1 - k) zB32) (sumB n (wayP n key ds preE k))).comes) rfl rfl rfl (fun xx => same) fun ⟨g52, c52⟩ => ?_
    refine ha_takeP 6 rfl (r_assign rfl) ?_
    refine ha_done (by kernel_rfl) ?_
    refine q_then ?_
    dsimp only
    have hsn : SegsOk ((some ⟨g52, 0, none⟩, c52, wayP n key ds preE (k + 1)) :: (some ⟨gx, 0, none⟩, cx', wayP n key ds preE k) :: xs') (preLs n key ds preE (k + 1 + 1)).reverse := ⟨by rw [preLs_succ, List.map_cons, hxs0.1], fun x hx => (List.mem_cons.1 hx).elim (fun e => ⟨g52, by rw [e]⟩) (hxs0.2 x)⟩
    rw [← hw1]
    refine h_reg ?_
    refine yM rfl ?_
    refine h_opX (x_bsl rfl rfl) fun g54 => ?_
    refine yM rfl ?_
    refine h_opX (x_appA (cs := svs ((some ⟨gx, 0, none⟩, cx', wayP n key ds preE k) :: xs')) rfl rfl (fun h => by cases h) (by rw [svs_len, hxl]; omega) (svs_one _)) fun ⟨A56, c56⟩ => ?_
    refine h_pure (φ := ∃ g, A56 = some ⟨g, 0, none⟩) (fun w s => s.ownSome (N := 1 + (k + 1)) (c := c56) (by omega)) ?_
    rintro ⟨g56, rfl⟩
    change H _ _ _ _ _ (.own _ _ _ _ (svs ((some ⟨g52, 0, none⟩, c52, wayP n key ds preE (k + 1)) :: (some ⟨gx, 0, none⟩, cx', wayP n key ds preE k) :: xs')) :: _) _
    rw [Nat.add_comm 1 (k + 1)]
    refine yS rfl ?_
    refine h_nil ?_
    refine q_block ?_
    refine q_then ?_
    refine h_reg ?_
    refine yM rfl ?_
    refine h_op (r_sub rfl rfl) ?_
    refine yS rfl ?_
    refine h_nil ?_
    exact h_back (k + 1, g56, c56, (some ⟨g52, 0, none⟩, c52, wayP n key ds preE (k + 1)) :: (some ⟨gx, 0, none⟩, cx', wayP n key ds preE k) :: xs') ((show k + 1 ≤ ds.length ∧ SegsOk _ (preLs n key ds preE (k + 1 + 1)).reverse from ⟨by omega, hsn⟩)) ((show ds.length - (k + 1) < ds.length - k by omega)) ⟨aI rfl (by dsimp only; omega), rfl, rfl, rfl, rfl, trivial⟩ (fun w s => (same (L' := .own (.slice (some ⟨g56, 0, none⟩) (k + 1 + 1) c56) (k + 1 + 1) 23 1 (svs ((some ⟨g52, 0, none⟩, c52, wayP n key ds preE (k + 1)) :: (some ⟨gx, 0, none⟩, cx', wayP n key ds preE k) :: xs')) :: .own (.slice (some ⟨gB, 0, none⟩) ds.length cx) ds.length 42 32 (dgs ds) :: .blk g5 key.cells 35 :: .own (.slice (some ⟨g52, 0, none⟩) (wayP n key ds preE (k + 1)).length c52) (wayP n key ds preE (k + 1)).length 5 1 (bc (wayP n key ds preE (k + 1))) :: .own (.slice (some ⟨gx, 0, none⟩) (wayP n key ds preE k).length cx') (wayP n key ds preE k).length 5 1 (bc (wayP n key ds preE k)) :: ownsOf xs') w s))
   ·have hw1 : wayP n key ds preE (k + 1) = preN (sumB n (wayP n key ds preE k)) (ds.getD (ds.length - 1 - k) zB32) := by rw [wayP, if_neg (by rw [hb]; simp)]
    have hsn : SegsOk ((some ⟨g42, 0, none⟩, c42, wayP n key ds preE (k + 1)) :: (some ⟨gx, 0, none⟩, cx', wayP n key ds preE k) :: xs') (preLs n key ds preE (k + 1 + 1)).reverse := ⟨by rw [preLs_succ, List.map_cons, hxs0.1], fun x hx => (List.mem_cons.1 hx).elim (fun e => ⟨g42, by rw [e]⟩) (hxs0.2 x)⟩
    rw [← hw1]
    refine h_skip ?_
    refine q_then ?_
    refine h_reg ?_
    refine yM rfl ?_
    refine h_opX (x_bsl rfl rfl) fun g54 => ?_
    refine yM rfl ?_
    refine h_opX (x_appA (cs := svs ((some ⟨gx, 0, none⟩, cx', wayP n key ds preE k) :: xs')) rfl rfl (fun h => by cases h) (by rw [svs_len, hxl]; omega) (svs_one _)) fun ⟨A56, c56⟩ => ?_
    refine h_pure (φ := ∃ g, A56 = some ⟨g, 0, none⟩) (fun w s => s.ownSome (N := 1 + (k + 1)) (c := c56) (by omega)) ?_
    rintro ⟨g56, rfl⟩
    change H _ _ _ _ _ (.own _ _ _ _ (svs ((some ⟨g42, 0, none⟩, c42, wayP n key ds preE (k + 1)) :: (some ⟨gx, 0, none⟩, cx', wayP n key ds preE k) :: xs')) :: _) _
    rw [Nat.add_comm 1 (k + 1)]
    refine yS rfl ?_
    refine h_nil ?_
    refine q_block ?_
    refine q_then ?_
    refine h_reg ?_
    refine yM rfl ?_
    refine h_op (r_sub rfl rfl) ?_
    refine yS rfl ?_
    refine h_nil ?_
    exact h_back (k + 1, g56, c56, (some ⟨g42, 0, none⟩, c42, wayP n key ds preE (k + 1)) :: (some ⟨gx, 0, none⟩, cx', wayP n key ds preE k) :: xs') ((show k + 1 ≤ ds.length ∧ SegsOk _ (preLs n key ds preE (k + 1 + 1)).reverse from ⟨by omega, hsn⟩)) ((show ds.length - (k + 1) < ds.length - k by omega)) ⟨aI rfl (by dsimp only; omega), rfl, rfl, rfl, rfl, trivial⟩ (fun w s => (same (L' := .own (.slice (some ⟨g56, 0, none⟩) (k + 1 + 1) c56) (k + 1 + 1) 23 1 (svs ((some ⟨g42, 0, none⟩, c42, wayP n key ds preE (k + 1)) :: (some ⟨gx, 0, none⟩, cx', wayP n key ds preE k) :: xs')) :: .own (.slice (some ⟨gB, 0, none⟩) ds.length cx) ds.length 42 32 (dgs ds) :: .blk g5 key.cells 35 :: .own (.slice (some ⟨g42, 0, none⟩) (wayP n key ds preE (k + 1)).length c42) (wayP n key ds preE (k + 1)).length 5 1 (bc (wayP n key ds preE (k + 1))) :: .own (.slice (some ⟨gx, 0, none⟩) (wayP n key ds preE k).length cx') (wayP n key ds preE k).length 5 1 (bc (wayP n key ds preE k)) :: ownsOf xs') w s))
  ·obtain rfl : k = ds.length := by omega
   refine h_exit ?_
   refine q_thenE ?_
   refine q_thenE ?_
   refine q_blockE ?_
   refine q_then ?_
   refine yR ?_
   refine yM rfl ?_
   refine yS rfl ?_
   refine yN ?_
   refine h_ret ?_
   exact h_ret1 rfl rfl fun w s => ⟨⟨(g, c, xs), hxs⟩, rfl, (same w s).res (List.Sublist.refl _) (by intro f hf; simp only [List.mem_cons] at hf; exact hf.elim (fun h => by rw [h]; rfl) (ownsOf_wr xs f))⟩
end Go.Proofs.YtjhocljhhpkiiaaGreatDoor
/- U25 -/
namespace Go.Proofs.YtjhocljhhpkiiaaGreatDoor
open Go.RowKit
theorem preLs_at (n : Nat) (key : B32) (ds : List B32) (pre : List UInt8) (d k : Nat) (h : k ≤ d) : (preLs n key ds pre (d + 1)).reverse[d - k]? = some (wayP n key ds pre k) := by
 rw [List.getElem?_reverse (by rw [preLs_len]; omega), preLs_len]
 unfold preLs
 rw [List.getElem?_map, List.getElem?_range (by omega), show d + 1 - 1 - (d - k) = k by omega]
 rfl
theorem rSteps_s (p : Proof) (hc : checkP p = 0) (ss : List B32) (hs : p.sibs.n = ss.length) (key : B32) (n : Nat) (hn : n ≤ 256) (d : Nat) (hd : p.depth = (d : Int)) : Spec Tryz.prog 87 [.int .i64 (n : Int), .agg p.cells.toArray, .agg key.cells.toArray].toArray [.rd p.sibs.A (dgs ss)] [] (fun u : Nat × Nat => .slice (some ⟨u.1, 0, none⟩) (d + 1) u.2) (fun u => [.own (.slice (some ⟨u.1, 0, none⟩) (d + 1) u.2) (d + 1) 42 32 (dgs (stepL n key (expL (sumB n preE) p.bitmap ss d) (endP p) (d + 1)))]) := by
 have hd2 := ok_depth hc
 have hP := rPre_s p hc ss hs key n hn d hd
 have hwl := wayP_len n key (expL (sumB n preE) p.bitmap ss d) (endP p) (endP_len p)
 generalize expL (sumB n preE) p.bitmap ss d = ds at *
 refine spec_of Tryz.func87 rfl (n := 31) rfl rfl ?_
 intro W
 refine yR ?_
 refine h_opX (x_box rfl) fun g4 => ?_
 refine h_opX (x_box rfl) fun g5 => ?_
 refine yS rfl ?_
 refine yN ?_
 refine yR ?_
 refine yM rfl ?_
 refine h_op (r_loadr rfl) ?_
 refine h_op (r_loadr rfl) ?_
 refine h_call (hP.comes) rfl rfl rfl fun ⟨⟨g13, c13, xs⟩, hxs⟩ => ?_
 dsimp only at hxs ⊢
 refine yS rfl ?_
 refine yN ?_
 refine yR ?_
 refine yS rfl ?_
 refine yN ?_
 refine h_seq ?_
 refine yR ?_
 refine yM rfl ?_
 refine h_op (r_len rfl) ?_
 refine h_op (r_sub rfl rfl) ?_
 refine yS rfl ?_
 refine yN ?_
 refine h_block ?_
 refine h_nil_own 42 32 (xs := dgs (stepL n key ds (endP p) 0)) rfl ?_
 have hxl : xs.length = d + 1 := by rw [hxs.len, List.length_reverse, preLs_len]
 refine h_loop (fun (s : Nat × Option Addr × Nat) => s.1 ≤ d + 1) (fun (s : Nat × Option Addr × Nat) => [(9, .int .i64 ((d : Int) - (s.1 : Int))), (8, .slice s.2.1 s.1 s.2.2), (7, .slice (some ⟨g13, 0, none⟩) (d + 1) c13), (0, .int .i64 (n : Int))]) (fun (s : Nat × Option Addr × Nat) => .own (.slice s.2.1 s.1 s.2.2) s.1 42 32 (dgs (stepL n key ds (endP p) s.1)) :: .own (.slice (some ⟨g13, 0, none⟩) (d + 1) c13) (d + 1) 23 1 (svs xs) :: ownsOf xs) (fun (s : Nat × Option Addr × Nat) => d + 1 - s.1) (0, none, 0) ((show 0 ≤ d + 1 by omega)) ⟨aI rfl (by dsimp only; omega), rfl, rfl, rfl, trivial⟩ (fun w s => (same w s)) ?_
 rintro ⟨k, B, c⟩ hk
 dsimp only at hk ⊢
 have hst := stepL_succ n key ds (endP p) k
 refine h_seq ?_
 refine yR ?_
 refine yM rfl ?_
 refine h_op (r_geq rfl rfl) ?_
 refine yN ?_
 refine h_cond rfl (fun h => ?_) (fun h => ?_)
 ·have hkd : k ≤ d := by omega
  obtain ⟨gx, cx, hx⟩ := hxs.at (preLs_at n key ds (endP p) d k hkd)
  have hlk := hwl k
  refine h_E (E' := [(9, .int .i64 ((d - k : Nat) : Int)), (8, .slice B k c), (7, .slice (some ⟨g13, 0, none⟩) (d + 1) c13), (0, .int .i64 (n : Int))]) ⟨aI rfl (by omega), rfl, rfl, rfl, trivial⟩ ?_
  refine h_skip ?_
  refine q_then ?_
  refine h_seq ?_
  refine h_block ?_
  refine h_reg ?_
  refine yM rfl ?_
  refine yM rfl ?_
  refine yM rfl ?_
  refine yM rfl ?_
  refine h_op (r_idx rfl rfl) ?_
  refine h_op (r_nth rfl (v := .slice (some ⟨gx, 0, none⟩) (wayP n key ds (endP p) k).length cx) (svs_get hx)) ?_
  refine h_call ((refSum5_s n hn (wayP n key ds (endP p) k) (some ⟨gx, 0, none⟩) cx (fun h => by cases h) (by omega)).comes (hr := rds_one (rd1_own (List.mem_cons_of_mem _ (List.mem_cons_of_mem _ (ownsOf_mem (List.mem_of_getElem? hx))))))) rfl rfl rfl fun _ => ?_
  refine h_opX (x_bsl rfl rfl) fun g28 => ?_
  refine h_opX (x_app rfl rfl (k := 32)) fun ⟨g29, c29⟩ => ?_
  refine yS rfl ?_
  refine h_nil ?_
  refine q_block ?_
  refine q_then ?_
  refine h_reg ?_
  refine yM rfl ?_
  refine h_op (r_sub rfl rfl) ?_
  refine yS rfl ?_
  refine h_nil ?_
  rw [hst]
  exact h_back (k + 1, some ⟨g29, 0, none⟩, c29) ((show k + 1 ≤ d + 1 by omega)) ((show d + 1 - (k + 1) < d + 1 - k by omega)) ⟨aI rfl (by dsimp only; omega), rfl, rfl, rfl, trivial⟩ (same)
 ·obtain rfl : k = d + 1 := by omega
  refine h_pure (φ := ∃ g, B = some ⟨g, 0, none⟩) (fun w s => s.ownSome (N := d + 1) (c := c) (by omega)) ?_
  rintro ⟨g, rfl⟩
  refine h_exit ?_
  refine q_thenE ?_
  refine q_thenE ?_
  refine q_blockE ?_
  refine q_then ?_
  refine yR ?_
  refine yM rfl ?_
  refine yS rfl ?_
  refine yN ?_
  refine h_ret ?_
  exact h_ret1 rfl rfl fun w s => ⟨(g, c), rfl, s.res ((List.nil_sublist _).cons_cons _) (by simp [Fa.wr])⟩
end Go.Proofs.YtjhocljhhpkiiaaGreatDoor
/- U98 -/
namespace Go.Proofs.YtjhocljhhpkiiaaGreatDoor
open Go.RowKit
def claimS (c : Claim) : Int := if c.key.n = 32 then (if c.present = true ∧ 65535 < c.value.n then 2 else 0) else 1
theorem rClaim18_s (c : Claim) : Spec Tryz.prog 30 [.agg c.cells.toArray].toArray [] [] (fun _ : Unit => .tuple #[.int .i64 (claimS c), .int .i64 (claimE c)]) (fun _ => []) := by
 obtain ⟨ks, vs, b⟩ := c
 refine spec_of Tryz.func30 rfl (n := 16) rfl rfl ?_
 intro W
 by_cases h1 : ks.n = 32
 ·refine h_seq ?_
  refine h_reg ?_
  refine h_opX (x_box rfl) fun g1 => ?_
  refine yS rfl ?_
  refine yS rfl ?_
  refine yN ?_
  refine h_seq ?_
  refine yR ?_
  refine h_op (r_field rfl) ?_
  refine h_op (r_loadc rfl) ?_
  refine h_op (r_len rfl) ?_
  refine h_op (r_bool (r_neq rfl rfl) (decide_eq_false (show ¬ ¬ (ks.n : Int) = 32 by omega))) ?_
  refine yN ?_
  refine h_condF rfl ?_
  cases b
  ·rw [show claimS ⟨ks, vs, false⟩ = 0 by unfold claimS; rw [if_pos h1, if_neg (by simp)], show claimE ⟨ks, vs, false⟩ = 0 by unfold claimE; rw [if_pos h1, if_neg (by simp)]]
   refine h_skip ?_
   refine q_then ?_
   refine h_seq ?_
   refine yR ?_
   refine h_op (r_field rfl) ?_
   refine h_op (r_loadc rfl) ?_
   refine yM rfl ?_
   refine h_opOff ?_
   refine h_opOff ?_
   refine h_opOff ?_
   refine h_opOff ?_
   refine h_op (r_pick rfl rfl) ?_
   refine yN ?_
   refine h_condF rfl ?_
   refine h_skip ?_
   refine q_then ?_
   refine yR ?_
   refine yS rfl ?_
   refine yS rfl ?_
   refine yN ?_
   refine h_ret ?_
   exact h_ret2 rfl rfl rfl fun w s => ⟨(), rfl, s.res (List.nil_sublist _) (by simp)⟩
  ·by_cases h2 : 65535 < vs.n
   ·rw [show claimS ⟨ks, vs, true⟩ = 2 by unfold claimS; rw [if_pos h1, if_pos ⟨rfl, h2⟩], show claimE ⟨ks, vs, true⟩ = 3 by unfold claimE; rw [if_pos h1, if_pos ⟨rfl, h2⟩]]
    refine h_skip ?_
    refine q_then ?_
    refine h_seq ?_
    refine yR ?_
    refine h_op (r_field rfl) ?_
    refine h_op (r_loadc rfl) ?_
    refine yM rfl ?_
    refine h_op (r_field rfl) ?_
    refine h_op (r_loadc rfl) ?_
    refine h_op (r_len rfl) ?_
    refine h_op (r_bool (r_gtr rfl rfl) (decide_eq_true (show (65535 : Int) < (vs.n : Int) by omega))) ?_
    refine h_op (r_pick rfl rfl) ?_
    refine yN ?_
    refine h_condT rfl ?_
    refine yR ?_
    refine yS rfl ?_
    refine yS rfl ?_
    refine yN ?_
    refine h_ret ?_
    refine q_thenR ?_
    exact h_ret2 rfl rfl rfl fun w s => ⟨(), rfl, s.res (List.nil_sublist _) (by simp)⟩
   ·rw [show claimS ⟨ks, vs, true⟩ = 0 by unfold claimS; rw [if_pos h1, if_neg (fun h => h2 h.2)], show claimE ⟨ks, vs, true⟩ = 0 by unfold claimE; rw [if_pos h1, if_neg (fun h => h2 h.2)]]
    refine h_skip ?_
    refine q_then ?_
    refine h_seq ?_
    refine yR ?_
    refine h_op (r_field rfl) ?_
    refine h_op (r_loadc rfl) ?_
    refine yM rfl ?_
    refine h_op (r_field rfl) ?_
    refine h_op (r_loadc rfl) ?_
    refine h_op (r_len rfl) ?_
    refine h_op (r_bool (r_gtr rfl rfl) (decide_eq_false (show ¬ (65535 : Int) < (vs.n : Int) by omega))) ?_
    refine h_op (r_pick rfl rfl) ?_
    refine yN ?_
    refine h_condF rfl ?_
    refine h_skip ?_
    refine q_then ?_
    refine yR ?_
    refine yS rfl ?_
    refine yS rfl ?_
    refine yN ?_
    refine h_ret ?_
    exact h_ret2 rfl rfl rfl fun w s => ⟨(), rfl, s.res (List.nil_sublist _) (by simp)⟩
 ·rw [show claimS ⟨ks, vs, b⟩ = 1 from if_neg h1, show claimE ⟨ks, vs, b⟩ = 2 from if_neg h1]
  refine yR ?_
  refine h_opX (x_box rfl) fun g1 => ?_
  refine yS rfl ?_
  refine yS rfl ?_
  refine yN ?_
  refine h_seq ?_
  refine yR ?_
  refine h_op (r_field rfl) ?_
  refine h_op (r_loadc rfl) ?_
  refine h_op (r_len rfl) ?_
  refine h_op (r_bool (r_neq rfl rfl) (decide_eq_true (show ¬ (ks.n : Int) = 32 by omega))) ?_
  refine yN ?_
  refine h_condT rfl ?_
  refine yR ?_
  refine yS rfl ?_
  refine yS rfl ?_
  refine yN ?_
  refine h_ret ?_
  refine q_thenR ?_
  exact h_ret2 rfl rfl rfl fun w s => ⟨(), rfl, s.res (List.nil_sublist _) (by simp)⟩
def lastSC (n : Nat) (root : B32) (c : Claim) (kb vb : List UInt8) (p : DP) : Int × Int :=
 if supP (p.pr none 0) (keyOf kb) (valD n c.present vb) c.present then (if rootP n p (keyOf kb) = root then (0, 0) else (5, 13)) else (4, 12)
section
variable (n : Nat) (hn : n ≤ 256) (h : Zh) (c : Claim) (kb vb : List UInt8) [hK : SlZ h c.key kb] [hV : SlZ h c.value vb] (hvl : vb.length ≤ 100000000)
include hn hvl
theorem rLast18_s (hkl : kb.length = 32) (root : B32) (p : DP) (A : Option Addr) (c' : Nat) (hck : checkP (p.pr none 0) = 0) [hS : RdZ h A (dgs p.ss)] : Spec Tryz.prog 32 [.int .i64 (n : Int), .agg root.cells.toArray, .agg c.cells.toArray, .agg (p.pr A c').cells.toArray].toArray [.zone false h] [] (fun _ : Unit => .tuple #[.int .i64 (lastSC n root c kb vb p).1, .int .i64 (lastSC n root c kb vb p).2]) (fun _ => []) := by
 have hkn := hK.len
 have hvn := hV.len
 have hKr : RdZ h c.key.A (bc kb) := hK.rd
 have hVr : RdZ h c.value.A (bc vb) := hV.rd
 have hVn := hV.nil
 have hdd : p.d ≤ 256 := by
  have h1 := ok_depth hck
  have h2 : (p.pr none 0).depth = (p.d : Int) := rfl
  omega
 have hSu := rSupports_s (p.pr A c') (keyOf kb) (valD n c.present vb) c.present
 rw [show supP (p.pr A c') (keyOf kb) (valD n c.present vb) c.present = supP (p.pr none 0) (keyOf kb) (valD n c.present vb) c.present from rfl] at hSu
 have hSt := rSteps_s (p.pr A c') hck p.ss rfl (keyOf kb) n hn p.d rfl
 change Spec _ _ _ [.rd A (dgs p.ss)] _ _ (fun u : Nat × Nat => [.own (.slice (some ⟨u.1, 0, none⟩) (p.d + 1) u.2) (p.d + 1) 42 32 (dgs (stepL n (keyOf kb) (expL (sumB n preE) p.bm p.ss p.d) (endP (p.pr none 0)) (p.d + 1)))]) at hSt
 have hla : (stepL n (keyOf kb) (expL (sumB n preE) p.bm p.ss p.d) (endP (p.pr none 0)) (p.d + 1)).getD p.d zB32 = rootP n p (keyOf kb) := by
  unfold stepL rootP
  simp [List.getD_eq_getElem?_getD]
 have hat := dgs_at (l := stepL n (keyOf kb) (expL (sumB n preE) p.bm p.ss p.d) (endP (p.pr none 0)) (p.d + 1)) (k := p.d) (by simp [stepL])
 rw [hla] at hat
 have hLf := rLeafOf_s n hn (keyOf kb) vb c.value.A c.value.c (fun e => by have := hVn e; omega) hvl
 unfold lastSC
 obtain ⟨⟨kA, kn, kc⟩, ⟨vA, vn, vc⟩, pr⟩ := c
 dsimp only at hkn hvn hKr hVr hVn hSu hLf ⊢
 subst hkn hvn
 obtain ⟨bs, hbs⟩ : ∃ bs, supP (p.pr none 0) (keyOf kb) (valD n pr vb) pr = bs := ⟨_, rfl⟩
 rw [hbs] at hSu ⊢
 generalize stepL n (keyOf kb) (expL (sumB n preE) p.bm p.ss p.d) (endP (p.pr none 0)) (p.d + 1) = sts at *
 cases pr
 ·refine spec_of Tryz.func32 rfl (n := 43) rfl rfl ?_
  intro W
  refine yR ?_
  refine h_opX (x_box rfl) fun g5 => ?_
  refine h_opX (x_box rfl) fun g6 => ?_
  refine h_opX (x_box rfl) fun g7 => ?_
  refine yS rfl ?_
  refine yS rfl ?_
  refine yN ?_
  refine yR ?_
  refine h_op (r_field rfl) ?_
  refine h_op (r_loadc rfl) ?_
  refine h_call ((rOf_s kb kA kc hkl).comes) rfl rfl rfl fun _ => ?_
  refine h_opX (x_alloc) fun g10 => ?_
  refine h_opS (s_storer rfl rfl) ?_
  refine yN ?_
  refine yR ?_
  refine h_opX (x_alloc) fun g11 => ?_
  refine yN ?_
  refine h_seq ?_
  refine yR ?_
  refine h_op (r_field rfl) ?_
  refine h_op (r_loadc rfl) ?_
  refine yN ?_
  refine h_condF rfl ?_
  refine h_skip ?_
  refine q_then ?_
  refine h_seq ?_
  refine yR ?_
  refine h_op (r_loadr rfl) ?_
  refine h_op (r_loadr rfl) ?_
  refine h_op (r_loadr rfl) ?_
  refine h_op (r_field rfl) ?_
  refine h_op (r_loadc rfl) ?_
  refine h_call (hSu.comes) rfl rfl rfl fun _ => ?_
  refine h_op (r_not rfl) ?_
  refine yN ?_
  cases bs
  ·refine h_condT rfl ?_
   refine yR ?_
   refine yS rfl ?_
   refine yS rfl ?_
   refine yN ?_
   refine h_ret ?_
   refine q_thenR ?_
   exact h_ret2 rfl rfl rfl fun w s => ⟨(), rfl, s.res (List.nil_sublist _) (by simp)⟩
  ·refine h_condF rfl ?_
   refine h_skip ?_
   refine q_then ?_
   refine yR ?_
   refine yM rfl ?_
   refine h_op (r_loadr rfl) ?_
   refine h_op (r_loadr rfl) ?_
   refine h_call (hSt.comes) rfl rfl rfl fun ⟨g34, c34⟩ => ?_
   refine yS rfl ?_
   refine yN ?_
   refine h_seq ?_
   refine h_seq ?_
   by_cases hr : rootP n p (keyOf kb) = root
   ·rw [if_pos hr]
    refine ha_start [.blk g5 root.cells 42, .own (.slice (some ⟨g34, 0, none⟩) (p.d + 1) c34) (p.d + 1) 42 32 (dgs sts)] [] mixed (same) ?_
    refine ha_takeP 0 rfl (r_move rfl) ?_
    refine ha_takeP 1 rfl (r_move rfl) ?_
    refine ha_takeP 2 rfl (r_len rfl) ?_
    refine ha_takeP 3 rfl (r_subN rfl rfl (m := p.d) (hm := by omega)) ?_
    refine ha_takeP 4 rfl (r_idx rfl rfl) ?_
    refine ha_take 5 rfl (r_nthr rfl (out := (rootP n p (keyOf kb)).cells) (B32.cells_length _) hat) ?_
    refine ha_take 6 rfl (r_loadr rfl) ?_
    refine ha_takeP 7 rfl (r_bool (r_ner rfl rfl) (decide_eq_false (fun h => h hr))) ?_
    refine ha_done (by kernel_rfl) ?_
    refine q_then ?_
    refine h_condF rfl ?_
    refine h_skip ?_
    refine q_then ?_
    refine yR ?_
    refine yS rfl ?_
    refine yS rfl ?_
    refine yN ?_
    refine h_ret ?_
    exact h_ret2 rfl rfl rfl fun w s => ⟨(), rfl, s.res (List.nil_sublist _) (by simp)⟩
   ·rw [if_neg hr]
    refine ha_start [.blk g5 root.cells 42, .own (.slice (some ⟨g34, 0, none⟩) (p.d + 1) c34) (p.d + 1) 42 32 (dgs sts)] [] mixed (same) ?_
    refine ha_takeP 0 rfl (r_move rfl) ?_
    refine ha_takeP 1 rfl (r_move rfl) ?_
    refine ha_takeP 2 rfl (r_len rfl) ?_
    refine ha_takeP 3 rfl (r_subN rfl rfl (m := p.d) (hm := by omega)) ?_
    refine ha_takeP 4 rfl (r_idx rfl rfl) ?_
    refine ha_take 5 rfl (r_nthr rfl (out := (rootP n p (keyOf kb)).cells) (B32.cells_length _) hat) ?_
    refine ha_take 6 rfl (r_loadr rfl) ?_
    refine ha_takeP 7 rfl (r_bool (r_ner rfl rfl) (decide_eq_true hr)) ?_
    refine ha_done (by kernel_rfl) ?_
    refine q_then ?_
    refine h_condT rfl ?_
    refine yR ?_
    refine yS rfl ?_
    refine yS rfl ?_
    refine yN ?_
    refine h_ret ?_
    refine q_thenR ?_
    exact h_ret2 rfl rfl rfl fun w s => ⟨(), rfl, s.res (List.nil_sublist _) (by simp)⟩
 ·refine spec_of Tryz.func32 rfl (n := 43) rfl rfl ?_
  intro W
  refine yR ?_
  refine h_opX (x_box rfl) fun g5 => ?_
  refine h_opX (x_box rfl) fun g6 => ?_
  refine h_opX (x_box rfl) fun g7 => ?_
  refine yS rfl ?_
  refine yS rfl ?_
  refine yN ?_
  refine yR ?_
  refine h_op (r_field rfl) ?_
  refine h_op (r_loadc rfl) ?_
  refine h_call ((rOf_s kb kA kc hkl).comes) rfl rfl rfl fun _ => ?_
  refine h_opX (x_alloc) fun g10 => ?_
  refine h_opS (s_storer rfl rfl) ?_
  refine yN ?_
  refine yR ?_
  refine h_opX (x_alloc) fun g11 => ?_
  refine yN ?_
  refine h_seq ?_
  refine yR ?_
  refine h_op (r_field rfl) ?_
  refine h_op (r_loadc rfl) ?_
  refine yN ?_
  refine h_condT rfl ?_
  refine h_reg ?_
  refine yM rfl ?_
  refine h_op (r_loadr rfl) ?_
  refine h_op (r_field rfl) ?_
  refine h_op (r_loadc rfl) ?_
  refine h_call (hLf.comes) rfl rfl rfl fun _ => ?_
  refine h_op (r_fldr rfl) ?_
  refine h_opS (s_storer rfl rfl) ?_
  refine yN ?_
  refine h_seq ?_
  refine yR ?_
  refine h_op (r_loadr rfl) ?_
  refine h_op (r_loadr rfl) ?_
  refine h_op (r_loadr rfl) ?_
  refine h_op (r_field rfl) ?_
  refine h_op (r_loadc rfl) ?_
  change H _ _ _ _ _ (.blk g11 (valD n true vb).cells _ :: _) _
  refine h_call (hSu.comes) rfl rfl rfl fun _ => ?_
  refine h_op (r_not rfl) ?_
  refine yN ?_
  cases bs
  ·refine h_condT rfl ?_
   refine yR ?_
   refine yS rfl ?_
   refine yS rfl ?_
   refine yN ?_
   refine h_ret ?_
   refine q_thenR ?_
   exact h_ret2 rfl rfl rfl fun w s => ⟨(), rfl, s.res (List.nil_sublist _) (by simp)⟩
  ·refine h_condF rfl ?_
   refine h_skip ?_
   refine q_then ?_
   refine yR ?_
   refine yM rfl ?_
   refine h_op (r_loadr rfl) ?_
   refine h_op (r_loadr rfl) ?_
   refine h_call (hSt.comes) rfl rfl rfl fun ⟨g34, c34⟩ => ?_
   refine yS rfl ?_
   refine yN ?_
   refine h_seq ?_
   refine h_seq ?_
   by_cases hr : rootP n p (keyOf kb) = root
   ·rw [if_pos hr]
    refine ha_start [.blk g5 root.cells 42, .own (.slice (some ⟨g34, 0, none⟩) (p.d + 1) c34) (p.d + 1) 42 32 (dgs sts)] [] mixed (same) ?_
    refine ha_takeP 0 rfl (r_move rfl) ?_
    refine ha_takeP 1 rfl (r_move rfl) ?_
    refine ha_takeP 2 rfl (r_len rfl) ?_
    refine ha_takeP 3 rfl (r_subN rfl rfl (m := p.d) (hm := by omega)) ?_
    refine ha_takeP 4 rfl (r_idx rfl rfl) ?_
    refine ha_take 5 rfl (r_nthr rfl (out := (rootP n p (keyOf kb)).cells) (B32.cells_length _) hat) ?_
    refine ha_take 6 rfl (r_loadr rfl) ?_
    refine ha_takeP 7 rfl (r_bool (r_ner rfl rfl) (decide_eq_false (fun h => h hr))) ?_
    refine ha_done (by kernel_rfl) ?_
    refine q_then ?_
    refine h_condF rfl ?_
    refine h_skip ?_
    refine q_then ?_
    refine yR ?_
    refine yS rfl ?_
    refine yS rfl ?_
    refine yN ?_
    refine h_ret ?_
    exact h_ret2 rfl rfl rfl fun w s => ⟨(), rfl, s.res (List.nil_sublist _) (by simp)⟩
   ·rw [if_neg hr]
    refine ha_start [.blk g5 root.cells 42, .own (.slice (some ⟨g34, 0, none⟩) (p.d + 1) c34) (p.d + 1) 42 32 (dgs sts)] [] mixed (same) ?_
    refine ha_takeP 0 rfl (r_move rfl) ?_
    refine ha_takeP 1 rfl (r_move rfl) ?_
    refine ha_takeP 2 rfl (r_len rfl) ?_
    refine ha_takeP 3 rfl (r_subN rfl rfl (m := p.d) (hm := by omega)) ?_
    refine ha_takeP 4 rfl (r_idx rfl rfl) ?_
    refine ha_take 5 rfl (r_nthr rfl (out := (rootP n p (keyOf kb)).cells) (B32.cells_length _) hat) ?_
    refine ha_take 6 rfl (r_loadr rfl) ?_
    refine ha_takeP 7 rfl (r_bool (r_ner rfl rfl) (decide_eq_true hr)) ?_
    refine ha_done (by kernel_rfl) ?_
    refine q_then ?_
    refine h_condT rfl ?_
    refine yR ?_
    refine yS rfl ?_
    refine yS rfl ?_
    refine yN ?_
    refine h_ret ?_
    refine q_thenR ?_
    exact h_ret2 rfl rfl rfl fun w s => ⟨(), rfl, s.res (List.nil_sublist _) (by simp)⟩
end
end Go.Proofs.YtjhocljhhpkiiaaGreatDoor
/- U69 -/
namespace Go.Proofs.YtjhocljhhpkiiaaGreatDoor
open Go.RowKit
instance iU69_1 : TCmp Tryz.prog 209 := ⟨fun args w => run_callFunc_extern Tryz.func209 (by kernel_rfl) (by kernel_rfl) (by kernel_rfl) (by kernel_rfl) args w⟩
theorem compare_eq : ∀ (a b : List UInt8), a.length = b.length → Lib.compareBytes a b = cmpL a b
 | [], [], _ => rfl
 | [], _ :: _, h => by cases h
 | _ :: _, [], h => by cases h
 | x :: a, y :: b, h => by
  unfold Lib.compareBytes cmpL
  rw [compare_eq a b (by simpa using h)]
theorem bCompare_s (a b : List UInt8) (hab : a.length = b.length) (A B : Option Addr) (c c' : Nat) : Spec Tryz.prog 164 [.slice A a.length c, .slice B b.length c'].toArray [.rd A (bc a), .rd B (bc b)] [] (fun _ : Unit => .int .i64 (cmpL a b)) (fun _ => []) := by
 rw [← compare_eq a b hab]
 refine spec_of Tryz.func164 rfl (n := 8) rfl rfl ?_
 intro W
 refine yR ?_
 refine yS rfl ?_
 refine yN ?_
 refine yR ?_
 refine yM rfl ?_
 refine yM rfl ?_
 refine h_op (r_cmp rfl rfl) ?_
 refine yS rfl ?_
 refine yN ?_
 refine h_ret ?_
 exact h_ret1 rfl rfl fun w s => ⟨(), rfl, s.res (List.nil_sublist _) (by simp)⟩
theorem kCompare_s (a b : B32) : Spec Tryz.prog 111 [.agg a.cells.toArray, .agg b.cells.toArray].toArray [] [] (fun _ : Unit => .int .i64 (cmpB a b)) (fun _ => []) := by
 have ha := a.2
 have hb := b.2
 have hC := fun A B => bCompare_s a.1 b.1 (by omega) A B 32 32
 rw [ha, hb] at hC
 refine spec_of Tryz.func111 rfl (n := 8) rfl rfl ?_
 intro W
 refine yR ?_
 refine h_opX (x_box rfl) fun g2 => ?_
 refine h_opX (x_box rfl) fun g3 => ?_
 refine yS rfl ?_
 refine yN ?_
 refine h_seq ?_
 refine ha_start [.blk g2 a.cells 35, .blk g3 b.cells 35] [] mixed (same) ?_
 refine ha_takeP 0 rfl (r_slA rfl) ?_
 refine ha_takeP 1 rfl (r_slA rfl) ?_
 refine ha_one 2 ?_
 refine ho_C 2 rfl ((hC (some ⟨g2, 0, none⟩) (some ⟨g3, 0, none⟩)).comes (hr := inferInstanceAs (Rds _ [.rd (some ⟨g2, 0, none⟩) a.cells, .rd (some ⟨g3, 0, none⟩) b.cells]))) rfl rfl rfl (fun xx => same) fun _ => ?_
 refine ha_takeP 3 rfl (r_assign rfl) ?_
 refine ha_done (by kernel_rfl) ?_
 refine q_then ?_
 refine h_ret ?_
 exact h_ret1 rfl rfl fun w s => ⟨(), rfl, s.res (List.nil_sublist _) (by simp)⟩
def chkK : List B32 → Int
 | a :: b :: l => if cmpB a b = 0 then 9 else if 0 < cmpB a b then 8 else chkK (b :: l)
 | _ => 0
def keysE (l : List B32) : Int := if l.length = 0 then 10 else if 65535 < l.length then 11 else chkK l
theorem kCheck_s (l : List B32) (A : Option Addr) (c : Nat) (hl : l.length ≤ 1000000000) : Spec Tryz.prog 165 [.slice A l.length c].toArray [.rd A (dgs l)] [] (fun _ : Unit => .int .i64 (chkK l)) (fun _ => []) := by
 refine spec_of Tryz.func165 rfl (n := 27) rfl rfl ?_
 intro W
 refine yR ?_
 refine yS rfl ?_
 refine yN ?_
 refine h_seq ?_
 refine yR ?_
 refine yS rfl ?_
 refine yN ?_
 refine h_block ?_
 refine h_loop (fun (k : Nat) => 1 ≤ k ∧ (k = 1 ∨ k ≤ l.length) ∧ chkK l = chkK (l.drop (k - 1))) (fun (k : Nat) => [(3, .int .i64 (k : Int)), (0, .slice A l.length c)]) (fun (k : Nat) => [.rd A (dgs l)]) (fun (k : Nat) => l.length - k) 1 (⟨Nat.le_refl _, .inl rfl, rfl⟩) ⟨rfl, rfl, trivial⟩ (same) ?_
 rintro k ⟨hk1, hk2, he⟩
 refine h_seq ?_
 refine yR ?_
 refine yM rfl ?_
 refine yM rfl ?_
 refine h_op (r_len rfl) ?_
 refine h_op (r_lss rfl rfl) ?_
 refine yN ?_
 refine h_cond rfl (fun hlt => ?_) (fun hlt => ?_)
 ·obtain ⟨j, rfl⟩ : ∃ j, k = j + 1 := ⟨k - 1, by omega⟩
  have hj : j + 1 < l.length := by omega
  have hd : l.drop j = l.getD j zB32 :: l.drop (j + 1) := by rw [List.drop_eq_getElem_cons (by omega), List.getD_eq_getElem?_getD, List.getElem?_eq_getElem (by omega)]; rfl
  have hd2 : l.drop (j + 1) = l.getD (j + 1) zB32 :: l.drop (j + 1 + 1) := by rw [List.drop_eq_getElem_cons hj, List.getD_eq_getElem?_getD, List.getElem?_eq_getElem hj]; rfl
  rw [Nat.add_sub_cancel, hd, hd2, chkK, ← hd2] at he
  refine h_pure (φ := ∃ b o, A = some ⟨b, o, none⟩) (fun w s => Rd.some (s.ok (.rd A (dgs l)) (by simp)) (by rw [dgs_len]; omega)) ?_
  rintro ⟨b, o, rfl⟩
  have h1 := dgs_at (l := l) (k := j) (by omega)
  have h2 := dgs_at (l := l) (k := j + 1) hj
  refine h_skip ?_
  refine q_then ?_
  refine h_seq ?_
  refine h_block ?_
  refine h_seq ?_
  refine ha_start [.rd (some ⟨b, o, none⟩) (dgs l)] [] mixed (same) ?_
  refine ha_takeP 0 rfl (r_move rfl) ?_
  refine ha_takeP 1 rfl (r_move rfl) ?_
  refine ha_takeP 2 rfl (r_subN rfl rfl (m := j) (hm := by omega)) ?_
  refine ha_takeP 3 rfl (r_idx rfl rfl) ?_
  refine ha_take 4 rfl (r_nthr rfl (out := (l.getD j zB32).cells) (B32.cells_length _) h1) ?_
  refine ha_takeP 5 rfl (r_move rfl) ?_
  refine ha_takeP 6 rfl (r_move rfl) ?_
  refine ha_takeP 7 rfl (r_idx rfl rfl) ?_
  refine ha_take 8 rfl (r_nthr rfl (out := (l.getD (j + 1) zB32).cells) (B32.cells_length _) h2) ?_
  refine ha_one 9 ?_
  refine ho_C 9 rfl ((kCompare_s (l.getD j zB32) (l.getD (j + 1) zB32)).comes) rfl rfl rfl (fun xx => same) fun _ => ?_
  refine ha_takeP 10 rfl (r_assign rfl) ?_
  refine ha_done (by kernel_rfl) ?_
  refine q_then ?_
  refine h_block ?_
  refine yR ?_
  refine yM rfl ?_
  refine h_op (r_eql rfl rfl) ?_
  refine yS rfl ?_
  refine yN ?_
  refine h_cond rfl (fun h3 => ?_) (fun h3 => ?_)
  ·rw [if_pos h3] at he
   rw [he]
   refine yR ?_
   refine yS rfl ?_
   refine yN ?_
   refine h_ret ?_
   refine q_blockR ?_
   refine q_blockR ?_
   refine q_thenR ?_
   refine q_thenR ?_
   refine q_blockR ?_
   refine q_thenR ?_
   exact h_ret1 rfl rfl fun w s => ⟨(), rfl, s.res (List.nil_sublist _) (by simp)⟩
  ·rw [if_neg h3] at he
   refine yR ?_
   refine yM rfl ?_
   refine h_op (r_gtr rfl rfl) ?_
   refine yS rfl ?_
   refine yN ?_
   refine h_cond rfl (fun h4 => ?_) (fun h4 => ?_)
   ·rw [if_pos h4] at he
    rw [he]
    refine yR ?_
    refine yS rfl ?_
    refine yN ?_
    refine h_ret ?_
    refine q_blockR ?_
    refine q_blockR ?_
    refine q_thenR ?_
    refine q_thenR ?_
    refine q_blockR ?_
    refine q_thenR ?_
    exact h_ret1 rfl rfl fun w s => ⟨(), rfl, s.res (List.nil_sublist _) (by simp)⟩
   ·rw [if_neg h4] at he
    refine h_skip ?_
    refine q_block ?_
    refine q_block ?_
    refine q_then ?_
    refine h_reg ?_
    refine yM rfl ?_
    refine h_op (r_add rfl rfl) ?_
    refine yS rfl ?_
    refine h_nil ?_
    exact h_back (j + 1 + 1) (⟨by omega, .inr (by omega), he⟩) (by omega) ⟨rfl, rfl, trivial⟩ (same)
 ·have h0 : chkK l = 0 := by
   rw [he]
   have hlen : (l.drop (k - 1)).length ≤ 1 := by rw [List.length_drop]; omega
   match l.drop (k - 1), hlen with
   | [], _ => rfl
   | [_], _ => rfl
   | _ :: _ :: _, h => simp at h
  rw [h0]
  refine h_exit ?_
  refine q_thenE ?_
  refine q_thenE ?_
  refine q_blockE ?_
  refine q_then ?_
  refine yR ?_
  refine yS rfl ?_
  refine yN ?_
  refine h_ret ?_
  exact h_ret1 rfl rfl fun w s => ⟨(), rfl, s.res (List.nil_sublist _) (by simp)⟩
theorem mKeys_s (l : List B32) (A : Option Addr) (c : Nat) (hl : l.length ≤ 9223372036854775807) : Spec Tryz.prog 113 [.slice A l.length c].toArray [.rd A (dgs l)] [] (fun _ : Unit => .int .i64 (keysE l)) (fun _ => []) := by
 unfold keysE
 refine spec_of Tryz.func113 rfl (n := 13) rfl rfl ?_
 intro W
 by_cases h0 : l.length = 0
 ·rw [if_pos h0]
  refine yR ?_
  refine yS rfl ?_
  refine yN ?_
  refine h_seq ?_
  refine h_block ?_
  refine yR ?_
  refine yM rfl ?_
  refine h_op (r_len rfl) ?_
  refine h_op (r_bool (r_eql rfl rfl) (decide_eq_true (by omega))) ?_
  refine yS rfl ?_
  refine yN ?_
  refine h_condT rfl ?_
  refine yR ?_
  refine yS rfl ?_
  refine yN ?_
  refine h_ret ?_
  refine q_blockR ?_
  refine q_thenR ?_
  exact h_ret1 rfl rfl fun w s => ⟨(), rfl, s.res (List.nil_sublist _) (by simp)⟩
 ·rw [if_neg h0]
  refine yR ?_
  refine yS rfl ?_
  refine yN ?_
  refine h_seq ?_
  refine h_block ?_
  refine yR ?_
  refine yM rfl ?_
  refine h_op (r_len rfl) ?_
  refine h_op (r_bool (r_eql rfl rfl) (decide_eq_false (by omega))) ?_
  refine yS rfl ?_
  refine yN ?_
  refine h_condF rfl ?_
  by_cases h1 : 65535 < l.length
  ·rw [if_pos h1]
   refine yR ?_
   refine yM rfl ?_
   refine h_op (r_len rfl) ?_
   refine h_op (r_bool (r_gtr rfl rfl) (decide_eq_true (by omega))) ?_
   refine yS rfl ?_
   refine yN ?_
   refine h_condT rfl ?_
   refine yR ?_
   refine yS rfl ?_
   refine yN ?_
   refine h_ret ?_
   refine q_blockR ?_
   refine q_thenR ?_
   exact h_ret1 rfl rfl fun w s => ⟨(), rfl, s.res (List.nil_sublist _) (by simp)⟩
  ·rw [if_neg h1]
   refine yR ?_
   refine yM rfl ?_
   refine h_op (r_len rfl) ?_
   refine h_op (r_bool (r_gtr rfl rfl) (decide_eq_false (by omega))) ?_
   refine yS rfl ?_
   refine yN ?_
   refine h_condF rfl ?_
   refine h_skip ?_
   refine q_block ?_
   refine q_then ?_
   refine yR ?_
   refine yM rfl ?_
   refine h_call ((kCheck_s l A c (by omega)).comes) rfl rfl rfl fun _ => ?_
   refine yS rfl ?_
   refine yN ?_
   refine h_ret ?_
   exact h_ret1 rfl rfl fun w s => ⟨(), rfl, s.res (List.nil_sublist _) (by simp)⟩
end Go.Proofs.YtjhocljhhpkiiaaGreatDoor
/- E29 -/
namespace Go.Proofs.YtjhocljhhpkiiaaGreatDoor
open Go.RowKit
structure CB where
 c : Claim
 kb : List UInt8
 vb : List UInt8
def zCB : CB := ⟨zClaim, [], []⟩
def CB.cells (x : CB) : List Value := x.c.cells
def cbs (l : List CB) : List Value := l.flatMap CB.cells
theorem cbs_at {l : List CB} {k : Nat} {x : CB} (h : l[k]? = some x) : ∀ j v, x.c.cells[j]? = some v → (cbs l)[k * 3 + j]? = some v := by
 induction l generalizing k with
 | nil => simp at h
 | cons y l ih =>
  intro j v hv
  show (y.c.cells ++ cbs l)[k * 3 + j]? = some v
  cases k with
  | zero =>
   obtain rfl : y = x := by simpa using h
   rw [Nat.zero_mul, Nat.zero_add, List.getElem?_append_left (List.getElem?_eq_some_iff.1 hv).1]
   exact hv
  | succ k =>
   rw [List.getElem?_append_right (by rw [Claim.cells_length]; omega), Claim.cells_length, show (k + 1) * 3 + j - 3 = k * 3 + j by omega]
   exact ih (by simpa using h) j v hv
def ClsZ (h : Zh) (l : List CB) : Prop := ∀ x ∈ l, SlZ h x.c.key x.kb ∧ SlZ h x.c.value x.vb
theorem ClsZ.mono {h h' : Zh} (hl : LeZ h h') {l : List CB} (hc : ClsZ h l) : ClsZ h' l := fun x hx => ⟨(hc x hx).1.mono hl, (hc x hx).2.mono hl⟩
theorem ClsZ.get {h : Zh} {l : List CB} (hc : ClsZ h l) {k : Nat} (hk : k < l.length) : SlZ h (l.getD k zCB).c.key (l.getD k zCB).kb ∧ SlZ h (l.getD k zCB).c.value (l.getD k zCB).vb := by
 rw [List.getD_eq_getElem?_getD, List.getElem?_eq_getElem hk]
 exact hc _ (List.getElem_mem hk)
theorem getD_get {α : Type} {l : List α} {k : Nat} (z : α) (hk : k < l.length) : l[k]? = some (l.getD k z) := by
 rw [List.getD_eq_getElem?_getD, List.getElem?_eq_getElem hk]; rfl
def keysC (l : List CB) : List B32 := l.map fun x => keyOf x.kb
theorem keysC_len (l : List CB) : (keysC l).length = l.length := by unfold keysC; rw [List.length_map]
def neighE (ks : List B32) (i : Nat) : Int := if i = 0 then 0 else if cmpB (ks.getD (i - 1) zB32) (ks.getD i zB32) < 0 then 0 else if ks.getD (i - 1) zB32 = ks.getD i zB32 then 9 else 8
def claimsR (l : List CB) : Option (Nat × Int) :=
 if l.length = 0 then some (0, 10) else if 65535 < l.length then some (0, 11) else
 match firstF (fun i => claimE (l.getD i zCB).c) l.length 0 with
 | some r => some r
 | none => firstF (neighE (keysC l)) l.length 0
theorem firstF_zero (code : Nat → Int) : ∀ m i, firstF code m i = none → ∀ j, i ≤ j → j < i + m → code j = 0
 | 0, _, _, _, _, _ => by omega
 | m + 1, i, h, j, h1, h2 => by
  unfold firstF at h
  split at h
  ·rename_i h0
   by_cases e : j = i
   ·rw [e]; exact h0
   ·exact firstF_zero code m (i + 1) h j (by omega) (by omega)
  ·cases h
theorem chkK_ok : ∀ l : List B32, (∀ i, i < l.length → neighE l i = 0) → chkK l = 0
 | [], _ => rfl
 | [_], _ => rfl
 | a :: b :: l, h => by
  have h1 := h 1 (by simp)
  have h2 : neighE (a :: b :: l) 1 = if cmpB a b < 0 then 0 else if a = b then 9 else 8 := rfl
  rw [h2] at h1
  have hlt : cmpB a b < 0 := by
   by_cases hc : cmpB a b < 0
   ·exact hc
   ·rw [if_neg hc] at h1
    split at h1 <;> cases h1
  unfold chkK
  rw [if_neg (by omega), if_neg (by omega)]
  refine chkK_ok (b :: l) fun i hi => ?_
  by_cases h0 : i = 0
  ·unfold neighE; rw [if_pos h0]
  ·have h3 := h (i + 1) (by simp at hi ⊢; omega)
   unfold neighE at h3 ⊢
   rw [if_neg (by omega)] at h3
   rw [if_neg h0]
   obtain ⟨j, rfl⟩ : ∃ j, i = j + 1 := ⟨i - 1, by omega⟩
   simpa using h3
theorem claimsR_ok {l : List CB} (h : claimsR l = none) : keysE (keysC l) = 0 ∧ ∀ i, i < l.length → claimE (l.getD i zCB).c = 0 := by
 unfold claimsR at h
 split at h
 ·cases h
 ·split at h
  ·cases h
  ·rename_i h1 h2
   split at h
   ·cases h
   ·rename_i h3
    refine ⟨?_, fun i hi => firstF_zero _ _ _ h3 i (Nat.zero_le _) (by omega)⟩
    unfold keysE
    rw [keysC_len, if_neg h1, if_neg h2]
    exact chkK_ok _ fun i hi => firstF_zero _ _ _ h i (Nat.zero_le _) (by rw [keysC_len] at hi; omega)
end Go.Proofs.YtjhocljhhpkiiaaGreatDoor
/- TM -/
namespace Go.Proofs.YtjhocljhhpkiiaaGreatDoor
open Go.RowKit Go.ChangeShapes Go.WideShapes
section
variable {H : Type} {enc : TypeId × Value → H} {w : World} {base : Nat} {spare : Nat → Bool} {held : Bool} {v : Value} {d : DataW H} {ps : List MemPlace} {r : Reach} {b0 : Nat}
set_option maxRecDepth 100000 in
theorem dec_CB {fuel : Nat} {cs : List Value} {x : DataW H × List MemPlace} (h : DataW.trod enc Tryz.prog w base spare held fuel 25 cs = some x) : ∃ y : CB, cs = y.cells ∧ (SlZ (World.zh w) y.c.key y.kb ∧ SlZ (World.zh w) y.c.value y.vb) := by
 obtain ⟨f1, f2, f3, hT, t1, t2, t3, o1, o2, o3⟩ := claimFields'
 obtain ⟨xs, n, -, -, hl, hxl, hx⟩ := DataW.trod_struct hT h
 rw [c_Claim] at hl
 have hxl' : xs.length = 3 := hxl
 have k1 := hx 0 f1 rfl
 have k2 := hx 1 f2 rfl
 have k3 := hx 2 f3 rfl
 rw [List.getElem?_eq_getElem (by omega)] at k1 k2 k3
 rw [o1, t1, c_bytes, List.drop_zero] at k1
 rw [o2, t2, c_bytes] at k2
 rw [o3, t3, c_bool] at k3
 obtain ⟨s1, l1, e1, z1⟩ := dec_bytes k1
 obtain ⟨s2, l2, e2, z2⟩ := dec_bytes k2
 obtain ⟨b, e3, -⟩ := DataW.trod_bool Tryz.underlying4 k3
 refine ⟨⟨⟨s1, s2, b⟩, l1, l2⟩, ?_, z1, z2⟩
 have r1 : cs = cs.take 1 ++ ((cs.drop 1).take 1 ++ (cs.drop 2).take 1) := by
  rw [List.take_of_length_le (l := cs.drop 2) (by simp; omega)]
  rw [show cs.drop 2 = (cs.drop 1).drop 1 by rw [List.drop_drop], List.take_append_drop, List.take_append_drop]
 rw [r1, e1, e2, e3]
 rfl
theorem dec_items {fuel : Nat} {cs : List Value} {x : DataW H × List MemPlace} (h : DataW.trod enc Tryz.prog w base spare held fuel 68 cs = some x) : ∃ (l : List Item) (A : Option Addr) (c : Nat), cs = [.slice A l.length c] ∧ l.length ≤ c ∧ RdZ (World.zh w) A (its l) := by
 obtain ⟨l, A, c, e2, hlc, -, -, hr, -⟩ := open_rows_t (f := fun y : Item => y.cells) Item.cells_length (by omega) Tryz.underlying68 c_Item (fun _ => True) (fun fuel cs x h => dec_It h) h
 exact ⟨l, A, c, e2, hlc, RdZ.of hr⟩
theorem c_itemsSl : Tryz.prog.cellsOf 68 = 1 := by kernel_rfl
end
end Go.Proofs.YtjhocljhhpkiiaaGreatDoor
/- U99 -/
namespace Go.Proofs.YtjhocljhhpkiiaaGreatDoor
open Go.RowKit
theorem Short_s (c : Claim) : Spec Tryz.prog 16 [.agg c.cells.toArray].toArray [] [] (fun _ : Unit => .int .i64 (if c.key.n ≤ 100 ∧ c.value.n ≤ 70000 then 1 else 0)) (fun _ => []) := by
 obtain ⟨ks, vs, b⟩ := c
 refine spec_of Tryz.func16 rfl (n := 13) rfl rfl ?_
 intro W
 by_cases h1 : ks.n ≤ 100
 ·by_cases h2 : vs.n ≤ 70000
  ·rw [if_pos ⟨h1, h2⟩]
   refine yR ?_
   refine h_opX (x_box rfl) fun g1 => ?_
   refine yS rfl ?_
   refine yN ?_
   refine h_seq ?_
   refine yR ?_
   refine h_op (r_field rfl) ?_
   refine h_op (r_loadc rfl) ?_
   refine h_op (r_len rfl) ?_
   refine h_op (r_bool (r_gtr rfl rfl) (decide_eq_false (show ¬ (100 : Int) < (ks.n : Int) by omega))) ?_
   refine yM rfl ?_
   refine h_op (r_field rfl) ?_
   refine h_op (r_loadc rfl) ?_
   refine h_op (r_len rfl) ?_
   refine h_op (r_bool (r_gtr rfl rfl) (decide_eq_false (show ¬ (70000 : Int) < (vs.n : Int) by omega))) ?_
   refine h_op (r_pick rfl rfl) ?_
   refine yN ?_
   refine h_condF rfl ?_
   refine h_skip ?_
   refine q_then ?_
   refine yR ?_
   refine yS rfl ?_
   refine yN ?_
   refine h_ret ?_
   exact h_ret1 rfl rfl fun w s => ⟨(), rfl, s.res (List.nil_sublist _) (by simp)⟩
  ·rw [if_neg (fun h => h2 h.2)]
   refine yR ?_
   refine h_opX (x_box rfl) fun g1 => ?_
   refine yS rfl ?_
   refine yN ?_
   refine h_seq ?_
   refine yR ?_
   refine h_op (r_field rfl) ?_
   refine h_op (r_loadc rfl) ?_
   refine h_op (r_len rfl) ?_
   refine h_op (r_bool (r_gtr rfl rfl) (decide_eq_false (show ¬ (100 : Int) < (ks.n : Int) by omega))) ?_
   refine yM rfl ?_
   refine h_op (r_field rfl) ?_
   refine h_op (r_loadc rfl) ?_
   refine h_op (r_len rfl) ?_
   refine h_op (r_bool (r_gtr rfl rfl) (decide_eq_true (show (70000 : Int) < (vs.n : Int) by omega))) ?_
   refine h_op (r_pick rfl rfl) ?_
   refine yN ?_
   refine h_condT rfl ?_
   refine yR ?_
   refine yS rfl ?_
   refine yN ?_
   refine h_ret ?_
   refine q_thenR ?_
   exact h_ret1 rfl rfl fun w s => ⟨(), rfl, s.res (List.nil_sublist _) (by simp)⟩
 ·rw [if_neg (fun h => h1 h.1)]
  refine yR ?_
  refine h_opX (x_box rfl) fun g1 => ?_
  refine yS rfl ?_
  refine yN ?_
  refine h_seq ?_
  refine yR ?_
  refine h_op (r_field rfl) ?_
  refine h_op (r_loadc rfl) ?_
  refine h_op (r_len rfl) ?_
  refine h_op (r_bool (r_gtr rfl rfl) (decide_eq_true (show (100 : Int) < (ks.n : Int) by omega))) ?_
  refine yM rfl ?_
  refine h_opOff ?_
  refine h_opOff ?_
  refine h_opOff ?_
  refine h_opOff ?_
  refine h_op (r_pick rfl rfl) ?_
  refine yN ?_
  refine h_condT rfl ?_
  refine yR ?_
  refine yS rfl ?_
  refine yN ?_
  refine h_ret ?_
  refine q_thenR ?_
  exact h_ret1 rfl rfl fun w s => ⟨(), rfl, s.res (List.nil_sublist _) (by simp)⟩
end Go.Proofs.YtjhocljhhpkiiaaGreatDoor
/- E24 -/
namespace Go.Proofs.YtjhocljhhpkiiaaGreatDoor
open Go.RowKit
abbrev p18 : DP := ⟨0, 0, zLeaf, zB32, []⟩
abbrev kb18 : List UInt8 := List.replicate 32 0
theorem check18 : checkP (p18.pr none 0) = 0 := by kernel_rfl
theorem keyOf_val (x : B32) : keyOf x.1 = x := by unfold keyOf; rw [dif_pos x.2]
end Go.Proofs.YtjhocljhhpkiiaaGreatDoor
/- U46 -/
namespace Go.Proofs.YtjhocljhhpkiiaaGreatDoor
open Go.RowKit
def kB (x : UInt8) : B32 := ⟨x :: List.replicate 31 0, rfl⟩
theorem slz_nil (h : Zh) : SlZ h ⟨none, 0, 0⟩ [] := ⟨rfl, Nat.le_refl _, fun _ => ⟨rfl, rfl⟩, RdZ.nil _ _⟩
theorem z7 : prfK 256 (kB 7) .nil 0 none 0 = zProof := by
 unfold prfK
 show (⟨0, 0, zLeaf, dset [], ⟨none, 0, 0⟩⟩ : Proof) = zProof
 rw [dset_nil]; rfl
end Go.Proofs.YtjhocljhhpkiiaaGreatDoor
/- U100 -/
namespace Go.Proofs.YtjhocljhhpkiiaaGreatDoor
open Go.RowKit
end Go.Proofs.YtjhocljhhpkiiaaGreatDoor
/- U10c -/
namespace Go.Proofs.YtjhocljhhpkiiaaGreatDoor
open Go.RowKit
end Go.Proofs.YtjhocljhhpkiiaaGreatDoor
/- U101 -/
namespace Go.Proofs.YtjhocljhhpkiiaaGreatDoor
open Go.RowKit
end Go.Proofs.YtjhocljhhpkiiaaGreatDoor
/- U102 -/
namespace Go.Proofs.YtjhocljhhpkiiaaGreatDoor
open Go.RowKit
structure RtP where
 root : B32
 p : Proof
def RtP.cells (x : RtP) : List Value := x.root.cells ++ (x.p.cells ++ [])
end Go.Proofs.YtjhocljhhpkiiaaGreatDoor
/- TR -/
namespace Go.Proofs.YtjhocljhhpkiiaaGreatDoor
open Go.RowKit Go.ChangeShapes Go.WideShapes
section
variable {H : Type} {enc : TypeId × Value → H} {w : World} {base : Nat} {spare : Nat → Bool} {held : Bool} {v : Value} {d : DataW H} {ps : List MemPlace} {r : Reach} {b0 : Nat}
set_option maxRecDepth 100000 in
theorem dec_Proof {fuel : Nat} {cs : List Value} {x : DataW H × List MemPlace} (h : DataW.trod enc Tryz.prog w base spare held fuel 54 cs = some x) : ∃ (p : Proof) (q : List B32), cs = p.cells ∧ p.sibs.n = q.length ∧ Rd w p.sibs.A (dgs q) := by
 obtain ⟨f1, f2, f3, f4, f5, hT, t1, t2, t3, t4, t5, o1, o2, o3, o4, o5⟩ := proofFields'
 obtain ⟨g1, g2, hL, -, -, s1, s2, p1, p2⟩ := leafFields'
 obtain ⟨xs, n, -, -, hl, hxl, hx⟩ := DataW.trod_struct hT h
 rw [c_Proof] at hl
 have hxl' : xs.length = 5 := hxl
 have k1 := hx 0 f1 rfl
 have k2 := hx 1 f2 rfl
 have k3 := hx 2 f3 rfl
 have k4 := hx 3 f4 rfl
 have k5 := hx 4 f5 rfl
 rw [List.getElem?_eq_getElem (by omega)] at k1 k2 k3 k4 k5
 rw [o1, t1, c_int, List.drop_zero] at k1
 rw [o2, t2, c_int] at k2
 rw [o3, t3, c_Leaf] at k3
 rw [o4, t4, c_u8x32] at k4
 rw [o5, t5, c_Digests] at k5
 obtain ⟨m1, e1, -, -⟩ := DataW.trod_int Tryz.underlying3 k1
 obtain ⟨m2, e2, -, -⟩ := DataW.trod_int Tryz.underlying3 k2
 obtain ⟨y3, e3⟩ := dec_Leaf hL c_Leaf p1 p2 (by rw [s1]; exact Tryz.underlying35) (by rw [s2]; exact Tryz.underlying42) (by rw [s1]; exact c_Key) (by rw [s2]; exact c_Digest) Tryz.underlying5 c_u8 k3
 obtain ⟨y4, e4⟩ := dec_B32 Tryz.underlying34 c_u8x32 Tryz.underlying5 c_u8 k4
 have : Inhabited B32 := ⟨zB32⟩
 obtain ⟨q, A, c, e5, -, -, -, hr, -⟩ := open_rows_t B32.cells_length (by omega) Tryz.underlying52 c_Digest (fun _ => True) (fun fuel cs x h => (dec_B32 Tryz.underlying42 c_Digest Tryz.underlying5 c_u8 h).imp fun _ h => ⟨h, trivial⟩) k5
 refine ⟨⟨m1, m2, y3, y4, ⟨A, q.length, c⟩⟩, q, ?_, rfl, hr⟩
 have r1 : cs = cs.take 1 ++ ((cs.drop 1).take 1 ++ ((cs.drop 2).take 64 ++ ((cs.drop 66).take 32 ++ (cs.drop 98).take 1))) := by
  rw [List.take_of_length_le (l := cs.drop 98) (by simp; omega)]
  rw [show cs.drop 98 = (cs.drop 66).drop 32 by rw [List.drop_drop], List.take_append_drop]
  rw [show cs.drop 66 = (cs.drop 2).drop 64 by rw [List.drop_drop], List.take_append_drop]
  rw [show cs.drop 2 = (cs.drop 1).drop 1 by rw [List.drop_drop], List.take_append_drop, List.take_append_drop]
 rw [r1, e1, e2, e3, e4, e5]
 rfl
end
end Go.Proofs.YtjhocljhhpkiiaaGreatDoor
/- U152 -/
namespace Go.Proofs.YtjhocljhhpkiiaaGreatDoor
open Go.RowKit
structure CPf where
 c : Claim
 p : Proof
def CPf.cells (x : CPf) : List Value := x.c.cells ++ (x.p.cells ++ [])
instance iCPf3 (x : CPf) : RowAt x.cells 0 3 x.c.cells := .mk' (pre := []) (post := x.p.cells) (by simp [CPf.cells]) rfl (Claim.cells_length _)
instance iCPf4 (x : CPf) : RowAt x.cells 3 99 x.p.cells := .mk' (pre := x.c.cells) (post := []) (by simp [CPf.cells]) (Claim.cells_length _) (Proof.cells_length _)
structure Snd where
 c : Claim
 p : Proof
 s : Sl
def Snd.cells (x : Snd) : List Value := x.c.cells ++ (x.p.cells ++ ([.slice x.s.A x.s.n x.s.c] ++ []))
instance iSnd3 (x : Snd) : RowAt x.cells 0 3 x.c.cells := .mk' (pre := []) (post := x.p.cells ++ [.slice x.s.A x.s.n x.s.c]) (by simp [Snd.cells]) rfl (Claim.cells_length _)
instance iSnd4 (x : Snd) : RowAt x.cells 3 99 x.p.cells := .mk' (pre := x.c.cells) (post := [.slice x.s.A x.s.n x.s.c]) (by simp [Snd.cells]) (Claim.cells_length _) (Proof.cells_length _)
instance iSnd5 (x : Snd) : CellAt x.cells 102 (.slice x.s.A x.s.n x.s.c) := .mk' (pre := x.c.cells ++ x.p.cells) (post := []) (by simp [Snd.cells]) (by simp [Claim.cells_length, Proof.cells_length])
instance iSnd6 (x : Snd) : CellAt x.cells 101 (.slice x.p.sibs.A x.p.sibs.n x.p.sibs.c) := .mk' (pre := x.c.cells ++ ([.int .i64 x.p.kind] ++ ([.int .i64 x.p.depth] ++ (x.p.leaf.cells ++ x.p.bitmap.cells)))) (post := [.slice x.s.A x.s.n x.s.c]) (by simp [Snd.cells, Proof.cells]) (by simp [Claim.cells_length, B32.cells_length, Leaf.cells_length])
end Go.Proofs.YtjhocljhhpkiiaaGreatDoor
/- TX -/
namespace Go.Proofs.YtjhocljhhpkiiaaGreatDoor
open Go.RowKit Go.ChangeShapes Go.WideShapes
section
variable {H : Type} {enc : TypeId × Value → H} {w : World} {base : Nat} {spare : Nat → Bool} {held : Bool} {v : Value} {d : DataW H} {ps : List MemPlace} {r : Reach} {b0 : Nat}
theorem c_ClaimProof : Tryz.prog.cellsOf 56 = 102 := by kernel_rfl
theorem claimProofFields : ∃ f1 f2 : Field, Tryz.prog.underlying 56 = some (.struct #[f1, f2]) ∧ f1.type = 25 ∧ f2.type = 54 ∧ f1.offset = 0 ∧ f2.offset = 3 :=
 ⟨_, _, Tryz.underlying56, rfl, rfl, rfl, rfl⟩
set_option maxRecDepth 100000 in
theorem openClaimProof (hval : Value.okWide Tryz.prog w r b0 56 v) (hd : DataW.Trod enc Tryz.prog w base spare held 56 v d ps) :
  ∃ (y : CB) (p : Proof) (q : List B32), v = .agg (CPf.cells ⟨y.c, p⟩).toArray ∧ SlZ (World.zh w) y.c.key y.kb ∧ SlZ (World.zh w) y.c.value y.vb ∧ p.sibs.n = q.length ∧ Rd w p.sibs.A (dgs q) := by
 obtain ⟨f1, f2, hT, t1, t2, o1, o2⟩ := claimProofFields
 obtain ⟨cs, rfl, -⟩ := okWide_struct hT hval
 obtain ⟨fuel, hf⟩ := hd
 obtain ⟨cs⟩ := cs
 have hf' : DataW.trod enc Tryz.prog w base spare held fuel 56 cs = some (d, ps) := by simpa [Value.cells] using hf
 obtain ⟨xs, n, -, -, hl, hxl, hx⟩ := DataW.trod_struct hT hf'
 rw [c_ClaimProof] at hl
 have hxl' : xs.length = 2 := hxl
 have k1 := hx 0 f1 rfl
 have k2 := hx 1 f2 rfl
 rw [List.getElem?_eq_getElem (by omega)] at k1 k2
 rw [o1, t1, c_Claim, List.drop_zero] at k1
 rw [o2, t2, c_Proof] at k2
 obtain ⟨y, e1, z1, z2⟩ := dec_CB k1
 obtain ⟨p, q, e2, hn, hr⟩ := dec_Proof k2
 refine ⟨y, p, q, ?_, z1, z2, hn, hr⟩
 have r1 : cs = cs.take 3 ++ ((cs.drop 3).take 99 ++ []) := by
  rw [List.take_of_length_le (l := cs.drop 3) (by simp; omega), List.append_nil, List.take_append_drop]
 rw [r1, e1, e2]
 rfl
theorem c_Sound : Tryz.prog.cellsOf 81 = 103 := by kernel_rfl
theorem soundFields : ∃ f1 f2 f3 : Field, Tryz.prog.underlying 81 = some (.struct #[f1, f2, f3]) ∧ f1.type = 25 ∧ f2.type = 54 ∧ f3.type = 68 ∧ f1.offset = 0 ∧ f2.offset = 3 ∧ f3.offset = 102 :=
 ⟨_, _, _, Tryz.underlying81, rfl, rfl, rfl, rfl, rfl, rfl⟩
set_option maxRecDepth 100000 in
theorem openSound (hval : Value.okWide Tryz.prog w r b0 81 v) (hd : DataW.Trod enc Tryz.prog w base spare held 81 v d ps) :
  ∃ (y : CB) (p : Proof) (q : List B32) (m : List Item) (I : Option Addr) (ic : Nat), v = .agg (Snd.cells ⟨y.c, p, ⟨I, m.length, ic⟩⟩).toArray ∧ SlZ (World.zh w) y.c.key y.kb ∧ SlZ (World.zh w) y.c.value y.vb ∧ p.sibs.n = q.length ∧ Rd w p.sibs.A (dgs q) ∧ m.length ≤ ic ∧ RdZ (World.zh w) I (its m) := by
 obtain ⟨f1, f2, f3, hT, t1, t2, t3, o1, o2, o3⟩ := soundFields
 obtain ⟨cs, rfl, -⟩ := okWide_struct hT hval
 obtain ⟨fuel, hf⟩ := hd
 obtain ⟨cs⟩ := cs
 have hf' : DataW.trod enc Tryz.prog w base spare held fuel 81 cs = some (d, ps) := by simpa [Value.cells] using hf
 obtain ⟨xs, n, -, -, hl, hxl, hx⟩ := DataW.trod_struct hT hf'
 rw [c_Sound] at hl
 have hxl' : xs.length = 3 := hxl
 have k1 := hx 0 f1 rfl
 have k2 := hx 1 f2 rfl
 have k3 := hx 2 f3 rfl
 rw [List.getElem?_eq_getElem (by omega)] at k1 k2 k3
 rw [o1, t1, c_Claim, List.drop_zero] at k1
 rw [o2, t2, c_Proof] at k2
 rw [o3, t3, c_itemsSl] at k3
 obtain ⟨y, e1, z1, z2⟩ := dec_CB k1
 obtain ⟨p, q, e2, hn, hr⟩ := dec_Proof k2
 obtain ⟨m, I, ic, e3, hic, hI⟩ := dec_items k3
 refine ⟨y, p, q, m, I, ic, ?_, z1, z2, hn, hr, hic, hI⟩
 have r1 : cs = cs.take 3 ++ ((cs.drop 3).take 99 ++ (cs.drop 102).take 1) := by
  rw [List.take_of_length_le (l := cs.drop 102) (by simp; omega)]
  rw [show cs.drop 102 = (cs.drop 3).drop 99 by rw [List.drop_drop], List.take_append_drop, List.take_append_drop]
 rw [r1, e1, e2, e3]
 rfl
end
end Go.Proofs.YtjhocljhhpkiiaaGreatDoor
/- U49 -/
namespace Go.Proofs.YtjhocljhhpkiiaaGreatDoor
open Go.RowKit
theorem bitN_bI (key : B32) (i : Nat) : ((bitN key i : Nat) : Int) = bI (bitAt key i) := by unfold bI bitN; cases bitAt key i <;> rfl
theorem PartK_s (key : B32) (m : List En) (B : Option Addr) (c d : Nat) (hd : d < 256) (hm : m.length ≤ 100000000) : Spec Tryz.prog 74 [.slice B m.length c, .int .i64 (d : Int), .int .i64 ((bitN key d : Nat) : Int)].toArray [.rd B (ents m)] [] (fun u : Option Addr × Nat => .slice u.1 (part m d (bitAt key d)).length u.2) (fun u => [.own (.slice u.1 (part m d (bitAt key d)).length u.2) (part m d (bitAt key d)).length 124 33 (ents (part m d (bitAt key d)))]) := by
 rw [bitN_bI]
 exact Part_s m B c d _ hd hm
theorem atM_vals {h : Zh} {key : B32} {m : List En} (x : ValsZ h m) : ∀ d, ValsZ h (atM key m d)
 | 0 => x
 | d + 1 => (atM_vals x d).part _ _
end Go.Proofs.YtjhocljhhpkiiaaGreatDoor
/- U50 -/
namespace Go.Proofs.YtjhocljhhpkiiaaGreatDoor
open Go.RowKit
end Go.Proofs.YtjhocljhhpkiiaaGreatDoor
