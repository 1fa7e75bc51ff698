/- multi.Preimages; find.Way; extract: the preimage of a subtree, the preimages on a way, Collide; A range over a function whose body may leave by a return, at a round that is known; Rows of bytes frozen; the reference's comparison of bytes; extract: pairs, compare; The first different rows of two lists: plain; extract.compare; How long a multiproof is: plain; The bytes of a multiproof: plain; mcodec: payload, Size, Siblings; A shift to the right of a number that is not negative; mcodec.Encode of items that are well-formed; mcodec.item, of the bytes of an item that is well-formed; mcodec.Decode, of the bytes of items that are well-formed; Shifts by eight to the left and a byte put in, for numbers below 2 to the 32; mcodec.Decode, of all bytes: the head (the rest is still to be walked); What decoding a multiproof computes, for all bytes: plain; mcodec.item, of all bytes that are enough; A contract at more memory; mcodec.Decode of all bytes; fold.Preimages, its rows frozen; extract.Single (joined texts: U80 U141 N21 U142 E33 U143 E20 E26 U110 N18 U111 U112 U113 N20 U116 E27 U117 U118 U144) -/
import Derived.Test.YtjhocljhhpkiiaaGreatDoorF12
import Derived.Scope
set_option linter.all false
/- U80 -/
namespace Go.Proofs.YtjhocljhhpkiiaaGreatDoor
open Go.RowKit
def SegsZ (h : Zh) (xs : List Seg) (ls : List (List UInt8)) : Prop := xs.map (fun x => x.2.2) = ls ∧ ∀ x ∈ xs, (∃ g, x.1 = some ⟨g, 0, none⟩) ∧ RdZ h x.1 (bc x.2.2)
theorem SegsZ.len {h : Zh} {xs : List Seg} {ls : List (List UInt8)} (x : SegsZ h xs ls) : xs.length = ls.length := by rw [← x.1, List.length_map]
theorem SegsZ.snoc {h h' : Zh} (hl : LeZ h h') {xs : List Seg} {ls : List (List UInt8)} (x : SegsZ h xs ls) {g c : Nat} {b : List UInt8} (hr : RdZ h' (some ⟨g, 0, none⟩) (bc b)) : SegsZ h' (xs ++ [(some ⟨g, 0, none⟩, c, b)]) (ls ++ [b]) := by
 refine ⟨by rw [List.map_append, x.1]; rfl, fun y hy => ?_⟩
 rcases List.mem_append.1 hy with hy | hy
 ·exact ⟨(x.2 y hy).1, (x.2 y hy).2.mono hl⟩
 ·rw [List.mem_singleton.1 hy]
  exact ⟨⟨g, rfl⟩, hr⟩
theorem svs_app1 (xs : List Seg) (x : Seg) : svs xs ++ [sv x] = svs (xs ++ [x]) := by simp [svs]
def Sub.pres (n : Nat) (key : B32) (t : Sub) (d : Nat) : List (List UInt8) := (t.ways key d).map (preS n)
theorem pres_one (n : Nat) (key : B32) (x : Item) (d : Nat) : (Sub.one x).pres n key d = [preI x] := rfl
theorem pres_two (n : Nat) (key : B32) (l r : Sub) (d : Nat) : (Sub.two l r).pres n key d = preN (dgS n l) (dgS n r) :: if bitAt key d then r.pres n key (d + 1) else l.pres n key (d + 1) := by
 unfold Sub.pres
 rw [Sub.ways]
 cases bitAt key d <;> rfl
theorem pres_len (n : Nat) (key : B32) (t : Sub) (d i : Nat) : (t.pres n key d).length = (t.way key d i).length := by unfold Sub.pres; rw [List.length_map, ways_len]
section
variable (h : Zh) [hT : RdZ h (some ⟨1, 0, none⟩) hashT] (n : Nat) (hn : n ≤ 256) (gh gc k : Nat) (hk : k ≤ 1000000000) (l : List Item) (A : Option Addr) (c : Nat) [hr : RdZ h A (its l)] (hc : l.length ≤ c) (hl : l.length ≤ 1000000) (key : B32)
include hc hl
include hn hk
theorem mPre_k (t : Sub) (hp : parseM l = .ok t) (b : Bool) (hb : ((t.endI key 0).1.kind == 3) = b) : Spec Tryz.prog 91 [.pointer (some ⟨gh, 0, none⟩), .slice A l.length c, .agg key.cells.toArray].toArray [HR gh gc n] [.zone true h, CN gc k] (fun u : {x : Zh × Nat × Nat × List Seg × Nat // LeZ h x.1 ∧ (b = false → SegsZ x.1 x.2.2.2.1 (t.pres n key 0)) ∧ x.2.2.2.2 ≤ k + 256000000} => .tuple (if b then #[.slice none 0 0, .int .i64 12] else #[.slice (some ⟨u.1.2.1, 0, none⟩) (t.pres n key 0).length u.1.2.2.1, .int .i64 0])) (fun u => .zone true u.1.1 :: CN gc u.1.2.2.2.2 :: if b then [] else [.own (.slice (some ⟨u.1.2.1, 0, none⟩) (t.pres n key 0).length u.1.2.2.1) (t.pres n key 0).length 23 1 (svs u.1.2.2.2.1)]) := by
 have hP := parse_s h l A c hc hl
 rw [hp] at hP
 have hco := readM_cost 256 l t [] (parse_ok hp).1
 have hco2 : t.cost ≤ 1000000 := by rw [List.length_nil] at hco; omega
 have hht := (parse_flat hp).2.2
 have hV := hp
 refine spec_of Tryz.func91 rfl (n := 51) rfl rfl ?_
 intro W
 refine yR ?_
 refine h_opX (x_box rfl) fun g5 => ?_
 refine yS rfl ?_
 refine yS rfl ?_
 refine yN ?_
 refine yR ?_
 refine yM rfl ?_
 refine h_call (hP.comes) rfl rfl rfl fun _ => ?_
 refine yM rfl ?_
 refine h_op (r_extract rfl rfl) ?_
 refine h_op (r_extract rfl rfl) ?_
 refine yS rfl ?_
 refine yS rfl ?_
 refine yN ?_
 refine h_seq ?_
 refine yR ?_
 refine yM rfl ?_
 refine h_op (r_neq rfl rfl) ?_
 refine yN ?_
 refine h_no rfl ((fun h => h rfl)) ?_
 refine h_skip ?_
 refine q_then ?_
 refine yR ?_
 refine yS rfl ?_
 refine yN ?_
 refine yR ?_
 refine yS rfl ?_
 refine yN ?_
 refine h_block ?_
 refine h_nil_own 23 1 (xs := svs ([] : List Seg)) rfl ?_
 refine h_loop (fun (s : Sub × Nat × Zh × List Seg × Option Addr × Nat × Nat) => LeZ h s.2.2.1 ∧ SegsZ s.2.2.1 s.2.2.2.1 (s.2.2.2.1.map fun x => x.2.2) ∧ t.pres n key 0 = (s.2.2.2.1.map fun x => x.2.2) ++ s.1.pres n key s.2.1 ∧ t.endI key 0 = s.1.endI key s.2.1 ∧ s.2.1 + s.1.ht ≤ 256 ∧ s.1.cost ≤ 1000000 ∧ s.2.2.2.2.2.2 ≤ k + s.2.1 * 1000000 ∧ s.2.2.2.1.length = s.2.1) (fun (s : Sub × Nat × Zh × List Seg × Option Addr × Nat × Nat) => [(0, .pointer (some ⟨gh, 0, none⟩)), (5, .pointer (some ⟨g5, 0, none⟩)), (8, .iface s.1.tag s.1.val), (10, .slice s.2.2.2.2.1 s.2.2.2.1.length s.2.2.2.2.2.1), (11, .int .i64 (s.2.1 : Int))]) (fun (s : Sub × Nat × Zh × List Seg × Option Addr × Nat × Nat) => [.zone true s.2.2.1, .own (.slice s.2.2.2.2.1 s.2.2.2.1.length s.2.2.2.2.2.1) s.2.2.2.1.length 23 1 (svs s.2.2.2.1), CN gc s.2.2.2.2.2.2, .blk g5 key.cells 35, HR gh gc n]) (fun (s : Sub × Nat × Zh × List Seg × Option Addr × Nat × Nat) => s.1.sz) (t, 0, h, [], none, 0, k) (⟨LeZ.refl h, ⟨rfl, fun x hx => by cases hx⟩, rfl, rfl, by dsimp only; omega, hco2, by dsimp only; omega, rfl⟩) ⟨rfl, rfl, rfl, rfl, rfl, trivial⟩ (same) ?_
 rintro ⟨s, d, z, xs, B, c', k'⟩ ⟨hle, hsz, hpr, hen, hd, hcs, hkk, hxl⟩
 dsimp only at hle hsz hpr hen hd hcs hkk hxl ⊢
 have hd9 : d ≤ 256 := by omega
 have hTz : RdZ z (some ⟨1, 0, none⟩) hashT := hT.mono hle
 rcases s with x | ⟨s1, s2⟩
 ·rw [pres_one] at hpr
  have hen' : t.endI key 0 = (x, d) := hen
  change H _ _ _ _ ([(0, _), (5, _), (8, .iface 235 (.agg x.cells.toArray)), (10, _), (11, _)]) _ _
  refine h_seq ?_
  refine h_block ?_
  refine yR ?_
  refine yM rfl ?_
  refine yN ?_
  refine h_block ?_
  refine yR ?_
  refine h_op (r_as2n rfl) ?_
  refine h_op (r_extract rfl rfl) ?_
  refine h_op (r_extract rfl rfl) ?_
  refine yN ?_
  refine h_condF rfl ?_
  refine yR ?_
  refine h_op (r_as2 rfl) ?_
  refine h_op (r_extract rfl rfl) ?_
  refine h_op (r_extract rfl rfl) ?_
  refine yN ?_
  refine h_condT rfl ?_
  refine yR ?_
  refine h_opX (x_alloc) fun g13 => ?_
  refine h_opS (s_storer rfl rfl) ?_
  refine yN ?_
  refine h_seq ?_
  refine yR ?_
  refine h_op (r_field rfl) ?_
  refine h_op (r_field rfl) ?_
  refine h_op (r_loadc rfl) ?_
  refine h_op (r_eql rfl rfl) ?_
  refine yN ?_
  by_cases h3 : x.kind = 3
  ·obtain rfl : b = true := by rw [← hb, hen']; simp [h3]
   refine h_yes rfl (h3) ?_
   refine yR ?_
   refine yS rfl ?_
   refine yS rfl ?_
   refine yN ?_
   refine h_ret ?_
   refine q_thenR ?_
   refine q_blockR ?_
   refine q_blockR ?_
   refine q_thenR ?_
   refine q_thenR ?_
   refine q_blockR ?_
   exact h_ret2 rfl rfl rfl fun w s => ⟨⟨(z, 0, 0, [], k'), hle, (fun h => by cases h), by dsimp only; omega⟩, rfl, (same (L' := [.zone true z, CN gc k']) w s).res (List.Sublist.refl _) (by simp [Fa.wr])⟩
  ·obtain rfl : b = false := by rw [← hb, hen']; simp [h3]
   have hpl : (t.pres n key 0).length = xs.length + 1 := by rw [hpr, List.length_append, List.length_map]; rfl
   refine h_no rfl (h3) ?_
   refine h_skip ?_
   refine q_then ?_
   refine yR ?_
   refine yM rfl ?_
   refine h_op (r_loadr rfl) ?_
   refine h_call ((epre_s x).comes) rfl rfl rfl fun ⟨g48, c48⟩ => ?_
   refine h_opX (x_bsl rfl rfl) fun g49 => ?_
   refine h_opX (x_app rfl rfl (k := 1)) fun ⟨g50, c50⟩ => ?_
   refine yS rfl ?_
   refine yS rfl ?_
   refine yN ?_
   refine h_ret ?_
   refine q_blockR ?_
   refine q_blockR ?_
   refine q_thenR ?_
   refine q_thenR ?_
   refine q_blockR ?_
   dsimp only
   rw [← hpl]
   change H _ _ _ _ _ (.own _ _ _ _ (svs xs ++ [sv (some ⟨g48, 0, none⟩, c48, preI x)]) :: _) _
   rw [svs_app1]
   refine h_freezeO (.slice (some ⟨g48, 0, none⟩) (preI x).length c48) fun z2 B2 c2 e2 hle2 hlen2 hnil2 hz2 hr2 => ?_
   injection e2 with e2 _ e3
   subst e2 e3
   exact h_ret2 rfl rfl rfl fun w s => ⟨⟨(z2, g50, c50, xs ++ [(some ⟨g48, 0, none⟩, c48, preI x)], k'), hle.trans hz2, (fun _ => by rw [hpr]; exact hsz.snoc hz2 hr2), by dsimp only; omega⟩, rfl, (same (L' := [.zone true z2, CN gc k', .own (.slice (some ⟨g50, 0, none⟩) (t.pres n key 0).length c50) (t.pres n key 0).length 23 1 (svs (xs ++ [(some ⟨g48, 0, none⟩, c48, preI x)]))]) w s).res (List.Sublist.refl _) (by simp [Fa.wr])⟩
 ·have hht2 : d + (max s1.ht s2.ht + 1) ≤ 256 := hd
  have hcs2 : s1.cost + s2.cost + 1 ≤ 1000000 := hcs
  have hd3 : d * 1000000 ≤ 256 * 1000000 := Nat.mul_le_mul_right _ (by omega)
  have hPP := ppre_s n gh gc s1 s2 (dig_s n hn gh gc s1) (dig_s n hn gh gc s2) k' (by omega)
  rw [pres_two] at hpr
  replace hen : t.endI key 0 = if bitAt key d then s2.endI key (d + 1) else s1.endI key (d + 1) := hen
  have hB := Bit_s key d (by omega)
  have hq1 := s1.sz_pos
  have hq2 := s2.sz_pos
  change H _ _ _ _ ([(0, _), (5, _), (8, .iface 232 (.agg [.iface s1.tag s1.val, .iface s2.tag s2.val].toArray)), (10, _), (11, _)]) _ _
  rw [show (Sub.two s1 s2).val = .agg [.iface s1.tag s1.val, .iface s2.tag s2.val].toArray from rfl] at hPP
  refine h_seq ?_
  refine h_block ?_
  refine yR ?_
  refine yM rfl ?_
  refine yN ?_
  refine h_block ?_
  refine yR ?_
  refine h_op (r_as2 rfl) ?_
  refine h_op (r_extract rfl rfl) ?_
  refine h_op (r_extract rfl rfl) ?_
  refine yN ?_
  refine h_condT rfl ?_
  refine yR ?_
  refine h_opX (x_alloc) fun g12 => ?_
  refine h_opS (s_storer rfl rfl) ?_
  refine yN ?_
  refine yR ?_
  refine yM rfl ?_
  refine h_op (r_loadr rfl) ?_
  refine yM rfl ?_
  refine h_call (hPP.comes) rfl rfl rfl fun ⟨g31, c31⟩ => ?_
  refine h_opX (x_bsl rfl rfl) fun g32 => ?_
  refine h_opX (x_app rfl rfl (k := 1)) fun ⟨g33, c33⟩ => ?_
  refine yS rfl ?_
  refine yN ?_
  dsimp only
  change H _ _ _ _ _ (.own _ _ _ _ (svs xs ++ [sv (some ⟨g31, 0, none⟩, c31, preN (dgS n s1) (dgS n s2))]) :: _) _
  rw [svs_app1]
  refine h_freezeO (.slice (some ⟨g31, 0, none⟩) (preN (dgS n s1) (dgS n s2)).length c31) fun z2 B2 c2 e2 hle2 hlen2 hnil2 hz2 hr2 => ?_
  injection e2 with e2 _ e3
  subst e2 e3
  have hlx : xs.length + 1 = (xs ++ [((some ⟨g31, 0, none⟩, c31, preN (dgS n s1) (dgS n s2)) : Seg)]).length := by rw [List.length_append]; rfl
  have hsn := hsz.snoc hz2 (c := c31) hr2
  have hmp : (xs.map fun x : Seg => x.2.2) ++ [preN (dgS n s1) (dgS n s2)] = (xs ++ [((some ⟨g31, 0, none⟩, c31, preN (dgS n s1) (dgS n s2)) : Seg)]).map fun x : Seg => x.2.2 := by rw [List.map_append]; rfl
  rw [hmp] at hsn
  rw [hlx]
  generalize hxs2 : xs ++ [((some ⟨g31, 0, none⟩, c31, preN (dgS n s1) (dgS n s2)) : Seg)] = xs2 at *
  cases hbit : bitAt key d
  ·rw [show bitN key d = 0 by unfold bitN; rw [hbit]; rfl] at hB
   rw [hbit, if_neg (by simp)] at hpr hen
   refine h_reg ?_
   refine h_op (r_loadr rfl) ?_
   refine yM rfl ?_
   refine h_call (hB.comes) rfl rfl rfl fun _ => ?_
   refine h_op (r_idxA rfl rfl (m := 0)) ?_
   refine h_op (r_loadc rfl) ?_
   refine yS rfl ?_
   refine h_nil ?_
   refine q_block ?_
   refine q_block ?_
   refine q_then ?_
   refine h_reg ?_
   refine yM rfl ?_
   refine h_op (r_add rfl rfl) ?_
   refine yS rfl ?_
   refine h_nil ?_
   exact h_back (s1, d + 1, z2, xs2, some ⟨g33, 0, none⟩, c33, k' + s1.cost + s2.cost) (⟨hle.trans hz2, hsn, by dsimp only; rw [hpr, ← hmp, List.append_assoc]; rfl, hen, by dsimp only; omega, by dsimp only; omega, by dsimp only; omega, by dsimp only; omega⟩) ((show s1.sz < s1.sz + s2.sz + 1 by omega)) ⟨rfl, rfl, rfl, rfl, aI rfl (by dsimp only; omega), trivial⟩ (same)
  ·rw [show bitN key d = 1 by unfold bitN; rw [hbit]; rfl] at hB
   rw [hbit, if_pos rfl] at hpr hen
   refine h_reg ?_
   refine h_op (r_loadr rfl) ?_
   refine yM rfl ?_
   refine h_call (hB.comes) rfl rfl rfl fun _ => ?_
   refine h_op (r_idxA rfl rfl (m := 1)) ?_
   refine h_op (r_loadc rfl) ?_
   refine yS rfl ?_
   refine h_nil ?_
   refine q_block ?_
   refine q_block ?_
   refine q_then ?_
   refine h_reg ?_
   refine yM rfl ?_
   refine h_op (r_add rfl rfl) ?_
   refine yS rfl ?_
   refine h_nil ?_
   exact h_back (s2, d + 1, z2, xs2, some ⟨g33, 0, none⟩, c33, k' + s1.cost + s2.cost) (⟨hle.trans hz2, hsn, by dsimp only; rw [hpr, ← hmp, List.append_assoc]; rfl, hen, by dsimp only; omega, by dsimp only; omega, by dsimp only; omega, by dsimp only; omega⟩) ((show s2.sz < s1.sz + s2.sz + 1 by omega)) ⟨rfl, rfl, rfl, rfl, aI rfl (by dsimp only; omega), trivial⟩ (same)
end
end Go.Proofs.YtjhocljhhpkiiaaGreatDoor
/- U141 -/
namespace Go.Proofs.YtjhocljhhpkiiaaGreatDoor
open Go.RowKit
def preT (n : Nat) : Tr → List UInt8
 | .nil => preE
 | .leaf k v => preL (leafOf n k v)
 | .node l r => preN (dgT n l) (dgT n r)
theorem preT_dg (n : Nat) (t : Tr) : dgT n t = sumB n (preT n t) := by cases t <;> rfl
theorem preT_len (n : Nat) (t : Tr) : (preT n t).length ≤ 65 := by
 cases t with
 | nil => show preE.length ≤ 65; decide
 | leaf k v => show (preL _).length ≤ 65; rw [preL_len]; exact Nat.le_refl _
 | node l r => show (preN _ _).length ≤ 65; rw [preN_len]; exact Nat.le_refl _
def wayL (h : Zh) (key : B32) (p : Option Addr) (N : Nat) : List (Option Addr) := (List.range N).map (wayQ h key p)
theorem wayL_len (h : Zh) (key : B32) (p : Option Addr) (N : Nat) : (wayL h key p N).length = N := by simp [wayL]
theorem wayL_at (h : Zh) (key : B32) (p : Option Addr) {N i : Nat} (hi : i < N) : (wayL h key p N)[i]? = some (wayQ h key p i) := by unfold wayL; rw [List.getElem?_map, List.getElem?_range hi]; rfl
theorem wayL_succ (h : Zh) (key : B32) (p : Option Addr) (i : Nat) : ptrs (wayL h key p i) ++ [.pointer (wayQ h key p i)] = ptrs (wayL h key p (i + 1)) := by unfold wayL ptrs; rw [List.range_succ, List.map_append, List.map_append]; rfl
theorem FWay_s (n : Nat) (h : Zh) (t : Tr) (p : Option Addr) [ht : TrZ n h t p] (key : B32) (D : Nat) (hD : WayTo key t D) : Spec Tryz.prog 72 [.pointer p, .agg key.cells.toArray].toArray [.zone false h] [] (fun u : Option Addr × Nat => .slice u.1 (D + 1) u.2) (fun u => [.own (.slice u.1 (D + 1) u.2) (D + 1) 26 1 (ptrs (wayL h key p (D + 1)))]) := by
 have hle := hD.le
 refine spec_of Tryz.func72 rfl (n := 18) rfl rfl ?_
 intro W
 refine yR ?_
 refine h_opX (x_box rfl) fun g3 => ?_
 refine yS rfl ?_
 refine yN ?_
 refine yR ?_
 refine h_opX (x_alloc) fun g5 => ?_
 refine yN ?_
 refine h_seq ?_
 refine yR ?_
 refine yM rfl ?_
 refine h_op (r_loadr rfl) ?_
 refine h_call ((way_s p key).comes) rfl rfl rfl fun ⟨g1, g2⟩ => ?_
 dsimp only
 refine yN ?_
 refine h_block ?_
 refine h_nil_own 26 1 (xs := ptrs (wayL h key p 0)) rfl ?_
 refine h_range (way_it n h t p key D hD g1 g2) rfl (fun pre mm => ∃ A c, mm = [.blk g5 [.slice A pre.length c] 133, .own (.slice A pre.length c) pre.length 26 1 (ptrs (wayL h key p pre.length))]) [.blk g5 [.slice none 0 0] 133, .own (.slice none 0 0) 0 26 1 (ptrs (wayL h key p 0))] [.zone false h] (by rintro pre mm ⟨A, c, rfl⟩ f hf; simp only [List.mem_cons, List.not_mem_nil, or_false] at hf; rcases hf with rfl | rfl <;> rfl) ⟨none, 0, rfl⟩ rfl (fun _ => rfl) ?_ ?_
 ·intro ll rr pre i post mm W1 hr hrp hxs hJ
  obtain ⟨A, c, rfl⟩ := hJ
  have hpre : pre = List.range i ∧ i < D + 1 := range_mid hxs
  obtain ⟨rfl, hi⟩ := hpre
  rw [List.length_range]
  simp only [List.nil_append, List.cons_append]
  refine h_reg ?_
  refine yS rfl ?_
  refine yN ?_
  refine h_begin hr ?_
  refine h_block ?_
  refine h_reg ?_
  refine h_op (r_loadc rfl) ?_
  refine yM rfl ?_
  refine h_opX (x_bsl rfl rfl) fun g15 => ?_
  refine h_opX (x_app rfl rfl (k := 1)) fun ⟨g16, c16⟩ => ?_
  refine h_opS (s_store rfl rfl rfl) ?_
  refine h_nil ?_
  refine q_block ?_
  dsimp only
  rw [wayL_succ h key p i]
  exact h_endround [.blk g5 [.slice (some ⟨g16, 0, none⟩) (i + 1) c16] 133, .own (.slice (some ⟨g16, 0, none⟩) (i + 1) c16) (i + 1) 26 1 (ptrs (wayL h key p (i + 1)))] hr hrp ⟨some ⟨g16, 0, none⟩, c16, by rw [List.length_append, List.length_range, List.length_singleton]⟩ (by intro f hf; simp only [List.mem_cons, List.not_mem_nil, or_false] at hf; rcases hf with rfl | rfl <;> rfl)
 ·intro bb mm hJ
  obtain ⟨A, c, rfl⟩ := hJ
  rw [List.length_range]
  refine q_block ?_
  refine q_then ?_
  simp only [List.nil_append, List.cons_append]
  refine yR ?_
  refine h_op (r_loadc rfl) ?_
  refine yS rfl ?_
  refine yN ?_
  refine h_ret ?_
  refine h_mark ?_
  exact h_ret1 rfl rfl fun w s => ⟨(A, c), rfl, (same w s).res (List.Sublist.refl _) (by simp [Fa.wr])⟩
section
variable (n : Nat) (hn : n ≤ 256) (h : Zh) [hT : RdZ h (some ⟨1, 0, none⟩) hashT] (gh gc k : Nat) (hk : k ≤ 100000000000)
include hn hk
theorem xPre_s (t : Tr) (p : Option Addr) [ht : TrZ n h t p] : Spec Tryz.prog 73 [.pointer (some ⟨gh, 0, none⟩), .pointer p].toArray [HR gh gc n, .zone false h] [CN gc k] (fun u : {u : Nat × Nat × Nat // u.2.2 ≤ k + 2} => .slice (some ⟨u.1.1, 0, none⟩) (preT n t).length u.1.2.1) (fun u => [.own (.slice (some ⟨u.1.1, 0, none⟩) (preT n t).length u.1.2.1) (preT n t).length 5 1 (bc (preT n t)), CN gc u.1.2.2]) := by
 have hK := Kind_s n h t p
 have hLf := Leaf_s n h t p
 have hLe := Left_s n h t p
 have hRi := Right_s n h t p
 rcases t with _ | ⟨kk, v⟩ | ⟨l, r⟩
 ·refine spec_of Tryz.func73 rfl (n := 24) rfl rfl ?_
  intro W
  refine yR ?_
  refine yS rfl ?_
  refine yN ?_
  refine h_seq ?_
  refine yR ?_
  refine yM rfl ?_
  refine h_call (hK.comes) rfl rfl rfl fun _ => ?_
  refine yN ?_
  refine h_block ?_
  refine yR ?_
  refine h_op (r_bool (r_eql rfl rfl) (show _ = false from rfl)) ?_
  refine yS rfl ?_
  refine yN ?_
  refine h_condF rfl ?_
  refine yR ?_
  refine h_op (r_bool (r_eql rfl rfl) (show _ = false from rfl)) ?_
  refine yS rfl ?_
  refine yN ?_
  refine h_condF rfl ?_
  refine h_skip ?_
  refine q_block ?_
  refine q_then ?_
  refine yR ?_
  refine h_call (pEmpty_s.comes) rfl rfl rfl fun ⟨g23, c23⟩ => ?_
  refine yS rfl ?_
  refine yN ?_
  refine h_ret ?_
  exact h_ret1 rfl rfl fun w s => ⟨⟨(g23, c23, k), by dsimp only; omega⟩, rfl, (same (L' := [.own (.slice (some ⟨g23, 0, none⟩) 1 c23) 1 5 1 (bc preE), CN gc k]) w s).res (List.Sublist.refl _) (by simp [Fa.wr])⟩
 ·refine spec_of Tryz.func73 rfl (n := 24) rfl rfl ?_
  intro W
  refine yR ?_
  refine yS rfl ?_
  refine yN ?_
  refine h_seq ?_
  refine yR ?_
  refine yM rfl ?_
  refine h_call (hK.comes) rfl rfl rfl fun _ => ?_
  refine yN ?_
  refine h_block ?_
  refine yR ?_
  refine h_op (r_bool (r_eql rfl rfl) (show _ = true from rfl)) ?_
  refine yS rfl ?_
  refine yN ?_
  refine h_condT rfl ?_
  refine yR ?_
  refine yM rfl ?_
  refine h_call (hLf.comes) rfl rfl rfl fun _ => ?_
  refine h_call ((pLeaf_s (leafOf n kk v)).comes) rfl rfl rfl fun ⟨g11, c11⟩ => ?_
  refine yS rfl ?_
  refine yN ?_
  refine h_ret ?_
  refine q_blockR ?_
  refine q_thenR ?_
  exact h_ret1 rfl rfl fun w s => ⟨⟨(g11, c11, k), by dsimp only; omega⟩, rfl, (same (L' := [.own (.slice (some ⟨g11, 0, none⟩) (preL (leafOf n kk v)).length c11) (preL (leafOf n kk v)).length 5 1 (bc (preL (leafOf n kk v))), CN gc k]) w s).res (List.Sublist.refl _) (by simp [Fa.wr])⟩
 ·have hl := TrZ.left ht
  have hr := TrZ.right ht
  refine spec_of Tryz.func73 rfl (n := 24) rfl rfl ?_
  intro W
  refine yR ?_
  refine yS rfl ?_
  refine yN ?_
  refine h_seq ?_
  refine yR ?_
  refine yM rfl ?_
  refine h_call (hK.comes) rfl rfl rfl fun _ => ?_
  refine yN ?_
  refine h_block ?_
  refine yR ?_
  refine h_op (r_bool (r_eql rfl rfl) (show _ = false from rfl)) ?_
  refine yS rfl ?_
  refine yN ?_
  refine h_condF rfl ?_
  refine yR ?_
  refine h_op (r_bool (r_eql rfl rfl) (show _ = true from rfl)) ?_
  refine yS rfl ?_
  refine yN ?_
  refine h_condT rfl ?_
  refine yR ?_
  refine yM rfl ?_
  refine yM rfl ?_
  refine h_call (hLe.comes) rfl rfl rfl fun _ => ?_
  refine h_call ((Digest_s n hn gh gc k (by omega) h l (subP h false p)).comes) rfl rfl rfl fun _ => ?_
  refine yM rfl ?_
  refine yM rfl ?_
  refine h_call (hRi.comes) rfl rfl rfl fun _ => ?_
  refine h_call ((Digest_s n hn gh gc (k + if l.kind = 0 then 1 else 0) (by split <;> omega) h r (subP h true p)).comes) rfl rfl rfl fun _ => ?_
  refine h_call ((pNode_s (dgT n l) (dgT n r)).comes) rfl rfl rfl fun ⟨g22, c22⟩ => ?_
  refine yS rfl ?_
  refine yN ?_
  refine h_ret ?_
  refine q_blockR ?_
  refine q_thenR ?_
  exact h_ret1 rfl rfl fun w s => ⟨⟨(g22, c22, (k + if l.kind = 0 then 1 else 0) + if r.kind = 0 then 1 else 0), by dsimp only; split <;> split <;> omega⟩, rfl, (same (L' := [.own (.slice (some ⟨g22, 0, none⟩) (preN (dgT n l) (dgT n r)).length c22) (preN (dgT n l) (dgT n r)).length 5 1 (bc (preN (dgT n l) (dgT n r))), CN gc ((k + if l.kind = 0 then 1 else 0) + if r.kind = 0 then 1 else 0)]) w s).res (List.Sublist.refl _) (by simp [Fa.wr])⟩
def wayPre (n : Nat) (key : B32) (t : Tr) (N : Nat) : List (List UInt8) := (List.range N).map fun i => preT n (wayK key t i)
omit hn hk hT in
theorem wayPre_len (n : Nat) (key : B32) (t : Tr) (N : Nat) : (wayPre n key t N).length = N := by simp [wayPre]
omit hn hk hT in
theorem wayPre_succ (n : Nat) (key : B32) (t : Tr) (N : Nat) : wayPre n key t (N + 1) = wayPre n key t N ++ [preT n (wayK key t N)] := by unfold wayPre; rw [List.range_succ, List.map_append]; rfl
omit hk in
theorem xWay_s (hk2 : k ≤ 10000000000) (t : Tr) (p : Option Addr) [ht : TrZ n h t p] (key : B32) (D : Nat) (hD : WayTo key t D) : Spec Tryz.prog 21 [.pointer (some ⟨gh, 0, none⟩), .pointer p, .agg key.cells.toArray].toArray [HR gh gc n] [.zone true h, CN gc k] (fun u : {u : Zh × Option Addr × Nat × List Seg × Nat // LeZ h u.1 ∧ SegsZ u.1 u.2.2.2.1 (wayPre n key t (D + 1)) ∧ u.2.2.2.2 ≤ k + 1000} => .slice u.1.2.1 (D + 1) u.1.2.2.1) (fun u => [.zone true u.1.1, .own (.slice u.1.2.1 (D + 1) u.1.2.2.1) (D + 1) 23 1 (svs u.1.2.2.2.1), CN gc u.1.2.2.2.2]) := by
 have hle := hD.le
 have hW := FWay_s n h t p key D hD
 have hlen := wayL_len h key p (D + 1)
 have hat := fun i (hi : i < D + 1) => wayL_at h key p hi
 refine spec_of Tryz.func21 rfl (n := 26) rfl rfl ?_
 intro W
 refine yR ?_
 refine h_opX (x_box rfl) fun g5 => ?_
 refine yS rfl ?_
 refine yN ?_
 refine yR ?_
 refine yS rfl ?_
 refine yN ?_
 refine h_seq ?_
 refine yR ?_
 refine yM rfl ?_
 refine h_op (r_loadr rfl) ?_
 refine h_call (hW.comes) rfl rfl rfl fun ⟨A12, c12⟩ => ?_
 dsimp only
 refine h_pure (φ := ∃ g, A12 = some ⟨g, 0, none⟩) (fun w s => s.ownSome (N := D + 1) (c := c12) (by omega)) ?_
 rintro ⟨g12, rfl⟩
 refine h_op (r_len rfl) ?_
 refine yM rfl ?_
 refine yN ?_
 refine h_block ?_
 refine h_nil_own 23 1 (xs := svs ([] : List Seg)) rfl ?_
 refine h_loop (fun (s : Zh × List Seg × Option Addr × Nat × Nat) => LeZ h s.1 ∧ s.2.1.length ≤ D + 1 ∧ SegsZ s.1 s.2.1 (wayPre n key t s.2.1.length) ∧ s.2.2.2.2 ≤ k + 2 * s.2.1.length) (fun (s : Zh × List Seg × Option Addr × Nat × Nat) => [(14, .int .i64 (s.2.1.length : Int)), (13, .int .i64 ((D + 1 : Nat) : Int)), (12, .slice (some ⟨g12, 0, none⟩) (D + 1) c12), (7, .slice s.2.2.1 s.2.1.length s.2.2.2.1), (0, .pointer (some ⟨gh, 0, none⟩))]) (fun (s : Zh × List Seg × Option Addr × Nat × Nat) => [.zone true s.1, .own (.slice (some ⟨g12, 0, none⟩) (D + 1) c12) (D + 1) 26 1 (ptrs (wayL h key p (D + 1))), .own (.slice s.2.2.1 s.2.1.length s.2.2.2.1) s.2.1.length 23 1 (svs s.2.1), CN gc s.2.2.2.2, HR gh gc n]) (fun (s : Zh × List Seg × Option Addr × Nat × Nat) => D + 1 - s.2.1.length) (h, [], none, 0, k) (⟨LeZ.refl h, Nat.zero_le _, ⟨rfl, fun x hx => by cases hx⟩, Nat.le_add_right _ _⟩) ⟨rfl, rfl, rfl, rfl, rfl, trivial⟩ (same) ?_
 rintro ⟨z, xs, B, c', k'⟩ ⟨hz, hxl, hsz, hk'⟩
 dsimp only at hz hxl hsz hk' ⊢
 refine yR ?_
 refine h_op (r_lss rfl rfl) ?_
 refine yN ?_
 refine h_seq ?_
 refine h_cond rfl (fun hlt => ?_) (fun hlt => ?_)
 ·have hi : xs.length < D + 1 := by omega
  have hTz : RdZ z (some ⟨1, 0, none⟩) hashT := hT.mono hz
  have htz : TrZ n z (wayK key t xs.length) (wayQ h key p xs.length) := ⟨(wayK_ok ht.ok key xs.length).mono hz⟩
  have hP := xPre_s n hn z gh gc k' (by omega) (wayK key t xs.length) (wayQ h key p xs.length)
  refine h_skip ?_
  refine q_then ?_
  refine h_seq ?_
  refine h_block ?_
  refine yR ?_
  refine h_op (r_idx rfl rfl) ?_
  refine h_op (r_nth rfl (ptrs_get (hat xs.length hi))) ?_
  refine yS rfl ?_
  refine yN ?_
  refine h_reg ?_
  refine yM rfl ?_
  refine yM rfl ?_
  refine yM rfl ?_
  refine h_call (hP.comes) rfl rfl rfl fun ⟨⟨g21, c21, k1⟩, hk1⟩ => ?_
  dsimp only at hk1 ⊢
  refine h_opX (x_bsl rfl rfl) fun g22 => ?_
  refine h_opX (x_app rfl rfl (k := 1)) fun ⟨g23, c23⟩ => ?_
  refine yS rfl ?_
  refine h_nil ?_
  refine q_block ?_
  refine q_then ?_
  refine h_reg ?_
  refine h_op (r_add rfl rfl) ?_
  refine yM rfl ?_
  refine h_nil ?_
  dsimp only
  change H _ _ _ _ _ (.own _ _ _ _ (svs xs ++ [sv (some ⟨g21, 0, none⟩, c21, preT n (wayK key t xs.length))]) :: _) _
  rw [svs_app1]
  refine h_freezeO (.slice (some ⟨g21, 0, none⟩) (preT n (wayK key t xs.length)).length c21) fun z2 B2 c2 e2 hle2 hlen2 hnil2 hz2 hr2 => ?_
  injection e2 with e2 _ e3
  subst e2 e3
  have hlx : xs.length + 1 = (xs ++ [((some ⟨g21, 0, none⟩, c21, preT n (wayK key t xs.length)) : Seg)]).length := by rw [List.length_append]; rfl
  have hsn := hsz.snoc hz2 (c := c21) hr2
  rw [← wayPre_succ] at hsn
  exact h_back (z2, xs ++ [((some ⟨g21, 0, none⟩, c21, preT n (wayK key t xs.length)) : Seg)], some ⟨g23, 0, none⟩, c23, k1) (⟨hz.trans hz2, by dsimp only; rw [← hlx]; omega, by dsimp only; rw [← hlx]; exact hsn, by dsimp only; rw [← hlx]; omega⟩) ((by dsimp only; rw [← hlx]; omega)) ⟨aI rfl (by dsimp only; rw [← hlx]; omega), rfl, rfl, by dsimp only; rw [← hlx]; rfl, rfl, trivial⟩ ((fun w s => by dsimp only; rw [← hlx]; exact same w s))
 ·have hx : xs.length = D + 1 := by omega
  rw [hx] at hsz
  rw [hx]
  refine h_exit ?_
  refine q_thenE ?_
  refine q_thenE ?_
  refine q_blockE ?_
  refine q_then ?_
  refine yR ?_
  refine yM rfl ?_
  refine yS rfl ?_
  refine yN ?_
  refine h_ret ?_
  exact h_ret1 rfl rfl fun w s => ⟨⟨(z, B, c', xs, k'), hz, hsz, by dsimp only; omega⟩, rfl, (same (L' := [.zone true z, .own (.slice B (D + 1) c') (D + 1) 23 1 (svs xs), CN gc k']) w s).res (List.Sublist.refl _) (by simp [Fa.wr])⟩
theorem xCollide_s (x y : List UInt8) (X Y : Option Addr) (cx cy : Nat) (hX : X = none → x.length = 0 ∧ cx = 0) (hY : Y = none → y.length = 0 ∧ cy = 0) (hx : x.length ≤ 100000000) (hy : y.length ≤ 100000000) : Spec Tryz.prog 28 [.pointer (some ⟨gh, 0, none⟩), .slice X x.length cx, .slice Y y.length cy].toArray [HR gh gc n, .rd X (bc x), .rd Y (bc y), .zone false h] [CN gc k] (fun u : {u : Nat // u ≤ k + 2} => .bool (!decide (x = y) && decide (sumB n x = sumB n y))) (fun u => [CN gc u.1]) := by
 refine spec_of Tryz.func28 rfl (n := 20) rfl rfl ?_
 intro W
 refine yR ?_
 refine yS rfl ?_
 refine yN ?_
 refine yR ?_
 refine yM rfl ?_
 refine yM rfl ?_
 refine h_call ((bEqual_s x y X Y cx cy).comes) rfl rfl rfl fun _ => ?_
 by_cases he : x = y
 ·rw [decide_eq_true he]
  refine h_op (r_not rfl) ?_
  refine yM rfl ?_
  refine h_opOff ?_
  refine h_opOff ?_
  refine h_opOff ?_
  refine h_opOff ?_
  refine h_opOff ?_
  refine h_opOff ?_
  refine h_opOff ?_
  refine h_op (r_pick rfl rfl) ?_
  refine yS rfl ?_
  refine yN ?_
  refine h_ret ?_
  exact h_ret1 rfl rfl fun w s => ⟨⟨k, by omega⟩, rfl, (same (L' := [CN gc k]) w s).res (List.Sublist.refl _) (by simp [Fa.wr])⟩
 ·rw [decide_eq_false he]
  refine h_op (r_not rfl) ?_
  refine yM rfl ?_
  refine yM rfl ?_
  refine yM rfl ?_
  refine h_call ((HSum_s n hn gh gc k (by omega) x X cx hX (by omega)).comes) rfl rfl rfl fun _ => ?_
  refine yM rfl ?_
  refine yM rfl ?_
  refine h_call ((HSum_s n hn gh gc (k + 1) (by omega) y Y cy hY (by omega)).comes) rfl rfl rfl fun _ => ?_
  refine h_op (r_bool (r_eqr rfl rfl) rfl) ?_
  refine h_op (r_pick rfl rfl) ?_
  refine yS rfl ?_
  refine yN ?_
  refine h_ret ?_
  exact h_ret1 rfl rfl fun w s => ⟨⟨k + 1 + 1, by omega⟩, rfl, (same (L' := [CN gc (k + 1 + 1)]) w s).res (List.Sublist.refl _) (by simp [Fa.wr])⟩
end
end Go.Proofs.YtjhocljhhpkiiaaGreatDoor
/- N21 -/
namespace Go.Proofs.YtjhocljhhpkiiaaGreatDoor
open Go.RowKit
def YAB (P : Program) (l : Nat) (args : List Value) (Rm m : List Fa) (b : Bool) (J' : List Fa → Prop) : Prop := ∀ w, Fx w m → Reads w m Rm → YieldAt Fence.wide 0 P l args.toArray w fun e w' => e = .returned (.bool b) ∧ ∃ m', J' m' ∧ Rx m w w' m'
def IterD (P : Program) (gf : FuncId) (lb : List Value) (R A : List Fa) (N d : Nat) (enc : Nat → List Value) (A' : List Fa) : Prop :=
 ∀ (l : Nat) (J : Nat → List Fa → Prop) (Rm m0 : List Fa) (w : World), (∀ k m, J k m → ∀ f ∈ m, f.wr = true) →
  (∀ k m, k < N → k ≤ d → J k m → YAB P l (enc k) Rm m (decide (k < d)) (J (k + 1))) →
  J 0 m0 → Fx w (A ++ m0) → Reads w (A ++ m0) (R ++ Rm) →
  Calls P gf (.func (.yield l) #[] #[] :: lb).toArray w fun e w' => ∃ v m', e = .returned v ∧ J (min (d + 1) N) m' ∧ Rx (A ++ m0) w w' (A' ++ m')
section
variable {A : List Fa} {W : World} {n : Nat} {D : List Deferred} {E : Env} {L M : List Fa} {P : Program} {Q : Exit → Act → World → Prop} {ro : Option Nat} {ops : List Oper} {rest : List Oper} {d : Nat} {ty : TypeId} {pos : String} {af : Array Edge} {g : Option (Nat × Bool)}
theorem wpIn_rnd {o : Oper} {a : Act} {w w' : World} {l : Nat} {fn : FuncId} {tmps : Array Value} {assign body : Code} {K : Act → World → Prop} {R : Ending → World → Prop} (h : (execOp a.eval o).run P w = .ok (.round l fn tmps assign body) w') (hround : RoundIn Fence.wide 0 P l fn tmps assign body w' R) (hK : ∀ e w'', R e w'' → ∃ v, e = .returned v ∧ K (a.put o.dst v) w'') : o.wpIn (FR ro) 0 P a w K Q := by
 refine ⟨fun _ _ => trivial, ?_⟩
 rw [show (FR ro).round = ro from rfl, semAt_ok (by simp) h]
 refine ⟨(fun hd => by cases hd), RoundIn.mono (F := FR ro) hround ?_⟩
 intro e w'' hR
 obtain ⟨v, rfl, h2⟩ := hK e w'' hR
 exact h2
theorem x_round {a : Act} {w : World} {o : Oper} {x : Operand} {ats : List Operand} {ts : Array TypeId} {l : Nat} {args : List Value} {fn : FuncId} {tmps : Array Value} {assign body : Code} (ka : Kn n D E a) (ho : o.op = .call ⟨.value x, ats.toArray, ts⟩) (hx : ev E x = some (.func (.yield l) #[] #[])) (ha : evs E ats = some args) (hrun : (Instr.yield l args.toArray).run P w = .ok (.round l fn tmps assign body) w) : (execOp a.eval o).run P w = .ok (.round l fn tmps assign body) w := by
 unfold execOp
 simp only [ho, resolve, ka.ev hx, Deferred.ofValue, Sem.run_bind, Sem.run_pure, Result.andThen_ok, invoke]
 rw [List.map_toArray, ka.evs ha, show (#[] ++ args.toArray : Array Value) = args.toArray by simp]
 exact hrun
end
section
variable {A : List Fa} {W : World} {n : Nat} {D : List Deferred} {ro : Option Nat} {P : Program} {ops : List Oper} {Q : Exit → Act → World → Prop} {Lb Lr L M : List Fa} {fuel : Nat} {listed : Array Bool} {E : Env}
variable {op : Op} {d : Nat} {ty : TypeId} {pos : String} {af : Array Edge} {g : Option (Nat × Bool)}
theorem ho_Y (i : Nat) {x : Operand} {ats : List Operand} {ts : Array TypeId} {l : Nat} {args : List Value} {m Rm : List Fa} {b : Bool} {J' : List Fa → Prop} {L' : List Fa → List Fa} (hi : ops[i]? = some ⟨some d, .call ⟨.value x, ats.toArray, ts⟩, ty, pos, af, g⟩) (hy : YAB P l args Rm m b J') (hRm : ∀ r ∈ Rm, r.wr = false) [ht : TakeT m Rm L M] [hN : ∀ m', App M (m' ++ Rm) (L' m')] (hx : ev E x = some (.func (.yield l) #[] #[])) (ha : evs E ats = some args) [hl : ∀ m', Rds (L' m') Lr]
  (hb : ∀ m' w, Sx A W w (L' m') → Sx A W w Lb) (k : ∀ m', J' m' → HA A W n D ro P ops Q Lb Lr fuel (listed.setIfInBounds i true) ((d, .bool b) :: E) (L' m')) (hd : Nat.blt d n = true := by exact rfl) (hg : wn ops.toArray E g = some true := by exact rfl) : HO A W n D ro P ops Q Lb Lr fuel listed E L i := fun a w ka s sr => by
 have s2 := s.perm ht.perm
 have hR : Reads w m Rm := fun r hr => ⟨hRm r hr, s2.ok r (by simp [hr]), fun b hb => (List.pairwise_append.1 s2.sep).2.2 b hb r (by simp [hr])⟩
 obtain ⟨fn, tmps, assign, body, hrun, hround⟩ := hy w (s2.toFx.sub (List.sublist_append_left _ _)) hR
 refine ho_mk hi (wn_run ka hg) (wpIn_rnd (x_round ka rfl hx ha hrun) hround ?_)
 rintro e w' ⟨rfl, m', hJ, hxx⟩
 have s3 := (s2.ret hxx).perm (M := L' m') (by rw [← (hN m').eq, ← List.append_assoc]; exact List.perm_append_comm)
 have h3 : Fx w' Lr := Fx.rds s3.toFx (hr := hl m')
 exact ⟨_, rfl, fun _ _ => ⟨hb m' _ s3, h3⟩, k m' hJ _ _ (ka.put hd _) s3 ⟨hb m' _ s3, h3⟩⟩
end
section
variable {A : List Fa} {W : World} {n : Nat} {D : List Deferred} {E : Env} {L M : List Fa} {P : Program} {Q : Exit → Act → World → Prop}
def RoundStop (l : Nat) (r : Loop) (S : List Fa → Prop) (m : List Fa) (W1 : World) (e : Ending) (w' : World) : Prop := e = .returned (.bool false) ∧ ∃ m', S m' ∧ Rx (.obj l (.loop r) :: m) W1 w' (.obj l (.loop { r with state := .done, pending := some .ret }) :: m')
theorem h_stopround {l : Nat} {r : Loop} {S : List Fa → Prop} {m : List Fa} (m' : List Fa) (hS : S m') (hw : ∀ f ∈ m', f.wr = true) [ht : Take (.obj l (.loop { r with state := .busy }) :: m') L M] : H (.obj l (.loop r) :: m) W n D E L (roundPost P l (RoundStop l r S m W) .ret) := fun a w ka s => by
 have s2 := (s.perm ht.perm).sub (List.sublist_append_left (.obj l (.loop { r with state := .busy }) :: m') M)
 have ho : w.heap[l]? = some (.loop { r with state := .busy }) := s2.ok (.obj _ _) (List.mem_cons_self ..)
 refine ⟨_, _, run_endRound (some .ret) ho, rfl, m', hS, ?_⟩
 have s3 := s2.putObj (.loop { { r with state := .busy } with state := .done, pending := some .ret })
 exact s3.res (List.Sublist.refl _) fun f hf => (List.mem_cons.1 hf).elim (fun h => by rw [h]; rfl) (hw f)
theorem h_rangeD {N d : Nat} {g : Operand} {ps : List Nat} {assign body : Code} {gf : FuncId} {lb : List Value} {R Ai Ai' : List Fa} {enc : Nat → List Value} (it : IterD P gf lb R Ai N d enc Ai') (hdN : d ≤ N) (hg : ev E g = some (.func (.func gf) #[] lb.toArray)) [eg : Ent P gf]
  (J : Nat → List Fa → Prop) (m0 Rm : List Fa) [ht : Take (Ai ++ m0) L M] [hr : Rds M (R ++ Rm)] (hJw : ∀ k m, J k m → ∀ f ∈ m, f.wr = true) (h0 : J 0 m0) (hps : (ps.all fun p => Nat.blt p n) = true) (hen : ∀ k, (enc k).length = ps.length)
  (hround : ∀ (l : Nat) (r : Loop) (k : Nat) (m : List Fa) (W1 : World), r.state = .ready → r.pending = none → k < N → k < d → J k m →
   H (.obj l (.loop r) :: m) W1 n [] (parEnv ps (enc k) E) (.obj l (.loop r) :: (m ++ Rm)) (assign.wpIn (FR (some l)) 0 P (Exit.then (fun a₁ w₁ => ∃ w₂, (Instr.beginRound l).run P w₁ = .ok () w₂ ∧ body.wpIn (FR (some l)) 0 P (roundPost P l (RoundOk l r (J (k + 1)) m W1)) a₁ w₂) (fun _ _ _ => False))))
  (hstop : ∀ (l : Nat) (r : Loop) (m : List Fa) (W1 : World), r.state = .ready → r.pending = none → d < N → J d m →
   H (.obj l (.loop r) :: m) W1 n [] (parEnv ps (enc d) E) (.obj l (.loop r) :: (m ++ Rm)) (assign.wpIn (FR (some l)) 0 P (Exit.then (fun a₁ w₁ => ∃ w₂, (Instr.beginRound l).run P w₁ = .ok () w₂ ∧ body.wpIn (FR (some l)) 0 P (roundPost P l (RoundStop l r (J (d + 1)) m W1)) a₁ w₂) (fun _ _ _ => False))))
  (hdone : ∀ (b : Nat) (m : List Fa), d = N → J N m → H A W n ({ target := .collected b, args := #[] } :: D) E ((Ai' ++ m) ++ (.obj b (.deferred (some [])) :: M)) (Q .normal))
  (hret : ∀ (b : Nat) (m : List Fa), d < N → J (d + 1) m → H A W n ({ target := .collected b, args := #[] } :: D) E ((Ai' ++ m) ++ (.obj b (.deferred (some [])) :: M)) (Q .ret)) :
  H A W n D E L ((Code.rangeFunc g ps.toArray assign body).wpIn (FR none) 0 P Q) := fun a w ka s => by
 refine wpIn_rangeFunc ?_
 intro fn hfn
 obtain ⟨rec, hrec⟩ : ∃ rec : Loop, rec = { state := .ready, pending := none, fn, tmps := a.tmps, params := ps.toArray, assign, body, defers := w.heap.size } := ⟨_, rfl⟩
 have s1 := (s.allocObj (.deferred (some []))).allocObj (.loop rec)
 rw [World.size_alloc] at s1
 generalize hW1 : (w.alloc (.deferred (some []))).alloc (.loop rec) = W1 at s1
 have s2 := s1.zag ht.perm
 have hev : a.eval g = .func (.func gf) #[] lb.toArray := ka.ev hg
 refine ⟨w.heap.size + 1, [{ target := .collected w.heap.size, args := #[] }], W1, { target := .fn (.func gf) lb.toArray, args := #[.func (.yield (w.heap.size + 1)) #[] #[]] }, W1, gf, #[.func (.yield (w.heap.size + 1)) #[] #[]] ++ lb.toArray, W1, ?_, ?_, ?_, ?_, (fun h => by cases h), ?_⟩
 ·rw [← hW1, hrec]
  exact run_enterLoop_outer _ _ _ _ _
 ·simp only [resolve, hev]
  simp [go_sem]
 ·intro f' _
  trivial
 ·simp only [invoke]
  exact eg.ok _ _
 ·have hcall := it (w.heap.size + 1) (fun k m => ∃ m1, m = .obj (w.heap.size + 1) (.loop (if k ≤ d then rec else { rec with state := .done, pending := some .ret })) :: m1 ∧ J k m1) Rm (.obj (w.heap.size + 1) (.loop rec) :: m0) W1 (by rintro k m ⟨m1, rfl, hm⟩ f hf; exact (List.mem_cons.1 hf).elim (fun h => by rw [h]; rfl) (hJw k m1 hm f)) ?_ ⟨m0, by rw [if_pos (Nat.zero_le _)], h0⟩ (s2.toFx.sub (List.sublist_append_left _ _)) ?_
  ·rw [show (#[.func (.yield (w.heap.size + 1)) #[] #[]] ++ lb.toArray : Array Value) = (.func (.yield (w.heap.size + 1)) #[] #[] :: lb).toArray by simp]
   refine (calls_FR hcall).mono ?_
   rintro e w3 ⟨v, m', rfl, ⟨m1, rfl, hJ⟩, hx⟩
   have s3 := s2.ret hx
   rcases Nat.lt_or_ge d N with hlt | hge
   ·rw [Nat.min_eq_left (by omega)] at hJ s3
    rw [if_neg (by omega)] at s3
    have s4 := s3.perm (M := .obj (w.heap.size + 1) (.loop { rec with state := .done, pending := some .ret }) :: ((Ai' ++ m1) ++ (.obj w.heap.size (.deferred (some [])) :: M))) (by
     simp only [List.append_assoc, List.cons_append]
     exact List.perm_middle)
    have ho : w3.heap[w.heap.size + 1]? = some (.loop { rec with state := .done, pending := some .ret }) := s4.ok (.obj _ _) (List.mem_cons_self ..)
    refine ⟨some .ret, w3.putObj (w.heap.size + 1) (.loop { { rec with state := .done, pending := some .ret } with state := .exhausted }), ?_, ?_⟩
    ·exact run_endLoop (P := P) ho (by simp)
    ·exact h_ret (hret _ m1 hlt hJ) _ _ ⟨ka.size, by show [_] ++ a.defers = _; rw [ka.defers]; rfl, ka.val⟩ (s4.putObj _).tail
   ·obtain rfl : d = N := by omega
    rw [Nat.min_eq_right (by omega)] at hJ s3
    rw [if_pos (Nat.le_refl _)] at s3
    have s4 := s3.perm (M := .obj (w.heap.size + 1) (.loop rec) :: ((Ai' ++ m1) ++ (.obj w.heap.size (.deferred (some [])) :: M))) (by
     simp only [List.append_assoc, List.cons_append]
     exact List.perm_middle)
    have ho : w3.heap[w.heap.size + 1]? = some (.loop rec) := s4.ok (.obj _ _) (List.mem_cons_self ..)
    refine ⟨none, w3.putObj (w.heap.size + 1) (.loop { rec with state := .exhausted }), ?_, ?_⟩
    ·have := run_endLoop (P := P) ho (by rw [hrec]; simp)
     have hpn : rec.pending = none := by rw [hrec]
     rw [this, hpn]
    ·exact hdone _ m1 rfl hJ _ _ ⟨ka.size, by show [_] ++ a.defers = _; rw [ka.defers]; rfl, ka.val⟩ (s4.putObj _).tail
  ·rintro k m hkN hkd ⟨m1, rfl, hJ⟩ w4 hf hR
   rw [if_pos hkd] at hf hR ⊢
   have ho : w4.heap[w.heap.size + 1]? = some (.loop rec) := hf.ok (.obj _ _) (List.mem_cons_self ..)
   have hy := run_yield (P := P) (args := (enc k).toArray) ho (by rw [hrec]; simpa using hen k)
   refine ⟨_, _, _, _, hy, ?_⟩
   have hk : Kn n [] E { tmps := a.tmps, defers := [] } := ⟨ka.size, rfl, ka.val⟩
   have hk2 := Kn.par ps (enc k) E a.tmps hps hk
   rcases Nat.lt_or_ge k d with hlt | hge
   ·have hh := hround (w.heap.size + 1) rec k m1 w4 (by rw [hrec]) (by rw [hrec]) hkN hlt hJ _ w4 hk2 (Sx.start hf hR)
    rw [hrec] at hh ⊢
    refine (roundIn_of_wpIn (F := Fence.wide) trivial (R := RoundOk (w.heap.size + 1) rec (J (k + 1)) m1 w4) ?_).mono ?_
    ·rw [hrec]
     simp only [List.zip_toArray, List.foldl_toArray]
     exact hh
    ·rintro e w5 ⟨rfl, m', hJ', hx⟩
     rw [← hrec]
     refine ⟨by rw [decide_eq_true hlt], _, ⟨m', ?_, hJ'⟩, hx⟩
     rw [if_pos (by omega)]
   ·obtain rfl : k = d := by omega
    have hh := hstop (w.heap.size + 1) rec m1 w4 (by rw [hrec]) (by rw [hrec]) hkN hJ _ w4 hk2 (Sx.start hf hR)
    rw [hrec] at hh ⊢
    refine (roundIn_of_wpIn (F := Fence.wide) trivial (R := RoundStop (w.heap.size + 1) rec (J (k + 1)) m1 w4) ?_).mono ?_
    ·rw [hrec]
     simp only [List.zip_toArray, List.foldl_toArray]
     exact hh
    ·rintro e w5 ⟨rfl, m', hJ', hx⟩
     rw [← hrec]
     refine ⟨by rw [decide_eq_false (Nat.lt_irrefl k)], _, ⟨m', ?_, hJ'⟩, hx⟩
     rw [if_neg (by omega)]
  ·refine s2.reads (M := .obj w.heap.size (.deferred (some [])) :: M) (List.Perm.refl _) ⟨fun hw r hrm => ?_⟩
   obtain ⟨h1, h2, h3⟩ := hr.ok hw.tail r hrm
   exact ⟨h1, h2, fun k hk => let ⟨f, hf, hfk⟩ := h3 k hk; ⟨f, List.mem_cons_of_mem _ hf, hfk⟩⟩
theorem iter_ofD {L1 LL : List Fa → List Fa → List Fa} {gf n : Nat} {fn : Func} {c : Code} {lb : List Value} {R Ai Ai' : List Fa} {N d : Nat} {enc : Nat → List Value} (hf : P.funcs[gf]? = some fn) (hb : fn.body = some c) (hn : fn.ntmps = n) (hl : Nat.ble (lb.length + 1) n = true) [hL1 : ∀ m0 Rm, App R (m0 ++ Rm) (L1 m0 Rm)] [hL2 : ∀ m0 Rm, App Ai (L1 m0 Rm) (LL m0 Rm)]
  (h : ∀ (l : Nat) (J : Nat → List Fa → Prop) (Rm m0 : List Fa) (W : World), (∀ k m, J k m → ∀ f ∈ m, f.wr = true) → (∀ r ∈ Rm, r.wr = false) → (∀ k m, k < N → k ≤ d → J k m → YAB P l (enc k) Rm m (decide (k < d)) (J (k + 1))) → J 0 m0 →
   H (Ai ++ m0) W n [] (argsEnv 0 (.func (.yield l) #[] #[] :: lb)) (LL m0 Rm) (c.wpIn (FR none) 0 P (bodyPostM (FR none) 0 P fn fun e w' => ∃ v m', e = .returned v ∧ J (min (d + 1) N) m' ∧ Rx (Ai ++ m0) W w' (Ai' ++ m')))) : IterD P gf lb R Ai N d enc Ai' := fun l J Rm m0 w hJw hy h0 hA hR => by
 have hl' : (Value.func (.yield l) #[] #[] :: lb).length ≤ n := by simpa using hl
 have hp : (Ai ++ m0 ++ (R ++ Rm)).Perm (Ai ++ (R ++ (m0 ++ Rm))) := by
  rw [List.append_assoc]
  refine List.Perm.append_left _ ?_
  rw [← List.append_assoc, ← List.append_assoc]
  exact List.Perm.append_right _ List.perm_append_comm
 have s := (Sx.start hA hR).perm hp
 rw [(hL1 m0 Rm).eq, (hL2 m0 Rm).eq] at s
 refine (callsIn_wide (n := 0)).1 (callsIn_of_wp_marks hf hb trivial (h l J Rm m0 w hJw (fun r hr => (hR r (List.mem_append_right _ hr)).1) hy h0 _ w ⟨?_, rfl, fun t u ht => ?_⟩ s))
 ·simp only [hn, Array.size_append, List.size_toArray, Array.size_replicate]
  omega
 ·obtain ⟨_, h2⟩ := argsEnv_look (.func (.yield l) #[] #[] :: lb) 0 t u ht
  have hlt : t < (Value.func (.yield l) #[] #[] :: lb).length := by
   obtain ⟨h3, _⟩ := List.getElem?_eq_some_iff.1 h2
   simpa using h3
  rw [Array.getElem?_append_left (by simpa using hlt)]
  simpa using h2
end
end Go.Proofs.YtjhocljhhpkiiaaGreatDoor
/- U142 -/
namespace Go.Proofs.YtjhocljhhpkiiaaGreatDoor
open Go.RowKit
class TakeA (X L : List Fa) (M : outParam (List Fa)) : Prop where
 perm : L.Perm (X ++ M)
instance iTakeA1 (X M : List Fa) : TakeA X (X ++ M) M := ⟨List.Perm.refl _⟩
instance (priority := 100) iTakeA2 (X : List Fa) (f : Fa) (L M : List Fa) [h : TakeA X L M] : TakeA X (f :: L) (f :: M) := ⟨(h.perm.cons f).trans List.perm_middle.symm⟩
section
variable {A : List Fa} {W : World} {n : Nat} {D : List Deferred} {E : Env} {K : Act → World → Prop}
theorem freezeSegs0 : ∀ (ys : List Seg) (h : Zh) (M : List Fa), (∀ x ∈ ys, ∃ g, x.1 = some ⟨g, 0, none⟩) → (∀ z', LeZ h z' → (∀ x ∈ ys, RdZ z' x.1 (bc x.2.2)) → H A W n D E (.zone true z' :: M) K) → H A W n D E (ownsOf ys ++ .zone true h :: M) K
 | [], h, M, _, k => k h (LeZ.refl h) (fun x hx => by cases hx)
 | y :: ys, h, M, hg, k => by
  obtain ⟨g, hy⟩ := hg y (List.mem_cons_self ..)
  show H A W n D E (Fa.own (sv y) y.2.2.length 5 1 (bc y.2.2) :: (ownsOf ys ++ .zone true h :: M)) K
  refine h_freezeO (sv y) (hz := ⟨List.perm_middle⟩) fun h' B c e _ _ _ hz hr => ?_
  have e1 : y.1 = B := by injection e
  refine fun a w ka s => freezeSegs0 ys h' M (fun x hx => hg x (List.mem_cons_of_mem _ hx)) (fun z' hz' hr' => k z' (hz.trans hz') fun x hx => (List.mem_cons.1 hx).elim (fun e => by rw [e, e1]; exact hr.mono hz') (hr' x)) a w ka (s.perm List.perm_middle.symm)
theorem h_freezeSegs (ys : List Seg) (ls : List (List UInt8)) (hy : SegsOk ys ls) {L M M' : List Fa} {h : Zh} [ht : TakeA (ownsOf ys) L M] [hz : TakeZ M h M'] (k : ∀ z', LeZ h z' → SegsZ z' ys ls → H A W n D E (.zone true z' :: M') K) : H A W n D E L K := fun a w ka s =>
 freezeSegs0 ys h M' hy.2 (fun z' hl hr => k z' hl ⟨hy.1, fun x hx => ⟨hy.2 x hx, hr x hx⟩⟩) a w ka (s.perm (ht.perm.trans (List.Perm.append_left _ hz.perm)))
end
theorem rSame_s (x y : List UInt8) (B B' : Option Addr) (c c' : Nat) (hl : x.length ≤ 1000000000) : Spec Tryz.prog 23 [.slice B x.length c, .slice B' y.length c'].toArray [.rd B (bc x), .rd B' (bc y)] [] (fun _ : Unit => .bool (decide (x = y))) (fun _ => []) := by
 refine spec_of Tryz.func23 rfl (n := 26) rfl rfl ?_
 intro W
 refine yR ?_
 refine yS rfl ?_
 refine yN ?_
 refine h_seq ?_
 refine yR ?_
 refine yM rfl ?_
 refine h_op (r_len rfl) ?_
 refine yM rfl ?_
 refine h_op (r_len rfl) ?_
 refine h_op (r_neq rfl rfl) ?_
 refine yN ?_
 by_cases hlen : x.length = y.length
 ·refine h_no rfl ((show ¬ ¬ ((x.length : Nat) : Int) = ((y.length : Nat) : Int) by omega)) ?_
  refine h_skip ?_
  refine q_then ?_
  refine h_seq ?_
  refine yR ?_
  refine yS rfl ?_
  refine yN ?_
  refine h_block ?_
  refine h_loop (fun (k : Nat) => k ≤ x.length ∧ x.take k = y.take k) (fun (k : Nat) => [(5, .int .i64 (k : Int)), (0, .slice B x.length c), (1, .slice B' y.length c')]) (fun (k : Nat) => [.rd B (bc x), .rd B' (bc y)]) (fun (k : Nat) => x.length - k) 0 (⟨Nat.zero_le _, rfl⟩) ⟨rfl, rfl, rfl, trivial⟩ (same) ?_
  rintro k ⟨hk, ht⟩
  refine h_seq ?_
  refine yR ?_
  refine yM rfl ?_
  refine yM rfl ?_
  refine h_op (r_len rfl) ?_
  refine h_op (r_lss rfl rfl) ?_
  refine yN ?_
  refine h_cond rfl (fun h => ?_) (fun h => ?_)
  ·have hk2 : k < x.length := by omega
   refine h_pure (φ := (∃ b o, B = some ⟨b, o, none⟩) ∧ ∃ b o, B' = some ⟨b, o, none⟩) (fun w s => ⟨Rd.some (s.ok (.rd B (bc x)) (by simp)) (by rw [bc_length]; omega), Rd.some (s.ok (.rd B' (bc y)) (by simp)) (by rw [bc_length]; omega)⟩) ?_
   rintro ⟨⟨b, o, rfl⟩, b', o', rfl⟩
   have hx := bc_at' (l := x) (i := k) hk2
   have hy := bc_at' (l := y) (i := k) (by omega)
   have ex : x[k]? = some (x.getD k 0) := by rw [List.getD_eq_getElem?_getD, List.getElem?_eq_getElem hk2]; rfl
   have ey : y[k]? = some (y.getD k 0) := by rw [List.getD_eq_getElem?_getD, List.getElem?_eq_getElem (by omega)]; rfl
   by_cases he : x.getD k 0 = y.getD k 0
   ·refine h_skip ?_
    refine q_then ?_
    refine h_seq ?_
    refine h_block ?_
    refine h_seq ?_
    refine ha_start [.rd (some ⟨b, o, none⟩) (bc x), .rd (some ⟨b', o', none⟩) (bc y)] [] mixed (same) ?_
    refine ha_takeP 0 rfl (r_move rfl) ?_
    refine ha_takeP 1 rfl (r_move rfl) ?_
    refine ha_takeP 2 rfl (r_idx rfl rfl) ?_
    refine ha_take 3 rfl (r_nth rfl hx) ?_
    refine ha_takeP 4 rfl (r_move rfl) ?_
    refine ha_takeP 5 rfl (r_move rfl) ?_
    refine ha_takeP 6 rfl (r_idx rfl rfl) ?_
    refine ha_take 7 rfl (r_nth rfl hy) ?_
    refine ha_takeP 8 rfl (r_bool (r_neq rfl rfl) (decide_eq_false (fun hh => hh (by rw [he])))) ?_
    refine ha_done (by kernel_rfl) ?_
    refine q_then ?_
    refine h_condF rfl ?_
    refine h_skip ?_
    refine q_block ?_
    refine q_then ?_
    refine h_reg ?_
    refine yM rfl ?_
    refine h_op (r_add rfl rfl) ?_
    refine yS rfl ?_
    refine h_nil ?_
    exact h_back (k + 1) (⟨hk2, by rw [List.take_add_one, List.take_add_one, ht, ex, ey, he]⟩) (by omega) ⟨rfl, rfl, rfl, trivial⟩ (same)
   ·have hne : ¬ x = y := fun h => he (by rw [h])
    rw [decide_eq_false hne]
    refine h_skip ?_
    refine q_then ?_
    refine h_seq ?_
    refine h_block ?_
    refine h_seq ?_
    refine ha_start [.rd (some ⟨b, o, none⟩) (bc x), .rd (some ⟨b', o', none⟩) (bc y)] [] mixed (same) ?_
    refine ha_takeP 0 rfl (r_move rfl) ?_
    refine ha_takeP 1 rfl (r_move rfl) ?_
    refine ha_takeP 2 rfl (r_idx rfl rfl) ?_
    refine ha_take 3 rfl (r_nth rfl hx) ?_
    refine ha_takeP 4 rfl (r_move rfl) ?_
    refine ha_takeP 5 rfl (r_move rfl) ?_
    refine ha_takeP 6 rfl (r_idx rfl rfl) ?_
    refine ha_take 7 rfl (r_nth rfl hy) ?_
    refine ha_takeP 8 rfl (r_bool (r_neq rfl rfl) (decide_eq_true (fun hh => he (UInt8.toNat_inj.1 (Int.ofNat.inj hh))))) ?_
    refine ha_done (by kernel_rfl) ?_
    refine q_then ?_
    refine h_condT rfl ?_
    refine yR ?_
    refine yS rfl ?_
    refine yN ?_
    refine h_ret ?_
    refine q_blockR ?_
    refine q_thenR ?_
    refine q_thenR ?_
    refine q_blockR ?_
    refine q_thenR ?_
    exact h_ret1 rfl rfl fun w s => ⟨(), rfl, s.res (List.nil_sublist _) (by simp)⟩
  ·obtain rfl : k = x.length := by omega
   rw [List.take_length, hlen, List.take_length] at ht
   rw [decide_eq_true ht]
   refine h_exit ?_
   refine q_thenE ?_
   refine q_thenE ?_
   refine q_blockE ?_
   refine q_then ?_
   refine yR ?_
   refine yS rfl ?_
   refine yN ?_
   refine h_ret ?_
   exact h_ret1 rfl rfl fun w s => ⟨(), rfl, s.res (List.nil_sublist _) (by simp)⟩
 ·rw [decide_eq_false (show ¬ x = y from fun h => hlen (congrArg List.length h))]
  refine h_yes rfl ((show ¬ ((x.length : Nat) : Int) = ((y.length : Nat) : Int) by omega)) ?_
  refine yR ?_
  refine yS rfl ?_
  refine yN ?_
  refine h_ret ?_
  refine q_thenR ?_
  exact h_ret1 rfl rfl fun w s => ⟨(), rfl, s.res (List.nil_sublist _) (by simp)⟩
abbrev zSeg : Seg := (none, 0, [])
theorem svs_at' {xs : List Seg} {k : Nat} (h : k < xs.length) : (svs xs)[k]? = some (sv (xs.getD k zSeg)) := by
 unfold svs
 rw [List.getElem?_map, List.getD_eq_getElem?_getD, List.getElem?_eq_getElem h]
 rfl
theorem svs_length (xs : List Seg) : (svs xs).length = xs.length := by simp [svs]
theorem pairs_s (X Y : Option Addr) (nx ny cx cy : Nat) : Spec Tryz.prog 142 [.slice X nx cx, .slice Y ny cy].toArray [] [] (fun u : Nat × Nat => .func (.func 193) #[] [.pointer (some ⟨u.1, 0, none⟩), .pointer (some ⟨u.2, 0, none⟩)].toArray) (fun u => [.blk u.1 [.slice X nx cx] 38, .blk u.2 [.slice Y ny cy] 38]) := by
 refine spec_of Tryz.func142 rfl (n := 6) rfl rfl ?_
 intro W
 refine yR ?_
 refine h_opX (x_box1 rfl) fun g2 => ?_
 refine h_opX (x_box1 rfl) fun g3 => ?_
 refine yS rfl ?_
 refine yN ?_
 refine yR ?_
 refine h_op (r_func rfl rfl) ?_
 refine yS rfl ?_
 refine yN ?_
 refine h_ret ?_
 exact h_ret1 rfl rfl fun w s => ⟨(g2, g3), rfl, (same w s).res (List.Sublist.refl _) (by simp [Fa.wr])⟩
theorem pairs_it (xs ys : List Seg) (X Y : Option Addr) (cx cy g1 g2 d : Nat) (hxl : xs.length ≤ 1000000) (hyl : ys.length ≤ 1000000) (hd : d ≤ min xs.length ys.length) : IterD Tryz.prog 193 [.pointer (some ⟨g1, 0, none⟩), .pointer (some ⟨g2, 0, none⟩)] [.rd (some ⟨g1, 0, none⟩) [.slice X xs.length cx], .rd (some ⟨g2, 0, none⟩) [.slice Y ys.length cy], .rd X (svs xs), .rd Y (svs ys)] [] (min xs.length ys.length) d (fun k => [sv (xs.getD k zSeg), sv (ys.getD k zSeg)]) [] := by
 refine iter_ofD Tryz.func193 rfl (n := 29) rfl rfl ?_
 intro l J Rm m0 W hJw hRm hy h0
 refine yR ?_
 refine yS rfl ?_
 refine yN ?_
 refine h_block ?_
 refine h_loop (fun (s : Nat × List Fa) => s.1 ≤ d ∧ J s.1 s.2) (fun (s : Nat × List Fa) => [(4, .int .i64 (s.1 : Int)), (0, .func (.yield l) #[] #[]), (1, .pointer (some ⟨g1, 0, none⟩)), (2, .pointer (some ⟨g2, 0, none⟩))]) (fun (s : Nat × List Fa) => .rd (some ⟨g1, 0, none⟩) [.slice X xs.length cx] :: .rd (some ⟨g2, 0, none⟩) [.slice Y ys.length cy] :: .rd X (svs xs) :: .rd Y (svs ys) :: (s.2 ++ Rm)) (fun (s : Nat × List Fa) => d + 1 - s.1) (0, m0) ((show 0 ≤ d ∧ J 0 m0 from ⟨Nat.zero_le _, h0⟩)) ⟨rfl, rfl, rfl, rfl, trivial⟩ (fun _ s => s) ?_
 rintro ⟨k, mm⟩ ⟨hk, hJ⟩
 dsimp only at hk hJ ⊢
 refine h_seq ?_
 refine h_seq ?_
 by_cases hN : k < min xs.length ys.length
 ·refine h_pure (φ := (∃ b o, X = some ⟨b, o, none⟩) ∧ ∃ b o, Y = some ⟨b, o, none⟩) (fun w s => ⟨Rd.some (s.ok (.rd X (svs xs)) (by simp)) (by rw [svs_length]; omega), Rd.some (s.ok (.rd Y (svs ys)) (by simp)) (by rw [svs_length]; omega)⟩) ?_
  rintro ⟨⟨b, o, rfl⟩, b', o', rfl⟩
  have hx := svs_at' (xs := xs) (k := k) (by omega)
  have hy' := svs_at' (xs := ys) (k := k) (by omega)
  have hyk := hy k mm hN hk hJ
  by_cases hkd : k < d
  ·rw [decide_eq_true hkd] at hyk
   refine ha_start [.rd (some ⟨g1, 0, none⟩) [.slice (some ⟨b, o, none⟩) xs.length cx], .rd (some ⟨g2, 0, none⟩) [.slice (some ⟨b', o', none⟩) ys.length cy], .rd (some ⟨b, o, none⟩) (svs xs), .rd (some ⟨b', o', none⟩) (svs ys)] [] mixed (same) ?_
   refine ha_takeP 0 rfl (r_move rfl) ?_
   refine ha_take 1 rfl (r_loadc rfl) ?_
   refine ha_takeP 2 rfl (r_len rfl) ?_
   refine ha_takeP 3 rfl (r_bool (r_lss rfl rfl) (decide_eq_true (by omega))) ?_
   refine ha_takeP 4 rfl (r_move rfl) ?_
   refine ha_takeP 5 rfl (r_move rfl) ?_
   refine ha_take 6 rfl (r_loadc rfl) ?_
   refine ha_takeP 7 rfl (r_len rfl) ?_
   refine ha_takeP 8 rfl (r_bool (r_lss rfl rfl) (decide_eq_true (by omega))) ?_
   refine ha_takeP 9 rfl (r_pick rfl rfl) ?_
   refine ha_takeP 10 rfl (r_move rfl) ?_
   refine ha_takeP 11 rfl (r_move rfl) ?_
   refine ha_take 12 rfl (r_loadc rfl) ?_
   refine ha_takeP 13 rfl (r_move rfl) ?_
   refine ha_takeP 14 rfl (r_idx rfl rfl) ?_
   refine ha_take 15 rfl (r_nth rfl hx) ?_
   refine ha_take 16 rfl (r_loadc rfl) ?_
   refine ha_takeP 17 rfl (r_move rfl) ?_
   refine ha_takeP 18 rfl (r_idx rfl rfl) ?_
   refine ha_take 19 rfl (r_nth rfl hy') ?_
   refine ha_one 20 ?_
   refine ho_Y 20 rfl (hyk) hRm rfl rfl (fun xx => same) fun m' hJ' => ?_
   refine ha_takeP 21 rfl (r_pick rfl rfl) ?_
   refine ha_done (by kernel_rfl) ?_
   refine q_then ?_
   refine h_condT rfl ?_
   refine h_skip ?_
   refine q_then ?_
   refine h_seq ?_
   refine h_block ?_
   refine h_skip ?_
   refine q_block ?_
   refine q_then ?_
   refine h_reg ?_
   refine yM rfl ?_
   refine h_op (r_add rfl rfl) ?_
   refine yS rfl ?_
   refine h_nil ?_
   exact h_back (k + 1, m') ((show k + 1 ≤ d ∧ J (k + 1) m' from ⟨hkd, hJ'⟩)) ((show d + 1 - (k + 1) < d + 1 - k by omega)) ⟨rfl, rfl, rfl, rfl, trivial⟩ (fun _ s => s)
  ·obtain rfl : k = d := by omega
   rw [decide_eq_false (Nat.lt_irrefl k)] at hyk
   refine ha_start [.rd (some ⟨g1, 0, none⟩) [.slice (some ⟨b, o, none⟩) xs.length cx], .rd (some ⟨g2, 0, none⟩) [.slice (some ⟨b', o', none⟩) ys.length cy], .rd (some ⟨b, o, none⟩) (svs xs), .rd (some ⟨b', o', none⟩) (svs ys)] [] mixed (same) ?_
   refine ha_takeP 0 rfl (r_move rfl) ?_
   refine ha_take 1 rfl (r_loadc rfl) ?_
   refine ha_takeP 2 rfl (r_len rfl) ?_
   refine ha_takeP 3 rfl (r_bool (r_lss rfl rfl) (decide_eq_true (by omega))) ?_
   refine ha_takeP 4 rfl (r_move rfl) ?_
   refine ha_takeP 5 rfl (r_move rfl) ?_
   refine ha_take 6 rfl (r_loadc rfl) ?_
   refine ha_takeP 7 rfl (r_len rfl) ?_
   refine ha_takeP 8 rfl (r_bool (r_lss rfl rfl) (decide_eq_true (by omega))) ?_
   refine ha_takeP 9 rfl (r_pick rfl rfl) ?_
   refine ha_takeP 10 rfl (r_move rfl) ?_
   refine ha_takeP 11 rfl (r_move rfl) ?_
   refine ha_take 12 rfl (r_loadc rfl) ?_
   refine ha_takeP 13 rfl (r_move rfl) ?_
   refine ha_takeP 14 rfl (r_idx rfl rfl) ?_
   refine ha_take 15 rfl (r_nth rfl hx) ?_
   refine ha_take 16 rfl (r_loadc rfl) ?_
   refine ha_takeP 17 rfl (r_move rfl) ?_
   refine ha_takeP 18 rfl (r_idx rfl rfl) ?_
   refine ha_take 19 rfl (r_nth rfl hy') ?_
   refine ha_one 20 ?_
   refine ho_Y 20 rfl (hyk) hRm rfl rfl (fun xx => same) fun m' hJ' => ?_
   refine ha_takeP 21 rfl (r_pick rfl rfl) ?_
   refine ha_done (by kernel_rfl) ?_
   refine q_then ?_
   refine h_condF rfl ?_
   refine h_exit ?_
   refine q_thenE ?_
   refine q_thenE ?_
   refine q_blockE ?_
   refine h_end ?_
   exact h_ret0 rfl fun w s => ⟨_, m', rfl, by rw [Nat.min_eq_left (by omega)]; exact hJ', s.res (((((List.sublist_append_left _ _).cons _).cons _).cons _).cons _) (hJw _ _ hJ')⟩
 ·obtain rfl : k = d := by omega
  have hke : k = min xs.length ys.length := by omega
  have hfin : J (min (k + 1) (min xs.length ys.length)) mm := by rw [Nat.min_eq_right (by omega), ← hke]; exact hJ
  by_cases hx : k < xs.length
  ·refine ha_start [.rd (some ⟨g1, 0, none⟩) [.slice X xs.length cx], .rd (some ⟨g2, 0, none⟩) [.slice Y ys.length cy]] [] mixed (same) ?_
   refine ha_takeP 0 rfl (r_move rfl) ?_
   refine ha_take 1 rfl (r_loadc rfl) ?_
   refine ha_takeP 2 rfl (r_len rfl) ?_
   refine ha_takeP 3 rfl (r_bool (r_lss rfl rfl) (decide_eq_true (by omega))) ?_
   refine ha_takeP 4 rfl (r_move rfl) ?_
   refine ha_takeP 5 rfl (r_move rfl) ?_
   refine ha_take 6 rfl (r_loadc rfl) ?_
   refine ha_takeP 7 rfl (r_len rfl) ?_
   refine ha_takeP 8 rfl (r_bool (r_lss rfl rfl) (decide_eq_false (by omega))) ?_
   refine ha_takeP 9 rfl (r_pick rfl rfl) ?_
   refine ha_takeP 10 rfl (r_move rfl) ?_
   refine ha_off 11 rfl ?_
   refine ha_off 12 rfl ?_
   refine ha_off 13 rfl ?_
   refine ha_off 14 rfl ?_
   refine ha_off 15 rfl ?_
   refine ha_off 16 rfl ?_
   refine ha_off 17 rfl ?_
   refine ha_off 18 rfl ?_
   refine ha_off 19 rfl ?_
   refine ha_off 20 rfl ?_
   refine ha_takeP 21 rfl (r_pick rfl rfl) ?_
   refine ha_done (by kernel_rfl) ?_
   refine q_then ?_
   refine h_condF rfl ?_
   refine h_exit ?_
   refine q_thenE ?_
   refine q_thenE ?_
   refine q_blockE ?_
   refine h_end ?_
   exact h_ret0 rfl fun w s => ⟨_, mm, rfl, hfin, s.res (((((List.sublist_append_left _ _).cons _).cons _).cons _).cons _) (hJw _ _ hJ)⟩
  ·refine ha_start [.rd (some ⟨g1, 0, none⟩) [.slice X xs.length cx], .rd (some ⟨g2, 0, none⟩) [.slice Y ys.length cy]] [] mixed (same) ?_
   refine ha_takeP 0 rfl (r_move rfl) ?_
   refine ha_take 1 rfl (r_loadc rfl) ?_
   refine ha_takeP 2 rfl (r_len rfl) ?_
   refine ha_takeP 3 rfl (r_bool (r_lss rfl rfl) (decide_eq_false (by omega))) ?_
   refine ha_takeP 4 rfl (r_move rfl) ?_
   refine ha_off 5 rfl ?_
   refine ha_off 6 rfl ?_
   refine ha_off 7 rfl ?_
   refine ha_off 8 rfl ?_
   refine ha_takeP 9 rfl (r_pick rfl rfl) ?_
   refine ha_takeP 10 rfl (r_move rfl) ?_
   refine ha_off 11 rfl ?_
   refine ha_off 12 rfl ?_
   refine ha_off 13 rfl ?_
   refine ha_off 14 rfl ?_
   refine ha_off 15 rfl ?_
   refine ha_off 16 rfl ?_
   refine ha_off 17 rfl ?_
   refine ha_off 18 rfl ?_
   refine ha_off 19 rfl ?_
   refine ha_off 20 rfl ?_
   refine ha_takeP 21 rfl (r_pick rfl rfl) ?_
   refine ha_done (by kernel_rfl) ?_
   refine q_then ?_
   refine h_condF rfl ?_
   refine h_exit ?_
   refine q_thenE ?_
   refine q_thenE ?_
   refine q_blockE ?_
   refine h_end ?_
   exact h_ret0 rfl fun w s => ⟨_, mm, rfl, hfin, s.res (((((List.sublist_append_left _ _).cons _).cons _).cons _).cons _) (hJw _ _ hJ)⟩
end Go.Proofs.YtjhocljhhpkiiaaGreatDoor
/- E33 -/
namespace Go.Proofs.YtjhocljhhpkiiaaGreatDoor
open Go.RowKit
def difI : List (List UInt8) → List (List UInt8) → Nat
 | x :: xs, y :: ys => if x = y then difI xs ys + 1 else 0
 | _, _ => 0
theorem difI_le : ∀ xs ys, difI xs ys ≤ min xs.length ys.length
 | [], ys => by simp [difI]
 | x :: xs, [] => by simp [difI]
 | x :: xs, y :: ys => by
  have ih := difI_le xs ys
  unfold difI
  split
  ·simp only [List.length_cons]; omega
  ·omega
theorem difI_eq : ∀ xs ys k, k < difI xs ys → xs.getD k [] = ys.getD k []
 | [], ys, k, h => by simp [difI] at h
 | x :: xs, [], k, h => by simp [difI] at h
 | x :: xs, y :: ys, k, h => by
  unfold difI at h
  split at h
  ·rename_i e
   cases k with
   | zero => simpa using e
   | succ k => simpa using difI_eq xs ys k (by omega)
  ·omega
theorem difI_ne : ∀ xs ys, difI xs ys < min xs.length ys.length → xs.getD (difI xs ys) [] ≠ ys.getD (difI xs ys) []
 | [], ys, h => by simp at h
 | x :: xs, [], h => by simp at h
 | x :: xs, y :: ys, h => by
  unfold difI at h ⊢
  split at h
  ·rename_i e
   rw [if_pos e]
   have := difI_ne xs ys (by simp only [List.length_cons] at h; omega)
   simpa using this
  ·rename_i e
   rw [if_neg e]
   simpa using e
def findP (ws ls : List (List UInt8)) (a b : List UInt8) : List UInt8 × List UInt8 := if difI ws ls < min ws.length ls.length then (ws.getD (difI ws ls) [], ls.getD (difI ws ls) []) else (a, b)
end Go.Proofs.YtjhocljhhpkiiaaGreatDoor
/- U143 -/
namespace Go.Proofs.YtjhocljhhpkiiaaGreatDoor
open Go.RowKit
structure PZ (h : Zh) (X : Option Addr) (c : Nat) (x : List UInt8) : Prop where
 nil : X = none → x.length = 0 ∧ c = 0
 rd : RdZ h X (bc x)
theorem PZ.mono {h h' : Zh} (hl : LeZ h h') {X : Option Addr} {c : Nat} {x : List UInt8} (p : PZ h X c x) : PZ h' X c x := ⟨p.nil, p.rd.mono hl⟩
theorem SegsZ.get {h : Zh} {xs : List Seg} {ls : List (List UInt8)} (s : SegsZ h xs ls) {k : Nat} (hk : k < xs.length) : (∃ g, (xs.getD k zSeg).1 = some ⟨g, 0, none⟩) ∧ RdZ h (xs.getD k zSeg).1 (bc (xs.getD k zSeg).2.2) ∧ (xs.getD k zSeg).2.2 = ls.getD k [] := by
 have hx : xs[k]? = some (xs.getD k zSeg) := by rw [List.getD_eq_getElem?_getD, List.getElem?_eq_getElem hk]; rfl
 obtain ⟨h1, h2⟩ := s.2 _ (List.mem_of_getElem? hx)
 refine ⟨h1, h2, ?_⟩
 have h3 : (xs.map fun x : Seg => x.2.2)[k]? = ls[k]? := by rw [s.1]
 rw [List.getElem?_map, hx, Option.map_some] at h3
 rw [List.getD_eq_getElem?_getD (l := ls), ← h3]
 rfl
theorem SegsZ.mono {h h' : Zh} (hl : LeZ h h') {xs : List Seg} {ls : List (List UInt8)} (s : SegsZ h xs ls) : SegsZ h' xs ls := ⟨s.1, fun x hx => ⟨(s.2 x hx).1, (s.2 x hx).2.mono hl⟩⟩
section
variable (n : Nat) (hn : n ≤ 256) (h : Zh) [hT : RdZ h (some ⟨1, 0, none⟩) hashT] (gh gc k : Nat) (hk : k ≤ 10000000000) (m : List En) (p : Option Addr) [ht : TrZ n h (mkT m 0) p] (c : Claim) (kb vb : List UInt8) [hK : SlZ h c.key kb] [hV : SlZ h c.value vb] (hk32 : kb.length = 32) (hvb : vb.length ≤ 100000000) (hvl : ∀ e ∈ m, e.val.length ≤ 100000000) (D : Nat) (w : WayM (keyOf kb) m D) (ys : List Seg) (ls : List (List UInt8)) (Y : Option Addr) (cy : Nat) [hY : RdZ h Y (svs ys)] (hys : SegsZ h ys ls) (hyl : ys.length ≤ 1000000)
include hn hk hk32 hvb hvl w hys hyl
theorem xCompare_s (x y : List UInt8) (hF : findP (wayPre n (keyOf kb) (mkT m 0) (D + 1)) ls (preV (getV (getE' m (keyOf kb)))) (preV vb) = (x, y)) : Spec Tryz.prog 84 [.pointer (some ⟨gh, 0, none⟩), .pointer p, .agg c.cells.toArray, .slice Y ys.length cy].toArray [HR gh gc n] [.zone true h, CN gc k] (fun u : {u : Zh × (Option Addr × Nat) × (Option Addr × Nat) × Nat // LeZ h u.1 ∧ PZ u.1 u.2.1.1 u.2.1.2 x ∧ PZ u.1 u.2.2.1.1 u.2.2.1.2 y ∧ u.2.2.2 ≤ k + 1000} => .tuple #[.slice u.1.2.1.1 x.length u.1.2.1.2, .slice u.1.2.2.1.1 y.length u.1.2.2.1.2, .bool true]) (fun u => [.zone true u.1.1, CN gc u.1.2.2.2]) := by
 have hkn := hK.len
 have hvn := hV.len
 have hVr : RdZ h c.value.A (bc vb) := hV.rd
 have hVnil := hV.nil
 have hKr : RdZ h c.key.A (keyOf kb).cells := by rw [keyOf_cells hk32]; exact hK.rd
 have hD := w.way.le
 have hWy := xWay_s n hn h gh gc k hk (mkT m 0) p (keyOf kb) D w.way
 have hgl : ∀ g, getE' m (keyOf kb) = g → (getV g).length ≤ 100000000 := fun g hg => by
  cases g with
  | none => exact Nat.zero_le _
  | some e => exact hvl e (List.mem_of_find?_eq_some hg)
 have hgl := hgl _ rfl
 obtain ⟨⟨kA, kn, kc⟩, ⟨vA, vn, vc⟩, pr⟩ := c
 dsimp only at hkn hvn hKr hVr hVnil ⊢
 subst hkn hvn
 obtain ⟨bK, oK, rfl, -⟩ := hKr.at_ 0 _ (List.getElem?_eq_getElem (by rw [B32.cells_length]; decide))
 have hyle := hys.len
 refine spec_of Tryz.func84 rfl (n := 45) rfl rfl ?_
 intro W
 refine yR ?_
 refine h_opX (x_box rfl) fun g6 => ?_
 refine h_opX (x_alloc) fun g8 => ?_
 refine h_opX (x_alloc) fun g9 => ?_
 refine h_opX (x_alloc) fun g10 => ?_
 refine yN ?_
 refine yR ?_
 refine h_op (r_field rfl) ?_
 refine h_op (r_loadc rfl) ?_
 refine h_op (r_arr rfl (hm := show 32 ≤ kb.length by omega)) ?_
 refine h_op (r_loadr rfl) ?_
 refine h_opX (x_alloc) fun g11 => ?_
 refine h_opS (s_storer rfl rfl) ?_
 refine yN ?_
 refine h_seq ?_
 refine yR ?_
 refine yM rfl ?_
 refine yM rfl ?_
 refine h_op (r_loadr rfl) ?_
 refine h_call (hWy.comes) rfl rfl rfl fun ⟨⟨z1, X, cx, xs, k1⟩, hz1, hsx, hk1⟩ => ?_
 dsimp only at hz1 hsx hk1 ⊢
 have hxl := hsx.len
 rw [wayPre_len] at hxl
 rw [← hxl]
 refine h_freezeO (.slice X xs.length cx) fun z2 B2 c2 e2 hle2 hlen2 hnil2 hz2 hrX => ?_
 injection e2 with e2 _ e3
 subst e2 e3
 have hz12 := hz1.trans hz2
 have hsx2 := hsx.mono hz2
 have hsy2 := hys.mono hz12
 have hY2 : RdZ z2 Y (svs ys) := hY.mono hz12
 have hVr2 : RdZ z2 vA (bc vb) := hVr.mono hz12
 have ht2 : TrZ n z2 (mkT m 0) p := ⟨ht.ok.mono hz12⟩
 have hwl : (wayPre n (keyOf kb) (mkT m 0) (D + 1)).length = xs.length := by rw [wayPre_len, hxl]
 generalize wayPre n (keyOf kb) (mkT m 0) (D + 1) = ws at *
 obtain ⟨d, hd⟩ : ∃ d, difI ws ls = d := ⟨_, rfl⟩
 have hdle := difI_le ws ls
 have hdeq := difI_eq ws ls
 have hdne := difI_ne ws ls
 unfold findP at hF
 rw [hd, hwl, ← hyle] at hdle hdne hF
 rw [hd] at hdeq
 refine yM rfl ?_
 refine h_call ((pairs_s X Y xs.length ys.length cx cy).comes) rfl rfl rfl fun ⟨g1, g2⟩ => ?_
 dsimp only
 refine yN ?_
 refine h_block ?_
 refine h_rangeD (pairs_it xs ys X Y cx cy g1 g2 d (by omega) hyl hdle) hdle rfl (fun k mm => mm = if k ≤ d then [.blk g8 [.slice none 0 0] 23, .blk g9 [.slice none 0 0] 23, .blk g10 [.bool false] 4] else [.blk g8 [sv (xs.getD d zSeg)] 23, .blk g9 [sv (ys.getD d zSeg)] 23, .blk g10 [.bool true] 4]) [.blk g8 [.slice none 0 0] 23, .blk g9 [.slice none 0 0] 23, .blk g10 [.bool false] 4] [.zone false z2] (by rintro k mm rfl f hf; split at hf <;> (simp only [List.mem_cons, List.not_mem_nil, or_false] at hf; rcases hf with rfl | rfl | rfl <;> rfl)) (if_pos (Nat.zero_le _)).symm rfl (fun _ => rfl) ?_ ?_ ?_ ?_
 ·intro ll rr i mm W1 hr hrp hiN hid hJ
  rw [if_pos (by omega)] at hJ
  subst hJ
  obtain ⟨⟨ga, ha⟩, hxr, hxb⟩ := hsx2.get (k := i) (by omega)
  obtain ⟨⟨gb, hb⟩, hyr, hyb⟩ := hsy2.get (k := i) (by omega)
  have heq := hdeq i hid
  rw [← hxb, ← hyb] at heq
  generalize xs.getD i zSeg = sx at *
  generalize ys.getD i zSeg = sy at *
  have hB := bEqual_s sx.2.2 sy.2.2 sx.1 sy.1 sx.2.1 sy.2.1
  rw [decide_eq_true heq] at hB
  simp only [List.nil_append, List.cons_append]
  refine yR ?_
  refine yS rfl ?_
  refine yN ?_
  refine h_reg ?_
  refine yS rfl ?_
  refine yN ?_
  refine h_begin hr ?_
  refine h_block ?_
  refine yR ?_
  refine yM rfl ?_
  refine yM rfl ?_
  refine h_call (hB.comes) rfl rfl rfl fun _ => ?_
  refine h_op (r_not rfl) ?_
  refine yN ?_
  refine h_condF rfl ?_
  refine h_skip ?_
  refine q_block ?_
  exact h_endround [.blk g8 [.slice none 0 0] 23, .blk g9 [.slice none 0 0] 23, .blk g10 [.bool false] 4] hr hrp (by rw [if_pos (by omega)]) (by intro f hf; simp only [List.mem_cons, List.not_mem_nil, or_false] at hf; rcases hf with rfl | rfl | rfl <;> rfl)
 ·intro ll rr mm W1 hr hrp hdN hJ
  rw [if_pos (Nat.le_refl _)] at hJ
  subst hJ
  obtain ⟨⟨ga, ha⟩, hxr, hxb⟩ := hsx2.get (k := d) (by omega)
  obtain ⟨⟨gb, hb⟩, hyr, hyb⟩ := hsy2.get (k := d) (by omega)
  have hne := hdne hdN
  rw [← hxb, ← hyb] at hne
  rw [if_neg (by omega)]
  generalize xs.getD d zSeg = sx at *
  generalize ys.getD d zSeg = sy at *
  have hB := bEqual_s sx.2.2 sy.2.2 sx.1 sy.1 sx.2.1 sy.2.1
  rw [decide_eq_false hne] at hB
  simp only [List.nil_append, List.cons_append]
  refine yR ?_
  refine yS rfl ?_
  refine yN ?_
  refine h_reg ?_
  refine yS rfl ?_
  refine yN ?_
  refine h_begin hr ?_
  refine h_block ?_
  refine yR ?_
  refine yM rfl ?_
  refine yM rfl ?_
  refine h_call (hB.comes) rfl rfl rfl fun _ => ?_
  refine h_op (r_not rfl) ?_
  refine yN ?_
  refine h_condT rfl ?_
  refine yR ?_
  refine yM rfl ?_
  refine yM rfl ?_
  refine h_opS (s_store rfl rfl rfl) ?_
  refine h_opS (s_store rfl rfl rfl) ?_
  refine h_opS (s_store rfl rfl rfl) ?_
  refine yN ?_
  refine h_ret ?_
  refine q_blockR ?_
  exact h_stopround [.blk g8 [sv sx] 23, .blk g9 [sv sy] 23, .blk g10 [.bool true] 4] rfl (by intro f hf; simp only [List.mem_cons, List.not_mem_nil, or_false] at hf; rcases hf with rfl | rfl | rfl <;> rfl)
 ·intro bb mm hdN hJ
  rw [if_pos (by omega)] at hJ
  subst hJ
  rw [if_neg (by omega)] at hF
  injection hF with hF1 hF2
  subst hF1 hF2
  have hG := FGet_s n z2 m p (keyOf kb) D w (fun e he => by have := hvl e he; omega)
  generalize getE' m (keyOf kb) = g at *
  refine q_block ?_
  refine q_then ?_
  simp only [List.nil_append, List.cons_append]
  refine yR ?_
  refine yM rfl ?_
  refine h_op (r_loadr rfl) ?_
  refine h_call (hG.comes) rfl rfl rfl fun ⟨A37, c37⟩ => ?_
  dsimp only
  refine h_freezeO (.slice A37 (getV g).length c37) fun z3 B3 c3 e3 hle3 hlen3 hnil3 hz3 hr3 => ?_
  injection e3 with e3 _ e3'
  subst e3 e3'
  have hVr3 : RdZ z3 vA (bc vb) := hVr2.mono hz3
  refine yM rfl ?_
  refine h_op (r_extract rfl rfl) ?_
  refine h_op (r_extract rfl rfl) ?_
  refine yS rfl ?_
  refine yS rfl ?_
  refine yN ?_
  refine h_seq ?_
  refine ha_start [.blk g6 (Claim.cells ⟨⟨some ⟨bK, oK, none⟩, kb.length, kc⟩, ⟨vA, vb.length, vc⟩, pr⟩) 25] [] mixed (same) ?_
  refine ha_takeP 0 rfl (r_move rfl) ?_
  refine ha_takeP 2 rfl (r_field rfl) ?_
  refine ha_take 3 rfl (r_loadc rfl) ?_
  refine ha_one 1 ?_
  refine ho_C 1 rfl ((pValue_s (getV g) A37 c37 hnil3 hgl).comes) rfl rfl rfl (fun xx => same) fun ⟨g41, c41⟩ => ?_
  refine ha_one 4 ?_
  refine ho_C 4 rfl ((pValue_s vb vA vc (fun e => by have := hVnil e; omega) hvb).comes) rfl rfl rfl (fun xx => same) fun ⟨g44, c44⟩ => ?_
  refine ha_one 5 ?_
  refine ho_S 5 rfl (s_store rfl rfl rfl) (same) ?_
  refine ha_one 6 ?_
  refine ho_S 6 rfl (s_store rfl rfl rfl) (same) ?_
  refine ha_one 7 ?_
  refine ho_SL 7 rfl (s_store rfl rfl rfl) ?_
  refine q_then ?_
  dsimp only
  refine h_freezeO (.slice (some ⟨g41, 0, none⟩) (preV (getV g)).length c41) fun z4 B4 c4 e4 hle4 hlen4 hnil4 hz4 hr4 => ?_
  injection e4 with e4 _ e4'
  subst e4 e4'
  refine h_freezeO (.slice (some ⟨g44, 0, none⟩) (preV vb).length c44) fun z5 B5 c5 e5 hle5 hlen5 hnil5 hz5 hr5 => ?_
  injection e5 with e5 _ e5'
  subst e5 e5'
  refine h_ret ?_
  refine h_mark ?_
  exact h_ret3 rfl (rv_cell rfl) (rv_cell rfl) (rv_cell rfl) fun w s => ⟨⟨(z5, (some ⟨g41, 0, none⟩, c41), (some ⟨g44, 0, none⟩, c44), k1), (hz12.trans hz3).trans (hz4.trans hz5), ⟨(fun h => by cases h), hr4.mono hz5⟩, ⟨(fun h => by cases h), hr5⟩, hk1⟩, rfl, (same (L' := [.zone true z5, CN gc k1]) w s).res (List.Sublist.refl _) (by simp [Fa.wr])⟩
 ·intro bb mm hdN hJ
  rw [if_neg (by omega)] at hJ
  subst hJ
  rw [if_pos hdN] at hF
  obtain ⟨⟨ga, ha⟩, hxr, hxb⟩ := hsx2.get (k := d) (by omega)
  obtain ⟨⟨gb, hb⟩, hyr, hyb⟩ := hsy2.get (k := d) (by omega)
  rw [← hxb, ← hyb] at hF
  generalize xs.getD d zSeg = sx at *
  generalize ys.getD d zSeg = sy at *
  injection hF with hF1 hF2
  subst hF1 hF2
  refine q_blockR ?_
  refine q_thenR ?_
  simp only [List.nil_append, List.cons_append]
  refine h_mark ?_
  exact h_ret3 rfl (rv_cell rfl) (rv_cell rfl) (rv_cell rfl) fun w s => ⟨⟨(z2, (sx.1, sx.2.1), (sy.1, sy.2.1), k1), hz12, ⟨(fun h => by rw [ha] at h; cases h), hxr⟩, ⟨(fun h => by rw [hb] at h; cases h), hyr⟩, hk1⟩, rfl, (same (L' := [.zone true z2, CN gc k1]) w s).res (List.Sublist.refl _) (by simp [Fa.wr])⟩
end
end Go.Proofs.YtjhocljhhpkiiaaGreatDoor
/- E20 -/
namespace Go.Proofs.YtjhocljhhpkiiaaGreatDoor
open Go.RowKit
end Go.Proofs.YtjhocljhhpkiiaaGreatDoor
/- E26 -/
namespace Go.Proofs.YtjhocljhhpkiiaaGreatDoor
open Go.RowKit
end Go.Proofs.YtjhocljhhpkiiaaGreatDoor
/- U110 -/
namespace Go.Proofs.YtjhocljhhpkiiaaGreatDoor
open Go.RowKit
end Go.Proofs.YtjhocljhhpkiiaaGreatDoor
/- N18 -/
namespace Go.Proofs.YtjhocljhhpkiiaaGreatDoor
open Go.RowKit
end Go.Proofs.YtjhocljhhpkiiaaGreatDoor
/- U111 -/
namespace Go.Proofs.YtjhocljhhpkiiaaGreatDoor
open Go.RowKit
end Go.Proofs.YtjhocljhhpkiiaaGreatDoor
/- U112 -/
namespace Go.Proofs.YtjhocljhhpkiiaaGreatDoor
open Go.RowKit
end Go.Proofs.YtjhocljhhpkiiaaGreatDoor
/- U113 -/
namespace Go.Proofs.YtjhocljhhpkiiaaGreatDoor
open Go.RowKit
theorem RdZ.cutA {h : Zh} {A : Option Addr} {l m : List UInt8} {c k : Nat} (hr : RdZ h A (bc (l ++ m))) (hk : l.length = k) (hk0 : 0 < k) (hc : k + m.length ≤ c) : RdZ h (cutA A c k 1) (bc m) := by
 unfold Go.Proofs.YtjhocljhhpkiiaaGreatDoor.cutA
 split
 ·have : m = [] := List.eq_nil_of_length_eq_zero (by omega)
  rw [this]
  exact RdZ.nil _ _
 ·refine ⟨fun j v hv => ?_⟩
  have h1 := hr.at_ (k + j) v (by rw [bc_append, List.getElem?_append_right (by rw [bc_length]; omega), bc_length, hk, Nat.add_sub_cancel_left]; exact hv)
  obtain ⟨b, o, rfl, h2⟩ := h1
  exact ⟨b, o + k, by simp [Addr.add_mid], by rw [Nat.add_assoc]; exact h2⟩
end Go.Proofs.YtjhocljhhpkiiaaGreatDoor
/- N20 -/
namespace Go.Proofs.YtjhocljhhpkiiaaGreatDoor
open Go.RowKit
end Go.Proofs.YtjhocljhhpkiiaaGreatDoor
/- U116 -/
namespace Go.Proofs.YtjhocljhhpkiiaaGreatDoor
open Go.RowKit
end Go.Proofs.YtjhocljhhpkiiaaGreatDoor
/- E27 -/
namespace Go.Proofs.YtjhocljhhpkiiaaGreatDoor
open Go.RowKit
end Go.Proofs.YtjhocljhhpkiiaaGreatDoor
/- U117 -/
namespace Go.Proofs.YtjhocljhhpkiiaaGreatDoor
open Go.RowKit
end Go.Proofs.YtjhocljhhpkiiaaGreatDoor
/- U118 -/
namespace Go.Proofs.YtjhocljhhpkiiaaGreatDoor
open Go.RowKit
end Go.Proofs.YtjhocljhhpkiiaaGreatDoor
/- U144 -/
namespace Go.Proofs.YtjhocljhhpkiiaaGreatDoor
open Go.RowKit
theorem Spec.weakE {P : Program} {f : FuncId} {args : Array Value} {R A' A2 R2 L2 M : List Fa} {τ τ2 : Type} {v : τ → Value} {N L3 : τ → List Fa} {v2 : τ2 → Value} {N2 : τ2 → List Fa} (hs : Spec P f args R A' v N) [ha : App A2 R2 L2] [ht : Take A' L2 M] [hr : Rds M R] [hN' : ∀ x, App (N x) M (L3 x)] (hN : ∀ x W w, Sx A2 W w (L3 x) → ∃ y, v x = v2 y ∧ Rx A2 W w (N2 y)) : Spec P f args R2 A2 v2 N2 := fun w hA hR => by
 have s1 := (Sx.start hA hR).cast ha.eq
 have s2 := s1.perm ht.perm
 refine (hs w (s2.toFx.sub (List.sublist_append_left _ _)) (s1.reads ht.perm hr)).mono ?_
 rintro e w' ⟨x, rfl, hx⟩
 obtain ⟨y, h1, h2⟩ := hN x w w' ((hN' x).eq ▸ s2.ret hx)
 exact ⟨y, by rw [h1], h2⟩
theorem Sx.ofH {A : List Fa} {W w : World} {L : List Fa} {φ : World → Prop} (h : H A W 0 [] [] L (fun _ w => φ w)) (s : Sx A W w L) : φ w := h { tmps := #[], defers := [] } w ⟨rfl, rfl, fun t v h => by cases h⟩ s
theorem Pre_z (p : Proof) (hc : checkP p = 0) (ss : List B32) (hs : p.sibs.n = ss.length) (key : B32) (n : Nat) (hn : n ≤ 256) (h : Zh) [hT : RdZ h (some ⟨1, 0, none⟩) hashT] [hS : RdZ h p.sibs.A (dgs ss)] (gh gc k0 : Nat) (hk : k0 ≤ 800000000000) (d : Nat) (hd : p.depth = (d : Int)) : Spec Tryz.prog 83 [.pointer (some ⟨gh, 0, none⟩), .agg p.cells.toArray, .agg key.cells.toArray].toArray [HR gh gc n] [.zone true h, CN gc k0] (fun u : {u : Zh × Nat × Nat × List Seg // LeZ h u.1 ∧ SegsZ u.1 u.2.2.2 (preLs n key (expL (sumB n preE) p.bitmap ss d) (endP p) (d + 1)).reverse ∧ RdZ u.1 (some ⟨u.2.1, 0, none⟩) (svs u.2.2.2)} => .tuple #[.slice (some ⟨u.1.2.1, 0, none⟩) (d + 1) u.1.2.2.1, .int .i64 0]) (fun u => [.zone true u.1.1, CN gc (k0 + 1 + d + 1)]) := by
 refine (Pre_s p hc ss hs key n hn gh gc k0 hk d hd).weakE ?_
 rintro ⟨⟨g, c, ys⟩, hys⟩ W w s
 dsimp only at hys s ⊢
 refine Sx.ofH (φ := fun w => ∃ y : {u : Zh × Nat × Nat × List Seg // LeZ h u.1 ∧ SegsZ u.1 u.2.2.2 (preLs n key (expL (sumB n preE) p.bitmap ss d) (endP p) (d + 1)).reverse ∧ RdZ u.1 (some ⟨u.2.1, 0, none⟩) (svs u.2.2.2)}, Value.tuple #[.slice (some ⟨g, 0, none⟩) (d + 1) c, .int .i64 0] = .tuple #[.slice (some ⟨y.1.2.1, 0, none⟩) (d + 1) y.1.2.2.1, .int .i64 0] ∧ Rx [.zone true h, CN gc k0] W w [.zone true y.1.1, CN gc (k0 + 1 + d + 1)]) ?_ s
 refine h_freezeSegs ys _ hys fun z1 hz1 hs1 => ?_
 refine h_freezeO (.slice (some ⟨g, 0, none⟩) (d + 1) c) fun z2 B2 c2 e2 hle2 hlen2 hnil2 hz2 hr2 => ?_
 injection e2 with e2 _ e3
 subst e2 e3
 exact fun a w ka s => ⟨⟨(z2, g, c, ys), hz1.trans hz2, hs1.mono hz2, hr2⟩, rfl, (same (L' := [.zone true z2, CN gc (k0 + 1 + d + 1)]) w s).res (List.Sublist.refl _) (by simp [Fa.wr])⟩
theorem zbL {A : List Fa} {W : World} {z z' : Zh} (hl : LeZ z z') {Cs : List Fa} {L M M' : List Fa} [tz : TakeZ L z' M] [tc : Take Cs M M'] : ∀ w, Sx A W w L → Sx A W w (.zone false z :: Cs) := fun w s => by
 have s2 : Sx A W w (.zone true z' :: (Cs ++ M')) := (s.perm tz.perm).perm (tc.perm.cons _)
 have s3 : Sx A W w (.zone true z' :: Cs) := s2.sub (List.Sublist.cons_cons _ (List.sublist_append_left _ _))
 have hz := s3.ok (.zone true z') (List.mem_cons_self ..)
 have hC := s3.sub (List.sublist_cons_self _ _)
 refine hC.cons (fun k o ho => hz k o (hl.le k o ho)) (fun g hg hw k hk1 hk2 => ?_) (fun h => by cases h)
 obtain ⟨h1, h2⟩ := List.pairwise_cons.1 s3.sep
 obtain ⟨o, ho⟩ := hk1
 exact h1 g hg (by rw [Bool.or_eq_true]; exact .inl rfl) k ⟨o, hl.le k o ho⟩ hk2
def outV : Option (List UInt8 × List UInt8) → Option Addr × Nat → Option Addr × Nat → Value
 | some (x, y), X, Y => .tuple #[.slice X.1 x.length X.2, .slice Y.1 y.length Y.2, .bool true]
 | none, _, _ => .tuple #[.slice none 0 0, .slice none 0 0, .bool false]
def prePl (n : Nat) (key : B32) (p : Proof) (ss : List B32) : List (List UInt8) := (preLs n key (expL (sumB n preE) p.bitmap ss p.depth.toNat) (endP p) (p.depth.toNat + 1)).reverse
def singleR (n : Nat) (m : List En) (D : Nat) (c : Claim) (kb vb : List UInt8) (p0 : Proof) (ss : List B32) : Option (List UInt8 × List UInt8) :=
 if accV n (dgT n (mkT m 0)) c kb vb p0 ss && !trueC m c kb vb then some (findP (wayPre n (keyOf kb) (mkT m 0) (D + 1)) (prePl n (keyOf kb) p0 ss) (preV (getV (getE' m (keyOf kb)))) (preV vb)) else none
section
variable (n : Nat) (hn : n ≤ 256) (h : Zh) [hT : RdZ h (some ⟨1, 0, none⟩) hashT] (gh gc k : Nat) (hk : k ≤ 10000000) (m : List En) (hal : Alike m 0) (p : Option Addr) [ht : TrZ n h (mkT m 0) p] (c : Claim) (kb vb : List UInt8) [hK : SlZ h c.key kb] [hV : SlZ h c.value vb] (hvb : vb.length ≤ 100000000) (hvl : ∀ e ∈ m, e.val.length ≤ 100000000)
include hn hk hal hvb hvl
theorem xSingle_s (D : Nat) (w : WayM (keyOf kb) m D) (p0 : Proof) (ss : List B32) (hs : p0.sibs.n = ss.length) [hS : RdZ h p0.sibs.A (dgs ss)] (o : Option (List UInt8 × List UInt8)) (ho : singleR n m D c kb vb p0 ss = o) : Spec Tryz.prog 29 [.pointer (some ⟨gh, 0, none⟩), .pointer p, .agg c.cells.toArray, .agg p0.cells.toArray].toArray [HR gh gc n] [.zone true h, CN gc k] (fun u : {u : Zh × (Option Addr × Nat) × (Option Addr × Nat) × Nat // LeZ h u.1 ∧ (∀ x y, o = some (x, y) → PZ u.1 u.2.1.1 u.2.1.2 x ∧ PZ u.1 u.2.2.1.1 u.2.2.1.2 y) ∧ u.2.2.2 ≤ k + 3000} => outV o u.1.2.1 u.1.2.2.1) (fun u => [.zone true u.1.1, CN gc u.1.2.2.2]) := by
 have hDg := Digest_s n hn gh gc k (by omega) h (mkT m 0) p
 obtain ⟨k1, hk1⟩ : ∃ k1, k + (if (mkT m 0).kind = 0 then 1 else 0) = k1 := ⟨_, rfl⟩
 have hk1b : k1 ≤ k + 1 := by rw [← hk1]; split <;> omega
 rw [hk1] at hDg
 have hA := Accepts_s n hn h gh gc k1 (by omega) (dgT n (mkT m 0)) c kb vb hvb p0 ss hs
 have hTr := fun z (htz : TrZ n z (mkT m 0) p) (hKz : SlZ z c.key kb) (hVz : SlZ z c.value vb) => xTrue_s n z m hal p c kb vb (fun e he => by have := hvl e he; omega)
 unfold singleR at ho
 obtain ⟨a, ha⟩ : ∃ a, accV n (dgT n (mkT m 0)) c kb vb p0 ss = a := ⟨_, rfl⟩
 obtain ⟨t, htr⟩ : ∃ t, trueC m c kb vb = t := ⟨_, rfl⟩
 rw [ha, htr] at ho
 rw [ha] at hA
 rw [htr] at hTr
 have hkn := hK.len
 cases a
 ·obtain rfl : none = o := ho
  refine spec_of Tryz.func29 rfl (n := 46) rfl rfl ?_
  intro W
  refine yR ?_
  refine h_opX (x_box rfl) fun g6 => ?_
  refine h_opX (x_box rfl) fun g7 => ?_
  refine yS rfl ?_
  refine yS rfl ?_
  refine yS rfl ?_
  refine yN ?_
  refine h_seq ?_
  refine h_seq ?_
  refine ha_start [.blk g6 c.cells 25, .blk g7 p0.cells 54] [] mixed (same) ?_
  refine ha_takeP 0 rfl (r_move rfl) ?_
  refine ha_takeP 1 rfl (r_move rfl) ?_
  refine ha_takeP 2 rfl (r_move rfl) ?_
  refine ha_take 4 rfl (r_loadr rfl) ?_
  refine ha_take 5 rfl (r_loadr rfl) ?_
  refine ha_one 3 ?_
  refine ho_C 3 rfl (hDg.comes) rfl rfl rfl (fun xx => same) fun _ => ?_
  refine ha_one 6 ?_
  refine ho_C 6 rfl (hA.comes) rfl rfl rfl (fun xx => same) fun ⟨⟨z1, k2⟩, hz1, hk2⟩ => ?_
  refine ha_takeP 7 rfl (r_not rfl) ?_
  refine ha_takeP 8 rfl (r_move rfl) ?_
  refine ha_off 9 rfl ?_
  refine ha_off 10 rfl ?_
  refine ha_off 11 rfl ?_
  refine ha_takeP 12 rfl (r_pick rfl rfl) ?_
  refine ha_done (by kernel_rfl) ?_
  refine q_then ?_
  refine h_condT rfl ?_
  refine yR ?_
  refine yS rfl ?_
  refine yS rfl ?_
  refine yS rfl ?_
  refine yN ?_
  refine h_ret ?_
  refine q_thenR ?_
  exact h_ret3 rfl rfl rfl rfl fun w s => ⟨⟨(z1, (none, 0), (none, 0), k2), hz1, (fun x y h => by cases h), by dsimp only at hk2 ⊢; omega⟩, rfl, (same (L' := [.zone true z1, CN gc k2]) w s).res (List.Sublist.refl _) (by simp [Fa.wr])⟩
 ·cases t
  ·have hck : checkP p0 = 0 ∧ claimE c = 0 := by
    unfold accV at ha
    simp only [Bool.and_eq_true, decide_eq_true_eq] at ha
    exact ⟨ha.1.2, ha.1.1⟩
   have hk32 : kb.length = 32 := by
    have h1 := hck.2
    unfold claimE at h1
    split at h1
    ·omega
    ·cases h1
   have hdp := ok_depth hck.1
   obtain ⟨d, hd⟩ : ∃ d : Nat, p0.depth = (d : Int) := ⟨p0.depth.toNat, by omega⟩
   have hd2 : p0.depth.toNat = d := by omega
   obtain ⟨⟨x, y⟩, hxy⟩ : ∃ xy, findP (wayPre n (keyOf kb) (mkT m 0) (D + 1)) (prePl n (keyOf kb) p0 ss) (preV (getV (getE' m (keyOf kb)))) (preV vb) = xy := ⟨_, rfl⟩
   obtain rfl : some (x, y) = o := by rw [← ho, hxy]; rfl
   have hP := fun z (hTz : RdZ z (some ⟨1, 0, none⟩) hashT) (hSz : RdZ z p0.sibs.A (dgs ss)) k0 hk0 => Pre_z p0 hck.1 ss hs (keyOf kb) n hn z gh gc k0 hk0 d hd
   have hpl : prePl n (keyOf kb) p0 ss = (preLs n (keyOf kb) (expL (sumB n preE) p0.bitmap ss d) (endP p0) (d + 1)).reverse := by unfold prePl; rw [hd2]
   rw [← hpl] at hP
   have hCo := fun z (hTz : RdZ z (some ⟨1, 0, none⟩) hashT) (htz : TrZ n z (mkT m 0) p) (hKz : SlZ z c.key kb) (hVz : SlZ z c.value vb) k0 hk0 ys Y cy (hY : RdZ z Y (svs ys)) hys hyl => xCompare_s n hn z gh gc k0 hk0 m p c kb vb hk32 hvb hvl D w ys (prePl n (keyOf kb) p0 ss) Y cy (hY := hY) hys hyl x y hxy
   have hpll : (prePl n (keyOf kb) p0 ss).length = d + 1 := by rw [hpl, List.length_reverse, preLs_len]
   generalize prePl n (keyOf kb) p0 ss = pl at *
   have hKr : RdZ h c.key.A (keyOf kb).cells := by rw [keyOf_cells hk32]; exact hK.rd
   obtain ⟨bK, oK, hKA, -⟩ := hKr.at_ 0 _ (List.getElem?_eq_getElem (by rw [B32.cells_length]; decide))
   rw [hKA] at hKr
   refine spec_of Tryz.func29 rfl (n := 46) rfl rfl ?_
   intro W
   refine yR ?_
   refine h_opX (x_box rfl) fun g6 => ?_
   refine h_opX (x_box rfl) fun g7 => ?_
   refine yS rfl ?_
   refine yS rfl ?_
   refine yS rfl ?_
   refine yN ?_
   refine h_seq ?_
   refine h_seq ?_
   refine ha_start [.blk g6 c.cells 25, .blk g7 p0.cells 54] [] mixed (same) ?_
   refine ha_takeP 0 rfl (r_move rfl) ?_
   refine ha_takeP 1 rfl (r_move rfl) ?_
   refine ha_takeP 2 rfl (r_move rfl) ?_
   refine ha_take 4 rfl (r_loadr rfl) ?_
   refine ha_take 5 rfl (r_loadr rfl) ?_
   refine ha_one 3 ?_
   refine ho_C 3 rfl (hDg.comes) rfl rfl rfl (fun xx => same) fun _ => ?_
   refine ha_one 6 ?_
   refine ho_C 6 rfl (hA.comes) rfl rfl rfl (fun xx => same) fun ⟨⟨z1, k2⟩, hz1, hk2⟩ => ?_
   refine ha_takeP 7 rfl (r_not rfl) ?_
   refine ha_takeP 8 rfl (r_move rfl) ?_
   refine ha_takeP 9 rfl (r_move rfl) ?_
   refine ha_take 10 rfl (r_loadr rfl) ?_
   refine ha_one 11 ?_
   refine ho_C 11 rfl ((hTr z1 ⟨ht.ok.mono hz1⟩ (hK.mono hz1) (hV.mono hz1)).comes) rfl rfl rfl (fun xx => same) fun _ => ?_
   refine ha_takeP 12 rfl (r_pick rfl rfl) ?_
   refine ha_done (by kernel_rfl) ?_
   refine q_then ?_
   dsimp only at hz1 hk2 ⊢
   have hKr1 : RdZ z1 (some ⟨bK, oK, none⟩) (keyOf kb).cells := hKr.mono hz1
   refine h_condF rfl ?_
   refine h_skip ?_
   refine q_then ?_
   refine h_seq ?_
   refine ha_start [.zone false z1, .blk g6 c.cells 25, .blk g7 p0.cells 54] [] mixed (zbL (LeZ.refl z1)) ?_
   refine ha_takeP 0 rfl (r_move rfl) ?_
   refine ha_take 1 rfl (r_loadr rfl) ?_
   refine ha_takeP 2 rfl (r_field rfl) ?_
   refine ha_take 3 rfl (r_as (r_loadc rfl) (show _ = Value.slice (some ⟨bK, oK, none⟩) c.key.n c.key.c by rw [hKA])) ?_
   refine ha_takeP 4 rfl (r_arr rfl (hm := show 32 ≤ c.key.n by omega)) ?_
   refine ha_take 5 rfl (r_loadr rfl) ?_
   refine ha_one 6 ?_
   refine ho_C 6 rfl ((hP z1 (hT.mono hz1) (hS.mono hz1) k2 (by omega)).comes) rfl rfl rfl (fun xx => zbL xx.2.1) fun ⟨⟨z2, g33, c33, ys⟩, hz2, hys, hyr⟩ => ?_
   refine ha_takeP 7 rfl (r_move rfl) ?_
   refine ha_takeP 8 rfl (r_extract rfl rfl) ?_
   refine ha_takeP 9 rfl (r_extract rfl rfl) ?_
   refine ha_takeP 10 rfl (r_assign rfl) ?_
   refine ha_takeP 11 rfl (r_assign rfl) ?_
   refine ha_done (by kernel_rfl) ?_
   refine q_then ?_
   dsimp only at hz2 hys hyr ⊢
   have hyl := hys.len
   have hz12 := hz1.trans hz2
   have hCo := hCo z2 (hT.mono hz12) ⟨ht.ok.mono hz12⟩ (hK.mono hz12) (hV.mono hz12) (k2 + 1 + d + 1) (by omega) ys (some ⟨g33, 0, none⟩) c33 hyr hys (by omega)
   rw [hyl, hpll] at hCo
   refine h_seq ?_
   refine yR ?_
   refine yM rfl ?_
   refine h_op (r_neq rfl rfl) ?_
   refine yN ?_
   refine h_condF rfl ?_
   refine h_skip ?_
   refine q_then ?_
   refine yR ?_
   refine yM rfl ?_
   refine yM rfl ?_
   refine h_op (r_loadr rfl) ?_
   refine yM rfl ?_
   refine h_call (hCo.comes) rfl rfl rfl fun ⟨⟨z3, X, Y, k3⟩, hz3, hX, hY, hk3⟩ => ?_
   dsimp only at hz3 hX hY hk3 ⊢
   refine h_op (r_extract rfl rfl) ?_
   refine h_op (r_extract rfl rfl) ?_
   refine h_op (r_extract rfl rfl) ?_
   refine yS rfl ?_
   refine yS rfl ?_
   refine yS rfl ?_
   refine yN ?_
   refine h_ret ?_
   exact h_ret3 rfl rfl rfl rfl fun w s => ⟨⟨(z3, X, Y, k3), hz12.trans hz3, (fun x' y' e => by injection e with e; injection e with e1 e2; subst e1 e2; exact ⟨hX, hY⟩), by dsimp only; omega⟩, rfl, (same (L' := [.zone true z3, CN gc k3]) w s).res (List.Sublist.refl _) (by simp [Fa.wr])⟩
  ·obtain rfl : none = o := ho
   refine spec_of Tryz.func29 rfl (n := 46) rfl rfl ?_
   intro W
   refine yR ?_
   refine h_opX (x_box rfl) fun g6 => ?_
   refine h_opX (x_box rfl) fun g7 => ?_
   refine yS rfl ?_
   refine yS rfl ?_
   refine yS rfl ?_
   refine yN ?_
   refine h_seq ?_
   refine h_seq ?_
   refine ha_start [.blk g6 c.cells 25, .blk g7 p0.cells 54] [] mixed (same) ?_
   refine ha_takeP 0 rfl (r_move rfl) ?_
   refine ha_takeP 1 rfl (r_move rfl) ?_
   refine ha_takeP 2 rfl (r_move rfl) ?_
   refine ha_take 4 rfl (r_loadr rfl) ?_
   refine ha_take 5 rfl (r_loadr rfl) ?_
   refine ha_one 3 ?_
   refine ho_C 3 rfl (hDg.comes) rfl rfl rfl (fun xx => same) fun _ => ?_
   refine ha_one 6 ?_
   refine ho_C 6 rfl (hA.comes) rfl rfl rfl (fun xx => same) fun ⟨⟨z1, k2⟩, hz1, hk2⟩ => ?_
   refine ha_takeP 7 rfl (r_not rfl) ?_
   refine ha_takeP 8 rfl (r_move rfl) ?_
   refine ha_takeP 9 rfl (r_move rfl) ?_
   refine ha_take 10 rfl (r_loadr rfl) ?_
   refine ha_one 11 ?_
   refine ho_C 11 rfl ((hTr z1 ⟨ht.ok.mono hz1⟩ (hK.mono hz1) (hV.mono hz1)).comes) rfl rfl rfl (fun xx => same) fun _ => ?_
   refine ha_takeP 12 rfl (r_pick rfl rfl) ?_
   refine ha_done (by kernel_rfl) ?_
   refine q_then ?_
   refine h_condT rfl ?_
   refine yR ?_
   refine yS rfl ?_
   refine yS rfl ?_
   refine yS rfl ?_
   refine yN ?_
   refine h_ret ?_
   refine q_thenR ?_
   exact h_ret3 rfl rfl rfl rfl fun w s => ⟨⟨(z1, (none, 0), (none, 0), k2), hz1, (fun x y h => by cases h), by dsimp only at hk2 ⊢; omega⟩, rfl, (same (L' := [.zone true z1, CN gc k2]) w s).res (List.Sublist.refl _) (by simp [Fa.wr])⟩
end
end Go.Proofs.YtjhocljhhpkiiaaGreatDoor
