/- extract.compare; How long a multiproof is: plain; The bytes of a multiproof: plain; mcodec: payload, Size, Siblings; A shift to the right of a number that is not negative; mcodec.Encode of items that are well-formed; mcodec.item, of the bytes of an item that is well-formed; mcodec.Decode, of the bytes of items that are well-formed; Shifts by eight to the left and a byte put in, for numbers below 2 to the 32; mcodec.Decode, of all bytes: the head (the rest is still to be walked); What decoding a multiproof computes, for all bytes: plain; mcodec.item, of all bytes that are enough; A contract at more memory; mcodec.Decode of all bytes; fold.Preimages, its rows frozen; extract.Single; mverify: fail, first over claims and over keys, Claims; mverify: Claims; The zero proof is well-formed; law16.alive: it is true; law16: FoldLeads is true; A proof's bytes, decoded; a claim against a map's proof: plain; The bytes of a multiproof decode to it: plain; The ends of keys, read: where what stands; What mverify computes: plain; mverify: show; mverify: show, all of it; multi.add, the cases of one item; multi.add: all trees; multi.Prove; multiproofs: the reference's Same; law19.Few; law15.alive: it is true; law19.alive: it is true; law19: MultiChecks, MultiRoots are true (joined texts: U143 E20 E26 U110 N18 U111 U112 U113 N20 U116 E27 U117 U118 U144 U119 U120 U26z U27 U55 E25 E28 E22 E30 U122 U123 U72 U73 U74 U79 U47 U81 U82) -/
import Derived.Test.YtjhocljhhpkiiaaGreatDoorR13
import Derived.Scope
set_option linter.all false
/- U143 -/
namespace Go.Proofs.YtjhocljhhpkiiaaGreatDoor
open Go.RowKit
structure PZ (h : Zh) (X : Option Addr) (c : Nat) (x : List UInt8) : Prop where
 nil : X = none → x.length = 0 ∧ c = 0
 rd : RdZ h X (bc x)
theorem PZ.mono {h h' : Zh} (hl : LeZ h h') {X : Option Addr} {c : Nat} {x : List UInt8} (p : PZ h X c x) : PZ h' X c x := ⟨p.nil, p.rd.mono hl⟩
theorem SegsZ.get {h : Zh} {xs : List Seg} {ls : List (List UInt8)} (s : SegsZ h xs ls) {k : Nat} (hk : k < xs.length) : (∃ g, (xs.getD k zSeg).1 = some ⟨g, 0, none⟩) ∧ RdZ h (xs.getD k zSeg).1 (bc (xs.getD k zSeg).2.2) ∧ (xs.getD k zSeg).2.2 = ls.getD k [] := by
 have hx : xs[k]? = some (xs.getD k zSeg) := by rw [List.getD_eq_getElem?_getD, List.getElem?_eq_getElem hk]; rfl
 obtain ⟨h1, h2⟩ := s.2 _ (List.mem_of_getElem? hx)
 refine ⟨h1, h2, ?_⟩
 have h3 : (xs.map fun x : Seg => x.2.2)[k]? = ls[k]? := by rw [s.1]
 rw [List.getElem?_map, hx, Option.map_some] at h3
 rw [List.getD_eq_getElem?_getD (l := ls), ← h3]
 rfl
theorem SegsZ.mono {h h' : Zh} (hl : LeZ h h') {xs : List Seg} {ls : List (List UInt8)} (s : SegsZ h xs ls) : SegsZ h' xs ls := ⟨s.1, fun x hx => ⟨(s.2 x hx).1, (s.2 x hx).2.mono hl⟩⟩
section
variable (n : Nat) (hn : n ≤ 256) (h : Zh) [hT : RdZ h (some ⟨1, 0, none⟩) hashT] (gh gc k : Nat) (hk : k ≤ 10000000000) (m : List En) (p : Option Addr) [ht : TrZ n h (mkT m 0) p] (c : Claim) (kb vb : List UInt8) [hK : SlZ h c.key kb] [hV : SlZ h c.value vb] (hk32 : kb.length = 32) (hvb : vb.length ≤ 100000000) (hvl : ∀ e ∈ m, e.val.length ≤ 100000000) (D : Nat) (w : WayM (keyOf kb) m D) (ys : List Seg) (ls : List (List UInt8)) (Y : Option Addr) (cy : Nat) [hY : RdZ h Y (svs ys)] (hys : SegsZ h ys ls) (hyl : ys.length ≤ 1000000)
include hn hk hk32 hvb hvl w hys hyl
theorem xCompare_s (x y : List UInt8) (hF : findP (wayPre n (keyOf kb) (mkT m 0) (D + 1)) ls (preV (getV (getE' m (keyOf kb)))) (preV vb) = (x, y)) : Spec Tryz.prog 84 [.pointer (some ⟨gh, 0, none⟩), .pointer p, .agg c.cells.toArray, .slice Y ys.length cy].toArray [HR gh gc n] [.zone true h, CN gc k] (fun u : {u : Zh × (Option Addr × Nat) × (Option Addr × Nat) × Nat // LeZ h u.1 ∧ PZ u.1 u.2.1.1 u.2.1.2 x ∧ PZ u.1 u.2.2.1.1 u.2.2.1.2 y ∧ u.2.2.2 ≤ k + 1000} => .tuple #[.slice u.1.2.1.1 x.length u.1.2.1.2, .slice u.1.2.2.1.1 y.length u.1.2.2.1.2, .bool true]) (fun u => [.zone true u.1.1, CN gc u.1.2.2.2]) := by
 have hkn := hK.len
 have hvn := hV.len
 have hVr : RdZ h c.value.A (bc vb) := hV.rd
 have hVnil := hV.nil
 have hKr : RdZ h c.key.A (keyOf kb).cells := by rw [keyOf_cells hk32]; exact hK.rd
 have hD := w.way.le
 have hWy := xWay_s n hn h gh gc k hk (mkT m 0) p (keyOf kb) D w.way
 have hgl : ∀ g, getE' m (keyOf kb) = g → (getV g).length ≤ 100000000 := fun g hg => by
  cases g with
  | none => exact Nat.zero_le _
  | some e => exact hvl e (List.mem_of_find?_eq_some hg)
 have hgl := hgl _ rfl
 obtain ⟨⟨kA, kn, kc⟩, ⟨vA, vn, vc⟩, pr⟩ := c
 dsimp only at hkn hvn hKr hVr hVnil ⊢
 subst hkn hvn
 obtain ⟨bK, oK, rfl, -⟩ := hKr.at_ 0 _ (List.getElem?_eq_getElem (by rw [B32.cells_length]; decide))
 have hyle := hys.len
 refine spec_of Tryz.func84 rfl (n := 45) rfl rfl ?_
 intro W
 refine yR ?_
 refine h_opX (x_box rfl) fun g6 => ?_
 refine h_opX (x_alloc) fun g8 => ?_
 refine h_opX (x_alloc) fun g9 => ?_
 refine h_opX (x_alloc) fun g10 => ?_
 refine yN ?_
 refine yR ?_
 refine h_op (r_field rfl) ?_
 refine h_op (r_loadc rfl) ?_
 refine h_op (r_arr rfl (hm := show 32 ≤ kb.length by omega)) ?_
 refine h_op (r_loadr rfl) ?_
 refine h_opX (x_alloc) fun g11 => ?_
 refine h_opS (s_storer rfl rfl) ?_
 refine yN ?_
 refine h_seq ?_
 refine yR ?_
 refine yM rfl ?_
 refine yM rfl ?_
 refine h_op (r_loadr rfl) ?_
 refine h_call (hWy.comes) rfl rfl rfl fun ⟨⟨z1, X, cx, xs, k1⟩, hz1, hsx, hk1⟩ => ?_
 dsimp only at hz1 hsx hk1 ⊢
 have hxl := hsx.len
 rw [wayPre_len] at hxl
 rw [← hxl]
 refine h_freezeO (.slice X xs.length cx) fun z2 B2 c2 e2 hle2 hlen2 hnil2 hz2 hrX => ?_
 injection e2 with e2 _ e3
 subst e2 e3
 have hz12 := hz1.trans hz2
 have hsx2 := hsx.mono hz2
 have hsy2 := hys.mono hz12
 have hY2 : RdZ z2 Y (svs ys) := hY.mono hz12
 have hVr2 : RdZ z2 vA (bc vb) := hVr.mono hz12
 have ht2 : TrZ n z2 (mkT m 0) p := ⟨ht.ok.mono hz12⟩
 have hwl : (wayPre n (keyOf kb) (mkT m 0) (D + 1)).length = xs.length := by rw [wayPre_len, hxl]
 generalize wayPre n (keyOf kb) (mkT m 0) (D + 1) = ws at *
 obtain ⟨d, hd⟩ : ∃ d, difI ws ls = d := ⟨_, rfl⟩
 have hdle := difI_le ws ls
 have hdeq := difI_eq ws ls
 have hdne := difI_ne ws ls
 unfold findP at hF
 rw [hd, hwl, ← hyle] at hdle hdne hF
 rw [hd] at hdeq
 refine yM rfl ?_
 refine h_call ((pairs_s X Y xs.length ys.length cx cy).comes) rfl rfl rfl fun ⟨g1, g2⟩ => ?_
 dsimp only
 refine yN ?_
 refine h_block ?_
 refine h_rangeD (pairs_it xs ys X Y cx cy g1 g2 d (by omega) hyl hdle) hdle rfl (fun k mm => mm = if k ≤ d then [.blk g8 [.slice none 0 0] 23, .blk g9 [.slice none 0 0] 23, .blk g10 [.bool false] 4] else [.blk g8 [sv (xs.getD d zSeg)] 23, .blk g9 [sv (ys.getD d zSeg)] 23, .blk g10 [.bool true] 4]) [.blk g8 [.slice none 0 0] 23, .blk g9 [.slice none 0 0] 23, .blk g10 [.bool false] 4] [.zone false z2] (by rintro k mm rfl f hf; split at hf <;> (simp only [List.mem_cons, List.not_mem_nil, or_false] at hf; rcases hf with rfl | rfl | rfl <;> rfl)) (if_pos (Nat.zero_le _)).symm rfl (fun _ => rfl) ?_ ?_ ?_ ?_
 ·intro ll rr i mm W1 hr hrp hiN hid hJ
  rw [if_pos (by omega)] at hJ
  subst hJ
  obtain ⟨⟨ga, ha⟩, hxr, hxb⟩ := hsx2.get (k := i) (by omega)
  obtain ⟨⟨gb, hb⟩, hyr, hyb⟩ := hsy2.get (k := i) (by omega)
  have heq := hdeq i hid
  rw [← hxb, ← hyb] at heq
  generalize xs.getD i zSeg = sx at *
  generalize ys.getD i zSeg = sy at *
  have hB := bEqual_s sx.2.2 sy.2.2 sx.1 sy.1 sx.2.1 sy.2.1
  rw [decide_eq_true heq] at hB
  simp only [List.nil_append, List.cons_append]
  refine yR ?_
  refine yS rfl ?_
  refine yN ?_
  refine h_reg ?_
  refine yS rfl ?_
  refine yN ?_
  refine h_begin hr ?_
  refine h_block ?_
  refine yR ?_
  refine yM rfl ?_
  refine yM rfl ?_
  refine h_call (hB.comes) rfl rfl rfl fun _ => ?_
  refine h_op (r_not rfl) ?_
  refine yN ?_
  refine h_condF rfl ?_
  refine h_skip ?_
  refine q_block ?_
  exact h_endround [.blk g8 [.slice none 0 0] 23, .blk g9 [.slice none 0 0] 23, .blk g10 [.bool false] 4] hr hrp (by rw [if_pos (by omega)]) (by intro f hf; simp only [List.mem_cons, List.not_mem_nil, or_false] at hf; rcases hf with rfl | rfl | rfl <;> rfl)
 ·intro ll rr mm W1 hr hrp hdN hJ
  rw [if_pos (Nat.le_refl _)] at hJ
  subst hJ
  obtain ⟨⟨ga, ha⟩, hxr, hxb⟩ := hsx2.get (k := d) (by omega)
  obtain ⟨⟨gb, hb⟩, hyr, hyb⟩ := hsy2.get (k := d) (by omega)
  have hne := hdne hdN
  rw [← hxb, ← hyb] at hne
  rw [if_neg (by omega)]
  generalize xs.getD d zSeg = sx at *
  generalize ys.getD d zSeg = sy at *
  have hB := bEqual_s sx.2.2 sy.2.2 sx.1 sy.1 sx.2.1 sy.2.1
  rw [decide_eq_false hne] at hB
  simp only [List.nil_append, List.cons_append]
  refine yR ?_
  refine yS rfl ?_
  refine yN ?_
  refine h_reg ?_
  refine yS rfl ?_
  refine yN ?_
  refine h_begin hr ?_
  refine h_block ?_
  refine yR ?_
  refine yM rfl ?_
  refine yM rfl ?_
  refine h_call (hB.comes) rfl rfl rfl fun _ => ?_
  refine h_op (r_not rfl) ?_
  refine yN ?_
  refine h_condT rfl ?_
  refine yR ?_
  refine yM rfl ?_
  refine yM rfl ?_
  refine h_opS (s_store rfl rfl rfl) ?_
  refine h_opS (s_store rfl rfl rfl) ?_
  refine h_opS (s_store rfl rfl rfl) ?_
  refine yN ?_
  refine h_ret ?_
  refine q_blockR ?_
  exact h_stopround [.blk g8 [sv sx] 23, .blk g9 [sv sy] 23, .blk g10 [.bool true] 4] rfl (by intro f hf; simp only [List.mem_cons, List.not_mem_nil, or_false] at hf; rcases hf with rfl | rfl | rfl <;> rfl)
 ·intro bb mm hdN hJ
  rw [if_pos (by omega)] at hJ
  subst hJ
  rw [if_neg (by omega)] at hF
  injection hF with hF1 hF2
  subst hF1 hF2
  have hG := FGet_s n z2 m p (keyOf kb) D w (fun e he => by have := hvl e he; omega)
  generalize getE' m (keyOf kb) = g at *
  refine q_block ?_
  refine q_then ?_
  simp only [List.nil_append, List.cons_append]
  refine yR ?_
  refine yM rfl ?_
  refine h_op (r_loadr rfl) ?_
  refine h_call (hG.comes) rfl rfl rfl fun ⟨A37, c37⟩ => ?_
  dsimp only
  refine h_freezeO (.slice A37 (getV g).length c37) fun z3 B3 c3 e3 hle3 hlen3 hnil3 hz3 hr3 => ?_
  injection e3 with e3 _ e3'
  subst e3 e3'
  have hVr3 : RdZ z3 vA (bc vb) := hVr2.mono hz3
  refine yM rfl ?_
  refine h_op (r_extract rfl rfl) ?_
  refine h_op (r_extract rfl rfl) ?_
  refine yS rfl ?_
  refine yS rfl ?_
  refine yN ?_
  refine h_seq ?_
  refine ha_start [.blk g6 (Claim.cells ⟨⟨some ⟨bK, oK, none⟩, kb.length, kc⟩, ⟨vA, vb.length, vc⟩, pr⟩) 25] [] mixed (same) ?_
  refine ha_takeP 0 rfl (r_move rfl) ?_
  refine ha_takeP 2 rfl (r_field rfl) ?_
  refine ha_take 3 rfl (r_loadc rfl) ?_
  refine ha_one 1 ?_
  refine ho_C 1 rfl ((pValue_s (getV g) A37 c37 hnil3 hgl).comes) rfl rfl rfl (fun xx => same) fun ⟨g41, c41⟩ => ?_
  refine ha_one 4 ?_
  refine ho_C 4 rfl ((pValue_s vb vA vc (fun e => by have := hVnil e; omega) hvb).comes) rfl rfl rfl (fun xx => same) fun ⟨g44, c44⟩ => ?_
  refine ha_one 5 ?_
  refine ho_S 5 rfl (s_store rfl rfl rfl) (same) ?_
  refine ha_one 6 ?_
  refine ho_S 6 rfl (s_store rfl rfl rfl) (same) ?_
  refine ha_one 7 ?_
  refine ho_SL 7 rfl (s_store rfl rfl rfl) ?_
  refine q_then ?_
  dsimp only
  refine h_freezeO (.slice (some ⟨g41, 0, none⟩) (preV (getV g)).length c41) fun z4 B4 c4 e4 hle4 hlen4 hnil4 hz4 hr4 => ?_
  injection e4 with e4 _ e4'
  subst e4 e4'
  refine h_freezeO (.slice (some ⟨g44, 0, none⟩) (preV vb).length c44) fun z5 B5 c5 e5 hle5 hlen5 hnil5 hz5 hr5 => ?_
  injection e5 with e5 _ e5'
  subst e5 e5'
  refine h_ret ?_
  refine h_mark ?_
  exact h_ret3 rfl (rv_cell rfl) (rv_cell rfl) (rv_cell rfl) fun w s => ⟨⟨(z5, (some ⟨g41, 0, none⟩, c41), (some ⟨g44, 0, none⟩, c44), k1), (hz12.trans hz3).trans (hz4.trans hz5), ⟨(fun h => by cases h), hr4.mono hz5⟩, ⟨(fun h => by cases h), hr5⟩, hk1⟩, rfl, (same (L' := [.zone true z5, CN gc k1]) w s).res (List.Sublist.refl _) (by simp [Fa.wr])⟩
 ·intro bb mm hdN hJ
  rw [if_neg (by omega)] at hJ
  subst hJ
  rw [if_pos hdN] at hF
  obtain ⟨⟨ga, ha⟩, hxr, hxb⟩ := hsx2.get (k := d) (by omega)
  obtain ⟨⟨gb, hb⟩, hyr, hyb⟩ := hsy2.get (k := d) (by omega)
  rw [← hxb, ← hyb] at hF
  generalize xs.getD d zSeg = sx at *
  generalize ys.getD d zSeg = sy at *
  injection hF with hF1 hF2
  subst hF1 hF2
  refine q_blockR ?_
  refine q_thenR ?_
  simp only [List.nil_append, List.cons_append]
  refine h_mark ?_
  exact h_ret3 rfl (rv_cell rfl) (rv_cell rfl) (rv_cell rfl) fun w s => ⟨⟨(z2, (sx.1, sx.2.1), (sy.1, sy.2.1), k1), hz12, ⟨(fun h => by rw [ha] at h; cases h), hxr⟩, ⟨(fun h => by rw [hb] at h; cases h), hyr⟩, hk1⟩, rfl, (same (L' := [.zone true z2, CN gc k1]) w s).res (List.Sublist.refl _) (by simp [Fa.wr])⟩
end
end Go.Proofs.YtjhocljhhpkiiaaGreatDoor
/- E20 -/
namespace Go.Proofs.YtjhocljhhpkiiaaGreatDoor
open Go.RowKit
end Go.Proofs.YtjhocljhhpkiiaaGreatDoor
/- E26 -/
namespace Go.Proofs.YtjhocljhhpkiiaaGreatDoor
open Go.RowKit
end Go.Proofs.YtjhocljhhpkiiaaGreatDoor
/- U110 -/
namespace Go.Proofs.YtjhocljhhpkiiaaGreatDoor
open Go.RowKit
end Go.Proofs.YtjhocljhhpkiiaaGreatDoor
/- N18 -/
namespace Go.Proofs.YtjhocljhhpkiiaaGreatDoor
open Go.RowKit
end Go.Proofs.YtjhocljhhpkiiaaGreatDoor
/- U111 -/
namespace Go.Proofs.YtjhocljhhpkiiaaGreatDoor
open Go.RowKit
end Go.Proofs.YtjhocljhhpkiiaaGreatDoor
/- U112 -/
namespace Go.Proofs.YtjhocljhhpkiiaaGreatDoor
open Go.RowKit
end Go.Proofs.YtjhocljhhpkiiaaGreatDoor
/- U113 -/
namespace Go.Proofs.YtjhocljhhpkiiaaGreatDoor
open Go.RowKit
theorem RdZ.cutA {h : Zh} {A : Option Addr} {l m : List UInt8} {c k : Nat} (hr : RdZ h A (bc (l ++ m))) (hk : l.length = k) (hk0 : 0 < k) (hc : k + m.length ≤ c) : RdZ h (cutA A c k 1) (bc m) := by
 unfold Go.Proofs.YtjhocljhhpkiiaaGreatDoor.cutA
 split
 ·have : m = [] := List.eq_nil_of_length_eq_zero (by omega)
  rw [this]
  exact RdZ.nil _ _
 ·refine ⟨fun j v hv => ?_⟩
  have h1 := hr.at_ (k + j) v (by rw [bc_append, List.getElem?_append_right (by rw [bc_length]; omega), bc_length, hk, Nat.add_sub_cancel_left]; exact hv)
  obtain ⟨b, o, rfl, h2⟩ := h1
  exact ⟨b, o + k, by simp [Addr.add_mid], by rw [Nat.add_assoc]; exact h2⟩
end Go.Proofs.YtjhocljhhpkiiaaGreatDoor
/- N20 -/
namespace Go.Proofs.YtjhocljhhpkiiaaGreatDoor
open Go.RowKit
end Go.Proofs.YtjhocljhhpkiiaaGreatDoor
/- U116 -/
namespace Go.Proofs.YtjhocljhhpkiiaaGreatDoor
open Go.RowKit
end Go.Proofs.YtjhocljhhpkiiaaGreatDoor
/- E27 -/
namespace Go.Proofs.YtjhocljhhpkiiaaGreatDoor
open Go.RowKit
end Go.Proofs.YtjhocljhhpkiiaaGreatDoor
/- U117 -/
namespace Go.Proofs.YtjhocljhhpkiiaaGreatDoor
open Go.RowKit
end Go.Proofs.YtjhocljhhpkiiaaGreatDoor
/- U118 -/
namespace Go.Proofs.YtjhocljhhpkiiaaGreatDoor
open Go.RowKit
end Go.Proofs.YtjhocljhhpkiiaaGreatDoor
/- U144 -/
namespace Go.Proofs.YtjhocljhhpkiiaaGreatDoor
open Go.RowKit
theorem Spec.weakE {P : Program} {f : FuncId} {args : Array Value} {R A' A2 R2 L2 M : List Fa} {τ τ2 : Type} {v : τ → Value} {N L3 : τ → List Fa} {v2 : τ2 → Value} {N2 : τ2 → List Fa} (hs : Spec P f args R A' v N) [ha : App A2 R2 L2] [ht : Take A' L2 M] [hr : Rds M R] [hN' : ∀ x, App (N x) M (L3 x)] (hN : ∀ x W w, Sx A2 W w (L3 x) → ∃ y, v x = v2 y ∧ Rx A2 W w (N2 y)) : Spec P f args R2 A2 v2 N2 := fun w hA hR => by
 have s1 := (Sx.start hA hR).cast ha.eq
 have s2 := s1.perm ht.perm
 refine (hs w (s2.toFx.sub (List.sublist_append_left _ _)) (s1.reads ht.perm hr)).mono ?_
 rintro e w' ⟨x, rfl, hx⟩
 obtain ⟨y, h1, h2⟩ := hN x w w' ((hN' x).eq ▸ s2.ret hx)
 exact ⟨y, by rw [h1], h2⟩
theorem Sx.ofH {A : List Fa} {W w : World} {L : List Fa} {φ : World → Prop} (h : H A W 0 [] [] L (fun _ w => φ w)) (s : Sx A W w L) : φ w := h { tmps := #[], defers := [] } w ⟨rfl, rfl, fun t v h => by cases h⟩ s
theorem Pre_z (p : Proof) (hc : checkP p = 0) (ss : List B32) (hs : p.sibs.n = ss.length) (key : B32) (n : Nat) (hn : n ≤ 256) (h : Zh) [hT : RdZ h (some ⟨1, 0, none⟩) hashT] [hS : RdZ h p.sibs.A (dgs ss)] (gh gc k0 : Nat) (hk : k0 ≤ 800000000000) (d : Nat) (hd : p.depth = (d : Int)) : Spec Tryz.prog 83 [.pointer (some ⟨gh, 0, none⟩), .agg p.cells.toArray, .agg key.cells.toArray].toArray [HR gh gc n] [.zone true h, CN gc k0] (fun u : {u : Zh × Nat × Nat × List Seg // LeZ h u.1 ∧ SegsZ u.1 u.2.2.2 (preLs n key (expL (sumB n preE) p.bitmap ss d) (endP p) (d + 1)).reverse ∧ RdZ u.1 (some ⟨u.2.1, 0, none⟩) (svs u.2.2.2)} => .tuple #[.slice (some ⟨u.1.2.1, 0, none⟩) (d + 1) u.1.2.2.1, .int .i64 0]) (fun u => [.zone true u.1.1, CN gc (k0 + 1 + d + 1)]) := by
 refine (Pre_s p hc ss hs key n hn gh gc k0 hk d hd).weakE ?_
 rintro ⟨⟨g, c, ys⟩, hys⟩ W w s
 dsimp only at hys s ⊢
 refine Sx.ofH (φ := fun w => ∃ y : {u : Zh × Nat × Nat × List Seg // LeZ h u.1 ∧ SegsZ u.1 u.2.2.2 (preLs n key (expL (sumB n preE) p.bitmap ss d) (endP p) (d + 1)).reverse ∧ RdZ u.1 (some ⟨u.2.1, 0, none⟩) (svs u.2.2.2)}, Value.tuple #[.slice (some ⟨g, 0, none⟩) (d + 1) c, .int .i64 0] = .tuple #[.slice (some ⟨y.1.2.1, 0, none⟩) (d + 1) y.1.2.2.1, .int .i64 0] ∧ Rx [.zone true h, CN gc k0] W w [.zone true y.1.1, CN gc (k0 + 1 + d + 1)]) ?_ s
 refine h_freezeSegs ys _ hys fun z1 hz1 hs1 => ?_
 refine h_freezeO (.slice (some ⟨g, 0, none⟩) (d + 1) c) fun z2 B2 c2 e2 hle2 hlen2 hnil2 hz2 hr2 => ?_
 injection e2 with e2 _ e3
 subst e2 e3
 exact fun a w ka s => ⟨⟨(z2, g, c, ys), hz1.trans hz2, hs1.mono hz2, hr2⟩, rfl, (same (L' := [.zone true z2, CN gc (k0 + 1 + d + 1)]) w s).res (List.Sublist.refl _) (by simp [Fa.wr])⟩
theorem zbL {A : List Fa} {W : World} {z z' : Zh} (hl : LeZ z z') {Cs : List Fa} {L M M' : List Fa} [tz : TakeZ L z' M] [tc : Take Cs M M'] : ∀ w, Sx A W w L → Sx A W w (.zone false z :: Cs) := fun w s => by
 have s2 : Sx A W w (.zone true z' :: (Cs ++ M')) := (s.perm tz.perm).perm (tc.perm.cons _)
 have s3 : Sx A W w (.zone true z' :: Cs) := s2.sub (List.Sublist.cons_cons _ (List.sublist_append_left _ _))
 have hz := s3.ok (.zone true z') (List.mem_cons_self ..)
 have hC := s3.sub (List.sublist_cons_self _ _)
 refine hC.cons (fun k o ho => hz k o (hl.le k o ho)) (fun g hg hw k hk1 hk2 => ?_) (fun h => by cases h)
 obtain ⟨h1, h2⟩ := List.pairwise_cons.1 s3.sep
 obtain ⟨o, ho⟩ := hk1
 exact h1 g hg (by rw [Bool.or_eq_true]; exact .inl rfl) k ⟨o, hl.le k o ho⟩ hk2
def outV : Option (List UInt8 × List UInt8) → Option Addr × Nat → Option Addr × Nat → Value
 | some (x, y), X, Y => .tuple #[.slice X.1 x.length X.2, .slice Y.1 y.length Y.2, .bool true]
 | none, _, _ => .tuple #[.slice none 0 0, .slice none 0 0, .bool false]
def prePl (n : Nat) (key : B32) (p : Proof) (ss : List B32) : List (List UInt8) := (preLs n key (expL (sumB n preE) p.bitmap ss p.depth.toNat) (endP p) (p.depth.toNat + 1)).reverse
def singleR (n : Nat) (m : List En) (D : Nat) (c : Claim) (kb vb : List UInt8) (p0 : Proof) (ss : List B32) : Option (List UInt8 × List UInt8) :=
 if accV n (dgT n (mkT m 0)) c kb vb p0 ss && !trueC m c kb vb then some (findP (wayPre n (keyOf kb) (mkT m 0) (D + 1)) (prePl n (keyOf kb) p0 ss) (preV (getV (getE' m (keyOf kb)))) (preV vb)) else none
section
variable (n : Nat) (hn : n ≤ 256) (h : Zh) [hT : RdZ h (some ⟨1, 0, none⟩) hashT] (gh gc k : Nat) (hk : k ≤ 10000000) (m : List En) (hal : Alike m 0) (p : Option Addr) [ht : TrZ n h (mkT m 0) p] (c : Claim) (kb vb : List UInt8) [hK : SlZ h c.key kb] [hV : SlZ h c.value vb] (hvb : vb.length ≤ 100000000) (hvl : ∀ e ∈ m, e.val.length ≤ 100000000)
include hn hk hal hvb hvl
theorem xSingle_s (D : Nat) (w : WayM (keyOf kb) m D) (p0 : Proof) (ss : List B32) (hs : p0.sibs.n = ss.length) [hS : RdZ h p0.sibs.A (dgs ss)] (o : Option (List UInt8 × List UInt8)) (ho : singleR n m D c kb vb p0 ss = o) : Spec Tryz.prog 29 [.pointer (some ⟨gh, 0, none⟩), .pointer p, .agg c.cells.toArray, .agg p0.cells.toArray].toArray [HR gh gc n] [.zone true h, CN gc k] (fun u : {u : Zh × (Option Addr × Nat) × (Option Addr × Nat) × Nat // LeZ h u.1 ∧ (∀ x y, o = some (x, y) → PZ u.1 u.2.1.1 u.2.1.2 x ∧ PZ u.1 u.2.2.1.1 u.2.2.1.2 y) ∧ u.2.2.2 ≤ k + 3000} => outV o u.1.2.1 u.1.2.2.1) (fun u => [.zone true u.1.1, CN gc u.1.2.2.2]) := by
 have hDg := Digest_s n hn gh gc k (by omega) h (mkT m 0) p
 obtain ⟨k1, hk1⟩ : ∃ k1, k + (if (mkT m 0).kind = 0 then 1 else 0) = k1 := ⟨_, rfl⟩
 have hk1b : k1 ≤ k + 1 := by rw [← hk1]; split <;> omega
 rw [hk1] at hDg
 have hA := Accepts_s n hn h gh gc k1 (by omega) (dgT n (mkT m 0)) c kb vb hvb p0 ss hs
 have hTr := fun z (htz : TrZ n z (mkT m 0) p) (hKz : SlZ z c.key kb) (hVz : SlZ z c.value vb) => xTrue_s n z m hal p c kb vb (fun e he => by have := hvl e he; omega)
 unfold singleR at ho
 obtain ⟨a, ha⟩ : ∃ a, accV n (dgT n (mkT m 0)) c kb vb p0 ss = a := ⟨_, rfl⟩
 obtain ⟨t, htr⟩ : ∃ t, trueC m c kb vb = t := ⟨_, rfl⟩
 rw [ha, htr] at ho
 rw [ha] at hA
 rw [htr] at hTr
 have hkn := hK.len
 cases a
 ·obtain rfl : none = o := ho
  refine spec_of Tryz.func29 rfl (n := 46) rfl rfl ?_
  intro W
  refine yR ?_
  refine h_opX (x_box rfl) fun g6 => ?_
  refine h_opX (x_box rfl) fun g7 => ?_
  refine yS rfl ?_
  refine yS rfl ?_
  refine yS rfl ?_
  refine yN ?_
  refine h_seq ?_
  refine h_seq ?_
  refine ha_start [.blk g6 c.cells 25, .blk g7 p0.cells 54] [] mixed (same) ?_
  refine ha_takeP 0 rfl (r_move rfl) ?_
  refine ha_takeP 1 rfl (r_move rfl) ?_
  refine ha_takeP 2 rfl (r_move rfl) ?_
  refine ha_take 4 rfl (r_loadr rfl) ?_
  refine ha_take 5 rfl (r_loadr rfl) ?_
  refine ha_one 3 ?_
  refine ho_C 3 rfl (hDg.comes) rfl rfl rfl (fun xx => same) fun _ => ?_
  refine ha_one 6 ?_
  refine ho_C 6 rfl (hA.comes) rfl rfl rfl (fun xx => same) fun ⟨⟨z1, k2⟩, hz1, hk2⟩ => ?_
  refine ha_takeP 7 rfl (r_not rfl) ?_
  refine ha_takeP 8 rfl (r_move rfl) ?_
  refine ha_off 9 rfl ?_
  refine ha_off 10 rfl ?_
  refine ha_off 11 rfl ?_
  refine ha_takeP 12 rfl (r_pick rfl rfl) ?_
  refine ha_done (by kernel_rfl) ?_
  refine q_then ?_
  refine h_condT rfl ?_
  refine yR ?_
  refine yS rfl ?_
  refine yS rfl ?_
  refine yS rfl ?_
  refine yN ?_
  refine h_ret ?_
  refine q_thenR ?_
  exact h_ret3 rfl rfl rfl rfl fun w s => ⟨⟨(z1, (none, 0), (none, 0), k2), hz1, (fun x y h => by cases h), by dsimp only at hk2 ⊢; omega⟩, rfl, (same (L' := [.zone true z1, CN gc k2]) w s).res (List.Sublist.refl _) (by simp [Fa.wr])⟩
 ·cases t
  ·have hck : checkP p0 = 0 ∧ claimE c = 0 := by
    unfold accV at ha
    simp only [Bool.and_eq_true, decide_eq_true_eq] at ha
    exact ⟨ha.1.2, ha.1.1⟩
   have hk32 : kb.length = 32 := by
    have h1 := hck.2
    unfold claimE at h1
    split at h1
    ·omega
    ·cases h1
   have hdp := ok_depth hck.1
   obtain ⟨d, hd⟩ : ∃ d : Nat, p0.depth = (d : Int) := ⟨p0.depth.toNat, by omega⟩
   have hd2 : p0.depth.toNat = d := by omega
   obtain ⟨⟨x, y⟩, hxy⟩ : ∃ xy, findP (wayPre n (keyOf kb) (mkT m 0) (D + 1)) (prePl n (keyOf kb) p0 ss) (preV (getV (getE' m (keyOf kb)))) (preV vb) = xy := ⟨_, rfl⟩
   obtain rfl : some (x, y) = o := by rw [← ho, hxy]; rfl
   have hP := fun z (hTz : RdZ z (some ⟨1, 0, none⟩) hashT) (hSz : RdZ z p0.sibs.A (dgs ss)) k0 hk0 => Pre_z p0 hck.1 ss hs (keyOf kb) n hn z gh gc k0 hk0 d hd
   have hpl : prePl n (keyOf kb) p0 ss = (preLs n (keyOf kb) (expL (sumB n preE) p0.bitmap ss d) (endP p0) (d + 1)).reverse := by unfold prePl; rw [hd2]
   rw [← hpl] at hP
   have hCo := fun z (hTz : RdZ z (some ⟨1, 0, none⟩) hashT) (htz : TrZ n z (mkT m 0) p) (hKz : SlZ z c.key kb) (hVz : SlZ z c.value vb) k0 hk0 ys Y cy (hY : RdZ z Y (svs ys)) hys hyl => xCompare_s n hn z gh gc k0 hk0 m p c kb vb hk32 hvb hvl D w ys (prePl n (keyOf kb) p0 ss) Y cy (hY := hY) hys hyl x y hxy
   have hpll : (prePl n (keyOf kb) p0 ss).length = d + 1 := by rw [hpl, List.length_reverse, preLs_len]
   generalize prePl n (keyOf kb) p0 ss = pl at *
   have hKr : RdZ h c.key.A (keyOf kb).cells := by rw [keyOf_cells hk32]; exact hK.rd
   obtain ⟨bK, oK, hKA, -⟩ := hKr.at_ 0 _ (List.getElem?_eq_getElem (by rw [B32.cells_length]; decide))
   rw [hKA] at hKr
   refine spec_of Tryz.func29 rfl (n := 46) rfl rfl ?_
   intro W
   refine yR ?_
   refine h_opX (x_box rfl) fun g6 => ?_
   refine h_opX (x_box rfl) fun g7 => ?_
   refine yS rfl ?_
   refine yS rfl ?_
   refine yS rfl ?_
   refine yN ?_
   refine h_seq ?_
   refine h_seq ?_
   refine ha_start [.blk g6 c.cells 25, .blk g7 p0.cells 54] [] mixed (same) ?_
   refine ha_takeP 0 rfl (r_move rfl) ?_
   refine ha_takeP 1 rfl (r_move rfl) ?_
   refine ha_takeP 2 rfl (r_move rfl) ?_
   refine ha_take 4 rfl (r_loadr rfl) ?_
   refine ha_take 5 rfl (r_loadr rfl) ?_
   refine ha_one 3 ?_
   refine ho_C 3 rfl (hDg.comes) rfl rfl rfl (fun xx => same) fun _ => ?_
   refine ha_one 6 ?_
   refine ho_C 6 rfl (hA.comes) rfl rfl rfl (fun xx => same) fun ⟨⟨z1, k2⟩, hz1, hk2⟩ => ?_
   refine ha_takeP 7 rfl (r_not rfl) ?_
   refine ha_takeP 8 rfl (r_move rfl) ?_
   refine ha_takeP 9 rfl (r_move rfl) ?_
   refine ha_take 10 rfl (r_loadr rfl) ?_
   refine ha_one 11 ?_
   refine ho_C 11 rfl ((hTr z1 ⟨ht.ok.mono hz1⟩ (hK.mono hz1) (hV.mono hz1)).comes) rfl rfl rfl (fun xx => same) fun _ => ?_
   refine ha_takeP 12 rfl (r_pick rfl rfl) ?_
   refine ha_done (by kernel_rfl) ?_
   refine q_then ?_
   dsimp only at hz1 hk2 ⊢
   have hKr1 : RdZ z1 (some ⟨bK, oK, none⟩) (keyOf kb).cells := hKr.mono hz1
   refine h_condF rfl ?_
   refine h_skip ?_
   refine q_then ?_
   refine h_seq ?_
   refine ha_start [.zone false z1, .blk g6 c.cells 25, .blk g7 p0.cells 54] [] mixed (zbL (LeZ.refl z1)) ?_
   refine ha_takeP 0 rfl (r_move rfl) ?_
   refine ha_take 1 rfl (r_loadr rfl) ?_
   refine ha_takeP 2 rfl (r_field rfl) ?_
   refine ha_take 3 rfl (r_as (r_loadc rfl) (show _ = Value.slice (some ⟨bK, oK, none⟩) c.key.n c.key.c by rw [hKA])) ?_
   refine ha_takeP 4 rfl (r_arr rfl (hm := show 32 ≤ c.key.n by omega)) ?_
   refine ha_take 5 rfl (r_loadr rfl) ?_
   refine ha_one 6 ?_
   refine ho_C 6 rfl ((hP z1 (hT.mono hz1) (hS.mono hz1) k2 (by omega)).comes) rfl rfl rfl (fun xx => zbL xx.2.1) fun ⟨⟨z2, g33, c33, ys⟩, hz2, hys, hyr⟩ => ?_
   refine ha_takeP 7 rfl (r_move rfl) ?_
   refine ha_takeP 8 rfl (r_extract rfl rfl) ?_
   refine ha_takeP 9 rfl (r_extract rfl rfl) ?_
   refine ha_takeP 10 rfl (r_assign rfl) ?_
   refine ha_takeP 11 rfl (r_assign rfl) ?_
   refine ha_done (by kernel_rfl) ?_
   refine q_then ?_
   dsimp only at hz2 hys hyr ⊢
   have hyl := hys.len
   have hz12 := hz1.trans hz2
   have hCo := hCo z2 (hT.mono hz12) ⟨ht.ok.mono hz12⟩ (hK.mono hz12) (hV.mono hz12) (k2 + 1 + d + 1) (by omega) ys (some ⟨g33, 0, none⟩) c33 hyr hys (by omega)
   rw [hyl, hpll] at hCo
   refine h_seq ?_
   refine yR ?_
   refine yM rfl ?_
   refine h_op (r_neq rfl rfl) ?_
   refine yN ?_
   refine h_condF rfl ?_
   refine h_skip ?_
   refine q_then ?_
   refine yR ?_
   refine yM rfl ?_
   refine yM rfl ?_
   refine h_op (r_loadr rfl) ?_
   refine yM rfl ?_
   refine h_call (hCo.comes) rfl rfl rfl fun ⟨⟨z3, X, Y, k3⟩, hz3, hX, hY, hk3⟩ => ?_
   dsimp only at hz3 hX hY hk3 ⊢
   refine h_op (r_extract rfl rfl) ?_
   refine h_op (r_extract rfl rfl) ?_
   refine h_op (r_extract rfl rfl) ?_
   refine yS rfl ?_
   refine yS rfl ?_
   refine yS rfl ?_
   refine yN ?_
   refine h_ret ?_
   exact h_ret3 rfl rfl rfl rfl fun w s => ⟨⟨(z3, X, Y, k3), hz12.trans hz3, (fun x' y' e => by injection e with e; injection e with e1 e2; subst e1 e2; exact ⟨hX, hY⟩), by dsimp only; omega⟩, rfl, (same (L' := [.zone true z3, CN gc k3]) w s).res (List.Sublist.refl _) (by simp [Fa.wr])⟩
  ·obtain rfl : none = o := ho
   refine spec_of Tryz.func29 rfl (n := 46) rfl rfl ?_
   intro W
   refine yR ?_
   refine h_opX (x_box rfl) fun g6 => ?_
   refine h_opX (x_box rfl) fun g7 => ?_
   refine yS rfl ?_
   refine yS rfl ?_
   refine yS rfl ?_
   refine yN ?_
   refine h_seq ?_
   refine h_seq ?_
   refine ha_start [.blk g6 c.cells 25, .blk g7 p0.cells 54] [] mixed (same) ?_
   refine ha_takeP 0 rfl (r_move rfl) ?_
   refine ha_takeP 1 rfl (r_move rfl) ?_
   refine ha_takeP 2 rfl (r_move rfl) ?_
   refine ha_take 4 rfl (r_loadr rfl) ?_
   refine ha_take 5 rfl (r_loadr rfl) ?_
   refine ha_one 3 ?_
   refine ho_C 3 rfl (hDg.comes) rfl rfl rfl (fun xx => same) fun _ => ?_
   refine ha_one 6 ?_
   refine ho_C 6 rfl (hA.comes) rfl rfl rfl (fun xx => same) fun ⟨⟨z1, k2⟩, hz1, hk2⟩ => ?_
   refine ha_takeP 7 rfl (r_not rfl) ?_
   refine ha_takeP 8 rfl (r_move rfl) ?_
   refine ha_takeP 9 rfl (r_move rfl) ?_
   refine ha_take 10 rfl (r_loadr rfl) ?_
   refine ha_one 11 ?_
   refine ho_C 11 rfl ((hTr z1 ⟨ht.ok.mono hz1⟩ (hK.mono hz1) (hV.mono hz1)).comes) rfl rfl rfl (fun xx => same) fun _ => ?_
   refine ha_takeP 12 rfl (r_pick rfl rfl) ?_
   refine ha_done (by kernel_rfl) ?_
   refine q_then ?_
   refine h_condT rfl ?_
   refine yR ?_
   refine yS rfl ?_
   refine yS rfl ?_
   refine yS rfl ?_
   refine yN ?_
   refine h_ret ?_
   refine q_thenR ?_
   exact h_ret3 rfl rfl rfl rfl fun w s => ⟨⟨(z1, (none, 0), (none, 0), k2), hz1, (fun x y h => by cases h), by dsimp only at hk2 ⊢; omega⟩, rfl, (same (L' := [.zone true z1, CN gc k2]) w s).res (List.Sublist.refl _) (by simp [Fa.wr])⟩
end
end Go.Proofs.YtjhocljhhpkiiaaGreatDoor
/- U119 -/
namespace Go.Proofs.YtjhocljhhpkiiaaGreatDoor
open Go.RowKit
def batchB : ByteArray := ⟨#[98, 97, 116, 99, 104]⟩
def errB : Option (Nat × Int) → Nat → List Fa
 | none, _ => []
 | some (i, e), g => [.blk g (fltC batchB (i : Int) e) 178]
theorem mFail_no (i : Int) : Spec Tryz.prog 102 [.int .i64 i, .int .i64 0].toArray [] [] (fun _ : Unit => .nilIface) (fun _ => []) := by
 refine spec_of Tryz.func102 rfl (n := 11) rfl rfl ?_
 intro W
 refine yR ?_
 refine yS rfl ?_
 refine yN ?_
 refine h_seq ?_
 refine yR ?_
 refine yM rfl ?_
 refine h_op (r_eql rfl rfl) ?_
 refine yN ?_
 refine h_condT rfl ?_
 refine yR ?_
 refine yS rfl ?_
 refine yN ?_
 refine h_ret ?_
 refine q_thenR ?_
 exact h_ret1 rfl rfl fun w s => ⟨(), rfl, s.res (List.nil_sublist _) (by simp)⟩
theorem mFail_s (i : Int) (e : Int) (he : e ≠ 0) : Spec Tryz.prog 102 [.int .i64 i, .int .i64 e].toArray [] [] (fun g : Nat => .iface 174 (.pointer (some ⟨g, 0, none⟩))) (fun g => [.blk g (fltC batchB i e) 178]) := by
 refine spec_of Tryz.func102 rfl (n := 11) rfl rfl ?_
 intro W
 refine yR ?_
 refine yS rfl ?_
 refine yN ?_
 refine h_seq ?_
 refine yR ?_
 refine yM rfl ?_
 refine h_op (r_eql rfl rfl) ?_
 refine yN ?_
 refine h_no rfl (he) ?_
 refine h_skip ?_
 refine q_then ?_
 refine yR ?_
 refine yM rfl ?_
 refine yM rfl ?_
 refine h_op (r_mkI rfl) ?_
 refine h_call ((fNew_s batchB i e).comes) rfl rfl rfl fun g10 => ?_
 refine yS rfl ?_
 refine yN ?_
 refine h_ret ?_
 exact h_ret1 rfl rfl fun w s => ⟨g10, rfl, (same (L' := [.blk g10 (fltC batchB i e) 178]) w s).res (List.Sublist.refl _) (by simp [Fa.wr])⟩
theorem claims1_s (i : Int) (c : Claim) : Spec Tryz.prog 108 [.int .i64 i, .agg c.cells.toArray].toArray [] [] (fun _ : Unit => .int .i64 (claimE c)) (fun _ => []) := by
 refine spec_of Tryz.func108 rfl (n := 7) rfl rfl ?_
 intro W
 refine yR ?_
 refine h_opX (x_box rfl) fun g3 => ?_
 refine yS rfl ?_
 refine yN ?_
 refine yR ?_
 refine h_op (r_loadr rfl) ?_
 refine h_call ((Claim_s c).comes) rfl rfl rfl fun _ => ?_
 refine yS rfl ?_
 refine yN ?_
 refine h_ret ?_
 exact h_ret1 rfl rfl fun w s => ⟨(), rfl, s.res (List.nil_sublist _) (by simp)⟩
theorem first1_s (h : Zh) (l : List CB) (A : Option Addr) (c : Nat) [hr : RdZ h A (cbs l)] (hl : l.length ≤ 1000000000) (r : Option (Nat × Int)) (hR : firstF (fun i => claimE (l.getD i zCB).c) l.length 0 = r) : Spec Tryz.prog 107 [.slice A l.length c, .func (.func 108) #[] #[]].toArray [.zone false h] [] (fun g : Nat => errV r g) (fun g => errB r g) := by
 refine spec_of Tryz.func107 rfl (n := 25) rfl rfl ?_
 intro W
 refine yR ?_
 refine yS rfl ?_
 refine yN ?_
 refine h_seq ?_
 refine yR ?_
 refine yM rfl ?_
 refine h_op (r_len rfl) ?_
 refine yM rfl ?_
 refine yN ?_
 refine h_block ?_
 refine h_loop (fun (i : Nat) => i ≤ l.length ∧ ∀ j, j < i → claimE (l.getD j zCB).c = 0) (fun (i : Nat) => [(10, .int .i64 (i : Int)), (9, .int .i64 (l.length : Int)), (8, .slice A l.length c), (1, .func (.func 108) #[] #[])]) (fun (i : Nat) => [.zone false h]) (fun (i : Nat) => l.length - i) 0 (⟨Nat.zero_le _, fun j hj => absurd hj (Nat.not_lt_zero _)⟩) ⟨rfl, rfl, rfl, rfl, trivial⟩ (same) ?_
 rintro i ⟨hi, hz⟩
 refine yR ?_
 refine h_op (r_lss rfl rfl) ?_
 refine yN ?_
 refine h_seq ?_
 refine h_cond rfl (fun hlt => ?_) (fun hlt => ?_)
 ·have hi2 : i < l.length := by omega
  have hx := getD_get zCB hi2
  have hz0 : ∀ j, 0 ≤ j → j < i → claimE (l.getD j zCB).c = 0 := fun j _ hj => hz j hj
  obtain ⟨b, o, rfl, -⟩ := hr.at_ (i * 3) _ (cbs_at hx 0 _ rfl)
  have hs := firstF_some (fun i => claimE (l.getD i zCB).c) i
  generalize l.getD i zCB = x at *
  refine h_skip ?_
  refine q_then ?_
  refine h_seq ?_
  refine h_block ?_
  refine yR ?_
  refine yM rfl ?_
  refine h_op (r_idx rfl rfl) ?_
  refine h_op (r_nthr rfl (out := x.c.cells) (Claim.cells_length _) (cbs_at hx)) ?_
  refine h_opX (x_alloc) fun g6 => ?_
  refine yS rfl ?_
  refine h_opS (s_storer rfl rfl) ?_
  refine yN ?_
  refine yR ?_
  refine yM rfl ?_
  refine yM rfl ?_
  refine yM rfl ?_
  refine h_op (r_loadr rfl) ?_
  refine h_call ((claims1_s (i : Int) x.c).comes) rfl rfl rfl fun _ => ?_
  by_cases h0 : claimE x.c = 0
  ·rw [h0]
   refine h_call ((mFail_no (i : Int)).comes) rfl rfl rfl fun _ => ?_
   refine yS rfl ?_
   refine yN ?_
   refine yR ?_
   refine yM rfl ?_
   refine h_op (r_nilnn rfl) ?_
   refine yN ?_
   refine h_condF rfl ?_
   refine h_skip ?_
   refine q_block ?_
   refine q_then ?_
   refine h_reg ?_
   refine h_op (r_add rfl rfl) ?_
   refine yM rfl ?_
   refine h_nil ?_
   exact h_back (i + 1) (⟨hi2, fun j hj => (Nat.lt_or_ge j i).elim (hz j) fun h8 => by (obtain rfl : j = i := by omega); rw [List.getD_eq_getElem?_getD, hx]; exact h0⟩) ((show l.length - (i + 1) < l.length - i by omega)) ⟨rfl, rfl, rfl, rfl, trivial⟩ (same)
  ·have hxe : (l.getD i zCB) = x := by rw [List.getD_eq_getElem?_getD, hx]; rfl
   obtain rfl : some (i, claimE x.c) = r := by rw [← hR, firstF_some (fun i => claimE (l.getD i zCB).c) i (by rw [hxe]; exact h0) l.length 0 (Nat.zero_le _) (by omega) hz0, hxe]
   refine h_call ((mFail_s (i : Int) (claimE x.c) h0).comes) rfl rfl rfl fun g20 => ?_
   refine yS rfl ?_
   refine yN ?_
   refine yR ?_
   refine yM rfl ?_
   refine h_op (r_ifnn rfl) ?_
   refine yN ?_
   refine h_condT rfl ?_
   refine yR ?_
   refine yM rfl ?_
   refine yS rfl ?_
   refine yN ?_
   refine h_ret ?_
   refine q_blockR ?_
   refine q_thenR ?_
   refine q_thenR ?_
   refine q_blockR ?_
   refine q_thenR ?_
   exact h_ret1 rfl rfl fun w s => ⟨g20, rfl, (same (L' := [.blk g20 (fltC batchB (i : Int) (claimE x.c)) 178]) w s).res (List.Sublist.refl _) (by simp [Fa.wr, errB])⟩
 ·obtain rfl : i = l.length := by omega
  obtain rfl : none = r := by rw [← hR, firstF_none _ _ _ (fun j _ hj => hz j (by omega))]
  refine h_exit ?_
  refine q_thenE ?_
  refine q_thenE ?_
  refine q_blockE ?_
  refine q_then ?_
  refine yR ?_
  refine yS rfl ?_
  refine yN ?_
  refine h_ret ?_
  exact h_ret1 rfl rfl fun w s => ⟨0, rfl, s.res (List.nil_sublist _) (by simp [errB])⟩
theorem claims2_s (ks : List B32) (B : Option Addr) (cc : Nat) (g i : Nat) (hi : i < ks.length) (hl : ks.length ≤ 1000000000) : Spec Tryz.prog 110 [.int .i64 (i : Int), .agg (ks.getD i zB32).cells.toArray, .pointer (some ⟨g, 0, none⟩)].toArray [.rd (some ⟨g, 0, none⟩) [.slice B ks.length cc], .rd B (dgs ks)] [] (fun _ : Unit => .int .i64 (neighE ks i)) (fun _ => []) := by
 refine spec_of Tryz.func110 rfl (n := 27) rfl rfl ?_
 intro W
 refine yR ?_
 refine h_opX (x_box rfl) fun g4 => ?_
 refine yS rfl ?_
 refine yN ?_
 refine h_seq ?_
 refine h_block ?_
 refine h_seq ?_
 rcases i with _ | m
 ·refine ha_start [.rd (some ⟨g, 0, none⟩) [.slice B ks.length cc]] [] mixed (same) ?_
  refine ha_takeP 0 rfl (r_move rfl) ?_
  refine ha_takeP 1 rfl (r_bool (r_eql rfl rfl) rfl) ?_
  refine ha_takeP 2 rfl (r_move rfl) ?_
  refine ha_off 3 rfl ?_
  refine ha_off 4 rfl ?_
  refine ha_off 5 rfl ?_
  refine ha_off 6 rfl ?_
  refine ha_off 7 rfl ?_
  refine ha_off 8 rfl ?_
  refine ha_off 9 rfl ?_
  refine ha_off 10 rfl ?_
  refine ha_takeP 11 rfl (r_pick rfl rfl) ?_
  refine ha_takeP 12 rfl (r_assign rfl) ?_
  refine ha_done (by kernel_rfl) ?_
  refine q_then ?_
  refine h_condT rfl ?_
  refine yR ?_
  refine yS rfl ?_
  refine yN ?_
  refine h_ret ?_
  refine q_blockR ?_
  refine q_thenR ?_
  exact h_ret1 rfl rfl fun w s => ⟨(), rfl, s.res (List.nil_sublist _) (by simp)⟩
 ·have hn : neighE ks (m + 1) = if cmpB (ks.getD m zB32) (ks.getD (m + 1) zB32) < 0 then 0 else if ks.getD m zB32 = ks.getD (m + 1) zB32 then 9 else 8 := rfl
  have h1 := dgs_at (l := ks) (k := m) (by omega)
  rw [hn]
  generalize ks.getD (m + 1) zB32 = y at *
  generalize ks.getD m zB32 = x at *
  refine h_pure (φ := ∃ b o, B = some ⟨b, o, none⟩) (fun w s => Rd.some (s.ok (.rd B (dgs ks)) (by simp)) (by rw [dgs_len]; omega)) ?_
  rintro ⟨b, o, rfl⟩
  by_cases hc : cmpB x y < 0
  ·rw [if_pos hc]
   refine ha_start [.blk g4 y.cells 35, .rd (some ⟨g, 0, none⟩) [.slice (some ⟨b, o, none⟩) ks.length cc], .rd (some ⟨b, o, none⟩) (dgs ks)] [] mixed (same) ?_
   refine ha_takeP 0 rfl (r_move rfl) ?_
   refine ha_takeP 1 rfl (r_bool (r_eql rfl rfl) (decide_eq_false (by omega))) ?_
   refine ha_takeP 2 rfl (r_move rfl) ?_
   refine ha_take 3 rfl (r_loadc rfl) ?_
   refine ha_takeP 4 rfl (r_move rfl) ?_
   refine ha_takeP 5 rfl (r_subN rfl rfl (m := m) (hm := by omega)) ?_
   refine ha_takeP 6 rfl (r_idx rfl rfl) ?_
   refine ha_take 7 rfl (r_nthr rfl (out := x.cells) (B32.cells_length _) h1) ?_
   refine ha_take 8 rfl (r_loadr rfl) ?_
   refine ha_one 9 ?_
   refine ho_C 9 rfl ((kCompare_s x y).comes) rfl rfl rfl (fun xx => same) fun _ => ?_
   refine ha_takeP 10 rfl (r_bool (r_lss rfl rfl) (decide_eq_true hc)) ?_
   refine ha_takeP 11 rfl (r_pick rfl rfl) ?_
   refine ha_takeP 12 rfl (r_assign rfl) ?_
   refine ha_done (by kernel_rfl) ?_
   refine q_then ?_
   refine h_condT rfl ?_
   refine yR ?_
   refine yS rfl ?_
   refine yN ?_
   refine h_ret ?_
   refine q_blockR ?_
   refine q_thenR ?_
   exact h_ret1 rfl rfl fun w s => ⟨(), rfl, s.res (List.nil_sublist _) (by simp)⟩
  ·rw [if_neg hc]
   refine ha_start [.blk g4 y.cells 35, .rd (some ⟨g, 0, none⟩) [.slice (some ⟨b, o, none⟩) ks.length cc], .rd (some ⟨b, o, none⟩) (dgs ks)] [] mixed (same) ?_
   refine ha_takeP 0 rfl (r_move rfl) ?_
   refine ha_takeP 1 rfl (r_bool (r_eql rfl rfl) (decide_eq_false (by omega))) ?_
   refine ha_takeP 2 rfl (r_move rfl) ?_
   refine ha_take 3 rfl (r_loadc rfl) ?_
   refine ha_takeP 4 rfl (r_move rfl) ?_
   refine ha_takeP 5 rfl (r_subN rfl rfl (m := m) (hm := by omega)) ?_
   refine ha_takeP 6 rfl (r_idx rfl rfl) ?_
   refine ha_take 7 rfl (r_nthr rfl (out := x.cells) (B32.cells_length _) h1) ?_
   refine ha_take 8 rfl (r_loadr rfl) ?_
   refine ha_one 9 ?_
   refine ho_C 9 rfl ((kCompare_s x y).comes) rfl rfl rfl (fun xx => same) fun _ => ?_
   refine ha_takeP 10 rfl (r_bool (r_lss rfl rfl) (decide_eq_false hc)) ?_
   refine ha_takeP 11 rfl (r_pick rfl rfl) ?_
   refine ha_takeP 12 rfl (r_assign rfl) ?_
   refine ha_done (by kernel_rfl) ?_
   refine q_then ?_
   refine h_condF rfl ?_
   refine h_seq ?_
   by_cases he : x = y
   ·rw [if_pos he]
    refine ha_start [.blk g4 y.cells 35, .rd (some ⟨g, 0, none⟩) [.slice (some ⟨b, o, none⟩) ks.length cc], .rd (some ⟨b, o, none⟩) (dgs ks)] [] mixed (same) ?_
    refine ha_take 0 rfl (r_loadc rfl) ?_
    refine ha_takeP 1 rfl (r_move rfl) ?_
    refine ha_takeP 2 rfl (r_subN rfl rfl (m := m) (hm := by omega)) ?_
    refine ha_takeP 3 rfl (r_idx rfl rfl) ?_
    refine ha_take 4 rfl (r_nthr rfl (out := x.cells) (B32.cells_length _) h1) ?_
    refine ha_take 5 rfl (r_loadr rfl) ?_
    refine ha_takeP 6 rfl (r_bool (r_eqr rfl rfl) (decide_eq_true he)) ?_
    refine ha_takeP 7 rfl (r_assign rfl) ?_
    refine ha_done (by kernel_rfl) ?_
    refine q_then ?_
    refine h_condT rfl ?_
    refine yR ?_
    refine yS rfl ?_
    refine yN ?_
    refine h_ret ?_
    refine q_blockR ?_
    refine q_thenR ?_
    exact h_ret1 rfl rfl fun w s => ⟨(), rfl, s.res (List.nil_sublist _) (by simp)⟩
   ·rw [if_neg he]
    refine ha_start [.blk g4 y.cells 35, .rd (some ⟨g, 0, none⟩) [.slice (some ⟨b, o, none⟩) ks.length cc], .rd (some ⟨b, o, none⟩) (dgs ks)] [] mixed (same) ?_
    refine ha_take 0 rfl (r_loadc rfl) ?_
    refine ha_takeP 1 rfl (r_move rfl) ?_
    refine ha_takeP 2 rfl (r_subN rfl rfl (m := m) (hm := by omega)) ?_
    refine ha_takeP 3 rfl (r_idx rfl rfl) ?_
    refine ha_take 4 rfl (r_nthr rfl (out := x.cells) (B32.cells_length _) h1) ?_
    refine ha_take 5 rfl (r_loadr rfl) ?_
    refine ha_takeP 6 rfl (r_bool (r_eqr rfl rfl) (decide_eq_false he)) ?_
    refine ha_takeP 7 rfl (r_assign rfl) ?_
    refine ha_done (by kernel_rfl) ?_
    refine q_then ?_
    refine h_condF rfl ?_
    refine h_skip ?_
    refine q_block ?_
    refine q_then ?_
    refine yR ?_
    refine yS rfl ?_
    refine yN ?_
    refine h_ret ?_
    exact h_ret1 rfl rfl fun w s => ⟨(), rfl, s.res (List.nil_sublist _) (by simp)⟩
theorem first2_s (ks : List B32) (B : Option Addr) (cc g : Nat) (hl : ks.length ≤ 1000000000) (r : Option (Nat × Int)) (hR : firstF (neighE ks) ks.length 0 = r) : Spec Tryz.prog 109 [.slice B ks.length cc, .func (.func 110) #[] #[.pointer (some ⟨g, 0, none⟩)]].toArray [.rd (some ⟨g, 0, none⟩) [.slice B ks.length cc], .rd B (dgs ks)] [] (fun g : Nat => errV r g) (fun g => errB r g) := by
 refine spec_of Tryz.func109 rfl (n := 25) rfl rfl ?_
 intro W
 refine yR ?_
 refine yS rfl ?_
 refine yN ?_
 refine h_seq ?_
 refine yR ?_
 refine yM rfl ?_
 refine h_op (r_len rfl) ?_
 refine yM rfl ?_
 refine yN ?_
 refine h_block ?_
 refine h_loop (fun (i : Nat) => i ≤ ks.length ∧ ∀ j, j < i → neighE ks j = 0) (fun (i : Nat) => [(10, .int .i64 (i : Int)), (9, .int .i64 (ks.length : Int)), (8, .slice B ks.length cc), (1, .func (.func 110) #[] #[.pointer (some ⟨g, 0, none⟩)])]) (fun (i : Nat) => [.rd (some ⟨g, 0, none⟩) [.slice B ks.length cc], .rd B (dgs ks)]) (fun (i : Nat) => ks.length - i) 0 (⟨Nat.zero_le _, fun j hj => absurd hj (Nat.not_lt_zero _)⟩) ⟨rfl, rfl, rfl, rfl, trivial⟩ (same) ?_
 rintro i ⟨hi, hz⟩
 refine yR ?_
 refine h_op (r_lss rfl rfl) ?_
 refine yN ?_
 refine h_seq ?_
 refine h_cond rfl (fun hlt => ?_) (fun hlt => ?_)
 ·have hi2 : i < ks.length := by omega
  have hz0 : ∀ j, 0 ≤ j → j < i → neighE ks j = 0 := fun j _ hj => hz j hj
  have hd := dgs_at (l := ks) (k := i) hi2
  refine h_pure (φ := ∃ b o, B = some ⟨b, o, none⟩) (fun w s => Rd.some (s.ok (.rd B (dgs ks)) (by simp)) (by rw [dgs_len]; omega)) ?_
  rintro ⟨b, o, rfl⟩
  have hC := claims2_s ks (some ⟨b, o, none⟩) cc g i hi2 hl
  refine h_skip ?_
  refine q_then ?_
  refine h_seq ?_
  refine h_block ?_
  refine yR ?_
  refine yM rfl ?_
  refine h_op (r_idx rfl rfl) ?_
  refine h_op (r_nthr rfl (out := (ks.getD i zB32).cells) (B32.cells_length _) hd) ?_
  refine h_opX (x_alloc) fun g6 => ?_
  refine yS rfl ?_
  refine h_opS (s_storer rfl rfl) ?_
  refine yN ?_
  refine yR ?_
  refine yM rfl ?_
  refine yM rfl ?_
  refine yM rfl ?_
  refine h_op (r_loadr rfl) ?_
  refine h_call (hC.comes) rfl rfl rfl fun _ => ?_
  by_cases h0 : neighE ks i = 0
  ·rw [h0]
   refine h_call ((mFail_no (i : Int)).comes) rfl rfl rfl fun _ => ?_
   refine yS rfl ?_
   refine yN ?_
   refine yR ?_
   refine yM rfl ?_
   refine h_op (r_nilnn rfl) ?_
   refine yN ?_
   refine h_condF rfl ?_
   refine h_skip ?_
   refine q_block ?_
   refine q_then ?_
   refine h_reg ?_
   refine h_op (r_add rfl rfl) ?_
   refine yM rfl ?_
   refine h_nil ?_
   exact h_back (i + 1) (⟨hi2, fun j hj => (Nat.lt_or_ge j i).elim (hz j) fun h8 => by (obtain rfl : j = i := by omega); exact h0⟩) ((show ks.length - (i + 1) < ks.length - i by omega)) ⟨rfl, rfl, rfl, rfl, trivial⟩ (same)
  ·obtain rfl : some (i, neighE ks i) = r := by rw [← hR, firstF_some (neighE ks) i h0 ks.length 0 (Nat.zero_le _) (by omega) hz0]
   refine h_call ((mFail_s (i : Int) (neighE ks i) h0).comes) rfl rfl rfl fun g20 => ?_
   refine yS rfl ?_
   refine yN ?_
   refine yR ?_
   refine yM rfl ?_
   refine h_op (r_ifnn rfl) ?_
   refine yN ?_
   refine h_condT rfl ?_
   refine yR ?_
   refine yM rfl ?_
   refine yS rfl ?_
   refine yN ?_
   refine h_ret ?_
   refine q_blockR ?_
   refine q_thenR ?_
   refine q_thenR ?_
   refine q_blockR ?_
   refine q_thenR ?_
   exact h_ret1 rfl rfl fun w s => ⟨g20, rfl, (same (L' := [.blk g20 (fltC batchB (i : Int) (neighE ks i)) 178]) w s).res (List.Sublist.refl _) (by simp [Fa.wr, errB])⟩
 ·obtain rfl : i = ks.length := by omega
  obtain rfl : none = r := by rw [← hR, firstF_none _ _ _ (fun j _ hj => hz j (by omega))]
  refine h_exit ?_
  refine q_thenE ?_
  refine q_thenE ?_
  refine q_blockE ?_
  refine q_then ?_
  refine yR ?_
  refine yS rfl ?_
  refine yN ?_
  refine h_ret ?_
  exact h_ret1 rfl rfl fun w s => ⟨0, rfl, s.res (List.nil_sublist _) (by simp [errB])⟩
end Go.Proofs.YtjhocljhhpkiiaaGreatDoor
/- U120 -/
namespace Go.Proofs.YtjhocljhhpkiiaaGreatDoor
open Go.RowKit
def keysI (l : List CB) (k : Nat) : List B32 := (keysC l).take k ++ List.replicate (l.length - k) zB32
theorem keysI_len {l : List CB} {k : Nat} (h : k ≤ l.length) : (keysI l k).length = l.length := by
 unfold keysI
 rw [List.length_append, List.length_take, keysC_len, List.length_replicate]
 omega
theorem keysI_zero (l : List CB) : List.replicate l.length zB32 = keysI l 0 := by unfold keysI; simp
theorem keysI_all (l : List CB) : keysI l l.length = keysC l := by
 unfold keysI
 rw [Nat.sub_self, List.replicate_zero, List.append_nil, List.take_of_length_le (by rw [keysC_len]; exact Nat.le_refl _)]
theorem keysC_get {l : List CB} {k : Nat} (h : k < l.length) : (keysC l)[k]? = some (keyOf (l.getD k zCB).kb) := by
 unfold keysC
 rw [List.getElem?_map, getD_get zCB h]
 rfl
theorem keysI_set {l : List CB} {k : Nat} (h : k < l.length) : (keysI l k).set k (keyOf (l.getD k zCB).kb) = keysI l (k + 1) := by
 unfold keysI
 have h1 : ((keysC l).take k).length = k := by rw [List.length_take, keysC_len]; omega
 rw [List.set_append_right _ _ (by omega), h1, Nat.sub_self, show l.length - k = (l.length - (k + 1)) + 1 by omega, List.replicate_succ, List.set_cons_zero, List.take_add_one, keysC_get h]
 simp
def claimsV (n : Nat) : Option (Nat × Int) → Nat → Value
 | none, g => .tuple #[.slice (some ⟨g, 0, none⟩) n n, .nilIface]
 | some _, g => .tuple #[.slice none 0 0, .iface 174 (.pointer (some ⟨g, 0, none⟩))]
def claimsN (l : List CB) : Option (Nat × Int) → Nat → List Fa
 | none, g => [.own (.slice (some ⟨g, 0, none⟩) l.length l.length) l.length 35 32 (dgs (keysC l))]
 | some (i, e), g => [.blk g (fltC batchB (i : Int) e) 178]
section
variable (h : Zh) (l : List CB) (A : Option Addr) (c : Nat) [hr : RdZ h A (cbs l)] (hl : l.length ≤ 1000000000)
include hl
omit hr in
theorem Claims_early (e : Int) (hE : (l.length = 0 ∧ e = 10) ∨ (65535 < l.length ∧ e = 11)) : Spec Tryz.prog 56 [.slice A l.length c].toArray [.zone false h] [] (fun g : Nat => .tuple #[.slice none 0 0, .iface 174 (.pointer (some ⟨g, 0, none⟩))]) (fun g => [.blk g (fltC batchB 0 e) 178]) := by
 refine spec_of Tryz.func56 rfl (n := 49) rfl rfl ?_
 intro W
 rcases hE with ⟨h0, rfl⟩ | ⟨h0, rfl⟩
 ·refine h_seq ?_
  refine h_reg ?_
  refine yS rfl ?_
  refine yS rfl ?_
  refine yN ?_
  refine h_seq ?_
  refine h_block ?_
  refine yR ?_
  refine yM rfl ?_
  refine h_op (r_len rfl) ?_
  refine h_op (r_eql rfl rfl) ?_
  refine yS rfl ?_
  refine yN ?_
  refine h_yes rfl ((show ((l.length : Nat) : Int) = 0 by omega)) ?_
  refine yR ?_
  refine h_call ((mFail_s 0 10 (by decide)).comes) rfl rfl rfl fun g13 => ?_
  refine yS rfl ?_
  refine yS rfl ?_
  refine yN ?_
  refine h_ret ?_
  refine q_blockR ?_
  refine q_thenR ?_
  exact h_ret2 rfl rfl rfl fun w s => ⟨g13, rfl, (same (L' := [.blk g13 (fltC batchB 0 10) 178]) w s).res (List.Sublist.refl _) (by simp [Fa.wr])⟩
 ·refine h_seq ?_
  refine h_reg ?_
  refine yS rfl ?_
  refine yS rfl ?_
  refine yN ?_
  refine h_seq ?_
  refine h_block ?_
  refine yR ?_
  refine yM rfl ?_
  refine h_op (r_len rfl) ?_
  refine h_op (r_eql rfl rfl) ?_
  refine yS rfl ?_
  refine yN ?_
  refine h_no rfl ((show ¬ ((l.length : Nat) : Int) = 0 by omega)) ?_
  refine yR ?_
  refine yM rfl ?_
  refine h_op (r_len rfl) ?_
  refine h_op (r_gtr rfl rfl) ?_
  refine yS rfl ?_
  refine yN ?_
  refine h_yes rfl ((show (65535 : Int) < ((l.length : Nat) : Int) by omega)) ?_
  refine yR ?_
  refine h_call ((mFail_s 0 11 (by decide)).comes) rfl rfl rfl fun g18 => ?_
  refine yS rfl ?_
  refine yS rfl ?_
  refine yN ?_
  refine h_ret ?_
  refine q_blockR ?_
  refine q_thenR ?_
  exact h_ret2 rfl rfl rfl fun w s => ⟨g18, rfl, (same (L' := [.blk g18 (fltC batchB 0 11) 178]) w s).res (List.Sublist.refl _) (by simp [Fa.wr])⟩
theorem mClaims_s (hz : ClsZ h l) (r : Option (Nat × Int)) (hR : claimsR l = r) : Spec Tryz.prog 56 [.slice A l.length c].toArray [.zone false h] [] (fun g : Nat => claimsV l.length r g) (fun g => claimsN l r g) := by
 by_cases h0 : l.length = 0
 ·obtain rfl : some (0, 10) = r := by rw [← hR]; unfold claimsR; rw [if_pos h0]
  exact Claims_early h l A c hl 10 (.inl ⟨h0, rfl⟩)
 by_cases h1 : 65535 < l.length
 ·obtain rfl : some (0, 11) = r := by rw [← hR]; unfold claimsR; rw [if_neg h0, if_pos h1]
  exact Claims_early h l A c hl 11 (.inr ⟨h1, rfl⟩)
 have hR2 : (match firstF (fun i => claimE (l.getD i zCB).c) l.length 0 with | some r => some r | none => firstF (neighE (keysC l)) l.length 0) = r := by
  rw [← hR]
  unfold claimsR
  rw [if_neg h0, if_neg h1]
  rcases firstF (fun i => claimE (l.getD i zCB).c) l.length 0 with _ | _ <;> rfl
 have hF1 := first1_s h l A c hl _ rfl
 have hF2 := fun (B : Option Addr) (g : Nat) => first2_s (keysC l) B l.length g (by rw [keysC_len]; exact hl) _ rfl
 rw [keysC_len] at hF2
 have hok : firstF (fun i => claimE (l.getD i zCB).c) l.length 0 = none → ∀ i, i < l.length → (l.getD i zCB).kb.length = 32 := fun hn i hi => by
  have h1 := firstF_zero _ _ _ hn i (Nat.zero_le _) (by omega)
  have h2 := (hz.get hi).1.len
  unfold claimE at h1
  split at h1
  ·omega
  ·cases h1
 generalize firstF (fun i => claimE (l.getD i zCB).c) l.length 0 = r1 at *
 rcases r1 with _ | ⟨i1, e1⟩
 ·replace hok := hok rfl
  replace hF1 : Spec Tryz.prog 107 [.slice A l.length c, .func (.func 108) #[] #[]].toArray [.zone false h] [] (fun g : Nat => .nilIface) (fun g => []) := hF1
  replace hR2 : firstF (neighE (keysC l)) l.length 0 = r := hR2
  rw [hR2] at hF2
  refine spec_of Tryz.func56 rfl (n := 49) rfl rfl ?_
  intro W
  refine yR ?_
  refine yS rfl ?_
  refine yS rfl ?_
  refine yN ?_
  refine h_seq ?_
  refine h_block ?_
  refine yR ?_
  refine yM rfl ?_
  refine h_op (r_len rfl) ?_
  refine h_op (r_eql rfl rfl) ?_
  refine yS rfl ?_
  refine yN ?_
  refine h_no rfl ((show ¬ ((l.length : Nat) : Int) = 0 by omega)) ?_
  refine yR ?_
  refine yM rfl ?_
  refine h_op (r_len rfl) ?_
  refine h_op (r_gtr rfl rfl) ?_
  refine yS rfl ?_
  refine yN ?_
  refine h_no rfl ((show ¬ (65535 : Int) < ((l.length : Nat) : Int) by omega)) ?_
  refine h_skip ?_
  refine q_block ?_
  refine q_then ?_
  refine h_seq ?_
  refine yR ?_
  refine yM rfl ?_
  refine h_call (hF1.comes) rfl rfl rfl fun _ => ?_
  refine yS rfl ?_
  refine yN ?_
  refine yR ?_
  refine yM rfl ?_
  refine h_op (r_nilnn rfl) ?_
  refine yN ?_
  refine h_condF rfl ?_
  refine h_skip ?_
  refine q_then ?_
  refine yR ?_
  refine yM rfl ?_
  refine h_op (r_len rfl) ?_
  refine h_opX (x_make rfl rfl) fun g26 => ?_
  refine h_opX (x_alloc) fun g5 => ?_
  refine h_opS (s_store rfl rfl rfl) ?_
  refine yN ?_
  refine h_seq ?_
  refine yR ?_
  refine yM rfl ?_
  refine h_op (r_len rfl) ?_
  refine yM rfl ?_
  refine yN ?_
  refine h_block ?_
  rw [made_dgs, keysI_zero]
  refine h_loop (fun (k : Nat) => k ≤ l.length) (fun (k : Nat) => [(29, .int .i64 (k : Int)), (28, .int .i64 (l.length : Int)), (27, .slice A l.length c), (5, .pointer (some ⟨g5, 0, none⟩))]) (fun (k : Nat) => [.own (.slice (some ⟨g26, 0, none⟩) l.length l.length) l.length 35 32 (dgs (keysI l k)), .blk g5 [.slice (some ⟨g26, 0, none⟩) l.length l.length] 104, .zone false h]) (fun (k : Nat) => l.length - k) 0 ((show 0 ≤ _ from Nat.zero_le _)) ⟨rfl, rfl, rfl, rfl, trivial⟩ (same) ?_
  rintro k hk
  refine yR ?_
  refine h_op (r_lss rfl rfl) ?_
  refine yN ?_
  refine h_seq ?_
  refine h_cond rfl (fun hlt => ?_) (fun hlt => ?_)
  ·have hk2 : k < l.length := by omega
   have hx := getD_get zCB hk2
   have hkl := hok k hk2
   have hsk := (hz.get hk2).1
   have hset := dgs_set (keysI l k) k (keyOf (l.getD k zCB).kb) (by rw [keysI_len (by omega)]; exact hk2)
   rw [keysI_set hk2] at hset
   obtain ⟨b, o, rfl, -⟩ := hr.at_ (k * 3) _ (cbs_at hx 0 _ rfl)
   generalize l.getD k zCB = x at *
   have hkn := hsk.len
   obtain ⟨bK, oK, hKA, -⟩ := hsk.rd.at_ 0 _ (List.getElem?_eq_getElem (by rw [bc_length]; omega))
   have hKr : RdZ h (some ⟨bK, oK, none⟩) (keyOf x.kb).cells := by rw [keyOf_cells hkl, ← hKA]; exact hsk.rd
   refine h_skip ?_
   refine q_then ?_
   refine h_seq ?_
   refine h_block ?_
   refine yR ?_
   refine yM rfl ?_
   refine h_op (r_idx rfl rfl) ?_
   refine h_op (r_nthr rfl (out := x.c.cells) (Claim.cells_length _) (cbs_at hx)) ?_
   refine h_opX (x_alloc) fun g7 => ?_
   refine yS rfl ?_
   refine h_opS (s_storer rfl rfl) ?_
   refine yN ?_
   refine ha_start [.blk g5 [.slice (some ⟨g26, 0, none⟩) l.length l.length] 104, .blk g7 x.c.cells 25, .zone false h] [] mixed (same) ?_
   refine ha_take 0 rfl (r_loadc rfl) ?_
   refine ha_takeP 1 rfl (r_move rfl) ?_
   refine ha_takeP 2 rfl (r_field rfl) ?_
   refine ha_take 3 rfl (r_as (r_loadc rfl) (show _ = Value.slice (some ⟨bK, oK, none⟩) x.c.key.n x.c.key.c by rw [hKA])) ?_
   refine ha_takeP 4 rfl (r_arr rfl (hm := show 32 ≤ x.c.key.n by omega)) ?_
   refine ha_take 5 rfl (r_loadr rfl) ?_
   refine ha_takeP 6 rfl (r_idx rfl rfl) ?_
   refine ha_one 7 ?_
   refine ho_SL 7 rfl (s_setrO rfl rfl (by rw [dgs_len, keysI_len (by omega)]; omega) hset) ?_
   refine q_block ?_
   refine q_then ?_
   refine h_reg ?_
   refine h_op (r_add rfl rfl) ?_
   refine yM rfl ?_
   refine h_nil ?_
   exact h_back (k + 1) ((show k + 1 ≤ _ from hk2)) ((show l.length - (k + 1) < l.length - k by omega)) ⟨rfl, rfl, rfl, rfl, trivial⟩ (same)
  ·obtain rfl : k = l.length := by omega
   rw [keysI_all]
   rcases r with _ | ⟨i2, e2⟩
   ·replace hF2 : ∀ (B : Option Addr) (g : Nat), Spec Tryz.prog 109 [.slice B l.length l.length, .func (.func 110) #[] #[.pointer (some ⟨g, 0, none⟩)]].toArray [.rd (some ⟨g, 0, none⟩) [.slice B l.length l.length], .rd B (dgs (keysC l))] [] (fun g : Nat => .nilIface) (fun g => []) := hF2
    refine h_exit ?_
    refine q_thenE ?_
    refine q_thenE ?_
    refine q_blockE ?_
    refine q_then ?_
    refine yR ?_
    refine h_op (r_loadc rfl) ?_
    refine h_op (r_func rfl rfl) ?_
    refine h_call ((hF2 (some ⟨g26, 0, none⟩) g5).comes) rfl rfl rfl fun _ => ?_
    refine yS rfl ?_
    refine yN ?_
    refine h_seq ?_
    refine yR ?_
    refine yM rfl ?_
    refine h_op (r_nilnn rfl) ?_
    refine yN ?_
    refine h_condF rfl ?_
    refine h_skip ?_
    refine q_then ?_
    refine yR ?_
    refine h_op (r_loadc rfl) ?_
    refine yS rfl ?_
    refine yS rfl ?_
    refine yN ?_
    refine h_ret ?_
    exact h_ret2 rfl rfl rfl fun w s => ⟨g26, rfl, (same (L' := [.own (.slice (some ⟨g26, 0, none⟩) l.length l.length) l.length 35 32 (dgs (keysC l))]) w s).res (List.Sublist.refl _) (by simp [Fa.wr, claimsN])⟩
   ·replace hF2 : ∀ (B : Option Addr) (g : Nat), Spec Tryz.prog 109 [.slice B l.length l.length, .func (.func 110) #[] #[.pointer (some ⟨g, 0, none⟩)]].toArray [.rd (some ⟨g, 0, none⟩) [.slice B l.length l.length], .rd B (dgs (keysC l))] [] (fun g : Nat => .iface 174 (.pointer (some ⟨g, 0, none⟩))) (fun g => [.blk g (fltC batchB (i2 : Int) e2) 178]) := hF2
    refine h_exit ?_
    refine q_thenE ?_
    refine q_thenE ?_
    refine q_blockE ?_
    refine q_then ?_
    refine yR ?_
    refine h_op (r_loadc rfl) ?_
    refine h_op (r_func rfl rfl) ?_
    refine h_call ((hF2 (some ⟨g26, 0, none⟩) g5).comes) rfl rfl rfl fun g44 => ?_
    refine yS rfl ?_
    refine yN ?_
    refine h_seq ?_
    refine yR ?_
    refine yM rfl ?_
    refine h_op (r_ifnn rfl) ?_
    refine yN ?_
    refine h_condT rfl ?_
    refine yR ?_
    refine yM rfl ?_
    refine yS rfl ?_
    refine yS rfl ?_
    refine yN ?_
    refine h_ret ?_
    refine q_thenR ?_
    exact h_ret2 rfl rfl rfl fun w s => ⟨g44, rfl, (same (L' := [.blk g44 (fltC batchB (i2 : Int) e2) 178]) w s).res (List.Sublist.refl _) (by simp [Fa.wr, claimsN])⟩
 ·replace hF1 : Spec Tryz.prog 107 [.slice A l.length c, .func (.func 108) #[] #[]].toArray [.zone false h] [] (fun g : Nat => .iface 174 (.pointer (some ⟨g, 0, none⟩))) (fun g => [.blk g (fltC batchB (i1 : Int) e1) 178]) := hF1
  obtain rfl : some (i1, e1) = r := hR2
  refine spec_of Tryz.func56 rfl (n := 49) rfl rfl ?_
  intro W
  refine yR ?_
  refine yS rfl ?_
  refine yS rfl ?_
  refine yN ?_
  refine h_seq ?_
  refine h_block ?_
  refine yR ?_
  refine yM rfl ?_
  refine h_op (r_len rfl) ?_
  refine h_op (r_eql rfl rfl) ?_
  refine yS rfl ?_
  refine yN ?_
  refine h_no rfl ((show ¬ ((l.length : Nat) : Int) = 0 by omega)) ?_
  refine yR ?_
  refine yM rfl ?_
  refine h_op (r_len rfl) ?_
  refine h_op (r_gtr rfl rfl) ?_
  refine yS rfl ?_
  refine yN ?_
  refine h_no rfl ((show ¬ (65535 : Int) < ((l.length : Nat) : Int) by omega)) ?_
  refine h_skip ?_
  refine q_block ?_
  refine q_then ?_
  refine h_seq ?_
  refine yR ?_
  refine yM rfl ?_
  refine h_call (hF1.comes) rfl rfl rfl fun g20 => ?_
  refine yS rfl ?_
  refine yN ?_
  refine yR ?_
  refine yM rfl ?_
  refine h_op (r_ifnn rfl) ?_
  refine yN ?_
  refine h_condT rfl ?_
  refine yR ?_
  refine yM rfl ?_
  refine yS rfl ?_
  refine yS rfl ?_
  refine yN ?_
  refine h_ret ?_
  refine q_thenR ?_
  exact h_ret2 rfl rfl rfl fun w s => ⟨g20, rfl, (same (L' := [.blk g20 (fltC batchB (i1 : Int) e1) 178]) w s).res (List.Sublist.refl _) (by simp [Fa.wr, claimsN])⟩
end
end Go.Proofs.YtjhocljhhpkiiaaGreatDoor
/- U26z -/
namespace Go.Proofs.YtjhocljhhpkiiaaGreatDoor
open Go.RowKit
end Go.Proofs.YtjhocljhhpkiiaaGreatDoor
/- U27 -/
namespace Go.Proofs.YtjhocljhhpkiiaaGreatDoor
open Go.RowKit
def k5 : B32 := ⟨5 :: List.replicate 31 0, rfl⟩
end Go.Proofs.YtjhocljhhpkiiaaGreatDoor
/- U55 -/
namespace Go.Proofs.YtjhocljhhpkiiaaGreatDoor
open Go.RowKit
end Go.Proofs.YtjhocljhhpkiiaaGreatDoor
/- E25 -/
namespace Go.Proofs.YtjhocljhhpkiiaaGreatDoor
open Go.RowKit
end Go.Proofs.YtjhocljhhpkiiaaGreatDoor
/- E28 -/
namespace Go.Proofs.YtjhocljhhpkiiaaGreatDoor
open Go.RowKit
end Go.Proofs.YtjhocljhhpkiiaaGreatDoor
/- E22 -/
namespace Go.Proofs.YtjhocljhhpkiiaaGreatDoor
open Go.RowKit
theorem endC_at {l : List (Item × Nat)} {k : Nat} {x : Item × Nat} (h : l[k]? = some x) : ∀ j v, (End.cells ⟨x.1, (x.2 : Int)⟩)[j]? = some v → (endC l)[k * 98 + j]? = some v := by
 intro j v hv
 have hj : j < 98 := by have := (List.getElem?_eq_some_iff.1 hv).1; rw [End.cells_length] at this; exact this
 obtain ⟨h1, h2⟩ := List.getElem?_eq_some_iff.1 h
 have e : endC l = endC (l.take k) ++ (End.cells ⟨x.1, (x.2 : Int)⟩ ++ endC (l.drop (k + 1))) := by
  conv => lhs; rw [← List.take_append_drop k l, List.drop_eq_getElem_cons h1, h2]
  unfold endC
  rw [List.flatMap_append, List.flatMap_cons]
 rw [e, List.getElem?_append_right (by rw [endC_len, List.length_take]; omega), endC_len, List.length_take, Nat.min_eq_left (by omega), Nat.add_sub_cancel_left, List.getElem?_append_left (by rw [End.cells_length]; exact hj)]
 exact hv
theorem loc_way {m : List En} (h : Alike m 0) (key : B32) : ∃ D, WayTo key (mkT m 0) D ∧ loc key (mkT m 0) 0 = (wayK key (mkT m 0) D, D) := by
 obtain ⟨D, h1, h2, _, _, h5⟩ := wayTo_mkT (key := key) h
 refine ⟨D, h1, ?_⟩
 have := loc_mkT (k := key) h 256 0 (by omega) (by omega)
 rw [show atM key m 0 = m from rfl, h2] at this
 rw [this, h5 D (Nat.le_refl _)]
end Go.Proofs.YtjhocljhhpkiiaaGreatDoor
/- E30 -/
namespace Go.Proofs.YtjhocljhhpkiiaaGreatDoor
open Go.RowKit
def endPr (x : Item × Nat) : Proof := ⟨x.1.kind, (x.2 : Int), x.1.leaf, zB32, ⟨none, 0, 0⟩⟩
def showE (n : Nat) (es : List (Item × Nat)) (l : List CB) (i : Nat) : Int :=
 if supP (endPr (es.getD i (zItem, 0))) (keyOf (l.getD i zCB).kb) (valD n (l.getD i zCB).c.present (l.getD i zCB).vb) (l.getD i zCB).c.present then 0 else 12
def showR (n : Nat) (root : B32) (l : List CB) (t : Sub) : Option (Nat × Int) :=
 if (endsM t (keysC l) 0).2 then
  match firstF (showE n (endsM t (keysC l) 0).1 l) (endsM t (keysC l) 0).1.length 0 with
  | some r => some r
  | none => if dgS n t = root then none else some (0, 13)
 else some (0, 12)
end Go.Proofs.YtjhocljhhpkiiaaGreatDoor
/- U122 -/
namespace Go.Proofs.YtjhocljhhpkiiaaGreatDoor
open Go.RowKit
theorem keysC_getD {l : List CB} {k : Nat} (h : k < l.length) : (keysC l).getD k zB32 = keyOf (l.getD k zCB).kb := by
 rw [List.getD_eq_getElem?_getD, keysC_get h]; rfl
section
variable (n : Nat) (hn : n ≤ 256) (h : Zh) [hT : RdZ h (some ⟨1, 0, none⟩) hashT] (gh gc : Nat) (l : List CB) (A : Option Addr) (c : Nat) [hr : RdZ h A (cbs l)] (hz : ClsZ h l) (hvl : ∀ x ∈ l, x.vb.length ≤ 100000000) (hll : l.length ≤ 100000) (K : Option Addr) (kc : Nat) [hK : RdZ h K (dgs (keysC l))] (gl ph pk : Nat)
include hn hz hvl hll
omit hll in
theorem show1_s (k : Nat) (hk : k ≤ 1000000000) (i : Nat) (hi : i < l.length) (x : Item × Nat) (b : Bool) (hb : supP (endPr x) (keyOf (l.getD i zCB).kb) (valD n (l.getD i zCB).c.present (l.getD i zCB).vb) (l.getD i zCB).c.present = b) : Spec Tryz.prog 155 [.int .i64 (i : Int), .agg (End.cells ⟨x.1, (x.2 : Int)⟩).toArray, .pointer (some ⟨gl, 0, none⟩), .pointer (some ⟨ph, 0, none⟩), .pointer (some ⟨pk, 0, none⟩)].toArray [HR gh gc n, .zone false h, .rd (some ⟨gl, 0, none⟩) [.slice A l.length c], .rd (some ⟨ph, 0, none⟩) [.pointer (some ⟨gh, 0, none⟩)], .rd (some ⟨pk, 0, none⟩) [.slice K l.length kc]] [CN gc k] (fun _ : Unit => .int .i64 (if b then 0 else 12)) (fun _ => [CN gc (k + if (l.getD i zCB).c.present then 1 else 0)]) := by
 have hx := getD_get zCB hi
 have hvz := (hz.get hi).2
 have hvb := hvl _ (List.mem_of_getElem? hx)
 have hd := dgs_at (l := keysC l) (k := i) (by rw [keysC_len]; exact hi)
 rw [keysC_getD hi] at hd
 generalize l.getD i zCB = y at *
 have hvn := hvz.len
 have hVr : RdZ h y.c.value.A (bc y.vb) := hvz.rd
 have hVn := hvz.nil
 obtain ⟨bA, oA, rfl, -⟩ := hr.at_ (i * 3) _ (cbs_at hx 0 _ rfl)
 obtain ⟨bK, oK, rfl, -⟩ := hK.at_ (i * 32 + 0) _ (hd 0 _ (List.getElem?_eq_getElem (by rw [B32.cells_length]; decide)))
 have e1 := cbs_at hx 1 _ rfl
 have e2 := cbs_at hx 2 _ rfl
 obtain ⟨⟨ks, ⟨vA, vn, vc⟩, pr⟩, kb, vb⟩ := y
 dsimp only at hvn hVr hVn hvb hb hd e1 e2 ⊢
 subst hvn
 have hS := fun v => Supports_s (endPr x) (keyOf kb) v pr
 cases pr
 ·refine spec_of Tryz.func155 rfl (n := 45) rfl rfl ?_
  intro W
  refine yR ?_
  refine h_opX (x_box rfl) fun g6 => ?_
  refine yS rfl ?_
  refine yN ?_
  refine yR ?_
  refine h_opX (x_alloc) fun g8 => ?_
  refine yN ?_
  refine h_seq ?_
  refine yR ?_
  refine h_op (r_loadc rfl) ?_
  refine yM rfl ?_
  refine h_op (r_idx rfl rfl) ?_
  refine h_op (r_field rfl (O' := oA + (i * 3 + 2)) (by omega)) ?_
  refine h_op (r_nth rfl e2) ?_
  refine yN ?_
  refine h_condF rfl ?_
  refine h_skip ?_
  refine q_then ?_
  refine yR ?_
  refine h_op (r_field rfl) ?_
  refine h_op (r_field rfl) ?_
  refine h_op (r_loadc rfl) ?_
  refine h_op (r_field rfl) ?_
  refine h_op (r_loadc rfl) ?_
  refine h_op (r_field rfl) ?_
  refine h_op (r_field rfl) ?_
  refine h_op (r_loadr rfl) ?_
  refine h_op (r_build rfl) ?_
  refine h_opX (x_alloc) fun g9 => ?_
  refine h_opS (s_storer rfl rfl) ?_
  refine yN ?_
  refine h_seq ?_
  refine h_seq ?_
  change H _ _ _ _ _ (.blk g9 (endPr x).cells _ :: _) _
  have hS := hS zB32
  rw [show supP (endPr x) (keyOf kb) zB32 false = b from hb] at hS
  refine ha_start [.blk g9 (endPr x).cells 54, .blk g8 zB32.cells 42, .zone false h, .rd (some ⟨gl, 0, none⟩) [.slice (some ⟨bA, oA, none⟩) l.length c], .rd (some ⟨pk, 0, none⟩) [.slice (some ⟨bK, oK, none⟩) l.length kc]] [] mixed (same) ?_
  refine ha_take 0 rfl (r_loadr rfl) ?_
  refine ha_take 1 rfl (r_loadc rfl) ?_
  refine ha_takeP 2 rfl (r_move rfl) ?_
  refine ha_takeP 3 rfl (r_idx rfl rfl) ?_
  refine ha_take 4 rfl (r_nthr rfl (out := (keyOf kb).cells) (B32.cells_length _) hd) ?_
  refine ha_take 5 rfl (r_loadr rfl) ?_
  refine ha_take 6 rfl (r_loadc rfl) ?_
  refine ha_takeP 7 rfl (r_move rfl) ?_
  refine ha_takeP 8 rfl (r_idx rfl rfl) ?_
  refine ha_takeP 9 rfl (r_field rfl (O' := oA + (i * 3 + 2)) (by omega)) ?_
  refine ha_take 10 rfl (r_nth rfl e2) ?_
  refine ha_one 11 ?_
  refine ho_C 11 rfl (hS.comes) rfl rfl rfl (fun xx => same) fun _ => ?_
  refine ha_takeP 12 rfl (r_not rfl) ?_
  refine ha_done (by kernel_rfl) ?_
  refine q_then ?_
  cases b
  ·refine h_condT rfl ?_
   refine yR ?_
   refine yS rfl ?_
   refine yN ?_
   refine h_ret ?_
   refine q_thenR ?_
   exact h_ret1 rfl rfl fun w s => ⟨(), rfl, (same (L' := [CN gc k]) w s).res (List.Sublist.refl _) (by simp [Fa.wr])⟩
  ·refine h_condF rfl ?_
   refine h_skip ?_
   refine q_then ?_
   refine yR ?_
   refine yS rfl ?_
   refine yN ?_
   refine h_ret ?_
   exact h_ret1 rfl rfl fun w s => ⟨(), rfl, (same (L' := [CN gc k]) w s).res (List.Sublist.refl _) (by simp [Fa.wr])⟩
 ·refine spec_of Tryz.func155 rfl (n := 45) rfl rfl ?_
  intro W
  refine yR ?_
  refine h_opX (x_box rfl) fun g6 => ?_
  refine yS rfl ?_
  refine yN ?_
  refine yR ?_
  refine h_opX (x_alloc) fun g8 => ?_
  refine yN ?_
  refine h_seq ?_
  refine yR ?_
  refine h_op (r_loadc rfl) ?_
  refine yM rfl ?_
  refine h_op (r_idx rfl rfl) ?_
  refine h_op (r_field rfl (O' := oA + (i * 3 + 2)) (by omega)) ?_
  refine h_op (r_nth rfl e2) ?_
  refine yN ?_
  refine h_condT rfl ?_
  refine ha_start [.zone false h, .rd (some ⟨gl, 0, none⟩) [.slice (some ⟨bA, oA, none⟩) l.length c], .rd (some ⟨ph, 0, none⟩) [.pointer (some ⟨gh, 0, none⟩)]] [] mixed (same) ?_
  refine ha_take 0 rfl (r_loadc rfl) ?_
  refine ha_take 1 rfl (r_loadc rfl) ?_
  refine ha_takeP 2 rfl (r_move rfl) ?_
  refine ha_takeP 3 rfl (r_idx rfl rfl) ?_
  refine ha_takeP 4 rfl (r_field rfl (O' := oA + (i * 3 + 1)) (by omega)) ?_
  refine ha_take 5 rfl (r_nth rfl e1) ?_
  refine ha_one 6 ?_
  refine ho_C 6 rfl ((pValue_s vb vA vc (fun e => by have := hVn e; omega) hvb).comes) rfl rfl rfl (fun xx => same) fun ⟨g21, c21⟩ => ?_
  refine ha_one 7 ?_
  refine ho_C 7 rfl ((HSum_s n hn gh gc k (by omega) (preV vb) (some ⟨g21, 0, none⟩) c21 (fun h => by cases h) (by show vb.length + 1 ≤ _; omega)).comes) rfl rfl rfl (fun xx => same) fun _ => ?_
  refine ha_one 8 ?_
  refine ho_SL 8 rfl (s_storer rfl rfl) ?_
  refine q_then ?_
  refine yR ?_
  refine h_op (r_field rfl) ?_
  refine h_op (r_field rfl) ?_
  refine h_op (r_loadc rfl) ?_
  refine h_op (r_field rfl) ?_
  refine h_op (r_loadc rfl) ?_
  refine h_op (r_field rfl) ?_
  refine h_op (r_field rfl) ?_
  refine h_op (r_loadr rfl) ?_
  refine h_op (r_build rfl) ?_
  refine h_opX (x_alloc) fun g9 => ?_
  refine h_opS (s_storer rfl rfl) ?_
  refine yN ?_
  refine h_seq ?_
  refine h_seq ?_
  change H _ _ _ _ _ (.blk g9 (endPr x).cells _ :: _) _
  have hS := hS (sumB n (preV vb))
  rw [show supP (endPr x) (keyOf kb) (sumB n (preV vb)) true = b from hb] at hS
  refine ha_start [.blk g9 (endPr x).cells 54, .blk g8 (sumB n (preV vb)).cells 42, .zone false h, .rd (some ⟨gl, 0, none⟩) [.slice (some ⟨bA, oA, none⟩) l.length c], .rd (some ⟨pk, 0, none⟩) [.slice (some ⟨bK, oK, none⟩) l.length kc]] [] mixed (same) ?_
  refine ha_take 0 rfl (r_loadr rfl) ?_
  refine ha_take 1 rfl (r_loadc rfl) ?_
  refine ha_takeP 2 rfl (r_move rfl) ?_
  refine ha_takeP 3 rfl (r_idx rfl rfl) ?_
  refine ha_take 4 rfl (r_nthr rfl (out := (keyOf kb).cells) (B32.cells_length _) hd) ?_
  refine ha_take 5 rfl (r_loadr rfl) ?_
  refine ha_take 6 rfl (r_loadc rfl) ?_
  refine ha_takeP 7 rfl (r_move rfl) ?_
  refine ha_takeP 8 rfl (r_idx rfl rfl) ?_
  refine ha_takeP 9 rfl (r_field rfl (O' := oA + (i * 3 + 2)) (by omega)) ?_
  refine ha_take 10 rfl (r_nth rfl e2) ?_
  refine ha_one 11 ?_
  refine ho_C 11 rfl (hS.comes) rfl rfl rfl (fun xx => same) fun _ => ?_
  refine ha_takeP 12 rfl (r_not rfl) ?_
  refine ha_done (by kernel_rfl) ?_
  refine q_then ?_
  cases b
  ·refine h_condT rfl ?_
   refine yR ?_
   refine yS rfl ?_
   refine yN ?_
   refine h_ret ?_
   refine q_thenR ?_
   exact h_ret1 rfl rfl fun w s => ⟨(), rfl, (same (L' := [CN gc (k + 1)]) w s).res (List.Sublist.refl _) (by simp [Fa.wr])⟩
  ·refine h_condF rfl ?_
   refine h_skip ?_
   refine q_then ?_
   refine yR ?_
   refine yS rfl ?_
   refine yN ?_
   refine h_ret ?_
   exact h_ret1 rfl rfl fun w s => ⟨(), rfl, (same (L' := [CN gc (k + 1)]) w s).res (List.Sublist.refl _) (by simp [Fa.wr])⟩
theorem first3_s (k : Nat) (hk : k ≤ 100000000) (es : List (Item × Nat)) (E : Option Addr) (ec : Nat) [hE : RdZ h E (endC es)] (hel : es.length ≤ l.length) (r : Option (Nat × Int)) (hR : firstF (showE n es l) es.length 0 = r) : Spec Tryz.prog 154 [.slice E es.length ec, .func (.func 155) #[] #[.pointer (some ⟨gl, 0, none⟩), .pointer (some ⟨ph, 0, none⟩), .pointer (some ⟨pk, 0, none⟩)]].toArray [HR gh gc n, .zone false h, .rd (some ⟨gl, 0, none⟩) [.slice A l.length c], .rd (some ⟨ph, 0, none⟩) [.pointer (some ⟨gh, 0, none⟩)], .rd (some ⟨pk, 0, none⟩) [.slice K l.length kc]] [CN gc k] (fun u : {u : Nat × Nat // u.2 ≤ k + es.length} => errV r u.1.1) (fun u => CN gc u.1.2 :: errB r u.1.1) := by
 refine spec_of Tryz.func154 rfl (n := 25) rfl rfl ?_
 intro W
 refine yR ?_
 refine yS rfl ?_
 refine yN ?_
 refine h_seq ?_
 refine yR ?_
 refine yM rfl ?_
 refine h_op (r_len rfl) ?_
 refine yM rfl ?_
 refine yN ?_
 refine h_block ?_
 refine h_loop (fun (s : Nat × Nat) => s.1 ≤ es.length ∧ s.2 ≤ k + s.1 ∧ ∀ j, j < s.1 → showE n es l j = 0) (fun (s : Nat × Nat) => [(10, .int .i64 (s.1 : Int)), (9, .int .i64 (es.length : Int)), (8, .slice E es.length ec), (1, .func (.func 155) #[] #[.pointer (some ⟨gl, 0, none⟩), .pointer (some ⟨ph, 0, none⟩), .pointer (some ⟨pk, 0, none⟩)])]) (fun (s : Nat × Nat) => [CN gc s.2, HR gh gc n, .zone false h, .rd (some ⟨gl, 0, none⟩) [.slice A l.length c], .rd (some ⟨ph, 0, none⟩) [.pointer (some ⟨gh, 0, none⟩)], .rd (some ⟨pk, 0, none⟩) [.slice K l.length kc]]) (fun (s : Nat × Nat) => es.length - s.1) (0, k) (⟨Nat.zero_le _, Nat.le_refl _, fun j hj => absurd hj (Nat.not_lt_zero _)⟩) ⟨rfl, rfl, rfl, rfl, trivial⟩ (same) ?_
 rintro ⟨i, k'⟩ ⟨hi, hk', hz'⟩
 dsimp only at hi hk' hz' ⊢
 refine yR ?_
 refine h_op (r_lss rfl rfl) ?_
 refine yN ?_
 refine h_seq ?_
 refine h_cond rfl (fun hlt => ?_) (fun hlt => ?_)
 ·have hi2 : i < es.length := by omega
  have hx := getD_get (zItem, 0) hi2
  have hz0 : ∀ j, 0 ≤ j → j < i → showE n es l j = 0 := fun j _ hj => hz' j hj
  have hs := show1_s n hn h gh gc l A c hz hvl K kc gl ph pk k' (by omega) i (by omega) (es.getD i (zItem, 0)) _ rfl
  change Spec _ _ _ _ _ (fun _ : Unit => .int .i64 (showE n es l i)) _ at hs
  obtain ⟨b, o, rfl, -⟩ := hE.at_ (i * 98) _ (endC_at hx 0 _ rfl)
  obtain ⟨p, hp, hpe⟩ : ∃ p, p ≤ 1 ∧ (if (l.getD i zCB).c.present = true then 1 else 0) = p := ⟨_, by split <;> omega, rfl⟩
  rw [hpe] at hs
  refine h_skip ?_
  refine q_then ?_
  refine h_seq ?_
  refine h_block ?_
  refine yR ?_
  refine yM rfl ?_
  refine h_op (r_idx rfl rfl) ?_
  refine h_op (r_nthr rfl (out := End.cells ⟨(es.getD i (zItem, 0)).1, ((es.getD i (zItem, 0)).2 : Int)⟩) (End.cells_length _) (endC_at hx)) ?_
  refine h_opX (x_alloc) fun g6 => ?_
  refine yS rfl ?_
  refine h_opS (s_storer rfl rfl) ?_
  refine yN ?_
  refine yR ?_
  refine yM rfl ?_
  refine yM rfl ?_
  refine yM rfl ?_
  refine h_op (r_loadr rfl) ?_
  refine h_call (hs.comes) rfl rfl rfl fun _ => ?_
  by_cases h0 : showE n es l i = 0
  ·rw [h0]
   refine h_call ((mFail_no (i : Int)).comes) rfl rfl rfl fun _ => ?_
   refine yS rfl ?_
   refine yN ?_
   refine yR ?_
   refine yM rfl ?_
   refine h_op (r_nilnn rfl) ?_
   refine yN ?_
   refine h_condF rfl ?_
   refine h_skip ?_
   refine q_block ?_
   refine q_then ?_
   refine h_reg ?_
   refine h_op (r_add rfl rfl) ?_
   refine yM rfl ?_
   refine h_nil ?_
   exact h_back (i + 1, k' + p) (⟨hi2, by dsimp only; omega, fun j hj => (Nat.lt_or_ge j i).elim (hz' j) fun h8 => by (obtain rfl : j = i := by (dsimp only at hj; omega)); exact h0⟩) ((show es.length - (i + 1) < es.length - i by omega)) ⟨rfl, rfl, rfl, rfl, trivial⟩ (same)
  ·obtain rfl : some (i, showE n es l i) = r := by rw [← hR, firstF_some (showE n es l) i h0 es.length 0 (Nat.zero_le _) (by omega) hz0]
   refine h_call ((mFail_s (i : Int) (showE n es l i) h0).comes) rfl rfl rfl fun g20 => ?_
   refine yS rfl ?_
   refine yN ?_
   refine yR ?_
   refine yM rfl ?_
   refine h_op (r_ifnn rfl) ?_
   refine yN ?_
   refine h_condT rfl ?_
   refine yR ?_
   refine yM rfl ?_
   refine yS rfl ?_
   refine yN ?_
   refine h_ret ?_
   refine q_blockR ?_
   refine q_thenR ?_
   refine q_thenR ?_
   refine q_blockR ?_
   refine q_thenR ?_
   exact h_ret1 rfl rfl fun w s => ⟨⟨(g20, k' + p), by dsimp only; omega⟩, rfl, (same (L' := [CN gc (k' + p), .blk g20 (fltC batchB (i : Int) (showE n es l i)) 178]) w s).res (List.Sublist.refl _) (by simp [Fa.wr, errB])⟩
 ·obtain rfl : i = es.length := by omega
  obtain rfl : none = r := by rw [← hR, firstF_none _ _ _ (fun j _ hj => hz' j (by omega))]
  refine h_exit ?_
  refine q_thenE ?_
  refine q_thenE ?_
  refine q_blockE ?_
  refine q_then ?_
  refine yR ?_
  refine yS rfl ?_
  refine yN ?_
  refine h_ret ?_
  exact h_ret1 rfl rfl fun w s => ⟨⟨(0, k'), hk'⟩, rfl, (same (L' := [CN gc k']) w s).res (List.Sublist.refl _) (by simp [Fa.wr, errB])⟩
end
end Go.Proofs.YtjhocljhhpkiiaaGreatDoor
/- U123 -/
namespace Go.Proofs.YtjhocljhhpkiiaaGreatDoor
open Go.RowKit
theorem parse_cost {l : List Item} {t : Sub} (h : parseM l = .ok t) : t.cost ≤ l.length := by
 have h2 := readM_cost 256 l t [] (parse_ok h).1
 simpa using h2
section
variable (n : Nat) (hn : n ≤ 256) (h : Zh) [hT : RdZ h (some ⟨1, 0, none⟩) hashT] (gh gc : Nat) (l : List CB) (A : Option Addr) (c : Nat) [hr : RdZ h A (cbs l)] (hz : ClsZ h l) (hvl : ∀ x ∈ l, x.vb.length ≤ 100000000) (hll : l.length ≤ 100000) (K : Option Addr) (kc : Nat) [hK : RdZ h K (dgs (keysC l))] (hkc : l.length ≤ kc)
include hn hz hvl hll hkc
theorem show_s (k : Nat) (hk : k ≤ 100000000) (root : B32) (hC : claimsR l = none) (its0 : List Item) (I : Option Addr) (ic : Nat) [hI : RdZ h I (its its0)] (hic : its0.length ≤ ic) (hil : its0.length ≤ 1000000) (t : Sub) (hp : parseM its0 = .ok t) : Spec Tryz.prog 101 [.pointer (some ⟨gh, 0, none⟩), .agg root.cells.toArray, .slice A l.length c, .slice K l.length kc, .slice I its0.length ic].toArray [HR gh gc n] [.zone true h, CN gc k] (fun u : {u : Nat × Zh × Nat // LeZ h u.2.1 ∧ u.2.2 ≤ k + l.length + its0.length} => errV (showR n root l t) u.1.1) (fun u => .zone true u.1.2.1 :: CN gc u.1.2.2 :: errB (showR n root l t) u.1.1) := by
 have hke := (claimsR_ok hC).1
 have hkl := keysC_len l
 obtain ⟨es, b, hE⟩ : ∃ es b, endsM t (keysC l) 0 = (es, b) := ⟨_, _, rfl⟩
 have hel : es.length ≤ l.length := by
  have h1 := endsM_len t (keysC l) 0
  rw [hE, hkl] at h1
  exact h1
 have hEn := Ends_s h its0 I ic hic hil (keysC l) K kc t hp (by omega) (by omega) hke es b hE
 rw [hkl] at hEn
 have hcost := parse_cost hp
 obtain ⟨r, hR⟩ : ∃ r, showR n root l t = r := ⟨_, rfl⟩
 rw [hR]
 unfold showR at hR
 rw [hE] at hR
 dsimp only at hR
 cases b
 ·obtain rfl : some (0, 12) = r := hR
  replace hEn : Spec Tryz.prog 153 [.slice I its0.length ic, .slice K l.length kc].toArray [.zone false h] [] (fun u : Option Addr × Nat => .tuple #[.slice none 0 0, .int .i64 12]) (fun u => []) := hEn
  refine spec_of Tryz.func101 rfl (n := 46) rfl rfl ?_
  intro W
  refine yR ?_
  refine h_opX (x_box1 rfl) fun g5 => ?_
  refine h_opX (x_box rfl) fun g6 => ?_
  refine h_opX (x_box1 rfl) fun g7 => ?_
  refine h_opX (x_box1 rfl) fun g8 => ?_
  refine yS rfl ?_
  refine yN ?_
  refine yR ?_
  refine yM rfl ?_
  refine h_op (r_loadc rfl) ?_
  refine h_call (hEn.comes) rfl rfl rfl fun _ => ?_
  refine yM rfl ?_
  refine h_op (r_extract rfl rfl) ?_
  refine h_op (r_extract rfl rfl) ?_
  refine yS rfl ?_
  refine yS rfl ?_
  refine yN ?_
  refine h_seq ?_
  refine yR ?_
  refine yM rfl ?_
  refine h_op (r_neq rfl rfl) ?_
  refine yN ?_
  refine h_yes rfl ((show ¬ (12 : Int) = 0 by decide)) ?_
  refine yR ?_
  refine yM rfl ?_
  refine h_call ((mFail_s 0 12 (by decide)).comes) rfl rfl rfl fun g25 => ?_
  refine yS rfl ?_
  refine yN ?_
  refine h_ret ?_
  refine q_thenR ?_
  exact h_ret1 rfl rfl fun w s => ⟨⟨(g25, h, k), LeZ.refl h, by dsimp only; omega⟩, rfl, (same (L' := [.zone true h, CN gc k, .blk g25 (fltC batchB 0 12) 178]) w s).res (List.Sublist.refl _) (by simp [Fa.wr, errB])⟩
 ·rw [if_pos rfl] at hR
  replace hEn : Spec Tryz.prog 153 [.slice I its0.length ic, .slice K l.length kc].toArray [.zone false h] [] (fun u : Option Addr × Nat => .tuple #[.slice u.1 es.length u.2, .int .i64 0]) (fun u => [.own (.slice u.1 es.length u.2) es.length 250 98 (endC es)]) := hEn
  refine spec_of Tryz.func101 rfl (n := 46) rfl rfl ?_
  intro W
  refine yR ?_
  refine h_opX (x_box1 rfl) fun g5 => ?_
  refine h_opX (x_box rfl) fun g6 => ?_
  refine h_opX (x_box1 rfl) fun g7 => ?_
  refine h_opX (x_box1 rfl) fun g8 => ?_
  refine yS rfl ?_
  refine yN ?_
  refine yR ?_
  refine yM rfl ?_
  refine h_op (r_loadc rfl) ?_
  refine h_call (hEn.comes) rfl rfl rfl fun ⟨A19, c19⟩ => ?_
  dsimp only
  refine h_freezeO (.slice A19 es.length c19) fun h2 B2 c2 e2 hle2 hlen2 hnil2 hz2 hr2 => ?_
  injection e2 with e2 _ e3
  subst e2 e3
  have hT2 : RdZ h2 (some ⟨1, 0, none⟩) hashT := hT.mono hz2
  have hr2' : RdZ h2 A (cbs l) := hr.mono hz2
  have hK2 : RdZ h2 K (dgs (keysC l)) := hK.mono hz2
  have hI2 : RdZ h2 I (its its0) := hI.mono hz2
  refine yM rfl ?_
  refine h_op (r_extract rfl rfl) ?_
  refine h_op (r_extract rfl rfl) ?_
  refine yS rfl ?_
  refine yS rfl ?_
  refine yN ?_
  refine h_seq ?_
  refine yR ?_
  refine yM rfl ?_
  refine h_op (r_neq rfl rfl) ?_
  refine yN ?_
  refine h_no rfl ((fun h => h rfl)) ?_
  have hF := first3_s n hn h2 gh gc l A c (hz.mono hz2) hvl hll K kc g7 g5 g8 k hk es A19 c19 hel _ rfl
  obtain ⟨f, hf⟩ : ∃ f, firstF (showE n es l) es.length 0 = f := ⟨_, rfl⟩
  rw [hf] at hF hR
  rcases f with _ | ⟨i, e⟩
  ·replace hF : Spec Tryz.prog 154 [.slice A19 es.length c19, .func (.func 155) #[] #[.pointer (some ⟨g7, 0, none⟩), .pointer (some ⟨g5, 0, none⟩), .pointer (some ⟨g8, 0, none⟩)]].toArray [HR gh gc n, .zone false h2, .rd (some ⟨g7, 0, none⟩) [.slice A l.length c], .rd (some ⟨g5, 0, none⟩) [.pointer (some ⟨gh, 0, none⟩)], .rd (some ⟨g8, 0, none⟩) [.slice K l.length kc]] [CN gc k] (fun u : {u : Nat × Nat // u.2 ≤ k + es.length} => .nilIface) (fun u => [CN gc u.1.2]) := hF
   refine h_skip ?_
   refine q_then ?_
   refine yR ?_
   refine yM rfl ?_
   refine h_op (r_func rfl rfl) ?_
   refine h_call (hF.comes) rfl rfl rfl fun ⟨⟨g28, k1⟩, hk1⟩ => ?_
   dsimp only at hk1 ⊢
   have hRo := mRoot_s h2 n hn gh gc k1 (by omega) its0 I ic hic hil t hp
   refine yS rfl ?_
   refine yN ?_
   refine h_seq ?_
   refine yR ?_
   refine yM rfl ?_
   refine h_op (r_nilnn rfl) ?_
   refine yN ?_
   refine h_condF rfl ?_
   refine h_skip ?_
   refine q_then ?_
   refine h_seq ?_
   refine yR ?_
   refine h_op (r_loadc rfl) ?_
   refine yM rfl ?_
   refine h_call (hRo.comes) rfl rfl rfl fun _ => ?_
   by_cases hd : dgS n t = root
   ·obtain rfl : none = r := by rw [← hR]; dsimp only; rw [if_pos hd]
    refine yM rfl ?_
    refine h_op (r_extract rfl rfl) ?_
    refine h_op (r_extract rfl rfl) ?_
    refine h_opX (x_alloc) fun g14 => ?_
    refine h_opS (s_storer rfl rfl) ?_
    refine yS rfl ?_
    refine yN ?_
    refine yR ?_
    refine yM rfl ?_
    refine h_op (r_bool (r_neq rfl rfl) (decide_eq_false (fun h => h rfl))) ?_
    refine yM rfl ?_
    refine h_op (r_loadr rfl) ?_
    refine h_op (r_loadr rfl) ?_
    refine h_op (r_bool (r_ner rfl rfl) (decide_eq_false (fun h => h hd))) ?_
    refine h_op (r_pick rfl rfl) ?_
    refine yN ?_
    refine h_condF rfl ?_
    refine h_skip ?_
    refine q_then ?_
    refine yR ?_
    refine yS rfl ?_
    refine yN ?_
    refine h_ret ?_
    exact h_ret1 rfl rfl fun w s => ⟨⟨(0, h2, k1 + t.cost), hz2, by dsimp only; omega⟩, rfl, (same (L' := [.zone true h2, CN gc (k1 + t.cost)]) w s).res (List.Sublist.refl _) (by simp [Fa.wr, errB])⟩
   ·obtain rfl : some (0, 13) = r := by rw [← hR]; dsimp only; rw [if_neg hd]
    refine yM rfl ?_
    refine h_op (r_extract rfl rfl) ?_
    refine h_op (r_extract rfl rfl) ?_
    refine h_opX (x_alloc) fun g14 => ?_
    refine h_opS (s_storer rfl rfl) ?_
    refine yS rfl ?_
    refine yN ?_
    refine yR ?_
    refine yM rfl ?_
    refine h_op (r_bool (r_neq rfl rfl) (decide_eq_false (fun h => h rfl))) ?_
    refine yM rfl ?_
    refine h_op (r_loadr rfl) ?_
    refine h_op (r_loadr rfl) ?_
    refine h_op (r_bool (r_ner rfl rfl) (decide_eq_true hd)) ?_
    refine h_op (r_pick rfl rfl) ?_
    refine yN ?_
    refine h_condT rfl ?_
    refine yR ?_
    refine h_call ((mFail_s 0 13 (by decide)).comes) rfl rfl rfl fun g45 => ?_
    refine yS rfl ?_
    refine yN ?_
    refine h_ret ?_
    refine q_thenR ?_
    exact h_ret1 rfl rfl fun w s => ⟨⟨(g45, h2, k1 + t.cost), hz2, by dsimp only; omega⟩, rfl, (same (L' := [.zone true h2, CN gc (k1 + t.cost), .blk g45 (fltC batchB 0 13) 178]) w s).res (List.Sublist.refl _) (by simp [Fa.wr, errB])⟩
  ·obtain rfl : some (i, e) = r := hR
   replace hF : Spec Tryz.prog 154 [.slice A19 es.length c19, .func (.func 155) #[] #[.pointer (some ⟨g7, 0, none⟩), .pointer (some ⟨g5, 0, none⟩), .pointer (some ⟨g8, 0, none⟩)]].toArray [HR gh gc n, .zone false h2, .rd (some ⟨g7, 0, none⟩) [.slice A l.length c], .rd (some ⟨g5, 0, none⟩) [.pointer (some ⟨gh, 0, none⟩)], .rd (some ⟨g8, 0, none⟩) [.slice K l.length kc]] [CN gc k] (fun u : {u : Nat × Nat // u.2 ≤ k + es.length} => .iface 174 (.pointer (some ⟨u.1.1, 0, none⟩))) (fun u => [CN gc u.1.2, .blk u.1.1 (fltC batchB (i : Int) e) 178]) := hF
   refine h_skip ?_
   refine q_then ?_
   refine yR ?_
   refine yM rfl ?_
   refine h_op (r_func rfl rfl) ?_
   refine h_call (hF.comes) rfl rfl rfl fun ⟨⟨g28, k1⟩, hk1⟩ => ?_
   dsimp only at hk1 ⊢
   refine yS rfl ?_
   refine yN ?_
   refine h_seq ?_
   refine yR ?_
   refine yM rfl ?_
   refine h_op (r_ifnn rfl) ?_
   refine yN ?_
   refine h_condT rfl ?_
   refine yR ?_
   refine yM rfl ?_
   refine yS rfl ?_
   refine yN ?_
   refine h_ret ?_
   refine q_thenR ?_
   exact h_ret1 rfl rfl fun w s => ⟨⟨(g28, h2, k1), hz2, by dsimp only; omega⟩, rfl, (same (L' := [.zone true h2, CN gc k1, .blk g28 (fltC batchB (i : Int) e) 178]) w s).res (List.Sublist.refl _) (by simp [Fa.wr, errB])⟩
end
end Go.Proofs.YtjhocljhhpkiiaaGreatDoor
/- U72 -/
namespace Go.Proofs.YtjhocljhhpkiiaaGreatDoor
open Go.RowKit
end Go.Proofs.YtjhocljhhpkiiaaGreatDoor
/- U73 -/
namespace Go.Proofs.YtjhocljhhpkiiaaGreatDoor
open Go.RowKit
end Go.Proofs.YtjhocljhhpkiiaaGreatDoor
/- U74 -/
namespace Go.Proofs.YtjhocljhhpkiiaaGreatDoor
open Go.RowKit
end Go.Proofs.YtjhocljhhpkiiaaGreatDoor
/- U79 -/
namespace Go.Proofs.YtjhocljhhpkiiaaGreatDoor
open Go.RowKit
theorem Few19_s (l : List Item) (A : Option Addr) (c : Nat) : Spec Tryz.prog 37 [.slice A l.length c].toArray [] [] (fun _ : Unit => .int .i64 (if l.length ≤ 1200 then 1 else 0)) (fun _ => []) := by
 refine spec_of Tryz.func37 rfl (n := 6) rfl rfl ?_
 intro W
 by_cases h : l.length ≤ 1200
 ·rw [if_pos h]
  refine yR ?_
  refine yS rfl ?_
  refine yN ?_
  refine h_seq ?_
  refine yR ?_
  refine yM rfl ?_
  refine h_op (r_len rfl) ?_
  refine h_op (r_gtr rfl rfl) ?_
  refine yN ?_
  refine h_no rfl ((by omega)) ?_
  refine h_skip ?_
  refine q_then ?_
  refine yR ?_
  refine yS rfl ?_
  refine yN ?_
  refine h_ret ?_
  exact h_ret1 rfl rfl fun w s => ⟨(), rfl, s.res (List.nil_sublist _) (by simp)⟩
 ·rw [if_neg h]
  refine yR ?_
  refine yS rfl ?_
  refine yN ?_
  refine h_seq ?_
  refine yR ?_
  refine yM rfl ?_
  refine h_op (r_len rfl) ?_
  refine h_op (r_gtr rfl rfl) ?_
  refine yN ?_
  refine h_yes rfl ((by omega)) ?_
  refine yR ?_
  refine yS rfl ?_
  refine yN ?_
  refine h_ret ?_
  refine q_thenR ?_
  exact h_ret1 rfl rfl fun w s => ⟨(), rfl, s.res (List.nil_sublist _) (by simp)⟩
end Go.Proofs.YtjhocljhhpkiiaaGreatDoor
/- U47 -/
namespace Go.Proofs.YtjhocljhhpkiiaaGreatDoor
open Go.RowKit
theorem fill_kB (x : UInt8) : Instr.fill (plArr 1) zB32.cells.toArray [(0, Value.int .u8 (x.toNat : Int))] = some (kB x).cells.toArray := by kernel_rfl
end Go.Proofs.YtjhocljhhpkiiaaGreatDoor
/- U81 -/
namespace Go.Proofs.YtjhocljhhpkiiaaGreatDoor
open Go.RowKit
def L1 : List En := [⟨⟨zB32, ⟨none, 0, 0⟩⟩, []⟩]
end Go.Proofs.YtjhocljhhpkiiaaGreatDoor
/- U82 -/
namespace Go.Proofs.YtjhocljhhpkiiaaGreatDoor
open Go.RowKit
theorem checkM_ok {l : List Item} {t : Sub} (h : parseM l = .ok t) : checkM l = 0 := by unfold checkM; rw [h]
theorem checkM_bad {l : List Item} {e : Int} (h : parseM l = .error e) : checkM l = e := by unfold checkM; rw [h]
theorem parse_err {l : List Item} {e : Int} (h : parseM l = .error e) : e ≠ 0 := by
 unfold parseM at h
 split at h
 ·split at h
  ·split at h
   ·cases h
   ·injection h with h; omega
  ·injection h with h; omega
 ·injection h with h; omega
end Go.Proofs.YtjhocljhhpkiiaaGreatDoor
