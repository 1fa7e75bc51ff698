/- The reference's Find; law22.collide, few; law21.alive: it is true; law22.alive: it is true; law22: ExtractTrue, ExtractWays, ExtractCollides are true; A false claim that is accepted gives a collision: plain; law22: ExtractSingle is true; law19: MultiPreimages is true (joined texts: U147 U128 U148 U149 E34 U153 U84) -/
import Derived.Test.YtjhocljhhpkiiaaGreatDoorF15
set_option linter.all false
/- U147 -/
namespace Go.Proofs.YtjhocljhhpkiiaaGreatDoor
open Go.RowKit
section
variable (n : Nat) (hn : n ≤ 256) (h : Zh) (m : List En) (B : Option Addr) (cB : Nat) [hB : RdZ h B (ents m)] (hv : ValsZ h m) (hal : Alike m 0) (hm : m.length ≤ 1000000) (c : Claim) (kb vb : List UInt8) [hK : SlZ h c.key kb] [hV : SlZ h c.value vb] (hk32 : kb.length = 32) (hvb : vb.length ≤ 100000000) (D : Nat) (w : WayM (keyOf kb) m D) (ys : List Seg) (ls : List (List UInt8)) (Y : Option Addr) (cy : Nat) [hY : RdZ h Y (svs ys)] (hys : SegsZ h ys ls) (hyl : ys.length ≤ 1000000)
include hn hv hal hm hk32 hvb w hys hyl
theorem rFind22_s (x y : List UInt8) (hF : findP (wayPre n (keyOf kb) (mkT m 0) (D + 1)) ls (preV (getV (getE' m (keyOf kb)))) (preV vb) = (x, y)) : Spec Tryz.prog 33 [.int .i64 (n : Int), .slice B m.length cB, .agg c.cells.toArray, .slice Y ys.length cy].toArray [] [.zone true h] (fun u : {u : Zh × (Option Addr × Nat) × (Option Addr × Nat) // LeZ h u.1 ∧ PZ u.1 u.2.1.1 u.2.1.2 x ∧ PZ u.1 u.2.2.1 u.2.2.2 y} => .tuple #[.slice u.1.2.1.1 x.length u.1.2.1.2, .slice u.1.2.2.1 y.length u.1.2.2.2]) (fun u => [.zone true u.1.1]) := by
 have hkn := hK.len
 have hvn := hV.len
 have hVr : RdZ h c.value.A (bc vb) := hV.rd
 have hKr : RdZ h c.key.A (bc kb) := hK.rd
 have hVnil := hV.nil
 have hD := w.way.le
 have hWy := rWay22_s n hn h m B cB hv hal hm (keyOf kb) D w
 have hwl2 := fun i (hi : i < D + 1) => preT_len n (wayK (keyOf kb) (mkT m 0) i)
 have hwpl : ∀ i, ((wayPre n (keyOf kb) (mkT m 0) (D + 1)).getD i []).length ≤ 65 := fun i => by
  unfold wayPre
  rw [List.getD_eq_getElem?_getD, List.getElem?_map]
  rcases Nat.lt_or_ge i (D + 1) with hi | hi
  ·rw [List.getElem?_range hi]
   exact hwl2 i hi
  ·rw [List.getElem?_eq_none (by simpa using hi)]
   exact Nat.zero_le _
 obtain ⟨⟨kA, kn, kc⟩, ⟨vA, vn, vc⟩, pr⟩ := c
 dsimp only at hkn hvn hKr hVr hVnil ⊢
 subst hkn hvn
 have hyle := hys.len
 refine spec_of Tryz.func33 rfl (n := 63) rfl rfl ?_
 intro W
 refine yR ?_
 refine h_opX (x_box rfl) fun g6 => ?_
 refine yS rfl ?_
 refine yS rfl ?_
 refine yN ?_
 refine yR ?_
 refine h_op (r_field rfl) ?_
 refine h_op (r_loadc rfl) ?_
 refine h_call ((rOf_s kb kA kc hk32).comes) rfl rfl rfl fun _ => ?_
 refine h_opX (x_alloc) fun g10 => ?_
 refine h_opS (s_storer rfl rfl) ?_
 refine yN ?_
 refine yR ?_
 refine yM rfl ?_
 refine yM rfl ?_
 refine h_op (r_loadr rfl) ?_
 refine h_call (hWy.comes) rfl rfl rfl fun ⟨⟨z1, X, cx, xs⟩, hz1, hsx⟩ => ?_
 dsimp only at hz1 hsx ⊢
 have hxl := hsx.len
 rw [wayPre_len] at hxl
 rw [← hxl]
 refine h_freezeO (.slice X xs.length cx) fun z2 B2 c2 e2 hle2 hlen2 hnil2 hz2 hrX => ?_
 injection e2 with e2 _ e3
 subst e2 e3
 have hz12 := hz1.trans hz2
 have hsx2 := hsx.mono hz2
 have hsy2 := hys.mono hz12
 have hY2 : RdZ z2 Y (svs ys) := hY.mono hz12
 have hVr2 : RdZ z2 vA (bc vb) := hVr.mono hz12
 have hB2 : RdZ z2 B (ents m) := hB.mono hz12
 have hwl : (wayPre n (keyOf kb) (mkT m 0) (D + 1)).length = xs.length := by rw [wayPre_len, hxl]
 generalize wayPre n (keyOf kb) (mkT m 0) (D + 1) = ws at *
 obtain ⟨d, hd⟩ : ∃ d, difI ws ls = d := ⟨_, rfl⟩
 have hdle := difI_le ws ls
 have hdeq := difI_eq ws ls
 have hdne := difI_ne ws ls
 unfold findP at hF
 rw [hd, hwl, ← hyle] at hdle hdne hF
 rw [hd] at hdeq
 refine yS rfl ?_
 refine yN ?_
 refine h_seq ?_
 refine yR ?_
 refine yS rfl ?_
 refine yN ?_
 refine h_block ?_
 refine h_loop (fun (i : Nat) => i ≤ d) (fun (i : Nat) => [(12, .int .i64 (i : Int)), (11, .slice X xs.length cx), (3, .slice Y ys.length cy), (1, .slice B m.length cB), (10, .pointer (some ⟨g10, 0, none⟩)), (6, .pointer (some ⟨g6, 0, none⟩))]) (fun (i : Nat) => [.zone true z2, .blk g10 (keyOf kb).cells 35, .blk g6 (Claim.cells ⟨⟨kA, kb.length, kc⟩, ⟨vA, vb.length, vc⟩, pr⟩) 25]) (fun (i : Nat) => d + 1 - i) 0 ((show 0 ≤ _ from Nat.zero_le _)) ⟨rfl, rfl, rfl, rfl, rfl, rfl, trivial⟩ (same) ?_
 rintro i hi
 by_cases hx : i < xs.length ∧ i < ys.length
 ·obtain ⟨⟨ga, ha⟩, hxr, hxb⟩ := hsx2.get (k := i) hx.1
  obtain ⟨⟨gb, hb⟩, hyr, hyb⟩ := hsy2.get (k := i) hx.2
  have hax := svs_at' (xs := xs) hx.1
  have hay := svs_at' (xs := ys) hx.2
  have hdeq := hdeq i
  have hwpl := hwpl i
  rw [← hxb] at hwpl
  rw [← hxb, ← hyb] at hdeq
  obtain ⟨bX, oX, rfl, -⟩ := hrX.at_ 0 _ (List.getElem?_eq_getElem (by rw [svs_length]; omega))
  obtain ⟨bY, oY, rfl, -⟩ := hY2.at_ 0 _ (List.getElem?_eq_getElem (by rw [svs_length]; omega))
  by_cases hid : i < d
  ·have heq := hdeq hid
   generalize xs.getD i zSeg = sx at *
   generalize ys.getD i zSeg = sy at *
   have hS := rSame_s sx.2.2 sy.2.2 sx.1 sy.1 sx.2.1 sy.2.1 (by omega)
   rw [decide_eq_true heq] at hS
   refine h_seq ?_
   refine yR ?_
   refine yM rfl ?_
   refine yM rfl ?_
   refine h_op (r_len rfl) ?_
   refine h_op (r_bool (r_lss rfl rfl) (decide_eq_true (by omega))) ?_
   refine yM rfl ?_
   refine yM rfl ?_
   refine yM rfl ?_
   refine h_op (r_len rfl) ?_
   refine h_op (r_bool (r_lss rfl rfl) (decide_eq_true (by omega))) ?_
   refine h_op (r_pick rfl rfl) ?_
   refine yN ?_
   refine h_condT rfl ?_
   refine h_skip ?_
   refine q_then ?_
   refine h_seq ?_
   refine h_block ?_
   refine h_seq ?_
   refine ha_start [.zone true z2] [] mixed (same) ?_
   refine ha_takeP 0 rfl (r_move rfl) ?_
   refine ha_takeP 1 rfl (r_move rfl) ?_
   refine ha_takeP 2 rfl (r_idx rfl rfl) ?_
   refine ha_take 3 rfl (r_nth rfl hax) ?_
   refine ha_takeP 4 rfl (r_move rfl) ?_
   refine ha_takeP 5 rfl (r_move rfl) ?_
   refine ha_takeP 6 rfl (r_idx rfl rfl) ?_
   refine ha_take 7 rfl (r_nth rfl hay) ?_
   refine ha_one 8 ?_
   refine ho_C 8 rfl (hS.comes) rfl rfl rfl (fun xx => same) fun _ => ?_
   refine ha_takeP 9 rfl (r_not rfl) ?_
   refine ha_done (by kernel_rfl) ?_
   refine q_then ?_
   refine h_condF rfl ?_
   refine h_skip ?_
   refine q_block ?_
   refine q_then ?_
   refine h_reg ?_
   refine yM rfl ?_
   refine h_op (r_add rfl rfl) ?_
   refine yS rfl ?_
   refine h_nil ?_
   exact h_back (i + 1) ((show i + 1 ≤ d from hid)) ((show d + 1 - (i + 1) < d + 1 - i by omega)) ⟨rfl, rfl, rfl, rfl, rfl, rfl, trivial⟩ (same)
  ·obtain rfl : i = d := by omega
   have hlt : i < min xs.length ys.length := by omega
   have hne := hdne hlt
   rw [← hxb, ← hyb] at hne
   rw [if_pos hlt, ← hxb, ← hyb] at hF
   generalize xs.getD i zSeg = sx at *
   generalize ys.getD i zSeg = sy at *
   injection hF with hF1 hF2
   subst hF1 hF2
   have hS := rSame_s sx.2.2 sy.2.2 sx.1 sy.1 sx.2.1 sy.2.1 (by omega)
   rw [decide_eq_false hne] at hS
   refine h_seq ?_
   refine yR ?_
   refine yM rfl ?_
   refine yM rfl ?_
   refine h_op (r_len rfl) ?_
   refine h_op (r_bool (r_lss rfl rfl) (decide_eq_true (by omega))) ?_
   refine yM rfl ?_
   refine yM rfl ?_
   refine yM rfl ?_
   refine h_op (r_len rfl) ?_
   refine h_op (r_bool (r_lss rfl rfl) (decide_eq_true (by omega))) ?_
   refine h_op (r_pick rfl rfl) ?_
   refine yN ?_
   refine h_condT rfl ?_
   refine h_skip ?_
   refine q_then ?_
   refine h_seq ?_
   refine h_block ?_
   refine h_seq ?_
   refine ha_start [.zone true z2] [] mixed (same) ?_
   refine ha_takeP 0 rfl (r_move rfl) ?_
   refine ha_takeP 1 rfl (r_move rfl) ?_
   refine ha_takeP 2 rfl (r_idx rfl rfl) ?_
   refine ha_take 3 rfl (r_nth rfl hax) ?_
   refine ha_takeP 4 rfl (r_move rfl) ?_
   refine ha_takeP 5 rfl (r_move rfl) ?_
   refine ha_takeP 6 rfl (r_idx rfl rfl) ?_
   refine ha_take 7 rfl (r_nth rfl hay) ?_
   refine ha_one 8 ?_
   refine ho_C 8 rfl (hS.comes) rfl rfl rfl (fun xx => same) fun _ => ?_
   refine ha_takeP 9 rfl (r_not rfl) ?_
   refine ha_done (by kernel_rfl) ?_
   refine q_then ?_
   refine h_condT rfl ?_
   refine h_seq ?_
   refine ha_start [.zone true z2] [] mixed (same) ?_
   refine ha_takeP 0 rfl (r_move rfl) ?_
   refine ha_takeP 1 rfl (r_move rfl) ?_
   refine ha_takeP 2 rfl (r_idx rfl rfl) ?_
   refine ha_take 3 rfl (r_nth rfl hax) ?_
   refine ha_takeP 4 rfl (r_move rfl) ?_
   refine ha_takeP 5 rfl (r_move rfl) ?_
   refine ha_takeP 6 rfl (r_idx rfl rfl) ?_
   refine ha_take 7 rfl (r_nth rfl hay) ?_
   refine ha_takeP 8 rfl (r_assign rfl) ?_
   refine ha_takeP 9 rfl (r_assign rfl) ?_
   refine ha_done (by kernel_rfl) ?_
   refine q_then ?_
   refine h_ret ?_
   refine q_blockR ?_
   refine q_thenR ?_
   refine q_thenR ?_
   refine q_blockR ?_
   refine q_thenR ?_
   exact h_ret2 rfl rfl rfl fun w s => ⟨⟨(z2, (sx.1, sx.2.1), (sy.1, sy.2.1)), hz12, ⟨(fun h => by rw [ha] at h; cases h), hxr⟩, ⟨(fun h => by rw [hb] at h; cases h), hyr⟩⟩, rfl, (same (L' := [.zone true z2]) w s).res (List.Sublist.refl _) (by simp [Fa.wr])⟩
 ·obtain rfl : i = d := by omega
  rw [if_neg (by omega)] at hF
  injection hF with hF1 hF2
  subst hF1 hF2
  have hG := Get_s m B cB (keyOf kb) (by omega)
  obtain ⟨hgv, hgl⟩ := getS_ok (hv.mono hz12) (keyOf kb)
  generalize getE' m (keyOf kb) = g at *
  have hgn := hgv.len
  have hgr : RdZ z2 (getS g).A (bc (getV g)) := hgv.rd
  have hgnil := hgv.nil
  generalize getS g = s at *
  generalize getV g = v at *
  obtain ⟨sA, sn, sc⟩ := s
  dsimp only at hgn hgr hgnil hG
  subst hgn
  by_cases hx1 : i < xs.length
  ·refine h_seq ?_
   refine yR ?_
   refine yM rfl ?_
   refine yM rfl ?_
   refine h_op (r_len rfl) ?_
   refine h_op (r_bool (r_lss rfl rfl) (decide_eq_true (by omega))) ?_
   refine yM rfl ?_
   refine yM rfl ?_
   refine yM rfl ?_
   refine h_op (r_len rfl) ?_
   refine h_op (r_bool (r_lss rfl rfl) (decide_eq_false (by omega))) ?_
   refine h_op (r_pick rfl rfl) ?_
   refine yN ?_
   refine h_condF rfl ?_
   refine h_exit ?_
   refine q_thenE ?_
   refine q_thenE ?_
   refine q_blockE ?_
   refine q_then ?_
   refine yR ?_
   refine yM rfl ?_
   refine h_op (r_loadr rfl) ?_
   refine h_call (hG.comes) rfl rfl rfl fun _ => ?_
   refine yM rfl ?_
   refine h_op (r_extract rfl rfl) ?_
   refine h_op (r_extract rfl rfl) ?_
   refine yS rfl ?_
   refine yS rfl ?_
   refine yN ?_
   refine h_seq ?_
   refine ha_start [.blk g6 (Claim.cells ⟨⟨kA, kb.length, kc⟩, ⟨vA, vb.length, vc⟩, pr⟩) 25] [] mixed (same) ?_
   refine ha_takeP 0 rfl (r_move rfl) ?_
   refine ha_takeP 2 rfl (r_field rfl) ?_
   refine ha_take 3 rfl (r_loadc rfl) ?_
   refine ha_one 1 ?_
   refine ho_C 1 rfl ((rValue_s v sA sc (fun e => by have := hgnil e; omega) (by omega)).comes) rfl rfl rfl (fun xx => same) fun ⟨g59, c59⟩ => ?_
   refine ha_one 4 ?_
   refine ho_C 4 rfl ((rValue_s vb vA vc (fun e => by have := hVnil e; omega) hvb).comes) rfl rfl rfl (fun xx => same) fun ⟨g62, c62⟩ => ?_
   refine ha_takeP 5 rfl (r_assign rfl) ?_
   refine ha_takeP 6 rfl (r_assign rfl) ?_
   refine ha_done (by kernel_rfl) ?_
   refine q_then ?_
   refine h_ret ?_
   dsimp only
   refine h_freezeO (.slice (some ⟨g59, 0, none⟩) (preV v).length c59) fun z4 B4 c4 e4 hle4 hlen4 hnil4 hz4 hr4 => ?_
   injection e4 with e4 _ e4'
   subst e4 e4'
   refine h_freezeO (.slice (some ⟨g62, 0, none⟩) (preV vb).length c62) fun z5 B5 c5 e5 hle5 hlen5 hnil5 hz5 hr5 => ?_
   injection e5 with e5 _ e5'
   subst e5 e5'
   exact h_ret2 rfl rfl rfl fun w s => ⟨⟨(z5, (some ⟨g59, 0, none⟩, c59), (some ⟨g62, 0, none⟩, c62)), hz12.trans (hz4.trans hz5), ⟨(fun h => by cases h), hr4.mono hz5⟩, ⟨(fun h => by cases h), hr5⟩⟩, rfl, (same (L' := [.zone true z5]) w s).res (List.Sublist.refl _) (by simp [Fa.wr])⟩
  ·refine h_seq ?_
   refine yR ?_
   refine yM rfl ?_
   refine yM rfl ?_
   refine h_op (r_len rfl) ?_
   refine h_op (r_bool (r_lss rfl rfl) (decide_eq_false (by omega))) ?_
   refine yM rfl ?_
   refine h_opOff ?_
   refine h_opOff ?_
   refine h_opOff ?_
   refine h_opOff ?_
   refine h_op (r_pick rfl rfl) ?_
   refine yN ?_
   refine h_condF rfl ?_
   refine h_exit ?_
   refine q_thenE ?_
   refine q_thenE ?_
   refine q_blockE ?_
   refine q_then ?_
   refine yR ?_
   refine yM rfl ?_
   refine h_op (r_loadr rfl) ?_
   refine h_call (hG.comes) rfl rfl rfl fun _ => ?_
   refine yM rfl ?_
   refine h_op (r_extract rfl rfl) ?_
   refine h_op (r_extract rfl rfl) ?_
   refine yS rfl ?_
   refine yS rfl ?_
   refine yN ?_
   refine h_seq ?_
   refine ha_start [.blk g6 (Claim.cells ⟨⟨kA, kb.length, kc⟩, ⟨vA, vb.length, vc⟩, pr⟩) 25] [] mixed (same) ?_
   refine ha_takeP 0 rfl (r_move rfl) ?_
   refine ha_takeP 2 rfl (r_field rfl) ?_
   refine ha_take 3 rfl (r_loadc rfl) ?_
   refine ha_one 1 ?_
   refine ho_C 1 rfl ((rValue_s v sA sc (fun e => by have := hgnil e; omega) (by omega)).comes) rfl rfl rfl (fun xx => same) fun ⟨g59, c59⟩ => ?_
   refine ha_one 4 ?_
   refine ho_C 4 rfl ((rValue_s vb vA vc (fun e => by have := hVnil e; omega) hvb).comes) rfl rfl rfl (fun xx => same) fun ⟨g62, c62⟩ => ?_
   refine ha_takeP 5 rfl (r_assign rfl) ?_
   refine ha_takeP 6 rfl (r_assign rfl) ?_
   refine ha_done (by kernel_rfl) ?_
   refine q_then ?_
   refine h_ret ?_
   dsimp only
   refine h_freezeO (.slice (some ⟨g59, 0, none⟩) (preV v).length c59) fun z4 B4 c4 e4 hle4 hlen4 hnil4 hz4 hr4 => ?_
   injection e4 with e4 _ e4'
   subst e4 e4'
   refine h_freezeO (.slice (some ⟨g62, 0, none⟩) (preV vb).length c62) fun z5 B5 c5 e5 hle5 hlen5 hnil5 hz5 hr5 => ?_
   injection e5 with e5 _ e5'
   subst e5 e5'
   exact h_ret2 rfl rfl rfl fun w s => ⟨⟨(z5, (some ⟨g59, 0, none⟩, c59), (some ⟨g62, 0, none⟩, c62)), hz12.trans (hz4.trans hz5), ⟨(fun h => by cases h), hr4.mono hz5⟩, ⟨(fun h => by cases h), hr5⟩⟩, rfl, (same (L' := [.zone true z5]) w s).res (List.Sublist.refl _) (by simp [Fa.wr])⟩
end
def colB (n : Nat) (x y : List UInt8) : Bool := !decide (x = y) && decide (sumB n x = sumB n y)
theorem rCollide22_s (n : Nat) (hn : n ≤ 256) (x y : List UInt8) (X Y : Option Addr) (cx cy : Nat) (hX : X = none → x.length = 0 ∧ cx = 0) (hY : Y = none → y.length = 0 ∧ cy = 0) (hx : x.length ≤ 100000000) (hy : y.length ≤ 100000000) : Spec Tryz.prog 35 [.int .i64 (n : Int), .slice X x.length cx, .slice Y y.length cy].toArray [.rd X (bc x), .rd Y (bc y)] [] (fun _ : Unit => .bool (colB n x y)) (fun _ => []) := by
 unfold colB
 refine spec_of Tryz.func35 rfl (n := 20) rfl rfl ?_
 intro W
 refine yR ?_
 refine yS rfl ?_
 refine yN ?_
 refine yR ?_
 refine yM rfl ?_
 refine yM rfl ?_
 refine h_call ((rSame_s x y X Y cx cy (by omega)).comes) rfl rfl rfl fun _ => ?_
 by_cases he : x = y
 ·rw [decide_eq_true he]
  refine h_op (r_not rfl) ?_
  refine yM rfl ?_
  refine h_opOff ?_
  refine h_opOff ?_
  refine h_opOff ?_
  refine h_opOff ?_
  refine h_opOff ?_
  refine h_opOff ?_
  refine h_opOff ?_
  refine h_op (r_pick rfl rfl) ?_
  refine yS rfl ?_
  refine yN ?_
  refine h_ret ?_
  exact h_ret1 rfl rfl fun w s => ⟨(), rfl, s.res (List.nil_sublist _) (by simp)⟩
 ·rw [decide_eq_false he]
  refine h_op (r_not rfl) ?_
  refine yM rfl ?_
  refine yM rfl ?_
  refine yM rfl ?_
  refine h_call ((refSum5_s n hn x X cx hX (by omega)).comes) rfl rfl rfl fun _ => ?_
  refine yM rfl ?_
  refine yM rfl ?_
  refine h_call ((refSum5_s n hn y Y cy hY (by omega)).comes) rfl rfl rfl fun _ => ?_
  refine h_op (r_bool (r_eqr rfl rfl) rfl) ?_
  refine h_op (r_pick rfl rfl) ?_
  refine yS rfl ?_
  refine yN ?_
  refine h_ret ?_
  exact h_ret1 rfl rfl fun w s => ⟨(), rfl, s.res (List.nil_sublist _) (by simp)⟩
theorem few22_s (h : Zh) (l : List CB) (A : Option Addr) (c : Nat) [hr : RdZ h A (cbs l)] (hl : l.length ≤ 9223372036854775807) : Spec Tryz.prog 36 [.slice A l.length c].toArray [.zone false h] [] (fun _ : Unit => .bool (fewC l)) (fun _ => []) := by
 refine spec_of Tryz.func36 rfl (n := 18) rfl rfl ?_
 intro W
 refine yR ?_
 refine yS rfl ?_
 refine yN ?_
 refine h_seq ?_
 refine yR ?_
 refine yM rfl ?_
 refine h_op (r_len rfl) ?_
 refine yM rfl ?_
 refine yN ?_
 refine h_block ?_
 refine h_loop (fun (i : Nat) => i ≤ l.length ∧ (l.take i).all shC = true) (fun (i : Nat) => [(7, .int .i64 (i : Int)), (6, .int .i64 (l.length : Int)), (5, .slice A l.length c), (0, .slice A l.length c)]) (fun (i : Nat) => [.zone false h]) (fun (i : Nat) => l.length - i) 0 (⟨Nat.zero_le _, rfl⟩) ⟨rfl, rfl, rfl, rfl, trivial⟩ (same) ?_
 rintro i ⟨hi, ha⟩
 refine yR ?_
 refine h_op (r_lss rfl rfl) ?_
 refine yN ?_
 refine h_seq ?_
 refine h_cond rfl (fun hlt => ?_) (fun hlt => ?_)
 ·have hi2 : i < l.length := by omega
  have hx := getD_get zCB hi2
  obtain ⟨b, o, rfl, -⟩ := hr.at_ (i * 3) _ (cbs_at hx 0 _ rfl)
  generalize l.getD i zCB = x at *
  have hS := Short_s x.c
  have hat := all_take shC l i x hx
  refine h_skip ?_
  refine q_then ?_
  refine h_seq ?_
  refine h_block ?_
  refine yR ?_
  refine h_op (r_idx rfl rfl) ?_
  refine h_op (r_nthr rfl (out := x.c.cells) (Claim.cells_length _) (cbs_at hx)) ?_
  refine h_opX (x_alloc) fun g4 => ?_
  refine h_opS (s_storer rfl rfl) ?_
  refine yN ?_
  refine yR ?_
  refine h_op (r_loadr rfl) ?_
  refine h_call (hS.comes) rfl rfl rfl fun _ => ?_
  by_cases hs : x.c.key.n ≤ 100 ∧ x.c.value.n ≤ 70000
  ·rw [if_pos hs]
   refine h_op (r_bool (r_eql rfl rfl) (decide_eq_false (by decide))) ?_
   refine yN ?_
   refine h_condF rfl ?_
   refine h_skip ?_
   refine q_block ?_
   refine q_then ?_
   refine h_reg ?_
   refine h_op (r_add rfl rfl) ?_
   refine yM rfl ?_
   refine h_nil ?_
   exact h_back (i + 1) (⟨hi2, by rw [hat, ha]; exact decide_eq_true hs⟩) ((show l.length - (i + 1) < l.length - i by omega)) ⟨rfl, rfl, rfl, rfl, trivial⟩ (same)
  ·rw [if_neg hs, show fewC l = false by unfold fewC; rw [show l.all shC = false from Bool.eq_false_iff.2 (all_bad hx (decide_eq_false hs)), Bool.and_false]]
   refine h_op (r_bool (r_eql rfl rfl) (decide_eq_true rfl)) ?_
   refine yN ?_
   refine h_condT rfl ?_
   refine yR ?_
   refine yS rfl ?_
   refine yN ?_
   refine h_ret ?_
   refine q_blockR ?_
   refine q_thenR ?_
   refine q_thenR ?_
   refine q_blockR ?_
   refine q_thenR ?_
   exact h_ret1 rfl rfl fun w s => ⟨(), rfl, s.res (List.nil_sublist _) (by simp)⟩
 ·obtain rfl : i = l.length := by omega
  rw [List.take_length] at ha
  refine h_exit ?_
  refine q_thenE ?_
  refine q_thenE ?_
  refine q_blockE ?_
  refine q_then ?_
  refine yR ?_
  refine yM rfl ?_
  refine h_op (r_len rfl) ?_
  refine h_op (r_bool (r_leq rfl rfl) (show _ = fewC l by unfold fewC; rw [ha, Bool.and_true]; exact decide_eq_decide.2 (by omega))) ?_
  refine yS rfl ?_
  refine yN ?_
  refine h_ret ?_
  exact h_ret1 rfl rfl fun w s => ⟨(), rfl, s.res (List.nil_sublist _) (by simp)⟩
end Go.Proofs.YtjhocljhhpkiiaaGreatDoor
/- U128 -/
namespace Go.Proofs.YtjhocljhhpkiiaaGreatDoor
open Go.RowKit
end Go.Proofs.YtjhocljhhpkiiaaGreatDoor
/- U148 -/
namespace Go.Proofs.YtjhocljhhpkiiaaGreatDoor
open Go.RowKit
theorem alive22_s (h : Zh) [hT : RdZ h (some ⟨1, 0, none⟩) hashT] : Spec Tryz.prog 17 ([] : List Value).toArray [] [.zone true h] (fun _ : {x : Zh // LeZ h x} => .bool true) (fun x => [.zone true x.1]) := by
 refine spec_of Tryz.func17 rfl (n := 89) rfl rfl ?_
 intro W
 refine yR ?_
 refine yS rfl ?_
 refine yN ?_
 refine yR ?_
 refine h_call ((Hash_s 0 (by decide)).comes) rfl rfl rfl fun ⟨gh, gc⟩ => ?_
 dsimp only
 refine yS rfl ?_
 refine yN ?_
 refine h_seq ?_
 refine yR ?_
 refine yM rfl ?_
 refine h_op (r_nilR rfl rfl) ?_
 refine yN ?_
 refine h_condF rfl ?_
 refine h_skip ?_
 refine q_then ?_
 refine yR ?_
 refine yM rfl ?_
 refine h_opX (x_bslV (ys := [.int .u8 7]) (bc [7]) rfl rfl (bc_one _)) fun g14 => ?_
 refine h_op (r_build (out := (Entry.cells ⟨zB32, ⟨some ⟨g14, 0, none⟩, 1, 1⟩⟩)) rfl) ?_
 refine h_opX (x_bsl rfl rfl) fun g16 => ?_
 change H _ _ _ _ _ (.own _ _ _ _ (ents (L22 (some ⟨g14, 0, none⟩) 1)) :: .own (.slice (some ⟨g14, 0, none⟩) 1 1) 1 _ _ (bc [7]) :: _) _
 refine h_freezeO (.slice (some ⟨g14, 0, none⟩) 1 1) fun z1 B1 c1 e1 hle1 hlen1 hnil1 hz1 hr1 => ?_
 injection e1 with e1 _ e1'
 subst e1 e1'
 have sv1 : SlZ z1 ⟨some ⟨g14, 0, none⟩, 1, 1⟩ [7] := ⟨rfl, Nat.le_refl _, (fun h => by cases h), hr1⟩
 have hv1 : ValsZ z1 (L22 (some ⟨g14, 0, none⟩) 1) := fun e he => by
  obtain rfl := List.mem_singleton.1 he
  exact ⟨sv1, by show 1 ≤ _; decide⟩
 have hG := Grow_any 0 (by decide) gh gc (d := 0) (by decide) (alike22 (some ⟨g14, 0, none⟩) 1) (by show 1 ≤ _; decide) z1 0 (some ⟨g16, 0, none⟩) 1 (hT.mono hz1) hv1 (by rw [mkT22]; decide)
 refine h_call (hG.comes) rfl rfl rfl fun ⟨⟨z2, q⟩, hz2, ht2⟩ => ?_
 dsimp only at hz2 ht2 ⊢
 generalize hk0 : 0 + (mkT (L22 (some ⟨g14, 0, none⟩) 1) 0).cost = k0
 rw [mkT22] at hk0
 replace hk0 : 2 = k0 := hk0
 subst hk0
 refine yS rfl ?_
 refine yN ?_
 refine yR ?_
 refine h_opX (x_makeB rfl rfl) fun g18 => ?_
 refine h_op (r_build rfl) ?_
 refine h_opX (x_alloc) fun g3 => ?_
 refine h_opS (s_storer rfl rfl) ?_
 refine yN ?_
 refine h_seq ?_
 change H _ _ _ _ _ (.blk g3 (Claim.cells ⟨⟨some ⟨g18, 0, none⟩, 32, 32⟩, ⟨none, 0, 0⟩, false⟩) _ :: .own (.slice (some ⟨g18, 0, none⟩) 32 32) 32 _ 1 (bc kb18) :: _) _
 refine h_freezeO (.slice (some ⟨g18, 0, none⟩) 32 32) fun z3 B3 c3 e3 hle3 hlen3 hnil3 hz3 hr3 => ?_
 injection e3 with e3 _ e3'
 subst e3 e3'
 have hz13 := (hz1.trans hz2).trans hz3
 have sk : SlZ z3 ⟨some ⟨g18, 0, none⟩, 32, 32⟩ kb18 := ⟨rfl, Nat.le_refl _, (fun h => by cases h), hr3⟩
 have s0 : ∀ z, SlZ z ⟨none, 0, 0⟩ [] := slz_nil
 have hvl : ∀ e ∈ L22 (some ⟨g14, 0, none⟩) 1, e.val.length ≤ 100000000 := fun e he => by
  obtain rfl := List.mem_singleton.1 he
  show 1 ≤ _
  decide
 have hS := xSingle_s 0 (by decide) z3 (hT := hT.mono hz13) gh gc 2 (by decide) (L22 (some ⟨g14, 0, none⟩) 1) (alike22 _ _) q (ht := ⟨ht2.ok.mono hz3⟩) ⟨⟨some ⟨g18, 0, none⟩, 32, 32⟩, ⟨none, 0, 0⟩, false⟩ kb18 [] (hK := sk) (hV := s0 z3) (by decide) hvl 0 (way22 _ _ _) zProof [] rfl (hS := RdZ.nil _ _) _ (single22 _ _ _ _)
 refine h_reg ?_
 refine yM rfl ?_
 refine yM rfl ?_
 refine h_op (r_loadr rfl) ?_
 refine h_op (r_build (out := zProof.cells) rfl) ?_
 refine h_call (hS.comes) rfl rfl rfl fun ⟨⟨z4, X, Y, k4⟩, hz4, hXY, hk4⟩ => ?_
 dsimp only at hz4 hXY hk4 ⊢
 obtain ⟨hX, hY⟩ := hXY _ _ rfl
 refine yM rfl ?_
 refine h_op (r_extract rfl rfl) ?_
 refine h_op (r_extract rfl rfl) ?_
 refine h_op (r_extract rfl rfl) ?_
 refine yS rfl ?_
 refine yS rfl ?_
 refine yS rfl ?_
 refine yN ?_
 refine yR ?_
 refine yM rfl ?_
 refine yM rfl ?_
 refine h_op (r_loadr rfl) ?_
 refine h_opX (x_bsl rfl rfl) fun g33 => ?_
 refine h_op (r_build (out := zItem.cells) rfl) ?_
 refine h_opX (x_bsl rfl rfl) fun g35 => ?_
 change H _ _ _ _ _ (.own _ _ _ _ (its [zItem]) :: .own _ _ _ _ (cbs [cb21 (some ⟨g18, 0, none⟩) 32]) :: _) _
 refine h_freezeO (.slice (some ⟨g35, 0, none⟩) 1 1) fun z5 B5 c5 e5 hle5 hlen5 hnil5 hz5 hr5 => ?_
 injection e5 with e5 _ e5'
 subst e5 e5'
 refine h_freezeO (.slice (some ⟨g33, 0, none⟩) 1 1) fun z6 B6 c6 e6 hle6 hlen6 hnil6 hz6 hr6 => ?_
 injection e6 with e6 _ e6'
 subst e6 e6'
 have hz46 := hz5.trans hz6
 have hz36 := hz4.trans hz46
 have ht6 : TrZ 0 z6 (mkT (L22 (some ⟨g14, 0, none⟩) 1) 0) q := ⟨ht2.ok.mono (hz3.trans hz36)⟩
 have scl : ClsZ z6 [cb21 (some ⟨g18, 0, none⟩) 32] := fun x hx => by
  obtain rfl := List.mem_singleton.1 hx
  exact ⟨sk.mono hz36, s0 z6⟩
 have hcv : ∀ x ∈ [cb21 (some ⟨g18, 0, none⟩) 32], x.vb.length ≤ 100000000 := fun x hx => by
  obtain rfl := List.mem_singleton.1 hx
  exact Nat.zero_le _
 have hBt := xBatch_s 0 (by decide) z6 (hT := hT.mono (hz13.trans hz36)) gh gc k4 (by omega) (L22 (some ⟨g14, 0, none⟩) 1) (alike22 _ _) q (ht := ht6) hvl [zItem] (some ⟨g35, 0, none⟩) 1 (hI := hr5.mono hz6) (by show 1 ≤ 1; decide) (by show 1 ≤ _; decide) [cb21 (some ⟨g18, 0, none⟩) 32] (some ⟨g33, 0, none⟩) 1 (hr := hr6) scl hcv (by show 1 ≤ _; decide) _ (batch22 _ _ _ _)
 refine h_call (hBt.comes) rfl rfl rfl fun ⟨⟨z7, X2, Y2, k7⟩, hz7, hXY2, hk7⟩ => ?_
 dsimp only at hz7 hXY2 hk7 ⊢
 obtain ⟨-, hY2⟩ := hXY2 _ _ rfl
 have hz67 := hz46.trans hz7
 have hX7 := hX.mono hz67
 have hY7 := hY.mono hz67
 refine yM rfl ?_
 refine h_op (r_extract rfl rfl) ?_
 refine h_op (r_extract rfl rfl) ?_
 refine h_op (r_extract rfl rfl) ?_
 refine yS rfl ?_
 refine yS rfl ?_
 refine yS rfl ?_
 refine yN ?_
 refine yR ?_
 refine h_opX (x_bslV (ys := [.int .u8 7]) (bc [7]) rfl rfl (bc_one _)) fun g40 => ?_
 refine h_op (r_field rfl) ?_
 refine h_opS (s_store rfl rfl rfl) ?_
 refine h_op (r_field rfl) ?_
 refine h_opS (s_store rfl rfl rfl) ?_
 refine yN ?_
 refine h_seq ?_
 change H _ _ _ _ _ (.blk g3 (Claim.cells ⟨⟨some ⟨g18, 0, none⟩, 32, 32⟩, ⟨some ⟨g40, 0, none⟩, 1, 1⟩, true⟩) _ :: _) _
 refine h_freezeO (.slice (some ⟨g40, 0, none⟩) 1 1) fun z8 B8 c8 e8 hle8 hlen8 hnil8 hz8 hr8 => ?_
 injection e8 with e8 _ e8'
 subst e8 e8'
 have hX8 := (hX7.mono hz8)
 have hY8 := (hY7.mono hz8)
 have hW8 := (hY2.mono hz8)
 have hz38 := (hz36.trans hz7).trans hz8
 have ht8 : TrZ 0 z8 (mkT (L22 (some ⟨g14, 0, none⟩) 1) 0) q := ⟨ht2.ok.mono (hz3.trans hz38)⟩
 have sk8 := sk.mono hz38
 have sv8 : SlZ z8 ⟨some ⟨g40, 0, none⟩, 1, 1⟩ [7] := ⟨rfl, Nat.le_refl _, (fun h => by cases h), hr8⟩
 have hX8r := hX8.rd
 have hY8r := hY8.rd
 have hW8r := hW8.rd
 have hTr := xTrue_s 0 z8 (L22 (some ⟨g14, 0, none⟩) 1) (alike22 _ _) q (ht := ht8) ⟨⟨some ⟨g18, 0, none⟩, 32, 32⟩, ⟨some ⟨g40, 0, none⟩, 1, 1⟩, true⟩ kb18 [7] (hK := sk8) (hV := sv8) (fun e he => by have := hvl e he; omega)
 rw [true22b] at hTr
 have hC1 := fun k hk => xCollide_s 0 (by decide) z8 (hT := hT.mono (hz13.trans hz38)) gh gc k hk (preL zLeaf) [3] X.1 Y.1 X.2 Y.2 hX8.nil hY8.nil (by rw [preL_len]; decide) (by decide)
 rw [col22] at hC1
 have hC2 := fun k hk => xCollide_s 0 (by decide) z8 (hT := hT.mono (hz13.trans hz38)) gh gc k hk (preL zLeaf) (preL zLeaf) X.1 X.1 X.2 X.2 hX8.nil hX8.nil (by rw [preL_len]; decide) (by rw [preL_len]; decide)
 rw [decide_eq_true (rfl : preL zLeaf = preL zLeaf), Bool.not_true, Bool.false_and] at hC2
 refine h_reg ?_
 refine yM rfl ?_
 refine yM rfl ?_
 refine yM rfl ?_
 refine h_op (r_build (out := zLeaf.cells) rfl) ?_
 refine h_call ((rLeaf_s zLeaf).comes) rfl rfl rfl fun ⟨g47, c47⟩ => ?_
 have hRs := rSame_s (preL zLeaf) (preL zLeaf) X.1 (some ⟨g47, 0, none⟩) X.2 c47 (by rw [preL_len]; decide)
 rw [decide_eq_true rfl] at hRs
 refine h_call (hRs.comes) rfl rfl rfl fun _ => ?_
 refine h_op (r_pick rfl rfl) ?_
 refine yM rfl ?_
 refine yM rfl ?_
 refine h_opX (x_bslV (ys := [.int .u8 3]) (bc [3]) rfl rfl (bc_one _)) fun g52 => ?_
 have hRs := rSame_s [3] [3] Y.1 (some ⟨g52, 0, none⟩) Y.2 1 (by decide)
 rw [decide_eq_true rfl] at hRs
 refine h_call (hRs.comes) rfl rfl rfl fun _ => ?_
 have hRs2 := rSame_s [3] [3] Y2.1 Y.1 Y2.2 Y.2 (by decide)
 rw [decide_eq_true rfl] at hRs2
 refine h_op (r_pick rfl rfl) ?_
 refine yM rfl ?_
 refine yM rfl ?_
 refine h_op (r_pick rfl rfl) ?_
 refine yM rfl ?_
 refine yM rfl ?_
 refine yM rfl ?_
 refine h_call (hRs2.comes) rfl rfl rfl fun _ => ?_
 refine h_op (r_pick rfl rfl) ?_
 refine yM rfl ?_
 refine yM rfl ?_
 refine yM rfl ?_
 refine yM rfl ?_
 refine h_call ((hC1 k7 (by omega)).comes) rfl rfl rfl fun ⟨k9, hk9⟩ => ?_
 dsimp only at hk9 ⊢
 refine h_op (r_pick rfl rfl) ?_
 refine yM rfl ?_
 refine yM rfl ?_
 refine yM rfl ?_
 refine yM rfl ?_
 refine h_call ((hC2 k9 (by omega)).comes) rfl rfl rfl fun ⟨k10, hk10⟩ => ?_
 dsimp only at hk10 ⊢
 refine h_op (r_not rfl) ?_
 refine h_op (r_pick rfl rfl) ?_
 refine yM rfl ?_
 refine yM rfl ?_
 refine h_op (r_loadr rfl) ?_
 refine h_call (hTr.comes) rfl rfl rfl fun _ => ?_
 have hWy := xWay_s 0 (by decide) z8 (hT := hT.mono (hz13.trans hz38)) gh gc k10 (by omega) (mkT (L22 (some ⟨g14, 0, none⟩) 1) 0) q (ht := ht8) (kB 5) 0 (way22 _ _ (kB 5)).way
 refine h_op (r_pick rfl rfl) ?_
 refine yM rfl ?_
 refine yM rfl ?_
 refine yM rfl ?_
 refine h_op (r_build (out := (kB 5).cells) rfl (hf := ⟨fill_kB 5⟩)) ?_
 refine h_call (hWy.comes) rfl rfl rfl fun ⟨⟨z9, A85, c85, ys, k11⟩, hz9, hys, hk11⟩ => ?_
 dsimp only at hz9 hys hk11 ⊢
 refine h_op (r_len rfl) ?_
 refine h_op (r_bool (r_eql rfl rfl) rfl) ?_
 refine h_op (r_pick rfl rfl) ?_
 refine yS rfl ?_
 refine yN ?_
 refine h_ret ?_
 exact h_ret1 rfl rfl fun w s => ⟨⟨z9, ((hz13.trans hz38).trans hz9)⟩, rfl, (same (L' := [.zone true z9]) w s).res (List.Sublist.refl _) (by simp [Fa.wr])⟩
end Go.Proofs.YtjhocljhhpkiiaaGreatDoor
/- U149 -/
namespace Go.Proofs.YtjhocljhhpkiiaaGreatDoor
open Go.RowKit
end Go.Proofs.YtjhocljhhpkiiaaGreatDoor
/- E34 -/
namespace Go.Proofs.YtjhocljhhpkiiaaGreatDoor
open Go.RowKit
theorem preN_inj {a b a' b' : B32} (h : preN a b = preN a' b') : a = a' ∧ b = b' := by
 obtain ⟨h1, h2⟩ := List.append_inj (List.cons.inj h).2 (a.2.trans a'.2.symm)
 exact ⟨Subtype.ext h1, Subtype.ext h2⟩
theorem preL_inj {l l' : Leaf} (h : preL l = preL l') : l = l' := by
 obtain ⟨h1, h2⟩ := List.append_inj (List.cons.inj h).2 (l.key.2.trans l'.key.2.symm)
 obtain ⟨k, v⟩ := l
 obtain ⟨k', v'⟩ := l'
 rw [show k = k' from Subtype.ext h1, show v = v' from Subtype.ext h2]
theorem preE_preL {l : Leaf} (h : preE = preL l) : False := absurd (List.cons.inj h).1 (by decide)
theorem preE_preN {a b : B32} (h : preE = preN a b) : False := absurd (List.cons.inj h).1 (by decide)
theorem preL_preN {l : Leaf} {a b : B32} (h : preL l = preN a b) : False := absurd (List.cons.inj h).1 (by decide)
def chainOk (n : Nat) (key : B32) : List (List UInt8) → Nat → Prop
 | [], _ => False
 | [x], _ => x = preE ∨ ∃ lf, x = preL lf
 | x :: y :: l, d => (∃ a b, x = preN a b ∧ sumB n y = if bitAt key d then b else a) ∧ chainOk n key (y :: l) (d + 1)
theorem colB_of {n : Nat} {x y : List UInt8} (h : x ≠ y) (hs : sumB n x = sumB n y) : colB n x y = true := by
 unfold colB
 rw [decide_eq_false h, decide_eq_true hs]
 rfl
theorem chain_sound (n : Nat) (key : B32) (ws : List (List UInt8)) : ∀ (ls : List (List UInt8)) (d : Nat), chainOk n key ws d → chainOk n key ls d → sumB n (ws.headD []) = sumB n (ls.headD []) →
  (difI ws ls < min ws.length ls.length ∧ colB n (ws.getD (difI ws ls) []) (ls.getD (difI ws ls) []) = true) ∨ (¬ difI ws ls < min ws.length ls.length ∧ ws.getLast? = ls.getLast?) := by
 induction ws with
 | nil => exact fun _ _ h => h.elim
 | cons x ws ih =>
  intro ls d hw hl hs
  cases ls with
  | nil => exact hl.elim
  | cons y ls =>
   by_cases hxy : x = y
   ·subst hxy
    have hd : difI (x :: ws) (x :: ls) = difI ws ls + 1 := by rw [difI, if_pos rfl]
    cases ws with
    | nil =>
     cases ls with
     | nil =>
      refine .inr ⟨?_, rfl⟩
      rw [hd]
      exact fun h => absurd h (by simp)
     | cons z l =>
      obtain ⟨⟨a, b, e, -⟩, -⟩ := hl
      rcases hw with h | ⟨lf, h⟩
      ·exact (preE_preN (h.symm.trans e)).elim
      ·exact (preL_preN (h.symm.trans e)).elim
    | cons z w =>
     cases ls with
     | nil =>
      obtain ⟨⟨a, b, e, -⟩, -⟩ := hw
      rcases hl with h | ⟨lf, h⟩
      ·exact (preE_preN (h.symm.trans e)).elim
      ·exact (preL_preN (h.symm.trans e)).elim
     | cons z' l =>
      obtain ⟨⟨a, b, e, h1⟩, hw2⟩ := hw
      obtain ⟨⟨a', b', e', h1'⟩, hl2⟩ := hl
      obtain ⟨ea, eb⟩ := preN_inj (e.symm.trans e')
      have hsz : sumB n z = sumB n z' := by rw [h1, h1', ea, eb]
      rcases ih (z' :: l) (d + 1) hw2 hl2 hsz with ⟨h2, h3⟩ | ⟨h2, h3⟩
      ·refine .inl ⟨?_, ?_⟩
       ·rw [hd]
        rw [List.length_cons (a := x), List.length_cons (a := x)]
        omega
       ·rw [hd]
        exact h3
      ·refine .inr ⟨?_, ?_⟩
       ·rw [hd]
        rw [List.length_cons (a := x), List.length_cons (a := x)]
        omega
       ·rw [List.getLast?_cons_cons, List.getLast?_cons_cons, h3]
   ·have hd : difI (x :: ws) (y :: ls) = 0 := by rw [difI, if_neg hxy]
    refine .inl ⟨?_, ?_⟩
    ·rw [hd]
     simp only [List.length_cons]
     omega
    ·rw [hd]
     exact colB_of hxy hs
theorem findP_col {n : Nat} {key : B32} {ws ls : List (List UInt8)} {d : Nat} (hw : chainOk n key ws d) (hl : chainOk n key ls d) (hs : sumB n (ws.headD []) = sumB n (ls.headD [])) (a b : List UInt8) (he : ws.getLast? = ls.getLast? → colB n a b = true) : colB n (findP ws ls a b).1 (findP ws ls a b).2 = true := by
 unfold findP
 rcases chain_sound n key ws ls d hw hl hs with ⟨h1, h2⟩ | ⟨h1, h2⟩
 ·rw [if_pos h1]
  exact h2
 ·rw [if_neg h1]
  exact he h2
theorem preT_end {n : Nat} {t : Tr} (h : t.kind ≠ 2) : preT n t = preE ∨ ∃ lf, preT n t = preL lf := by
 cases t with
 | nil => exact .inl rfl
 | leaf k v => exact .inr ⟨_, rfl⟩
 | node l r => exact absurd rfl h
theorem chain_tree {n : Nat} {key : B32} {t : Tr} {D : Nat} (w : WayTo key t D) : ∀ j k, k + j = D → chainOk n key ((List.range' k (j + 1)).map fun i => preT n (wayK key t i)) k
 | 0, k, h => by
  obtain rfl : k = D := h
  exact preT_end w.end_
 | j + 1, k, h => by
  have ih := chain_tree (n := n) w j (k + 1) (by omega)
  rw [List.range'_succ, List.map_cons]
  rw [List.range'_succ, List.map_cons] at ih ⊢
  refine ⟨?_, ih⟩
  have hk := w.on k (by omega)
  show ∃ a b, preT n (wayK key t k) = preN a b ∧ sumB n (preT n ((wayK key t k).sub (bitAt key k))) = if bitAt key k then b else a
  cases hT : wayK key t k with
  | nil => rw [hT] at hk; cases hk
  | leaf k v => rw [hT] at hk; cases hk
  | node l r =>
   refine ⟨dgT n l, dgT n r, rfl, ?_⟩
   rw [← preT_dg]
   cases bitAt key k <;> rfl
theorem wayPre_chain {n : Nat} {key : B32} {t : Tr} {D : Nat} (w : WayTo key t D) : chainOk n key (wayPre n key t (D + 1)) 0 := by
 unfold wayPre
 rw [List.range_eq_range']
 exact chain_tree w D 0 (by omega)
theorem wayPre_head (n : Nat) (key : B32) (t : Tr) (D : Nat) : sumB n ((wayPre n key t (D + 1)).headD []) = dgT n t := by
 unfold wayPre
 rw [List.range_eq_range', List.range'_succ, List.map_cons]
 exact (preT_dg n t).symm
theorem wayPre_last (n : Nat) (key : B32) (t : Tr) (D : Nat) : (wayPre n key t (D + 1)).getLast? = some (preT n (wayK key t D)) := by
 rw [wayPre_succ, List.getLast?_concat]
theorem pres_chain (n : Nat) (key : B32) : ∀ (t : Sub) (d : Nat), (t.endI key d).1.kind ≠ 3 → chainOk n key (t.pres n key d) d ∧ sumB n ((t.pres n key d).headD []) = dgS n t ∧ (t.pres n key d).getLast? = some (preI (t.endI key d).1)
 | .one x, d, h => by
  rw [pres_one]
  refine ⟨?_, ?_, rfl⟩
  ·show preI x = preE ∨ ∃ lf, preI x = preL lf
   unfold preI
   split
   ·exact .inr ⟨_, rfl⟩
   ·exact .inl rfl
  ·show sumB n (preI x) = if x.kind = 3 then x.digest else sumB n (preI x)
   rw [if_neg (show x.kind ≠ 3 from h)]
 | .two l r, d, h => by
  rw [pres_two]
  have hkey : ∀ (q : Sub) (b : Bool), bitAt key d = b → q = (if b then r else l) → (q.endI key (d + 1)).1.kind ≠ 3 → chainOk n key (preN (dgS n l) (dgS n r) :: q.pres n key (d + 1)) d ∧ sumB n ((preN (dgS n l) (dgS n r) :: q.pres n key (d + 1)).headD []) = dgS n (.two l r) ∧ (preN (dgS n l) (dgS n r) :: q.pres n key (d + 1)).getLast? = some (preI (q.endI key (d + 1)).1) := by
   intro q b hb hq hk
   have ih : chainOk n key (q.pres n key (d + 1)) (d + 1) ∧ sumB n ((q.pres n key (d + 1)).headD []) = dgS n q ∧ (q.pres n key (d + 1)).getLast? = some (preI (q.endI key (d + 1)).1) := by
    cases b
    ·rw [hq] at hk ⊢
     exact pres_chain n key l (d + 1) hk
    ·rw [hq] at hk ⊢
     exact pres_chain n key r (d + 1) hk
   obtain ⟨i1, i2, i3⟩ := ih
   cases hp : q.pres n key (d + 1) with
   | nil => rw [hp] at i1; exact i1.elim
   | cons y ys =>
    rw [hp] at i1 i2 i3
    refine ⟨⟨⟨_, _, rfl, ?_⟩, i1⟩, rfl, ?_⟩
    ·rw [show sumB n y = dgS n q from i2, hq, hb]
     cases b <;> rfl
    ·rw [List.getLast?_cons_cons, i3]
  have he : (Sub.two l r).endI key d = if bitAt key d then r.endI key (d + 1) else l.endI key (d + 1) := rfl
  rw [he] at h ⊢
  cases hb : bitAt key d
  ·rw [hb] at h
   exact hkey l false hb rfl h
  ·rw [hb] at h
   exact hkey r true hb rfl h
theorem end_col (n : Nat) {m : List En} {key : B32} {D : Nat} (w : WayM key m D) (P : Proof) (c : Claim) (kb vb : List UInt8) (hkey : keyOf kb = key) (hc : claimE c = 0) (hs : supP P key (valD n c.present vb) c.present = true) (ht : trueC m c kb vb = false) (he : preT n (wayK key (mkT m 0) D) = endP P) : colB n (preV (getV (getE' m key))) (preV vb) = true := by
 have hle := w.way.le
 rw [w.on D (Nat.le_refl _)] at he
 unfold trueC at ht
 rw [hkey, decide_eq_true hc, Bool.true_and] at ht
 have hyes : c.present = true → P.kind = 1 ∧ P.leaf = ⟨key, sumB n (preV vb)⟩ := fun hp => by
  rw [hp] at hs
  unfold supP at hs
  rw [if_pos rfl] at hs
  exact of_decide_eq_true hs
 have hno : c.present = false → (P.kind = 1 ∧ P.leaf.key ≠ key) ∨ P.kind ≠ 1 := fun hp => by
  rw [hp] at hs
  unfold supP at hs
  rw [if_neg (by simp)] at hs
  by_cases h1 : P.kind = 1
  ·rw [if_pos h1] at hs
   exact .inl ⟨h1, (of_decide_eq_true hs).1⟩
  ·exact .inr h1
 rcases end_get w.last with ⟨h1, h2⟩ | ⟨e, h1, hb, ⟨hk, h2⟩ | ⟨hk, h2⟩⟩
 ·rw [h1, mkT_nil] at he
  rw [h2] at ht
  cases hp : c.present
  ·rw [hp] at ht; cases ht
  ·obtain ⟨a1, a2⟩ := hyes hp
   unfold endP at he
   rw [if_pos a1] at he
   exact (preE_preL he).elim
 ·rw [h1, mkT_one e hle] at he
  rw [h2] at ht ⊢
  cases hp : c.present
  ·unfold endP at he
   rcases hno hp with ⟨a1, a2⟩ | a1
   ·rw [if_pos a1] at he
    exact absurd ((congrArg Leaf.key (preL_inj he)).symm.trans hk) a2
   ·rw [if_neg a1] at he
    exact (preE_preL he.symm).elim
  ·obtain ⟨a1, a2⟩ := hyes hp
   unfold endP at he
   rw [if_pos a1, a2] at he
   have hv : sumB n (preV e.val) = sumB n (preV vb) := congrArg Leaf.value (preL_inj he)
   refine colB_of (fun h => ?_) hv
   have hev : e.val = vb := (List.cons.inj h).2
   rw [hp] at ht
   rw [show getV (some e) = e.val from rfl, decide_eq_true hev] at ht
   cases ht
 ·rw [h1, mkT_one e hle] at he
  rw [h2] at ht
  cases hp : c.present
  ·rw [hp] at ht; cases ht
  ·obtain ⟨a1, a2⟩ := hyes hp
   unfold endP at he
   rw [if_pos a1, a2] at he
   exact absurd (congrArg Leaf.key (preL_inj he)) hk
theorem batch_col (n : Nat) {m : List En} (hal : Alike m 0) (l : List CB) (its0 : List Item) (t : Sub) (hp : parseM its0 = .ok t) (ha : accM n (dgT n (mkT m 0)) l its0 = true) (i : Nat) (hi : i < l.length) (ht : trueC m (l.getD i zCB).c (l.getD i zCB).kb (l.getD i zCB).vb = false) (x y : List UInt8) (hF : pairF n m (l.getD i zCB) (t.pres n (keyOf (l.getD i zCB).kb) 0) = (x, y)) : colB n x y = true := by
 obtain ⟨hcl, t', hp', hsh⟩ := accM_ok ha
 rw [hp] at hp'
 injection hp' with hp'
 subst hp'
 obtain ⟨hke, hce⟩ := claimsR_ok hcl
 have hk3 := show_kind hp hsh hi
 have hfit := showR_fits hsh
 have hks := keysE_ok hke
 have hends := endsM_map t (keysC l) 0 hks.2.2 (fun a _ b _ i hi => absurd hi (Nat.not_lt_zero _)) hfit
 unfold showR at hsh
 rw [if_pos hfit, hends, List.length_map, keysC_len] at hsh
 have hkg := keysC_get hi
 have hw := wayM_dep hal (keyOf (l.getD i zCB).kb)
 unfold pairF at hF
 obtain ⟨hz, hroot⟩ : (∀ j, 0 ≤ j → j < 0 + l.length → showE n ((keysC l).map fun k => t.endI k 0) l j = 0) ∧ dgS n t = dgT n (mkT m 0) := by
  cases hff : firstF (showE n ((keysC l).map fun k => t.endI k 0) l) l.length 0 with
  | some r => rw [hff] at hsh; cases hsh
  | none =>
   rw [hff] at hsh
   dsimp only at hsh
   refine ⟨firstF_zero _ _ _ hff, ?_⟩
   by_cases h : dgS n t = dgT n (mkT m 0)
   ·exact h
   ·rw [if_neg h] at hsh; cases hsh
 have hsi := hz i (Nat.zero_le _) (by omega)
 unfold showE at hsi
 rw [List.getD_eq_getElem?_getD (l := List.map _ _), List.getElem?_map, hkg] at hsi
 simp only [Option.map_some, Option.getD_some] at hsi
 obtain ⟨c1, c2, c3⟩ := pres_chain n (keyOf (l.getD i zCB).kb) t 0 hk3
 have hsup : supP (endPr (t.endI (keyOf (l.getD i zCB).kb) 0)) (keyOf (l.getD i zCB).kb) (valD n (l.getD i zCB).c.present (l.getD i zCB).vb) (l.getD i zCB).c.present = true := by
  have hsi2 : (if supP (endPr (t.endI (keyOf (l.getD i zCB).kb) 0)) (keyOf (l.getD i zCB).kb) (valD n (l.getD i zCB).c.present (l.getD i zCB).vb) (l.getD i zCB).c.present then (0 : Int) else 12) = 0 := hsi
  split at hsi2
  ·assumption
  ·cases hsi2
 have h := findP_col (wayPre_chain (n := n) hw.way) c1 (by rw [wayPre_head, c2, hroot]) (preV (getV (getE' m (keyOf (l.getD i zCB).kb)))) (preV (l.getD i zCB).vb) (fun he => by
  rw [wayPre_last, c3] at he
  exact end_col n hw _ _ _ _ rfl (hce i hi) hsup ht (Option.some.inj he))
 rw [hF] at h
 exact h
end Go.Proofs.YtjhocljhhpkiiaaGreatDoor
/- U153 -/
namespace Go.Proofs.YtjhocljhhpkiiaaGreatDoor
open Go.RowKit
theorem getD_len {ws : List (List UInt8)} {N : Nat} (h : ∀ w ∈ ws, w.length ≤ N) (i : Nat) : (ws.getD i []).length ≤ N := by
 rw [List.getD_eq_getElem?_getD]
 cases hi : ws[i]? with
 | none => exact Nat.zero_le _
 | some w => exact h w (List.mem_of_getElem? hi)
theorem findP_len {ws ls : List (List UInt8)} {a b x y : List UInt8} (hF : findP ws ls a b = (x, y)) {N : Nat} (hw : ∀ w ∈ ws, w.length ≤ N) (hl : ∀ w ∈ ls, w.length ≤ N) (ha : a.length ≤ N) (hb : b.length ≤ N) : x.length ≤ N ∧ y.length ≤ N := by
 unfold findP at hF
 split at hF
 ·injection hF with h1 h2
  subst h1 h2
  exact ⟨getD_len hw _, getD_len hl _⟩
 ·injection hF with h1 h2
  subst h1 h2
  exact ⟨ha, hb⟩
theorem wayPre_mem {n : Nat} {key : B32} {t : Tr} {N : Nat} : ∀ w ∈ wayPre n key t N, w.length ≤ 65 := fun w h => by
 obtain ⟨i, -, rfl⟩ := List.mem_map.1 h
 exact preT_len n _
theorem rFind22_n (n : Nat) (hn : n ≤ 256) (h : Zh) (m : List En) (B : Option Addr) (cB : Nat) [hB : RdZ h B (ents m)] (hv : ValsZ h m) (hal : Alike m 0) (hm : m.length ≤ 1000000) (c : Claim) (kb vb : List UInt8) [hK : SlZ h c.key kb] [hV : SlZ h c.value vb] (hk32 : kb.length = 32) (hvb : vb.length ≤ 100000000) (D : Nat) (w : WayM (keyOf kb) m D) (ys : List Seg) (ls : List (List UInt8)) (Y : Option Addr) (cy N : Nat) [hY : RdZ h Y (svs ys)] (hys : SegsZ h ys ls) (hN : ls.length = N) (hNl : N ≤ 1000000) (x y : List UInt8) (hF : findP (wayPre n (keyOf kb) (mkT m 0) (D + 1)) ls (preV (getV (getE' m (keyOf kb)))) (preV vb) = (x, y)) : Spec Tryz.prog 33 [.int .i64 (n : Int), .slice B m.length cB, .agg c.cells.toArray, .slice Y N cy].toArray [] [.zone true h] (fun u : {u : Zh × (Option Addr × Nat) × (Option Addr × Nat) // LeZ h u.1 ∧ PZ u.1 u.2.1.1 u.2.1.2 x ∧ PZ u.1 u.2.2.1 u.2.2.2 y} => .tuple #[.slice u.1.2.1.1 x.length u.1.2.1.2, .slice u.1.2.2.1 y.length u.1.2.2.2]) (fun u => [.zone true u.1.1]) := by
 obtain rfl : ys.length = N := by rw [hys.len, hN]
 exact rFind22_s n hn h m B cB hv hal hm c kb vb hk32 hvb D w ys ls Y cy hys hNl x y hF
end Go.Proofs.YtjhocljhhpkiiaaGreatDoor
/- U84 -/
namespace Go.Proofs.YtjhocljhhpkiiaaGreatDoor
open Go.RowKit
section
variable (n : Nat) (hn : n ≤ 256) (l : List Item) (A : Option Addr) (c : Nat) (hl : l.length ≤ 1000000) (hok : l.all kindOk = true)
include hn hl hok
theorem rPre19_s : ∀ (t : Sub) (d : Nat), d ≤ 256 → ∀ (at_ : Nat) (r : List Item), readM d (l.drop at_) = some (t, r) → (∀ x, t = .one x → x.kind ≠ 3) → RPre n l A c d at_ t
 | .one x, d, hd, at_, r, h, h3 => by
  obtain ⟨y, hy, ⟨hk, e, _⟩ | ⟨_, d', t1, t2, m, _, e, _⟩⟩ := readM_at h
  ·injection e with e
   subst e
   exact rPre_one n l A c hl hok d at_ x hy hk (h3 x rfl)
  ·cases e
 | .two t1 t2, d, hd, at_, r, h, _ => by
  obtain ⟨y, hy, ⟨hk, e, _⟩ | ⟨hk, d', t1', t2', m, rfl, e, hm1, hm2, h1, h2⟩⟩ := readM_at h
  ·cases e
  ·injection e with e1 e2
   subst e1 e2
   have i1 := rDig_s n hn l A c hl hok t1 d' (by omega) (at_ + 1) _ h1
   have i2 := rDig_s n hn l A c hl hok t2 d' (by omega) m _ h2
   exact rPre_two n l A c hl d' at_ (by omega) y hy hk t1 t2 m h1 ⟨hm1, hm2⟩ i1 i2
end
theorem ways_end (k : B32) : ∀ (t : Sub) (d j : Nat) (x : Item), (t.ways k d)[j]? = some (.one x) → x = (t.endI k d).1
 | .one y, d, j, x, h => by
  cases j with
  | zero => exact (by simpa [Sub.ways] using h : y = x).symm
  | succ j => simp [Sub.ways] at h
 | .two l r, d, j, x, h => by
  cases j with
  | zero => simp [Sub.ways] at h
  | succ j =>
   rw [Sub.ways, List.getElem?_cons_succ] at h
   show x = (if bitAt k d then r.endI k (d + 1) else l.endI k (d + 1)).1
   cases hb : bitAt k d
   ·rw [hb, if_neg (by simp)] at h
    rw [if_neg (by simp)]
    exact ways_end k l (d + 1) j x h
   ·rw [hb, if_pos rfl] at h
    rw [if_pos rfl]
    exact ways_end k r (d + 1) j x h
end Go.Proofs.YtjhocljhhpkiiaaGreatDoor
