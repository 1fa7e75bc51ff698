/- The reference of extract: True, Way, Find; law22.collide, few; The reference's Find; law22.collide, few; law21.alive: it is true; law22.alive: it is true; law22: ExtractTrue, ExtractWays, ExtractCollides are true; What is asked of the whole program, once for all frames of a great seat; a row's facts put together; law22: ExtractWays, ExtractCollides are true; law22: ExtractCollides is true (joined texts: U146 U147 U128 U148 U149 TF U150 U151) -/
import Derived.Test.YtjhocljhhpkiiaaGreatDoorP16
import Derived.Handed
import Derived.JoinedOf
import Derived.SevenTiedAt
set_option linter.all false
/- U146 -/
namespace Go.Proofs.YtjhocljhhpkiiaaGreatDoor
set_option linter.unusedSimpArgs false
set_option linter.unusedVariables false
open Go.RowKit
section
variable (h : Zh) (m : List En) (B : Option Addr) (cB : Nat) [hB : RdZ h B (ents m)] (hv : ValsZ h m) (hm : m.length ≤ 1000000) (c : Claim) (kb vb : List UInt8) [hK : SlZ h c.key kb] [hV : SlZ h c.value vb]
include hv hm
theorem rTrue22_s : Spec Tryz.prog 19 [.slice B m.length cB, .agg c.cells.toArray].toArray [.zone false h] [] (fun _ : Unit => .bool (trueC m c kb vb)) (fun _ => []) := by
  have hC := rClaim18_s c
  have hkn := hK.len
  have hvn := hV.len
  have hVr : RdZ h c.value.A (bc vb) := hV.rd
  have hKr : RdZ h c.key.A (bc kb) := hK.rd
  by_cases h1 : claimE c = 0
  · have hk32 : kb.length = 32 := by
      unfold claimE at h1
      split at h1
      · omega
      · cases h1
    have hG := Get_s m B cB (keyOf kb) (by omega)
    obtain ⟨hgv, hgl⟩ := getS_ok hv (keyOf kb)
    rw [h1] at hC
    have ht : trueC m c kb vb = ((getE' m (keyOf kb)).isSome == c.present && (!(getE' m (keyOf kb)).isSome || decide (getV (getE' m (keyOf kb)) = vb))) := by unfold trueC; rw [decide_eq_true h1]; exact Bool.true_and _
    rw [ht]
    obtain ⟨⟨kA, kn, kc⟩, ⟨vA, vn, vc⟩, pr⟩ := c
    dsimp only at hkn hvn hKr hVr ⊢
    subst hkn hvn
    generalize getE' m (keyOf kb) = g at *
    have hgn := hgv.len
    have hgr : RdZ h (getS g).A (bc (getV g)) := hgv.rd
    generalize getS g = s at *
    generalize getV g = v at *
    obtain ⟨sA, sn, sc⟩ := s
    dsimp only at hgn hgr hG
    subst hgn
    have hS := rSame_s v vb sA vA sc vc (by omega)
    cases hg : g.isSome
    · rw [hg] at hG
      cases pr
      · refine spec_of Tryz.func19 rfl (n := 38) rfl rfl ?_
        intro W
        refine h_seq ?_
        refine h_reg ?_
        refine h_opX (x_box rfl) fun g3 => ?_
        refine h_op (r_assign rfl) ?_
        refine h_nil ?_
        refine q_then ?_
        refine h_seq ?_
        refine h_reg ?_
        refine h_op (r_loadr rfl) ?_
        refine h_call (hC.comes) rfl rfl rfl fun _ => ?_
        refine h_op (r_move rfl) ?_
        refine h_op (r_extract rfl rfl) ?_
        refine h_op (r_extract rfl rfl) ?_
        refine h_op (r_assign rfl) ?_
        refine h_op (r_assign rfl) ?_
        refine h_nil ?_
        refine q_then ?_
        refine h_seq ?_
        refine h_seq ?_
        refine h_reg ?_
        refine h_op (r_move rfl) ?_
        refine h_op (r_neq rfl rfl) ?_
        refine h_nil ?_
        refine q_then ?_
        refine h_no rfl ((fun h => h rfl)) ?_
        refine h_skip ?_
        refine q_then ?_
        refine h_seq ?_
        refine h_reg ?_
        refine h_op (r_move rfl) ?_
        refine h_op (r_field rfl) ?_
        refine h_op (r_loadc rfl) ?_
        refine h_call ((rOf_s kb kA kc hk32).comes) rfl rfl rfl fun _ => ?_
        refine h_call (hG.comes) rfl rfl rfl fun _ => ?_
        refine h_op (r_move rfl) ?_
        refine h_op (r_extract rfl rfl) ?_
        refine h_op (r_extract rfl rfl) ?_
        refine h_op (r_assign rfl) ?_
        refine h_op (r_assign rfl) ?_
        refine h_nil ?_
        refine q_then ?_
        refine h_seq ?_
        refine h_reg ?_
        refine h_op (r_move rfl) ?_
        refine h_op (r_field rfl) ?_
        refine h_op (r_loadc rfl) ?_
        refine h_op (r_bool (r_eqb rfl rfl) (show _ = true from rfl)) ?_
        refine h_op (r_move rfl) ?_
        refine h_op (r_move rfl) ?_
        refine h_op (r_not rfl) ?_
        refine h_op (r_move rfl) ?_
        refine h_opOff ?_
        refine h_opOff ?_
        refine h_opOff ?_
        refine h_opOff ?_
        refine h_op (r_pick rfl rfl) ?_
        refine h_op (r_pick rfl rfl) ?_
        refine h_op (r_assign rfl) ?_
        refine h_nil ?_
        refine q_then ?_
        refine h_ret ?_
        exact h_ret1 rfl rfl fun w s => ⟨(), rfl, s.res (List.nil_sublist _) (by simp)⟩
      · refine spec_of Tryz.func19 rfl (n := 38) rfl rfl ?_
        intro W
        refine h_seq ?_
        refine h_reg ?_
        refine h_opX (x_box rfl) fun g3 => ?_
        refine h_op (r_assign rfl) ?_
        refine h_nil ?_
        refine q_then ?_
        refine h_seq ?_
        refine h_reg ?_
        refine h_op (r_loadr rfl) ?_
        refine h_call (hC.comes) rfl rfl rfl fun _ => ?_
        refine h_op (r_move rfl) ?_
        refine h_op (r_extract rfl rfl) ?_
        refine h_op (r_extract rfl rfl) ?_
        refine h_op (r_assign rfl) ?_
        refine h_op (r_assign rfl) ?_
        refine h_nil ?_
        refine q_then ?_
        refine h_seq ?_
        refine h_seq ?_
        refine h_reg ?_
        refine h_op (r_move rfl) ?_
        refine h_op (r_neq rfl rfl) ?_
        refine h_nil ?_
        refine q_then ?_
        refine h_no rfl ((fun h => h rfl)) ?_
        refine h_skip ?_
        refine q_then ?_
        refine h_seq ?_
        refine h_reg ?_
        refine h_op (r_move rfl) ?_
        refine h_op (r_field rfl) ?_
        refine h_op (r_loadc rfl) ?_
        refine h_call ((rOf_s kb kA kc hk32).comes) rfl rfl rfl fun _ => ?_
        refine h_call (hG.comes) rfl rfl rfl fun _ => ?_
        refine h_op (r_move rfl) ?_
        refine h_op (r_extract rfl rfl) ?_
        refine h_op (r_extract rfl rfl) ?_
        refine h_op (r_assign rfl) ?_
        refine h_op (r_assign rfl) ?_
        refine h_nil ?_
        refine q_then ?_
        refine h_seq ?_
        refine h_reg ?_
        refine h_op (r_move rfl) ?_
        refine h_op (r_field rfl) ?_
        refine h_op (r_loadc rfl) ?_
        refine h_op (r_bool (r_eqb rfl rfl) (show _ = false from rfl)) ?_
        refine h_op (r_move rfl) ?_
        refine h_opOff ?_
        refine h_opOff ?_
        refine h_opOff ?_
        refine h_opOff ?_
        refine h_opOff ?_
        refine h_opOff ?_
        refine h_opOff ?_
        refine h_opOff ?_
        refine h_op (r_pick rfl rfl) ?_
        refine h_op (r_assign rfl) ?_
        refine h_nil ?_
        refine q_then ?_
        refine h_ret ?_
        exact h_ret1 rfl rfl fun w s => ⟨(), rfl, s.res (List.nil_sublist _) (by simp)⟩
    · rw [hg] at hG
      cases pr
      · refine spec_of Tryz.func19 rfl (n := 38) rfl rfl ?_
        intro W
        refine h_seq ?_
        refine h_reg ?_
        refine h_opX (x_box rfl) fun g3 => ?_
        refine h_op (r_assign rfl) ?_
        refine h_nil ?_
        refine q_then ?_
        refine h_seq ?_
        refine h_reg ?_
        refine h_op (r_loadr rfl) ?_
        refine h_call (hC.comes) rfl rfl rfl fun _ => ?_
        refine h_op (r_move rfl) ?_
        refine h_op (r_extract rfl rfl) ?_
        refine h_op (r_extract rfl rfl) ?_
        refine h_op (r_assign rfl) ?_
        refine h_op (r_assign rfl) ?_
        refine h_nil ?_
        refine q_then ?_
        refine h_seq ?_
        refine h_seq ?_
        refine h_reg ?_
        refine h_op (r_move rfl) ?_
        refine h_op (r_neq rfl rfl) ?_
        refine h_nil ?_
        refine q_then ?_
        refine h_no rfl ((fun h => h rfl)) ?_
        refine h_skip ?_
        refine q_then ?_
        refine h_seq ?_
        refine h_reg ?_
        refine h_op (r_move rfl) ?_
        refine h_op (r_field rfl) ?_
        refine h_op (r_loadc rfl) ?_
        refine h_call ((rOf_s kb kA kc hk32).comes) rfl rfl rfl fun _ => ?_
        refine h_call (hG.comes) rfl rfl rfl fun _ => ?_
        refine h_op (r_move rfl) ?_
        refine h_op (r_extract rfl rfl) ?_
        refine h_op (r_extract rfl rfl) ?_
        refine h_op (r_assign rfl) ?_
        refine h_op (r_assign rfl) ?_
        refine h_nil ?_
        refine q_then ?_
        refine h_seq ?_
        refine h_reg ?_
        refine h_op (r_move rfl) ?_
        refine h_op (r_field rfl) ?_
        refine h_op (r_loadc rfl) ?_
        refine h_op (r_bool (r_eqb rfl rfl) (show _ = false from rfl)) ?_
        refine h_op (r_move rfl) ?_
        refine h_opOff ?_
        refine h_opOff ?_
        refine h_opOff ?_
        refine h_opOff ?_
        refine h_opOff ?_
        refine h_opOff ?_
        refine h_opOff ?_
        refine h_opOff ?_
        refine h_op (r_pick rfl rfl) ?_
        refine h_op (r_assign rfl) ?_
        refine h_nil ?_
        refine q_then ?_
        refine h_ret ?_
        exact h_ret1 rfl rfl fun w s => ⟨(), rfl, s.res (List.nil_sublist _) (by simp)⟩
      · refine spec_of Tryz.func19 rfl (n := 38) rfl rfl ?_
        intro W
        refine h_seq ?_
        refine h_reg ?_
        refine h_opX (x_box rfl) fun g3 => ?_
        refine h_op (r_assign rfl) ?_
        refine h_nil ?_
        refine q_then ?_
        refine h_seq ?_
        refine h_reg ?_
        refine h_op (r_loadr rfl) ?_
        refine h_call (hC.comes) rfl rfl rfl fun _ => ?_
        refine h_op (r_move rfl) ?_
        refine h_op (r_extract rfl rfl) ?_
        refine h_op (r_extract rfl rfl) ?_
        refine h_op (r_assign rfl) ?_
        refine h_op (r_assign rfl) ?_
        refine h_nil ?_
        refine q_then ?_
        refine h_seq ?_
        refine h_seq ?_
        refine h_reg ?_
        refine h_op (r_move rfl) ?_
        refine h_op (r_neq rfl rfl) ?_
        refine h_nil ?_
        refine q_then ?_
        refine h_no rfl ((fun h => h rfl)) ?_
        refine h_skip ?_
        refine q_then ?_
        refine h_seq ?_
        refine h_reg ?_
        refine h_op (r_move rfl) ?_
        refine h_op (r_field rfl) ?_
        refine h_op (r_loadc rfl) ?_
        refine h_call ((rOf_s kb kA kc hk32).comes) rfl rfl rfl fun _ => ?_
        refine h_call (hG.comes) rfl rfl rfl fun _ => ?_
        refine h_op (r_move rfl) ?_
        refine h_op (r_extract rfl rfl) ?_
        refine h_op (r_extract rfl rfl) ?_
        refine h_op (r_assign rfl) ?_
        refine h_op (r_assign rfl) ?_
        refine h_nil ?_
        refine q_then ?_
        refine h_seq ?_
        refine h_reg ?_
        refine h_op (r_move rfl) ?_
        refine h_op (r_field rfl) ?_
        refine h_op (r_loadc rfl) ?_
        refine h_op (r_bool (r_eqb rfl rfl) (show _ = true from rfl)) ?_
        refine h_op (r_move rfl) ?_
        refine h_op (r_move rfl) ?_
        refine h_op (r_not rfl) ?_
        refine h_op (r_move rfl) ?_
        refine h_op (r_move rfl) ?_
        refine h_op (r_field rfl) ?_
        refine h_op (r_loadc rfl) ?_
        refine h_call (hS.comes) rfl rfl rfl fun _ => ?_
        refine h_op (r_pick rfl rfl) ?_
        refine h_op (r_pick rfl rfl) ?_
        refine h_op (r_assign rfl) ?_
        refine h_nil ?_
        refine q_then ?_
        refine h_ret ?_
        exact h_ret1 rfl rfl fun w s => ⟨(), rfl, s.res (List.nil_sublist _) (by simp)⟩
  · rw [show trueC m c kb vb = false by unfold trueC; rw [decide_eq_false h1]; rfl]
    refine spec_of Tryz.func19 rfl (n := 38) rfl rfl ?_
    intro W
    refine h_seq ?_
    refine h_reg ?_
    refine h_opX (x_box rfl) fun g3 => ?_
    refine h_op (r_assign rfl) ?_
    refine h_nil ?_
    refine q_then ?_
    refine h_seq ?_
    refine h_reg ?_
    refine h_op (r_loadr rfl) ?_
    refine h_call (hC.comes) rfl rfl rfl fun _ => ?_
    refine h_op (r_move rfl) ?_
    refine h_op (r_extract rfl rfl) ?_
    refine h_op (r_extract rfl rfl) ?_
    refine h_op (r_assign rfl) ?_
    refine h_op (r_assign rfl) ?_
    refine h_nil ?_
    refine q_then ?_
    refine h_seq ?_
    refine h_seq ?_
    refine h_reg ?_
    refine h_op (r_move rfl) ?_
    refine h_op (r_neq rfl rfl) ?_
    refine h_nil ?_
    refine q_then ?_
    refine h_yes rfl (h1) ?_
    refine h_seq ?_
    refine h_reg ?_
    refine h_op (r_assign rfl) ?_
    refine h_nil ?_
    refine q_then ?_
    refine h_ret ?_
    refine q_thenR ?_
    exact h_ret1 rfl rfl fun w s => ⟨(), rfl, s.res (List.nil_sublist _) (by simp)⟩
end
theorem rWay22_s (n : Nat) (hn : n ≤ 256) (h : Zh) (m : List En) (B : Option Addr) (cB : Nat) [hB : RdZ h B (ents m)] (hv : ValsZ h m) (hal : Alike m 0) (hm : m.length ≤ 1000000) (key : B32) (D : Nat) (w : WayM key m D) : Spec Tryz.prog 22 [.int .i64 (n : Int), .slice B m.length cB, .agg key.cells.toArray].toArray [] [.zone true h] (fun u : {u : Zh × Option Addr × Nat × List Seg // LeZ h u.1 ∧ SegsZ u.1 u.2.2.2 (wayPre n key (mkT m 0) (D + 1))} => .slice u.1.2.1 (D + 1) u.1.2.2.1) (fun u => [.zone true u.1.1, .own (.slice u.1.2.1 (D + 1) u.1.2.2.1) (D + 1) 23 1 (svs u.1.2.2.2)]) := by
  have hD := w.way.le
  refine spec_of Tryz.func22 rfl (n := 63) rfl rfl ?_
  intro W
  refine h_seq ?_
  refine h_reg ?_
  refine h_opX (x_box rfl) fun g5 => ?_
  refine h_op (r_assign rfl) ?_
  refine h_nil ?_
  refine q_then ?_
  refine h_seq ?_
  refine h_reg ?_
  refine h_op (r_assign rfl) ?_
  refine h_nil ?_
  refine q_then ?_
  refine h_seq ?_
  refine h_seq ?_
  refine h_reg ?_
  refine h_op (r_assign rfl) ?_
  refine h_nil ?_
  refine q_then ?_
  refine h_block ?_
  refine h_nil_own 23 1 (xs := svs ([] : List Seg)) rfl ?_
  refine h_loop (fun (s : Nat × Zh × (Option Addr × Nat) × List Seg × Option Addr × Nat) => (s.1 ≤ D ∧ LeZ h s.2.1) ∧ RdZ s.2.1 s.2.2.1.1 (ents (atM key m s.1)) ∧ SegsZ s.2.1 s.2.2.2.1 (wayPre n key (mkT m 0) s.1)) (fun (s : Nat × Zh × (Option Addr × Nat) × List Seg × Option Addr × Nat) => [(8, .int .i64 (s.1 : Int)), (1, .slice s.2.2.1.1 (atM key m s.1).length s.2.2.1.2), (7, .slice s.2.2.2.2.1 s.1 s.2.2.2.2.2), (0, .int .i64 (n : Int)), (5, .pointer (some ⟨g5, 0, none⟩))]) (fun (s : Nat × Zh × (Option Addr × Nat) × List Seg × Option Addr × Nat) => [.zone true s.2.1, .own (.slice s.2.2.2.2.1 s.1 s.2.2.2.2.2) s.1 23 1 (svs s.2.2.2.1), .blk g5 key.cells 35]) (fun (s : Nat × Zh × (Option Addr × Nat) × List Seg × Option Addr × Nat) => D + 1 - s.1) (0, h, (B, cB), [], none, 0) (⟨⟨Nat.zero_le _, LeZ.refl h⟩, hB, ⟨rfl, fun x hx => by cases hx⟩⟩) ⟨rfl, rfl, rfl, rfl, rfl, trivial⟩ (same) ?_
  rintro ⟨i, z, ⟨Bi, ci⟩, xs, X, cx⟩ ⟨⟨hi, hz⟩, hBi, hsx⟩
  dsimp only at hi hz hBi hsx ⊢
  have hxl := hsx.len
  rw [wayPre_len] at hxl
  have hon := w.on i hi
  have hvi := (atM_vals (key := key) hv i).mono hz
  have hli := atM_le key m i
  have hali := atM_alike (k := key) hal i
  by_cases hiD : i < D
  · have hmore := w.more i hiD
    have hai : ∀ b, Alike (part (atM key m i) i b) (i + 1) := fun b => hali.part b
    have hpl := fun b => part_le (atM key m i) i b
    have hpre : preT n (wayK key (mkT m 0) i) = preN (rootM n (part (atM key m i) i false) (i + 1)) (rootM n (part (atM key m i) i true) (i + 1)) := by rw [hon, mkT_two hmore (by omega)]; rfl
    have hnext : part (atM key m i) i (bitAt key i) = atM key m (i + 1) := rfl
    have hP0 := Part_s (atM key m i) Bi ci i false (by omega) (by omega)
    have hP1 := Part_s (atM key m i) Bi ci i true (by omega) (by omega)
    have hPK := PartK_s key (atM key m i) Bi ci i (by omega) (by omega)
    rw [hnext] at hPK
    refine h_seq ?_
    refine h_seq ?_
    refine h_reg ?_
    refine h_op (r_move rfl) ?_
    refine h_op (r_len rfl) ?_
    refine h_op (r_gtr rfl rfl) ?_
    refine h_nil ?_
    refine q_then ?_
    refine h_yes rfl ((show (1 : Int) < (((atM key m i).length : Nat) : Int) by omega)) ?_
    refine h_skip ?_
    refine q_then ?_
    refine h_seq ?_
    refine h_block ?_
    refine h_seq ?_
    refine h_reg ?_
    refine h_op (r_move rfl) ?_
    refine h_op (r_move rfl) ?_
    refine h_call (hP0.comes) rfl rfl rfl fun ⟨A18, c18⟩ => ?_
    dsimp only
    refine h_freezeO (.slice A18 (part (atM key m i) i false).length c18) fun z1 B1 c1 e1 hle1 hlen1 hnil1 hz1 hr1 => ?_
    injection e1 with e1 _ e1'
    subst e1 e1'
    have hBi1 : RdZ z1 Bi (ents (atM key m i)) := hBi.mono hz1
    refine h_op (r_assign rfl) ?_
    refine h_nil ?_
    refine q_then ?_
    refine h_seq ?_
    refine h_reg ?_
    refine h_op (r_move rfl) ?_
    refine h_op (r_move rfl) ?_
    refine h_call (hP1.comes) rfl rfl rfl fun ⟨A21, c21⟩ => ?_
    dsimp only
    refine h_freezeO (.slice A21 (part (atM key m i) i true).length c21) fun z2 B2 c2 e2 hle2 hlen2 hnil2 hz2 hr2 => ?_
    injection e2 with e2 _ e2'
    subst e2 e2'
    have hr12 : RdZ z2 A18 (ents (part (atM key m i) i false)) := hr1.mono hz2
    have hBi2 : RdZ z2 Bi (ents (atM key m i)) := hBi1.mono hz2
    have hvi2 := hvi.mono (hz1.trans hz2)
    refine h_op (r_assign rfl) ?_
    refine h_nil ?_
    refine q_then ?_
    refine h_seq ?_
    refine h_reg ?_
    refine h_op (r_move rfl) ?_
    refine h_op (r_move rfl) ?_
    refine h_op (r_move rfl) ?_
    refine h_op (r_move rfl) ?_
    refine h_op (r_int (r_add rfl rfl) (show _ = ((i + 1 : Nat) : Int) by omega)) ?_
    refine h_call ((Root_any n hn z2 (by omega) (hai false) (by have := hpl false; omega) (hvi2.part i false) A18 c18).comes) rfl rfl rfl fun _ => ?_
    refine h_op (r_move rfl) ?_
    refine h_op (r_move rfl) ?_
    refine h_op (r_move rfl) ?_
    refine h_op (r_int (r_add rfl rfl) (show _ = ((i + 1 : Nat) : Int) by omega)) ?_
    refine h_call ((Root_any n hn z2 (by omega) (hai true) (by have := hpl true; omega) (hvi2.part i true) A21 c21).comes) rfl rfl rfl fun _ => ?_
    refine h_call ((rNode_s _ _).comes) rfl rfl rfl fun ⟨g33, c33⟩ => ?_
    dsimp only
    rw [← hpre]
    refine h_opX (x_bsl rfl rfl) fun g34 => ?_
    refine h_opX (x_app rfl rfl (k := 1)) fun ⟨g35, c35⟩ => ?_
    refine h_op (r_assign rfl) ?_
    refine h_nil ?_
    refine q_then ?_
    dsimp only
    change H _ _ _ _ _ (.own _ _ _ _ (svs xs ++ [sv (some ⟨g33, 0, none⟩, c33, preT n (wayK key (mkT m 0) i))]) :: _) _
    rw [svs_app1]
    refine h_freezeO (.slice (some ⟨g33, 0, none⟩) (preT n (wayK key (mkT m 0) i)).length c33) fun z3 B3 c3 e3 hle3 hlen3 hnil3 hz3 hr3 => ?_
    injection e3 with e3 _ e3'
    subst e3 e3'
    have hz13 := (hz1.trans hz2).trans hz3
    have hsn := (hsx.mono (hz1.trans hz2)).snoc hz3 (c := c33) hr3
    rw [← wayPre_succ] at hsn
    have hBi3 : RdZ z3 Bi (ents (atM key m i)) := hBi2.mono hz3
    refine h_reg ?_
    refine h_op (r_move rfl) ?_
    refine h_op (r_move rfl) ?_
    refine h_op (r_loadr rfl) ?_
    refine h_op (r_move rfl) ?_
    refine h_call ((refBit_s key i (by omega)).comes) rfl rfl rfl fun _ => ?_
    refine h_call (hPK.comes) rfl rfl rfl fun ⟨A41, c41⟩ => ?_
    dsimp only
    refine h_freezeO (.slice A41 (atM key m (i + 1)).length c41) fun z4 B4 c4 e4 hle4 hlen4 hnil4 hz4 hr4 => ?_
    injection e4 with e4 _ e4'
    subst e4 e4'
    refine h_op (r_assign rfl) ?_
    refine h_nil ?_
    refine q_block ?_
    refine q_then ?_
    refine h_reg ?_
    refine h_op (r_move rfl) ?_
    refine h_op (r_add rfl rfl) ?_
    refine h_op (r_assign rfl) ?_
    refine h_nil ?_
    exact h_back (i + 1, z4, (A41, c41), xs ++ [((some ⟨g33, 0, none⟩, c33, preT n (wayK key (mkT m 0) i)) : Seg)], some ⟨g35, 0, none⟩, c35) (⟨⟨by dsimp only; omega, hz.trans (hz13.trans hz4)⟩, hr4, hsn.mono hz4⟩) ((show D + 1 - (i + 1) < D + 1 - i by omega)) ⟨rfl, rfl, rfl, rfl, rfl, trivial⟩ (same)
  · obtain rfl : i = D := by omega
    have hlast := w.last
    refine h_seq ?_
    refine h_seq ?_
    refine h_reg ?_
    refine h_op (r_move rfl) ?_
    refine h_op (r_len rfl) ?_
    refine h_op (r_gtr rfl rfl) ?_
    refine h_nil ?_
    refine q_then ?_
    refine h_no rfl ((show ¬ (1 : Int) < (((atM key m i).length : Nat) : Int) by omega)) ?_
    have hsucc := wayPre_succ n key (mkT m 0) i
    rw [hon] at hsucc
    generalize atM key m i = q at *
    rcases q with _ | ⟨e, _ | ⟨f, q⟩⟩
    · rw [mkT_nil] at hsucc
      refine h_exit ?_
      refine q_thenE ?_
      refine q_thenE ?_
      refine q_blockE ?_
      refine q_then ?_
      refine h_seq ?_
      refine h_seq ?_
      refine h_reg ?_
      refine h_op (r_move rfl) ?_
      refine h_op (r_len rfl) ?_
      refine h_op (r_eql rfl rfl) ?_
      refine h_nil ?_
      refine q_then ?_
      refine h_condT rfl ?_
      refine h_seq ?_
      refine h_reg ?_
      refine h_op (r_move rfl) ?_
      refine h_opX (x_bslV (ys := [.int .u8 3]) (bc preE) rfl rfl (bc_one _)) fun g46 => ?_
      refine h_opX (x_bsl rfl rfl) fun g47 => ?_
      refine h_opX (x_app rfl rfl (k := 1)) fun ⟨g48, c48⟩ => ?_
      refine h_op (r_assign rfl) ?_
      refine h_nil ?_
      refine q_then ?_
      refine h_ret ?_
      refine q_thenR ?_
      dsimp only
      change H _ _ _ _ _ (.own _ _ _ _ (svs xs ++ [sv (some ⟨g46, 0, none⟩, 1, preE)]) :: _) _
      rw [svs_app1]
      refine h_freezeO (.slice (some ⟨g46, 0, none⟩) 1 1) fun z3 B3 c3 e3 hle3 hlen3 hnil3 hz3 hr3 => ?_
      injection e3 with e3 _ e3'
      subst e3 e3'
      have hsn := hsx.snoc hz3 (c := 1) hr3
      rw [show wayPre n key (mkT m 0) i ++ [preE] = wayPre n key (mkT m 0) (i + 1) from hsucc.symm] at hsn
      exact h_ret1 rfl rfl fun w s => ⟨⟨(z3, some ⟨g48, 0, none⟩, c48, xs ++ [((some ⟨g46, 0, none⟩, 1, preE) : Seg)]), hz.trans hz3, hsn⟩, rfl, (same (L' := [.zone true z3, .own (.slice (some ⟨g48, 0, none⟩) (i + 1) c48) (i + 1) 23 1 (svs (xs ++ [((some ⟨g46, 0, none⟩, 1, preE) : Seg)]))]) w s).res (List.Sublist.refl _) (by simp [Fa.wr])⟩
    · rw [mkT_one e hD] at hsucc
      obtain ⟨hs, hvl⟩ := hvi e (by simp)
      obtain ⟨⟨key', A, N, cc⟩, b⟩ := e
      obtain rfl : N = b.length := hs.len
      have hA : A = none → b.length = 0 ∧ cc = 0 := hs.nil
      have hrd : RdZ z A (bc b) := hs.rd
      dsimp only at hvl
      have h0 : 0 < (ents [⟨⟨key', ⟨A, b.length, cc⟩⟩, b⟩]).length := by rw [ents_len]; exact Nat.zero_lt_succ _
      obtain ⟨bb, o, rfl, -⟩ := hBi.at_ 0 _ (List.getElem?_eq_getElem h0)
      refine h_exit ?_
      refine q_thenE ?_
      refine q_thenE ?_
      refine q_blockE ?_
      refine q_then ?_
      refine h_seq ?_
      refine h_seq ?_
      refine h_reg ?_
      refine h_op (r_move rfl) ?_
      refine h_op (r_len rfl) ?_
      refine h_op (r_eql rfl rfl) ?_
      refine h_nil ?_
      refine q_then ?_
      refine h_condF rfl ?_
      refine h_skip ?_
      refine q_then ?_
      refine h_seq ?_
      refine ha_start [.zone true z] [] mixed (same) ?_
      refine ha_takeP 0 rfl (r_move rfl) ?_
      refine ha_takeP 1 rfl (r_move rfl) ?_
      refine ha_takeP 2 rfl (r_move rfl) ?_
      refine ha_takeP 3 rfl (r_idx rfl rfl (hm := by simp)) ?_
      refine ha_takeP 4 rfl (r_field rfl) ?_
      refine ha_take 5 rfl (r_nthr rfl (out := key'.cells) (B32.cells_length _) (ents_key0 ⟨⟨key', ⟨A, b.length, cc⟩⟩, b⟩)) ?_
      refine ha_takeP 6 rfl (r_move rfl) ?_
      refine ha_takeP 7 rfl (r_idx rfl rfl (hm := by simp)) ?_
      refine ha_takeP 8 rfl (r_field rfl) ?_
      refine ha_take 9 rfl (r_nth rfl (ents_val0 ⟨⟨key', ⟨A, b.length, cc⟩⟩, b⟩)) ?_
      refine ha_one 10 ?_
      refine ho_C 10 rfl ((rLeafOf_s n hn key' b A cc hA (by omega)).comes) rfl rfl rfl (fun xx => same) fun _ => ?_
      refine ha_one 11 ?_
      refine ho_C 11 rfl ((rLeaf_s (leafOf n key' b)).comes) rfl rfl rfl (fun xx => same) fun ⟨g60, c60⟩ => ?_
      refine ha_one 12 ?_
      refine ho_X 12 rfl (rk (x_bsl rfl rfl)) (fun _ => same) fun g61 => ?_
      refine ha_one 13 ?_
      refine ho_X 13 rfl (rk (x_app rfl rfl (k := 1))) (fun _ => same) fun ⟨g62, c62⟩ => ?_
      refine ha_takeP 14 rfl (r_assign rfl) ?_
      refine ha_done (by kernel_rfl) ?_
      refine q_then ?_
      refine h_ret ?_
      dsimp only
      change H _ _ _ _ _ (.own _ _ _ _ (svs xs ++ [sv (some ⟨g60, 0, none⟩, c60, preL (leafOf n key' b))]) :: _) _
      rw [svs_app1]
      refine h_freezeO (.slice (some ⟨g60, 0, none⟩) (preL (leafOf n key' b)).length c60) fun z3 B3 c3 e3 hle3 hlen3 hnil3 hz3 hr3 => ?_
      injection e3 with e3 _ e3'
      subst e3 e3'
      have hsn := hsx.snoc hz3 (c := c60) hr3
      rw [show wayPre n key (mkT m 0) i ++ [preL (leafOf n key' b)] = wayPre n key (mkT m 0) (i + 1) from hsucc.symm] at hsn
      exact h_ret1 rfl rfl fun w s => ⟨⟨(z3, some ⟨g62, 0, none⟩, c62, xs ++ [((some ⟨g60, 0, none⟩, c60, preL (leafOf n key' b)) : Seg)]), hz.trans hz3, hsn⟩, rfl, (same (L' := [.zone true z3, .own (.slice (some ⟨g62, 0, none⟩) (i + 1) c62) (i + 1) 23 1 (svs (xs ++ [((some ⟨g60, 0, none⟩, c60, preL (leafOf n key' b)) : Seg)]))]) w s).res (List.Sublist.refl _) (by simp [Fa.wr])⟩
    · exact absurd hlast (by simp)
end Go.Proofs.YtjhocljhhpkiiaaGreatDoor
/- U147 -/
namespace Go.Proofs.YtjhocljhhpkiiaaGreatDoor
set_option linter.unusedSimpArgs false
set_option linter.unusedVariables false
open Go.RowKit
end Go.Proofs.YtjhocljhhpkiiaaGreatDoor
/- U128 -/
namespace Go.Proofs.YtjhocljhhpkiiaaGreatDoor
set_option linter.unusedSimpArgs false
set_option linter.unusedVariables false
open Go.RowKit
end Go.Proofs.YtjhocljhhpkiiaaGreatDoor
/- U148 -/
namespace Go.Proofs.YtjhocljhhpkiiaaGreatDoor
set_option linter.unusedSimpArgs false
set_option linter.unusedVariables false
open Go.RowKit
theorem alive22_s (h : Zh) [hT : RdZ h (some ⟨1, 0, none⟩) hashT] : Spec Tryz.prog 17 ([] : List Value).toArray [] [.zone true h] (fun _ : {x : Zh // LeZ h x} => .bool true) (fun x => [.zone true x.1]) := by
  refine spec_of Tryz.func17 rfl (n := 89) rfl rfl ?_
  intro W
  refine h_seq ?_
  refine h_reg ?_
  refine h_op (r_assign rfl) ?_
  refine h_nil ?_
  refine q_then ?_
  refine h_seq ?_
  refine h_reg ?_
  refine h_call ((Hash_s 0 (by decide)).comes) rfl rfl rfl fun ⟨gh, gc⟩ => ?_
  dsimp only
  refine h_op (r_assign rfl) ?_
  refine h_nil ?_
  refine q_then ?_
  refine h_seq ?_
  refine h_seq ?_
  refine h_reg ?_
  refine h_op (r_move rfl) ?_
  refine h_op (r_nilR rfl rfl) ?_
  refine h_nil ?_
  refine q_then ?_
  refine h_condF rfl ?_
  refine h_skip ?_
  refine q_then ?_
  refine h_seq ?_
  refine h_reg ?_
  refine h_op (r_move rfl) ?_
  refine h_opX (x_bslV (ys := [.int .u8 7]) (bc [7]) rfl rfl (bc_one _)) fun g14 => ?_
  refine h_op (r_build (out := (Entry.cells ⟨zB32, ⟨some ⟨g14, 0, none⟩, 1, 1⟩⟩)) rfl) ?_
  refine h_opX (x_bsl rfl rfl) fun g16 => ?_
  change H _ _ _ _ _ (.own _ _ _ _ (ents (L22 (some ⟨g14, 0, none⟩) 1)) :: .own (.slice (some ⟨g14, 0, none⟩) 1 1) 1 _ _ (bc [7]) :: _) _
  refine h_freezeO (.slice (some ⟨g14, 0, none⟩) 1 1) fun z1 B1 c1 e1 hle1 hlen1 hnil1 hz1 hr1 => ?_
  injection e1 with e1 _ e1'
  subst e1 e1'
  have sv1 : SlZ z1 ⟨some ⟨g14, 0, none⟩, 1, 1⟩ [7] := ⟨rfl, Nat.le_refl _, (fun h => by cases h), hr1⟩
  have hv1 : ValsZ z1 (L22 (some ⟨g14, 0, none⟩) 1) := fun e he => by
    obtain rfl := List.mem_singleton.1 he
    exact ⟨sv1, by show 1 ≤ _; decide⟩
  have hG := Grow_any 0 (by decide) gh gc (d := 0) (by decide) (alike22 (some ⟨g14, 0, none⟩) 1) (by show 1 ≤ _; decide) z1 0 (some ⟨g16, 0, none⟩) 1 (hT.mono hz1) hv1 (by rw [mkT22]; decide)
  refine h_call (hG.comes) rfl rfl rfl fun ⟨⟨z2, q⟩, hz2, ht2⟩ => ?_
  dsimp only at hz2 ht2 ⊢
  generalize hk0 : 0 + (mkT (L22 (some ⟨g14, 0, none⟩) 1) 0).cost = k0
  rw [mkT22] at hk0
  replace hk0 : 2 = k0 := hk0
  subst hk0
  refine h_op (r_assign rfl) ?_
  refine h_nil ?_
  refine q_then ?_
  refine h_seq ?_
  refine h_reg ?_
  refine h_opX (x_makeB rfl rfl) fun g18 => ?_
  refine h_op (r_build rfl) ?_
  refine h_opX (x_alloc) fun g3 => ?_
  refine h_opS (s_storer rfl rfl) ?_
  refine h_nil ?_
  refine q_then ?_
  refine h_seq ?_
  change H _ _ _ _ _ (.blk g3 (Claim.cells ⟨⟨some ⟨g18, 0, none⟩, 32, 32⟩, ⟨none, 0, 0⟩, false⟩) _ :: .own (.slice (some ⟨g18, 0, none⟩) 32 32) 32 _ 1 (bc kb18) :: _) _
  refine h_freezeO (.slice (some ⟨g18, 0, none⟩) 32 32) fun z3 B3 c3 e3 hle3 hlen3 hnil3 hz3 hr3 => ?_
  injection e3 with e3 _ e3'
  subst e3 e3'
  have hz13 := (hz1.trans hz2).trans hz3
  have sk : SlZ z3 ⟨some ⟨g18, 0, none⟩, 32, 32⟩ kb18 := ⟨rfl, Nat.le_refl _, (fun h => by cases h), hr3⟩
  have s0 : ∀ z, SlZ z ⟨none, 0, 0⟩ [] := slz_nil
  have hvl : ∀ e ∈ L22 (some ⟨g14, 0, none⟩) 1, e.val.length ≤ 100000000 := fun e he => by
    obtain rfl := List.mem_singleton.1 he
    show 1 ≤ _
    decide
  have hS := xSingle_s 0 (by decide) z3 (hT := hT.mono hz13) gh gc 2 (by decide) (L22 (some ⟨g14, 0, none⟩) 1) (alike22 _ _) q (ht := ⟨ht2.ok.mono hz3⟩) ⟨⟨some ⟨g18, 0, none⟩, 32, 32⟩, ⟨none, 0, 0⟩, false⟩ kb18 [] (hK := sk) (hV := s0 z3) (by decide) hvl 0 (way22 _ _ _) zProof [] rfl (hS := RdZ.nil _ _) _ (single22 _ _ _ _)
  refine h_reg ?_
  refine h_op (r_move rfl) ?_
  refine h_op (r_move rfl) ?_
  refine h_op (r_loadr rfl) ?_
  refine h_op (r_build (out := zProof.cells) rfl) ?_
  refine h_call (hS.comes) rfl rfl rfl fun ⟨⟨z4, X, Y, k4⟩, hz4, hXY, hk4⟩ => ?_
  dsimp only at hz4 hXY hk4 ⊢
  obtain ⟨hX, hY⟩ := hXY _ _ rfl
  refine h_op (r_move rfl) ?_
  refine h_op (r_extract rfl rfl) ?_
  refine h_op (r_extract rfl rfl) ?_
  refine h_op (r_extract rfl rfl) ?_
  refine h_op (r_assign rfl) ?_
  refine h_op (r_assign rfl) ?_
  refine h_op (r_assign rfl) ?_
  refine h_nil ?_
  refine q_then ?_
  refine h_seq ?_
  refine h_reg ?_
  refine h_op (r_move rfl) ?_
  refine h_op (r_move rfl) ?_
  refine h_op (r_loadr rfl) ?_
  refine h_opX (x_bsl rfl rfl) fun g33 => ?_
  refine h_op (r_build (out := zItem.cells) rfl) ?_
  refine h_opX (x_bsl rfl rfl) fun g35 => ?_
  change H _ _ _ _ _ (.own _ _ _ _ (its [zItem]) :: .own _ _ _ _ (cbs [cb21 (some ⟨g18, 0, none⟩) 32]) :: _) _
  refine h_freezeO (.slice (some ⟨g35, 0, none⟩) 1 1) fun z5 B5 c5 e5 hle5 hlen5 hnil5 hz5 hr5 => ?_
  injection e5 with e5 _ e5'
  subst e5 e5'
  refine h_freezeO (.slice (some ⟨g33, 0, none⟩) 1 1) fun z6 B6 c6 e6 hle6 hlen6 hnil6 hz6 hr6 => ?_
  injection e6 with e6 _ e6'
  subst e6 e6'
  have hz46 := hz5.trans hz6
  have hz36 := hz4.trans hz46
  have ht6 : TrZ 0 z6 (mkT (L22 (some ⟨g14, 0, none⟩) 1) 0) q := ⟨ht2.ok.mono (hz3.trans hz36)⟩
  have scl : ClsZ z6 [cb21 (some ⟨g18, 0, none⟩) 32] := fun x hx => by
    obtain rfl := List.mem_singleton.1 hx
    exact ⟨sk.mono hz36, s0 z6⟩
  have hcv : ∀ x ∈ [cb21 (some ⟨g18, 0, none⟩) 32], x.vb.length ≤ 100000000 := fun x hx => by
    obtain rfl := List.mem_singleton.1 hx
    exact Nat.zero_le _
  have hBt := xBatch_s 0 (by decide) z6 (hT := hT.mono (hz13.trans hz36)) gh gc k4 (by omega) (L22 (some ⟨g14, 0, none⟩) 1) (alike22 _ _) q (ht := ht6) hvl [zItem] (some ⟨g35, 0, none⟩) 1 (hI := hr5.mono hz6) (by show 1 ≤ 1; decide) (by show 1 ≤ _; decide) [cb21 (some ⟨g18, 0, none⟩) 32] (some ⟨g33, 0, none⟩) 1 (hr := hr6) scl hcv (by show 1 ≤ _; decide) _ (batch22 _ _ _ _)
  refine h_call (hBt.comes) rfl rfl rfl fun ⟨⟨z7, X2, Y2, k7⟩, hz7, hXY2, hk7⟩ => ?_
  dsimp only at hz7 hXY2 hk7 ⊢
  obtain ⟨-, hY2⟩ := hXY2 _ _ rfl
  have hz67 := hz46.trans hz7
  have hX7 := hX.mono hz67
  have hY7 := hY.mono hz67
  refine h_op (r_move rfl) ?_
  refine h_op (r_extract rfl rfl) ?_
  refine h_op (r_extract rfl rfl) ?_
  refine h_op (r_extract rfl rfl) ?_
  refine h_op (r_assign rfl) ?_
  refine h_op (r_assign rfl) ?_
  refine h_op (r_assign rfl) ?_
  refine h_nil ?_
  refine q_then ?_
  refine h_seq ?_
  refine h_reg ?_
  refine h_opX (x_bslV (ys := [.int .u8 7]) (bc [7]) rfl rfl (bc_one _)) fun g40 => ?_
  refine h_op (r_field rfl) ?_
  refine h_opS (s_store rfl rfl rfl) ?_
  refine h_op (r_field rfl) ?_
  refine h_opS (s_store rfl rfl rfl) ?_
  refine h_nil ?_
  refine q_then ?_
  refine h_seq ?_
  change H _ _ _ _ _ (.blk g3 (Claim.cells ⟨⟨some ⟨g18, 0, none⟩, 32, 32⟩, ⟨some ⟨g40, 0, none⟩, 1, 1⟩, true⟩) _ :: _) _
  refine h_freezeO (.slice (some ⟨g40, 0, none⟩) 1 1) fun z8 B8 c8 e8 hle8 hlen8 hnil8 hz8 hr8 => ?_
  injection e8 with e8 _ e8'
  subst e8 e8'
  have hX8 := (hX7.mono hz8)
  have hY8 := (hY7.mono hz8)
  have hW8 := (hY2.mono hz8)
  have hz38 := (hz36.trans hz7).trans hz8
  have ht8 : TrZ 0 z8 (mkT (L22 (some ⟨g14, 0, none⟩) 1) 0) q := ⟨ht2.ok.mono (hz3.trans hz38)⟩
  have sk8 := sk.mono hz38
  have sv8 : SlZ z8 ⟨some ⟨g40, 0, none⟩, 1, 1⟩ [7] := ⟨rfl, Nat.le_refl _, (fun h => by cases h), hr8⟩
  have hX8r := hX8.rd
  have hY8r := hY8.rd
  have hW8r := hW8.rd
  have hTr := xTrue_s 0 z8 (L22 (some ⟨g14, 0, none⟩) 1) (alike22 _ _) q (ht := ht8) ⟨⟨some ⟨g18, 0, none⟩, 32, 32⟩, ⟨some ⟨g40, 0, none⟩, 1, 1⟩, true⟩ kb18 [7] (hK := sk8) (hV := sv8) (fun e he => by have := hvl e he; omega)
  rw [true22b] at hTr
  have hC1 := fun k hk => xCollide_s 0 (by decide) z8 (hT := hT.mono (hz13.trans hz38)) gh gc k hk (preL zLeaf) [3] X.1 Y.1 X.2 Y.2 hX8.nil hY8.nil (by rw [preL_len]; decide) (by decide)
  rw [col22] at hC1
  have hC2 := fun k hk => xCollide_s 0 (by decide) z8 (hT := hT.mono (hz13.trans hz38)) gh gc k hk (preL zLeaf) (preL zLeaf) X.1 X.1 X.2 X.2 hX8.nil hX8.nil (by rw [preL_len]; decide) (by rw [preL_len]; decide)
  rw [decide_eq_true (rfl : preL zLeaf = preL zLeaf), Bool.not_true, Bool.false_and] at hC2
  refine h_reg ?_
  refine h_op (r_move rfl) ?_
  refine h_op (r_move rfl) ?_
  refine h_op (r_move rfl) ?_
  refine h_op (r_build (out := zLeaf.cells) rfl) ?_
  refine h_call ((rLeaf_s zLeaf).comes) rfl rfl rfl fun ⟨g47, c47⟩ => ?_
  have hRs := rSame_s (preL zLeaf) (preL zLeaf) X.1 (some ⟨g47, 0, none⟩) X.2 c47 (by rw [preL_len]; decide)
  rw [decide_eq_true rfl] at hRs
  refine h_call (hRs.comes) rfl rfl rfl fun _ => ?_
  refine h_op (r_pick rfl rfl) ?_
  refine h_op (r_move rfl) ?_
  refine h_op (r_move rfl) ?_
  refine h_opX (x_bslV (ys := [.int .u8 3]) (bc [3]) rfl rfl (bc_one _)) fun g52 => ?_
  have hRs := rSame_s [3] [3] Y.1 (some ⟨g52, 0, none⟩) Y.2 1 (by decide)
  rw [decide_eq_true rfl] at hRs
  refine h_call (hRs.comes) rfl rfl rfl fun _ => ?_
  have hRs2 := rSame_s [3] [3] Y2.1 Y.1 Y2.2 Y.2 (by decide)
  rw [decide_eq_true rfl] at hRs2
  refine h_op (r_pick rfl rfl) ?_
  refine h_op (r_move rfl) ?_
  refine h_op (r_move rfl) ?_
  refine h_op (r_pick rfl rfl) ?_
  refine h_op (r_move rfl) ?_
  refine h_op (r_move rfl) ?_
  refine h_op (r_move rfl) ?_
  refine h_call (hRs2.comes) rfl rfl rfl fun _ => ?_
  refine h_op (r_pick rfl rfl) ?_
  refine h_op (r_move rfl) ?_
  refine h_op (r_move rfl) ?_
  refine h_op (r_move rfl) ?_
  refine h_op (r_move rfl) ?_
  refine h_call ((hC1 k7 (by omega)).comes) rfl rfl rfl fun ⟨k9, hk9⟩ => ?_
  dsimp only at hk9 ⊢
  refine h_op (r_pick rfl rfl) ?_
  refine h_op (r_move rfl) ?_
  refine h_op (r_move rfl) ?_
  refine h_op (r_move rfl) ?_
  refine h_op (r_move rfl) ?_
  refine h_call ((hC2 k9 (by omega)).comes) rfl rfl rfl fun ⟨k10, hk10⟩ => ?_
  dsimp only at hk10 ⊢
  refine h_op (r_not rfl) ?_
  refine h_op (r_pick rfl rfl) ?_
  refine h_op (r_move rfl) ?_
  refine h_op (r_move rfl) ?_
  refine h_op (r_loadr rfl) ?_
  refine h_call (hTr.comes) rfl rfl rfl fun _ => ?_
  have hWy := xWay_s 0 (by decide) z8 (hT := hT.mono (hz13.trans hz38)) gh gc k10 (by omega) (mkT (L22 (some ⟨g14, 0, none⟩) 1) 0) q (ht := ht8) (kB 5) 0 (way22 _ _ (kB 5)).way
  refine h_op (r_pick rfl rfl) ?_
  refine h_op (r_move rfl) ?_
  refine h_op (r_move rfl) ?_
  refine h_op (r_move rfl) ?_
  refine h_op (r_build (out := (kB 5).cells) rfl (hf := ⟨fill_kB 5⟩)) ?_
  refine h_call (hWy.comes) rfl rfl rfl fun ⟨⟨z9, A85, c85, ys, k11⟩, hz9, hys, hk11⟩ => ?_
  dsimp only at hz9 hys hk11 ⊢
  refine h_op (r_len rfl) ?_
  refine h_op (r_bool (r_eql rfl rfl) rfl) ?_
  refine h_op (r_pick rfl rfl) ?_
  refine h_op (r_assign rfl) ?_
  refine h_nil ?_
  refine q_then ?_
  refine h_ret ?_
  exact h_ret1 rfl rfl fun w s => ⟨⟨z9, ((hz13.trans hz38).trans hz9)⟩, rfl, (same (L' := [.zone true z9]) w s).res (List.Sublist.refl _) (by simp [Fa.wr])⟩
end Go.Proofs.YtjhocljhhpkiiaaGreatDoor
/- U149 -/
namespace Go.Proofs.YtjhocljhhpkiiaaGreatDoor
set_option linter.unusedSimpArgs false
set_option linter.unusedVariables false
open Go.RowKit
section
variable (h : Zh) [hT : RdZ h (some ⟨1, 0, none⟩) hashT]
theorem ExtractTrue_s (i : Int) (l : List En) (B : Option Addr) (c' : Nat) [hB : RdZ h B (ents l)] (hv : SlsZ h l) (c : Claim) (kb vb : List UInt8) [hK : SlZ h c.key kb] [hV : SlZ h c.value vb] : Spec Tryz.prog 3 [.int .i64 i, .slice B l.length c', .agg c.cells.toArray].toArray [] [.zone true h] (fun _ : {x : Zh // LeZ h x} => .bool true) (fun x => [.zone true x.1]) := by
  have hS := Short_s c
  refine spec_of Tryz.func3 rfl (n := 35) rfl rfl ?_
  intro W
  by_cases hi : 0 ≤ i ∧ i ≤ 256
  · obtain ⟨n, rfl⟩ : ∃ n : Nat, i = (n : Int) := ⟨i.toNat, by omega⟩
    have hn : n ≤ 256 := by omega
    by_cases hf : fewM l = true
    · have hvl := hv.few hf
      have hal : Alike (ofM l) 0 := Alike.start (ofM_nodup l)
      have hlm : (ofM l).length ≤ 12 := Nat.le_trans (ofM_len l) (by unfold fewM at hf; rw [Bool.and_eq_true, decide_eq_true_eq] at hf; exact hf.1)
      refine h_seq ?_
      refine h_reg ?_
      refine h_opX (x_box rfl) fun g5 => ?_
      refine h_op (r_assign rfl) ?_
      refine h_nil ?_
      refine q_then ?_
      refine h_seq ?_
      refine h_reg ?_
      refine h_op (r_move rfl) ?_
      refine h_op (r_move rfl) ?_
      refine h_call ((Tree_yes n hn l B c' hf h hvl).comes) rfl rfl rfl fun ⟨⟨h1, q1, A1, c1⟩, hle1, ht1⟩ => ?_
      dsimp only at hle1 ht1 ⊢
      refine h_freezeO (.slice A1 (ofM l).length c1) fun h2 B2 c2 e2 hle2 hlen2 hnil2 hz2 hr2 => ?_
      injection e2 with e2 _ e3
      subst e2 e3
      have hz02 := hle1.trans hz2
      have hT2 : RdZ h2 (some ⟨1, 0, none⟩) hashT := hT.mono hz02
      by_cases hs : c.key.n ≤ 100 ∧ c.value.n ≤ 70000
      · rw [if_pos hs] at hS
        refine h_op (r_move rfl) ?_
        refine h_op (r_extract rfl rfl) ?_
        refine h_op (r_extract rfl rfl) ?_
        refine h_op (r_extract rfl rfl) ?_
        refine h_op (r_assign rfl) ?_
        refine h_op (r_assign rfl) ?_
        refine h_op (r_assign rfl) ?_
        refine h_nil ?_
        refine q_then ?_
        refine h_seq ?_
        refine h_seq ?_
        refine h_reg ?_
        refine h_op (r_move rfl) ?_
        refine h_op (r_not rfl) ?_
        refine h_op (r_move rfl) ?_
        refine h_op (r_loadr rfl) ?_
        refine h_call (hS.comes) rfl rfl rfl fun _ => ?_
        refine h_op (r_bool (r_eql rfl rfl) rfl) ?_
        refine h_op (r_pick rfl rfl) ?_
        refine h_nil ?_
        refine q_then ?_
        refine h_condF rfl ?_
        refine h_skip ?_
        refine q_then ?_
        refine h_seq ?_
        refine ha_start [.blk g5 c.cells 25] [] mixed (same) ?_
        refine ha_one 0 ?_
        refine ho_C 0 rfl ((alive22_s h2).comes) rfl rfl rfl (fun xx => same) fun ⟨h3, hle3⟩ => ?_
        refine ha_takeP 1 rfl (r_move rfl) ?_
        refine ha_takeP 2 rfl (r_move rfl) ?_
        refine ha_take 3 rfl (r_loadr rfl) ?_
        refine ha_takeP 5 rfl (r_move rfl) ?_
        refine ha_take 6 rfl (r_loadr rfl) ?_
        refine ha_one 4 ?_
        refine ho_C 4 rfl ((xTrue_s n h3 (ofM l) hal q1 (ht := ⟨ht1.ok.mono (hz2.trans hle3)⟩) c kb vb (hK := hK.mono (hz02.trans hle3)) (hV := hV.mono (hz02.trans hle3)) (fun e he => by have := (ValsZ.few hvl hz02 e he).2; omega)).comes) rfl rfl rfl (fun xx => same) fun _ => ?_
        refine ha_one 7 ?_
        refine ho_C 7 rfl ((rTrue22_s h3 (ofM l) A1 c1 (hB := hr2.mono hle3) (ValsZ.few hvl (hz02.trans hle3)) (by omega) c kb vb (hK := hK.mono (hz02.trans hle3)) (hV := hV.mono (hz02.trans hle3))).comes) rfl rfl rfl (fun xx => same) fun _ => ?_
        refine ha_takeP 8 rfl (r_bool (r_eqb rfl rfl) (show _ = true by simp)) ?_
        refine ha_takeP 9 rfl (r_pick rfl rfl) ?_
        refine ha_takeP 10 rfl (r_assign rfl) ?_
        refine ha_done (by kernel_rfl) ?_
        refine q_then ?_
        refine h_ret ?_
        exact h_ret1 rfl rfl fun w s => ⟨⟨h3, hz02.trans hle3⟩, rfl, (same (L' := [.zone true h3]) w s).res (List.Sublist.refl _) (by simp [Fa.wr])⟩
      · rw [if_neg hs] at hS
        refine h_op (r_move rfl) ?_
        refine h_op (r_extract rfl rfl) ?_
        refine h_op (r_extract rfl rfl) ?_
        refine h_op (r_extract rfl rfl) ?_
        refine h_op (r_assign rfl) ?_
        refine h_op (r_assign rfl) ?_
        refine h_op (r_assign rfl) ?_
        refine h_nil ?_
        refine q_then ?_
        refine h_seq ?_
        refine h_seq ?_
        refine h_reg ?_
        refine h_op (r_move rfl) ?_
        refine h_op (r_not rfl) ?_
        refine h_op (r_move rfl) ?_
        refine h_op (r_loadr rfl) ?_
        refine h_call (hS.comes) rfl rfl rfl fun _ => ?_
        refine h_op (r_bool (r_eql rfl rfl) rfl) ?_
        refine h_op (r_pick rfl rfl) ?_
        refine h_nil ?_
        refine q_then ?_
        refine h_condT rfl ?_
        refine h_seq ?_
        refine h_reg ?_
        refine h_call ((alive22_s h2).comes) rfl rfl rfl fun ⟨h3, hle3⟩ => ?_
        dsimp only
        refine h_op (r_assign rfl) ?_
        refine h_nil ?_
        refine q_then ?_
        refine h_ret ?_
        refine q_thenR ?_
        exact h_ret1 rfl rfl fun w s => ⟨⟨h3, hz02.trans hle3⟩, rfl, (same (L' := [.zone true h3]) w s).res (List.Sublist.refl _) (by simp [Fa.wr])⟩
    · refine h_seq ?_
      refine h_reg ?_
      refine h_opX (x_box rfl) fun g5 => ?_
      refine h_op (r_assign rfl) ?_
      refine h_nil ?_
      refine q_then ?_
      refine h_seq ?_
      refine h_reg ?_
      refine h_op (r_move rfl) ?_
      refine h_op (r_move rfl) ?_
      refine h_call ((Tree_few n hn l B c' (by simpa using hf)).comes) rfl rfl rfl fun _ => ?_
      refine h_op (r_move rfl) ?_
      refine h_op (r_extract rfl rfl) ?_
      refine h_op (r_extract rfl rfl) ?_
      refine h_op (r_extract rfl rfl) ?_
      refine h_op (r_assign rfl) ?_
      refine h_op (r_assign rfl) ?_
      refine h_op (r_assign rfl) ?_
      refine h_nil ?_
      refine q_then ?_
      refine h_seq ?_
      refine h_seq ?_
      refine h_reg ?_
      refine h_op (r_move rfl) ?_
      refine h_op (r_not rfl) ?_
      refine h_op (r_move rfl) ?_
      refine h_opOff ?_
      refine h_opOff ?_
      refine h_opOff ?_
      refine h_op (r_pick rfl rfl) ?_
      refine h_nil ?_
      refine q_then ?_
      refine h_condT rfl ?_
      refine h_seq ?_
      refine h_reg ?_
      refine h_call ((alive22_s h).comes) rfl rfl rfl fun ⟨h1, hle1⟩ => ?_
      dsimp only
      refine h_op (r_assign rfl) ?_
      refine h_nil ?_
      refine q_then ?_
      refine h_ret ?_
      refine q_thenR ?_
      exact h_ret1 rfl rfl fun w s => ⟨⟨h1, hle1⟩, rfl, (same (L' := [.zone true h1]) w s).res (List.Sublist.refl _) (by simp [Fa.wr])⟩
  · refine h_seq ?_
    refine h_reg ?_
    refine h_opX (x_box rfl) fun g5 => ?_
    refine h_op (r_assign rfl) ?_
    refine h_nil ?_
    refine q_then ?_
    refine h_seq ?_
    refine h_reg ?_
    refine h_op (r_move rfl) ?_
    refine h_op (r_move rfl) ?_
    refine h_call ((Tree_bits i hi l B c').comes) rfl rfl rfl fun _ => ?_
    refine h_op (r_move rfl) ?_
    refine h_op (r_extract rfl rfl) ?_
    refine h_op (r_extract rfl rfl) ?_
    refine h_op (r_extract rfl rfl) ?_
    refine h_op (r_assign rfl) ?_
    refine h_op (r_assign rfl) ?_
    refine h_op (r_assign rfl) ?_
    refine h_nil ?_
    refine q_then ?_
    refine h_seq ?_
    refine h_seq ?_
    refine h_reg ?_
    refine h_op (r_move rfl) ?_
    refine h_op (r_not rfl) ?_
    refine h_op (r_move rfl) ?_
    refine h_opOff ?_
    refine h_opOff ?_
    refine h_opOff ?_
    refine h_op (r_pick rfl rfl) ?_
    refine h_nil ?_
    refine q_then ?_
    refine h_condT rfl ?_
    refine h_seq ?_
    refine h_reg ?_
    refine h_call ((alive22_s h).comes) rfl rfl rfl fun ⟨h1, hle1⟩ => ?_
    dsimp only
    refine h_op (r_assign rfl) ?_
    refine h_nil ?_
    refine q_then ?_
    refine h_ret ?_
    refine q_thenR ?_
    exact h_ret1 rfl rfl fun w s => ⟨⟨h1, hle1⟩, rfl, (same (L' := [.zone true h1]) w s).res (List.Sublist.refl _) (by simp [Fa.wr])⟩
end
end Go.Proofs.YtjhocljhhpkiiaaGreatDoor
/- TF -/
namespace Go.Proofs.YtjhocljhhpkiiaaGreatDoor
set_option linter.unusedSimpArgs false
set_option linter.unusedVariables false
open Go.RowKit Go.ChangeShapes Go.WideShapes
theorem sf_maps : mapsRowed Tryz.prog = true := by kernel_rfl
theorem sf_enter : Tryz.prog.mayEnter = true := by kernel_rfl
theorem sf_keys : Tryz.prog.plainKeys = true := by kernel_rfl
theorem sf_heard : Tryz.prog.stopsHeard = true := by kernel_rfl
theorem sf_lifts : Tryz.prog.liftsFinal = false := by kernel_rfl
theorem sf_looks : Tryz.prog.looks [] = true := by kernel_rfl
theorem beqT {a b c : Bool} (ha : a = c) (hb : b = c) : (a == b) = true := by rw [ha, hb]; exact beq_self_eq_true c
theorem andT {a b : Bool} (ha : a = true) (hb : b = true) : (a && b) = true := by rw [ha, hb]; rfl
end Go.Proofs.YtjhocljhhpkiiaaGreatDoor
/- U150 -/
namespace Go.Proofs.YtjhocljhhpkiiaaGreatDoor
set_option linter.unusedSimpArgs false
set_option linter.unusedVariables false
open Go.RowKit
section
variable (h : Zh) [hT : RdZ h (some ⟨1, 0, none⟩) hashT]
theorem ExtractWays_s (i : Int) (l : List En) (B : Option Addr) (c' : Nat) [hB : RdZ h B (ents l)] (hv : SlsZ h l) (key : B32) : Spec Tryz.prog 4 [.int .i64 i, .slice B l.length c', .agg key.cells.toArray].toArray [] [.zone true h] (fun _ : {x : Zh // LeZ h x} => .bool true) (fun x => [.zone true x.1]) := by
  refine spec_of Tryz.func4 rfl (n := 67) rfl rfl ?_
  intro W
  by_cases hi : 0 ≤ i ∧ i ≤ 256
  · obtain ⟨n, rfl⟩ : ∃ n : Nat, i = (n : Int) := ⟨i.toNat, by omega⟩
    have hn : n ≤ 256 := by omega
    by_cases hf : fewM l = true
    · have hvl := hv.few hf
      have hal : Alike (ofM l) 0 := Alike.start (ofM_nodup l)
      have hlm : (ofM l).length ≤ 12 := Nat.le_trans (ofM_len l) (by unfold fewM at hf; rw [Bool.and_eq_true, decide_eq_true_eq] at hf; exact hf.1)
      obtain ⟨D, hw⟩ := wayM (key := key) hal
      have hD := hw.way.le
      refine h_seq ?_
      refine h_reg ?_
      refine h_opX (x_box rfl) fun g5 => ?_
      refine h_op (r_assign rfl) ?_
      refine h_nil ?_
      refine q_then ?_
      refine h_seq ?_
      refine h_reg ?_
      refine h_op (r_move rfl) ?_
      refine h_op (r_move rfl) ?_
      refine h_call ((Tree_yes n hn l B c' hf h hvl).comes) rfl rfl rfl fun ⟨⟨h1, q1, A1, c1⟩, hle1, ht1⟩ => ?_
      dsimp only at hle1 ht1 ⊢
      refine h_freezeO (.slice A1 (ofM l).length c1) fun h2 B2 c2 e2 hle2 hlen2 hnil2 hz2 hr2 => ?_
      injection e2 with e2 _ e3
      subst e2 e3
      have hz02 := hle1.trans hz2
      have hT2 : RdZ h2 (some ⟨1, 0, none⟩) hashT := hT.mono hz02
      have ht2 : TrZ n h2 (mkT (ofM l) 0) q1 := ⟨ht1.ok.mono hz2⟩
      refine h_op (r_move rfl) ?_
      refine h_op (r_extract rfl rfl) ?_
      refine h_op (r_extract rfl rfl) ?_
      refine h_op (r_extract rfl rfl) ?_
      refine h_op (r_assign rfl) ?_
      refine h_op (r_assign rfl) ?_
      refine h_op (r_assign rfl) ?_
      refine h_nil ?_
      refine q_then ?_
      refine h_seq ?_
      refine h_reg ?_
      refine h_op (r_move rfl) ?_
      refine h_call ((Hash_s n hn).comes) rfl rfl rfl fun ⟨gh, gc⟩ => ?_
      dsimp only
      refine h_op (r_assign rfl) ?_
      refine h_nil ?_
      refine q_then ?_
      refine h_seq ?_
      refine h_seq ?_
      refine h_reg ?_
      refine h_op (r_move rfl) ?_
      refine h_op (r_not rfl) ?_
      refine h_nil ?_
      refine q_then ?_
      refine h_condF rfl ?_
      refine h_skip ?_
      refine q_then ?_
      refine h_seq ?_
      refine ha_start [.blk g5 key.cells 35] [] mixed (same) ?_
      refine ha_takeP 0 rfl (r_move rfl) ?_
      refine ha_takeP 1 rfl (r_move rfl) ?_
      refine ha_take 2 rfl (r_loadr rfl) ?_
      refine ha_takeP 4 rfl (r_move rfl) ?_
      refine ha_takeP 5 rfl (r_move rfl) ?_
      refine ha_take 6 rfl (r_loadr rfl) ?_
      refine ha_one 3 ?_
      refine ho_C 3 rfl ((xWay_s n hn h2 gh gc 0 (by decide) (mkT (ofM l) 0) q1 key D hw.way).comes) rfl rfl rfl (fun xx => same) fun ⟨⟨h3, X, cx, xs, k3⟩, hz3, hsx, hk3⟩ => ?_
      refine ha_one 7 ?_
      refine ho_C 7 rfl ((rWay22_s n hn h3 (ofM l) A1 c1 (hB := hr2.mono hz3) (ValsZ.few hvl (hz02.trans hz3)) hal (by omega) key D hw).comes) rfl rfl rfl (fun xx => same) fun ⟨⟨h4, Y, cy, ys⟩, hz4, hsy⟩ => ?_
      refine ha_takeP 8 rfl (r_assign rfl) ?_
      refine ha_takeP 9 rfl (r_assign rfl) ?_
      refine ha_done (by kernel_rfl) ?_
      refine q_then ?_
      dsimp only at hz3 hsx hk3 hz4 hsy ⊢
      refine h_freezeO (.slice X (D + 1) cx) fun h5 B5 c5 e5 hle5 hlen5 hnil5 hz5 hr5 => ?_
      injection e5 with e5 _ e5'
      subst e5 e5'
      refine h_freezeO (.slice Y (D + 1) cy) fun h6 B6 c6 e6 hle6 hlen6 hnil6 hz6 hr6 => ?_
      injection e6 with e6 _ e6'
      subst e6 e6'
      have hz36 := (hz4.trans hz5).trans hz6
      have hz26 := hz3.trans hz36
      have hT6 : RdZ h6 (some ⟨1, 0, none⟩) hashT := hT2.mono hz26
      have hsx6 := hsx.mono hz36
      have hsy6 := hsy.mono (hz5.trans hz6)
      have hrX : RdZ h6 X (svs xs) := hr5.mono hz6
      have hrY : RdZ h6 Y (svs ys) := hr6
      have hxl := hsx.len
      have hyl := hsy.len
      rw [wayPre_len] at hxl hyl
      have hr16 : RdZ h6 A1 (ents (ofM l)) := hr2.mono hz26
      have hwpl : ∀ i, ((wayPre n key (mkT (ofM l) 0) (D + 1)).getD i []).length ≤ 65 := fun i => by
        unfold wayPre
        rw [List.getD_eq_getElem?_getD, List.getElem?_map]
        rcases Nat.lt_or_ge i (D + 1) with hi | hi
        · rw [List.getElem?_range hi]
          exact preT_len n _
        · rw [List.getElem?_eq_none (by simpa using hi)]
          exact Nat.zero_le _
      obtain ⟨bX, oX, rfl, -⟩ := hrX.at_ 0 _ (List.getElem?_eq_getElem (by rw [svs_length]; omega))
      obtain ⟨bY, oY, rfl, -⟩ := hrY.at_ 0 _ (List.getElem?_eq_getElem (by rw [svs_length]; omega))
      have hws0 : (wayPre n key (mkT (ofM l) 0) (D + 1)).getD 0 [] = preT n (mkT (ofM l) 0) := by
        unfold wayPre
        rw [List.getD_eq_getElem?_getD, List.getElem?_map, List.getElem?_range (by omega)]
        rfl
      generalize wayPre n key (mkT (ofM l) 0) (D + 1) = ws at *
      refine h_seq ?_
      refine h_seq ?_
      refine h_reg ?_
      refine h_op (r_move rfl) ?_
      refine h_op (r_len rfl) ?_
      refine h_op (r_move rfl) ?_
      refine h_op (r_len rfl) ?_
      refine h_op (r_bool (r_neq rfl rfl) (show _ = false by simp)) ?_
      refine h_nil ?_
      refine q_then ?_
      refine h_condF rfl ?_
      refine h_skip ?_
      refine q_then ?_
      refine h_seq ?_
      refine h_seq ?_
      refine h_reg ?_
      refine h_op (r_move rfl) ?_
      refine h_op (r_len rfl) ?_
      refine h_op (r_move rfl) ?_
      refine h_nil ?_
      refine q_then ?_
      refine h_block ?_
      refine h_loop (fun (i : Nat) => i ≤ D + 1) (fun (i : Nat) => [(41, .int .i64 (i : Int)), (40, .int .i64 ((D + 1 : Nat) : Int)), (11, .slice (some ⟨bX, oX, none⟩) (D + 1) cx), (12, .slice (some ⟨bY, oY, none⟩) (D + 1) cy), (10, .pointer (some ⟨gh, 0, none⟩)), (7, .slice A1 (ofM l).length c1), (0, .int .i64 (n : Int))]) (fun (i : Nat) => [.zone true h6, .blk gh [.pointer (some ⟨gc, 0, none⟩), .int .i64 (n : Int)] 142, CN gc k3]) (fun (i : Nat) => D + 1 - i) 0 ((show 0 ≤ _ from Nat.zero_le _)) ⟨rfl, rfl, rfl, rfl, rfl, rfl, rfl, trivial⟩ (same) ?_
      rintro i hi
      refine h_seq ?_
      refine h_reg ?_
      refine h_op (r_lss rfl rfl) ?_
      refine h_nil ?_
      refine q_then ?_
      refine h_seq ?_
      refine h_cond rfl (fun hlt => ?_) (fun hlt => ?_)
      · have hi2 : i < D + 1 := by omega
        obtain ⟨⟨ga, ha⟩, hxr, hxb⟩ := hsx6.get (k := i) (by omega)
        obtain ⟨⟨gb, hb⟩, hyr, hyb⟩ := hsy6.get (k := i) (by omega)
        have hax := svs_at' (xs := xs) (k := i) (by omega)
        have hay := svs_at' (xs := ys) (k := i) (by omega)
        have hwpl := hwpl i
        rw [← hxb] at hwpl
        have heq := hxb.trans hyb.symm
        generalize xs.getD i zSeg = sx at *
        generalize ys.getD i zSeg = sy at *
        have hS := rSame_s sx.2.2 sy.2.2 sx.1 sy.1 sx.2.1 sy.2.1 (by omega)
        rw [decide_eq_true heq] at hS
        refine h_skip ?_
        refine q_then ?_
        refine h_seq ?_
        refine h_block ?_
        refine h_seq ?_
        refine h_reg ?_
        refine h_op (r_move rfl) ?_
        refine h_op (r_assign rfl) ?_
        refine h_nil ?_
        refine q_then ?_
        refine h_seq ?_
        refine ha_start [.zone true h6] [] mixed (same) ?_
        refine ha_takeP 0 rfl (r_move rfl) ?_
        refine ha_takeP 1 rfl (r_move rfl) ?_
        refine ha_takeP 2 rfl (r_idx rfl rfl) ?_
        refine ha_take 3 rfl (r_nth rfl hax) ?_
        refine ha_takeP 4 rfl (r_move rfl) ?_
        refine ha_takeP 5 rfl (r_move rfl) ?_
        refine ha_takeP 6 rfl (r_idx rfl rfl) ?_
        refine ha_take 7 rfl (r_nth rfl hay) ?_
        refine ha_one 8 ?_
        refine ho_C 8 rfl (hS.comes) rfl rfl rfl (fun xx => same) fun _ => ?_
        refine ha_takeP 9 rfl (r_not rfl) ?_
        refine ha_done (by kernel_rfl) ?_
        refine q_then ?_
        refine h_condF rfl ?_
        refine h_skip ?_
        refine q_block ?_
        refine q_then ?_
        refine h_reg ?_
        refine h_op (r_add rfl rfl) ?_
        refine h_op (r_move rfl) ?_
        refine h_nil ?_
        exact h_back (i + 1) ((show i + 1 ≤ D + 1 from hi2)) ((show D + 1 - (i + 1) < D + 1 - i by omega)) ⟨rfl, rfl, rfl, rfl, rfl, rfl, rfl, trivial⟩ (same)
      · obtain ⟨⟨ga, ha⟩, hxr, hxb⟩ := hsx6.get (k := 0) (by omega)
        have hax := svs_at' (xs := xs) (k := 0) (by omega)
        have hwpl := hwpl 0
        rw [← hxb] at hwpl
        rw [hws0] at hxb
        have hroot := Root_any n hn
        generalize xs.getD 0 zSeg = sx at *
        have hsum : sumB n sx.2.2 = rootM n (ofM l) 0 := by rw [hxb, ← preT_dg]; rfl
        refine h_exit ?_
        refine q_thenE ?_
        refine q_thenE ?_
        refine q_blockE ?_
        refine q_then ?_
        refine h_seq ?_
        refine h_reg ?_
        refine h_call ((alive22_s h6).comes) rfl rfl rfl fun ⟨h7, hz7⟩ => ?_
        dsimp only
        have hT7 : RdZ h7 (some ⟨1, 0, none⟩) hashT := hT6.mono hz7
        have hr17 : RdZ h7 A1 (ents (ofM l)) := hr16.mono hz7
        have hrX7 : RdZ h7 (some ⟨bX, oX, none⟩) (svs xs) := hrX.mono hz7
        have hxr7 : RdZ h7 sx.1 (bc sx.2.2) := hxr.mono hz7
        have hSm := HSum_s n hn gh gc k3 (by omega) sx.2.2 sx.1 sx.2.1 (fun h0 => by rw [ha] at h0; cases h0) (by omega)
        rw [hsum] at hSm
        refine h_op (r_move rfl) ?_
        refine h_op (r_move rfl) ?_
        refine h_op (r_move rfl) ?_
        refine h_op (r_idx rfl rfl) ?_
        refine h_op (r_nth rfl hax) ?_
        refine h_call (hSm.comes) rfl rfl rfl fun _ => ?_
        refine h_op (r_move rfl) ?_
        refine h_op (r_move rfl) ?_
        refine h_call ((Root_any n hn h7 (show 0 ≤ 256 by omega) hal (by omega) (ValsZ.few hvl ((hz02.trans hz26).trans hz7)) A1 c1).comes) rfl rfl rfl fun _ => ?_
        refine h_op (r_bool (r_eqr rfl rfl) (show _ = true by simp)) ?_
        refine h_op (r_pick rfl rfl) ?_
        refine h_op (r_assign rfl) ?_
        refine h_nil ?_
        refine q_then ?_
        refine h_ret ?_
        exact h_ret1 rfl rfl fun w s => ⟨⟨h7, (hz02.trans hz26).trans hz7⟩, rfl, (same (L' := [.zone true h7]) w s).res (List.Sublist.refl _) (by simp [Fa.wr])⟩
    · refine h_seq ?_
      refine h_reg ?_
      refine h_opX (x_box rfl) fun g5 => ?_
      refine h_op (r_assign rfl) ?_
      refine h_nil ?_
      refine q_then ?_
      refine h_seq ?_
      refine h_reg ?_
      refine h_op (r_move rfl) ?_
      refine h_op (r_move rfl) ?_
      refine h_call ((Tree_few n hn l B c' (by simpa using hf)).comes) rfl rfl rfl fun _ => ?_
      refine h_op (r_move rfl) ?_
      refine h_op (r_extract rfl rfl) ?_
      refine h_op (r_extract rfl rfl) ?_
      refine h_op (r_extract rfl rfl) ?_
      refine h_op (r_assign rfl) ?_
      refine h_op (r_assign rfl) ?_
      refine h_op (r_assign rfl) ?_
      refine h_nil ?_
      refine q_then ?_
      refine h_seq ?_
      refine h_reg ?_
      refine h_op (r_move rfl) ?_
      refine h_call ((Hash_s n hn).comes) rfl rfl rfl fun ⟨gh, gc⟩ => ?_
      dsimp only
      refine h_op (r_assign rfl) ?_
      refine h_nil ?_
      refine q_then ?_
      refine h_seq ?_
      refine h_seq ?_
      refine h_reg ?_
      refine h_op (r_move rfl) ?_
      refine h_op (r_not rfl) ?_
      refine h_nil ?_
      refine q_then ?_
      refine h_condT rfl ?_
      refine h_seq ?_
      refine h_reg ?_
      refine h_call ((alive22_s h).comes) rfl rfl rfl fun ⟨h1, hle1⟩ => ?_
      dsimp only
      refine h_op (r_assign rfl) ?_
      refine h_nil ?_
      refine q_then ?_
      refine h_ret ?_
      refine q_thenR ?_
      exact h_ret1 rfl rfl fun w s => ⟨⟨h1, hle1⟩, rfl, (same (L' := [.zone true h1]) w s).res (List.Sublist.refl _) (by simp [Fa.wr])⟩
  · refine h_seq ?_
    refine h_reg ?_
    refine h_opX (x_box rfl) fun g5 => ?_
    refine h_op (r_assign rfl) ?_
    refine h_nil ?_
    refine q_then ?_
    refine h_seq ?_
    refine h_reg ?_
    refine h_op (r_move rfl) ?_
    refine h_op (r_move rfl) ?_
    refine h_call ((Tree_bits i hi l B c').comes) rfl rfl rfl fun _ => ?_
    refine h_op (r_move rfl) ?_
    refine h_op (r_extract rfl rfl) ?_
    refine h_op (r_extract rfl rfl) ?_
    refine h_op (r_extract rfl rfl) ?_
    refine h_op (r_assign rfl) ?_
    refine h_op (r_assign rfl) ?_
    refine h_op (r_assign rfl) ?_
    refine h_nil ?_
    refine q_then ?_
    refine h_seq ?_
    refine h_reg ?_
    refine h_op (r_move rfl) ?_
    refine h_call ((Hash_no i hi).comes) rfl rfl rfl fun _ => ?_
    refine h_op (r_assign rfl) ?_
    refine h_nil ?_
    refine q_then ?_
    refine h_seq ?_
    refine h_seq ?_
    refine h_reg ?_
    refine h_op (r_move rfl) ?_
    refine h_op (r_not rfl) ?_
    refine h_nil ?_
    refine q_then ?_
    refine h_condT rfl ?_
    refine h_seq ?_
    refine h_reg ?_
    refine h_call ((alive22_s h).comes) rfl rfl rfl fun ⟨h1, hle1⟩ => ?_
    dsimp only
    refine h_op (r_assign rfl) ?_
    refine h_nil ?_
    refine q_then ?_
    refine h_ret ?_
    refine q_thenR ?_
    exact h_ret1 rfl rfl fun w s => ⟨⟨h1, hle1⟩, rfl, (same (L' := [.zone true h1]) w s).res (List.Sublist.refl _) (by simp [Fa.wr])⟩
end
end Go.Proofs.YtjhocljhhpkiiaaGreatDoor
/- U151 -/
namespace Go.Proofs.YtjhocljhhpkiiaaGreatDoor
set_option linter.unusedSimpArgs false
set_option linter.unusedVariables false
open Go.RowKit
section
variable (h : Zh) [hT : RdZ h (some ⟨1, 0, none⟩) hashT]
theorem ExtractCollides_s (i : Int) (s1 s2 : Sl) (x y : List UInt8) [hX : SlZ h s1 x] [hY : SlZ h s2 y] : Spec Tryz.prog 5 [.int .i64 i, .slice s1.A s1.n s1.c, .slice s2.A s2.n s2.c].toArray [] [.zone true h] (fun _ : {x : Zh // LeZ h x} => .bool true) (fun x => [.zone true x.1]) := by
  have hx1 := hX.len
  have hy1 := hY.len
  have hXr : RdZ h s1.A (bc x) := hX.rd
  have hYr : RdZ h s2.A (bc y) := hY.rd
  have hXn := hX.nil
  have hYn := hY.nil
  obtain ⟨X, nx, cx⟩ := s1
  obtain ⟨Y, ny, cy⟩ := s2
  dsimp only at hx1 hy1 hXr hYr hXn hYn ⊢
  subst hx1 hy1
  refine spec_of Tryz.func5 rfl (n := 49) rfl rfl ?_
  intro W
  by_cases hi : 0 ≤ i ∧ i ≤ 256
  · obtain ⟨n, rfl⟩ : ∃ n : Nat, i = (n : Int) := ⟨i.toNat, by omega⟩
    have hn : n ≤ 256 := by omega
    refine h_seq ?_
    refine h_reg ?_
    refine h_op (r_assign rfl) ?_
    refine h_nil ?_
    refine q_then ?_
    refine h_seq ?_
    refine h_seq ?_
    refine h_reg ?_
    refine h_op (r_move rfl) ?_
    refine h_call ((Right_yes n hn).comes) rfl rfl rfl fun _ => ?_
    by_cases hxl : x.length ≤ 1000
    · by_cases hyl : y.length ≤ 1000
      · refine h_op (r_not rfl) ?_
        refine h_op (r_move rfl) ?_
        refine h_op (r_move rfl) ?_
        refine h_op (r_len rfl) ?_
        refine h_op (r_bool (r_gtr rfl rfl) (decide_eq_false (show ¬ (1000 : Int) < (x.length : Int) by omega))) ?_
        refine h_op (r_pick rfl rfl) ?_
        refine h_op (r_move rfl) ?_
        refine h_op (r_move rfl) ?_
        refine h_op (r_len rfl) ?_
        refine h_op (r_bool (r_gtr rfl rfl) (decide_eq_false (show ¬ (1000 : Int) < (y.length : Int) by omega))) ?_
        refine h_op (r_pick rfl rfl) ?_
        refine h_nil ?_
        refine q_then ?_
        refine h_condF rfl ?_
        refine h_skip ?_
        refine q_then ?_
        refine h_seq ?_
        refine h_reg ?_
        refine h_op (r_move rfl) ?_
        refine h_call ((Hash_s n hn).comes) rfl rfl rfl fun ⟨gh, gc⟩ => ?_
        dsimp only
        refine h_op (r_assign rfl) ?_
        refine h_nil ?_
        refine q_then ?_
        refine h_seq ?_
        refine h_seq ?_
        refine h_reg ?_
        refine h_op (r_move rfl) ?_
        refine h_op (r_nilR rfl rfl) ?_
        refine h_nil ?_
        refine q_then ?_
        refine h_condF rfl ?_
        refine h_skip ?_
        refine q_then ?_
        refine h_seq ?_
        refine h_reg ?_
        refine h_op (r_move rfl) ?_
        refine h_op (r_move rfl) ?_
        refine h_call ((rSame_s x y X Y cx cy (by omega)).comes) rfl rfl rfl fun _ => ?_
        have hC := fun (z : Zh) (hz : LeZ h z) => xCollide_s n hn z (hT := hT.mono hz) gh gc 0 (by decide) x y X Y cx cy (fun e => by have := hXn e; omega) (fun e => by have := hYn e; omega) (by omega) (by omega)
        by_cases he : x = y
        · rw [decide_eq_true he] at hC
          rw [decide_eq_true he]
          refine h_op (r_not rfl) ?_
          refine h_op (r_move rfl) ?_
          refine h_opOff ?_
          refine h_opOff ?_
          refine h_opOff ?_
          refine h_opOff ?_
          refine h_opOff ?_
          refine h_opOff ?_
          refine h_opOff ?_
          refine h_op (r_pick rfl rfl) ?_
          refine h_op (r_assign rfl) ?_
          refine h_nil ?_
          refine q_then ?_
          refine h_seq ?_
          refine h_reg ?_
          refine h_call ((alive22_s h).comes) rfl rfl rfl fun ⟨h1, hle1⟩ => ?_
          dsimp only
          have hXr1 : RdZ h1 X (bc x) := hXr.mono hle1
          have hYr1 : RdZ h1 Y (bc y) := hYr.mono hle1
          refine h_op (r_move rfl) ?_
          refine h_op (r_move rfl) ?_
          refine h_op (r_move rfl) ?_
          refine h_op (r_move rfl) ?_
          refine h_call ((hC h1 hle1).comes) rfl rfl rfl fun ⟨k1, hk1⟩ => ?_
          dsimp only
          refine h_op (r_move rfl) ?_
          refine h_op (r_bool (r_eqb rfl rfl) (show _ = true from rfl)) ?_
          refine h_op (r_pick rfl rfl) ?_
          refine h_op (r_assign rfl) ?_
          refine h_nil ?_
          refine q_then ?_
          refine h_ret ?_
          exact h_ret1 rfl rfl fun w s => ⟨⟨h1, hle1⟩, rfl, (same (L' := [.zone true h1]) w s).res (List.Sublist.refl _) (by simp [Fa.wr])⟩
        · rw [decide_eq_false he] at hC
          rw [decide_eq_false he]
          refine h_op (r_not rfl) ?_
          refine h_op (r_move rfl) ?_
          refine h_op (r_move rfl) ?_
          refine h_op (r_move rfl) ?_
          refine h_call ((refSum5_s n hn x X cx (fun e => by have := hXn e; omega) (by omega)).comes) rfl rfl rfl fun _ => ?_
          refine h_op (r_move rfl) ?_
          refine h_op (r_move rfl) ?_
          refine h_call ((refSum5_s n hn y Y cy (fun e => by have := hYn e; omega) (by omega)).comes) rfl rfl rfl fun _ => ?_
          refine h_op (r_bool (r_eqr rfl rfl) rfl) ?_
          refine h_op (r_pick rfl rfl) ?_
          refine h_op (r_assign rfl) ?_
          refine h_nil ?_
          refine q_then ?_
          refine h_seq ?_
          refine h_reg ?_
          refine h_call ((alive22_s h).comes) rfl rfl rfl fun ⟨h1, hle1⟩ => ?_
          dsimp only
          have hXr1 : RdZ h1 X (bc x) := hXr.mono hle1
          have hYr1 : RdZ h1 Y (bc y) := hYr.mono hle1
          refine h_op (r_move rfl) ?_
          refine h_op (r_move rfl) ?_
          refine h_op (r_move rfl) ?_
          refine h_op (r_move rfl) ?_
          refine h_call ((hC h1 hle1).comes) rfl rfl rfl fun ⟨k1, hk1⟩ => ?_
          dsimp only
          refine h_op (r_move rfl) ?_
          refine h_op (r_bool (r_eqb rfl rfl) (show _ = true by simp)) ?_
          refine h_op (r_pick rfl rfl) ?_
          refine h_op (r_assign rfl) ?_
          refine h_nil ?_
          refine q_then ?_
          refine h_ret ?_
          exact h_ret1 rfl rfl fun w s => ⟨⟨h1, hle1⟩, rfl, (same (L' := [.zone true h1]) w s).res (List.Sublist.refl _) (by simp [Fa.wr])⟩
      · refine h_op (r_not rfl) ?_
        refine h_op (r_move rfl) ?_
        refine h_op (r_move rfl) ?_
        refine h_op (r_len rfl) ?_
        refine h_op (r_bool (r_gtr rfl rfl) (decide_eq_false (show ¬ (1000 : Int) < (x.length : Int) by omega))) ?_
        refine h_op (r_pick rfl rfl) ?_
        refine h_op (r_move rfl) ?_
        refine h_op (r_move rfl) ?_
        refine h_op (r_len rfl) ?_
        refine h_op (r_bool (r_gtr rfl rfl) (decide_eq_true (show (1000 : Int) < (y.length : Int) by omega))) ?_
        refine h_op (r_pick rfl rfl) ?_
        refine h_nil ?_
        refine q_then ?_
        refine h_condT rfl ?_
        refine h_seq ?_
        refine h_reg ?_
        refine h_call ((alive22_s h).comes) rfl rfl rfl fun ⟨h1, hle1⟩ => ?_
        dsimp only
        refine h_op (r_assign rfl) ?_
        refine h_nil ?_
        refine q_then ?_
        refine h_ret ?_
        refine q_thenR ?_
        exact h_ret1 rfl rfl fun w s => ⟨⟨h1, hle1⟩, rfl, (same (L' := [.zone true h1]) w s).res (List.Sublist.refl _) (by simp [Fa.wr])⟩
    · refine h_op (r_not rfl) ?_
      refine h_op (r_move rfl) ?_
      refine h_op (r_move rfl) ?_
      refine h_op (r_len rfl) ?_
      refine h_op (r_bool (r_gtr rfl rfl) (decide_eq_true (show (1000 : Int) < (x.length : Int) by omega))) ?_
      refine h_op (r_pick rfl rfl) ?_
      refine h_op (r_move rfl) ?_
      refine h_opOff ?_
      refine h_opOff ?_
      refine h_opOff ?_
      refine h_op (r_pick rfl rfl) ?_
      refine h_nil ?_
      refine q_then ?_
      refine h_condT rfl ?_
      refine h_seq ?_
      refine h_reg ?_
      refine h_call ((alive22_s h).comes) rfl rfl rfl fun ⟨h1, hle1⟩ => ?_
      dsimp only
      refine h_op (r_assign rfl) ?_
      refine h_nil ?_
      refine q_then ?_
      refine h_ret ?_
      refine q_thenR ?_
      exact h_ret1 rfl rfl fun w s => ⟨⟨h1, hle1⟩, rfl, (same (L' := [.zone true h1]) w s).res (List.Sublist.refl _) (by simp [Fa.wr])⟩
  · refine h_seq ?_
    refine h_reg ?_
    refine h_op (r_assign rfl) ?_
    refine h_nil ?_
    refine q_then ?_
    refine h_seq ?_
    refine h_seq ?_
    refine h_reg ?_
    refine h_op (r_move rfl) ?_
    refine h_call ((Right_no i hi).comes) rfl rfl rfl fun _ => ?_
    refine h_op (r_not rfl) ?_
    refine h_op (r_move rfl) ?_
    refine h_opOff ?_
    refine h_opOff ?_
    refine h_opOff ?_
    refine h_op (r_pick rfl rfl) ?_
    refine h_op (r_move rfl) ?_
    refine h_opOff ?_
    refine h_opOff ?_
    refine h_opOff ?_
    refine h_op (r_pick rfl rfl) ?_
    refine h_nil ?_
    refine q_then ?_
    refine h_condT rfl ?_
    refine h_seq ?_
    refine h_reg ?_
    refine h_call ((alive22_s h).comes) rfl rfl rfl fun ⟨h1, hle1⟩ => ?_
    dsimp only
    refine h_op (r_assign rfl) ?_
    refine h_nil ?_
    refine q_then ?_
    refine h_ret ?_
    refine q_thenR ?_
    exact h_ret1 rfl rfl fun w s => ⟨⟨h1, hle1⟩, rfl, (same (L' := [.zone true h1]) w s).res (List.Sublist.refl _) (by simp [Fa.wr])⟩
end
end Go.Proofs.YtjhocljhhpkiiaaGreatDoor
