/- law18: VerifyRefuses is true (joined texts: U104) -/
import Derived.Test.YtgfkbeipckbkiaaGreatDoorK16
set_option linter.all false
/- U104 -/
namespace Go.Proofs.YtgfkbeipckbkiaaGreatDoor
set_option linter.unusedSimpArgs false
set_option linter.unusedVariables false
open Go.RowKit
theorem leafOf_eq (n : Nat) (k : B32) (a b : List UInt8) : decide (leafOf n k a = leafOf n k b) = decide (sumB n (preV a) = sumB n (preV b)) := by
  refine decide_eq_decide.2 ⟨fun h => congrArg Leaf.value h, fun h => ?_⟩
  unfold leafOf
  rw [h]
section
variable (h : Zh) [hT : RdZ h (some ⟨2, 0, none⟩) hashT] [hE : RdZ h (some ⟨0, 0, none⟩) [rty 76]]
theorem VerifyRefuses_s (i : Int) (l : List En) (B : Option Addr) (c' : Nat) [hB : RdZ h B (ents l)] (hv : SlsZ h l) (c : Claim) (kb vb : List UInt8) [hK : SlZ h c.key kb] [hV : SlZ h c.value vb] : Spec Tryz.prog 11 [.int .i64 i, .slice B l.length c', .agg c.cells.toArray].toArray [] [.zone true h] (fun _ : {x : Zh // LeZ h x} => .bool true) (fun x => [.zone true x.1]) := by
  have hCl := rClaim18_s c
  have hkn := hK.len
  have hvn := hV.len
  have hKr : RdZ h c.key.A (bc kb) := hK.rd
  obtain ⟨⟨kA, kn, kc⟩, ⟨vA, vn, vc⟩, pr⟩ := c
  dsimp only at hkn hvn hK hV hKr
  subst hkn hvn
  refine spec_of Tryz.func11 rfl (n := 113) rfl rfl ?_
  intro W
  by_cases hi : 0 ≤ i ∧ i ≤ 256
  · obtain ⟨n, rfl⟩ : ∃ n : Nat, i = (n : Int) := ⟨i.toNat, by omega⟩
    have hn : n ≤ 256 := by omega
    by_cases hf : fewM l = true
    · have hvl := hv.few hf
      have hal : Alike (ofM l) 0 := Alike.start (ofM_nodup l)
      obtain ⟨D, hw⟩ := wayM (key := keyOf kb) hal
      have hD := hw.way.le
      have hlm : (ofM l).length ≤ 12 := Nat.le_trans (ofM_len l) (by unfold fewM at hf; rw [Bool.and_eq_true, decide_eq_true_eq] at hf; exact hf.1)
      have hgs := fun (h' : Zh) (hv' : ValsZ h' (ofM l)) => getS_ok hv' (keyOf kb)
      have hget := fun A c => Get_s (ofM l) A c (keyOf kb) (by omega)
      have hfm := fun root hr c hc rb vb hrb => first_map n (kb := kb) rfl hw root hr c hc rb vb hrb
      have hEnc := fun A c => Encode_prf n hw A c
      have hel := encK_len n hw.way
      generalize getE' (ofM l) (keyOf kb) = g at *
      generalize encK n (keyOf kb) (mkT (ofM l) 0) D = E at *
      obtain ⟨hs, hhs⟩ : ∃ hs, g.isSome = hs := ⟨_, rfl⟩
      simp only [hhs] at hget
      obtain ⟨S, hS⟩ : ∃ S, decide (sumB n (preV (getV g)) = sumB n (preV vb)) = S := ⟨_, rfl⟩
      have hleaf := (leafOf_eq n (keyOf kb) (getV g) vb).trans hS
      refine h_seq ?_
      refine h_reg ?_
      refine h_opX (x_box rfl) fun g5 => ?_
      refine h_op (r_assign rfl) ?_
      refine h_nil ?_
      refine q_then ?_
      refine h_seq ?_
      refine h_reg ?_
      refine h_op (r_move rfl) ?_
      refine h_op (r_move rfl) ?_
      refine h_call ((Tree_yes n hn l B c' hf h hvl).comes) rfl rfl rfl fun ⟨⟨h1, q1, A1, c1⟩, hle1, ht1⟩ => ?_
      dsimp only at hle1 ht1 ⊢
      refine h_freezeO (.slice A1 (ofM l).length c1) fun h2 B2 c2 e2 hle2 hlen2 hnil2 hz2 hr2 => ?_
      injection e2 with e2 _ e3
      subst e2 e3
      have hT2 : RdZ h2 (some ⟨2, 0, none⟩) hashT := (hT.mono hle1).mono hz2
      have hE2 : RdZ h2 (some ⟨0, 0, none⟩) [rty 76] := (hE.mono hle1).mono hz2
      refine h_op (r_move rfl) ?_
      refine h_op (r_extract rfl rfl) ?_
      refine h_op (r_extract rfl rfl) ?_
      refine h_op (r_extract rfl rfl) ?_
      refine h_op (r_assign rfl) ?_
      refine h_op (r_assign rfl) ?_
      refine h_op (r_assign rfl) ?_
      refine h_nil ?_
      refine q_then ?_
      refine h_seq ?_
      refine h_reg ?_
      refine h_op (r_move rfl) ?_
      refine h_call ((Hash_s n hn).comes) rfl rfl rfl fun ⟨gh, gc⟩ => ?_
      dsimp only
      refine h_op (r_assign rfl) ?_
      refine h_nil ?_
      refine q_then ?_
      refine h_seq ?_
      refine h_seq ?_
      refine h_reg ?_
      refine h_op (r_loadr rfl) ?_
      by_cases h1' : claimE ⟨⟨kA, kb.length, kc⟩, ⟨vA, vb.length, vc⟩, pr⟩ = 0
      · refine h_call (hCl.comes) rfl rfl rfl fun _ => ?_
        by_cases hl3 : vb.length ≤ 300
        · have hk32 : kb.length = 32 := by
            unfold claimE at h1'
            split at h1'
            · assumption
            · cases h1'
          have h1 := h1'
          obtain ⟨bK, oK, rfl, -⟩ := hKr.at_ 0 _ (List.getElem?_eq_getElem (by rw [bc_length]; omega))
          have hK2 : SlZ h2 ⟨some ⟨bK, oK, none⟩, kb.length, kc⟩ kb := (hK.mono hle1).mono hz2
          have hV2 : SlZ h2 ⟨vA, vb.length, vc⟩ vb := (hV.mono hle1).mono hz2
          have hKr2 : RdZ h2 (some ⟨bK, oK, none⟩) (keyOf kb).cells := by rw [keyOf_cells hk32]; exact hK2.rd
          obtain ⟨hgv, hgl⟩ := hgs h2 (ValsZ.few hvl (hle1.trans hz2))
          have hroot := Root_any n hn h2 (show 0 ≤ 256 by omega) hal (by omega) (ValsZ.few hvl (hle1.trans hz2)) A1 c1
          rw [show rootM n (ofM l) 0 = dgT n (mkT (ofM l) 0) from rfl] at hroot
          have hgn := hgv.len
          have hgnil := hgv.nil
          have hVnil := hV2.nil
          have hlf := rLeafOf_s n hn (keyOf kb) (getV g) (getS g).A (getS g).c (fun h0 => by have := hgnil h0; omega) (by omega)
          rw [← hgn] at hlf
          have hlf2 := rLeafOf_s n hn (keyOf kb) vb vA vc (fun h0 => by have := hVnil h0; omega) (by omega)
          refine h_op (r_move rfl) ?_
          refine h_op (r_extract rfl rfl) ?_
          refine h_op (r_extract rfl rfl) ?_
          refine h_op (r_assign rfl) ?_
          refine h_op (r_assign rfl) ?_
          refine h_nil ?_
          refine q_then ?_
          refine h_seq ?_
          refine h_reg ?_
          refine h_op (r_move rfl) ?_
          refine h_op (r_not rfl) ?_
          refine h_op (r_move rfl) ?_
          refine h_op (r_move rfl) ?_
          refine h_op (r_bool (r_neq rfl rfl) (decide_eq_false (fun hh => hh h1'))) ?_
          refine h_op (r_pick rfl rfl) ?_
          refine h_op (r_move rfl) ?_
          refine h_op (r_field rfl) ?_
          refine h_op (r_loadc rfl) ?_
          refine h_op (r_len rfl) ?_
          refine h_op (r_bool (r_gtr rfl rfl) (decide_eq_false (show ¬ (300 : Int) < (vb.length : Int) by omega))) ?_
          refine h_op (r_pick rfl rfl) ?_
          refine h_nil ?_
          refine q_then ?_
          refine h_condF rfl ?_
          refine h_skip ?_
          refine q_then ?_
          refine h_seq ?_
          refine h_reg ?_
          refine h_op (r_field rfl) ?_
          refine h_op (r_loadc rfl) ?_
          refine h_op (r_arr rfl (hm := show 32 ≤ kb.length by omega)) ?_
          refine h_op (r_loadr rfl) ?_
          refine h_opX (x_alloc) fun g13 => ?_
          refine h_opS (s_storer rfl rfl) ?_
          refine h_nil ?_
          refine q_then ?_
          refine h_seq ?_
          refine h_reg ?_
          refine h_op (r_move rfl) ?_
          refine h_op (r_move rfl) ?_
          refine h_call (hroot.comes) rfl rfl rfl fun _ => ?_
          refine h_opX (x_alloc) fun g14 => ?_
          refine h_opS (s_storer rfl rfl) ?_
          refine h_nil ?_
          refine q_then ?_
          refine h_seq ?_
          refine h_reg ?_
          refine h_op (r_move rfl) ?_
          refine h_op (r_loadr rfl) ?_
          refine h_call ((hget A1 c1).comes) rfl rfl rfl fun _ => ?_
          refine h_op (r_move rfl) ?_
          refine h_op (r_extract rfl rfl) ?_
          refine h_op (r_extract rfl rfl) ?_
          refine h_op (r_assign rfl) ?_
          refine h_op (r_assign rfl) ?_
          refine h_nil ?_
          refine q_then ?_
          refine h_seq ?_
          refine h_reg ?_
          refine h_op (r_move rfl) ?_
          refine h_op (r_move rfl) ?_
          refine h_op (r_loadr rfl) ?_
          refine h_call ((Prove_s n hn gh gc 0 (by decide) h2 (mkT (ofM l) 0) q1 (keyOf kb) D hw.way).comes) rfl rfl rfl fun ⟨A65, c65⟩ => ?_
          dsimp only
          refine h_call ((hEnc A65 c65).comes (hr := inferInstanceAs (Rds _ [.rd A65 (dgs (rsK n (keyOf kb) (mkT (ofM l) 0) D))]))) rfl rfl rfl fun ⟨A66, c66⟩ => ?_
          dsimp only
          refine h_op (r_move rfl) ?_
          refine h_op (r_extract rfl rfl) ?_
          refine h_op (r_extract rfl rfl) ?_
          refine h_op (r_assign rfl) ?_
          refine h_op (r_assign rfl) ?_
          refine h_nil ?_
          refine q_then ?_
          refine h_seq ?_
          refine h_freezeO (.slice A66 E.length c66) fun z3 B3 c3 e3 hle3 hlen3 hnil3 hz3 hr3 => ?_
          injection e3 with e3 _ e3'
          subst e3 e3'
          refine h_freeze g14 (cs := (dgT n (mkT (ofM l) 0)).cells) (T := 41) fun z4 hz4 hr4 => ?_
          have hz24 := hz3.trans hz4
          have hT4 : RdZ z4 (some ⟨2, 0, none⟩) hashT := hT2.mono hz24
          have hE4 : RdZ z4 (some ⟨0, 0, none⟩) [rty 76] := hE2.mono hz24
          have sb : SlZ z4 ⟨A66, E.length, c66⟩ E := ⟨rfl, hle3, hnil3, hr3.mono hz4⟩
          have sr : SlZ z4 ⟨some ⟨g14, 0, none⟩, 32, 32⟩ (dgT n (mkT (ofM l) 0)).1 := sl32 hr4
          have hK4 : SlZ z4 ⟨some ⟨bK, oK, none⟩, kb.length, kc⟩ kb := hK2.mono hz24
          have hV4 : SlZ z4 ⟨vA, vb.length, vc⟩ vb := hV2.mono hz24
          have hres := hfm ⟨some ⟨g14, 0, none⟩, 32, 32⟩ rfl ⟨⟨some ⟨bK, oK, none⟩, kb.length, kc⟩, ⟨vA, vb.length, vc⟩, pr⟩ h1 (dgT n (mkT (ofM l) 0)).1 vb (keyOf_val _)
          rw [hhs, hS] at hres
          have hC := vCheck_s n hn z4 gh gc 0 (by decide) ⟨some ⟨g14, 0, none⟩, 32, 32⟩ ⟨⟨some ⟨bK, oK, none⟩, kb.length, kc⟩, ⟨vA, vb.length, vc⟩, pr⟩ ⟨A66, E.length, c66⟩ (dgT n (mkT (ofM l) 0)).1 kb vb E (hR := sr) (hK := hK4) (hV := hV4) (hB := sb) (by omega) (by omega)
          rw [hres] at hC
          refine ha_start [.blk g5 (Claim.cells ⟨⟨some ⟨bK, oK, none⟩, kb.length, kc⟩, ⟨vA, vb.length, vc⟩, pr⟩) 70] [] mixed (same) ?_
          refine ha_takeP 0 rfl (r_move rfl) ?_
          refine ha_takeP 1 rfl (r_slA rfl) ?_
          refine ha_take 2 rfl (r_loadr rfl) ?_
          refine ha_takeP 3 rfl (r_move rfl) ?_
          refine ha_one 4 ?_
          refine ho_C 4 rfl (hC.comes) rfl rfl rfl (fun xx => same) fun ⟨⟨z5, k5⟩, hz5, hk5⟩ => ?_
          refine ha_takeP 5 rfl (r_assign rfl) ?_
          refine ha_done (by kernel_rfl) ?_
          refine q_then ?_
          dsimp only at hz5 hk5 ⊢
          have hz25 := hz24.trans hz5
          have hT5 : RdZ z5 (some ⟨2, 0, none⟩) hashT := hT4.mono hz5
          have hE5 : RdZ z5 (some ⟨0, 0, none⟩) [rty 76] := hE4.mono hz5
          have hgv5 := hgv.mono hz25
          have hgr5 : RdZ z5 (getS g).A (bc (getV g)) := hgv5.rd
          have hVr5 : RdZ z5 vA (bc vb) := (hV4.mono hz5).rd
          refine h_seq ?_
          refine ha_start [.blk g13 (keyOf kb).cells 39, .blk g5 (Claim.cells ⟨⟨some ⟨bK, oK, none⟩, kb.length, kc⟩, ⟨vA, vb.length, vc⟩, pr⟩) 70] [] mixed (same) ?_
          refine ha_takeP 0 rfl (r_move rfl) ?_
          refine ha_take 1 rfl (r_loadr rfl) ?_
          refine ha_takeP 2 rfl (r_move rfl) ?_
          refine ha_takeP 4 rfl (r_move rfl) ?_
          refine ha_take 5 rfl (r_loadr rfl) ?_
          refine ha_takeP 6 rfl (r_field rfl) ?_
          refine ha_take 7 rfl (r_loadc rfl) ?_
          refine ha_one 3 ?_
          refine ho_C 3 rfl (hlf.comes) rfl rfl rfl (fun xx => same) fun _ => ?_
          refine ha_one 8 ?_
          refine ho_C 8 rfl (hlf2.comes) rfl rfl rfl (fun xx => same) fun _ => ?_
          refine ha_takeP 9 rfl (r_bool (r_eqr rfl rfl) hleaf) ?_
          refine ha_takeP 10 rfl (r_assign rfl) ?_
          refine ha_done (by kernel_rfl) ?_
          refine q_then ?_
          cases pr
          · cases hs
            · refine h_seq ?_
              refine h_seq ?_
              refine h_reg ?_
              refine h_op (r_field rfl) ?_
              refine h_op (r_loadc rfl) ?_
              refine h_op (r_move rfl) ?_
              refine h_op (r_bool (r_eqb rfl rfl) (show _ = true from rfl)) ?_
              refine h_op (r_move rfl) ?_
              refine h_op (r_move rfl) ?_
              refine h_op (r_not rfl) ?_
              refine h_op (r_move rfl) ?_
              refine h_opOff ?_
              refine h_op (r_pick rfl rfl) ?_
              refine h_op (r_pick rfl rfl) ?_
              refine h_nil ?_
              refine q_then ?_
              refine h_condT rfl ?_
              refine h_seq ?_
              refine h_reg ?_
              refine h_call ((alive18_s z5).comes) rfl rfl rfl fun ⟨z6, hz6⟩ => ?_
              dsimp only
              refine h_op (r_move rfl) ?_
              refine h_op (r_move rfl) ?_
              refine h_op (r_bool (r_eql rfl rfl) (show _ = true from rfl)) ?_
              refine h_op (r_pick rfl rfl) ?_
              refine h_op (r_move rfl) ?_
              refine h_op (r_move rfl) ?_
              refine h_op (r_bool (r_eql rfl rfl) (show _ = true from rfl)) ?_
              refine h_op (r_pick rfl rfl) ?_
              refine h_op (r_assign rfl) ?_
              refine h_nil ?_
              refine q_then ?_
              refine h_ret ?_
              refine q_thenR ?_
              exact h_ret1 rfl rfl fun w s => ⟨⟨z6, ((hle1.trans hz2).trans (hz3.trans hz4)).trans (LeZ.trans hz5 hz6)⟩, rfl, (same (L' := [.zone true z6]) w s).res (List.Sublist.refl _) (by simp [Fa.wr])⟩
            · refine h_seq ?_
              refine h_seq ?_
              refine h_reg ?_
              refine h_op (r_field rfl) ?_
              refine h_op (r_loadc rfl) ?_
              refine h_op (r_move rfl) ?_
              refine h_op (r_bool (r_eqb rfl rfl) (show _ = false from rfl)) ?_
              refine h_op (r_move rfl) ?_
              refine h_opOff ?_
              refine h_opOff ?_
              refine h_opOff ?_
              refine h_opOff ?_
              refine h_opOff ?_
              refine h_op (r_pick rfl rfl) ?_
              refine h_nil ?_
              refine q_then ?_
              refine h_condF rfl ?_
              refine h_skip ?_
              refine q_then ?_
              refine h_seq ?_
              refine h_reg ?_
              refine h_call ((alive18_s z5).comes) rfl rfl rfl fun ⟨z6, hz6⟩ => ?_
              dsimp only
              refine h_op (r_move rfl) ?_
              refine h_op (r_move rfl) ?_
              refine h_op (r_bool (r_eql rfl rfl) (show _ = true from rfl)) ?_
              refine h_op (r_pick rfl rfl) ?_
              refine h_op (r_move rfl) ?_
              refine h_op (r_move rfl) ?_
              refine h_op (r_bool (r_eql rfl rfl) (show _ = true from rfl)) ?_
              refine h_op (r_pick rfl rfl) ?_
              refine h_op (r_assign rfl) ?_
              refine h_nil ?_
              refine q_then ?_
              refine h_ret ?_
              exact h_ret1 rfl rfl fun w s => ⟨⟨z6, ((hle1.trans hz2).trans (hz3.trans hz4)).trans (LeZ.trans hz5 hz6)⟩, rfl, (same (L' := [.zone true z6]) w s).res (List.Sublist.refl _) (by simp [Fa.wr])⟩
          · cases hs
            · refine h_seq ?_
              refine h_seq ?_
              refine h_reg ?_
              refine h_op (r_field rfl) ?_
              refine h_op (r_loadc rfl) ?_
              refine h_op (r_move rfl) ?_
              refine h_op (r_bool (r_eqb rfl rfl) (show _ = false from rfl)) ?_
              refine h_op (r_move rfl) ?_
              refine h_opOff ?_
              refine h_opOff ?_
              refine h_opOff ?_
              refine h_opOff ?_
              refine h_opOff ?_
              refine h_op (r_pick rfl rfl) ?_
              refine h_nil ?_
              refine q_then ?_
              refine h_condF rfl ?_
              refine h_skip ?_
              refine q_then ?_
              refine h_seq ?_
              refine h_reg ?_
              refine h_call ((alive18_s z5).comes) rfl rfl rfl fun ⟨z6, hz6⟩ => ?_
              dsimp only
              refine h_op (r_move rfl) ?_
              refine h_op (r_move rfl) ?_
              refine h_op (r_bool (r_eql rfl rfl) (show _ = true from rfl)) ?_
              refine h_op (r_pick rfl rfl) ?_
              refine h_op (r_move rfl) ?_
              refine h_op (r_move rfl) ?_
              refine h_op (r_bool (r_eql rfl rfl) (show _ = true from rfl)) ?_
              refine h_op (r_pick rfl rfl) ?_
              refine h_op (r_assign rfl) ?_
              refine h_nil ?_
              refine q_then ?_
              refine h_ret ?_
              exact h_ret1 rfl rfl fun w s => ⟨⟨z6, ((hle1.trans hz2).trans (hz3.trans hz4)).trans (LeZ.trans hz5 hz6)⟩, rfl, (same (L' := [.zone true z6]) w s).res (List.Sublist.refl _) (by simp [Fa.wr])⟩
            · cases S
              · refine h_seq ?_
                refine h_seq ?_
                refine h_reg ?_
                refine h_op (r_field rfl) ?_
                refine h_op (r_loadc rfl) ?_
                refine h_op (r_move rfl) ?_
                refine h_op (r_bool (r_eqb rfl rfl) (show _ = true from rfl)) ?_
                refine h_op (r_move rfl) ?_
                refine h_op (r_move rfl) ?_
                refine h_op (r_not rfl) ?_
                refine h_op (r_move rfl) ?_
                refine h_op (r_move rfl) ?_
                refine h_op (r_pick rfl rfl) ?_
                refine h_op (r_pick rfl rfl) ?_
                refine h_nil ?_
                refine q_then ?_
                refine h_condF rfl ?_
                refine h_skip ?_
                refine q_then ?_
                refine h_seq ?_
                refine h_reg ?_
                refine h_call ((alive18_s z5).comes) rfl rfl rfl fun ⟨z6, hz6⟩ => ?_
                dsimp only
                refine h_op (r_move rfl) ?_
                refine h_op (r_move rfl) ?_
                refine h_op (r_bool (r_eql rfl rfl) (show _ = true from rfl)) ?_
                refine h_op (r_pick rfl rfl) ?_
                refine h_op (r_move rfl) ?_
                refine h_op (r_move rfl) ?_
                refine h_op (r_bool (r_eql rfl rfl) (show _ = true from rfl)) ?_
                refine h_op (r_pick rfl rfl) ?_
                refine h_op (r_assign rfl) ?_
                refine h_nil ?_
                refine q_then ?_
                refine h_ret ?_
                exact h_ret1 rfl rfl fun w s => ⟨⟨z6, ((hle1.trans hz2).trans (hz3.trans hz4)).trans (LeZ.trans hz5 hz6)⟩, rfl, (same (L' := [.zone true z6]) w s).res (List.Sublist.refl _) (by simp [Fa.wr])⟩
              · refine h_seq ?_
                refine h_seq ?_
                refine h_reg ?_
                refine h_op (r_field rfl) ?_
                refine h_op (r_loadc rfl) ?_
                refine h_op (r_move rfl) ?_
                refine h_op (r_bool (r_eqb rfl rfl) (show _ = true from rfl)) ?_
                refine h_op (r_move rfl) ?_
                refine h_op (r_move rfl) ?_
                refine h_op (r_not rfl) ?_
                refine h_op (r_move rfl) ?_
                refine h_op (r_move rfl) ?_
                refine h_op (r_pick rfl rfl) ?_
                refine h_op (r_pick rfl rfl) ?_
                refine h_nil ?_
                refine q_then ?_
                refine h_condT rfl ?_
                refine h_seq ?_
                refine h_reg ?_
                refine h_call ((alive18_s z5).comes) rfl rfl rfl fun ⟨z6, hz6⟩ => ?_
                dsimp only
                refine h_op (r_move rfl) ?_
                refine h_op (r_move rfl) ?_
                refine h_op (r_bool (r_eql rfl rfl) (show _ = true from rfl)) ?_
                refine h_op (r_pick rfl rfl) ?_
                refine h_op (r_move rfl) ?_
                refine h_op (r_move rfl) ?_
                refine h_op (r_bool (r_eql rfl rfl) (show _ = true from rfl)) ?_
                refine h_op (r_pick rfl rfl) ?_
                refine h_op (r_assign rfl) ?_
                refine h_nil ?_
                refine q_then ?_
                refine h_ret ?_
                refine q_thenR ?_
                exact h_ret1 rfl rfl fun w s => ⟨⟨z6, ((hle1.trans hz2).trans (hz3.trans hz4)).trans (LeZ.trans hz5 hz6)⟩, rfl, (same (L' := [.zone true z6]) w s).res (List.Sublist.refl _) (by simp [Fa.wr])⟩
        · refine h_op (r_move rfl) ?_
          refine h_op (r_extract rfl rfl) ?_
          refine h_op (r_extract rfl rfl) ?_
          refine h_op (r_assign rfl) ?_
          refine h_op (r_assign rfl) ?_
          refine h_nil ?_
          refine q_then ?_
          refine h_seq ?_
          refine h_reg ?_
          refine h_op (r_move rfl) ?_
          refine h_op (r_not rfl) ?_
          refine h_op (r_move rfl) ?_
          refine h_op (r_move rfl) ?_
          refine h_op (r_bool (r_neq rfl rfl) (decide_eq_false (fun hh => hh h1'))) ?_
          refine h_op (r_pick rfl rfl) ?_
          refine h_op (r_move rfl) ?_
          refine h_op (r_field rfl) ?_
          refine h_op (r_loadc rfl) ?_
          refine h_op (r_len rfl) ?_
          refine h_op (r_bool (r_gtr rfl rfl) (decide_eq_true (show (300 : Int) < (vb.length : Int) by omega))) ?_
          refine h_op (r_pick rfl rfl) ?_
          refine h_nil ?_
          refine q_then ?_
          refine h_condT rfl ?_
          refine h_seq ?_
          refine h_reg ?_
          refine h_call ((alive18_s h2).comes) rfl rfl rfl fun ⟨h3, hle3⟩ => ?_
          dsimp only
          refine h_op (r_assign rfl) ?_
          refine h_nil ?_
          refine q_then ?_
          refine h_ret ?_
          refine q_thenR ?_
          exact h_ret1 rfl rfl fun w s => ⟨⟨h3, (hle1.trans hz2).trans hle3⟩, rfl, (same (L' := [.zone true h3]) w s).res (List.Sublist.refl _) (by simp [Fa.wr])⟩
      · refine h_call (hCl.comes) rfl rfl rfl fun _ => ?_
        refine h_op (r_move rfl) ?_
        refine h_op (r_extract rfl rfl) ?_
        refine h_op (r_extract rfl rfl) ?_
        refine h_op (r_assign rfl) ?_
        refine h_op (r_assign rfl) ?_
        refine h_nil ?_
        refine q_then ?_
        refine h_seq ?_
        refine h_reg ?_
        refine h_op (r_move rfl) ?_
        refine h_op (r_not rfl) ?_
        refine h_op (r_move rfl) ?_
        refine h_op (r_move rfl) ?_
        refine h_op (r_bool (r_neq rfl rfl) (decide_eq_true h1')) ?_
        refine h_op (r_pick rfl rfl) ?_
        refine h_op (r_move rfl) ?_
        refine h_opOff ?_
        refine h_opOff ?_
        refine h_opOff ?_
        refine h_opOff ?_
        refine h_op (r_pick rfl rfl) ?_
        refine h_nil ?_
        refine q_then ?_
        refine h_condT rfl ?_
        refine h_seq ?_
        refine h_reg ?_
        refine h_call ((alive18_s h2).comes) rfl rfl rfl fun ⟨h3, hle3⟩ => ?_
        dsimp only
        refine h_op (r_assign rfl) ?_
        refine h_nil ?_
        refine q_then ?_
        refine h_ret ?_
        refine q_thenR ?_
        exact h_ret1 rfl rfl fun w s => ⟨⟨h3, (hle1.trans hz2).trans hle3⟩, rfl, (same (L' := [.zone true h3]) w s).res (List.Sublist.refl _) (by simp [Fa.wr])⟩
    · refine h_seq ?_
      refine h_reg ?_
      refine h_opX (x_box rfl) fun g5 => ?_
      refine h_op (r_assign rfl) ?_
      refine h_nil ?_
      refine q_then ?_
      refine h_seq ?_
      refine h_reg ?_
      refine h_op (r_move rfl) ?_
      refine h_op (r_move rfl) ?_
      refine h_call ((Tree_few n hn l B c' (by simpa using hf)).comes) rfl rfl rfl fun _ => ?_
      refine h_op (r_move rfl) ?_
      refine h_op (r_extract rfl rfl) ?_
      refine h_op (r_extract rfl rfl) ?_
      refine h_op (r_extract rfl rfl) ?_
      refine h_op (r_assign rfl) ?_
      refine h_op (r_assign rfl) ?_
      refine h_op (r_assign rfl) ?_
      refine h_nil ?_
      refine q_then ?_
      refine h_seq ?_
      refine h_reg ?_
      refine h_op (r_move rfl) ?_
      refine h_call ((Hash_s n hn).comes) rfl rfl rfl fun ⟨gh, gc⟩ => ?_
      dsimp only
      refine h_op (r_assign rfl) ?_
      refine h_nil ?_
      refine q_then ?_
      refine h_seq ?_
      refine h_seq ?_
      refine h_reg ?_
      refine h_op (r_loadr rfl) ?_
      refine h_call (hCl.comes) rfl rfl rfl fun _ => ?_
      refine h_op (r_move rfl) ?_
      refine h_op (r_extract rfl rfl) ?_
      refine h_op (r_extract rfl rfl) ?_
      refine h_op (r_assign rfl) ?_
      refine h_op (r_assign rfl) ?_
      refine h_nil ?_
      refine q_then ?_
      refine h_seq ?_
      refine h_reg ?_
      refine h_op (r_move rfl) ?_
      refine h_op (r_not rfl) ?_
      refine h_op (r_move rfl) ?_
      refine h_opOff ?_
      refine h_opOff ?_
      refine h_op (r_pick rfl rfl) ?_
      refine h_op (r_move rfl) ?_
      refine h_opOff ?_
      refine h_opOff ?_
      refine h_opOff ?_
      refine h_opOff ?_
      refine h_op (r_pick rfl rfl) ?_
      refine h_nil ?_
      refine q_then ?_
      refine h_condT rfl ?_
      refine h_seq ?_
      refine h_reg ?_
      refine h_call ((alive18_s h).comes) rfl rfl rfl fun ⟨h1, hle1⟩ => ?_
      dsimp only
      refine h_op (r_assign rfl) ?_
      refine h_nil ?_
      refine q_then ?_
      refine h_ret ?_
      refine q_thenR ?_
      exact h_ret1 rfl rfl fun w s => ⟨⟨h1, hle1⟩, rfl, (same (L' := [.zone true h1]) w s).res (List.Sublist.refl _) (by simp [Fa.wr])⟩
  · refine h_seq ?_
    refine h_reg ?_
    refine h_opX (x_box rfl) fun g5 => ?_
    refine h_op (r_assign rfl) ?_
    refine h_nil ?_
    refine q_then ?_
    refine h_seq ?_
    refine h_reg ?_
    refine h_op (r_move rfl) ?_
    refine h_op (r_move rfl) ?_
    refine h_call ((Tree_bits i hi l B c').comes) rfl rfl rfl fun _ => ?_
    refine h_op (r_move rfl) ?_
    refine h_op (r_extract rfl rfl) ?_
    refine h_op (r_extract rfl rfl) ?_
    refine h_op (r_extract rfl rfl) ?_
    refine h_op (r_assign rfl) ?_
    refine h_op (r_assign rfl) ?_
    refine h_op (r_assign rfl) ?_
    refine h_nil ?_
    refine q_then ?_
    refine h_seq ?_
    refine h_reg ?_
    refine h_op (r_move rfl) ?_
    refine h_call ((Hash_no i hi).comes) rfl rfl rfl fun _ => ?_
    refine h_op (r_assign rfl) ?_
    refine h_nil ?_
    refine q_then ?_
    refine h_seq ?_
    refine h_seq ?_
    refine h_reg ?_
    refine h_op (r_loadr rfl) ?_
    refine h_call (hCl.comes) rfl rfl rfl fun _ => ?_
    refine h_op (r_move rfl) ?_
    refine h_op (r_extract rfl rfl) ?_
    refine h_op (r_extract rfl rfl) ?_
    refine h_op (r_assign rfl) ?_
    refine h_op (r_assign rfl) ?_
    refine h_nil ?_
    refine q_then ?_
    refine h_seq ?_
    refine h_reg ?_
    refine h_op (r_move rfl) ?_
    refine h_op (r_not rfl) ?_
    refine h_op (r_move rfl) ?_
    refine h_opOff ?_
    refine h_opOff ?_
    refine h_op (r_pick rfl rfl) ?_
    refine h_op (r_move rfl) ?_
    refine h_opOff ?_
    refine h_opOff ?_
    refine h_opOff ?_
    refine h_opOff ?_
    refine h_op (r_pick rfl rfl) ?_
    refine h_nil ?_
    refine q_then ?_
    refine h_condT rfl ?_
    refine h_seq ?_
    refine h_reg ?_
    refine h_call ((alive18_s h).comes) rfl rfl rfl fun ⟨h1, hle1⟩ => ?_
    dsimp only
    refine h_op (r_assign rfl) ?_
    refine h_nil ?_
    refine q_then ?_
    refine h_ret ?_
    refine q_thenR ?_
    exact h_ret1 rfl rfl fun w s => ⟨⟨h1, hle1⟩, rfl, (same (L' := [.zone true h1]) w s).res (List.Sublist.refl _) (by simp [Fa.wr])⟩
end
end Go.Proofs.YtgfkbeipckbkiaaGreatDoor
