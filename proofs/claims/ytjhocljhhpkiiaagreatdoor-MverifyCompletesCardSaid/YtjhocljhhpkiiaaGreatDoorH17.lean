/- What is asked of the whole program, once for all frames of a great seat; a row's facts put together; law21: MverifyRefuses is true (joined texts: TF U133) -/
import Derived.Test.YtjhocljhhpkiiaaGreatDoorH16
import Derived.Handed
import Derived.JoinedOf
import Derived.SevenTiedAt
set_option linter.all false
/- TF -/
namespace Go.Proofs.YtjhocljhhpkiiaaGreatDoor
set_option linter.unusedSimpArgs false
set_option linter.unusedVariables false
open Go.RowKit Go.ChangeShapes Go.WideShapes
theorem sf_maps : mapsRowed Tryz.prog = true := by kernel_rfl
theorem sf_enter : Tryz.prog.mayEnter = true := by kernel_rfl
theorem sf_keys : Tryz.prog.plainKeys = true := by kernel_rfl
theorem sf_heard : Tryz.prog.stopsHeard = true := by kernel_rfl
theorem sf_lifts : Tryz.prog.liftsFinal = false := by kernel_rfl
theorem sf_looks : Tryz.prog.looks [] = true := by kernel_rfl
theorem beqT {a b c : Bool} (ha : a = c) (hb : b = c) : (a == b) = true := by rw [ha, hb]; exact beq_self_eq_true c
theorem andT {a b : Bool} (ha : a = true) (hb : b = true) : (a && b) = true := by rw [ha, hb]; rfl
end Go.Proofs.YtjhocljhhpkiiaaGreatDoor
/- U133 -/
namespace Go.Proofs.YtjhocljhhpkiiaaGreatDoor
set_option linter.unusedSimpArgs false
set_option linter.unusedVariables false
open Go.RowKit
instance iU133_1 : TBool Tryz.prog 4 := ⟨Tryz.underlying4⟩
section
variable (h : Zh) [hT : RdZ h (some ⟨1, 0, none⟩) hashT] [hE : RdZ h (some ⟨0, 0, none⟩) [rty 90]]
theorem MverifyRefuses_s (i : Int) (l : List En) (B : Option Addr) (c : Nat) [hB : RdZ h B (ents l)] (hv : SlsZ h l) (ks : List B32) (K : Option Addr) (kc : Nat) [hK : RdZ h K (dgs ks)] (hkc : ks.length ≤ kc) (hkl : ks.length ≤ 9223372036854775807) (kj : UInt8) : Spec Tryz.prog 14 [.int .i64 i, .slice B l.length c, .agg [.slice K ks.length kc, .int .u8 (kj.toNat : Int)].toArray].toArray [] [.zone true h] (fun _ : {x : Zh // LeZ h x} => .bool true) (fun x => [.zone true x.1]) := by
  have hk1 := rKeys_s ks K kc hkl
  refine spec_of Tryz.func14 rfl (n := 132) rfl rfl ?_
  intro W
  by_cases hi : 0 ≤ i ∧ i ≤ 256
  · obtain ⟨n, rfl⟩ : ∃ n : Nat, i = (n : Int) := ⟨i.toNat, by omega⟩
    have hn : n ≤ 256 := by omega
    by_cases hf : fewM l = true
    · have hvl0 := hv.few hf
      have hal : Alike (ofM l) 0 := Alike.start (ofM_nodup l)
      have hlm : (ofM l).length ≤ 12 := Nat.le_trans (ofM_len l) (by unfold fewM at hf; rw [Bool.and_eq_true, decide_eq_true_eq] at hf; exact hf.1)
      have hht := mkT_ht (by omega) hal
      have hsz := mkT_sz (by omega) hal
      have hsz2 : (ofM l).length * (256 - 0) ≤ 12 * 256 := Nat.mul_le_mul hlm (by omega)
      have hgs := fun (h' : Zh) (hv' : ValsZ h' (ofM l)) key => getS_ok hv' key
      have hget := fun A c key => Get_s (ofM l) A c key (by omega)
      refine h_seq ?_
      refine h_reg ?_
      refine h_opX (x_box rfl) fun g5 => ?_
      refine h_op (r_assign rfl) ?_
      refine h_nil ?_
      refine q_then ?_
      refine h_seq ?_
      refine h_reg ?_
      refine h_op (r_move rfl) ?_
      refine h_op (r_move rfl) ?_
      refine h_call ((Tree_yes n hn l B c hf h hvl0).comes) rfl rfl rfl fun ⟨⟨h1, q1, A1, c1⟩, hle1, ht1⟩ => ?_
      dsimp only at hle1 ht1 ⊢
      refine h_freezeO (.slice A1 (ofM l).length c1) fun h2 B2 c2 e2 hle2 hlen2 hnil2 hz2 hr2 => ?_
      injection e2 with e2 _ e3
      subst e2 e3
      have hT2 : RdZ h2 (some ⟨1, 0, none⟩) hashT := (hT.mono hle1).mono hz2
      have hE2 : RdZ h2 (some ⟨0, 0, none⟩) [rty 90] := (hE.mono hle1).mono hz2
      have ht2 : TrZ n h2 (mkT (ofM l) 0) q1 := ⟨ht1.ok.mono hz2⟩
      have hv2 := ValsZ.few hvl0 (hle1.trans hz2)
      have hRt := fun h' hv' => Root_any n hn h' (d := 0) (by omega) hal (by omega) hv' A1 c1
      refine h_op (r_move rfl) ?_
      refine h_op (r_extract rfl rfl) ?_
      refine h_op (r_extract rfl rfl) ?_
      refine h_op (r_extract rfl rfl) ?_
      refine h_op (r_assign rfl) ?_
      refine h_op (r_assign rfl) ?_
      refine h_op (r_assign rfl) ?_
      refine h_nil ?_
      refine q_then ?_
      refine h_seq ?_
      refine h_reg ?_
      refine h_op (r_move rfl) ?_
      refine h_call ((Hash_s n hn).comes) rfl rfl rfl fun ⟨gh, gc⟩ => ?_
      dsimp only
      by_cases hk20 : ks.length ≤ 20
      · refine h_op (r_assign rfl) ?_
        refine h_nil ?_
        refine q_then ?_
        refine h_seq ?_
        refine h_seq ?_
        refine h_reg ?_
        refine h_op (r_move rfl) ?_
        refine h_op (r_not rfl) ?_
        refine h_op (r_move rfl) ?_
        refine h_op (r_field rfl) ?_
        refine h_op (r_loadc rfl) ?_
        refine h_op (r_len rfl) ?_
        refine h_op (r_bool (r_gtr rfl rfl) (decide_eq_false (by omega))) ?_
        refine h_op (r_pick rfl rfl) ?_
        refine h_op (r_move rfl) ?_
        refine h_op (r_field rfl) ?_
        refine h_op (r_loadc rfl) ?_
        by_cases he : keysE ks = 0
        · have hks := keysE_ok he
          have hap := addT_parse n hal ks
          have hal2 := addT_len n (mkT (ofM l) 0) ks 0
          obtain ⟨q, hq⟩ : ∃ q, kj.toNat % ks.length = q := ⟨_, rfl⟩
          have hql : q < ks.length := by rw [← hq]; exact Nat.mod_lt _ (by omega)
          rw [show rootM n (ofM l) 0 = dgT n (mkT (ofM l) 0) from rfl] at hRt
          generalize hT0 : mkT (ofM l) 0 = T at *
          have h0 : 0 < (dgs ks).length := by rw [dgs_len]; omega
          obtain ⟨bK, oK, rfl, -⟩ := hK.at_ 0 _ (List.getElem?_eq_getElem h0)
          have hK2 : RdZ h2 (some ⟨bK, oK, none⟩) (dgs ks) := hK.mono (hle1.trans hz2)
          refine h_call (hk1.comes) rfl rfl rfl fun _ => ?_
          refine h_op (r_bool (r_neq rfl rfl) (decide_eq_false (fun h => h he))) ?_
          refine h_op (r_pick rfl rfl) ?_
          refine h_nil ?_
          refine q_then ?_
          refine h_condF rfl ?_
          refine h_skip ?_
          refine q_then ?_
          refine h_seq ?_
          refine h_reg ?_
          refine h_op (r_move rfl) ?_
          refine h_op (r_move rfl) ?_
          refine h_call ((hRt h2 hv2).comes) rfl rfl rfl fun _ => ?_
          refine h_opX (x_alloc) fun g11 => ?_
          refine h_opS (s_storer rfl rfl) ?_
          refine h_nil ?_
          refine q_then ?_
          refine h_seq ?_
          refine h_reg ?_
          refine h_op (r_field rfl) ?_
          refine h_op (r_loadc rfl) ?_
          refine h_op (r_int (r_cUI rfl) (show _ = (kj.toNat : Int) from rfl)) ?_
          refine h_op (r_field rfl) ?_
          refine h_op (r_loadc rfl) ?_
          refine h_op (r_len rfl) ?_
          refine h_op (r_int (r_rem rfl rfl) (show _ = ((q : Nat) : Int) by rw [← hq]; omega)) ?_
          refine h_op (r_assign rfl) ?_
          refine h_nil ?_
          refine q_then ?_
          refine h_seq ?_
          refine h_reg ?_
          refine h_op (r_assign rfl) ?_
          refine h_nil ?_
          refine q_then ?_
          refine h_seq ?_
          refine h_seq ?_
          refine h_reg ?_
          refine h_op (r_field rfl) ?_
          refine h_op (r_loadc rfl) ?_
          refine h_op (r_len rfl) ?_
          refine h_op (r_move rfl) ?_
          refine h_nil ?_
          refine q_then ?_
          refine h_block ?_
          refine h_nil_own 25 3 (xs := cbs []) rfl ?_
          refine h_loop (fun (s : List CB × Zh × Option Addr × Nat) => LeZ h2 s.2.1 ∧ MapCl (ofM l) ks (fun j => decide (q = j)) s.1 ∧ ClsZ s.2.1 s.1) (fun (s : List CB × Zh × Option Addr × Nat) => [(63, .int .i64 (s.1.length : Int)), (62, .int .i64 (ks.length : Int)), (61, .slice (some ⟨bK, oK, none⟩) ks.length kc), (13, .slice s.2.2.1 s.1.length s.2.2.2), (7, .slice A1 (ofM l).length c1), (8, .pointer q1), (10, .pointer (some ⟨gh, 0, none⟩)), (5, .pointer (some ⟨g5, 0, none⟩)), (11, .pointer (some ⟨g11, 0, none⟩)), (12, .int .i64 (q : Int))]) (fun (s : List CB × Zh × Option Addr × Nat) => [.own (.slice s.2.2.1 s.1.length s.2.2.2) s.1.length 25 3 (cbs s.1), .blk g11 (dgT n T).cells 42, .blk g5 [.slice (some ⟨bK, oK, none⟩) ks.length kc, .int .u8 (kj.toNat : Int)] 118, .zone true s.2.1, .blk gh [.pointer (some ⟨gc, 0, none⟩), .int .i64 (n : Int)] 142, CN gc 0]) (fun (s : List CB × Zh × Option Addr × Nat) => ks.length - s.1.length) ([], h2, none, 0) (⟨LeZ.refl h2, MapCl.nil _ _ _, fun x hx => by cases hx⟩) ⟨rfl, rfl, rfl, rfl, rfl, rfl, rfl, rfl, rfl, rfl, trivial⟩ (same) ?_
          rintro ⟨cl, z, A12, c12⟩ ⟨hz, hm, hcz⟩
          dsimp only at hz hm hcz ⊢
          have hKz : RdZ z (some ⟨bK, oK, none⟩) (dgs ks) := hK2.mono hz
          have hrz : RdZ z A1 (ents (ofM l)) := hr2.mono hz
          have hcll := hm.len
          refine h_seq ?_
          refine h_reg ?_
          refine h_op (r_lss rfl rfl) ?_
          refine h_nil ?_
          refine q_then ?_
          refine h_seq ?_
          refine h_cond rfl (fun hlt => ?_) (fun hlt => ?_)
          · have hk2 : cl.length < ks.length := by omega
            have hx := getD_get zB32 hk2
            have hd := dgs_at (l := ks) (k := cl.length) hk2
            generalize ks.getD cl.length zB32 = key at *
            obtain ⟨hgv, hgl⟩ := hgs z (hv2.mono hz) key
            have hgf := getS_few hf key
            have hgn := hgv.len
            refine h_skip ?_
            refine q_then ?_
            refine h_seq ?_
            refine h_block ?_
            refine h_seq ?_
            refine h_reg ?_
            refine h_op (r_move rfl) ?_
            refine h_op (r_idx rfl rfl) ?_
            refine h_op (r_nthr rfl (out := key.cells) (B32.cells_length _) hd) ?_
            refine h_opX (x_alloc) fun g15 => ?_
            refine h_op (r_assign rfl) ?_
            refine h_opS (s_storer rfl rfl) ?_
            refine h_nil ?_
            refine q_then ?_
            refine h_seq ?_
            refine h_reg ?_
            refine h_op (r_move rfl) ?_
            refine h_op (r_loadr rfl) ?_
            refine h_call ((hget A1 c1 key).comes) rfl rfl rfl fun _ => ?_
            refine h_op (r_move rfl) ?_
            refine h_op (r_extract rfl rfl) ?_
            refine h_op (r_extract rfl rfl) ?_
            refine h_op (r_assign rfl) ?_
            refine h_op (r_assign rfl) ?_
            refine h_nil ?_
            refine q_then ?_
            refine h_reg ?_
            refine h_freeze g15 (cs := key.cells) (T := 35) fun z3 hz3 hr3 => ?_
            refine h_op (r_move rfl) ?_
            refine h_op (r_slA rfl) ?_
            refine h_op (r_move rfl) ?_
            refine h_op (r_move rfl) ?_
            refine h_op (r_move rfl) ?_
            refine h_op (r_move rfl) ?_
            refine h_op (r_bool (r_eql rfl rfl) (show _ = decide (q = cl.length) by simp; omega)) ?_
            refine h_op (r_bool (r_neb rfl rfl) (show _ = ((getE' (ofM l) key).isSome != decide (q = cl.length)) by cases (getE' (ofM l) key).isSome <;> cases decide (q = cl.length) <;> rfl)) ?_
            refine h_op (r_build (out := (Claim.cells ⟨⟨some ⟨g15, 0, none⟩, 32, 32⟩, getS (getE' (ofM l) key), ((getE' (ofM l) key).isSome != decide (q = cl.length))⟩)) rfl) ?_
            refine h_opX (x_bsl rfl rfl) fun g83 => ?_
            refine h_opX (x_app rfl rfl (k := 3)) fun ⟨g84, c84⟩ => ?_
            refine h_op (r_assign rfl) ?_
            refine h_nil ?_
            refine q_block ?_
            refine q_then ?_
            refine h_reg ?_
            refine h_op (r_add rfl rfl) ?_
            refine h_op (r_move rfl) ?_
            refine h_nil ?_
            have hs3 : cbs cl ++ Claim.cells ⟨⟨some ⟨g15, 0, none⟩, 32, 32⟩, getS (getE' (ofM l) key), ((getE' (ofM l) key).isSome != decide (q = cl.length))⟩ = cbs (cl ++ [⟨⟨⟨some ⟨g15, 0, none⟩, 32, 32⟩, getS (getE' (ofM l) key), ((getE' (ofM l) key).isSome != decide (q = cl.length))⟩, key.1, getV (getE' (ofM l) key)⟩]) := by unfold cbs; rw [List.flatMap_append]; simp [CB.cells]
            have hcl1 : cl.length + 1 = (cl ++ [(⟨⟨⟨some ⟨g15, 0, none⟩, 32, 32⟩, getS (getE' (ofM l) key), ((getE' (ofM l) key).isSome != decide (q = cl.length))⟩, key.1, getV (getE' (ofM l) key)⟩ : CB)]).length := by simp
            rw [hs3, hcl1]
            exact h_back (cl ++ [⟨⟨⟨some ⟨g15, 0, none⟩, 32, 32⟩, getS (getE' (ofM l) key), ((getE' (ofM l) key).isSome != decide (q = cl.length))⟩, key.1, getV (getE' (ofM l) key)⟩], z3, some ⟨g84, 0, none⟩, c84) (⟨hz.trans hz3, hm.snoc hx (keyOf_val key) rfl (by dsimp only; omega) (by dsimp only; omega) rfl rfl, fun x hx => (List.mem_append.1 hx).elim (fun h => hcz.mono hz3 x h) fun h => by rw [List.mem_singleton.1 h]; exact ⟨sl32 hr3, hgv.mono hz3⟩⟩) ((by dsimp only; rw [List.length_append, List.length_singleton]; omega)) ⟨aI rfl (by simp), rfl, rfl, rfl, rfl, rfl, rfl, rfl, rfl, rfl, trivial⟩ (same)
          · have hcl : cl.length = ks.length := by omega
            refine h_freezeO (.slice A12 cl.length c12) fun z3 B3 c3 e3 hle3 hlen3 hnil3 hz3 hr3 => ?_
            injection e3 with e3 _ e3'
            subst e3 e3'
            have hz23 := hz.trans hz3
            have hT3 : RdZ z3 (some ⟨1, 0, none⟩) hashT := hT2.mono hz23
            have hK3 : RdZ z3 (some ⟨bK, oK, none⟩) (dgs ks) := hK2.mono hz23
            have hPr := mProve_s z3 ks (some ⟨bK, oK, none⟩) kc n hn gh gc 0 (by decide) T q1 ⟨ht2.ok.mono hz23⟩ hkc he (by omega) (by omega)
            refine h_exit ?_
            refine q_thenE ?_
            refine q_thenE ?_
            refine q_blockE ?_
            refine q_then ?_
            refine h_seq ?_
            refine h_reg ?_
            refine h_op (r_move rfl) ?_
            refine h_op (r_move rfl) ?_
            refine h_op (r_field rfl) ?_
            refine h_op (r_loadc rfl) ?_
            refine h_call (hPr.comes) rfl rfl rfl fun ⟨A70, c70⟩ => ?_
            dsimp only
            refine h_freezeO (.slice A70 (addT n T ks 0).length c70) fun z4 B4 c4 e4 hle4 hlen4 hnil4 hz4 hr4 => ?_
            injection e4 with e4 _ e4'
            subst e4 e4'
            have hEn := mEncode_s z4 (addT n T ks 0) A70 c70 hle4 (by omega) (checkM_ok hap)
            refine h_op (r_move rfl) ?_
            refine h_op (r_extract rfl rfl) ?_
            refine h_op (r_extract rfl rfl) ?_
            refine h_op (r_assign rfl) ?_
            refine h_op (r_assign rfl) ?_
            refine h_nil ?_
            refine q_then ?_
            refine h_seq ?_
            refine h_reg ?_
            refine h_op (r_move rfl) ?_
            refine h_call (hEn.comes) rfl rfl rfl fun ⟨A75, c75⟩ => ?_
            dsimp only
            refine h_freezeO (.slice A75 (encM (addT n T ks 0)).length c75) fun z5 B5 c5 e5 hle5 hlen5 hnil5 hz5 hr5 => ?_
            injection e5 with e5 _ e5'
            subst e5 e5'
            refine h_freeze g11 (cs := (dgT n T).cells) (T := 42) fun z6 hz6 hr6 => ?_
            have hz36 := (hz4.trans hz5).trans hz6
            have hz26 := hz23.trans hz36
            have hT6 : RdZ z6 (some ⟨1, 0, none⟩) hashT := hT2.mono hz26
            have hE6 : RdZ z6 (some ⟨0, 0, none⟩) [rty 90] := hE2.mono hz26
            have sb : SlZ z6 ⟨A75, (encM (addT n T ks 0)).length, c75⟩ (encM (addT n T ks 0)) := ⟨rfl, hle5, hnil5, hr5.mono hz6⟩
            have sr : SlZ z6 ⟨some ⟨g11, 0, none⟩, 32, 32⟩ (dgT n T).1 := sl32 hr6
            have hrc : RdZ z6 A12 (cbs cl) := hr3.mono hz36
            have hcc : ClsZ z6 cl := (hcz.mono hz3).mono hz36
            have hvl : ∀ x ∈ cl, x.vb.length ≤ 100000000 := fun x hx => by
              obtain ⟨j, hj⟩ := List.mem_iff_getElem?.1 hx
              have := (hm.at_ j x hj).2.2.1
              omega
            have hel : (encM (addT n T ks 0)).length ≤ 900000 := by
              have h1 := encM_len (addT n T ks 0)
              have h2 := lenI_le (addT n T ks 0)
              omega
            have hres := mver_turned n hal ks he q hql cl (by rw [← hT0] at *; exact hm) hcl ⟨some ⟨g11, 0, none⟩, 32, 32⟩ rfl (dgT n T).1 (by rw [hT0]; exact keyOf_val _) (by rw [hT0]; omega)
            rw [hT0] at hres
            have hC := mVerify_s n hn z6 gh gc cl A12 c12 (hr := hrc) hcc hvl (by omega) 0 (by decide) ⟨some ⟨g11, 0, none⟩, 32, 32⟩ ⟨A75, (encM (addT n T ks 0)).length, c75⟩ (dgT n T).1 (encM (addT n T ks 0)) (hRt := sr) (hB := sb) hel
            rw [hres] at hC
            replace hC : Spec Tryz.prog 50 [.pointer (some ⟨gh, 0, none⟩), .slice (some ⟨g11, 0, none⟩) 32 32, .slice A12 cl.length c12, .slice A75 (encM (addT n T ks 0)).length c75].toArray [HR gh gc n] [.zone true z6, CN gc 0] (fun u : {u : Nat × Zh × Nat // LeZ z6 u.2.1 ∧ u.2.2 ≤ 0 + cl.length + decLen (encM (addT n T ks 0))} => .iface 174 (.pointer (some ⟨u.1.1, 0, none⟩))) (fun u => [.zone true u.1.2.1, CN gc u.1.2.2, .blk u.1.1 (fltC batchB (q : Int) 12) 178]) := hC
            refine h_op (r_move rfl) ?_
            refine h_op (r_extract rfl rfl) ?_
            refine h_op (r_extract rfl rfl) ?_
            refine h_op (r_assign rfl) ?_
            refine h_op (r_assign rfl) ?_
            refine h_nil ?_
            refine q_then ?_
            refine h_seq ?_
            refine h_reg ?_
            refine h_op (r_move rfl) ?_
            refine h_op (r_slA rfl) ?_
            refine h_op (r_move rfl) ?_
            refine h_op (r_move rfl) ?_
            refine h_call (hC.comes) rfl rfl rfl fun ⟨⟨g103, z7, k7⟩, hz7, hk7⟩ => ?_
            dsimp only at hz7 hk7 ⊢
            have hT7 : RdZ z7 (some ⟨1, 0, none⟩) hashT := hT6.mono hz7
            have hE7 : RdZ z7 (some ⟨0, 0, none⟩) [rty 90] := hE6.mono hz7
            refine h_op (r_assign rfl) ?_
            refine h_nil ?_
            refine q_then ?_
            refine h_seq ?_
            refine h_reg ?_
            refine h_op (r_move rfl) ?_
            refine h_call ((First_s g103 batchB (q : Int) 12).comes) rfl rfl rfl fun _ => ?_
            refine h_op (r_move rfl) ?_
            refine h_op (r_extract rfl rfl) ?_
            refine h_op (r_extract rfl rfl) ?_
            refine h_op (r_extract rfl rfl) ?_
            refine h_op (r_assign rfl) ?_
            refine h_op (r_assign rfl) ?_
            refine h_op (r_assign rfl) ?_
            refine h_nil ?_
            refine q_then ?_
            refine h_seq ?_
            refine h_reg ?_
            refine h_call ((alive21_s z7).comes) rfl rfl rfl fun ⟨z8, hz8⟩ => ?_
            dsimp only
            have hE8 : RdZ z8 (some ⟨0, 0, none⟩) [rty 90] := hE7.mono hz8
            refine h_op (r_move rfl) ?_
            refine h_op (r_move rfl) ?_
            refine h_op (r_bool (r_eql rfl rfl) rfl) ?_
            refine h_op (r_pick rfl rfl) ?_
            refine h_op (r_move rfl) ?_
            refine h_op (r_move rfl) ?_
            refine h_op (r_bool (r_eql rfl rfl) rfl) ?_
            refine h_op (r_pick rfl rfl) ?_
            refine h_op (r_move rfl) ?_
            refine h_op (r_move rfl) ?_
            refine h_call ((Code_s g103 batchB (q : Int) 12).comes) rfl rfl rfl fun _ => ?_
            refine h_op (r_bool (r_eql rfl rfl) rfl) ?_
            refine h_op (r_pick rfl rfl) ?_
            refine h_op (r_move rfl) ?_
            refine h_op (r_move rfl) ?_
            refine h_op (r_move rfl) ?_
            refine h_op (r_bool (r_eql rfl rfl) (decide_eq_true rfl)) ?_
            refine h_op (r_pick rfl rfl) ?_
            refine h_op (r_move rfl) ?_
            refine h_op (r_move rfl) ?_
            refine h_op (r_pick rfl rfl) ?_
            refine h_op (r_assign rfl) ?_
            refine h_nil ?_
            refine q_then ?_
            refine h_ret ?_
            exact h_ret1 rfl rfl fun w s => ⟨⟨z8, ((hle1.trans hz2).trans hz26).trans (LeZ.trans hz7 hz8)⟩, rfl, (same (L' := [.zone true z8]) w s).res (List.Sublist.refl _) (by simp [Fa.wr])⟩
        · refine h_call (hk1.comes) rfl rfl rfl fun _ => ?_
          refine h_op (r_bool (r_neq rfl rfl) (decide_eq_true he)) ?_
          refine h_op (r_pick rfl rfl) ?_
          refine h_nil ?_
          refine q_then ?_
          refine h_condT rfl ?_
          refine h_seq ?_
          refine h_reg ?_
          refine h_call ((alive21_s h2).comes) rfl rfl rfl fun ⟨h9, hle9⟩ => ?_
          dsimp only
          refine h_op (r_assign rfl) ?_
          refine h_nil ?_
          refine q_then ?_
          refine h_ret ?_
          refine q_thenR ?_
          exact h_ret1 rfl rfl fun w s => ⟨⟨h9, (hle1.trans hz2).trans hle9⟩, rfl, (same (L' := [.zone true h9]) w s).res (List.Sublist.refl _) (by simp [Fa.wr])⟩
      · refine h_op (r_assign rfl) ?_
        refine h_nil ?_
        refine q_then ?_
        refine h_seq ?_
        refine h_seq ?_
        refine h_reg ?_
        refine h_op (r_move rfl) ?_
        refine h_op (r_not rfl) ?_
        refine h_op (r_move rfl) ?_
        refine h_op (r_field rfl) ?_
        refine h_op (r_loadc rfl) ?_
        refine h_op (r_len rfl) ?_
        refine h_op (r_bool (r_gtr rfl rfl) (decide_eq_true (by omega))) ?_
        refine h_op (r_pick rfl rfl) ?_
        refine h_op (r_move rfl) ?_
        refine h_opOff ?_
        refine h_opOff ?_
        refine h_opOff ?_
        refine h_opOff ?_
        refine h_op (r_pick rfl rfl) ?_
        refine h_nil ?_
        refine q_then ?_
        refine h_condT rfl ?_
        refine h_seq ?_
        refine h_reg ?_
        refine h_call ((alive21_s h2).comes) rfl rfl rfl fun ⟨h9, hle9⟩ => ?_
        dsimp only
        refine h_op (r_assign rfl) ?_
        refine h_nil ?_
        refine q_then ?_
        refine h_ret ?_
        refine q_thenR ?_
        exact h_ret1 rfl rfl fun w s => ⟨⟨h9, (hle1.trans hz2).trans hle9⟩, rfl, (same (L' := [.zone true h9]) w s).res (List.Sublist.refl _) (by simp [Fa.wr])⟩
    · refine h_seq ?_
      refine h_reg ?_
      refine h_opX (x_box rfl) fun g5 => ?_
      refine h_op (r_assign rfl) ?_
      refine h_nil ?_
      refine q_then ?_
      refine h_seq ?_
      refine h_reg ?_
      refine h_op (r_move rfl) ?_
      refine h_op (r_move rfl) ?_
      refine h_call ((Tree_few n hn l B c (by simpa using hf)).comes) rfl rfl rfl fun _ => ?_
      refine h_op (r_move rfl) ?_
      refine h_op (r_extract rfl rfl) ?_
      refine h_op (r_extract rfl rfl) ?_
      refine h_op (r_extract rfl rfl) ?_
      refine h_op (r_assign rfl) ?_
      refine h_op (r_assign rfl) ?_
      refine h_op (r_assign rfl) ?_
      refine h_nil ?_
      refine q_then ?_
      refine h_seq ?_
      refine h_reg ?_
      refine h_op (r_move rfl) ?_
      refine h_call ((Hash_s n hn).comes) rfl rfl rfl fun ⟨gh, gc⟩ => ?_
      dsimp only
      refine h_op (r_assign rfl) ?_
      refine h_nil ?_
      refine q_then ?_
      refine h_seq ?_
      refine h_seq ?_
      refine h_reg ?_
      refine h_op (r_move rfl) ?_
      refine h_op (r_not rfl) ?_
      refine h_op (r_move rfl) ?_
      refine h_opOff ?_
      refine h_opOff ?_
      refine h_opOff ?_
      refine h_opOff ?_
      refine h_op (r_pick rfl rfl) ?_
      refine h_op (r_move rfl) ?_
      refine h_opOff ?_
      refine h_opOff ?_
      refine h_opOff ?_
      refine h_opOff ?_
      refine h_op (r_pick rfl rfl) ?_
      refine h_nil ?_
      refine q_then ?_
      refine h_condT rfl ?_
      refine h_seq ?_
      refine h_reg ?_
      refine h_call ((alive21_s h).comes) rfl rfl rfl fun ⟨h9, hle9⟩ => ?_
      dsimp only
      refine h_op (r_assign rfl) ?_
      refine h_nil ?_
      refine q_then ?_
      refine h_ret ?_
      refine q_thenR ?_
      exact h_ret1 rfl rfl fun w s => ⟨⟨h9, hle9⟩, rfl, (same (L' := [.zone true h9]) w s).res (List.Sublist.refl _) (by simp [Fa.wr])⟩
  · refine h_seq ?_
    refine h_reg ?_
    refine h_opX (x_box rfl) fun g5 => ?_
    refine h_op (r_assign rfl) ?_
    refine h_nil ?_
    refine q_then ?_
    refine h_seq ?_
    refine h_reg ?_
    refine h_op (r_move rfl) ?_
    refine h_op (r_move rfl) ?_
    refine h_call ((Tree_bits i hi l B c).comes) rfl rfl rfl fun _ => ?_
    refine h_op (r_move rfl) ?_
    refine h_op (r_extract rfl rfl) ?_
    refine h_op (r_extract rfl rfl) ?_
    refine h_op (r_extract rfl rfl) ?_
    refine h_op (r_assign rfl) ?_
    refine h_op (r_assign rfl) ?_
    refine h_op (r_assign rfl) ?_
    refine h_nil ?_
    refine q_then ?_
    refine h_seq ?_
    refine h_reg ?_
    refine h_op (r_move rfl) ?_
    refine h_call ((Hash_no i hi).comes) rfl rfl rfl fun _ => ?_
    refine h_op (r_assign rfl) ?_
    refine h_nil ?_
    refine q_then ?_
    refine h_seq ?_
    refine h_seq ?_
    refine h_reg ?_
    refine h_op (r_move rfl) ?_
    refine h_op (r_not rfl) ?_
    refine h_op (r_move rfl) ?_
    refine h_opOff ?_
    refine h_opOff ?_
    refine h_opOff ?_
    refine h_opOff ?_
    refine h_op (r_pick rfl rfl) ?_
    refine h_op (r_move rfl) ?_
    refine h_opOff ?_
    refine h_opOff ?_
    refine h_opOff ?_
    refine h_opOff ?_
    refine h_op (r_pick rfl rfl) ?_
    refine h_nil ?_
    refine q_then ?_
    refine h_condT rfl ?_
    refine h_seq ?_
    refine h_reg ?_
    refine h_call ((alive21_s h).comes) rfl rfl rfl fun ⟨h9, hle9⟩ => ?_
    dsimp only
    refine h_op (r_assign rfl) ?_
    refine h_nil ?_
    refine q_then ?_
    refine h_ret ?_
    refine q_thenR ?_
    exact h_ret1 rfl rfl fun w s => ⟨⟨h9, hle9⟩, rfl, (same (L' := [.zone true h9]) w s).res (List.Sublist.refl _) (by simp [Fa.wr])⟩
end
end Go.Proofs.YtjhocljhhpkiiaaGreatDoor
