/- law17: CodecIsShort is true (joined texts: U61) -/
import Derived.Test.YtdfeimdhlagebaaGreatDoorZ15
set_option linter.all false
/- U61 -/
namespace Go.Proofs.YtdfeimdhlagebaaGreatDoor
set_option linter.unusedSimpArgs false
set_option linter.unusedVariables false
open Go.RowKit
section
variable (h : Zh) [hT : RdZ h (some ⟨0, 0, none⟩) hashT]
theorem CodecIsShort_s (i : Int) (l : List En) (B : Option Addr) (c : Nat) [hB : RdZ h B (ents l)] (hv : SlsZ h l) (key : B32) : Spec Tryz.prog 3 [.int .i64 i, .slice B l.length c, .agg key.cells.toArray].toArray [] [.zone true h] (fun _ : {x : Zh // LeZ h x} => .bool true) (fun x => [.zone true x.1]) := by
  refine spec_of Tryz.func3 rfl (n := 67) rfl rfl ?_
  intro W
  by_cases hi : 0 ≤ i ∧ i ≤ 256
  · obtain ⟨n, rfl⟩ : ∃ n : Nat, i = (n : Int) := ⟨i.toNat, by omega⟩
    have hn : n ≤ 256 := by omega
    by_cases hf : fewM l = true
    · have hvl := hv.few hf
      have hal : Alike (ofM l) 0 := Alike.start (ofM_nodup l)
      obtain ⟨D, hw⟩ := wayM (key := key) hal
      have hD := hw.way.le
      have hlm : (ofM l).length ≤ 12 := Nat.le_trans (ofM_len l) (by unfold fewM at hf; rw [Bool.and_eq_true, decide_eq_true_eq] at hf; exact hf.1)
      obtain ⟨k, hk⟩ : ∃ k, (wayK key (mkT (ofM l) 0) D).kind = k := ⟨_, rfl⟩
      have hk1 : k = 0 ∨ k = 1 := by
        have := hw.way.end_
        have h2 := mkT_kind (atM key (ofM l) D) hD
        have h3 := hw.last
        rw [hw.on D (Nat.le_refl _)] at hk
        omega
      have hrl := rsK_len n key (mkT (ofM l) 0) D
      have hdl := dsK_len key (mkT (ofM l) 0) D
      have hdd := congrArg List.length (prf_depths (key := key) (t := mkT (ofM l) 0) hD)
      have hE := fun A c => cEncode_s (prfK n key (mkT (ofM l) 0) D A c) k D (prf_ok n hw.way hw.lastOk A c) (congrArg Nat.cast hk) rfl hk1 (rsK n key (mkT (ofM l) 0) D) hrl.symm
      have hDs := fun A c => rDepths_s (prfK n key (mkT (ofM l) 0) D A c)
      have hel := fun A c => encC_len k D (prfK n key (mkT (ofM l) 0) D A c).leaf (prfK n key (mkT (ofM l) 0) D A c).bitmap (rsK n key (mkT (ofM l) 0) D)
      have hlc : lenC k (rsK n key (mkT (ofM l) 0) D).length = 36 + 64 * k + 32 * (dsK key (mkT (ofM l) 0) D).length := by
        unfold lenC
        rw [hrl]
        rcases hk1 with rfl | rfl <;> simp
      refine h_seq ?_
      refine h_reg ?_
      refine h_opX (x_box rfl) fun g5 => ?_
      refine h_op (r_assign rfl) ?_
      refine h_nil ?_
      refine q_then ?_
      refine h_seq ?_
      refine h_reg ?_
      refine h_op (r_move rfl) ?_
      refine h_op (r_move rfl) ?_
      refine h_call ((Tree_yes n hn l B c hf h hvl).comes) rfl rfl rfl fun ⟨⟨h1, q1, A1, c1⟩, hle1, ht1⟩ => ?_
      dsimp only at hle1 ht1 ⊢
      refine h_freezeO (.slice A1 (ofM l).length c1) fun h2 B2 c2 e2 hle2 hlen2 hnil2 hz2 hr2 => ?_
      injection e2 with e2 _ e3
      subst e2 e3
      have hT2 : RdZ h2 (some ⟨0, 0, none⟩) hashT := (hT.mono hle1).mono hz2
      refine h_op (r_move rfl) ?_
      refine h_op (r_extract rfl rfl) ?_
      refine h_op (r_extract rfl rfl) ?_
      refine h_op (r_extract rfl rfl) ?_
      refine h_op (r_assign rfl) ?_
      refine h_op (r_assign rfl) ?_
      refine h_op (r_assign rfl) ?_
      refine h_nil ?_
      refine q_then ?_
      refine h_seq ?_
      refine h_reg ?_
      refine h_op (r_move rfl) ?_
      refine h_call ((Hash_s n hn).comes) rfl rfl rfl fun ⟨gh, gc⟩ => ?_
      dsimp only
      refine h_op (r_assign rfl) ?_
      refine h_nil ?_
      refine q_then ?_
      refine h_seq ?_
      refine h_seq ?_
      refine h_reg ?_
      refine h_op (r_move rfl) ?_
      refine h_op (r_not rfl) ?_
      refine h_nil ?_
      refine q_then ?_
      refine h_condF rfl ?_
      refine h_skip ?_
      refine q_then ?_
      refine h_seq ?_
      refine h_reg ?_
      refine h_op (r_move rfl) ?_
      refine h_op (r_move rfl) ?_
      refine h_op (r_loadr rfl) ?_
      refine h_call ((rProve_s n hn h2 (ofM l) A1 c1 (ValsZ.few hvl (hle1.trans hz2)) hal key D hD hw.last hw.more (by omega) (mkT (ofM l) 0) hw.sib (hw.on D (Nat.le_refl _))).comes) rfl rfl rfl fun ⟨⟨h4, A29, c29⟩, hle4⟩ => ?_
      dsimp only at hle4 ⊢
      have hT4 : RdZ h4 (some ⟨0, 0, none⟩) hashT := hT2.mono hle4
      have ht4 : TrZ n h4 (mkT (ofM l) 0) q1 := ⟨(ht1.ok.mono hz2).mono hle4⟩
      refine h_opX (x_alloc) fun g11 => ?_
      refine h_opS (s_storer rfl rfl) ?_
      refine h_nil ?_
      refine q_then ?_
      refine h_seq ?_
      refine h_reg ?_
      refine h_op (r_move rfl) ?_
      refine h_op (r_move rfl) ?_
      refine h_op (r_loadr rfl) ?_
      refine h_call ((Prove_s n hn gh gc 0 (by decide) h4 (mkT (ofM l) 0) q1 key D hw.way).comes) rfl rfl rfl fun ⟨A34, c34⟩ => ?_
      dsimp only
      refine h_call ((hE A34 c34).comes (hr := inferInstanceAs (Rds _ [.rd A34 (dgs (rsK n key (mkT (ofM l) 0) D))]))) rfl rfl rfl fun ⟨A35, c35⟩ => ?_
      dsimp only
      refine h_op (r_move rfl) ?_
      refine h_op (r_extract rfl rfl) ?_
      refine h_op (r_extract rfl rfl) ?_
      refine h_op (r_assign rfl) ?_
      refine h_op (r_assign rfl) ?_
      refine h_nil ?_
      refine q_then ?_
      refine h_seq ?_
      refine h_reg ?_
      refine h_call ((alive17_s h4).comes) rfl rfl rfl fun ⟨h5, hle5⟩ => ?_
      dsimp only
      have hel' := (hel A34 c34).trans hlc
      refine h_op (r_move rfl) ?_
      refine h_op (r_move rfl) ?_
      refine h_op (r_bool (r_eql rfl rfl) (show _ = true from rfl)) ?_
      refine h_op (r_pick rfl rfl) ?_
      refine h_op (r_move rfl) ?_
      refine h_op (r_move rfl) ?_
      refine h_op (r_len rfl) ?_
      refine h_op (r_field rfl) ?_
      refine h_op (r_int (r_loadc rfl) (show _ = (k : Int) from congrArg Nat.cast hk)) ?_
      refine h_op (r_mul rfl rfl) ?_
      refine h_op (r_add rfl rfl) ?_
      refine h_op (r_field rfl) ?_
      refine h_op (r_loadc rfl) ?_
      refine h_op (r_int (r_len rfl) (show _ = (((dsK key (mkT (ofM l) 0) D).length : Nat) : Int) from rfl)) ?_
      refine h_op (r_mul rfl rfl) ?_
      refine h_op (r_add rfl rfl) ?_
      refine h_op (r_bool (r_eql rfl rfl) (decide_eq_true (by omega))) ?_
      refine h_op (r_pick rfl rfl) ?_
      refine h_op (r_move rfl) ?_
      refine h_op (r_move rfl) ?_
      refine h_op (r_len rfl) ?_
      refine h_op (r_loadr rfl) ?_
      refine h_call ((hDs A29 c29).comes) rfl rfl rfl fun ⟨A61, c61⟩ => ?_
      refine h_op (r_int (r_len rfl) (show _ = (((dsK key (mkT (ofM l) 0) D).length : Nat) : Int) from congrArg Nat.cast hdd)) ?_
      refine h_op (r_mul rfl rfl) ?_
      refine h_op (r_add rfl rfl) ?_
      refine h_op (r_bool (r_leq rfl rfl) (decide_eq_true (by omega))) ?_
      refine h_op (r_pick rfl rfl) ?_
      refine h_op (r_assign rfl) ?_
      refine h_nil ?_
      refine q_then ?_
      refine h_ret ?_
      exact h_ret1 rfl rfl fun w s => ⟨⟨h5, ((hle1.trans hz2).trans hle4).trans hle5⟩, rfl, (same (L' := [.zone true h5]) w s).res (List.Sublist.refl _) (by simp [Fa.wr])⟩
    · refine h_seq ?_
      refine h_reg ?_
      refine h_opX (x_box rfl) fun g5 => ?_
      refine h_op (r_assign rfl) ?_
      refine h_nil ?_
      refine q_then ?_
      refine h_seq ?_
      refine h_reg ?_
      refine h_op (r_move rfl) ?_
      refine h_op (r_move rfl) ?_
      refine h_call ((Tree_few n hn l B c (by simpa using hf)).comes) rfl rfl rfl fun _ => ?_
      refine h_op (r_move rfl) ?_
      refine h_op (r_extract rfl rfl) ?_
      refine h_op (r_extract rfl rfl) ?_
      refine h_op (r_extract rfl rfl) ?_
      refine h_op (r_assign rfl) ?_
      refine h_op (r_assign rfl) ?_
      refine h_op (r_assign rfl) ?_
      refine h_nil ?_
      refine q_then ?_
      refine h_seq ?_
      refine h_reg ?_
      refine h_op (r_move rfl) ?_
      refine h_call ((Hash_s n hn).comes) rfl rfl rfl fun ⟨gh, gc⟩ => ?_
      dsimp only
      refine h_op (r_assign rfl) ?_
      refine h_nil ?_
      refine q_then ?_
      refine h_seq ?_
      refine h_seq ?_
      refine h_reg ?_
      refine h_op (r_move rfl) ?_
      refine h_op (r_not rfl) ?_
      refine h_nil ?_
      refine q_then ?_
      refine h_condT rfl ?_
      refine h_seq ?_
      refine h_reg ?_
      refine h_call ((alive17_s h).comes) rfl rfl rfl fun ⟨h1, hle1⟩ => ?_
      dsimp only
      refine h_op (r_assign rfl) ?_
      refine h_nil ?_
      refine q_then ?_
      refine h_ret ?_
      refine q_thenR ?_
      exact h_ret1 rfl rfl fun w s => ⟨⟨h1, hle1⟩, rfl, (same (L' := [.zone true h1]) w s).res (List.Sublist.refl _) (by simp [Fa.wr])⟩
  · refine h_seq ?_
    refine h_reg ?_
    refine h_opX (x_box rfl) fun g5 => ?_
    refine h_op (r_assign rfl) ?_
    refine h_nil ?_
    refine q_then ?_
    refine h_seq ?_
    refine h_reg ?_
    refine h_op (r_move rfl) ?_
    refine h_op (r_move rfl) ?_
    refine h_call ((Tree_bits i hi l B c).comes) rfl rfl rfl fun _ => ?_
    refine h_op (r_move rfl) ?_
    refine h_op (r_extract rfl rfl) ?_
    refine h_op (r_extract rfl rfl) ?_
    refine h_op (r_extract rfl rfl) ?_
    refine h_op (r_assign rfl) ?_
    refine h_op (r_assign rfl) ?_
    refine h_op (r_assign rfl) ?_
    refine h_nil ?_
    refine q_then ?_
    refine h_seq ?_
    refine h_reg ?_
    refine h_op (r_move rfl) ?_
    refine h_call ((Hash_no i hi).comes) rfl rfl rfl fun _ => ?_
    refine h_op (r_assign rfl) ?_
    refine h_nil ?_
    refine q_then ?_
    refine h_seq ?_
    refine h_seq ?_
    refine h_reg ?_
    refine h_op (r_move rfl) ?_
    refine h_op (r_not rfl) ?_
    refine h_nil ?_
    refine q_then ?_
    refine h_condT rfl ?_
    refine h_seq ?_
    refine h_reg ?_
    refine h_call ((alive17_s h).comes) rfl rfl rfl fun ⟨h1, hle1⟩ => ?_
    dsimp only
    refine h_op (r_assign rfl) ?_
    refine h_nil ?_
    refine q_then ?_
    refine h_ret ?_
    refine q_thenR ?_
    exact h_ret1 rfl rfl fun w s => ⟨⟨h1, hle1⟩, rfl, (same (L' := [.zone true h1]) w s).res (List.Sublist.refl _) (by simp [Fa.wr])⟩
end
end Go.Proofs.YtdfeimdhlagebaaGreatDoor
