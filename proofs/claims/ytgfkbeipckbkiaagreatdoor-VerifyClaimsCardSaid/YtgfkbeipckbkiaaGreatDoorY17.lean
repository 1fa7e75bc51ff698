/- law18.alive: it is true; The hasher's count, read; law18: VerifyChecks, VerifyExplains, VerifyClaims are true (joined texts: U100 U10c U101) -/
import Derived.Test.YtgfkbeipckbkiaaGreatDoorY16
set_option linter.all false
/- U100 -/
namespace Go.Proofs.YtgfkbeipckbkiaaGreatDoor
set_option linter.unusedSimpArgs false
set_option linter.unusedVariables false
open Go.RowKit
theorem sl31 {z : Zh} {g : Nat} {x : B32} (hr : RdZ z (some ⟨g, 0, none⟩) x.cells) : SlZ z ⟨some ⟨g, 0, none⟩, 31, 32⟩ (x.1.take 31) := by
  refine ⟨by rw [List.length_take, x.2]; rfl, Nat.le_succ 31, (fun h => by cases h), ⟨fun j v hv => hr.at_ j v ?_⟩⟩
  have e : x.cells = bc (x.1.take 31) ++ bc (x.1.drop 31) := by rw [← bc_app, List.take_append_drop]; rfl
  rw [e, List.getElem?_append_left (List.getElem?_eq_some_iff.1 hv).1]
  exact hv
theorem sl32 {z : Zh} {g : Nat} {x : B32} (hr : RdZ z (some ⟨g, 0, none⟩) x.cells) : SlZ z ⟨some ⟨g, 0, none⟩, 32, 32⟩ x.1 := ⟨x.2.symm, Nat.le_refl _, (fun h => by cases h), hr⟩
/-- what stood in the zone still does -/
theorem zb {A : List Fa} {W : World} {z z' : Zh} (hl : LeZ z z') {C : Fa} {L M M' : List Fa} [tz : TakeZ L z' M] [tc : Take [C] M M'] : ∀ w, Sx A W w L → Sx A W w [.zone false z, C] := fun w s => by
  have s1 := s.perm tz.perm
  have s2 : Sx A W w (.zone true z' :: ([C] ++ M')) := s1.perm (tc.perm.cons _)
  have s3 : Sx A W w [.zone true z', C] := s2.sub (List.Sublist.cons_cons _ (List.Sublist.cons_cons _ (List.nil_sublist _)))
  have hz := s3.ok (.zone true z') (List.mem_cons_self ..)
  have hC := s3.sub (List.sublist_cons_self _ _)
  refine hC.cons (fun k o ho => hz k o (hl.le k o ho)) (fun g hg hw k hk1 hk2 => ?_) (fun h => by cases h)
  obtain ⟨h1, h2⟩ := List.pairwise_cons.1 s3.sep
  obtain ⟨o, ho⟩ := hk1
  exact h1 g hg (by rw [Bool.or_eq_true]; exact .inl rfl) k ⟨o, hl.le k o ho⟩ hk2
theorem alive18_s (h : Zh) [hT : RdZ h (some ⟨2, 0, none⟩) hashT] [hE : RdZ h (some ⟨0, 0, none⟩) [rty 76]] : Spec Tryz.prog 34 ([] : List Value).toArray [] [.zone true h] (fun _ : {x : Zh // LeZ h x} => .bool true) (fun x => [.zone true x.1]) := by
  have hrn : RdZ h none (dgs []) := RdZ.nil _ _
  have hEn := cEncode_s zProof 0 0 check18 rfl rfl (.inl rfl) [] rfl
  refine spec_of Tryz.func34 rfl (n := 92) rfl rfl ?_
  intro W
  refine h_seq ?_
  refine h_reg ?_
  refine h_op (r_assign rfl) ?_
  refine h_nil ?_
  refine q_then ?_
  refine h_seq ?_
  refine h_reg ?_
  refine h_call ((Hash_s 256 (by decide)).comes) rfl rfl rfl fun ⟨gh, gc⟩ => ?_
  dsimp only
  refine h_op (r_assign rfl) ?_
  refine h_nil ?_
  refine q_then ?_
  refine h_seq ?_
  refine h_seq ?_
  refine h_reg ?_
  refine h_op (r_move rfl) ?_
  refine h_op (r_nilR rfl rfl) ?_
  refine h_nil ?_
  refine q_then ?_
  refine h_condF rfl ?_
  refine h_skip ?_
  refine q_then ?_
  refine h_seq ?_
  refine h_reg ?_
  refine h_call ((rEmpty_s 256 (by decide)).comes) rfl rfl rfl fun _ => ?_
  refine h_opX (x_alloc) fun g2 => ?_
  refine h_opS (s_storer rfl rfl) ?_
  refine h_nil ?_
  refine q_then ?_
  refine h_seq ?_
  refine h_reg ?_
  refine h_op (r_build rfl) ?_
  refine h_call ((hEn.comes (hr := inferInstanceAs (Rds _ [.rd none (dgs [])])))) rfl rfl rfl fun ⟨A16, c16⟩ => ?_
  dsimp only
  refine h_op (r_move rfl) ?_
  refine h_op (r_extract rfl rfl) ?_
  refine h_op (r_extract rfl rfl) ?_
  refine h_op (r_assign rfl) ?_
  refine h_op (r_assign rfl) ?_
  refine h_nil ?_
  refine q_then ?_
  refine h_seq ?_
  refine h_reg ?_
  refine h_opX (x_makeB rfl rfl) fun g19 => ?_
  refine h_op (r_build rfl) ?_
  refine h_opX (x_alloc) fun g5 => ?_
  refine h_opS (s_storer rfl rfl) ?_
  refine h_nil ?_
  refine q_then ?_
  refine h_seq ?_
  change H _ _ _ _ _ (.blk g5 (Claim.cells ⟨⟨some ⟨g19, 0, none⟩, 32, 32⟩, ⟨none, 0, 0⟩, false⟩) _ :: .own (.slice (some ⟨g19, 0, none⟩) 32 32) 32 _ 1 (bc kb18) :: .own (.slice A16 36 c16) 36 _ 1 (bc bb18) :: .blk g2 E18.cells _ :: _) _
  refine h_freeze g2 (cs := E18.cells) (T := 41) fun z1 hz1 hr1 => ?_
  refine h_freezeO (.slice A16 36 c16) fun z2 B2 c2 e2 hle2 hlen2 hnil2 hz2 hr2 => ?_
  injection e2 with e2 _ e2'
  subst e2 e2'
  refine h_freezeO (.slice (some ⟨g19, 0, none⟩) 32 32) fun z3 B3 c3 e3 hle3 hlen3 hnil3 hz3 hr3 => ?_
  injection e3 with e3 _ e3'
  subst e3 e3'
  have hT3 : RdZ z3 (some ⟨2, 0, none⟩) hashT := ((hT.mono hz1).mono hz2).mono hz3
  have hE3 : RdZ z3 (some ⟨0, 0, none⟩) [rty 76] := ((hE.mono hz1).mono hz2).mono hz3
  have hr13 : RdZ z3 (some ⟨g2, 0, none⟩) E18.cells := (hr1.mono hz2).mono hz3
  have sr31 := sl31 hr13
  have sr32 := sl32 hr13
  have sb : SlZ z3 ⟨A16, 36, c16⟩ bb18 := ⟨rfl, hle2, hnil2, hr2.mono hz3⟩
  have sk : SlZ z3 ⟨some ⟨g19, 0, none⟩, 32, 32⟩ kb18 := ⟨rfl, Nat.le_refl _, (fun h => by cases h), hr3⟩
  have s0 : ∀ z, SlZ z ⟨none, 0, 0⟩ [] := slz_nil
  have hV1 := fun (z : Zh) (_ : RdZ z (some ⟨2, 0, none⟩) hashT) (_ : SlZ z ⟨some ⟨g2, 0, none⟩, 31, 32⟩ (E18.1.take 31)) k hk => Verify_s 256 (by decide) z gh gc k hk ⟨some ⟨g2, 0, none⟩, 31, 32⟩ zClaim ⟨none, 0, 0⟩ (E18.1.take 31) [] [] [] (hK := s0 z) (hV := s0 z) (hB := s0 z) (by decide) (by decide)
  have hC1 := fun (z : Zh) (_ : RdZ z (some ⟨2, 0, none⟩) hashT) (_ : RdZ z (some ⟨0, 0, none⟩) [rty 76]) (_ : SlZ z ⟨some ⟨g2, 0, none⟩, 31, 32⟩ (E18.1.take 31)) k hk => vCheck_s 256 (by decide) z gh gc k hk ⟨some ⟨g2, 0, none⟩, 31, 32⟩ zClaim ⟨none, 0, 0⟩ (E18.1.take 31) [] [] [] (hK := s0 z) (hV := s0 z) (hB := s0 z) (by decide) (by decide)
  have hV2 := fun (z : Zh) (_ : RdZ z (some ⟨2, 0, none⟩) hashT) (_ : SlZ z ⟨some ⟨g2, 0, none⟩, 32, 32⟩ E18.1) (hK : SlZ z ⟨some ⟨g19, 0, none⟩, 32, 32⟩ kb18) (_ : SlZ z ⟨A16, 36, c16⟩ bb18) k hk => Verify_s 256 (by decide) z gh gc k hk ⟨some ⟨g2, 0, none⟩, 32, 32⟩ ⟨⟨some ⟨g19, 0, none⟩, 32, 32⟩, ⟨none, 0, 0⟩, false⟩ ⟨A16, 36, c16⟩ E18.1 kb18 [] bb18 (hK := hK) (hV := s0 z) (by decide) (by decide)
  have hC2 := fun (z : Zh) (_ : RdZ z (some ⟨2, 0, none⟩) hashT) (_ : RdZ z (some ⟨0, 0, none⟩) [rty 76]) (_ : SlZ z ⟨some ⟨g2, 0, none⟩, 32, 32⟩ E18.1) (hK : SlZ z ⟨some ⟨g19, 0, none⟩, 32, 32⟩ kb18) (_ : SlZ z ⟨A16, 36, c16⟩ bb18) k hk => vCheck_s 256 (by decide) z gh gc k hk ⟨some ⟨g2, 0, none⟩, 32, 32⟩ ⟨⟨some ⟨g19, 0, none⟩, 32, 32⟩, ⟨none, 0, 0⟩, false⟩ ⟨A16, 36, c16⟩ E18.1 kb18 [] bb18 (hK := hK) (hV := s0 z) (by decide) (by decide)
  have hA1 := fun (z : Zh) (_ : RdZ z (some ⟨2, 0, none⟩) hashT) (hK : SlZ z ⟨some ⟨g19, 0, none⟩, 32, 32⟩ kb18) k hk root => Accepts_s 256 (by decide) z gh gc k hk root ⟨⟨some ⟨g19, 0, none⟩, 32, 32⟩, ⟨none, 0, 0⟩, false⟩ kb18 [] (hK := hK) (hV := s0 z) (by decide) zProof [] rfl (hS := RdZ.nil _ _)
  have hCl := Claim_s zClaim
  rw [show claimE zClaim = 2 from rfl] at hCl
  simp only [first18, first18b, errV, errN, errE] at hV1 hV2 hC1 hC2
  have hA1t := fun z a b k hk => hA1 z a b k hk E18
  have hA1f := fun z a b k hk => hA1 z a b k hk zB32
  simp only [acc18] at hA1t
  simp only [acc18b] at hA1f
  refine h_reg ?_
  refine h_op (r_move rfl) ?_
  refine h_op (r_slAH rfl rfl) ?_
  refine h_op (r_build rfl) ?_
  refine h_call ((hV1 z3 hT3 sr31 0 (by decide)).comes) rfl rfl rfl fun ⟨⟨g24, z4, k4⟩, hz4, hk4⟩ => ?_
  dsimp only at hz4 hk4 ⊢
  have hT4 : RdZ z4 (some ⟨2, 0, none⟩) hashT := hT3.mono hz4
  have hE4 : RdZ z4 (some ⟨0, 0, none⟩) [rty 76] := hE3.mono hz4
  have hr14 : RdZ z4 (some ⟨g2, 0, none⟩) E18.cells := hr13.mono hz4
  have sr31' := sl31 hr14
  have sr32' := sl32 hr14
  have sb' : SlZ z4 ⟨A16, 36, c16⟩ bb18 := sb.mono hz4
  have sk' : SlZ z4 ⟨some ⟨g19, 0, none⟩, 32, 32⟩ kb18 := sk.mono hz4
  refine h_op (r_assign rfl) ?_
  refine h_nil ?_
  refine q_then ?_
  refine h_seq ?_
  refine h_reg ?_
  refine h_op (r_move rfl) ?_
  refine h_call ((First_s g24 verifyB ((0 : Nat) : Int) 4).comes) rfl rfl rfl fun _ => ?_
  refine h_op (r_move rfl) ?_
  refine h_op (r_extract rfl rfl) ?_
  refine h_op (r_extract rfl rfl) ?_
  refine h_op (r_extract rfl rfl) ?_
  refine h_op (r_assign rfl) ?_
  refine h_op (r_assign rfl) ?_
  refine h_op (r_assign rfl) ?_
  refine h_nil ?_
  refine q_then ?_
  refine h_seq ?_
  refine ha_start [.zone false z4, .blk g5 (Claim.cells ⟨⟨some ⟨g19, 0, none⟩, 32, 32⟩, ⟨none, 0, 0⟩, false⟩) 70] [] mixed (zb (LeZ.refl z4)) ?_
  refine ha_takeP 0 rfl (r_move rfl) ?_
  refine ha_takeP 1 rfl (r_bool (r_eql rfl rfl) rfl) ?_
  refine ha_takeP 2 rfl (r_move rfl) ?_
  refine ha_takeP 3 rfl (r_move rfl) ?_
  refine ha_takeP 4 rfl (r_slAH rfl rfl) ?_
  refine ha_takeP 5 rfl (r_build rfl) ?_
  refine ha_one 6 ?_
  refine ho_C 6 rfl ((hC1 z4 hT4 hE4 sr31' k4 (by omega)).comes) rfl rfl rfl (fun xx => zb xx.2.1) fun ⟨⟨z5, k5⟩, hz5, hk5⟩ => ?_
  refine ha_takeP 7 rfl (r_bool (r_eql rfl rfl) rfl) ?_
  refine ha_takeP 8 rfl (r_pick rfl rfl) ?_
  refine ha_takeP 9 rfl (r_move rfl) ?_
  refine ha_takeP 10 rfl (r_move rfl) ?_
  refine ha_one 11 ?_
  refine ho_C 11 rfl ((Code_s g24 verifyB ((0 : Nat) : Int) 4).comes) rfl rfl rfl (fun xx => zb hz5) fun _ => ?_
  refine ha_takeP 12 rfl (r_bool (r_eql rfl rfl) rfl) ?_
  refine ha_takeP 13 rfl (r_pick rfl rfl) ?_
  refine ha_takeP 14 rfl (r_move rfl) ?_
  refine ha_takeP 15 rfl (r_move rfl) ?_
  refine ha_takeP 16 rfl (r_bool (r_eqS rfl rfl) (show (verifyB.toList == verifyB.toList) = true from beq_self_eq_true _)) ?_
  refine ha_takeP 17 rfl (r_pick rfl rfl) ?_
  refine ha_takeP 18 rfl (r_move rfl) ?_
  refine ha_takeP 19 rfl (r_move rfl) ?_
  refine ha_takeP 20 rfl (r_bool (r_eql rfl rfl) rfl) ?_
  refine ha_takeP 21 rfl (r_pick rfl rfl) ?_
  refine ha_takeP 22 rfl (r_move rfl) ?_
  refine ha_takeP 23 rfl (r_move rfl) ?_
  refine ha_takeP 24 rfl (r_pick rfl rfl) ?_
  refine ha_takeP 25 rfl (r_move rfl) ?_
  refine ha_takeP 26 rfl (r_move rfl) ?_
  refine ha_takeP 27 rfl (r_slA rfl) ?_
  refine ha_take 28 rfl (r_loadr rfl) ?_
  refine ha_takeP 29 rfl (r_move rfl) ?_
  refine ha_one 30 ?_
  refine ho_C 30 rfl ((hC2 z5 (hT4.mono hz5) (hE4.mono hz5) (sr32'.mono hz5) (sk'.mono hz5) (sb'.mono hz5) k5 (by have h5 : k5 ≤ k4 + 259 := hk5; omega)).comes) rfl rfl rfl (fun xx => zb (LeZ.trans hz5 xx.2.1)) fun ⟨⟨z6, k6⟩, hz6, hk6⟩ => ?_
  refine ha_takeP 31 rfl (r_bool (r_eql rfl rfl) rfl) ?_
  refine ha_takeP 32 rfl (r_pick rfl rfl) ?_
  refine ha_takeP 33 rfl (r_move rfl) ?_
  refine ha_takeP 34 rfl (r_move rfl) ?_
  refine ha_takeP 35 rfl (r_slA rfl) ?_
  refine ha_take 36 rfl (r_loadr rfl) ?_
  refine ha_takeP 37 rfl (r_move rfl) ?_
  refine ha_one 38 ?_
  refine ho_C 38 rfl ((hV2 z6 ((hT4.mono hz5).mono hz6) ((sr32'.mono hz5).mono hz6) ((sk'.mono hz5).mono hz6) ((sb'.mono hz5).mono hz6) k6 (by have h5 : k5 ≤ k4 + 259 := hk5; have h6 : k6 ≤ k5 + 259 := hk6; omega)).comes) rfl rfl rfl (fun xx => zb (LeZ.trans (LeZ.trans hz5 hz6) xx.2.1)) fun ⟨⟨g69, z7, k7⟩, hz7, hk7⟩ => ?_
  refine ha_takeP 39 rfl (r_nilnil rfl) ?_
  refine ha_takeP 40 rfl (r_pick rfl rfl) ?_
  refine ha_takeP 41 rfl (r_move rfl) ?_
  refine ha_takeP 42 rfl (r_build rfl) ?_
  refine ha_one 43 ?_
  refine ho_C 43 rfl (hCl.comes) rfl rfl rfl (fun xx => zb (LeZ.trans (LeZ.trans hz5 hz6) hz7)) fun _ => ?_
  refine ha_takeP 44 rfl (r_bool (r_eql rfl rfl) rfl) ?_
  refine ha_takeP 45 rfl (r_pick rfl rfl) ?_
  refine ha_takeP 46 rfl (r_move rfl) ?_
  refine ha_takeP 47 rfl (r_move rfl) ?_
  refine ha_take 48 rfl (r_loadr rfl) ?_
  refine ha_take 49 rfl (r_loadr rfl) ?_
  refine ha_takeP 50 rfl (r_build rfl) ?_
  refine ha_one 51 ?_
  refine ho_C 51 rfl ((hA1t z7 (((hT4.mono hz5).mono hz6).mono hz7) (((sk'.mono hz5).mono hz6).mono hz7) k7 (by have h5 : k5 ≤ k4 + 259 := hk5; have h6 : k6 ≤ k5 + 259 := hk6; have h7 : k7 ≤ k6 + 259 := hk7; omega)).comes) rfl rfl rfl (fun xx => zb (LeZ.trans (LeZ.trans (LeZ.trans hz5 hz6) hz7) xx.2.1)) fun ⟨⟨z8, k8⟩, hz8, hk8⟩ => ?_
  refine ha_takeP 52 rfl (r_pick rfl rfl) ?_
  refine ha_takeP 53 rfl (r_move rfl) ?_
  refine ha_takeP 54 rfl (r_move rfl) ?_
  refine ha_takeP 55 rfl (r_build rfl) ?_
  refine ha_take 56 rfl (r_loadr rfl) ?_
  refine ha_takeP 57 rfl (r_build rfl) ?_
  refine ha_one 58 ?_
  refine ho_C 58 rfl ((hA1f z8 ((((hT4.mono hz5).mono hz6).mono hz7).mono hz8) ((((sk'.mono hz5).mono hz6).mono hz7).mono hz8) k8 (by have h5 : k5 ≤ k4 + 259 := hk5; have h6 : k6 ≤ k5 + 259 := hk6; have h7 : k7 ≤ k6 + 259 := hk7; have h8 : k8 ≤ k7 + 259 := hk8; omega)).comes) rfl rfl rfl (fun xx => zb (LeZ.trans (LeZ.trans (LeZ.trans (LeZ.trans hz5 hz6) hz7) hz8) xx.2.1)) fun ⟨⟨z9, k9⟩, hz9, hk9⟩ => ?_
  refine ha_takeP 59 rfl (r_not rfl) ?_
  refine ha_takeP 60 rfl (r_pick rfl rfl) ?_
  refine ha_takeP 61 rfl (r_assign rfl) ?_
  refine ha_done (by kernel_rfl) ?_
  refine q_then ?_
  refine h_ret ?_
  have hzz : LeZ h z9 := (((hz1.trans hz2).trans (hz3.trans hz4)).trans (LeZ.trans hz5 (LeZ.trans hz6 hz7))).trans (LeZ.trans hz8 hz9)
  exact h_ret1 rfl rfl fun w s => ⟨⟨z9, hzz⟩, rfl, (same (L' := [.zone true z9]) w s).res (List.Sublist.refl _) (by simp [Fa.wr])⟩
end Go.Proofs.YtgfkbeipckbkiaaGreatDoor
/- U10c -/
namespace Go.Proofs.YtgfkbeipckbkiaaGreatDoor
set_option linter.unusedSimpArgs false
set_option linter.unusedVariables false
open Go.RowKit
theorem cCalls_s (k : Nat) : Spec Tryz.prog 87 [.agg [.int .i64 (k : Int)].toArray].toArray [] [] (fun _ : Unit => .int .i64 (k : Int)) (fun _ => []) := by
  refine spec_of Tryz.func87 rfl (n := 5) rfl rfl ?_
  intro W
  refine h_seq ?_
  refine h_reg ?_
  refine h_opX (x_box rfl) fun g1 => ?_
  refine h_op (r_assign rfl) ?_
  refine h_nil ?_
  refine q_then ?_
  refine h_seq ?_
  refine h_reg ?_
  refine h_op (r_field rfl) ?_
  refine h_op (r_loadc rfl) ?_
  refine h_op (r_assign rfl) ?_
  refine h_nil ?_
  refine q_then ?_
  refine h_ret ?_
  exact h_ret1 rfl rfl fun w s => ⟨(), rfl, s.res (List.nil_sublist _) (by simp)⟩
theorem Calls_s (n gh gc k : Nat) : Spec Tryz.prog 45 [.pointer (some ⟨gh, 0, none⟩)].toArray [.rd (some ⟨gh, 0, none⟩) [.pointer (some ⟨gc, 0, none⟩), .int .i64 (n : Int)], .rd (some ⟨gc, 0, none⟩) [.int .i64 (k : Int)]] [] (fun _ : Unit => .int .i64 (k : Int)) (fun _ => []) := by
  refine spec_of Tryz.func45 rfl (n := 12) rfl rfl ?_
  intro W
  refine h_seq ?_
  refine h_reg ?_
  refine h_op (r_assign rfl) ?_
  refine h_nil ?_
  refine q_then ?_
  refine h_seq ?_
  refine h_seq ?_
  refine h_reg ?_
  refine h_op (r_move rfl) ?_
  refine h_op (r_nilR rfl rfl) ?_
  refine h_nil ?_
  refine q_then ?_
  refine h_condF rfl ?_
  refine h_skip ?_
  refine q_then ?_
  refine h_seq ?_
  refine h_reg ?_
  refine h_op (r_move rfl) ?_
  refine h_op (r_nilc rfl) ?_
  refine h_op (r_field rfl) ?_
  refine h_op (r_loadc rfl) ?_
  refine h_op (r_nilc rfl) ?_
  refine h_op (r_loadr rfl) ?_
  refine h_call ((cCalls_s k).comes) rfl rfl rfl fun _ => ?_
  refine h_op (r_assign rfl) ?_
  refine h_nil ?_
  refine q_then ?_
  refine h_ret ?_
  exact h_ret1 rfl rfl fun w s => ⟨(), rfl, s.res (List.nil_sublist _) (by simp)⟩
end Go.Proofs.YtgfkbeipckbkiaaGreatDoor
/- U101 -/
namespace Go.Proofs.YtgfkbeipckbkiaaGreatDoor
set_option linter.unusedSimpArgs false
set_option linter.unusedVariables false
open Go.RowKit
theorem firstF_ne (code : Nat → Int) : ∀ m i j e, firstF code m i = some (j, e) → e ≠ 0
  | 0, _, _, _, h => by cases h
  | m + 1, i, j, e, h => by
    unfold firstF at h
    split at h
    · exact firstF_ne code m (i + 1) j e h
    · injection h with h
      injection h with h1 h2
      rw [← h2]; assumption
section
variable (h : Zh) [hT : RdZ h (some ⟨2, 0, none⟩) hashT] [hE : RdZ h (some ⟨0, 0, none⟩) [rty 76]]
theorem VerifyChecks_s (i : Int) (c : Claim) (kb vb : List UInt8) [hK : SlZ h c.key kb] [hV : SlZ h c.value vb] (r b : Sl) (rb bb : List UInt8) [hR : SlZ h r rb] [hB : SlZ h b bb] : Spec Tryz.prog 9 [.int .i64 i, .agg c.cells.toArray, .agg [.slice r.A r.n r.c, .slice b.A b.n b.c].toArray].toArray [] [.zone true h] (fun _ : {x : Zh // LeZ h x} => .bool true) (fun x => [.zone true x.1]) := by
  have hSh := Short_s c
  have hvn := hV.len
  have hbn := hB.len
  refine spec_of Tryz.func9 rfl (n := 64) rfl rfl ?_
  intro W
  refine h_seq ?_
  refine h_reg ?_
  refine h_opX (x_box rfl) fun g4 => ?_
  refine h_opX (x_box rfl) fun g5 => ?_
  refine h_op (r_assign rfl) ?_
  refine h_nil ?_
  refine q_then ?_
  refine h_seq ?_
  refine ha_start [.blk g5 [.slice r.A r.n r.c, .slice b.A b.n b.c] 71] [] mixed (same) ?_
  refine ha_takeP 0 rfl (r_idxA rfl rfl) ?_
  refine ha_take 1 rfl (r_loadc rfl) ?_
  refine ha_takeP 2 rfl (r_idxA rfl rfl) ?_
  refine ha_take 3 rfl (r_loadc rfl) ?_
  refine ha_takeP 4 rfl (r_assign rfl) ?_
  refine ha_takeP 5 rfl (r_assign rfl) ?_
  refine ha_done (by kernel_rfl) ?_
  refine q_then ?_
  refine h_seq ?_
  refine h_seq ?_
  refine h_reg ?_
  refine h_op (r_move rfl) ?_
  by_cases hi : 0 ≤ i ∧ i ≤ 256
  · obtain ⟨n, rfl⟩ : ∃ n : Nat, i = (n : Int) := ⟨i.toNat, by omega⟩
    have hn : n ≤ 256 := by omega
    refine h_call ((Right_yes n hn).comes) rfl rfl rfl fun _ => ?_
    by_cases hs : c.key.n ≤ 100 ∧ c.value.n ≤ 70000
    · rw [if_pos hs] at hSh
      refine h_op (r_not rfl) ?_
      refine h_op (r_move rfl) ?_
      refine h_op (r_loadr rfl) ?_
      refine h_call (hSh.comes) rfl rfl rfl fun _ => ?_
      by_cases hr : r.n ≤ 100
      · by_cases hb : b.n ≤ 10000
        · refine h_op (r_bool (r_eql rfl rfl) rfl) ?_
          refine h_op (r_pick rfl rfl) ?_
          refine h_op (r_move rfl) ?_
          refine h_op (r_move rfl) ?_
          refine h_op (r_len rfl) ?_
          refine h_op (r_bool (r_gtr rfl rfl) (decide_eq_false (by omega))) ?_
          refine h_op (r_pick rfl rfl) ?_
          refine h_op (r_move rfl) ?_
          refine h_op (r_move rfl) ?_
          refine h_op (r_len rfl) ?_
          refine h_op (r_bool (r_gtr rfl rfl) (decide_eq_false (by omega))) ?_
          refine h_op (r_pick rfl rfl) ?_
          refine h_nil ?_
          refine q_then ?_
          refine h_condF rfl ?_
          refine h_skip ?_
          refine q_then ?_
          refine h_seq ?_
          refine h_reg ?_
          refine h_op (r_move rfl) ?_
          refine h_call ((Hash_s n hn).comes) rfl rfl rfl fun ⟨gh, gc⟩ => ?_
          dsimp only
          refine h_op (r_assign rfl) ?_
          refine h_nil ?_
          refine q_then ?_
          refine h_seq ?_
          refine h_seq ?_
          refine h_reg ?_
          refine h_op (r_move rfl) ?_
          refine h_op (r_nilR rfl rfl) ?_
          refine h_nil ?_
          refine q_then ?_
          refine h_condF rfl ?_
          refine h_skip ?_
          refine q_then ?_
          refine h_seq ?_
          refine h_reg ?_
          refine h_op (r_move rfl) ?_
          refine h_op (r_move rfl) ?_
          refine h_op (r_loadr rfl) ?_
          refine h_op (r_move rfl) ?_
          refine h_call ((rCheck18_s n hn h r c b rb kb vb bb (by omega) (by omega)).comes) rfl rfl rfl fun ⟨z1, hz1⟩ => ?_
          dsimp only
          have hT1 : RdZ z1 (some ⟨2, 0, none⟩) hashT := hT.mono hz1
          have hE1 : RdZ z1 (some ⟨0, 0, none⟩) [rty 76] := hE.mono hz1
          have hC := vCheck_s n hn z1 gh gc 0 (by decide) r c b rb kb vb bb (hR := hR.mono hz1) (hK := hK.mono hz1) (hV := hV.mono hz1) (hB := hB.mono hz1) (by omega) (by omega)
          refine h_op (r_move rfl) ?_
          refine h_op (r_extract rfl rfl) ?_
          refine h_op (r_extract rfl rfl) ?_
          refine h_op (r_assign rfl) ?_
          refine h_op (r_assign rfl) ?_
          refine h_nil ?_
          refine q_then ?_
          refine h_seq ?_
          refine h_reg ?_
          refine h_op (r_move rfl) ?_
          refine h_op (r_move rfl) ?_
          refine h_op (r_loadr rfl) ?_
          refine h_op (r_move rfl) ?_
          refine h_call (hC.comes) rfl rfl rfl fun ⟨⟨z2, k2⟩, hz2, hk2⟩ => ?_
          dsimp only at hz2 hk2 ⊢
          have hT2 : RdZ z2 (some ⟨2, 0, none⟩) hashT := hT1.mono hz2
          have hE2 : RdZ z2 (some ⟨0, 0, none⟩) [rty 76] := hE1.mono hz2
          refine h_op (r_assign rfl) ?_
          refine h_nil ?_
          refine q_then ?_
          refine h_seq ?_
          refine h_reg ?_
          refine h_call ((alive18_s z2).comes) rfl rfl rfl fun ⟨z3, hz3⟩ => ?_
          dsimp only
          refine h_op (r_move rfl) ?_
          refine h_op (r_move rfl) ?_
          refine h_op (r_move rfl) ?_
          refine h_op (r_bool (r_eql rfl rfl) (decide_eq_true (scOf_err _).symm)) ?_
          refine h_op (r_pick rfl rfl) ?_
          refine h_op (r_move rfl) ?_
          refine h_op (r_move rfl) ?_
          refine h_call ((Calls_s n gh gc k2).comes) rfl rfl rfl fun _ => ?_
          refine h_op (r_bool (r_leq rfl rfl) (decide_eq_true (by omega))) ?_
          refine h_op (r_pick rfl rfl) ?_
          refine h_op (r_assign rfl) ?_
          refine h_nil ?_
          refine q_then ?_
          refine h_ret ?_
          exact h_ret1 rfl rfl fun w s => ⟨⟨z3, LeZ.trans (LeZ.trans hz1 hz2) hz3⟩, rfl, (same (L' := [.zone true z3]) w s).res (List.Sublist.refl _) (by simp [Fa.wr])⟩
        · refine h_op (r_bool (r_eql rfl rfl) rfl) ?_
          refine h_op (r_pick rfl rfl) ?_
          refine h_op (r_move rfl) ?_
          refine h_op (r_move rfl) ?_
          refine h_op (r_len rfl) ?_
          refine h_op (r_bool (r_gtr rfl rfl) (decide_eq_false (by omega))) ?_
          refine h_op (r_pick rfl rfl) ?_
          refine h_op (r_move rfl) ?_
          refine h_op (r_move rfl) ?_
          refine h_op (r_len rfl) ?_
          refine h_op (r_bool (r_gtr rfl rfl) (decide_eq_true (by omega))) ?_
          refine h_op (r_pick rfl rfl) ?_
          refine h_nil ?_
          refine q_then ?_
          refine h_condT rfl ?_
          refine h_seq ?_
          refine h_reg ?_
          refine h_call ((alive18_s h).comes) rfl rfl rfl fun ⟨h1, hle1⟩ => ?_
          refine h_op (r_assign rfl) ?_
          refine h_nil ?_
          refine q_then ?_
          refine h_ret ?_
          refine q_thenR ?_
          exact h_ret1 rfl rfl fun w s => ⟨⟨h1, hle1⟩, rfl, (same (L' := [.zone true h1]) w s).res (List.Sublist.refl _) (by simp [Fa.wr])⟩
      · refine h_op (r_bool (r_eql rfl rfl) rfl) ?_
        refine h_op (r_pick rfl rfl) ?_
        refine h_op (r_move rfl) ?_
        refine h_op (r_move rfl) ?_
        refine h_op (r_len rfl) ?_
        refine h_op (r_bool (r_gtr rfl rfl) (decide_eq_true (by omega))) ?_
        refine h_op (r_pick rfl rfl) ?_
        refine h_op (r_move rfl) ?_
        refine h_opOff ?_
        refine h_opOff ?_
        refine h_opOff ?_
        refine h_op (r_pick rfl rfl) ?_
        refine h_nil ?_
        refine q_then ?_
        refine h_condT rfl ?_
        refine h_seq ?_
        refine h_reg ?_
        refine h_call ((alive18_s h).comes) rfl rfl rfl fun ⟨h1, hle1⟩ => ?_
        refine h_op (r_assign rfl) ?_
        refine h_nil ?_
        refine q_then ?_
        refine h_ret ?_
        refine q_thenR ?_
        exact h_ret1 rfl rfl fun w s => ⟨⟨h1, hle1⟩, rfl, (same (L' := [.zone true h1]) w s).res (List.Sublist.refl _) (by simp [Fa.wr])⟩
    · rw [if_neg hs] at hSh
      refine h_op (r_not rfl) ?_
      refine h_op (r_move rfl) ?_
      refine h_op (r_loadr rfl) ?_
      refine h_call (hSh.comes) rfl rfl rfl fun _ => ?_
      refine h_op (r_bool (r_eql rfl rfl) rfl) ?_
      refine h_op (r_pick rfl rfl) ?_
      refine h_op (r_move rfl) ?_
      refine h_opOff ?_
      refine h_opOff ?_
      refine h_opOff ?_
      refine h_op (r_pick rfl rfl) ?_
      refine h_op (r_move rfl) ?_
      refine h_opOff ?_
      refine h_opOff ?_
      refine h_opOff ?_
      refine h_op (r_pick rfl rfl) ?_
      refine h_nil ?_
      refine q_then ?_
      refine h_condT rfl ?_
      refine h_seq ?_
      refine h_reg ?_
      refine h_call ((alive18_s h).comes) rfl rfl rfl fun ⟨h1, hle1⟩ => ?_
      refine h_op (r_assign rfl) ?_
      refine h_nil ?_
      refine q_then ?_
      refine h_ret ?_
      refine q_thenR ?_
      exact h_ret1 rfl rfl fun w s => ⟨⟨h1, hle1⟩, rfl, (same (L' := [.zone true h1]) w s).res (List.Sublist.refl _) (by simp [Fa.wr])⟩
  · refine h_call ((Right_no i hi).comes) rfl rfl rfl fun _ => ?_
    refine h_op (r_not rfl) ?_
    refine h_op (r_move rfl) ?_
    refine h_opOff ?_
    refine h_opOff ?_
    refine h_opOff ?_
    refine h_op (r_pick rfl rfl) ?_
    refine h_op (r_move rfl) ?_
    refine h_opOff ?_
    refine h_opOff ?_
    refine h_opOff ?_
    refine h_op (r_pick rfl rfl) ?_
    refine h_op (r_move rfl) ?_
    refine h_opOff ?_
    refine h_opOff ?_
    refine h_opOff ?_
    refine h_op (r_pick rfl rfl) ?_
    refine h_nil ?_
    refine q_then ?_
    refine h_condT rfl ?_
    refine h_seq ?_
    refine h_reg ?_
    refine h_call ((alive18_s h).comes) rfl rfl rfl fun ⟨h1, hle1⟩ => ?_
    refine h_op (r_assign rfl) ?_
    refine h_nil ?_
    refine q_then ?_
    refine h_ret ?_
    refine q_thenR ?_
    exact h_ret1 rfl rfl fun w s => ⟨⟨h1, hle1⟩, rfl, (same (L' := [.zone true h1]) w s).res (List.Sublist.refl _) (by simp [Fa.wr])⟩
theorem VerifyExplains_s (i : Int) (c : Claim) (kb vb : List UInt8) [hK : SlZ h c.key kb] [hV : SlZ h c.value vb] (r b : Sl) (rb bb : List UInt8) [hR : SlZ h r rb] [hB : SlZ h b bb] : Spec Tryz.prog 6 [.int .i64 i, .agg c.cells.toArray, .agg [.slice r.A r.n r.c, .slice b.A b.n b.c].toArray].toArray [] [.zone true h] (fun _ : {x : Zh // LeZ h x} => .bool true) (fun x => [.zone true x.1]) := by
  have hSh := Short_s c
  have hvn := hV.len
  have hbn := hB.len
  refine spec_of Tryz.func6 rfl (n := 88) rfl rfl ?_
  intro W
  refine h_seq ?_
  refine h_reg ?_
  refine h_opX (x_box rfl) fun g4 => ?_
  refine h_opX (x_box rfl) fun g5 => ?_
  refine h_op (r_assign rfl) ?_
  refine h_nil ?_
  refine q_then ?_
  refine h_seq ?_
  refine ha_start [.blk g5 [.slice r.A r.n r.c, .slice b.A b.n b.c] 71] [] mixed (same) ?_
  refine ha_takeP 0 rfl (r_idxA rfl rfl) ?_
  refine ha_take 1 rfl (r_loadc rfl) ?_
  refine ha_takeP 2 rfl (r_idxA rfl rfl) ?_
  refine ha_take 3 rfl (r_loadc rfl) ?_
  refine ha_takeP 4 rfl (r_assign rfl) ?_
  refine ha_takeP 5 rfl (r_assign rfl) ?_
  refine ha_done (by kernel_rfl) ?_
  refine q_then ?_
  refine h_seq ?_
  refine h_seq ?_
  refine h_reg ?_
  refine h_op (r_move rfl) ?_
  by_cases hi : 0 ≤ i ∧ i ≤ 256
  · obtain ⟨n, rfl⟩ : ∃ n : Nat, i = (n : Int) := ⟨i.toNat, by omega⟩
    have hn : n ≤ 256 := by omega
    refine h_call ((Right_yes n hn).comes) rfl rfl rfl fun _ => ?_
    by_cases hs : c.key.n ≤ 100 ∧ c.value.n ≤ 70000
    · rw [if_pos hs] at hSh
      refine h_op (r_not rfl) ?_
      refine h_op (r_move rfl) ?_
      refine h_op (r_loadr rfl) ?_
      refine h_call (hSh.comes) rfl rfl rfl fun _ => ?_
      by_cases hr : r.n ≤ 100
      · by_cases hb : b.n ≤ 10000
        · refine h_op (r_bool (r_eql rfl rfl) rfl) ?_
          refine h_op (r_pick rfl rfl) ?_
          refine h_op (r_move rfl) ?_
          refine h_op (r_move rfl) ?_
          refine h_op (r_len rfl) ?_
          refine h_op (r_bool (r_gtr rfl rfl) (decide_eq_false (by omega))) ?_
          refine h_op (r_pick rfl rfl) ?_
          refine h_op (r_move rfl) ?_
          refine h_op (r_move rfl) ?_
          refine h_op (r_len rfl) ?_
          refine h_op (r_bool (r_gtr rfl rfl) (decide_eq_false (by omega))) ?_
          refine h_op (r_pick rfl rfl) ?_
          refine h_nil ?_
          refine q_then ?_
          refine h_condF rfl ?_
          refine h_skip ?_
          refine q_then ?_
          refine h_seq ?_
          refine h_reg ?_
          refine h_op (r_move rfl) ?_
          refine h_call ((Hash_s n hn).comes) rfl rfl rfl fun ⟨gh, gc⟩ => ?_
          dsimp only
          refine h_op (r_assign rfl) ?_
          refine h_nil ?_
          refine q_then ?_
          refine h_seq ?_
          refine h_seq ?_
          refine h_reg ?_
          refine h_op (r_move rfl) ?_
          refine h_op (r_nilR rfl rfl) ?_
          refine h_nil ?_
          refine q_then ?_
          refine h_condF rfl ?_
          refine h_skip ?_
          refine q_then ?_
          refine h_seq ?_
          refine h_reg ?_
          refine h_op (r_move rfl) ?_
          refine h_op (r_move rfl) ?_
          refine h_op (r_loadr rfl) ?_
          refine h_op (r_move rfl) ?_
          refine h_call ((rCheck18_s n hn h r c b rb kb vb bb (by omega) (by omega)).comes) rfl rfl rfl fun ⟨z1, hz1⟩ => ?_
          dsimp only
          have hT1 : RdZ z1 (some ⟨2, 0, none⟩) hashT := hT.mono hz1
          have hE1 : RdZ z1 (some ⟨0, 0, none⟩) [rty 76] := hE.mono hz1
          have hVf := Verify_s n hn z1 gh gc 0 (by decide) r c b rb kb vb bb (hR := hR.mono hz1) (hK := hK.mono hz1) (hV := hV.mono hz1) (hB := hB.mono hz1) (by omega) (by omega)
          rcases hF : firstC (vcode n r c rb kb vb bb) with _ | ⟨j, e⟩
          · rw [hF] at hVf
            simp only [errV, errN] at hVf
            refine h_op (r_move rfl) ?_
            refine h_op (r_extract rfl rfl) ?_
            refine h_op (r_extract rfl rfl) ?_
            refine h_op (r_assign rfl) ?_
            refine h_op (r_assign rfl) ?_
            refine h_nil ?_
            refine q_then ?_
            refine h_seq ?_
            refine h_reg ?_
            refine h_op (r_move rfl) ?_
            refine h_op (r_move rfl) ?_
            refine h_op (r_loadr rfl) ?_
            refine h_op (r_move rfl) ?_
            refine h_call (hVf.comes) rfl rfl rfl fun ⟨⟨g55, z2, k2⟩, hz2, hk2⟩ => ?_
            dsimp only at hz2 hk2 ⊢
            have hT2 : RdZ z2 (some ⟨2, 0, none⟩) hashT := hT1.mono hz2
            have hE2 : RdZ z2 (some ⟨0, 0, none⟩) [rty 76] := hE1.mono hz2
            refine h_op (r_assign rfl) ?_
            refine h_nil ?_
            refine q_then ?_
            refine h_seq ?_
            refine h_seq ?_
            refine h_reg ?_
            refine h_op (r_move rfl) ?_
            refine h_op (r_bool (r_eql rfl rfl) (show _ = true from rfl)) ?_
            refine h_nil ?_
            refine q_then ?_
            refine h_condT rfl ?_
            refine h_seq ?_
            refine h_reg ?_
            refine h_call ((alive18_s z2).comes) rfl rfl rfl fun ⟨z3, hz3⟩ => ?_
            dsimp only
            refine h_op (r_move rfl) ?_
            refine h_op (r_move rfl) ?_
            refine h_op (r_nilnil rfl) ?_
            refine h_op (r_pick rfl rfl) ?_
            refine h_op (r_assign rfl) ?_
            refine h_nil ?_
            refine q_then ?_
            refine h_ret ?_
            refine q_thenR ?_
            exact h_ret1 rfl rfl fun w s => ⟨⟨z3, LeZ.trans (LeZ.trans hz1 hz2) hz3⟩, rfl, (same (L' := [.zone true z3]) w s).res (List.Sublist.refl _) (by simp [Fa.wr])⟩
          · have hne := firstF_ne _ 6 0 j e hF
            rw [hF] at hVf
            simp only [errV, errN] at hVf
            refine h_op (r_move rfl) ?_
            refine h_op (r_extract rfl rfl) ?_
            refine h_op (r_extract rfl rfl) ?_
            refine h_op (r_assign rfl) ?_
            refine h_op (r_assign rfl) ?_
            refine h_nil ?_
            refine q_then ?_
            refine h_seq ?_
            refine h_reg ?_
            refine h_op (r_move rfl) ?_
            refine h_op (r_move rfl) ?_
            refine h_op (r_loadr rfl) ?_
            refine h_op (r_move rfl) ?_
            refine h_call (hVf.comes) rfl rfl rfl fun ⟨⟨g55, z2, k2⟩, hz2, hk2⟩ => ?_
            dsimp only at hz2 hk2 ⊢
            have hT2 : RdZ z2 (some ⟨2, 0, none⟩) hashT := hT1.mono hz2
            have hE2 : RdZ z2 (some ⟨0, 0, none⟩) [rty 76] := hE1.mono hz2
            refine h_op (r_assign rfl) ?_
            refine h_nil ?_
            refine q_then ?_
            refine h_seq ?_
            refine h_seq ?_
            refine h_reg ?_
            refine h_op (r_move rfl) ?_
            refine h_op (r_bool (r_eql rfl rfl) (decide_eq_false hne)) ?_
            refine h_nil ?_
            refine q_then ?_
            refine h_condF rfl ?_
            refine h_skip ?_
            refine q_then ?_
            refine h_seq ?_
            refine h_reg ?_
            refine h_op (r_move rfl) ?_
            refine h_call ((First_s g55 verifyB (j : Int) e).comes) rfl rfl rfl fun _ => ?_
            refine h_op (r_move rfl) ?_
            refine h_op (r_extract rfl rfl) ?_
            refine h_op (r_extract rfl rfl) ?_
            refine h_op (r_extract rfl rfl) ?_
            refine h_op (r_assign rfl) ?_
            refine h_op (r_assign rfl) ?_
            refine h_op (r_assign rfl) ?_
            refine h_nil ?_
            refine q_then ?_
            refine h_seq ?_
            refine h_reg ?_
            refine h_call ((alive18_s z2).comes) rfl rfl rfl fun ⟨z3, hz3⟩ => ?_
            dsimp only
            refine h_op (r_move rfl) ?_
            refine h_op (r_move rfl) ?_
            refine h_call ((Code_s g55 verifyB (j : Int) e).comes) rfl rfl rfl fun _ => ?_
            refine h_op (r_move rfl) ?_
            refine h_op (r_bool (r_eql rfl rfl) (decide_eq_true rfl)) ?_
            refine h_op (r_pick rfl rfl) ?_
            refine h_op (r_move rfl) ?_
            refine h_op (r_move rfl) ?_
            refine h_op (r_bool (r_eqS rfl rfl) (show (verifyB.toList == verifyB.toList) = true from beq_self_eq_true _)) ?_
            refine h_op (r_pick rfl rfl) ?_
            refine h_op (r_move rfl) ?_
            refine h_op (r_move rfl) ?_
            refine h_op (r_move rfl) ?_
            refine h_op (r_bool (r_eql rfl rfl) (decide_eq_true rfl)) ?_
            refine h_op (r_pick rfl rfl) ?_
            refine h_op (r_move rfl) ?_
            refine h_op (r_move rfl) ?_
            refine h_op (r_pick rfl rfl) ?_
            refine h_op (r_assign rfl) ?_
            refine h_nil ?_
            refine q_then ?_
            refine h_ret ?_
            exact h_ret1 rfl rfl fun w s => ⟨⟨z3, LeZ.trans (LeZ.trans hz1 hz2) hz3⟩, rfl, (same (L' := [.zone true z3]) w s).res (List.Sublist.refl _) (by simp [Fa.wr])⟩
        · refine h_op (r_bool (r_eql rfl rfl) rfl) ?_
          refine h_op (r_pick rfl rfl) ?_
          refine h_op (r_move rfl) ?_
          refine h_op (r_move rfl) ?_
          refine h_op (r_len rfl) ?_
          refine h_op (r_bool (r_gtr rfl rfl) (decide_eq_false (by omega))) ?_
          refine h_op (r_pick rfl rfl) ?_
          refine h_op (r_move rfl) ?_
          refine h_op (r_move rfl) ?_
          refine h_op (r_len rfl) ?_
          refine h_op (r_bool (r_gtr rfl rfl) (decide_eq_true (by omega))) ?_
          refine h_op (r_pick rfl rfl) ?_
          refine h_nil ?_
          refine q_then ?_
          refine h_condT rfl ?_
          refine h_seq ?_
          refine h_reg ?_
          refine h_call ((alive18_s h).comes) rfl rfl rfl fun ⟨h1, hle1⟩ => ?_
          refine h_op (r_assign rfl) ?_
          refine h_nil ?_
          refine q_then ?_
          refine h_ret ?_
          refine q_thenR ?_
          exact h_ret1 rfl rfl fun w s => ⟨⟨h1, hle1⟩, rfl, (same (L' := [.zone true h1]) w s).res (List.Sublist.refl _) (by simp [Fa.wr])⟩
      · refine h_op (r_bool (r_eql rfl rfl) rfl) ?_
        refine h_op (r_pick rfl rfl) ?_
        refine h_op (r_move rfl) ?_
        refine h_op (r_move rfl) ?_
        refine h_op (r_len rfl) ?_
        refine h_op (r_bool (r_gtr rfl rfl) (decide_eq_true (by omega))) ?_
        refine h_op (r_pick rfl rfl) ?_
        refine h_op (r_move rfl) ?_
        refine h_opOff ?_
        refine h_opOff ?_
        refine h_opOff ?_
        refine h_op (r_pick rfl rfl) ?_
        refine h_nil ?_
        refine q_then ?_
        refine h_condT rfl ?_
        refine h_seq ?_
        refine h_reg ?_
        refine h_call ((alive18_s h).comes) rfl rfl rfl fun ⟨h1, hle1⟩ => ?_
        refine h_op (r_assign rfl) ?_
        refine h_nil ?_
        refine q_then ?_
        refine h_ret ?_
        refine q_thenR ?_
        exact h_ret1 rfl rfl fun w s => ⟨⟨h1, hle1⟩, rfl, (same (L' := [.zone true h1]) w s).res (List.Sublist.refl _) (by simp [Fa.wr])⟩
    · rw [if_neg hs] at hSh
      refine h_op (r_not rfl) ?_
      refine h_op (r_move rfl) ?_
      refine h_op (r_loadr rfl) ?_
      refine h_call (hSh.comes) rfl rfl rfl fun _ => ?_
      refine h_op (r_bool (r_eql rfl rfl) rfl) ?_
      refine h_op (r_pick rfl rfl) ?_
      refine h_op (r_move rfl) ?_
      refine h_opOff ?_
      refine h_opOff ?_
      refine h_opOff ?_
      refine h_op (r_pick rfl rfl) ?_
      refine h_op (r_move rfl) ?_
      refine h_opOff ?_
      refine h_opOff ?_
      refine h_opOff ?_
      refine h_op (r_pick rfl rfl) ?_
      refine h_nil ?_
      refine q_then ?_
      refine h_condT rfl ?_
      refine h_seq ?_
      refine h_reg ?_
      refine h_call ((alive18_s h).comes) rfl rfl rfl fun ⟨h1, hle1⟩ => ?_
      refine h_op (r_assign rfl) ?_
      refine h_nil ?_
      refine q_then ?_
      refine h_ret ?_
      refine q_thenR ?_
      exact h_ret1 rfl rfl fun w s => ⟨⟨h1, hle1⟩, rfl, (same (L' := [.zone true h1]) w s).res (List.Sublist.refl _) (by simp [Fa.wr])⟩
  · refine h_call ((Right_no i hi).comes) rfl rfl rfl fun _ => ?_
    refine h_op (r_not rfl) ?_
    refine h_op (r_move rfl) ?_
    refine h_opOff ?_
    refine h_opOff ?_
    refine h_opOff ?_
    refine h_op (r_pick rfl rfl) ?_
    refine h_op (r_move rfl) ?_
    refine h_opOff ?_
    refine h_opOff ?_
    refine h_opOff ?_
    refine h_op (r_pick rfl rfl) ?_
    refine h_op (r_move rfl) ?_
    refine h_opOff ?_
    refine h_opOff ?_
    refine h_opOff ?_
    refine h_op (r_pick rfl rfl) ?_
    refine h_nil ?_
    refine q_then ?_
    refine h_condT rfl ?_
    refine h_seq ?_
    refine h_reg ?_
    refine h_call ((alive18_s h).comes) rfl rfl rfl fun ⟨h1, hle1⟩ => ?_
    refine h_op (r_assign rfl) ?_
    refine h_nil ?_
    refine q_then ?_
    refine h_ret ?_
    refine q_thenR ?_
    exact h_ret1 rfl rfl fun w s => ⟨⟨h1, hle1⟩, rfl, (same (L' := [.zone true h1]) w s).res (List.Sublist.refl _) (by simp [Fa.wr])⟩
theorem VerifyClaims_s (c : Claim) : Spec Tryz.prog 7 [.agg c.cells.toArray].toArray [] [.zone true h] (fun _ : {x : Zh // LeZ h x} => .bool true) (fun x => [.zone true x.1]) := by
  refine spec_of Tryz.func7 rfl (n := 17) rfl rfl ?_
  intro W
  refine h_seq ?_
  refine h_reg ?_
  refine h_opX (x_box rfl) fun g1 => ?_
  refine h_op (r_assign rfl) ?_
  refine h_nil ?_
  refine q_then ?_
  refine h_seq ?_
  refine h_reg ?_
  refine h_op (r_loadr rfl) ?_
  refine h_call ((rClaim18_s c).comes) rfl rfl rfl fun _ => ?_
  refine h_op (r_move rfl) ?_
  refine h_op (r_extract rfl rfl) ?_
  refine h_op (r_extract rfl rfl) ?_
  refine h_op (r_assign rfl) ?_
  refine h_op (r_assign rfl) ?_
  refine h_nil ?_
  refine q_then ?_
  refine h_seq ?_
  refine h_reg ?_
  refine h_call ((alive18_s h).comes) rfl rfl rfl fun ⟨h1, hle1⟩ => ?_
  dsimp only
  refine h_op (r_move rfl) ?_
  refine h_op (r_loadr rfl) ?_
  refine h_call ((Claim_s c).comes) rfl rfl rfl fun _ => ?_
  refine h_op (r_move rfl) ?_
  refine h_op (r_bool (r_eql rfl rfl) (decide_eq_true rfl)) ?_
  refine h_op (r_pick rfl rfl) ?_
  refine h_op (r_assign rfl) ?_
  refine h_nil ?_
  refine q_then ?_
  refine h_ret ?_
  exact h_ret1 rfl rfl fun w s => ⟨⟨h1, hle1⟩, rfl, (same (L' := [.zone true h1]) w s).res (List.Sublist.refl _) (by simp [Fa.wr])⟩
end
end Go.Proofs.YtgfkbeipckbkiaaGreatDoor
