/- VerifyClaims: for every claim the call returns true and the arguments read as they did; condition: the table of rounds as the program's text lays it (tied by the card). -/
import Derived.Test.YtgfkbeipckbkiaaGreatDoorY17
import Derived.Test.YtgfkbeipckbkiaaGreatDoorCards
import Derived.Test.YtgfkbeipckbkiaaGreatDoorTie
import Derived.Handed
import Derived.JoinedOf
import Derived.SevenTiedAt
set_option linter.all false
namespace Go.Proofs.YtgfkbeipckbkiaaGreatDoor
set_option linter.unusedSimpArgs false
set_option linter.unusedVariables false
open Go.ChangeShapes Go.WideShapes Go.ChangeAt Go.RowKit
set_option maxRecDepth 100000 in
theorem verifyClaims_contract (H : Type) (enc : TypeId × Value → H) (W : World) (base : Nat) (args : Array Value) (ds gs : List (DataW H)) (before : List MemPlace)
    (hval : ∀ (j : Nat) t v, Tryz.f7.params[j]? = some t → args[j]? = some v → Value.okWide Tryz.prog W .any base t v)
    (hW : DataW.Whole enc Tryz.prog Tryz.f7.params.toList Rows.verifyClaimsSpec.vars false W args.toList ds gs before) (hL : laidMetH Tryz.prog laidR2 W) :
    Calls Tryz.prog 7 args W fun e W' => ∃ v, e = .returned v ∧ Rows.verifyClaimsSpec.post enc Tryz.prog Tryz.f7 false true false false W args v W' := by
  have hT := table_of (laid_both hL).1
  have hW' := hW
  obtain ⟨p, q, hA0, hV, rfl, hfz, hnd⟩ := hW
  have hA : DataW.TrodAll enc Tryz.prog W 0 (fun _ => true) true Tryz.f7.params.toList args.toList ds p := hA0
  rw [Tryz.params7] at hA hval
  obtain ⟨v0, vs0, d0, ds0, p0, q0, hargs, rfl, rfl, h0, r0⟩ := trodAll_cons hA
  obtain ⟨rfl, rfl, rfl⟩ := trodAll_nil r0
  obtain rfl : args = #[v0] := by cases args; simp_all
  obtain ⟨rfl, rfl⟩ := trodVars_none hV
  obtain ⟨c, cK, cV, rfl, cx, cy⟩ := openClaim (hval 0 70 v0 rfl rfl) h0
  clear hA0 hval
  have hE2 : RdZ (World.zh W) (some ⟨0, 0, none⟩) [rty 76] := RdZ.of (error_of hL)
  have hT2 : RdZ (World.zh W) (some ⟨2, 0, none⟩) hashT := RdZ.of hT
  refine ((VerifyClaims_s _ c) W (Fx.all W) (fun r hr => (List.not_mem_nil hr).elim)).mono fun e W' ⟨x, he, hx⟩ => ?_
  subst he
  exact ⟨_, rfl, post_law laidOut' (by rw [Tryz.params7]; intro t ht; simp at ht; subst ht; exact ⟨by kernel_rfl, of_decide_eq_true (by kernel_rfl)⟩) hW' rfl rfl (tb := 4) (by kernel_rfl) Tryz.underlying4 (zone_below hx x.2)⟩
set_option maxRecDepth 100000 in
theorem verifyClaims_lifted (os : Os) (started : os.Started) (H : Type) (enc : TypeId × Value → H) :
    ReturnsInHanded {} Tryz.checked os 7 .any (fun w args => (Rows.verifyClaimsSpec.pre enc Tryz.prog Tryz.f7 [] false w args ∧ laidMetH Tryz.prog laidR2 w) ∧ sizedMet enc Tryz.prog Tryz.f7 (OpenSpec.ofChange Rows.verifyClaimsSpec) false w args) (Rows.verifyClaimsSpec.post enc Tryz.prog Tryz.f7 false true false false) := by
  refine returnsInHanded_of_change_and (C := Tryz.checked) (X := fun w _ => laidMetH Tryz.prog laidR2 w) (fun _ _ _ hh h => h.of_heap hh) own' started (by kernel_rfl) Tryz.func7
    (ChangeSpec.witness_shaped (enc := enc) (C := Tryz.checked) (os := os) (X := fun w _ => laidMetH Tryz.prog laidR2 w) false (World.doorLaid Tryz.prog 21 os) #[.agg zClaim.cells.toArray] 8 rfl (World.shaped_of_RefB (by kernel_rfl) (by kernel_rfl)) (by kernel_rfl) (by kernel_rfl) (by kernel_rfl) (door_met2 os _)) ?_
  intro W base args ds gs before hval hW _ _ hL _
  exact verifyClaims_contract H enc W base args ds gs before hval hW hL
theorem verifyClaims_row : Rows.VerifyClaimsSaid :=
  OpenClaim.holds_of_wide 7 Tryz.f7 rfl rfl rfl rfl rfl rfl rfl ⟨rfl, rfl, rfl, rfl, rfl⟩ rfl rfl rfl rfl rfl (by kernel_rfl) Tryz.func7 (by kernel_rfl)
    (of_decide_eq_true (by kernel_rfl)) (by unfold Func.isWrapper; first | (rw [if_pos (by decide +kernel)]; kernel_rfl) | (rw [if_neg (by decide +kernel)]; exact ⟨rfl, rfl⟩))
    (fun os started H enc _ => verifyClaims_lifted os started H enc)
theorem verifyClaims_holds : Rows.VerifyClaimsCardSaid :=
  Claim7.holds_tied_plain_at .later [] [.handle, .data] true Rows.verifyClaimsCard.stood.harness Rows.verifyClaimsCard.stood.looks
    verifyClaims_row (fun _ h => by cases h) (by kernel_rfl) (fun _ h => by cases h) verifyClaims_row_tie rfl ⟨rfl, rfl⟩ (by kernel_rfl) rfl
    (fun f fn hf hfn => by
      obtain rfl : f = 7 := Option.some.inj ((show Tryz.prog.funcNamed "sparsetree/sparsetreelaw18.VerifyClaims" = some 7 by kernel_rfl).symm.trans hf) |>.symm
      obtain rfl : fn = Tryz.f7 := (Option.some.inj (Tryz.func7.symm.trans hfn)).symm
      refine ⟨by kernel_rfl, fun j t ht => ?_⟩
      have hall : (Tryz.f7.params.toList.all fun u => !Tryz.prog.wantsStandIn u) = true := by kernel_rfl
      exact (show Tryz.prog.wantsStandIn t = false by simpa using List.all_eq_true.1 hall t (Array.mem_toList_iff.2 (Array.mem_of_getElem? ht))))
    (by kernel_rfl)
end Go.Proofs.YtgfkbeipckbkiaaGreatDoor
