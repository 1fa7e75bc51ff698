/- MverifyClaims: for every list of claims the call returns true and the arguments read as they did; condition: the table of rounds as the program's text lays it (tied by the card). -/
import Derived.Test.YtjhocljhhpkiiaaGreatDoorG17
import Derived.Test.YtjhocljhhpkiiaaGreatDoorCards
import Derived.Test.YtjhocljhhpkiiaaGreatDoorTie
import Derived.Handed
import Derived.JoinedOf
import Derived.SevenTiedAt
set_option linter.all false
namespace Go.Proofs.YtjhocljhhpkiiaaGreatDoor
set_option linter.unusedSimpArgs false
set_option linter.unusedVariables false
open Go.ChangeShapes Go.WideShapes Go.ChangeAt Go.RowKit
set_option maxRecDepth 100000 in
theorem mverifyClaims_contract (H : Type) (enc : TypeId × Value → H) (W : World) (base : Nat) (args : Array Value) (ds gs : List (DataW H)) (before : List MemPlace)
    (hval : ∀ (j : Nat) t v, Tryz.f12.params[j]? = some t → args[j]? = some v → Value.okWide Tryz.prog W .any base t v)
    (hW : DataW.Whole enc Tryz.prog Tryz.f12.params.toList Rows.mverifyClaimsSpec.vars false W args.toList ds gs before) (hL : laidMetH Tryz.prog laidR2 W) :
    Calls Tryz.prog 12 args W fun e W' => ∃ v, e = .returned v ∧ Rows.mverifyClaimsSpec.post enc Tryz.prog Tryz.f12 false true false false W args v W' := by
  have hT := table_of (laid_both hL).1
  have hW' := hW
  obtain ⟨p, q, hA0, hV, rfl, hfz, hnd⟩ := hW
  have hA : DataW.TrodAll enc Tryz.prog W 0 (fun _ => true) true Tryz.f12.params.toList args.toList ds p := hA0
  rw [Tryz.params12] at hA hval
  obtain ⟨v0, vs0, d0, ds0, p0, q0, hargs, rfl, rfl, h0, r0⟩ := trodAll_cons hA
  obtain ⟨rfl, rfl, rfl⟩ := trodAll_nil r0
  obtain rfl : args = #[v0] := by cases args; simp_all
  obtain ⟨rfl, rfl⟩ := trodVars_none hV
  obtain ⟨l, lA, lc, rfl, ll, lZ, lx⟩ := openClaims (hval 0 67 v0 rfl rfl) h0
  clear hA0 hval
  have hE2 : RdZ (World.zh W) (some ⟨0, 0, none⟩) [rty 90] := RdZ.of (error_of hL)
  have hT2 : RdZ (World.zh W) (some ⟨1, 0, none⟩) hashT := RdZ.of hT
  refine ((MverifyClaims_s _ l lA lc lx) W (Fx.all W) (fun r hr => (List.not_mem_nil hr).elim)).mono fun e W' ⟨x, he, hx⟩ => ?_
  subst he
  exact ⟨_, rfl, post_law laidOut' (by rw [Tryz.params12]; intro t ht; simp at ht; subst ht; exact ⟨by kernel_rfl, of_decide_eq_true (by kernel_rfl)⟩) hW' rfl rfl (tb := 4) (by kernel_rfl) Tryz.underlying4 (zone_below hx x.2)⟩
set_option maxRecDepth 100000 in
theorem mverifyClaims_lifted (os : Os) (started : os.Started) (H : Type) (enc : TypeId × Value → H) :
    ReturnsInHanded {} Tryz.checked os 12 .any (fun w args => (Rows.mverifyClaimsSpec.pre enc Tryz.prog Tryz.f12 [] false w args ∧ laidMetH Tryz.prog laidR2 w) ∧ sizedMet enc Tryz.prog Tryz.f12 (OpenSpec.ofChange Rows.mverifyClaimsSpec) false w args) (Rows.mverifyClaimsSpec.post enc Tryz.prog Tryz.f12 false true false false) := by
  refine returnsInHanded_of_change_and (C := Tryz.checked) (X := fun w _ => laidMetH Tryz.prog laidR2 w) (fun _ _ _ hh h => h.of_heap hh) own' started (by kernel_rfl) Tryz.func12
    (ChangeSpec.witness_shaped (enc := enc) (C := Tryz.checked) (os := os) (X := fun w _ => laidMetH Tryz.prog laidR2 w) false (World.doorLaid Tryz.prog 21 os) #[.slice none 0 0] 8 rfl (World.shaped_of_RefB (by kernel_rfl) (by kernel_rfl)) (by kernel_rfl) (by kernel_rfl) (by kernel_rfl) (door_met2 os _)) ?_
  intro W base args ds gs before hval hW _ _ hL _
  exact mverifyClaims_contract H enc W base args ds gs before hval hW hL
theorem mverifyClaims_k0 : Tryz.prog.funcNamed "sparsetree/sparsetreelaw21.MverifyClaims" = some 12 := by kernel_rfl
theorem mverifyClaims_k1 : (Rows.mverifyClaimsRow.inPlace == Tryz.prog.inPlace 12) = true := by kernel_rfl
theorem mverifyClaims_k2 : (Rows.mverifyClaimsRow.unfollowed == Tryz.prog.unfollowed 12) = true := by kernel_rfl
theorem mverifyClaims_k3 : (Rows.mverifyClaimsRow.recurses == Tryz.prog.recurses 12) = true := by kernel_rfl
theorem mverifyClaims_k4 : (Rows.mverifyClaimsRow.named == Tryz.prog.varsNamed 12) = true := by kernel_rfl
theorem mverifyClaims_k5 : Tryz.f12.isInstance Tryz.prog Rows.mverifyClaimsRow.origin Rows.mverifyClaimsRow.targs := of_decide_eq_true (by kernel_rfl)
theorem mverifyClaims_k6 : Tryz.f12.isWrapper Tryz.prog Rows.mverifyClaimsRow.wrapper Rows.mverifyClaimsRow.mainSum := by unfold Func.isWrapper; first | (rw [if_pos (by decide +kernel)]; kernel_rfl) | (rw [if_neg (by decide +kernel)]; exact ⟨rfl, rfl⟩)
theorem mverifyClaims_k7 : joinedFacts Tryz.prog 12 Tryz.f12 Rows.mverifyClaimsSpec Rows.mverifyClaimsRow = true := by
  unfold joinedFacts
  exact (andT (andT (andT (andT (andT (andT (andT (andT (andT (andT (andT (andT (andT (andT (andT (andT (andT (andT (andT (andT (andT (andT (andT (andT (andT (andT (andT (andT (andT (andT (andT (by kernel_rfl) laidOut') sf_maps) (by kernel_rfl)) (by kernel_rfl)) (by kernel_rfl)) (by kernel_rfl)) (by kernel_rfl)) (by kernel_rfl)) mverifyClaims_k1) mverifyClaims_k2) mverifyClaims_k3) mverifyClaims_k4) (by kernel_rfl)) (by kernel_rfl)) (by kernel_rfl)) (by kernel_rfl)) (by kernel_rfl)) (by kernel_rfl)) (by kernel_rfl)) (by kernel_rfl)) (by kernel_rfl)) (beqT rfl sf_keys)) (by kernel_rfl)) sf_heard) sf_enter) (beqT rfl sf_lifts)) (by kernel_rfl)) (by kernel_rfl)) (by kernel_rfl)) (by kernel_rfl)) (by kernel_rfl))
theorem mverifyClaims_row : Rows.MverifyClaimsSaid :=
  OpenClaim.holds_of_wide 12 Tryz.f12 rfl rfl rfl rfl rfl rfl rfl ⟨rfl, rfl, rfl, rfl, rfl⟩ rfl rfl rfl rfl rfl mverifyClaims_k0 Tryz.func12 mverifyClaims_k7
    mverifyClaims_k5 mverifyClaims_k6
    (fun os started H enc _ => mverifyClaims_lifted os started H enc)
theorem mverifyClaims_holds : Rows.MverifyClaimsCardSaid :=
  Claim7.holds_tied_plain_at .later [] [.handle, .data] true Rows.mverifyClaimsCard.stood.harness Rows.mverifyClaimsCard.stood.looks
    mverifyClaims_row (fun _ h => by cases h) (by kernel_rfl) (fun _ h => by cases h) mverifyClaims_row_tie rfl ⟨rfl, rfl⟩ (by kernel_rfl) rfl
    (fun f fn hf hfn => by
      obtain rfl : f = 12 := Option.some.inj (mverifyClaims_k0.symm.trans hf) |>.symm
      obtain rfl : fn = Tryz.f12 := (Option.some.inj (Tryz.func12.symm.trans hfn)).symm
      refine ⟨sf_looks.symm, fun j t ht => ?_⟩
      have hall : (Tryz.f12.params.toList.all fun u => !Tryz.prog.wantsStandIn u) = true := by kernel_rfl
      exact (show Tryz.prog.wantsStandIn t = false by simpa using List.all_eq_true.1 hall t (Array.mem_toList_iff.2 (Array.mem_of_getElem? ht))))
    (by kernel_rfl)
end Go.Proofs.YtjhocljhhpkiiaaGreatDoor
