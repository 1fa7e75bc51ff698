/- TreeShows: for every number of bits, key and value the call returns true and the arguments read as they did; condition: the table of rounds as the program's text lays it (tied by the card). -/
import Derived.Test.YtjhlbbgikccclaaGreatDoorRX1
import Derived.Test.YtjhlbbgikccclaaGreatDoorCards
import Derived.Test.YtjhlbbgikccclaaGreatDoorTie
import Derived.Handed
import Derived.JoinedOf
import Derived.SevenTiedAt
set_option linter.all false
namespace Go.Proofs.YtjhlbbgikccclaaGreatDoor
set_option linter.unusedSimpArgs false
set_option linter.unusedVariables false
open Go.ChangeShapes Go.WideShapes Go.ChangeAt Go.RowKit
set_option maxRecDepth 100000 in
theorem treeShows_contract (H : Type) (enc : TypeId × Value → H) (W : World) (base : Nat) (args : Array Value) (ds gs : List (DataW H)) (before : List MemPlace)
    (hval : ∀ (j : Nat) t v, Tryz.f7.params[j]? = some t → args[j]? = some v → Value.okWide Tryz.prog W .any base t v)
    (hW : DataW.Whole enc Tryz.prog Tryz.f7.params.toList Rows.treeShowsSpec.vars false W args.toList ds gs before) (hL : laidMetH Tryz.prog laidR2 W) :
    Calls Tryz.prog 7 args W fun e W' => ∃ v, e = .returned v ∧ Rows.treeShowsSpec.post enc Tryz.prog Tryz.f7 false true false false W args v W' := by
  have hT := table_of (laid_both hL).1
  have hW' := hW
  obtain ⟨p, q, hA0, hV, rfl, hfz, hnd⟩ := hW
  have hA : DataW.TrodAll enc Tryz.prog W 0 (fun _ => true) true Tryz.f7.params.toList args.toList ds p := hA0
  rw [Tryz.params7] at hA hval
  obtain ⟨v0, vs0, d0, ds0, p0, q0, hargs, rfl, rfl, h0, r0⟩ := trodAll_cons hA
  obtain ⟨v1, vs1, d1, ds1, p1, q1, rfl, rfl, rfl, h1, r1⟩ := trodAll_cons r0
  obtain ⟨v2, vs2, d2, ds2, p2, q2, rfl, rfl, rfl, h2, r2⟩ := trodAll_cons r1
  obtain ⟨rfl, rfl, rfl⟩ := trodAll_nil r2
  obtain rfl : args = #[v0, v1, v2] := by cases args; simp_all
  obtain ⟨rfl, rfl⟩ := trodVars_none hV
  obtain ⟨i, rfl, -⟩ := open_int' Tryz.underlying3 (hval 0 3 v0 rfl rfl) h0
  obtain ⟨x, xb, rfl, xz⟩ := openBytesZ (hval 1 35 v1 rfl rfl) h1
  obtain ⟨y, yb, rfl, yz⟩ := openBytesZ (hval 2 35 v2 rfl rfl) h2
  clear hA0 hval
  have hE2 : RdZ (World.zh W) (some ⟨0, 0, none⟩) [rty 43] := RdZ.of (error_of hL)
  have hT2 : RdZ (World.zh W) (some ⟨1, 0, none⟩) hashT := RdZ.of hT
  refine ((TreeShows_s _ i x y xb yb) W (Fx.all W) (fun r hr => (List.not_mem_nil hr).elim)).mono fun e W' ⟨x, he, hx⟩ => ?_
  subst he
  exact ⟨_, rfl, post_law laidOut' (by rw [Tryz.params7]; intro t ht; simp at ht; rcases ht with rfl | rfl | rfl <;> exact ⟨by kernel_rfl, of_decide_eq_true (by kernel_rfl)⟩) hW' rfl rfl (tb := 4) (by kernel_rfl) Tryz.underlying4 (zone_below hx x.2)⟩
set_option maxRecDepth 100000 in
theorem treeShows_lifted (os : Os) (started : os.Started) (H : Type) (enc : TypeId × Value → H) :
    ReturnsInHanded {} Tryz.checked os 7 .any (fun w args => (Rows.treeShowsSpec.pre enc Tryz.prog Tryz.f7 [] false w args ∧ laidMetH Tryz.prog laidR2 w) ∧ sizedMet enc Tryz.prog Tryz.f7 (OpenSpec.ofChange Rows.treeShowsSpec) false w args) (Rows.treeShowsSpec.post enc Tryz.prog Tryz.f7 false true false false) := by
  refine returnsInHanded_of_change_and (C := Tryz.checked) (X := fun w _ => laidMetH Tryz.prog laidR2 w) (fun _ _ _ hh h => h.of_heap hh) own' started (by kernel_rfl) Tryz.func7
    (ChangeSpec.witness_shaped (enc := enc) (C := Tryz.checked) (os := os) (X := fun w _ => laidMetH Tryz.prog laidR2 w) false (World.doorLaid Tryz.prog 36 os) #[.int .i64 0, .slice none 0 0, .slice none 0 0] 8 rfl (World.shaped_of_RefB (by kernel_rfl) (by kernel_rfl)) (by kernel_rfl) (by kernel_rfl) (by kernel_rfl) (door_met2 os _)) ?_
  intro W base args ds gs before hval hW _ _ hL _
  exact treeShows_contract H enc W base args ds gs before hval hW hL
theorem treeShows_k0 : Tryz.prog.funcNamed "sparsetree/sparsetreelaw13.TreeShows" = some 7 := by kernel_rfl
theorem treeShows_k1 : (Rows.treeShowsRow.inPlace == Tryz.prog.inPlace 7) = true := by kernel_rfl
theorem treeShows_k2 : (Rows.treeShowsRow.unfollowed == Tryz.prog.unfollowed 7) = true := by kernel_rfl
theorem treeShows_k3 : (Rows.treeShowsRow.recurses == Tryz.prog.recurses 7) = true := by kernel_rfl
theorem treeShows_k4 : (Rows.treeShowsRow.named == Tryz.prog.varsNamed 7) = true := by kernel_rfl
theorem treeShows_k5 : Tryz.f7.isInstance Tryz.prog Rows.treeShowsRow.origin Rows.treeShowsRow.targs := of_decide_eq_true (by kernel_rfl)
theorem treeShows_k6 : Tryz.f7.isWrapper Tryz.prog Rows.treeShowsRow.wrapper Rows.treeShowsRow.mainSum := by unfold Func.isWrapper; first | (rw [if_pos (by decide +kernel)]; kernel_rfl) | (rw [if_neg (by decide +kernel)]; exact ⟨rfl, rfl⟩)
theorem treeShows_k7 : joinedFacts Tryz.prog 7 Tryz.f7 Rows.treeShowsSpec Rows.treeShowsRow = true := by
  unfold joinedFacts
  exact (andT (andT (andT (andT (andT (andT (andT (andT (andT (andT (andT (andT (andT (andT (andT (andT (andT (andT (andT (andT (andT (andT (andT (andT (andT (andT (andT (andT (andT (andT (andT (by kernel_rfl) laidOut') sf_maps) (by kernel_rfl)) (by kernel_rfl)) (by kernel_rfl)) (by kernel_rfl)) (by kernel_rfl)) (by kernel_rfl)) treeShows_k1) treeShows_k2) treeShows_k3) treeShows_k4) (by kernel_rfl)) (by kernel_rfl)) (by kernel_rfl)) (by kernel_rfl)) (by kernel_rfl)) (by kernel_rfl)) (by kernel_rfl)) (by kernel_rfl)) (by kernel_rfl)) (beqT rfl sf_keys)) (by kernel_rfl)) sf_heard) sf_enter) (beqT rfl sf_lifts)) (by kernel_rfl)) (by kernel_rfl)) (by kernel_rfl)) (by kernel_rfl)) (by kernel_rfl))
theorem treeShows_row : Rows.TreeShowsSaid :=
  OpenClaim.holds_of_wide 7 Tryz.f7 rfl rfl rfl rfl rfl rfl rfl ⟨rfl, rfl, rfl, rfl, rfl⟩ rfl rfl rfl rfl rfl treeShows_k0 Tryz.func7 treeShows_k7
    treeShows_k5 treeShows_k6
    (fun os started H enc _ => treeShows_lifted os started H enc)
theorem treeShows_holds : Rows.TreeShowsCardSaid :=
  Claim7.holds_tied_plain_at .later [] [.handle, .data] true Rows.treeShowsCard.stood.harness Rows.treeShowsCard.stood.looks
    treeShows_row (fun _ h => by cases h) (by kernel_rfl) (fun _ h => by cases h) treeShows_row_tie rfl ⟨rfl, rfl⟩ (by kernel_rfl) rfl
    (fun f fn hf hfn => by
      obtain rfl : f = 7 := Option.some.inj (treeShows_k0.symm.trans hf) |>.symm
      obtain rfl : fn = Tryz.f7 := (Option.some.inj (Tryz.func7.symm.trans hfn)).symm
      refine ⟨sf_looks.symm, fun j t ht => ?_⟩
      have hall : (Tryz.f7.params.toList.all fun u => !Tryz.prog.wantsStandIn u) = true := by kernel_rfl
      exact (show Tryz.prog.wantsStandIn t = false by simpa using List.all_eq_true.1 hall t (Array.mem_toList_iff.2 (Array.mem_of_getElem? ht))))
    (by kernel_rfl)
end Go.Proofs.YtjhlbbgikccclaaGreatDoor
