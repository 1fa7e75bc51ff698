/- TreeNil: for all bytes the call returns true and the arguments read as they did; condition: the table of rounds as the program's text lays it (tied by the card). -/
import Derived.Test.YtjhlbbgikccclaaGreatDoorR14
import Derived.Test.YtjhlbbgikccclaaGreatDoorCards
import Derived.Test.YtjhlbbgikccclaaGreatDoorTie
import Derived.Handed
import Derived.JoinedOf
import Derived.SevenTiedAt
set_option linter.all false
namespace Go.Proofs.YtjhlbbgikccclaaGreatDoor
open Go.ChangeShapes Go.WideShapes Go.ChangeAt Go.RowKit
set_option maxRecDepth 100000 in
theorem treeNil_contract (H : Type) (enc : TypeId × Value → H) (W : World) (base : Nat) (args : Array Value) (ds gs : List (DataW H)) (before : List MemPlace)
  (hval : ∀ (j : Nat) t v, Tryz.f11.params[j]? = some t → args[j]? = some v → Value.okWide Tryz.prog W .any base t v)
  (hW : DataW.Whole enc Tryz.prog Tryz.f11.params.toList Rows.treeNilSpec.vars false W args.toList ds gs before) (hL : laidMetH Tryz.prog laidR2 W) :
  Calls Tryz.prog 11 args W fun e W' => ∃ v, e = .returned v ∧ Rows.treeNilSpec.post enc Tryz.prog Tryz.f11 false true false false W args v W' := by
 have hT := table_of (laid_both hL).1
 have hW' := hW
 obtain ⟨p, q, hA0, hV, rfl, hfz, hnd⟩ := hW
 have hA : DataW.TrodAll enc Tryz.prog W 0 (fun _ => true) true Tryz.f11.params.toList args.toList ds p := hA0
 rw [Tryz.params11] at hA hval
 obtain ⟨v0, vs0, d0, ds0, p0, q0, hargs, rfl, rfl, h0, r0⟩ := trodAll_cons hA
 obtain ⟨v1, vs1, d1, ds1, p1, q1, rfl, rfl, rfl, h1, r1⟩ := trodAll_cons r0
 obtain ⟨rfl, rfl, rfl⟩ := trodAll_nil r1
 obtain rfl : args = #[v0, v1] := by cases args; simp_all
 obtain ⟨rfl, rfl⟩ := trodVars_none hV
 obtain ⟨x, xb, rfl, xz⟩ := openBytesZ (hval 0 35 v0 rfl rfl) h0
 obtain ⟨y, yb, rfl, yz⟩ := openBytesZ (hval 1 35 v1 rfl rfl) h1
 clear hA0 hval
 have hE2 : RdZ (World.zh W) (some ⟨0, 0, none⟩) [rty 43] := RdZ.of (error_of hL)
 have hT2 : RdZ (World.zh W) (some ⟨1, 0, none⟩) hashT := RdZ.of hT
 refine ((TreeNil_s _ (.slice x.A x.n x.c) (.slice y.A y.n y.c)) W (Fx.all W) (fun r hr => (List.not_mem_nil hr).elim)).mono fun e W' ⟨x, he, hx⟩ => ?_
 subst he
 exact ⟨_, rfl, post_law laidOut' (by rw [Tryz.params11]; intro t ht; simp at ht; rcases ht with rfl | rfl <;> exact ⟨by kernel_rfl, of_decide_eq_true (by kernel_rfl)⟩) hW' rfl rfl (tb := 4) (by kernel_rfl) Tryz.underlying4 (zone_below hx x.2)⟩
set_option maxRecDepth 100000 in
theorem treeNil_lifted (os : Os) (started : os.Started) (H : Type) (enc : TypeId × Value → H) :
  ReturnsInHanded {} Tryz.checked os 11 .any (fun w args => (Rows.treeNilSpec.pre enc Tryz.prog Tryz.f11 [] false w args ∧ laidMetH Tryz.prog laidR2 w) ∧ sizedMet enc Tryz.prog Tryz.f11 (OpenSpec.ofChange Rows.treeNilSpec) false w args) (Rows.treeNilSpec.post enc Tryz.prog Tryz.f11 false true false false) := by
 refine returnsInHanded_of_change_and (C := Tryz.checked) (X := fun w _ => laidMetH Tryz.prog laidR2 w) (fun _ _ _ hh h => h.of_heap hh) own' started (by kernel_rfl) Tryz.func11
  (ChangeSpec.witness_shaped (enc := enc) (C := Tryz.checked) (os := os) (X := fun w _ => laidMetH Tryz.prog laidR2 w) false (World.doorLaid Tryz.prog 36 os) #[.slice none 0 0, .slice none 0 0] 8 rfl (World.shaped_of_RefB (by kernel_rfl) (by kernel_rfl)) (by kernel_rfl) (by kernel_rfl) (by kernel_rfl) (door_met2 os _)) ?_
 intro W base args ds gs before hval hW _ _ hL _
 exact treeNil_contract H enc W base args ds gs before hval hW hL
theorem treeNil_k0 : Tryz.prog.funcNamed "sparsetree/sparsetreelaw13.TreeNil" = some 11 := by kernel_rfl
theorem treeNil_k1 : (Rows.treeNilRow.inPlace == Tryz.prog.inPlace 11) = true := by kernel_rfl
theorem treeNil_k2 : (Rows.treeNilRow.unfollowed == Tryz.prog.unfollowed 11) = true := by kernel_rfl
theorem treeNil_k3 : (Rows.treeNilRow.recurses == Tryz.prog.recurses 11) = true := by kernel_rfl
theorem treeNil_k4 : (Rows.treeNilRow.named == Tryz.prog.varsNamed 11) = true := by kernel_rfl
theorem treeNil_k5 : Tryz.f11.isInstance Tryz.prog Rows.treeNilRow.origin Rows.treeNilRow.targs := of_decide_eq_true (by kernel_rfl)
theorem treeNil_k6 : Tryz.f11.isWrapper Tryz.prog Rows.treeNilRow.wrapper Rows.treeNilRow.mainSum := by unfold Func.isWrapper; first | (rw [if_pos (by decide +kernel)]; kernel_rfl) | (rw [if_neg (by decide +kernel)]; exact ⟨rfl, rfl⟩)
theorem treeNil_k7 : joinedFacts Tryz.prog 11 Tryz.f11 Rows.treeNilSpec Rows.treeNilRow = true := by
 unfold joinedFacts
 exact (andT (andT (andT (andT (andT (andT (andT (andT (andT (andT (andT (andT (andT (andT (andT (andT (andT (andT (andT (andT (andT (andT (andT (andT (andT (andT (andT (andT (andT (andT (andT (by kernel_rfl) laidOut') sf_maps) (by kernel_rfl)) (by kernel_rfl)) (by kernel_rfl)) (by kernel_rfl)) (by kernel_rfl)) (by kernel_rfl)) treeNil_k1) treeNil_k2) treeNil_k3) treeNil_k4) (by kernel_rfl)) (by kernel_rfl)) (by kernel_rfl)) (by kernel_rfl)) (by kernel_rfl)) (by kernel_rfl)) (by kernel_rfl)) (by kernel_rfl)) (by kernel_rfl)) (beqT rfl sf_keys)) (by kernel_rfl)) sf_heard) sf_enter) (beqT rfl sf_lifts)) (by kernel_rfl)) (by kernel_rfl)) (by kernel_rfl)) (by kernel_rfl)) (by kernel_rfl))
theorem treeNil_row : Rows.TreeNilSaid :=
 OpenClaim.holds_of_wide 11 Tryz.f11 rfl rfl rfl rfl rfl rfl rfl ⟨rfl, rfl, rfl, rfl, rfl⟩ rfl rfl rfl rfl rfl treeNil_k0 Tryz.func11 treeNil_k7
  treeNil_k5 treeNil_k6
  (fun os started H enc _ => treeNil_lifted os started H enc)
theorem treeNil_holds : Rows.TreeNilCardSaid :=
 Claim7.holds_tied_plain_at .later [] [.handle, .data] true Rows.treeNilCard.stood.harness Rows.treeNilCard.stood.looks
  treeNil_row (fun _ h => by cases h) (by kernel_rfl) (fun _ h => by cases h) treeNil_row_tie rfl ⟨rfl, rfl⟩ (by kernel_rfl) rfl
  (fun f fn hf hfn => by
   obtain rfl : f = 11 := Option.some.inj (treeNil_k0.symm.trans hf) |>.symm
   obtain rfl : fn = Tryz.f11 := (Option.some.inj (Tryz.func11.symm.trans hfn)).symm
   refine ⟨sf_looks.symm, fun j t ht => ?_⟩
   have hall : (Tryz.f11.params.toList.all fun u => !Tryz.prog.wantsStandIn u) = true := by kernel_rfl
   exact (show Tryz.prog.wantsStandIn t = false by simpa using List.all_eq_true.1 hall t (Array.mem_toList_iff.2 (Array.mem_of_getElem? ht))))
  (by kernel_rfl)
end Go.Proofs.YtjhlbbgikccclaaGreatDoor
