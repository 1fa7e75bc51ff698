/- TopSound: for every number of bits, list of operations and claim with bytes the call returns true and the arguments read as they did; condition: the table of rounds as the program's text lays it (tied by the card). -/
import Derived.Test.YtjhlbbgikccclaaGreatDoorF20
import Derived.Test.YtjhlbbgikccclaaGreatDoorCards
import Derived.Test.YtjhlbbgikccclaaGreatDoorTie
import Derived.Handed
import Derived.JoinedOf
import Derived.SevenTiedAt
set_option linter.all false
namespace Go.Proofs.YtjhlbbgikccclaaGreatDoor
open Go.ChangeShapes Go.WideShapes Go.ChangeAt Go.RowKit
set_option maxRecDepth 100000 in
theorem topSound_contract (H : Type) (enc : TypeId × Value → H) (W : World) (base : Nat) (args : Array Value) (ds gs : List (DataW H)) (before : List MemPlace)
  (hval : ∀ (j : Nat) t v, Tryz.f4.params[j]? = some t → args[j]? = some v → Value.okWide Tryz.prog W .any base t v)
  (hW : DataW.Whole enc Tryz.prog Tryz.f4.params.toList Rows.topSoundSpec.vars false W args.toList ds gs before) (hL : laidMetH Tryz.prog ZW W) :
  Calls Tryz.prog 4 args W fun e W' => ∃ v, e = .returned v ∧ Rows.topSoundSpec.post enc Tryz.prog Tryz.f4 false true false false W args v W' := by
 have hT := QmD (Qdx hL).1
 have hW' := hW
 obtain ⟨p, q, hA0, hV, rfl, hfz, hnd⟩ := hW
 have hA : DataW.TrodAll enc Tryz.prog W 0 (fun _ => true) true Tryz.f4.params.toList args.toList ds p := hA0
 rw [Tryz.params4] at hA hval
 obtain ⟨v0, vs0, d0, ds0, p0, q0, hargs, rfl, rfl, h0, r0⟩ := trodAll_cons hA
 obtain ⟨v1, vs1, d1, ds1, p1, q1, rfl, rfl, rfl, h1, r1⟩ := trodAll_cons r0
 obtain ⟨v2, vs2, d2, ds2, p2, q2, rfl, rfl, rfl, h2, r2⟩ := trodAll_cons r1
 obtain ⟨rfl, rfl, rfl⟩ := trodAll_nil r2
 obtain rfl : args = #[v0, v1, v2] := by cases args; simp_all
 obtain ⟨rfl, rfl⟩ := trodVars_none hV
 obtain ⟨i, rfl, -⟩ := Qjv Tryz.underlying3 (hval 0 3 v0 rfl rfl) h0
 obtain ⟨l, lA, lc, rfl, ll, lr, lZ⟩ := QnY (hval 1 22 v1 rfl rfl) h1
 obtain ⟨c, cb, cbb, rfl, cx, cy, cz⟩ := Qc3 (hval 2 52 v2 rfl rfl) h2
 clear hA0 hval
 have hE2 : RdZ (World.zh W) (some ⟨0, 0, none⟩) [rty 43] := RdZ.of (QkU hL)
 have hT2 : RdZ (World.zh W) (some ⟨1, 0, none⟩) Jd := RdZ.of hT
 refine ((Qg1 _ i l lA lc lZ c.c c.kb c.vb cb cbb) W (Fx.all W) (fun r hr => (List.not_mem_nil hr).elim)).mono fun e W' ⟨x, he, hx⟩ => ?_
 subst he
 exact ⟨_, rfl, QlG QfD (by rw [Tryz.params4]; intro t ht; simp at ht; rcases ht with rfl | rfl | rfl <;> exact ⟨by kernel_rfl, of_decide_eq_true (by kernel_rfl)⟩) hW' rfl rfl (tb := 4) (by kernel_rfl) Tryz.underlying4 (Qht hx x.2)⟩
set_option maxRecDepth 100000 in
theorem topSound_lifted (os : Os) (started : os.Started) (H : Type) (enc : TypeId × Value → H) :
  ReturnsInHanded {} Tryz.checked os 4 .any (fun w args => (Rows.topSoundSpec.pre enc Tryz.prog Tryz.f4 [] false w args ∧ laidMetH Tryz.prog ZW w) ∧ sizedMet enc Tryz.prog Tryz.f4 (OpenSpec.ofChange Rows.topSoundSpec) false w args) (Rows.topSoundSpec.post enc Tryz.prog Tryz.f4 false true false false) := by
 refine returnsInHanded_of_change_and (C := Tryz.checked) (X := fun w _ => laidMetH Tryz.prog ZW w) (fun _ _ _ hh h => h.of_heap hh) QrC started (by kernel_rfl) Tryz.func4
  (ChangeSpec.witness_shaped (enc := enc) (C := Tryz.checked) (os := os) (X := fun w _ => laidMetH Tryz.prog ZW w) false (World.doorLaid Tryz.prog 36 os) #[.int .i64 0, .slice none 0 0, .agg (Qah.cells ++ [Value.slice none 0 0]).toArray] 8 rfl (World.shaped_of_RefB (by kernel_rfl) (by kernel_rfl)) (by kernel_rfl) (by kernel_rfl) (by kernel_rfl) (QiL os _)) ?_
 intro W base args ds gs before hval hW _ _ hL _
 exact topSound_contract H enc W base args ds gs before hval hW hL
theorem topSound_k0 : Tryz.prog.funcNamed "sparsetree/sparsetreetop.TopSound" = some 4 := by kernel_rfl
theorem topSound_k1 : (Rows.topSoundRow.inPlace == Tryz.prog.inPlace 4) = true := by kernel_rfl
theorem topSound_k2 : (Rows.topSoundRow.unfollowed == Tryz.prog.unfollowed 4) = true := by kernel_rfl
theorem topSound_k3 : (Rows.topSoundRow.recurses == Tryz.prog.recurses 4) = true := by kernel_rfl
theorem topSound_k4 : (Rows.topSoundRow.named == Tryz.prog.varsNamed 4) = true := by kernel_rfl
theorem topSound_k5 : Tryz.f4.isInstance Tryz.prog Rows.topSoundRow.origin Rows.topSoundRow.targs := of_decide_eq_true (by kernel_rfl)
theorem topSound_k6 : Tryz.f4.isWrapper Tryz.prog Rows.topSoundRow.wrapper Rows.topSoundRow.mainSum := by unfold Func.isWrapper; first | (rw [if_pos (by decide +kernel)]; kernel_rfl) | (rw [if_neg (by decide +kernel)]; exact ⟨rfl, rfl⟩)
theorem topSound_k7 : joinedFacts Tryz.prog 4 Tryz.f4 Rows.topSoundSpec Rows.topSoundRow = true := by
 unfold joinedFacts
 exact (Y8 (Y8 (Y8 (Y8 (Y8 (Y8 (Y8 (Y8 (Y8 (Y8 (Y8 (Y8 (Y8 (Y8 (Y8 (Y8 (Y8 (Y8 (Y8 (Y8 (Y8 (Y8 (Y8 (Y8 (Y8 (Y8 (Y8 (Y8 (Y8 (Y8 (Y8 (by kernel_rfl) QfD) QoA) (by kernel_rfl)) (by kernel_rfl)) (by kernel_rfl)) (by kernel_rfl)) (by kernel_rfl)) (by kernel_rfl)) topSound_k1) topSound_k2) topSound_k3) topSound_k4) (by kernel_rfl)) (by kernel_rfl)) (by kernel_rfl)) (by kernel_rfl)) (by kernel_rfl)) (by kernel_rfl)) (by kernel_rfl)) (by kernel_rfl)) (by kernel_rfl)) (QqX rfl Qo9)) (by kernel_rfl)) Qm4) Qm3) (QqX rfl Qm5)) (by kernel_rfl)) (by kernel_rfl)) (by kernel_rfl)) (by kernel_rfl)) (by kernel_rfl))
theorem topSound_row : Rows.TopSoundSaid :=
 OpenClaim.holds_of_wide 4 Tryz.f4 rfl rfl rfl rfl rfl rfl rfl ⟨rfl, rfl, rfl, rfl, rfl⟩ rfl rfl rfl rfl rfl topSound_k0 Tryz.func4 topSound_k7
  topSound_k5 topSound_k6
  (fun os started H enc _ => topSound_lifted os started H enc)
theorem topSound_holds : Rows.TopSoundCardSaid :=
 Claim7.holds_tied_plain_at .later [] [.handle, .data] true Rows.topSoundCard.stood.harness Rows.topSoundCard.stood.looks
  topSound_row (fun _ h => by cases h) (by kernel_rfl) (fun _ h => by cases h) topSound_row_tie rfl ⟨rfl, rfl⟩ (by kernel_rfl) rfl
  (fun f fn hf hfn => by
   obtain rfl : f = 4 := Option.some.inj (topSound_k0.symm.trans hf) |>.symm
   obtain rfl : fn = Tryz.f4 := (Option.some.inj (Tryz.func4.symm.trans hfn)).symm
   refine ⟨Qm6.symm, fun j t ht => ?_⟩
   have hall : (Tryz.f4.params.toList.all fun u => !Tryz.prog.wantsStandIn u) = true := by kernel_rfl
   exact (show Tryz.prog.wantsStandIn t = false by simpa using List.all_eq_true.1 hall t (Array.mem_toList_iff.2 (Array.mem_of_getElem? ht))))
  (by kernel_rfl)
end Go.Proofs.YtjhlbbgikccclaaGreatDoor
