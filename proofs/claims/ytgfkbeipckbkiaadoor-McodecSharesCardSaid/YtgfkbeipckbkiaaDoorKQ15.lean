/- McodecShares: for every number of bits, list of entries and list of keys the call returns true and the arguments read as they did; condition: the table of rounds as the program's text lays it (tied by the card). -/
import Derived.Test.YtgfkbeipckbkiaaDoorK13
import Derived.Test.YtgfkbeipckbkiaaDoorCards
import Derived.Test.YtgfkbeipckbkiaaDoorTie
import Derived.Handed
import Derived.JoinedOf
import Derived.SevenTiedAt
set_option linter.all false
namespace Go.Proofs.YtgfkbeipckbkiaaDoor
set_option linter.unusedSimpArgs false
set_option linter.unusedVariables false
open Go.ChangeShapes Go.WideShapes Go.ChangeAt Go.RowKit
set_option maxRecDepth 100000 in
theorem mcodecShares_contract (H : Type) (enc : TypeId × Value → H) (W : World) (base : Nat) (args : Array Value) (ds gs : List (DataW H)) (before : List MemPlace)
    (hval : ∀ (j : Nat) t v, Tryd.f3.params[j]? = some t → args[j]? = some v → Value.okWide Tryd.prog W .any base t v)
    (hW : DataW.Whole enc Tryd.prog Tryd.f3.params.toList Rows.mcodecSharesSpec.vars false W args.toList ds gs before) (hL : laidMetH Tryd.prog laidR W) :
    Calls Tryd.prog 3 args W fun e W' => ∃ v, e = .returned v ∧ Rows.mcodecSharesSpec.post enc Tryd.prog Tryd.f3 false true false false W args v W' := by
  have hT := table_of hL
  have hW' := hW
  obtain ⟨p, q, hA0, hV, rfl, hfz, hnd⟩ := hW
  have hA : DataW.TrodAll enc Tryd.prog W 0 (fun _ => true) true Tryd.f3.params.toList args.toList ds p := hA0
  rw [Tryd.params3] at hA hval
  obtain ⟨v0, vs0, d0, ds0, p0, q0, hargs, rfl, rfl, h0, r0⟩ := trodAll_cons hA
  obtain ⟨v1, vs1, d1, ds1, p1, q1, rfl, rfl, rfl, h1, r1⟩ := trodAll_cons r0
  obtain ⟨v2, vs2, d2, ds2, p2, q2, rfl, rfl, rfl, h2, r2⟩ := trodAll_cons r1
  obtain ⟨rfl, rfl, rfl⟩ := trodAll_nil r2
  obtain rfl : args = #[v0, v1, v2] := by cases args; simp_all
  obtain ⟨rfl, rfl⟩ := trodVars_none hV
  obtain ⟨i, rfl, -⟩ := open_int' Tryd.underlying3 (hval 0 3 v0 rfl rfl) h0
  obtain ⟨l, lA, lc, rfl, lZ, lv⟩ := openEntries (hval 1 22 v1 rfl rfl) h1
  obtain ⟨k, kA, kc, rfl, kl, kZ, km⟩ := openKeys (hval 2 23 v2 rfl rfl) h2
  clear hA0 hval
  have hT2 : RdZ (World.zh W) (some ⟨1, 0, none⟩) hashT := RdZ.of hT
  refine ((McodecShares_s _ i l lA lc lv k kA kc kl (by omega)) W (Fx.all W) (fun r hr => (List.not_mem_nil hr).elim)).mono fun e W' ⟨x, he, hx⟩ => ?_
  subst he
  exact ⟨_, rfl, post_law laidOut' (by rw [Tryd.params3]; intro t ht; simp at ht; rcases ht with rfl | rfl | rfl <;> exact ⟨by kernel_rfl, of_decide_eq_true (by kernel_rfl)⟩) hW' rfl rfl (tb := 4) (by kernel_rfl) Tryd.underlying4 (zone_below hx x.2)⟩
set_option maxRecDepth 100000 in
theorem mcodecShares_lifted (os : Os) (started : os.Started) (H : Type) (enc : TypeId × Value → H) :
    ReturnsInHanded {} Tryd.checked os 3 .any (fun w args => (Rows.mcodecSharesSpec.pre enc Tryd.prog Tryd.f3 [] false w args ∧ laidMetH Tryd.prog laidR w) ∧ sizedMet enc Tryd.prog Tryd.f3 (OpenSpec.ofChange Rows.mcodecSharesSpec) false w args) (Rows.mcodecSharesSpec.post enc Tryd.prog Tryd.f3 false true false false) := by
  refine returnsInHanded_of_change_and (C := Tryd.checked) (X := fun w _ => laidMetH Tryd.prog laidR w) (fun _ _ _ hh h => h.of_heap hh) own' started (by kernel_rfl) Tryd.func3
    (ChangeSpec.witness_shaped (enc := enc) (C := Tryd.checked) (os := os) (X := fun w _ => laidMetH Tryd.prog laidR w) false (World.doorLaid Tryd.prog 14 os) #[.int .i64 0, .slice none 0 0, .slice none 0 0] 8 rfl (World.shaped_of_RefB (by kernel_rfl) (by kernel_rfl)) (by kernel_rfl) (by kernel_rfl) (by kernel_rfl) (door_met os _)) ?_
  intro W base args ds gs before hval hW _ _ hL _
  exact mcodecShares_contract H enc W base args ds gs before hval hW hL
theorem mcodecShares_row : Rows.McodecSharesSaid :=
  OpenClaim.holds_of_wide 3 Tryd.f3 rfl rfl rfl rfl rfl rfl rfl ⟨rfl, rfl, rfl, rfl, rfl⟩ rfl rfl rfl rfl rfl (by kernel_rfl) Tryd.func3 (by kernel_rfl)
    (of_decide_eq_true (by kernel_rfl)) (by unfold Func.isWrapper; first | (rw [if_pos (by decide +kernel)]; kernel_rfl) | (rw [if_neg (by decide +kernel)]; exact ⟨rfl, rfl⟩))
    (fun os started H enc _ => mcodecShares_lifted os started H enc)
theorem mcodecShares_holds : Rows.McodecSharesCardSaid :=
  Claim7.holds_tied_plain_at .later [] [.data] true Rows.mcodecSharesCard.stood.harness Rows.mcodecSharesCard.stood.looks
    mcodecShares_row (fun _ h => by cases h) (by kernel_rfl) (fun _ h => by cases h) mcodecShares_row_tie rfl ⟨rfl, rfl⟩ (by kernel_rfl) rfl
    (fun f fn hf hfn => by
      obtain rfl : f = 3 := Option.some.inj ((show Tryd.prog.funcNamed "sparsetree/sparsetreelaw20.McodecShares" = some 3 by kernel_rfl).symm.trans hf) |>.symm
      obtain rfl : fn = Tryd.f3 := (Option.some.inj (Tryd.func3.symm.trans hfn)).symm
      refine ⟨by kernel_rfl, fun j t ht => ?_⟩
      have hall : (Tryd.f3.params.toList.all fun u => !Tryd.prog.wantsStandIn u) = true := by kernel_rfl
      exact (show Tryd.prog.wantsStandIn t = false by simpa using List.all_eq_true.1 hall t (Array.mem_toList_iff.2 (Array.mem_of_getElem? ht))))
    (by kernel_rfl)
end Go.Proofs.YtgfkbeipckbkiaaDoor
