/- law20.alive. -/
import Derived.Test.YthinpbgbnlohpaaM8
import Derived.Test.YthinpbgbnlohpaaM12
import Derived.Test.YthinpbgbnlohpaaM5
import Derived.Test.YthinpbgbnlohpaaM1
namespace Go.Proofs.Ythinpbgbnlohpaa
set_option linter.unusedSimpArgs false
set_option linter.unusedVariables false
open Go.RowKit
attribute [local irreducible] wpStill wpList
def L3 : List Item := [⟨2, zB32, zLeaf⟩, ⟨3, headB 4, zLeaf⟩, ⟨1, zB32, ⟨headB 128, zB32⟩⟩]
theorem z_check : checkM [zItem] = 0 := by kernel_rfl
theorem z_enc : encM [zItem] = [1, 2, 0, 0, 0, 1, 0] := by kernel_rfl
theorem L3_check : checkM L3 = 0 := by kernel_rfl
theorem L3_len : (encM L3).length = 105 := by kernel_rfl
theorem L3_dec : decRes (encM L3) = (0, L3) := by kernel_rfl
theorem L3_size : sizeM L3 = 105 := by kernel_rfl
theorem L3_sib : siblings L3 = 1 := by kernel_rfl
theorem EncPost.ok {l : List Item} {w w' : World} {e : Ending} (hc : checkM l = 0) (h : EncPost l w e w') : ∃ A c, e = .returned (.tuple #[.slice A (encM l).length c, .int .i64 0]) ∧ (encM l).length ≤ c ∧ Rd w' A (bc (encM l)) ∧ w'.ownsRow w.heap.size 5 1 (.slice A (encM l).length c) (encM l).length (bc (encM l)) ∧ Below w.heap.size w w' := by
  unfold EncPost at h
  rw [if_pos hc] at h
  obtain ⟨v, rfl, ho, hb⟩ := h
  obtain ⟨A, c, rfl, hc, hr⟩ := own_Rd ho
  exact ⟨A, c, rfl, hc, hr, ho, hb⟩
theorem DecPost.open_ {l : List UInt8} {w w' : World} {e : Ending} (h : DecPost l w e w') : ∃ A c, e = .returned (.tuple #[.slice A (decRes l).2.length c, .int .i64 (decRes l).1]) ∧ (decRes l).2.length ≤ c ∧ Rd w' A ((decRes l).2.flatMap Item.cells) ∧ Below w.heap.size w w' := by
  obtain ⟨v, rfl, ho, hb⟩ := h
  obtain ⟨A, c, rfl, hc, hr⟩ := own_Rd ho
  exact ⟨A, c, rfl, hc, hr, hb⟩
attribute [local irreducible] encM decRes checkM
set_option maxRecDepth 100000 in
set_option maxHeartbeats 1000000 in
theorem alive_any (w : World) : Calls Try.prog 12 #[] w (BoolPost true w) := by
  go_enter Try.func12, Try.ntmps12
  go_wp2_with (first | ((with_reducible refine gBuild (T := 61) ?_); refine wpl_runG ?_ (exItem_ rfl) ?_; (focus (simp [Region.wanted, yielded]; done))) | ((with_reducible refine gBuild (T := 61) ?_); refine wpl_runG ?_ (exItem0 rfl rfl) ?_; (focus (simp [Region.wanted, yielded]; done))) | ((with_reducible refine gBuildSlice (n := 1) ?_); refine wplBuildRows rfl elI (parts := [(0, _)]) rfl Item.cells_length [zItem] rfl (by omega) (by omega) rfl ?_))
  have hr1 : Rd (w.alloc (.cells zItem.cells.toArray 61)) (some ⟨w.heap.size, 0, none⟩) ([zItem].flatMap Item.cells) := by simpa using Rd_lit w zItem.cells 61
  refine (Encode_any [zItem] _ 1 (by decide) (by decide) _ hr1).mono ?_
  intro e w1 h1
  obtain ⟨A1, c1, rfl, hc1, hr1', -, hb1⟩ := h1.ok z_check
  rw [z_enc] at hr1' hc1
  simp only [z_enc]
  replace hb1 := bthen (balloc (brefl w) (.cells zItem.cells.toArray 61)) hb1
  clear h1 hr1
  go_wp2_with (first | ((with_reducible refine gBuild (T := 61) ?_); refine wpl_runG ?_ (exItem0 rfl rfl) ?_; (focus (simp [Region.wanted, yielded]; done))) | ((with_reducible refine gBuild (T := 61) ?_); refine wpl_runG ?_ (exItem01 rfl rfl (d := headB 4) rfl) ?_; (focus (simp [Region.wanted, yielded]; done))) | ((with_reducible refine gBuild (T := 61) ?_); refine wpl_runG ?_ (exItem02 rfl rfl (d := ⟨headB 128, zB32⟩) rfl) ?_; (focus (simp [Region.wanted, yielded]; done))) | ((with_reducible refine gBuild (T := 43) ?_); refine wpl_runG ?_ (exDigest0 rfl (b := 4) rfl) ?_; (focus (simp [Region.wanted, yielded]; done))) | ((with_reducible refine gBuild (T := 42) ?_); refine wpl_runG ?_ (exKey0 rfl (b := 128) rfl) ?_; (focus (simp [Region.wanted, yielded]; done))) | ((with_reducible refine gBuild (T := 45) ?_); refine wpl_runG ?_ (exLeaf0 rfl (k := headB 128) rfl) ?_; (focus (simp [Region.wanted, yielded]; done))) | ((with_reducible refine gBuildSlice (n := 3) ?_); refine wplBuildRows rfl elI (parts := [(0, _), (1, _), (2, _)]) rfl Item.cells_length L3 rfl (by omega) (by omega) rfl ?_))
  have hrL : Rd (w1.alloc (.cells (L3.flatMap Item.cells).toArray 61)) (some ⟨w1.heap.size, 0, none⟩) (L3.flatMap Item.cells) := Rd_lit w1 _ _
  have hbL := balloc (brefl w1) (.cells (L3.flatMap Item.cells).toArray 61)
  refine (Encode_any L3 _ 3 (by decide) (by decide) _ hrL).mono ?_
  intro e w2 h2
  obtain ⟨A2, c2, rfl, hc2, hr2, -, hb2⟩ := h2.ok L3_check
  have hD := L3_dec
  have hlen := L3_len
  generalize encM L3 = B3 at *
  rw [hlen] at hc2 ⊢
  have hL2 := hrL.below hb2
  have hb12 := bthen hbL hb2
  clear h2 hrL hbL hb2
  go_wp2_with fail
  have DD := Decode_any B3 A2 c2 (by rw [hlen]; decide) (by rw [hlen]; exact hc2) w2 hr2
  rw [hlen] at DD
  refine DD.mono ?_
  intro e w3 h3
  obtain ⟨A3, c3, rfl, hc3, hr3, hb3⟩ := h3.open_
  clear h3 DD
  simp only [hD] at hr3 hc3 ⊢
  clear hD hlen
  have hL3 := hL2.below hb3
  have hb13 := bthen hb12 hb3
  have hr13 := hr1'.below hb13
  have hb := bthen hb1 hb13
  clear hL2 hb3 hb12 hr1' hb1 hb13
  go_wp2_with fail
  have hbb := balloc (brefl w3) (.cells (bc [1, 2, 0, 0, 0, 1, 0]).toArray 5)
  refine (same_any [1, 2, 0, 0, 0, 1, 0] [1, 2, 0, 0, 0, 1, 0] A1 _ c1 _ (by decide) _ (hr13.below hbb) (Rd_lit w3 _ _)).mono ?_
  rintro e w4 ⟨rfl, hb4⟩
  replace hb4 := bthen hbb hb4
  go_wp2_with fail
  refine (sameItems_any L3 L3 A3 _ c3 _ (by decide) _ (hr3.below hb4) (hL3.below hb4)).mono ?_
  rintro e w5 ⟨rfl, hb5⟩
  replace hb5 := bthen hb4 hb5
  go_wp2_with fail
  have SZ := Size_any L3 _ 3 (by decide) (by decide) _ (hL3.below hb5)
  rw [L3_size] at SZ
  refine SZ.mono ?_
  rintro e w6 ⟨rfl, hb6⟩
  replace hb6 := bthen hb5 hb6
  go_wp2_with fail
  have SB := Siblings_some L3 _ _ 3 (by decide) _ (hL3.below hb6).range
  rw [L3_sib] at SB
  refine SB.mono ?_
  rintro e w7 ⟨rfl, hb7⟩
  go_wp2_with fail
  go_ret
  exact ⟨rfl, bthen hb (bthen hb6 hb7)⟩
end Go.Proofs.Ythinpbgbnlohpaa
