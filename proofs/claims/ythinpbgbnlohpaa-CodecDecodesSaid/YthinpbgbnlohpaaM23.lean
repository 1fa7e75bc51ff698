/- bits.Flip. -/
import Derived.Test.YthinpbgbnlohpaaE2
import Derived.Laws.Runes
namespace Go.Proofs.Ythinpbgbnlohpaa
set_option linter.unusedSimpArgs false
set_option linter.unusedVariables false
open Go.RowKit
attribute [local irreducible] wpStill wpList
theorem xor_flip (x : UInt8) (m : Nat) (hm : m < 8) : bits .xor .u8 (x.toNat : Int) (IntKind.u8.wrap (2 ^ min (7 - m) 8)) = ((flipB x m).toNat : Int) := by
  have key : ∀ n : Fin 256, ∀ m : Fin 8, bits .xor .u8 ((UInt8.ofNat n.val).toNat : Int) (IntKind.u8.wrap (2 ^ min (7 - m.val) 8)) = ((flipB (UInt8.ofNat n.val) m.val).toNat : Int) := by decide +kernel
  exact all_bytes (p := fun x => ∀ m : Fin 8, bits .xor .u8 (x.toNat : Int) (IntKind.u8.wrap (2 ^ min (7 - m.val) 8)) = ((flipB x m.val).toNat : Int)) key x ⟨m, hm⟩
theorem flip_cells (b : B32) (i : Nat) (hi : i < 256) : b.cells.toArray.setIfInBounds (i / 8) (.int .u8 (bits .xor .u8 ((b.1.getD (i / 8) 0).toNat : Int) (IntKind.u8.wrap (2 ^ min (7 - i % 8) 8)))) = (flipAt b i).cells.toArray := by
  rw [xor_flip _ _ (by omega)]
  apply Array.ext'
  simp [flipAt, B32.cells, bc, List.map_set]
set_option maxRecDepth 100000 in
set_option maxHeartbeats 400000 in
theorem Flip_any (b : B32) (i : Nat) (hi : i < 256) (w : World) :
    Calls Try.prog 59 #[.agg b.cells.toArray, .int .i64 i] w fun e w' => e = .returned (.agg (flipAt b i).cells.toArray) ∧ Below w.heap.size w w' := by
  have hb := b.2
  have hx : (b.1.getD (i / 8) 0).toNat < 256 := UInt8.toNat_lt _
  have hc := B32.at_ (rangeAt_below (rangeAt_new' w b.cells 42) (balloc (brefl _) (.cells zB32.cells.toArray 42))) (i / 8) (by omega)
  rw [Nat.zero_add] at hc
  have hw1 : IntKind.i64.wrap ((i : Int) / 8) = ((i / 8 : Nat) : Int) := by rw [wrap_small _ (by omega) (by omega)]; omega
  have hw2 : (i : Int).tmod 8 = ((i % 8 : Nat) : Int) := by rw [Int.tmod_eq_emod_of_nonneg (by omega)]; omega
  have hw3 : IntKind.i64.wrap (7 - ((i % 8 : Nat) : Int)) = ((7 - i % 8 : Nat) : Int) := by rw [wrap_small _ (by omega) (by omega)]; omega
  have hq : (0 : Int) ≤ ((i / 8 : Nat) : Int) ∧ ((i / 8 : Nat) : Int) < 32 := by omega
  have hr : (0 : Int) ≤ ((7 - i % 8 : Nat) : Int) := by omega
  have HF := Lib.hid (flip_cells b i hi)
  generalize b.1.getD (i / 8) 0 = x at *
  generalize i / 8 = q at *
  generalize 7 - i % 8 = r at *
  generalize i % 8 = m at *
  go_enter Try.func59, Try.ntmps59
  go_wp2_with ((with_reducible refine gAlloc (T := 42) ?_); refine wplAllocZ rfl rfl zero42 ?_)
  have hB := balloc (balloc (brefl w) (.cells b.cells.toArray 42)) (.cells zB32.cells.toArray 42)
  have hg0 := heap_alloc2_old w (.cells b.cells.toArray 42) (.cells zB32.cells.toArray 42)
  have hg1 := heap_alloc2_new w (.cells b.cells.toArray 42) (.cells zB32.cells.toArray 42)
  generalize (w.alloc (.cells b.cells.toArray 42)).alloc (.cells zB32.cells.toArray 42) = W at *
  replace hc : W.drew.cell? _ = _ := hc
  replace hg0 : W.drew.heap[_]? = _ := hg0
  replace hg1 : W.drew.heap[_]? = _ := hg1
  replace hB := hB.drew
  refine wp_region_still_tail 10 follows (by kernel_rfl) ?_
  repeat still_step
  refine wpStill_nil ?_
  refine wplStoreCell rfl rfl rfl rfl hg0 size5 (by rw [List.size_toArray, B32.cells_length]; omega) rfl ?_
  intro w2 h21 h22 h23 h24
  replace h21 : w2.heap[w.heap.size]? = some (.cells (flipAt b i).cells.toArray 42 (0, 0)) := by rw [← HF.out]; exact h21
  replace h23 := (h23 _ (by omega)).trans hg1
  replace h24 := h24 _ _ hB (Nat.le_refl _)
  have hrg := Lib.hid (blk_range h21)
  clear hc hg0 hg1 hB
  go_wp2_with (first | ((with_reducible refine gLoad (T := 42) ?_); refine wLoadKey _ rfl ?_ _ _ rfl _ hrg.out ?_; (focus (first | (simp [Region.wanted, yielded]; done) | (simp [Region.wanted, yielded, *]; done)))) | ((with_reducible refine gStore (T := 42) ?_); refine wplStoreRow rfl rfl rfl rfl h23 (by rw [B32.cells_length]; exact size42) (by rw [List.size_toArray, B32.cells_length, B32.cells_length]) (B32.cells_one _) ?_; intro w3 h31 h32 h33 h34))
  exact ret_row Try.results59 rfl h31 Try.underlying42 rfl (by rw [B32.cells_length]; exact size42) rfl ⟨rfl, h34 _ _ h24 (by omega)⟩
end Go.Proofs.Ythinpbgbnlohpaa
