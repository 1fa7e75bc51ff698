/- bitmap.Without. -/
import Derived.Test.YthinpbgbnlohpaaM23
namespace Go.Proofs.Ythinpbgbnlohpaa
set_option linter.unusedSimpArgs false
set_option linter.unusedVariables false
open Go.RowKit
attribute [local irreducible] wpStill wpList
theorem size92 : (Try.prog.info? 92).map (·.size) = some 32 := by kernel_rfl
theorem zero92 : (Try.prog.info? 92).map (fun i => (i.zero, i.size)) = some (some (.agg zB32.cells.toArray), 32) := by kernel_rfl
set_option maxRecDepth 100000 in
set_option maxHeartbeats 400000 in
/-- of a set that holds i -/
theorem Without_any (b : B32) (i : Nat) (hi : i < 256) (hbit : bitAt b i = true) (w : World) :
    Calls Try.prog 55 #[.agg b.cells.toArray, .int .i64 i] w fun e w' => e = .returned (.agg (flipAt b i).cells.toArray) ∧ Below w.heap.size w w' := by
  have hB := balloc (balloc (brefl w) (.cells b.cells.toArray 92)) (.cells zB32.cells.toArray 92)
  have hg0 := heap_alloc2_old w (.cells b.cells.toArray 92) (.cells zB32.cells.toArray 92)
  have hg1 := heap_alloc2_new w (.cells b.cells.toArray 92) (.cells zB32.cells.toArray 92)
  have hr := Lib.hid (blk_range hg0)
  have HS := Has_any b i hi ((w.alloc (.cells b.cells.toArray 92)).alloc (.cells zB32.cells.toArray 92))
  rw [hbit] at HS
  have hsz : ((w.alloc (.cells b.cells.toArray 92)).alloc (.cells zB32.cells.toArray 92)).heap.size = w.heap.size + 1 + 1 := by simp
  go_enter Try.func55, Try.ntmps55
  go_wp2_with (first | ((with_reducible refine gAlloc (T := 92) ?_); refine wplAllocZ rfl rfl zero92 ?_) | ((with_reducible refine gLoad (T := 92) ?_); refine wpl_runG ?_ (ex_load_row rfl rfl hr.out Try.underlying92 rfl (by rw [B32.cells_length]; exact size92)) ?_; (focus (first | (simp [Region.wanted, yielded]; done) | (simp [Region.wanted, yielded, *]; done)))))
  refine HS.mono ?_
  rintro e w1 ⟨rfl, hb1⟩
  have k0 := (hb1.block w.heap.size (by omega)).trans hg0
  have k1 := (hb1.block (w.heap.size + 1) (by omega)).trans hg1
  have hr1 := Lib.hid (blk_range k0)
  replace hB := bthen hB hb1
  have hsz1 := hb1.size
  go_wp2_with (((with_reducible refine gLoad (T := 92) ?_); refine wpl_runG ?_ (ex_load_row rfl rfl hr1.out Try.underlying92 rfl (by rw [B32.cells_length]; exact size92)) ?_; (focus (first | (simp [Region.wanted, yielded]; done) | (simp [Region.wanted, yielded, *]; done)))))
  refine (Flip_any b i hi w1).mono ?_
  rintro e w2 ⟨rfl, hb2⟩
  have k2 := (hb2.block (w.heap.size + 1) (by omega)).trans k1
  replace hB := bthen hB hb2
  go_wp2_with ((with_reducible refine gStore (T := 92) ?_); refine wplStoreRow rfl rfl rfl rfl k2 (by rw [B32.cells_length]; exact size92) (by rw [List.size_toArray, B32.cells_length, B32.cells_length]) (B32.cells_one _) ?_; intro w3 h31 h32 h33 h34)
  exact ret_row Try.results55 rfl h31 Try.underlying92 rfl (by rw [B32.cells_length]; exact size92) rfl ⟨rfl, h34 _ _ hB (by omega)⟩
end Go.Proofs.Ythinpbgbnlohpaa
