/- bits.Bit, bitmap.Has, OnesCount8, Len8, LeadingZeros8. -/
import Derived.Test.YthinpbgbnlohpaaE1
import Derived.Test.YthinpbgbnlohpaaM6
import Derived.Laws.BitsAllLaws
namespace Go.Proofs.Ythinpbgbnlohpaa
set_option linter.unusedSimpArgs false
set_option linter.unusedVariables false
open Go.RowKit
attribute [local irreducible] wpStill wpList
theorem byte_in (y : UInt8) : -9223372036854775808 ≤ (y.toNat : Int) ∧ (y.toNat : Int) ≤ 9223372036854775807 := by have := y.toNat_lt; omega
def bitI (b : B32) (i : Nat) : Int := if bitAt b i then 1 else 0
theorem and_one (x : UInt8) (j : Nat) : wrap64 (bits .and .u8 ((x.toNat : Int) / 2 ^ (7 - j)) 1) = if bbit x j then 1 else 0 := by
  have e : ((x.toNat : Int) / 2 ^ (7 - j)) = ((x.toNat / 2 ^ (7 - j) : Nat) : Int) := by
    rw [Int.natCast_ediv]
    congr 1
  have hx := x.toNat_lt
  have hlt : x.toNat / 2 ^ (7 - j) < 256 := Nat.lt_of_le_of_lt (Nat.div_le_self _ _) hx
  have h1 := u8_and_nat (x.toNat / 2 ^ (7 - j)) 1 hlt (by omega)
  rw [e]
  have h2 : bits .and .u8 ((x.toNat / 2 ^ (7 - j) : Nat) : Int) 1 = ((x.toNat / 2 ^ (7 - j) % 2 : Nat) : Int) := by
    rw [← Nat.and_one_is_mod]; exact h1
  rw [h2]
  unfold bbit
  have h3 : x.toNat / 2 ^ (7 - j) % 2 < 2 := Nat.mod_lt _ (by omega)
  generalize x.toNat / 2 ^ (7 - j) % 2 = y at *
  rcases (show y = 0 ∨ y = 1 by omega) with rfl | rfl
  · rw [IntWalk.wrap64_in _ (by omega)]; rfl
  · rw [IntWalk.wrap64_in _ (by omega)]; rfl
set_option maxHeartbeats 400000 in
theorem Bit_any (b : B32) (i : Nat) (hi : i < 256) (w : World) :
    Calls Try.prog 61 #[.agg b.cells.toArray, .int .i64 i] w fun e w' => e = .returned (.int .i64 (bitI b i)) ∧ Below w.heap.size w w' := by
  have hc := B32.at_ (rangeAt_new' w b.cells 42) (i / 8) (by omega)
  rw [Nat.zero_add] at hc
  have hx : (b.1.getD (i / 8) 0).toNat < 256 := UInt8.toNat_lt _
  have HA := Lib.hid (and_one (b.1.getD (i / 8) 0) (i % 8))
  have HB := Lib.hid (show bitI b i = if bbit (b.1.getD (i / 8) 0) (i % 8) then 1 else 0 from rfl)
  generalize b.1.getD (i / 8) 0 = x at *
  go_enter Try.func61, Try.ntmps61
  go_wp2_with fail
  go_ret
  exact ⟨by rw [HA.out, HB.out]; rfl, balloc (brefl w) _⟩
set_option maxHeartbeats 400000 in
theorem Has_any (b : B32) (i : Nat) (hi : i < 256) (w : World) :
    Calls Try.prog 58 #[.agg b.cells.toArray, .int .i64 i] w fun e w' => e = .returned (.bool (bitAt b i)) ∧ Below w.heap.size w w' := by
  have hr := rangeAt_new' w b.cells 92
  have BT := Bit_any b i hi (w.alloc (.cells b.cells.toArray 92))
  have HB := Lib.hid (show ((bitI b i == 1) = bitAt b i) by unfold bitI; cases bitAt b i <;> rfl)
  go_enter Try.func58, Try.ntmps58
  go_wp2_with ((with_reducible refine gLoad (T := 92) ?_); refine wpl_runG ?_ (ex_load_row rfl rfl hr Try.underlying92 rfl (by rw [B32.cells_length]; kernel_rfl)) ?_; (focus (first | (simp [Region.wanted, yielded]; done) | (simp [Region.wanted, yielded, *]; done))))
  refine BT.mono ?_
  rintro e w1 ⟨rfl, hb⟩
  go_wp2_with fail
  go_ret
  exact ⟨by rw [HB.out]; rfl, bthen (balloc (brefl w) _) hb⟩
set_option maxRecDepth 100000 in
set_option maxHeartbeats 400000 in
theorem OnesCount8_any (x : UInt8) (w : World) :
    Calls Try.prog 57 #[.int .u8 x.toNat] w fun e w' => e = .returned (.int .i64 (pop8 x)) ∧ w = w' := by
  have hx := x.toNat_lt
  go_enter Try.func57, Try.ntmps57
  go_wp2_with fail
  go_ret
  refine ⟨ret_int ?_, rfl⟩
  show wrap64 _ = _
  rw [IntWalk.wrap64_in _ (byte_in _)]
  clear w
  revert x
  refine all_bytes ?_
  decide +kernel
theorem lz8_le (x : UInt8) : lz8 x ≤ 8 := by
  revert x
  refine all_bytes ?_
  decide +kernel
set_option maxRecDepth 100000 in
set_option maxHeartbeats 400000 in
theorem Len8_any (x : UInt8) (w : World) :
    Calls Try.prog 62 #[.int .u8 x.toNat] w fun e w' => e = .returned (.int .i64 ((8 - lz8 x : Nat) : Int)) ∧ w = w' := by
  have hx := x.toNat_lt
  go_enter Try.func62, Try.ntmps62
  go_wp2_with fail
  go_ret
  refine ⟨ret_int ?_, rfl⟩
  show wrap64 _ = _
  rw [IntWalk.wrap64_in _ (byte_in _)]
  clear w
  revert x
  refine all_bytes ?_
  decide +kernel
theorem LeadingZeros8_any (x : UInt8) (w : World) :
    Calls Try.prog 60 #[.int .u8 x.toNat] w fun e w' => e = .returned (.int .i64 (lz8 x)) ∧ w = w' := by
  have LN := Len8_any x w
  have hl := lz8_le x
  have h2 := Lib.hid (show (8 : Int) - ((8 - lz8 x : Nat) : Int) = lz8 x by omega)
  generalize hy : 8 - lz8 x = y at *
  have hy8 : y ≤ 8 := by omega
  clear hy
  go_enter Try.func60, Try.ntmps60
  go_wp2_with fail
  refine LN.mono ?_
  rintro e w1 ⟨rfl, rfl⟩
  go_wp2_with fail
  go_ret
  exact ⟨ret_int h2.out, rfl⟩
end Go.Proofs.Ythinpbgbnlohpaa
