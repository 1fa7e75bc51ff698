/- The seat's types and functions, for the new logic; SHA-256 in plain Lean, as the reference reckons it (joined texts: TN E7) -/
import Derived.Test.YtgfkbeipckbkiaaDoorK5
import Derived.Test.YtgfkbeipckbkiaaDoorRows
import Derived.Shelf.Abstract
set_option linter.all false
/- TN -/
namespace Go.Proofs.YtgfkbeipckbkiaaDoor
set_option linter.unusedSimpArgs false
set_option linter.unusedVariables false
open Go.RowKit Go.Shelf
instance : TOne Tryd.prog 1 := ⟨⟨_, Tryd.underlying1, rfl⟩, by kernel_rfl⟩
instance : TZ Tryd.prog 1 [.nilFunc] := ⟨⟨.nilFunc, by kernel_rfl, rfl⟩⟩
instance : TOne Tryd.prog 2 := ⟨⟨_, Tryd.underlying2, rfl⟩, by kernel_rfl⟩
instance : TZ Tryd.prog 2 [.int .i64 0] := ⟨⟨.int .i64 0, by kernel_rfl, rfl⟩⟩
instance : TOne Tryd.prog 3 := ⟨⟨_, Tryd.underlying3, rfl⟩, by kernel_rfl⟩
instance : TZ Tryd.prog 3 [.int .i64 0] := ⟨⟨.int .i64 0, by kernel_rfl, rfl⟩⟩
instance : TOne Tryd.prog 4 := ⟨⟨_, Tryd.underlying4, rfl⟩, by kernel_rfl⟩
instance : TZ Tryd.prog 4 [.bool false] := ⟨⟨.bool false, by kernel_rfl, rfl⟩⟩
instance : TOne Tryd.prog 5 := ⟨⟨_, Tryd.underlying5, rfl⟩, by kernel_rfl⟩
instance : TZ Tryd.prog 5 [.int .u8 0] := ⟨⟨.int .u8 0, by kernel_rfl, rfl⟩⟩
instance : TRow Tryd.prog 7 4 := ⟨⟨_, Tryd.underlying7, rfl⟩, by kernel_rfl⟩
instance : TFA Tryd.prog 7 0 0 := ⟨⟨_, _, 0, Tryd.underlying7, rfl, rfl, by kernel_rfl⟩⟩
instance : TFA Tryd.prog 7 1 1 := ⟨⟨_, _, 0, Tryd.underlying7, rfl, rfl, by kernel_rfl⟩⟩
instance : TFA Tryd.prog 7 2 2 := ⟨⟨_, _, 0, Tryd.underlying7, rfl, rfl, by kernel_rfl⟩⟩
instance : TFA Tryd.prog 7 3 3 := ⟨⟨_, _, 0, Tryd.underlying7, rfl, rfl, by kernel_rfl⟩⟩
instance : TZ Tryd.prog 7 ([.int .i64 0, .int .i64 0, .bool false, .int .u8 0]) := ⟨⟨.agg #[.int .i64 0, .int .i64 0, .bool false, .int .u8 0], by kernel_rfl, rfl⟩⟩
def pl7 : Nat → Option (Nat × Nat) := fun i => ([(0, 1), (1, 1), (2, 1), (3, 1)] : List (Nat × Nat)).toArray[i]?
instance : Place pl7 0 0 1 := ⟨rfl⟩
instance : Place pl7 1 1 1 := ⟨rfl⟩
instance : Place pl7 2 2 1 := ⟨rfl⟩
instance : Place pl7 3 3 1 := ⟨rfl⟩
instance : TB Tryd.prog 7 ([.int .i64 0, .int .i64 0, .bool false, .int .u8 0]) pl7 := ⟨fun w ps cells h => run_build_struct (fl := _) Tryd.underlying7 (z := ([.int .i64 0, .int .i64 0, .bool false, .int .u8 0] : List Value).toArray) (n := 4) (by kernel_rfl) (pl := [(0, 1), (1, 1), (2, 1), (3, 1)]) (by kernel_rfl) h⟩
instance : TOne Tryd.prog 9 := ⟨⟨_, Tryd.underlying9, rfl⟩, by kernel_rfl⟩
instance : TZ Tryd.prog 9 [.string ByteArray.empty] := ⟨⟨.string ByteArray.empty, by kernel_rfl, rfl⟩⟩
instance : TOne Tryd.prog 12 := ⟨⟨_, Tryd.underlying12, rfl⟩, by kernel_rfl⟩
instance : TZ Tryd.prog 12 [.int .u64 0] := ⟨⟨.int .u64 0, by kernel_rfl, rfl⟩⟩
instance : TRow Tryd.prog 13 2 := ⟨⟨_, Tryd.underlying13, rfl⟩, by kernel_rfl⟩
instance : TFA Tryd.prog 13 0 0 := ⟨⟨_, _, 0, Tryd.underlying13, rfl, rfl, by kernel_rfl⟩⟩
instance : TFA Tryd.prog 13 1 1 := ⟨⟨_, _, 0, Tryd.underlying13, rfl, rfl, by kernel_rfl⟩⟩
instance : TOne Tryd.prog 15 := ⟨⟨_, Tryd.underlying15, rfl⟩, by kernel_rfl⟩
instance : TZ Tryd.prog 15 [.pointer none] := ⟨⟨.pointer none, by kernel_rfl, rfl⟩⟩
instance : TOne Tryd.prog 16 := ⟨⟨_, Tryd.underlying16, rfl⟩, by kernel_rfl⟩
instance : TZ Tryd.prog 16 [.pointer none] := ⟨⟨.pointer none, by kernel_rfl, rfl⟩⟩
instance : TOne Tryd.prog 17 := ⟨⟨_, Tryd.underlying17, rfl⟩, by kernel_rfl⟩
instance : TZ Tryd.prog 17 [.pointer none] := ⟨⟨.pointer none, by kernel_rfl, rfl⟩⟩
instance : TRow Tryd.prog 18 1 := ⟨⟨_, Tryd.underlying18, rfl⟩, by kernel_rfl⟩
instance : TFA Tryd.prog 18 0 0 := ⟨⟨_, _, 0, Tryd.underlying18, rfl, rfl, by kernel_rfl⟩⟩
instance : TZ Tryd.prog 18 ([.pointer none]) := ⟨⟨.agg #[.pointer none], by kernel_rfl, rfl⟩⟩
def pl18 : Nat → Option (Nat × Nat) := fun i => ([(0, 1)] : List (Nat × Nat)).toArray[i]?
instance : Place pl18 0 0 1 := ⟨rfl⟩
instance : TB Tryd.prog 18 ([.pointer none]) pl18 := ⟨fun w ps cells h => run_build_struct (fl := _) Tryd.underlying18 (z := ([.pointer none] : List Value).toArray) (n := 1) (by kernel_rfl) (pl := [(0, 1)]) (by kernel_rfl) h⟩
instance : TOne Tryd.prog 20 := ⟨⟨_, Tryd.underlying20, rfl⟩, by kernel_rfl⟩
instance : TZ Tryd.prog 20 [.nilIface] := ⟨⟨.nilIface, by kernel_rfl, rfl⟩⟩
instance : TOne Tryd.prog 21 := ⟨⟨_, Tryd.underlying21, rfl⟩, by kernel_rfl⟩
instance : TZ Tryd.prog 21 [.int .i32 0] := ⟨⟨.int .i32 0, by kernel_rfl, rfl⟩⟩
instance : TOne Tryd.prog 22 := ⟨⟨_, Tryd.underlying22, rfl⟩, by kernel_rfl⟩
instance : TZ Tryd.prog 22 [.slice none 0 0] := ⟨⟨.slice none 0 0, by kernel_rfl, rfl⟩⟩
instance : TS Tryd.prog 22 77 33 56 (.agg zEntry.cells.toArray) := ⟨⟨Tryd.underlying22, by kernel_rfl, by simp [Value.cells, Entry.cells_length], by decide, by decide⟩⟩
instance : TOne Tryd.prog 23 := ⟨⟨_, Tryd.underlying23, rfl⟩, by kernel_rfl⟩
instance : TZ Tryd.prog 23 [.slice none 0 0] := ⟨⟨.slice none 0 0, by kernel_rfl, rfl⟩⟩
instance : TS Tryd.prog 23 40 32 32 (.agg zB32.cells.toArray) := ⟨⟨Tryd.underlying23, by kernel_rfl, by simp [Value.cells, B32.cells_length], by decide, by decide⟩⟩
instance : TOne Tryd.prog 24 := ⟨⟨_, Tryd.underlying24, rfl⟩, by kernel_rfl⟩
instance : TZ Tryd.prog 24 [.pointer none] := ⟨⟨.pointer none, by kernel_rfl, rfl⟩⟩
instance : TOne Tryd.prog 26 := ⟨⟨_, Tryd.underlying26, rfl⟩, by kernel_rfl⟩
instance : TZ Tryd.prog 26 [.nilFunc] := ⟨⟨.nilFunc, by kernel_rfl, rfl⟩⟩
instance : TOne Tryd.prog 27 := ⟨⟨_, Tryd.underlying27, rfl⟩, by kernel_rfl⟩
instance : TZ Tryd.prog 27 [.pointer none] := ⟨⟨.pointer none, by kernel_rfl, rfl⟩⟩
instance : TOne Tryd.prog 28 := ⟨⟨_, Tryd.underlying28, rfl⟩, by kernel_rfl⟩
instance : TZ Tryd.prog 28 [.nilFunc] := ⟨⟨.nilFunc, by kernel_rfl, rfl⟩⟩
instance : TOne Tryd.prog 29 := ⟨⟨_, Tryd.underlying29, rfl⟩, by kernel_rfl⟩
instance : TZ Tryd.prog 29 [.nilFunc] := ⟨⟨.nilFunc, by kernel_rfl, rfl⟩⟩
instance : TOne Tryd.prog 30 := ⟨⟨_, Tryd.underlying30, rfl⟩, by kernel_rfl⟩
instance : TZ Tryd.prog 30 [.nilFunc] := ⟨⟨.nilFunc, by kernel_rfl, rfl⟩⟩
instance : TOne Tryd.prog 31 := ⟨⟨_, Tryd.underlying31, rfl⟩, by kernel_rfl⟩
instance : TZ Tryd.prog 31 [.slice none 0 0] := ⟨⟨.slice none 0 0, by kernel_rfl, rfl⟩⟩
instance : TS Tryd.prog 31 45 97 104 (.agg zItem.cells.toArray) := ⟨⟨Tryd.underlying31, by kernel_rfl, by simp [Value.cells, Item.cells_length], by decide, by decide⟩⟩
instance : TOne Tryd.prog 32 := ⟨⟨_, Tryd.underlying32, rfl⟩, by kernel_rfl⟩
instance : TZ Tryd.prog 32 [.int .i64 0] := ⟨⟨.int .i64 0, by kernel_rfl, rfl⟩⟩
instance : TOne Tryd.prog 34 := ⟨⟨_, Tryd.underlying34, rfl⟩, by kernel_rfl⟩
instance : TZ Tryd.prog 34 [.nilFunc] := ⟨⟨.nilFunc, by kernel_rfl, rfl⟩⟩
instance : TOne Tryd.prog 35 := ⟨⟨_, Tryd.underlying35, rfl⟩, by kernel_rfl⟩
instance : TZ Tryd.prog 35 [.slice none 0 0] := ⟨⟨.slice none 0 0, by kernel_rfl, rfl⟩⟩
instance : TS Tryd.prog 35 5 1 1 (.int .u8 0) := ⟨⟨Tryd.underlying35, by kernel_rfl, rfl, by decide, by decide⟩⟩
instance : TOne Tryd.prog 37 := ⟨⟨_, Tryd.underlying37, rfl⟩, by kernel_rfl⟩
instance : TZ Tryd.prog 37 [.nilFunc] := ⟨⟨.nilFunc, by kernel_rfl, rfl⟩⟩
instance : TOne Tryd.prog 38 := ⟨⟨_, Tryd.underlying38, rfl⟩, by kernel_rfl⟩
instance : TZ Tryd.prog 38 [.nilFunc] := ⟨⟨.nilFunc, by kernel_rfl, rfl⟩⟩
instance : TRow Tryd.prog 39 32 := ⟨⟨_, Tryd.underlying39, rfl⟩, by kernel_rfl⟩
instance : TArr Tryd.prog 39 32 5 1 := ⟨Tryd.underlying39, by kernel_rfl⟩
instance : TZ Tryd.prog 39 zB32.cells := ⟨⟨.agg zB32.cells.toArray, by kernel_rfl, rfl⟩⟩
instance : TB Tryd.prog 39 zB32.cells (plArr 1) := ⟨fun w ps cells h => run_build_array Tryd.underlying39 (z := zB32.cells.toArray) (n := 32) (by kernel_rfl) (s := 1) (by kernel_rfl) h⟩
instance (x y : B32) : TEq Tryd.prog 39 x.cells y.cells (decide (x = y)) := ⟨fun w d => eq_B32 (d + 4) Tryd.underlying39 Tryd.underlying5 (by kernel_rfl) x y, Tryd.eqGuardType39⟩
instance : TRow Tryd.prog 40 32 := ⟨⟨_, Tryd.underlying40, rfl⟩, by kernel_rfl⟩
instance : TArr Tryd.prog 40 32 5 1 := ⟨Tryd.underlying40, by kernel_rfl⟩
instance : TZ Tryd.prog 40 zB32.cells := ⟨⟨.agg zB32.cells.toArray, by kernel_rfl, rfl⟩⟩
instance : TB Tryd.prog 40 zB32.cells (plArr 1) := ⟨fun w ps cells h => run_build_array Tryd.underlying40 (z := zB32.cells.toArray) (n := 32) (by kernel_rfl) (s := 1) (by kernel_rfl) h⟩
instance (x y : B32) : TEq Tryd.prog 40 x.cells y.cells (decide (x = y)) := ⟨fun w d => eq_B32 (d + 4) Tryd.underlying40 Tryd.underlying5 (by kernel_rfl) x y, Tryd.eqGuardType40⟩
instance : TRow Tryd.prog 41 32 := ⟨⟨_, Tryd.underlying41, rfl⟩, by kernel_rfl⟩
instance : TArr Tryd.prog 41 32 5 1 := ⟨Tryd.underlying41, by kernel_rfl⟩
instance : TZ Tryd.prog 41 zB32.cells := ⟨⟨.agg zB32.cells.toArray, by kernel_rfl, rfl⟩⟩
instance : TB Tryd.prog 41 zB32.cells (plArr 1) := ⟨fun w ps cells h => run_build_array Tryd.underlying41 (z := zB32.cells.toArray) (n := 32) (by kernel_rfl) (s := 1) (by kernel_rfl) h⟩
instance (x y : B32) : TEq Tryd.prog 41 x.cells y.cells (decide (x = y)) := ⟨fun w d => eq_B32 (d + 4) Tryd.underlying41 Tryd.underlying5 (by kernel_rfl) x y, Tryd.eqGuardType41⟩
instance : TRow Tryd.prog 42 64 := ⟨⟨_, Tryd.underlying42, rfl⟩, by kernel_rfl⟩
instance : TFA Tryd.prog 42 0 0 := ⟨⟨_, _, 31, Tryd.underlying42, rfl, rfl, by kernel_rfl⟩⟩
instance : TFA Tryd.prog 42 1 32 := ⟨⟨_, _, 31, Tryd.underlying42, rfl, rfl, by kernel_rfl⟩⟩
instance : TRow Tryd.prog 43 64 := ⟨⟨_, Tryd.underlying43, rfl⟩, by kernel_rfl⟩
instance : TFA Tryd.prog 43 0 0 := ⟨⟨_, _, 31, Tryd.underlying43, rfl, rfl, by kernel_rfl⟩⟩
instance : TFA Tryd.prog 43 1 32 := ⟨⟨_, _, 31, Tryd.underlying43, rfl, rfl, by kernel_rfl⟩⟩
instance : TZ Tryd.prog 43 zLeaf.cells := ⟨⟨.agg zLeaf.cells.toArray, by kernel_rfl, rfl⟩⟩
def pl43 : Nat → Option (Nat × Nat) := fun i => ([(0, 32), (32, 32)] : List (Nat × Nat)).toArray[i]?
instance : Place pl43 0 0 32 := ⟨rfl⟩
instance : Place pl43 1 32 32 := ⟨rfl⟩
instance : TB Tryd.prog 43 zLeaf.cells pl43 := ⟨fun w ps cells h => run_build_struct (fl := _) Tryd.underlying43 (z := zLeaf.cells.toArray) (n := 64) (by kernel_rfl) (pl := [(0, 32), (32, 32)]) (by kernel_rfl) h⟩
instance : TRow Tryd.prog 44 97 := ⟨⟨_, Tryd.underlying44, rfl⟩, by kernel_rfl⟩
instance : TFA Tryd.prog 44 0 0 := ⟨⟨_, _, 0, Tryd.underlying44, rfl, rfl, by kernel_rfl⟩⟩
instance : TFA Tryd.prog 44 1 1 := ⟨⟨_, _, 31, Tryd.underlying44, rfl, rfl, by kernel_rfl⟩⟩
instance : TFA Tryd.prog 44 2 33 := ⟨⟨_, _, 63, Tryd.underlying44, rfl, rfl, by kernel_rfl⟩⟩
instance : TRow Tryd.prog 45 97 := ⟨⟨_, Tryd.underlying45, rfl⟩, by kernel_rfl⟩
instance : TFA Tryd.prog 45 0 0 := ⟨⟨_, _, 0, Tryd.underlying45, rfl, rfl, by kernel_rfl⟩⟩
instance : TFA Tryd.prog 45 1 1 := ⟨⟨_, _, 31, Tryd.underlying45, rfl, rfl, by kernel_rfl⟩⟩
instance : TFA Tryd.prog 45 2 33 := ⟨⟨_, _, 63, Tryd.underlying45, rfl, rfl, by kernel_rfl⟩⟩
instance : TZ Tryd.prog 45 zItem.cells := ⟨⟨.agg zItem.cells.toArray, by kernel_rfl, rfl⟩⟩
def pl45 : Nat → Option (Nat × Nat) := fun i => ([(0, 1), (1, 32), (33, 64)] : List (Nat × Nat)).toArray[i]?
instance : Place pl45 0 0 1 := ⟨rfl⟩
instance : Place pl45 1 1 32 := ⟨rfl⟩
instance : Place pl45 2 33 64 := ⟨rfl⟩
instance : TB Tryd.prog 45 zItem.cells pl45 := ⟨fun w ps cells h => run_build_struct (fl := _) Tryd.underlying45 (z := zItem.cells.toArray) (n := 97) (by kernel_rfl) (pl := [(0, 1), (1, 32), (33, 64)]) (by kernel_rfl) h⟩
instance : TOne Tryd.prog 46 := ⟨⟨_, Tryd.underlying46, rfl⟩, by kernel_rfl⟩
instance : TZ Tryd.prog 46 [.nilFunc] := ⟨⟨.nilFunc, by kernel_rfl, rfl⟩⟩
instance : TOne Tryd.prog 47 := ⟨⟨_, Tryd.underlying47, rfl⟩, by kernel_rfl⟩
instance : TZ Tryd.prog 47 [.nilFunc] := ⟨⟨.nilFunc, by kernel_rfl, rfl⟩⟩
instance : TOne Tryd.prog 48 := ⟨⟨_, Tryd.underlying48, rfl⟩, by kernel_rfl⟩
instance : TZ Tryd.prog 48 [.nilFunc] := ⟨⟨.nilFunc, by kernel_rfl, rfl⟩⟩
instance : TOne Tryd.prog 49 := ⟨⟨_, Tryd.underlying49, rfl⟩, by kernel_rfl⟩
instance : TZ Tryd.prog 49 [.nilFunc] := ⟨⟨.nilFunc, by kernel_rfl, rfl⟩⟩
instance : TOne Tryd.prog 50 := ⟨⟨_, Tryd.underlying50, rfl⟩, by kernel_rfl⟩
instance : TZ Tryd.prog 50 [.nilFunc] := ⟨⟨.nilFunc, by kernel_rfl, rfl⟩⟩
instance : TOne Tryd.prog 52 := ⟨⟨_, Tryd.underlying52, rfl⟩, by kernel_rfl⟩
instance : TZ Tryd.prog 52 [.nilFunc] := ⟨⟨.nilFunc, by kernel_rfl, rfl⟩⟩
instance : TOne Tryd.prog 53 := ⟨⟨_, Tryd.underlying53, rfl⟩, by kernel_rfl⟩
instance : TZ Tryd.prog 53 [.nilFunc] := ⟨⟨.nilFunc, by kernel_rfl, rfl⟩⟩
instance : TOne Tryd.prog 54 := ⟨⟨_, Tryd.underlying54, rfl⟩, by kernel_rfl⟩
instance : TZ Tryd.prog 54 [.nilFunc] := ⟨⟨.nilFunc, by kernel_rfl, rfl⟩⟩
instance : TOne Tryd.prog 55 := ⟨⟨_, Tryd.underlying55, rfl⟩, by kernel_rfl⟩
instance : TZ Tryd.prog 55 [.slice none 0 0] := ⟨⟨.slice none 0 0, by kernel_rfl, rfl⟩⟩
instance : TS Tryd.prog 55 62 98 112 (.agg zEnd.cells.toArray) := ⟨⟨Tryd.underlying55, by kernel_rfl, by simp [Value.cells, End.cells_length], by decide, by decide⟩⟩
instance : TOne Tryd.prog 57 := ⟨⟨_, Tryd.underlying57, rfl⟩, by kernel_rfl⟩
instance : TZ Tryd.prog 57 [.nilFunc] := ⟨⟨.nilFunc, by kernel_rfl, rfl⟩⟩
instance : TOne Tryd.prog 58 := ⟨⟨_, Tryd.underlying58, rfl⟩, by kernel_rfl⟩
instance : TZ Tryd.prog 58 [.nilFunc] := ⟨⟨.nilFunc, by kernel_rfl, rfl⟩⟩
instance : TOne Tryd.prog 59 := ⟨⟨_, Tryd.underlying59, rfl⟩, by kernel_rfl⟩
instance : TZ Tryd.prog 59 [.slice none 0 0] := ⟨⟨.slice none 0 0, by kernel_rfl, rfl⟩⟩
instance : TS Tryd.prog 59 3 1 8 (.int .i64 0) := ⟨⟨Tryd.underlying59, by kernel_rfl, rfl, by decide, by decide⟩⟩
instance : TOne Tryd.prog 60 := ⟨⟨_, Tryd.underlying60, rfl⟩, by kernel_rfl⟩
instance : TZ Tryd.prog 60 [.nilFunc] := ⟨⟨.nilFunc, by kernel_rfl, rfl⟩⟩
instance : TRow Tryd.prog 61 98 := ⟨⟨_, Tryd.underlying61, rfl⟩, by kernel_rfl⟩
instance : TFA Tryd.prog 61 0 0 := ⟨⟨_, _, 96, Tryd.underlying61, rfl, rfl, by kernel_rfl⟩⟩
instance : TFA Tryd.prog 61 1 97 := ⟨⟨_, _, 0, Tryd.underlying61, rfl, rfl, by kernel_rfl⟩⟩
instance : TRow Tryd.prog 62 98 := ⟨⟨_, Tryd.underlying62, rfl⟩, by kernel_rfl⟩
instance : TFA Tryd.prog 62 0 0 := ⟨⟨_, _, 96, Tryd.underlying62, rfl, rfl, by kernel_rfl⟩⟩
instance : TFA Tryd.prog 62 1 97 := ⟨⟨_, _, 0, Tryd.underlying62, rfl, rfl, by kernel_rfl⟩⟩
instance : TZ Tryd.prog 62 zEnd.cells := ⟨⟨.agg zEnd.cells.toArray, by kernel_rfl, rfl⟩⟩
def pl62 : Nat → Option (Nat × Nat) := fun i => ([(0, 97), (97, 1)] : List (Nat × Nat)).toArray[i]?
instance : Place pl62 0 0 97 := ⟨rfl⟩
instance : Place pl62 1 97 1 := ⟨rfl⟩
instance : TB Tryd.prog 62 zEnd.cells pl62 := ⟨fun w ps cells h => run_build_struct (fl := _) Tryd.underlying62 (z := zEnd.cells.toArray) (n := 98) (by kernel_rfl) (pl := [(0, 97), (97, 1)]) (by kernel_rfl) h⟩
instance : TOne Tryd.prog 63 := ⟨⟨_, Tryd.underlying63, rfl⟩, by kernel_rfl⟩
instance : TZ Tryd.prog 63 [.nilFunc] := ⟨⟨.nilFunc, by kernel_rfl, rfl⟩⟩
instance : TOne Tryd.prog 64 := ⟨⟨_, Tryd.underlying64, rfl⟩, by kernel_rfl⟩
instance : TZ Tryd.prog 64 [.nilFunc] := ⟨⟨.nilFunc, by kernel_rfl, rfl⟩⟩
instance : TOne Tryd.prog 65 := ⟨⟨_, Tryd.underlying65, rfl⟩, by kernel_rfl⟩
instance : TZ Tryd.prog 65 [.nilFunc] := ⟨⟨.nilFunc, by kernel_rfl, rfl⟩⟩
instance : TOne Tryd.prog 67 := ⟨⟨_, Tryd.underlying67, rfl⟩, by kernel_rfl⟩
instance : TZ Tryd.prog 67 [.nilFunc] := ⟨⟨.nilFunc, by kernel_rfl, rfl⟩⟩
instance : TOne Tryd.prog 68 := ⟨⟨_, Tryd.underlying68, rfl⟩, by kernel_rfl⟩
instance : TZ Tryd.prog 68 [.nilFunc] := ⟨⟨.nilFunc, by kernel_rfl, rfl⟩⟩
instance : TOne Tryd.prog 69 := ⟨⟨_, Tryd.underlying69, rfl⟩, by kernel_rfl⟩
instance : TZ Tryd.prog 69 [.nilFunc] := ⟨⟨.nilFunc, by kernel_rfl, rfl⟩⟩
instance : TOne Tryd.prog 70 := ⟨⟨_, Tryd.underlying70, rfl⟩, by kernel_rfl⟩
instance : TZ Tryd.prog 70 [.nilFunc] := ⟨⟨.nilFunc, by kernel_rfl, rfl⟩⟩
instance : TOne Tryd.prog 71 := ⟨⟨_, Tryd.underlying71, rfl⟩, by kernel_rfl⟩
instance : TZ Tryd.prog 71 [.nilFunc] := ⟨⟨.nilFunc, by kernel_rfl, rfl⟩⟩
instance : TOne Tryd.prog 72 := ⟨⟨_, Tryd.underlying72, rfl⟩, by kernel_rfl⟩
instance : TZ Tryd.prog 72 [.nilFunc] := ⟨⟨.nilFunc, by kernel_rfl, rfl⟩⟩
instance : TOne Tryd.prog 73 := ⟨⟨_, Tryd.underlying73, rfl⟩, by kernel_rfl⟩
instance : TZ Tryd.prog 73 [.nilFunc] := ⟨⟨.nilFunc, by kernel_rfl, rfl⟩⟩
instance : TOne Tryd.prog 74 := ⟨⟨_, Tryd.underlying74, rfl⟩, by kernel_rfl⟩
instance : TZ Tryd.prog 74 [.nilFunc] := ⟨⟨.nilFunc, by kernel_rfl, rfl⟩⟩
instance : TOne Tryd.prog 75 := ⟨⟨_, Tryd.underlying75, rfl⟩, by kernel_rfl⟩
instance : TZ Tryd.prog 75 [.nilFunc] := ⟨⟨.nilFunc, by kernel_rfl, rfl⟩⟩
instance : TRow Tryd.prog 76 33 := ⟨⟨_, Tryd.underlying76, rfl⟩, by kernel_rfl⟩
instance : TFA Tryd.prog 76 0 0 := ⟨⟨_, _, 31, Tryd.underlying76, rfl, rfl, by kernel_rfl⟩⟩
instance : TFA Tryd.prog 76 1 32 := ⟨⟨_, _, 0, Tryd.underlying76, rfl, rfl, by kernel_rfl⟩⟩
instance : TRow Tryd.prog 77 33 := ⟨⟨_, Tryd.underlying77, rfl⟩, by kernel_rfl⟩
instance : TFA Tryd.prog 77 0 0 := ⟨⟨_, _, 31, Tryd.underlying77, rfl, rfl, by kernel_rfl⟩⟩
instance : TFA Tryd.prog 77 1 32 := ⟨⟨_, _, 0, Tryd.underlying77, rfl, rfl, by kernel_rfl⟩⟩
instance : TZ Tryd.prog 77 zEntry.cells := ⟨⟨.agg zEntry.cells.toArray, by kernel_rfl, rfl⟩⟩
def pl77 : Nat → Option (Nat × Nat) := fun i => ([(0, 32), (32, 1)] : List (Nat × Nat)).toArray[i]?
instance : Place pl77 0 0 32 := ⟨rfl⟩
instance : Place pl77 1 32 1 := ⟨rfl⟩
instance : TB Tryd.prog 77 zEntry.cells pl77 := ⟨fun w ps cells h => run_build_struct (fl := _) Tryd.underlying77 (z := zEntry.cells.toArray) (n := 33) (by kernel_rfl) (pl := [(0, 32), (32, 1)]) (by kernel_rfl) h⟩
instance : TOne Tryd.prog 78 := ⟨⟨_, Tryd.underlying78, rfl⟩, by kernel_rfl⟩
instance : TZ Tryd.prog 78 [.nilFunc] := ⟨⟨.nilFunc, by kernel_rfl, rfl⟩⟩
instance : TOne Tryd.prog 79 := ⟨⟨_, Tryd.underlying79, rfl⟩, by kernel_rfl⟩
instance : TZ Tryd.prog 79 [.nilFunc] := ⟨⟨.nilFunc, by kernel_rfl, rfl⟩⟩
instance : TOne Tryd.prog 80 := ⟨⟨_, Tryd.underlying80, rfl⟩, by kernel_rfl⟩
instance : TZ Tryd.prog 80 [.nilFunc] := ⟨⟨.nilFunc, by kernel_rfl, rfl⟩⟩
instance : TOne Tryd.prog 81 := ⟨⟨_, Tryd.underlying81, rfl⟩, by kernel_rfl⟩
instance : TZ Tryd.prog 81 [.nilIface] := ⟨⟨.nilIface, by kernel_rfl, rfl⟩⟩
instance : TOne Tryd.prog 82 := ⟨⟨_, Tryd.underlying82, rfl⟩, by kernel_rfl⟩
instance : TZ Tryd.prog 82 [.nilIface] := ⟨⟨.nilIface, by kernel_rfl, rfl⟩⟩
instance : TOne Tryd.prog 84 := ⟨⟨_, Tryd.underlying84, rfl⟩, by kernel_rfl⟩
instance : TZ Tryd.prog 84 [.nilFunc] := ⟨⟨.nilFunc, by kernel_rfl, rfl⟩⟩
instance : TOne Tryd.prog 85 := ⟨⟨_, Tryd.underlying85, rfl⟩, by kernel_rfl⟩
instance : TZ Tryd.prog 85 [.nilFunc] := ⟨⟨.nilFunc, by kernel_rfl, rfl⟩⟩
instance : TOne Tryd.prog 86 := ⟨⟨_, Tryd.underlying86, rfl⟩, by kernel_rfl⟩
instance : TZ Tryd.prog 86 [.nilFunc] := ⟨⟨.nilFunc, by kernel_rfl, rfl⟩⟩
instance : TOne Tryd.prog 87 := ⟨⟨_, Tryd.underlying87, rfl⟩, by kernel_rfl⟩
instance : TZ Tryd.prog 87 [.nilFunc] := ⟨⟨.nilFunc, by kernel_rfl, rfl⟩⟩
instance : TOne Tryd.prog 88 := ⟨⟨_, Tryd.underlying88, rfl⟩, by kernel_rfl⟩
instance : TZ Tryd.prog 88 [.nilFunc] := ⟨⟨.nilFunc, by kernel_rfl, rfl⟩⟩
instance : TOne Tryd.prog 90 := ⟨⟨_, Tryd.underlying90, rfl⟩, by kernel_rfl⟩
instance : TZ Tryd.prog 90 [.nilFunc] := ⟨⟨.nilFunc, by kernel_rfl, rfl⟩⟩
instance : TOne Tryd.prog 91 := ⟨⟨_, Tryd.underlying91, rfl⟩, by kernel_rfl⟩
instance : TZ Tryd.prog 91 [.slice none 0 0] := ⟨⟨.slice none 0 0, by kernel_rfl, rfl⟩⟩
instance : TS Tryd.prog 91 4 1 1 (.bool false) := ⟨⟨Tryd.underlying91, by kernel_rfl, rfl, by decide, by decide⟩⟩
instance : TOne Tryd.prog 92 := ⟨⟨_, Tryd.underlying92, rfl⟩, by kernel_rfl⟩
instance : TZ Tryd.prog 92 [.nilFunc] := ⟨⟨.nilFunc, by kernel_rfl, rfl⟩⟩
instance : TOne Tryd.prog 93 := ⟨⟨_, Tryd.underlying93, rfl⟩, by kernel_rfl⟩
instance : TZ Tryd.prog 93 [.nilFunc] := ⟨⟨.nilFunc, by kernel_rfl, rfl⟩⟩
instance : TOne Tryd.prog 94 := ⟨⟨_, Tryd.underlying94, rfl⟩, by kernel_rfl⟩
instance : TZ Tryd.prog 94 [.nilFunc] := ⟨⟨.nilFunc, by kernel_rfl, rfl⟩⟩
instance : TOne Tryd.prog 95 := ⟨⟨_, Tryd.underlying95, rfl⟩, by kernel_rfl⟩
instance : TZ Tryd.prog 95 [.nilFunc] := ⟨⟨.nilFunc, by kernel_rfl, rfl⟩⟩
instance : TOne Tryd.prog 96 := ⟨⟨_, Tryd.underlying96, rfl⟩, by kernel_rfl⟩
instance : TZ Tryd.prog 96 [.pointer none] := ⟨⟨.pointer none, by kernel_rfl, rfl⟩⟩
instance : TRow Tryd.prog 97 1 := ⟨⟨_, Tryd.underlying97, rfl⟩, by kernel_rfl⟩
instance : TFA Tryd.prog 97 0 0 := ⟨⟨_, _, 0, Tryd.underlying97, rfl, rfl, by kernel_rfl⟩⟩
instance : TZ Tryd.prog 97 ([.int .i64 0]) := ⟨⟨.agg #[.int .i64 0], by kernel_rfl, rfl⟩⟩
def pl97 : Nat → Option (Nat × Nat) := fun i => ([(0, 1)] : List (Nat × Nat)).toArray[i]?
instance : Place pl97 0 0 1 := ⟨rfl⟩
instance : TB Tryd.prog 97 ([.int .i64 0]) pl97 := ⟨fun w ps cells h => run_build_struct (fl := _) Tryd.underlying97 (z := ([.int .i64 0] : List Value).toArray) (n := 1) (by kernel_rfl) (pl := [(0, 1)]) (by kernel_rfl) h⟩
instance : TRow Tryd.prog 98 1 := ⟨⟨_, Tryd.underlying98, rfl⟩, by kernel_rfl⟩
instance : TFA Tryd.prog 98 0 0 := ⟨⟨_, _, 0, Tryd.underlying98, rfl, rfl, by kernel_rfl⟩⟩
instance : TZ Tryd.prog 98 ([.int .i64 0]) := ⟨⟨.agg #[.int .i64 0], by kernel_rfl, rfl⟩⟩
def pl98 : Nat → Option (Nat × Nat) := fun i => ([(0, 1)] : List (Nat × Nat)).toArray[i]?
instance : Place pl98 0 0 1 := ⟨rfl⟩
instance : TB Tryd.prog 98 ([.int .i64 0]) pl98 := ⟨fun w ps cells h => run_build_struct (fl := _) Tryd.underlying98 (z := ([.int .i64 0] : List Value).toArray) (n := 1) (by kernel_rfl) (pl := [(0, 1)]) (by kernel_rfl) h⟩
instance : TRow Tryd.prog 99 2 := ⟨⟨_, Tryd.underlying99, rfl⟩, by kernel_rfl⟩
instance : TFA Tryd.prog 99 0 0 := ⟨⟨_, _, 0, Tryd.underlying99, rfl, rfl, by kernel_rfl⟩⟩
instance : TFA Tryd.prog 99 1 1 := ⟨⟨_, _, 0, Tryd.underlying99, rfl, rfl, by kernel_rfl⟩⟩
instance : TZ Tryd.prog 99 ([.pointer none, .int .i64 0]) := ⟨⟨.agg #[.pointer none, .int .i64 0], by kernel_rfl, rfl⟩⟩
def pl99 : Nat → Option (Nat × Nat) := fun i => ([(0, 1), (1, 1)] : List (Nat × Nat)).toArray[i]?
instance : Place pl99 0 0 1 := ⟨rfl⟩
instance : Place pl99 1 1 1 := ⟨rfl⟩
instance : TB Tryd.prog 99 ([.pointer none, .int .i64 0]) pl99 := ⟨fun w ps cells h => run_build_struct (fl := _) Tryd.underlying99 (z := ([.pointer none, .int .i64 0] : List Value).toArray) (n := 2) (by kernel_rfl) (pl := [(0, 1), (1, 1)]) (by kernel_rfl) h⟩
instance : TRow Tryd.prog 100 2 := ⟨⟨_, Tryd.underlying100, rfl⟩, by kernel_rfl⟩
instance : TFA Tryd.prog 100 0 0 := ⟨⟨_, _, 0, Tryd.underlying100, rfl, rfl, by kernel_rfl⟩⟩
instance : TFA Tryd.prog 100 1 1 := ⟨⟨_, _, 0, Tryd.underlying100, rfl, rfl, by kernel_rfl⟩⟩
instance : TZ Tryd.prog 100 ([.pointer none, .int .i64 0]) := ⟨⟨.agg #[.pointer none, .int .i64 0], by kernel_rfl, rfl⟩⟩
def pl100 : Nat → Option (Nat × Nat) := fun i => ([(0, 1), (1, 1)] : List (Nat × Nat)).toArray[i]?
instance : Place pl100 0 0 1 := ⟨rfl⟩
instance : Place pl100 1 1 1 := ⟨rfl⟩
instance : TB Tryd.prog 100 ([.pointer none, .int .i64 0]) pl100 := ⟨fun w ps cells h => run_build_struct (fl := _) Tryd.underlying100 (z := ([.pointer none, .int .i64 0] : List Value).toArray) (n := 2) (by kernel_rfl) (pl := [(0, 1), (1, 1)]) (by kernel_rfl) h⟩
instance : TOne Tryd.prog 101 := ⟨⟨_, Tryd.underlying101, rfl⟩, by kernel_rfl⟩
instance : TZ Tryd.prog 101 [.nilFunc] := ⟨⟨.nilFunc, by kernel_rfl, rfl⟩⟩
instance : TOne Tryd.prog 102 := ⟨⟨_, Tryd.underlying102, rfl⟩, by kernel_rfl⟩
instance : TZ Tryd.prog 102 [.int .u64 0] := ⟨⟨.int .u64 0, by kernel_rfl, rfl⟩⟩
instance : TOne Tryd.prog 103 := ⟨⟨_, Tryd.underlying103, rfl⟩, by kernel_rfl⟩
instance : TZ Tryd.prog 103 [.nilFunc] := ⟨⟨.nilFunc, by kernel_rfl, rfl⟩⟩
instance : TOne Tryd.prog 104 := ⟨⟨_, Tryd.underlying104, rfl⟩, by kernel_rfl⟩
instance : TZ Tryd.prog 104 [.nilFunc] := ⟨⟨.nilFunc, by kernel_rfl, rfl⟩⟩
instance : TOne Tryd.prog 105 := ⟨⟨_, Tryd.underlying105, rfl⟩, by kernel_rfl⟩
instance : TZ Tryd.prog 105 [.nilFunc] := ⟨⟨.nilFunc, by kernel_rfl, rfl⟩⟩
instance : TOne Tryd.prog 106 := ⟨⟨_, Tryd.underlying106, rfl⟩, by kernel_rfl⟩
instance : TZ Tryd.prog 106 [.nilFunc] := ⟨⟨.nilFunc, by kernel_rfl, rfl⟩⟩
instance : TOne Tryd.prog 107 := ⟨⟨_, Tryd.underlying107, rfl⟩, by kernel_rfl⟩
instance : TZ Tryd.prog 107 [.nilFunc] := ⟨⟨.nilFunc, by kernel_rfl, rfl⟩⟩
instance : TOne Tryd.prog 108 := ⟨⟨_, Tryd.underlying108, rfl⟩, by kernel_rfl⟩
instance : TZ Tryd.prog 108 [.nilFunc] := ⟨⟨.nilFunc, by kernel_rfl, rfl⟩⟩
instance : TOne Tryd.prog 109 := ⟨⟨_, Tryd.underlying109, rfl⟩, by kernel_rfl⟩
instance : TZ Tryd.prog 109 [.nilFunc] := ⟨⟨.nilFunc, by kernel_rfl, rfl⟩⟩
instance : TOne Tryd.prog 110 := ⟨⟨_, Tryd.underlying110, rfl⟩, by kernel_rfl⟩
instance : TZ Tryd.prog 110 [.nilFunc] := ⟨⟨.nilFunc, by kernel_rfl, rfl⟩⟩
instance : TOne Tryd.prog 111 := ⟨⟨_, Tryd.underlying111, rfl⟩, by kernel_rfl⟩
instance : TZ Tryd.prog 111 [.nilFunc] := ⟨⟨.nilFunc, by kernel_rfl, rfl⟩⟩
instance : TOne Tryd.prog 112 := ⟨⟨_, Tryd.underlying112, rfl⟩, by kernel_rfl⟩
instance : TZ Tryd.prog 112 [.nilFunc] := ⟨⟨.nilFunc, by kernel_rfl, rfl⟩⟩
instance : TOne Tryd.prog 113 := ⟨⟨_, Tryd.underlying113, rfl⟩, by kernel_rfl⟩
instance : TZ Tryd.prog 113 [.nilFunc] := ⟨⟨.nilFunc, by kernel_rfl, rfl⟩⟩
instance : TOne Tryd.prog 114 := ⟨⟨_, Tryd.underlying114, rfl⟩, by kernel_rfl⟩
instance : TZ Tryd.prog 114 [.nilFunc] := ⟨⟨.nilFunc, by kernel_rfl, rfl⟩⟩
instance : TOne Tryd.prog 116 := ⟨⟨_, Tryd.underlying116, rfl⟩, by kernel_rfl⟩
instance : TZ Tryd.prog 116 [.nilFunc] := ⟨⟨.nilFunc, by kernel_rfl, rfl⟩⟩
instance : TOne Tryd.prog 117 := ⟨⟨_, Tryd.underlying117, rfl⟩, by kernel_rfl⟩
instance : TZ Tryd.prog 117 [.nilFunc] := ⟨⟨.nilFunc, by kernel_rfl, rfl⟩⟩
instance : TOne Tryd.prog 118 := ⟨⟨_, Tryd.underlying118, rfl⟩, by kernel_rfl⟩
instance : TZ Tryd.prog 118 [.nilFunc] := ⟨⟨.nilFunc, by kernel_rfl, rfl⟩⟩
instance : TRow Tryd.prog 119 2 := ⟨⟨_, Tryd.underlying119, rfl⟩, by kernel_rfl⟩
instance : TArr Tryd.prog 119 2 82 1 := ⟨Tryd.underlying119, by kernel_rfl⟩
instance : TZ Tryd.prog 119 ([.nilIface, .nilIface]) := ⟨⟨.agg #[.nilIface, .nilIface], by kernel_rfl, rfl⟩⟩
instance : TB Tryd.prog 119 ([.nilIface, .nilIface]) (plArr 1) := ⟨fun w ps cells h => run_build_array Tryd.underlying119 (z := ([.nilIface, .nilIface] : List Value).toArray) (n := 2) (by kernel_rfl) (s := 1) (by kernel_rfl) h⟩
instance : TRow Tryd.prog 120 2 := ⟨⟨_, Tryd.underlying120, rfl⟩, by kernel_rfl⟩
instance : TArr Tryd.prog 120 2 82 1 := ⟨Tryd.underlying120, by kernel_rfl⟩
instance : TZ Tryd.prog 120 ([.nilIface, .nilIface]) := ⟨⟨.agg #[.nilIface, .nilIface], by kernel_rfl, rfl⟩⟩
instance : TB Tryd.prog 120 ([.nilIface, .nilIface]) (plArr 1) := ⟨fun w ps cells h => run_build_array Tryd.underlying120 (z := ([.nilIface, .nilIface] : List Value).toArray) (n := 2) (by kernel_rfl) (s := 1) (by kernel_rfl) h⟩
instance : TRow Tryd.prog 121 97 := ⟨⟨_, Tryd.underlying121, rfl⟩, by kernel_rfl⟩
instance : TFA Tryd.prog 121 0 0 := ⟨⟨_, _, 96, Tryd.underlying121, rfl, rfl, by kernel_rfl⟩⟩
instance : TRow Tryd.prog 122 97 := ⟨⟨_, Tryd.underlying122, rfl⟩, by kernel_rfl⟩
instance : TFA Tryd.prog 122 0 0 := ⟨⟨_, _, 96, Tryd.underlying122, rfl, rfl, by kernel_rfl⟩⟩
instance : TZ Tryd.prog 122 zItem.cells := ⟨⟨.agg zItem.cells.toArray, by kernel_rfl, rfl⟩⟩
def pl122 : Nat → Option (Nat × Nat) := fun i => ([(0, 97)] : List (Nat × Nat)).toArray[i]?
instance : Place pl122 0 0 97 := ⟨rfl⟩
instance : TB Tryd.prog 122 zItem.cells pl122 := ⟨fun w ps cells h => run_build_struct (fl := _) Tryd.underlying122 (z := zItem.cells.toArray) (n := 97) (by kernel_rfl) (pl := [(0, 97)]) (by kernel_rfl) h⟩
instance : TOne Tryd.prog 123 := ⟨⟨_, Tryd.underlying123, rfl⟩, by kernel_rfl⟩
instance : TZ Tryd.prog 123 [.nilFunc] := ⟨⟨.nilFunc, by kernel_rfl, rfl⟩⟩
instance : TOne Tryd.prog 124 := ⟨⟨_, Tryd.underlying124, rfl⟩, by kernel_rfl⟩
instance : TZ Tryd.prog 124 [.nilFunc] := ⟨⟨.nilFunc, by kernel_rfl, rfl⟩⟩
instance : TOne Tryd.prog 125 := ⟨⟨_, Tryd.underlying125, rfl⟩, by kernel_rfl⟩
instance : TZ Tryd.prog 125 [.nilFunc] := ⟨⟨.nilFunc, by kernel_rfl, rfl⟩⟩
instance : TRow Tryd.prog 126 65 := ⟨⟨_, Tryd.underlying126, rfl⟩, by kernel_rfl⟩
instance : TFA Tryd.prog 126 0 0 := ⟨⟨_, _, 63, Tryd.underlying126, rfl, rfl, by kernel_rfl⟩⟩
instance : TFA Tryd.prog 126 1 64 := ⟨⟨_, _, 0, Tryd.underlying126, rfl, rfl, by kernel_rfl⟩⟩
instance : TRow Tryd.prog 127 65 := ⟨⟨_, Tryd.underlying127, rfl⟩, by kernel_rfl⟩
instance : TFA Tryd.prog 127 0 0 := ⟨⟨_, _, 63, Tryd.underlying127, rfl, rfl, by kernel_rfl⟩⟩
instance : TFA Tryd.prog 127 1 64 := ⟨⟨_, _, 0, Tryd.underlying127, rfl, rfl, by kernel_rfl⟩⟩
instance : TZ Tryd.prog 127 zNLeaf.cells := ⟨⟨.agg zNLeaf.cells.toArray, by kernel_rfl, rfl⟩⟩
def pl127 : Nat → Option (Nat × Nat) := fun i => ([(0, 64), (64, 1)] : List (Nat × Nat)).toArray[i]?
instance : Place pl127 0 0 64 := ⟨rfl⟩
instance : Place pl127 1 64 1 := ⟨rfl⟩
instance : TB Tryd.prog 127 zNLeaf.cells pl127 := ⟨fun w ps cells h => run_build_struct (fl := _) Tryd.underlying127 (z := zNLeaf.cells.toArray) (n := 65) (by kernel_rfl) (pl := [(0, 64), (64, 1)]) (by kernel_rfl) h⟩
instance : TRow Tryd.prog 128 2 := ⟨⟨_, Tryd.underlying128, rfl⟩, by kernel_rfl⟩
instance : TArr Tryd.prog 128 2 24 1 := ⟨Tryd.underlying128, by kernel_rfl⟩
instance : TZ Tryd.prog 128 ([.pointer none, .pointer none]) := ⟨⟨.agg #[.pointer none, .pointer none], by kernel_rfl, rfl⟩⟩
instance : TB Tryd.prog 128 ([.pointer none, .pointer none]) (plArr 1) := ⟨fun w ps cells h => run_build_array Tryd.underlying128 (z := ([.pointer none, .pointer none] : List Value).toArray) (n := 2) (by kernel_rfl) (s := 1) (by kernel_rfl) h⟩
instance : TRow Tryd.prog 129 64 := ⟨⟨_, Tryd.underlying129, rfl⟩, by kernel_rfl⟩
instance : TArr Tryd.prog 129 2 41 32 := ⟨Tryd.underlying129, by kernel_rfl⟩
instance : TRow Tryd.prog 130 67 := ⟨⟨_, Tryd.underlying130, rfl⟩, by kernel_rfl⟩
instance : TFA Tryd.prog 130 0 0 := ⟨⟨_, _, 1, Tryd.underlying130, rfl, rfl, by kernel_rfl⟩⟩
instance : TFA Tryd.prog 130 1 2 := ⟨⟨_, _, 63, Tryd.underlying130, rfl, rfl, by kernel_rfl⟩⟩
instance : TFA Tryd.prog 130 2 66 := ⟨⟨_, _, 0, Tryd.underlying130, rfl, rfl, by kernel_rfl⟩⟩
instance : TRow Tryd.prog 131 67 := ⟨⟨_, Tryd.underlying131, rfl⟩, by kernel_rfl⟩
instance : TFA Tryd.prog 131 0 0 := ⟨⟨_, _, 1, Tryd.underlying131, rfl, rfl, by kernel_rfl⟩⟩
instance : TFA Tryd.prog 131 1 2 := ⟨⟨_, _, 63, Tryd.underlying131, rfl, rfl, by kernel_rfl⟩⟩
instance : TFA Tryd.prog 131 2 66 := ⟨⟨_, _, 0, Tryd.underlying131, rfl, rfl, by kernel_rfl⟩⟩
instance : TZ Tryd.prog 131 zNInner.cells := ⟨⟨.agg zNInner.cells.toArray, by kernel_rfl, rfl⟩⟩
def pl131 : Nat → Option (Nat × Nat) := fun i => ([(0, 2), (2, 64), (66, 1)] : List (Nat × Nat)).toArray[i]?
instance : Place pl131 0 0 2 := ⟨rfl⟩
instance : Place pl131 1 2 64 := ⟨rfl⟩
instance : Place pl131 2 66 1 := ⟨rfl⟩
instance : TB Tryd.prog 131 zNInner.cells pl131 := ⟨fun w ps cells h => run_build_struct (fl := _) Tryd.underlying131 (z := zNInner.cells.toArray) (n := 67) (by kernel_rfl) (pl := [(0, 2), (2, 64), (66, 1)]) (by kernel_rfl) h⟩
instance : TOne Tryd.prog 132 := ⟨⟨_, Tryd.underlying132, rfl⟩, by kernel_rfl⟩
instance : TZ Tryd.prog 132 [.nilIface] := ⟨⟨.nilIface, by kernel_rfl, rfl⟩⟩
instance : TOne Tryd.prog 133 := ⟨⟨_, Tryd.underlying133, rfl⟩, by kernel_rfl⟩
instance : TZ Tryd.prog 133 [.nilIface] := ⟨⟨.nilIface, by kernel_rfl, rfl⟩⟩
instance : TRow Tryd.prog 134 33 := ⟨⟨_, Tryd.underlying134, rfl⟩, by kernel_rfl⟩
instance : TFA Tryd.prog 134 0 0 := ⟨⟨_, _, 0, Tryd.underlying134, rfl, rfl, by kernel_rfl⟩⟩
instance : TFA Tryd.prog 134 1 1 := ⟨⟨_, _, 31, Tryd.underlying134, rfl, rfl, by kernel_rfl⟩⟩
instance : TRow Tryd.prog 135 33 := ⟨⟨_, Tryd.underlying135, rfl⟩, by kernel_rfl⟩
instance : TFA Tryd.prog 135 0 0 := ⟨⟨_, _, 0, Tryd.underlying135, rfl, rfl, by kernel_rfl⟩⟩
instance : TFA Tryd.prog 135 1 1 := ⟨⟨_, _, 31, Tryd.underlying135, rfl, rfl, by kernel_rfl⟩⟩
instance : TZ Tryd.prog 135 zNd.cells := ⟨⟨.agg zNd.cells.toArray, by kernel_rfl, rfl⟩⟩
def pl135 : Nat → Option (Nat × Nat) := fun i => ([(0, 1), (1, 32)] : List (Nat × Nat)).toArray[i]?
instance : Place pl135 0 0 1 := ⟨rfl⟩
instance : Place pl135 1 1 32 := ⟨rfl⟩
instance : TB Tryd.prog 135 zNd.cells pl135 := ⟨fun w ps cells h => run_build_struct (fl := _) Tryd.underlying135 (z := zNd.cells.toArray) (n := 33) (by kernel_rfl) (pl := [(0, 1), (1, 32)]) (by kernel_rfl) h⟩
instance : TOne Tryd.prog 136 := ⟨⟨_, Tryd.underlying136, rfl⟩, by kernel_rfl⟩
instance : TZ Tryd.prog 136 [.nilFunc] := ⟨⟨.nilFunc, by kernel_rfl, rfl⟩⟩
instance : TOne Tryd.prog 137 := ⟨⟨_, Tryd.underlying137, rfl⟩, by kernel_rfl⟩
instance : TZ Tryd.prog 137 [.nilFunc] := ⟨⟨.nilFunc, by kernel_rfl, rfl⟩⟩
instance : TOne Tryd.prog 138 := ⟨⟨_, Tryd.underlying138, rfl⟩, by kernel_rfl⟩
instance : TZ Tryd.prog 138 [.nilFunc] := ⟨⟨.nilFunc, by kernel_rfl, rfl⟩⟩
instance : TOne Tryd.prog 139 := ⟨⟨_, Tryd.underlying139, rfl⟩, by kernel_rfl⟩
instance : TZ Tryd.prog 139 [.nilFunc] := ⟨⟨.nilFunc, by kernel_rfl, rfl⟩⟩
instance : TOne Tryd.prog 140 := ⟨⟨_, Tryd.underlying140, rfl⟩, by kernel_rfl⟩
instance : TZ Tryd.prog 140 [.nilFunc] := ⟨⟨.nilFunc, by kernel_rfl, rfl⟩⟩
instance : TOne Tryd.prog 141 := ⟨⟨_, Tryd.underlying141, rfl⟩, by kernel_rfl⟩
instance : TZ Tryd.prog 141 [.nilFunc] := ⟨⟨.nilFunc, by kernel_rfl, rfl⟩⟩
instance : TOne Tryd.prog 142 := ⟨⟨_, Tryd.underlying142, rfl⟩, by kernel_rfl⟩
instance : TZ Tryd.prog 142 [.int .u32 0] := ⟨⟨.int .u32 0, by kernel_rfl, rfl⟩⟩
instance : TRow Tryd.prog 143 8 := ⟨⟨_, Tryd.underlying143, rfl⟩, by kernel_rfl⟩
instance : TArr Tryd.prog 143 8 142 1 := ⟨Tryd.underlying143, by kernel_rfl⟩
instance : TZ Tryd.prog 143 ([.int .u32 0, .int .u32 0, .int .u32 0, .int .u32 0, .int .u32 0, .int .u32 0, .int .u32 0, .int .u32 0]) := ⟨⟨.agg #[.int .u32 0, .int .u32 0, .int .u32 0, .int .u32 0, .int .u32 0, .int .u32 0, .int .u32 0, .int .u32 0], by kernel_rfl, rfl⟩⟩
instance : TB Tryd.prog 143 ([.int .u32 0, .int .u32 0, .int .u32 0, .int .u32 0, .int .u32 0, .int .u32 0, .int .u32 0, .int .u32 0]) (plArr 1) := ⟨fun w ps cells h => run_build_array Tryd.underlying143 (z := ([.int .u32 0, .int .u32 0, .int .u32 0, .int .u32 0, .int .u32 0, .int .u32 0, .int .u32 0, .int .u32 0] : List Value).toArray) (n := 8) (by kernel_rfl) (s := 1) (by kernel_rfl) h⟩
instance : TOne Tryd.prog 144 := ⟨⟨_, Tryd.underlying144, rfl⟩, by kernel_rfl⟩
instance : TZ Tryd.prog 144 [.slice none 0 0] := ⟨⟨.slice none 0 0, by kernel_rfl, rfl⟩⟩
instance : TS Tryd.prog 144 142 1 4 (.int .u32 0) := ⟨⟨Tryd.underlying144, by kernel_rfl, rfl, by decide, by decide⟩⟩
instance : TOne Tryd.prog 145 := ⟨⟨_, Tryd.underlying145, rfl⟩, by kernel_rfl⟩
instance : TZ Tryd.prog 145 [.nilFunc] := ⟨⟨.nilFunc, by kernel_rfl, rfl⟩⟩
instance : TOne Tryd.prog 146 := ⟨⟨_, Tryd.underlying146, rfl⟩, by kernel_rfl⟩
instance : TZ Tryd.prog 146 [.nilFunc] := ⟨⟨.nilFunc, by kernel_rfl, rfl⟩⟩
instance : TOne Tryd.prog 147 := ⟨⟨_, Tryd.underlying147, rfl⟩, by kernel_rfl⟩
instance : TZ Tryd.prog 147 [.nilFunc] := ⟨⟨.nilFunc, by kernel_rfl, rfl⟩⟩
instance : TOne Tryd.prog 148 := ⟨⟨_, Tryd.underlying148, rfl⟩, by kernel_rfl⟩
instance : TZ Tryd.prog 148 [.nilFunc] := ⟨⟨.nilFunc, by kernel_rfl, rfl⟩⟩
instance : TOne Tryd.prog 149 := ⟨⟨_, Tryd.underlying149, rfl⟩, by kernel_rfl⟩
instance : TZ Tryd.prog 149 [.nilFunc] := ⟨⟨.nilFunc, by kernel_rfl, rfl⟩⟩
instance : TOne Tryd.prog 150 := ⟨⟨_, Tryd.underlying150, rfl⟩, by kernel_rfl⟩
instance : TZ Tryd.prog 150 [.nilFunc] := ⟨⟨.nilFunc, by kernel_rfl, rfl⟩⟩
instance : TOne Tryd.prog 151 := ⟨⟨_, Tryd.underlying151, rfl⟩, by kernel_rfl⟩
instance : TZ Tryd.prog 151 [.slice none 0 0] := ⟨⟨.slice none 0 0, by kernel_rfl, rfl⟩⟩
instance : TS Tryd.prog 151 24 1 8 (.pointer none) := ⟨⟨Tryd.underlying151, by kernel_rfl, rfl, by decide, by decide⟩⟩
instance : TOne Tryd.prog 152 := ⟨⟨_, Tryd.underlying152, rfl⟩, by kernel_rfl⟩
instance : TZ Tryd.prog 152 [.nilFunc] := ⟨⟨.nilFunc, by kernel_rfl, rfl⟩⟩
instance : TOne Tryd.prog 153 := ⟨⟨_, Tryd.underlying153, rfl⟩, by kernel_rfl⟩
instance : TZ Tryd.prog 153 [.nilFunc] := ⟨⟨.nilFunc, by kernel_rfl, rfl⟩⟩
instance : TOne Tryd.prog 154 := ⟨⟨_, Tryd.underlying154, rfl⟩, by kernel_rfl⟩
instance : TZ Tryd.prog 154 [.nilFunc] := ⟨⟨.nilFunc, by kernel_rfl, rfl⟩⟩
instance : TOne Tryd.prog 155 := ⟨⟨_, Tryd.underlying155, rfl⟩, by kernel_rfl⟩
instance : TZ Tryd.prog 155 [.nilFunc] := ⟨⟨.nilFunc, by kernel_rfl, rfl⟩⟩
instance : TOne Tryd.prog 156 := ⟨⟨_, Tryd.underlying156, rfl⟩, by kernel_rfl⟩
instance : TZ Tryd.prog 156 [.nilFunc] := ⟨⟨.nilFunc, by kernel_rfl, rfl⟩⟩
instance : TOne Tryd.prog 157 := ⟨⟨_, Tryd.underlying157, rfl⟩, by kernel_rfl⟩
instance : TZ Tryd.prog 157 [.nilFunc] := ⟨⟨.nilFunc, by kernel_rfl, rfl⟩⟩
instance : TOne Tryd.prog 158 := ⟨⟨_, Tryd.underlying158, rfl⟩, by kernel_rfl⟩
instance : TZ Tryd.prog 158 [.int .u64 0] := ⟨⟨.int .u64 0, by kernel_rfl, rfl⟩⟩
instance : TRow Tryd.prog 159 8 := ⟨⟨_, Tryd.underlying159, rfl⟩, by kernel_rfl⟩
instance : TArr Tryd.prog 159 8 142 1 := ⟨Tryd.underlying159, by kernel_rfl⟩
instance : TZ Tryd.prog 159 ([.int .u32 0, .int .u32 0, .int .u32 0, .int .u32 0, .int .u32 0, .int .u32 0, .int .u32 0, .int .u32 0]) := ⟨⟨.agg #[.int .u32 0, .int .u32 0, .int .u32 0, .int .u32 0, .int .u32 0, .int .u32 0, .int .u32 0, .int .u32 0], by kernel_rfl, rfl⟩⟩
instance : TB Tryd.prog 159 ([.int .u32 0, .int .u32 0, .int .u32 0, .int .u32 0, .int .u32 0, .int .u32 0, .int .u32 0, .int .u32 0]) (plArr 1) := ⟨fun w ps cells h => run_build_array Tryd.underlying159 (z := ([.int .u32 0, .int .u32 0, .int .u32 0, .int .u32 0, .int .u32 0, .int .u32 0, .int .u32 0, .int .u32 0] : List Value).toArray) (n := 8) (by kernel_rfl) (s := 1) (by kernel_rfl) h⟩
instance : TOne Tryd.prog 160 := ⟨⟨_, Tryd.underlying160, rfl⟩, by kernel_rfl⟩
instance : TZ Tryd.prog 160 [.nilFunc] := ⟨⟨.nilFunc, by kernel_rfl, rfl⟩⟩
instance : TOne Tryd.prog 161 := ⟨⟨_, Tryd.underlying161, rfl⟩, by kernel_rfl⟩
instance : TZ Tryd.prog 161 [.nilFunc] := ⟨⟨.nilFunc, by kernel_rfl, rfl⟩⟩
instance : TOne Tryd.prog 162 := ⟨⟨_, Tryd.underlying162, rfl⟩, by kernel_rfl⟩
instance : TZ Tryd.prog 162 [.nilFunc] := ⟨⟨.nilFunc, by kernel_rfl, rfl⟩⟩
instance : TOne Tryd.prog 163 := ⟨⟨_, Tryd.underlying163, rfl⟩, by kernel_rfl⟩
instance : TZ Tryd.prog 163 [.nilFunc] := ⟨⟨.nilFunc, by kernel_rfl, rfl⟩⟩
instance : TOne Tryd.prog 164 := ⟨⟨_, Tryd.underlying164, rfl⟩, by kernel_rfl⟩
instance : TZ Tryd.prog 164 [.nilFunc] := ⟨⟨.nilFunc, by kernel_rfl, rfl⟩⟩
instance : TOne Tryd.prog 165 := ⟨⟨_, Tryd.underlying165, rfl⟩, by kernel_rfl⟩
instance : TZ Tryd.prog 165 [.slice none 0 0] := ⟨⟨.slice none 0 0, by kernel_rfl, rfl⟩⟩
instance : TS Tryd.prog 165 35 1 24 (.slice none 0 0) := ⟨⟨Tryd.underlying165, by kernel_rfl, rfl, by decide, by decide⟩⟩
instance : TOne Tryd.prog 166 := ⟨⟨_, Tryd.underlying166, rfl⟩, by kernel_rfl⟩
instance : TZ Tryd.prog 166 [.nilFunc] := ⟨⟨.nilFunc, by kernel_rfl, rfl⟩⟩
instance : TOne Tryd.prog 167 := ⟨⟨_, Tryd.underlying167, rfl⟩, by kernel_rfl⟩
instance : TZ Tryd.prog 167 [.nilFunc] := ⟨⟨.nilFunc, by kernel_rfl, rfl⟩⟩
instance : TOne Tryd.prog 168 := ⟨⟨_, Tryd.underlying168, rfl⟩, by kernel_rfl⟩
instance : TZ Tryd.prog 168 [.pointer none] := ⟨⟨.pointer none, by kernel_rfl, rfl⟩⟩
instance : TRow Tryd.prog 169 16 := ⟨⟨_, Tryd.underlying169, rfl⟩, by kernel_rfl⟩
instance : TArr Tryd.prog 169 16 142 1 := ⟨Tryd.underlying169, by kernel_rfl⟩
instance : TZ Tryd.prog 169 ([.int .u32 0, .int .u32 0, .int .u32 0, .int .u32 0, .int .u32 0, .int .u32 0, .int .u32 0, .int .u32 0, .int .u32 0, .int .u32 0, .int .u32 0, .int .u32 0, .int .u32 0, .int .u32 0, .int .u32 0, .int .u32 0]) := ⟨⟨.agg #[.int .u32 0, .int .u32 0, .int .u32 0, .int .u32 0, .int .u32 0, .int .u32 0, .int .u32 0, .int .u32 0, .int .u32 0, .int .u32 0, .int .u32 0, .int .u32 0, .int .u32 0, .int .u32 0, .int .u32 0, .int .u32 0], by kernel_rfl, rfl⟩⟩
instance : TB Tryd.prog 169 ([.int .u32 0, .int .u32 0, .int .u32 0, .int .u32 0, .int .u32 0, .int .u32 0, .int .u32 0, .int .u32 0, .int .u32 0, .int .u32 0, .int .u32 0, .int .u32 0, .int .u32 0, .int .u32 0, .int .u32 0, .int .u32 0]) (plArr 1) := ⟨fun w ps cells h => run_build_array Tryd.underlying169 (z := ([.int .u32 0, .int .u32 0, .int .u32 0, .int .u32 0, .int .u32 0, .int .u32 0, .int .u32 0, .int .u32 0, .int .u32 0, .int .u32 0, .int .u32 0, .int .u32 0, .int .u32 0, .int .u32 0, .int .u32 0, .int .u32 0] : List Value).toArray) (n := 16) (by kernel_rfl) (s := 1) (by kernel_rfl) h⟩
instance : TRow Tryd.prog 170 64 := ⟨⟨_, Tryd.underlying170, rfl⟩, by kernel_rfl⟩
instance : TArr Tryd.prog 170 64 142 1 := ⟨Tryd.underlying170, by kernel_rfl⟩
instance : TOne Tryd.prog 171 := ⟨⟨_, Tryd.underlying171, rfl⟩, by kernel_rfl⟩
instance : TZ Tryd.prog 171 [.nilFunc] := ⟨⟨.nilFunc, by kernel_rfl, rfl⟩⟩
instance : TOne Tryd.prog 172 := ⟨⟨_, Tryd.underlying172, rfl⟩, by kernel_rfl⟩
instance : TZ Tryd.prog 172 [.nilFunc] := ⟨⟨.nilFunc, by kernel_rfl, rfl⟩⟩
instance : TOne Tryd.prog 173 := ⟨⟨_, Tryd.underlying173, rfl⟩, by kernel_rfl⟩
instance : TZ Tryd.prog 173 [.nilFunc] := ⟨⟨.nilFunc, by kernel_rfl, rfl⟩⟩
instance : TOne Tryd.prog 174 := ⟨⟨_, Tryd.underlying174, rfl⟩, by kernel_rfl⟩
instance : TZ Tryd.prog 174 [.nilFunc] := ⟨⟨.nilFunc, by kernel_rfl, rfl⟩⟩
instance : TOne Tryd.prog 175 := ⟨⟨_, Tryd.underlying175, rfl⟩, by kernel_rfl⟩
instance : TZ Tryd.prog 175 [.nilFunc] := ⟨⟨.nilFunc, by kernel_rfl, rfl⟩⟩
instance : TOne Tryd.prog 176 := ⟨⟨_, Tryd.underlying176, rfl⟩, by kernel_rfl⟩
instance : TZ Tryd.prog 176 [.nilFunc] := ⟨⟨.nilFunc, by kernel_rfl, rfl⟩⟩
instance : TRow Tryd.prog 177 4 := ⟨⟨_, Tryd.underlying177, rfl⟩, by kernel_rfl⟩
instance : TFA Tryd.prog 177 0 0 := ⟨⟨_, _, 0, Tryd.underlying177, rfl, rfl, by kernel_rfl⟩⟩
instance : TFA Tryd.prog 177 1 1 := ⟨⟨_, _, 0, Tryd.underlying177, rfl, rfl, by kernel_rfl⟩⟩
instance : TFA Tryd.prog 177 2 2 := ⟨⟨_, _, 0, Tryd.underlying177, rfl, rfl, by kernel_rfl⟩⟩
instance : TFA Tryd.prog 177 3 3 := ⟨⟨_, _, 0, Tryd.underlying177, rfl, rfl, by kernel_rfl⟩⟩
instance : TOne Tryd.prog 184 := ⟨⟨_, Tryd.underlying184, rfl⟩, by kernel_rfl⟩
instance : TZ Tryd.prog 184 [.nilFunc] := ⟨⟨.nilFunc, by kernel_rfl, rfl⟩⟩
instance : TOne Tryd.prog 185 := ⟨⟨_, Tryd.underlying185, rfl⟩, by kernel_rfl⟩
instance : TZ Tryd.prog 185 [.pointer none] := ⟨⟨.pointer none, by kernel_rfl, rfl⟩⟩
instance : TRow Tryd.prog 188 11 := ⟨⟨_, Tryd.underlying188, rfl⟩, by kernel_rfl⟩
instance : TFA Tryd.prog 188 0 0 := ⟨⟨_, _, 0, Tryd.underlying188, rfl, rfl, by kernel_rfl⟩⟩
instance : TFA Tryd.prog 188 1 1 := ⟨⟨_, _, 0, Tryd.underlying188, rfl, rfl, by kernel_rfl⟩⟩
instance : TFA Tryd.prog 188 2 2 := ⟨⟨_, _, 0, Tryd.underlying188, rfl, rfl, by kernel_rfl⟩⟩
instance : TFA Tryd.prog 188 3 3 := ⟨⟨_, _, 0, Tryd.underlying188, rfl, rfl, by kernel_rfl⟩⟩
instance : TFA Tryd.prog 188 4 4 := ⟨⟨_, _, 0, Tryd.underlying188, rfl, rfl, by kernel_rfl⟩⟩
instance : TFA Tryd.prog 188 5 5 := ⟨⟨_, _, 0, Tryd.underlying188, rfl, rfl, by kernel_rfl⟩⟩
instance : TFA Tryd.prog 188 6 6 := ⟨⟨_, _, 0, Tryd.underlying188, rfl, rfl, by kernel_rfl⟩⟩
instance : TFA Tryd.prog 188 7 7 := ⟨⟨_, _, 0, Tryd.underlying188, rfl, rfl, by kernel_rfl⟩⟩
instance : TFA Tryd.prog 188 8 8 := ⟨⟨_, _, 0, Tryd.underlying188, rfl, rfl, by kernel_rfl⟩⟩
instance : TFA Tryd.prog 188 9 9 := ⟨⟨_, _, 0, Tryd.underlying188, rfl, rfl, by kernel_rfl⟩⟩
instance : TFA Tryd.prog 188 10 10 := ⟨⟨_, _, 0, Tryd.underlying188, rfl, rfl, by kernel_rfl⟩⟩
instance : TZ Tryd.prog 188 ([.int .u64 0, .int .u64 0, .int .u32 0, .int .u8 0, .int .u8 0, .int .u8 0, .int .u8 0, .nilFunc, .pointer none, .int .i32 0, .int .i32 0]) := ⟨⟨.agg #[.int .u64 0, .int .u64 0, .int .u32 0, .int .u8 0, .int .u8 0, .int .u8 0, .int .u8 0, .nilFunc, .pointer none, .int .i32 0, .int .i32 0], by kernel_rfl, rfl⟩⟩
def pl188 : Nat → Option (Nat × Nat) := fun i => ([(0, 1), (1, 1), (2, 1), (3, 1), (4, 1), (5, 1), (6, 1), (7, 1), (8, 1), (9, 1), (10, 1)] : List (Nat × Nat)).toArray[i]?
instance : Place pl188 0 0 1 := ⟨rfl⟩
instance : Place pl188 1 1 1 := ⟨rfl⟩
instance : Place pl188 2 2 1 := ⟨rfl⟩
instance : Place pl188 3 3 1 := ⟨rfl⟩
instance : Place pl188 4 4 1 := ⟨rfl⟩
instance : Place pl188 5 5 1 := ⟨rfl⟩
instance : Place pl188 6 6 1 := ⟨rfl⟩
instance : Place pl188 7 7 1 := ⟨rfl⟩
instance : Place pl188 8 8 1 := ⟨rfl⟩
instance : Place pl188 9 9 1 := ⟨rfl⟩
instance : Place pl188 10 10 1 := ⟨rfl⟩
instance : TB Tryd.prog 188 ([.int .u64 0, .int .u64 0, .int .u32 0, .int .u8 0, .int .u8 0, .int .u8 0, .int .u8 0, .nilFunc, .pointer none, .int .i32 0, .int .i32 0]) pl188 := ⟨fun w ps cells h => run_build_struct (fl := _) Tryd.underlying188 (z := ([.int .u64 0, .int .u64 0, .int .u32 0, .int .u8 0, .int .u8 0, .int .u8 0, .int .u8 0, .nilFunc, .pointer none, .int .i32 0, .int .i32 0] : List Value).toArray) (n := 11) (by kernel_rfl) (pl := [(0, 1), (1, 1), (2, 1), (3, 1), (4, 1), (5, 1), (6, 1), (7, 1), (8, 1), (9, 1), (10, 1)]) (by kernel_rfl) h⟩
instance : TOne Tryd.prog 190 := ⟨⟨_, Tryd.underlying190, rfl⟩, by kernel_rfl⟩
instance : TZ Tryd.prog 190 [.nilFunc] := ⟨⟨.nilFunc, by kernel_rfl, rfl⟩⟩
instance : TOne Tryd.prog 191 := ⟨⟨_, Tryd.underlying191, rfl⟩, by kernel_rfl⟩
instance : TZ Tryd.prog 191 [.pointer none] := ⟨⟨.pointer none, by kernel_rfl, rfl⟩⟩
theorem leafFields' : ∃ f1 f2 : Field, Tryd.prog.underlying 43 = some (.struct #[f1, f2]) ∧ (f1.name == "_") = false ∧ (f2.name == "_") = false ∧ f1.type = 40 ∧ f2.type = 41 ∧ f1.offset = 0 ∧ f2.offset = 32 :=
  ⟨_, _, Tryd.underlying43, by decide, by decide, rfl, rfl, rfl, rfl⟩
theorem eqLeaf' {w : World} (d : Nat) (x y : Leaf) : (Op.equalIn (d + 3) 43 (.agg x.cells.toArray) (.agg y.cells.toArray)).run Tryd.prog w = .ok (decide (x = y)) w := by
  obtain ⟨f1, f2, h0, h1, h2, h3, h4, h5, h6⟩ := leafFields'
  exact eq_Leaf d h0 Tryd.stoodInHeld43 h1 h2 h3 h4 h5 h6 Tryd.underlying40 Tryd.underlying41 Tryd.underlying5 (by kernel_rfl) (by kernel_rfl) (by kernel_rfl) x y
instance (x y : Leaf) : TEq Tryd.prog 43 x.cells y.cells (decide (x = y)) := ⟨fun w d => eqLeaf' (d + 3) x y, Tryd.eqGuardType43⟩
theorem mixed : Tryd.prog.follows .mixedOrders = true := by kernel_rfl
instance : TConc Tryd.prog 1 := ⟨_, Tryd.underlying1, by intro l h; cases h⟩
instance : TConc Tryd.prog 2 := ⟨_, Tryd.underlying2, by intro l h; cases h⟩
instance : TInt Tryd.prog 2 .i64 := ⟨Tryd.underlying2⟩
instance : TConc Tryd.prog 3 := ⟨_, Tryd.underlying3, by intro l h; cases h⟩
instance : TInt Tryd.prog 3 .i64 := ⟨Tryd.underlying3⟩
instance : TConc Tryd.prog 4 := ⟨_, Tryd.underlying4, by intro l h; cases h⟩
instance : TConc Tryd.prog 5 := ⟨_, Tryd.underlying5, by intro l h; cases h⟩
instance : TInt Tryd.prog 5 .u8 := ⟨Tryd.underlying5⟩
instance : TConc Tryd.prog 7 := ⟨_, Tryd.underlying7, by intro l h; cases h⟩
instance : TFT Tryd.prog 7 0 0 2 := ⟨_, _, Tryd.underlying7, rfl, rfl, rfl⟩
instance : TFT Tryd.prog 7 1 1 3 := ⟨_, _, Tryd.underlying7, rfl, rfl, rfl⟩
instance : TFT Tryd.prog 7 2 2 4 := ⟨_, _, Tryd.underlying7, rfl, rfl, rfl⟩
instance : TFT Tryd.prog 7 3 3 6 := ⟨_, _, Tryd.underlying7, rfl, rfl, rfl⟩
instance : TConc Tryd.prog 9 := ⟨_, Tryd.underlying9, by intro l h; cases h⟩
instance : TConc Tryd.prog 12 := ⟨_, Tryd.underlying12, by intro l h; cases h⟩
instance : TInt Tryd.prog 12 .u64 := ⟨Tryd.underlying12⟩
instance : TConc Tryd.prog 13 := ⟨_, Tryd.underlying13, by intro l h; cases h⟩
instance : TFT Tryd.prog 13 0 0 9 := ⟨_, _, Tryd.underlying13, rfl, rfl, rfl⟩
instance : TFT Tryd.prog 13 1 1 12 := ⟨_, _, Tryd.underlying13, rfl, rfl, rfl⟩
instance : TConc Tryd.prog 15 := ⟨_, Tryd.underlying15, by intro l h; cases h⟩
instance : TPtr Tryd.prog 15 := ⟨_, Tryd.underlying15⟩
instance : TConc Tryd.prog 16 := ⟨_, Tryd.underlying16, by intro l h; cases h⟩
instance : TPtr Tryd.prog 16 := ⟨_, Tryd.underlying16⟩
instance : TConc Tryd.prog 17 := ⟨_, Tryd.underlying17, by intro l h; cases h⟩
instance : TPtr Tryd.prog 17 := ⟨_, Tryd.underlying17⟩
instance : TConc Tryd.prog 18 := ⟨_, Tryd.underlying18, by intro l h; cases h⟩
instance : TFT Tryd.prog 18 0 0 17 := ⟨_, _, Tryd.underlying18, rfl, rfl, rfl⟩
instance : TConc Tryd.prog 21 := ⟨_, Tryd.underlying21, by intro l h; cases h⟩
instance : TInt Tryd.prog 21 .i32 := ⟨Tryd.underlying21⟩
instance : TConc Tryd.prog 22 := ⟨_, Tryd.underlying22, by intro l h; cases h⟩
instance : TConc Tryd.prog 23 := ⟨_, Tryd.underlying23, by intro l h; cases h⟩
instance : TConc Tryd.prog 24 := ⟨_, Tryd.underlying24, by intro l h; cases h⟩
instance : TPtr Tryd.prog 24 := ⟨_, Tryd.underlying24⟩
instance : TConc Tryd.prog 26 := ⟨_, Tryd.underlying26, by intro l h; cases h⟩
instance : TConc Tryd.prog 27 := ⟨_, Tryd.underlying27, by intro l h; cases h⟩
instance : TPtr Tryd.prog 27 := ⟨_, Tryd.underlying27⟩
instance : TConc Tryd.prog 28 := ⟨_, Tryd.underlying28, by intro l h; cases h⟩
instance : TConc Tryd.prog 29 := ⟨_, Tryd.underlying29, by intro l h; cases h⟩
instance : TConc Tryd.prog 30 := ⟨_, Tryd.underlying30, by intro l h; cases h⟩
instance : TConc Tryd.prog 31 := ⟨_, Tryd.underlying31, by intro l h; cases h⟩
instance : TConc Tryd.prog 32 := ⟨_, Tryd.underlying32, by intro l h; cases h⟩
instance : TInt Tryd.prog 32 .i64 := ⟨Tryd.underlying32⟩
instance : TConc Tryd.prog 34 := ⟨_, Tryd.underlying34, by intro l h; cases h⟩
instance : TConc Tryd.prog 35 := ⟨_, Tryd.underlying35, by intro l h; cases h⟩
instance : TConc Tryd.prog 37 := ⟨_, Tryd.underlying37, by intro l h; cases h⟩
instance : TConc Tryd.prog 38 := ⟨_, Tryd.underlying38, by intro l h; cases h⟩
instance : TConc Tryd.prog 39 := ⟨_, Tryd.underlying39, by intro l h; cases h⟩
instance : TConc Tryd.prog 40 := ⟨_, Tryd.underlying40, by intro l h; cases h⟩
instance : TConc Tryd.prog 41 := ⟨_, Tryd.underlying41, by intro l h; cases h⟩
instance : TConc Tryd.prog 42 := ⟨_, Tryd.underlying42, by intro l h; cases h⟩
instance : TFT Tryd.prog 42 0 0 40 := ⟨_, _, Tryd.underlying42, rfl, rfl, rfl⟩
instance : TFT Tryd.prog 42 1 32 41 := ⟨_, _, Tryd.underlying42, rfl, rfl, rfl⟩
instance : TConc Tryd.prog 43 := ⟨_, Tryd.underlying43, by intro l h; cases h⟩
instance : TFT Tryd.prog 43 0 0 40 := ⟨_, _, Tryd.underlying43, rfl, rfl, rfl⟩
instance : TFT Tryd.prog 43 1 32 41 := ⟨_, _, Tryd.underlying43, rfl, rfl, rfl⟩
instance : TConc Tryd.prog 44 := ⟨_, Tryd.underlying44, by intro l h; cases h⟩
instance : TFT Tryd.prog 44 0 0 3 := ⟨_, _, Tryd.underlying44, rfl, rfl, rfl⟩
instance : TFT Tryd.prog 44 1 1 41 := ⟨_, _, Tryd.underlying44, rfl, rfl, rfl⟩
instance : TFT Tryd.prog 44 2 33 43 := ⟨_, _, Tryd.underlying44, rfl, rfl, rfl⟩
instance : TConc Tryd.prog 45 := ⟨_, Tryd.underlying45, by intro l h; cases h⟩
instance : TFT Tryd.prog 45 0 0 3 := ⟨_, _, Tryd.underlying45, rfl, rfl, rfl⟩
instance : TFT Tryd.prog 45 1 1 41 := ⟨_, _, Tryd.underlying45, rfl, rfl, rfl⟩
instance : TFT Tryd.prog 45 2 33 43 := ⟨_, _, Tryd.underlying45, rfl, rfl, rfl⟩
instance : TConc Tryd.prog 46 := ⟨_, Tryd.underlying46, by intro l h; cases h⟩
instance : TConc Tryd.prog 47 := ⟨_, Tryd.underlying47, by intro l h; cases h⟩
instance : TConc Tryd.prog 48 := ⟨_, Tryd.underlying48, by intro l h; cases h⟩
instance : TConc Tryd.prog 49 := ⟨_, Tryd.underlying49, by intro l h; cases h⟩
instance : TConc Tryd.prog 50 := ⟨_, Tryd.underlying50, by intro l h; cases h⟩
instance : TConc Tryd.prog 52 := ⟨_, Tryd.underlying52, by intro l h; cases h⟩
instance : TConc Tryd.prog 53 := ⟨_, Tryd.underlying53, by intro l h; cases h⟩
instance : TConc Tryd.prog 54 := ⟨_, Tryd.underlying54, by intro l h; cases h⟩
instance : TConc Tryd.prog 55 := ⟨_, Tryd.underlying55, by intro l h; cases h⟩
instance : TConc Tryd.prog 57 := ⟨_, Tryd.underlying57, by intro l h; cases h⟩
instance : TConc Tryd.prog 58 := ⟨_, Tryd.underlying58, by intro l h; cases h⟩
instance : TConc Tryd.prog 59 := ⟨_, Tryd.underlying59, by intro l h; cases h⟩
instance : TConc Tryd.prog 60 := ⟨_, Tryd.underlying60, by intro l h; cases h⟩
instance : TConc Tryd.prog 61 := ⟨_, Tryd.underlying61, by intro l h; cases h⟩
instance : TFT Tryd.prog 61 0 0 45 := ⟨_, _, Tryd.underlying61, rfl, rfl, rfl⟩
instance : TFT Tryd.prog 61 1 97 3 := ⟨_, _, Tryd.underlying61, rfl, rfl, rfl⟩
instance : TConc Tryd.prog 62 := ⟨_, Tryd.underlying62, by intro l h; cases h⟩
instance : TFT Tryd.prog 62 0 0 45 := ⟨_, _, Tryd.underlying62, rfl, rfl, rfl⟩
instance : TFT Tryd.prog 62 1 97 3 := ⟨_, _, Tryd.underlying62, rfl, rfl, rfl⟩
instance : TConc Tryd.prog 63 := ⟨_, Tryd.underlying63, by intro l h; cases h⟩
instance : TConc Tryd.prog 64 := ⟨_, Tryd.underlying64, by intro l h; cases h⟩
instance : TConc Tryd.prog 65 := ⟨_, Tryd.underlying65, by intro l h; cases h⟩
instance : TConc Tryd.prog 67 := ⟨_, Tryd.underlying67, by intro l h; cases h⟩
instance : TConc Tryd.prog 68 := ⟨_, Tryd.underlying68, by intro l h; cases h⟩
instance : TConc Tryd.prog 69 := ⟨_, Tryd.underlying69, by intro l h; cases h⟩
instance : TConc Tryd.prog 70 := ⟨_, Tryd.underlying70, by intro l h; cases h⟩
instance : TConc Tryd.prog 71 := ⟨_, Tryd.underlying71, by intro l h; cases h⟩
instance : TConc Tryd.prog 72 := ⟨_, Tryd.underlying72, by intro l h; cases h⟩
instance : TConc Tryd.prog 73 := ⟨_, Tryd.underlying73, by intro l h; cases h⟩
instance : TConc Tryd.prog 74 := ⟨_, Tryd.underlying74, by intro l h; cases h⟩
instance : TConc Tryd.prog 75 := ⟨_, Tryd.underlying75, by intro l h; cases h⟩
instance : TConc Tryd.prog 76 := ⟨_, Tryd.underlying76, by intro l h; cases h⟩
instance : TFT Tryd.prog 76 0 0 40 := ⟨_, _, Tryd.underlying76, rfl, rfl, rfl⟩
instance : TFT Tryd.prog 76 1 32 35 := ⟨_, _, Tryd.underlying76, rfl, rfl, rfl⟩
instance : TConc Tryd.prog 77 := ⟨_, Tryd.underlying77, by intro l h; cases h⟩
instance : TFT Tryd.prog 77 0 0 40 := ⟨_, _, Tryd.underlying77, rfl, rfl, rfl⟩
instance : TFT Tryd.prog 77 1 32 35 := ⟨_, _, Tryd.underlying77, rfl, rfl, rfl⟩
instance : TConc Tryd.prog 78 := ⟨_, Tryd.underlying78, by intro l h; cases h⟩
instance : TConc Tryd.prog 79 := ⟨_, Tryd.underlying79, by intro l h; cases h⟩
instance : TConc Tryd.prog 80 := ⟨_, Tryd.underlying80, by intro l h; cases h⟩
instance : TConc Tryd.prog 84 := ⟨_, Tryd.underlying84, by intro l h; cases h⟩
instance : TConc Tryd.prog 85 := ⟨_, Tryd.underlying85, by intro l h; cases h⟩
instance : TConc Tryd.prog 86 := ⟨_, Tryd.underlying86, by intro l h; cases h⟩
instance : TConc Tryd.prog 87 := ⟨_, Tryd.underlying87, by intro l h; cases h⟩
instance : TConc Tryd.prog 88 := ⟨_, Tryd.underlying88, by intro l h; cases h⟩
instance : TConc Tryd.prog 90 := ⟨_, Tryd.underlying90, by intro l h; cases h⟩
instance : TConc Tryd.prog 91 := ⟨_, Tryd.underlying91, by intro l h; cases h⟩
instance : TConc Tryd.prog 92 := ⟨_, Tryd.underlying92, by intro l h; cases h⟩
instance : TConc Tryd.prog 93 := ⟨_, Tryd.underlying93, by intro l h; cases h⟩
instance : TConc Tryd.prog 94 := ⟨_, Tryd.underlying94, by intro l h; cases h⟩
instance : TConc Tryd.prog 95 := ⟨_, Tryd.underlying95, by intro l h; cases h⟩
instance : TConc Tryd.prog 96 := ⟨_, Tryd.underlying96, by intro l h; cases h⟩
instance : TPtr Tryd.prog 96 := ⟨_, Tryd.underlying96⟩
instance : TConc Tryd.prog 97 := ⟨_, Tryd.underlying97, by intro l h; cases h⟩
instance : TFT Tryd.prog 97 0 0 3 := ⟨_, _, Tryd.underlying97, rfl, rfl, rfl⟩
instance : TConc Tryd.prog 98 := ⟨_, Tryd.underlying98, by intro l h; cases h⟩
instance : TFT Tryd.prog 98 0 0 3 := ⟨_, _, Tryd.underlying98, rfl, rfl, rfl⟩
instance : TConc Tryd.prog 99 := ⟨_, Tryd.underlying99, by intro l h; cases h⟩
instance : TFT Tryd.prog 99 0 0 96 := ⟨_, _, Tryd.underlying99, rfl, rfl, rfl⟩
instance : TFT Tryd.prog 99 1 1 3 := ⟨_, _, Tryd.underlying99, rfl, rfl, rfl⟩
instance : TConc Tryd.prog 100 := ⟨_, Tryd.underlying100, by intro l h; cases h⟩
instance : TFT Tryd.prog 100 0 0 96 := ⟨_, _, Tryd.underlying100, rfl, rfl, rfl⟩
instance : TFT Tryd.prog 100 1 1 3 := ⟨_, _, Tryd.underlying100, rfl, rfl, rfl⟩
instance : TConc Tryd.prog 101 := ⟨_, Tryd.underlying101, by intro l h; cases h⟩
instance : TConc Tryd.prog 102 := ⟨_, Tryd.underlying102, by intro l h; cases h⟩
instance : TInt Tryd.prog 102 .u64 := ⟨Tryd.underlying102⟩
instance : TConc Tryd.prog 103 := ⟨_, Tryd.underlying103, by intro l h; cases h⟩
instance : TConc Tryd.prog 104 := ⟨_, Tryd.underlying104, by intro l h; cases h⟩
instance : TConc Tryd.prog 105 := ⟨_, Tryd.underlying105, by intro l h; cases h⟩
instance : TConc Tryd.prog 106 := ⟨_, Tryd.underlying106, by intro l h; cases h⟩
instance : TConc Tryd.prog 107 := ⟨_, Tryd.underlying107, by intro l h; cases h⟩
instance : TConc Tryd.prog 108 := ⟨_, Tryd.underlying108, by intro l h; cases h⟩
instance : TConc Tryd.prog 109 := ⟨_, Tryd.underlying109, by intro l h; cases h⟩
instance : TConc Tryd.prog 110 := ⟨_, Tryd.underlying110, by intro l h; cases h⟩
instance : TConc Tryd.prog 111 := ⟨_, Tryd.underlying111, by intro l h; cases h⟩
instance : TConc Tryd.prog 112 := ⟨_, Tryd.underlying112, by intro l h; cases h⟩
instance : TConc Tryd.prog 113 := ⟨_, Tryd.underlying113, by intro l h; cases h⟩
instance : TConc Tryd.prog 114 := ⟨_, Tryd.underlying114, by intro l h; cases h⟩
instance : TConc Tryd.prog 116 := ⟨_, Tryd.underlying116, by intro l h; cases h⟩
instance : TConc Tryd.prog 117 := ⟨_, Tryd.underlying117, by intro l h; cases h⟩
instance : TConc Tryd.prog 118 := ⟨_, Tryd.underlying118, by intro l h; cases h⟩
instance : TConc Tryd.prog 119 := ⟨_, Tryd.underlying119, by intro l h; cases h⟩
instance : TConc Tryd.prog 120 := ⟨_, Tryd.underlying120, by intro l h; cases h⟩
instance : TConc Tryd.prog 121 := ⟨_, Tryd.underlying121, by intro l h; cases h⟩
instance : TFT Tryd.prog 121 0 0 45 := ⟨_, _, Tryd.underlying121, rfl, rfl, rfl⟩
instance : TConc Tryd.prog 122 := ⟨_, Tryd.underlying122, by intro l h; cases h⟩
instance : TFT Tryd.prog 122 0 0 45 := ⟨_, _, Tryd.underlying122, rfl, rfl, rfl⟩
instance : TConc Tryd.prog 123 := ⟨_, Tryd.underlying123, by intro l h; cases h⟩
instance : TConc Tryd.prog 124 := ⟨_, Tryd.underlying124, by intro l h; cases h⟩
instance : TConc Tryd.prog 125 := ⟨_, Tryd.underlying125, by intro l h; cases h⟩
instance : TConc Tryd.prog 126 := ⟨_, Tryd.underlying126, by intro l h; cases h⟩
instance : TFT Tryd.prog 126 0 0 43 := ⟨_, _, Tryd.underlying126, rfl, rfl, rfl⟩
instance : TFT Tryd.prog 126 1 64 35 := ⟨_, _, Tryd.underlying126, rfl, rfl, rfl⟩
instance : TConc Tryd.prog 127 := ⟨_, Tryd.underlying127, by intro l h; cases h⟩
instance : TFT Tryd.prog 127 0 0 43 := ⟨_, _, Tryd.underlying127, rfl, rfl, rfl⟩
instance : TFT Tryd.prog 127 1 64 35 := ⟨_, _, Tryd.underlying127, rfl, rfl, rfl⟩
instance : TConc Tryd.prog 128 := ⟨_, Tryd.underlying128, by intro l h; cases h⟩
instance : TConc Tryd.prog 129 := ⟨_, Tryd.underlying129, by intro l h; cases h⟩
instance : TConc Tryd.prog 130 := ⟨_, Tryd.underlying130, by intro l h; cases h⟩
instance : TFT Tryd.prog 130 0 0 128 := ⟨_, _, Tryd.underlying130, rfl, rfl, rfl⟩
instance : TFT Tryd.prog 130 1 2 129 := ⟨_, _, Tryd.underlying130, rfl, rfl, rfl⟩
instance : TFT Tryd.prog 130 2 66 3 := ⟨_, _, Tryd.underlying130, rfl, rfl, rfl⟩
instance : TConc Tryd.prog 131 := ⟨_, Tryd.underlying131, by intro l h; cases h⟩
instance : TFT Tryd.prog 131 0 0 128 := ⟨_, _, Tryd.underlying131, rfl, rfl, rfl⟩
instance : TFT Tryd.prog 131 1 2 129 := ⟨_, _, Tryd.underlying131, rfl, rfl, rfl⟩
instance : TFT Tryd.prog 131 2 66 3 := ⟨_, _, Tryd.underlying131, rfl, rfl, rfl⟩
instance : TConc Tryd.prog 134 := ⟨_, Tryd.underlying134, by intro l h; cases h⟩
instance : TFT Tryd.prog 134 0 0 133 := ⟨_, _, Tryd.underlying134, rfl, rfl, rfl⟩
instance : TFT Tryd.prog 134 1 1 41 := ⟨_, _, Tryd.underlying134, rfl, rfl, rfl⟩
instance : TConc Tryd.prog 135 := ⟨_, Tryd.underlying135, by intro l h; cases h⟩
instance : TFT Tryd.prog 135 0 0 133 := ⟨_, _, Tryd.underlying135, rfl, rfl, rfl⟩
instance : TFT Tryd.prog 135 1 1 41 := ⟨_, _, Tryd.underlying135, rfl, rfl, rfl⟩
instance : TConc Tryd.prog 136 := ⟨_, Tryd.underlying136, by intro l h; cases h⟩
instance : TConc Tryd.prog 137 := ⟨_, Tryd.underlying137, by intro l h; cases h⟩
instance : TConc Tryd.prog 138 := ⟨_, Tryd.underlying138, by intro l h; cases h⟩
instance : TConc Tryd.prog 139 := ⟨_, Tryd.underlying139, by intro l h; cases h⟩
instance : TConc Tryd.prog 140 := ⟨_, Tryd.underlying140, by intro l h; cases h⟩
instance : TConc Tryd.prog 141 := ⟨_, Tryd.underlying141, by intro l h; cases h⟩
instance : TConc Tryd.prog 142 := ⟨_, Tryd.underlying142, by intro l h; cases h⟩
instance : TInt Tryd.prog 142 .u32 := ⟨Tryd.underlying142⟩
instance : TConc Tryd.prog 143 := ⟨_, Tryd.underlying143, by intro l h; cases h⟩
instance : TConc Tryd.prog 144 := ⟨_, Tryd.underlying144, by intro l h; cases h⟩
instance : TConc Tryd.prog 145 := ⟨_, Tryd.underlying145, by intro l h; cases h⟩
instance : TConc Tryd.prog 146 := ⟨_, Tryd.underlying146, by intro l h; cases h⟩
instance : TConc Tryd.prog 147 := ⟨_, Tryd.underlying147, by intro l h; cases h⟩
instance : TConc Tryd.prog 148 := ⟨_, Tryd.underlying148, by intro l h; cases h⟩
instance : TConc Tryd.prog 149 := ⟨_, Tryd.underlying149, by intro l h; cases h⟩
instance : TConc Tryd.prog 150 := ⟨_, Tryd.underlying150, by intro l h; cases h⟩
instance : TConc Tryd.prog 151 := ⟨_, Tryd.underlying151, by intro l h; cases h⟩
instance : TConc Tryd.prog 152 := ⟨_, Tryd.underlying152, by intro l h; cases h⟩
instance : TConc Tryd.prog 153 := ⟨_, Tryd.underlying153, by intro l h; cases h⟩
instance : TConc Tryd.prog 154 := ⟨_, Tryd.underlying154, by intro l h; cases h⟩
instance : TConc Tryd.prog 155 := ⟨_, Tryd.underlying155, by intro l h; cases h⟩
instance : TConc Tryd.prog 156 := ⟨_, Tryd.underlying156, by intro l h; cases h⟩
instance : TConc Tryd.prog 157 := ⟨_, Tryd.underlying157, by intro l h; cases h⟩
instance : TConc Tryd.prog 158 := ⟨_, Tryd.underlying158, by intro l h; cases h⟩
instance : TInt Tryd.prog 158 .u64 := ⟨Tryd.underlying158⟩
instance : TConc Tryd.prog 159 := ⟨_, Tryd.underlying159, by intro l h; cases h⟩
instance : TConc Tryd.prog 160 := ⟨_, Tryd.underlying160, by intro l h; cases h⟩
instance : TConc Tryd.prog 161 := ⟨_, Tryd.underlying161, by intro l h; cases h⟩
instance : TConc Tryd.prog 162 := ⟨_, Tryd.underlying162, by intro l h; cases h⟩
instance : TConc Tryd.prog 163 := ⟨_, Tryd.underlying163, by intro l h; cases h⟩
instance : TConc Tryd.prog 164 := ⟨_, Tryd.underlying164, by intro l h; cases h⟩
instance : TConc Tryd.prog 165 := ⟨_, Tryd.underlying165, by intro l h; cases h⟩
instance : TConc Tryd.prog 166 := ⟨_, Tryd.underlying166, by intro l h; cases h⟩
instance : TConc Tryd.prog 167 := ⟨_, Tryd.underlying167, by intro l h; cases h⟩
instance : TConc Tryd.prog 168 := ⟨_, Tryd.underlying168, by intro l h; cases h⟩
instance : TPtr Tryd.prog 168 := ⟨_, Tryd.underlying168⟩
instance : TConc Tryd.prog 169 := ⟨_, Tryd.underlying169, by intro l h; cases h⟩
instance : TConc Tryd.prog 170 := ⟨_, Tryd.underlying170, by intro l h; cases h⟩
instance : TConc Tryd.prog 171 := ⟨_, Tryd.underlying171, by intro l h; cases h⟩
instance : TConc Tryd.prog 172 := ⟨_, Tryd.underlying172, by intro l h; cases h⟩
instance : TConc Tryd.prog 173 := ⟨_, Tryd.underlying173, by intro l h; cases h⟩
instance : TConc Tryd.prog 174 := ⟨_, Tryd.underlying174, by intro l h; cases h⟩
instance : TConc Tryd.prog 175 := ⟨_, Tryd.underlying175, by intro l h; cases h⟩
instance : TConc Tryd.prog 176 := ⟨_, Tryd.underlying176, by intro l h; cases h⟩
instance : TConc Tryd.prog 177 := ⟨_, Tryd.underlying177, by intro l h; cases h⟩
instance : TFT Tryd.prog 177 0 0 17 := ⟨_, _, Tryd.underlying177, rfl, rfl, rfl⟩
instance : TFT Tryd.prog 177 1 1 17 := ⟨_, _, Tryd.underlying177, rfl, rfl, rfl⟩
instance : TFT Tryd.prog 177 2 2 17 := ⟨_, _, Tryd.underlying177, rfl, rfl, rfl⟩
instance : TFT Tryd.prog 177 3 3 9 := ⟨_, _, Tryd.underlying177, rfl, rfl, rfl⟩
instance : TConc Tryd.prog 179 := ⟨_, Tryd.underlying179, by intro l h; cases h⟩
instance : TConc Tryd.prog 180 := ⟨_, Tryd.underlying180, by intro l h; cases h⟩
instance : TFT Tryd.prog 180 0 0 179 := ⟨_, _, Tryd.underlying180, rfl, rfl, rfl⟩
instance : TConc Tryd.prog 184 := ⟨_, Tryd.underlying184, by intro l h; cases h⟩
instance : TConc Tryd.prog 185 := ⟨_, Tryd.underlying185, by intro l h; cases h⟩
instance : TPtr Tryd.prog 185 := ⟨_, Tryd.underlying185⟩
instance : TConc Tryd.prog 188 := ⟨_, Tryd.underlying188, by intro l h; cases h⟩
instance : TFT Tryd.prog 188 0 0 12 := ⟨_, _, Tryd.underlying188, rfl, rfl, rfl⟩
instance : TFT Tryd.prog 188 1 1 12 := ⟨_, _, Tryd.underlying188, rfl, rfl, rfl⟩
instance : TFT Tryd.prog 188 2 2 142 := ⟨_, _, Tryd.underlying188, rfl, rfl, rfl⟩
instance : TFT Tryd.prog 188 3 3 182 := ⟨_, _, Tryd.underlying188, rfl, rfl, rfl⟩
instance : TFT Tryd.prog 188 4 4 5 := ⟨_, _, Tryd.underlying188, rfl, rfl, rfl⟩
instance : TFT Tryd.prog 188 5 5 5 := ⟨_, _, Tryd.underlying188, rfl, rfl, rfl⟩
instance : TFT Tryd.prog 188 6 6 183 := ⟨_, _, Tryd.underlying188, rfl, rfl, rfl⟩
instance : TFT Tryd.prog 188 7 7 184 := ⟨_, _, Tryd.underlying188, rfl, rfl, rfl⟩
instance : TFT Tryd.prog 188 8 8 185 := ⟨_, _, Tryd.underlying188, rfl, rfl, rfl⟩
instance : TFT Tryd.prog 188 9 9 186 := ⟨_, _, Tryd.underlying188, rfl, rfl, rfl⟩
instance : TFT Tryd.prog 188 10 10 187 := ⟨_, _, Tryd.underlying188, rfl, rfl, rfl⟩
instance : TConc Tryd.prog 190 := ⟨_, Tryd.underlying190, by intro l h; cases h⟩
instance : TConc Tryd.prog 191 := ⟨_, Tryd.underlying191, by intro l h; cases h⟩
instance : Ent Tryd.prog 3 := ⟨enters_of Tryd.func3 (by kernel_rfl) rfl⟩
instance : Ent Tryd.prog 4 := ⟨enters_of Tryd.func4 (by kernel_rfl) rfl⟩
instance : Ent Tryd.prog 5 := ⟨enters_of Tryd.func5 (by kernel_rfl) rfl⟩
instance : Ent Tryd.prog 6 := ⟨enters_of Tryd.func6 (by kernel_rfl) rfl⟩
instance : Ent Tryd.prog 7 := ⟨enters_of Tryd.func7 (by kernel_rfl) rfl⟩
instance : Ent Tryd.prog 8 := ⟨enters_of Tryd.func8 (by kernel_rfl) rfl⟩
instance : Ent Tryd.prog 9 := ⟨enters_of Tryd.func9 (by kernel_rfl) rfl⟩
instance : Ent Tryd.prog 10 := ⟨enters_of Tryd.func10 (by kernel_rfl) rfl⟩
instance : Ent Tryd.prog 11 := ⟨enters_of Tryd.func11 (by kernel_rfl) rfl⟩
instance : Ent Tryd.prog 12 := ⟨enters_of Tryd.func12 (by kernel_rfl) rfl⟩
instance : Ent Tryd.prog 13 := ⟨enters_of Tryd.func13 (by kernel_rfl) rfl⟩
instance : Ent Tryd.prog 14 := ⟨enters_of Tryd.func14 (by kernel_rfl) rfl⟩
instance : Ent Tryd.prog 15 := ⟨enters_of Tryd.func15 (by kernel_rfl) rfl⟩
instance : Ent Tryd.prog 16 := ⟨enters_of Tryd.func16 (by kernel_rfl) rfl⟩
instance : Ent Tryd.prog 17 := ⟨enters_of Tryd.func17 (by kernel_rfl) rfl⟩
instance : Ent Tryd.prog 18 := ⟨enters_of Tryd.func18 (by kernel_rfl) rfl⟩
instance : Ent Tryd.prog 19 := ⟨enters_of Tryd.func19 (by kernel_rfl) rfl⟩
instance : Ent Tryd.prog 20 := ⟨enters_of Tryd.func20 (by kernel_rfl) rfl⟩
instance : Ent Tryd.prog 21 := ⟨enters_of Tryd.func21 (by kernel_rfl) rfl⟩
instance : Ent Tryd.prog 22 := ⟨enters_of Tryd.func22 (by kernel_rfl) rfl⟩
instance : Ent Tryd.prog 23 := ⟨enters_of Tryd.func23 (by kernel_rfl) rfl⟩
instance : Ent Tryd.prog 24 := ⟨enters_of Tryd.func24 (by kernel_rfl) rfl⟩
instance : Ent Tryd.prog 25 := ⟨enters_of Tryd.func25 (by kernel_rfl) rfl⟩
instance : Ent Tryd.prog 26 := ⟨enters_of Tryd.func26 (by kernel_rfl) rfl⟩
instance : Ent Tryd.prog 27 := ⟨enters_of Tryd.func27 (by kernel_rfl) rfl⟩
instance : Ent Tryd.prog 28 := ⟨enters_of Tryd.func28 (by kernel_rfl) rfl⟩
instance : Ent Tryd.prog 29 := ⟨enters_of Tryd.func29 (by kernel_rfl) rfl⟩
instance : Ent Tryd.prog 30 := ⟨enters_of Tryd.func30 (by kernel_rfl) rfl⟩
instance : Ent Tryd.prog 31 := ⟨enters_of Tryd.func31 (by kernel_rfl) rfl⟩
instance : Ent Tryd.prog 32 := ⟨enters_of Tryd.func32 (by kernel_rfl) rfl⟩
instance : Ent Tryd.prog 33 := ⟨enters_of Tryd.func33 (by kernel_rfl) rfl⟩
instance : Ent Tryd.prog 34 := ⟨enters_of Tryd.func34 (by kernel_rfl) rfl⟩
instance : Ent Tryd.prog 35 := ⟨enters_of Tryd.func35 (by kernel_rfl) rfl⟩
instance : Ent Tryd.prog 36 := ⟨enters_of Tryd.func36 (by kernel_rfl) rfl⟩
instance : Ent Tryd.prog 37 := ⟨enters_of Tryd.func37 (by kernel_rfl) rfl⟩
instance : Ent Tryd.prog 38 := ⟨enters_of Tryd.func38 (by kernel_rfl) rfl⟩
instance : Ent Tryd.prog 39 := ⟨enters_of Tryd.func39 (by kernel_rfl) rfl⟩
instance : Ent Tryd.prog 40 := ⟨enters_of Tryd.func40 (by kernel_rfl) rfl⟩
instance : Ent Tryd.prog 41 := ⟨enters_of Tryd.func41 (by kernel_rfl) rfl⟩
instance : Ent Tryd.prog 42 := ⟨enters_of Tryd.func42 (by kernel_rfl) rfl⟩
instance : Ent Tryd.prog 43 := ⟨enters_of Tryd.func43 (by kernel_rfl) rfl⟩
instance : Ent Tryd.prog 44 := ⟨enters_of Tryd.func44 (by kernel_rfl) rfl⟩
instance : Ent Tryd.prog 45 := ⟨enters_of Tryd.func45 (by kernel_rfl) rfl⟩
instance : Ent Tryd.prog 46 := ⟨enters_of Tryd.func46 (by kernel_rfl) rfl⟩
instance : Ent Tryd.prog 47 := ⟨enters_of Tryd.func47 (by kernel_rfl) rfl⟩
instance : Ent Tryd.prog 48 := ⟨enters_of Tryd.func48 (by kernel_rfl) rfl⟩
instance : Ent Tryd.prog 49 := ⟨enters_of Tryd.func49 (by kernel_rfl) rfl⟩
instance : Ent Tryd.prog 50 := ⟨enters_of Tryd.func50 (by kernel_rfl) rfl⟩
instance : Ent Tryd.prog 51 := ⟨enters_of Tryd.func51 (by kernel_rfl) rfl⟩
instance : Ent Tryd.prog 52 := ⟨enters_of Tryd.func52 (by kernel_rfl) rfl⟩
instance : Ent Tryd.prog 53 := ⟨enters_of Tryd.func53 (by kernel_rfl) rfl⟩
instance : Ent Tryd.prog 54 := ⟨enters_of Tryd.func54 (by kernel_rfl) rfl⟩
instance : Ent Tryd.prog 55 := ⟨enters_of Tryd.func55 (by kernel_rfl) rfl⟩
instance : Ent Tryd.prog 56 := ⟨enters_of Tryd.func56 (by kernel_rfl) rfl⟩
instance : Ent Tryd.prog 57 := ⟨enters_of Tryd.func57 (by kernel_rfl) rfl⟩
instance : Ent Tryd.prog 58 := ⟨enters_of Tryd.func58 (by kernel_rfl) rfl⟩
instance : Ent Tryd.prog 59 := ⟨enters_of Tryd.func59 (by kernel_rfl) rfl⟩
instance : Ent Tryd.prog 60 := ⟨enters_of Tryd.func60 (by kernel_rfl) rfl⟩
instance : Ent Tryd.prog 61 := ⟨enters_of Tryd.func61 (by kernel_rfl) rfl⟩
instance : Ent Tryd.prog 62 := ⟨enters_of Tryd.func62 (by kernel_rfl) rfl⟩
instance : Ent Tryd.prog 63 := ⟨enters_of Tryd.func63 (by kernel_rfl) rfl⟩
instance : Ent Tryd.prog 64 := ⟨enters_of Tryd.func64 (by kernel_rfl) rfl⟩
instance : Ent Tryd.prog 65 := ⟨enters_of Tryd.func65 (by kernel_rfl) rfl⟩
instance : Ent Tryd.prog 66 := ⟨enters_of Tryd.func66 (by kernel_rfl) rfl⟩
instance : Ent Tryd.prog 67 := ⟨enters_of Tryd.func67 (by kernel_rfl) rfl⟩
instance : Ent Tryd.prog 68 := ⟨enters_of Tryd.func68 (by kernel_rfl) rfl⟩
instance : Ent Tryd.prog 69 := ⟨enters_of Tryd.func69 (by kernel_rfl) rfl⟩
instance : Ent Tryd.prog 70 := ⟨enters_of Tryd.func70 (by kernel_rfl) rfl⟩
instance : Ent Tryd.prog 71 := ⟨enters_of Tryd.func71 (by kernel_rfl) rfl⟩
instance : Ent Tryd.prog 72 := ⟨enters_of Tryd.func72 (by kernel_rfl) rfl⟩
instance : Ent Tryd.prog 73 := ⟨enters_of Tryd.func73 (by kernel_rfl) rfl⟩
instance : Ent Tryd.prog 74 := ⟨enters_of Tryd.func74 (by kernel_rfl) rfl⟩
instance : Ent Tryd.prog 75 := ⟨enters_of Tryd.func75 (by kernel_rfl) rfl⟩
instance : Ent Tryd.prog 76 := ⟨enters_of Tryd.func76 (by kernel_rfl) rfl⟩
instance : Ent Tryd.prog 77 := ⟨enters_of Tryd.func77 (by kernel_rfl) rfl⟩
instance : Ent Tryd.prog 78 := ⟨enters_of Tryd.func78 (by kernel_rfl) rfl⟩
instance : Ent Tryd.prog 79 := ⟨enters_of Tryd.func79 (by kernel_rfl) rfl⟩
instance : Ent Tryd.prog 80 := ⟨enters_of Tryd.func80 (by kernel_rfl) rfl⟩
instance : Ent Tryd.prog 81 := ⟨enters_of Tryd.func81 (by kernel_rfl) rfl⟩
instance : Ent Tryd.prog 82 := ⟨enters_of Tryd.func82 (by kernel_rfl) rfl⟩
instance : Ent Tryd.prog 83 := ⟨enters_of Tryd.func83 (by kernel_rfl) rfl⟩
instance : Ent Tryd.prog 84 := ⟨enters_of Tryd.func84 (by kernel_rfl) rfl⟩
instance : Ent Tryd.prog 85 := ⟨enters_of Tryd.func85 (by kernel_rfl) rfl⟩
instance : Ent Tryd.prog 86 := ⟨enters_of Tryd.func86 (by kernel_rfl) rfl⟩
instance : Ent Tryd.prog 87 := ⟨enters_of Tryd.func87 (by kernel_rfl) rfl⟩
instance : Ent Tryd.prog 88 := ⟨enters_of Tryd.func88 (by kernel_rfl) rfl⟩
instance : Ent Tryd.prog 89 := ⟨enters_of Tryd.func89 (by kernel_rfl) rfl⟩
instance : Ent Tryd.prog 90 := ⟨enters_of Tryd.func90 (by kernel_rfl) rfl⟩
instance : Ent Tryd.prog 91 := ⟨enters_of Tryd.func91 (by kernel_rfl) rfl⟩
instance : Ent Tryd.prog 92 := ⟨enters_of Tryd.func92 (by kernel_rfl) rfl⟩
instance : Ent Tryd.prog 93 := ⟨enters_of Tryd.func93 (by kernel_rfl) rfl⟩
instance : Ent Tryd.prog 94 := ⟨enters_of Tryd.func94 (by kernel_rfl) rfl⟩
instance : Ent Tryd.prog 95 := ⟨enters_of Tryd.func95 (by kernel_rfl) rfl⟩
instance : Ent Tryd.prog 96 := ⟨enters_of Tryd.func96 (by kernel_rfl) rfl⟩
instance : Ent Tryd.prog 97 := ⟨enters_of Tryd.func97 (by kernel_rfl) rfl⟩
instance : Ent Tryd.prog 98 := ⟨enters_of Tryd.func98 (by kernel_rfl) rfl⟩
instance : Ent Tryd.prog 99 := ⟨enters_of Tryd.func99 (by kernel_rfl) rfl⟩
instance : Ent Tryd.prog 100 := ⟨enters_of Tryd.func100 (by kernel_rfl) rfl⟩
instance : Ent Tryd.prog 102 := ⟨enters_of Tryd.func102 (by kernel_rfl) rfl⟩
instance : Ent Tryd.prog 103 := ⟨enters_of Tryd.func103 (by kernel_rfl) rfl⟩
instance : Ent Tryd.prog 104 := ⟨enters_of Tryd.func104 (by kernel_rfl) rfl⟩
instance : Ent Tryd.prog 105 := ⟨enters_of Tryd.func105 (by kernel_rfl) rfl⟩
instance : Ent Tryd.prog 106 := ⟨enters_of Tryd.func106 (by kernel_rfl) rfl⟩
instance : Ent Tryd.prog 107 := ⟨enters_of Tryd.func107 (by kernel_rfl) rfl⟩
instance : Ent Tryd.prog 108 := ⟨enters_of Tryd.func108 (by kernel_rfl) rfl⟩
instance : Ent Tryd.prog 109 := ⟨enters_of Tryd.func109 (by kernel_rfl) rfl⟩
instance : Ent Tryd.prog 110 := ⟨enters_of Tryd.func110 (by kernel_rfl) rfl⟩
instance : Ent Tryd.prog 111 := ⟨enters_of Tryd.func111 (by kernel_rfl) rfl⟩
instance : Ent Tryd.prog 112 := ⟨enters_of Tryd.func112 (by kernel_rfl) rfl⟩
instance : Ent Tryd.prog 113 := ⟨enters_of Tryd.func113 (by kernel_rfl) rfl⟩
instance : Ent Tryd.prog 114 := ⟨enters_of Tryd.func114 (by kernel_rfl) rfl⟩
instance : Ent Tryd.prog 115 := ⟨enters_of Tryd.func115 (by kernel_rfl) rfl⟩
instance : Ent Tryd.prog 134 := ⟨enters_of Tryd.func134 (by kernel_rfl) rfl⟩
instance : Ent Tryd.prog 135 := ⟨enters_of Tryd.func135 (by kernel_rfl) rfl⟩
instance : Ent Tryd.prog 136 := ⟨enters_of Tryd.func136 (by kernel_rfl) rfl⟩
instance : Ent Tryd.prog 137 := ⟨enters_of Tryd.func137 (by kernel_rfl) rfl⟩
instance : Ent Tryd.prog 138 := ⟨enters_of Tryd.func138 (by kernel_rfl) rfl⟩
instance : Ent Tryd.prog 139 := ⟨enters_of Tryd.func139 (by kernel_rfl) rfl⟩
instance : Ent Tryd.prog 140 := ⟨enters_of Tryd.func140 (by kernel_rfl) rfl⟩
instance : Ent Tryd.prog 141 := ⟨enters_of Tryd.func141 (by kernel_rfl) rfl⟩
end Go.Proofs.YtgfkbeipckbkiaaDoor
/- E7 -/
namespace Go.Proofs.YtgfkbeipckbkiaaDoor
set_option linter.unusedSimpArgs false
set_option linter.unusedVariables false
abbrev W32 := BitVec 32
def rotr (x : W32) (n : Nat) : W32 := (x >>> n) ||| (x <<< (32 - n))
def sg0 (x : W32) : W32 := (rotr x 7 ^^^ rotr x 18) ^^^ (x >>> 3)
def sg1 (x : W32) : W32 := (rotr x 17 ^^^ rotr x 19) ^^^ (x >>> 10)
def bg1 (x : W32) : W32 := (rotr x 6 ^^^ rotr x 11) ^^^ rotr x 25
def bg0 (x : W32) : W32 := (rotr x 2 ^^^ rotr x 13) ^^^ rotr x 22
def ch (e f g : W32) : W32 := (e &&& f) ^^^ (~~~e &&& g)
def maj (a b c : W32) : W32 := ((a &&& b) ^^^ (a &&& c)) ^^^ (b &&& c)
theorem ch_eq (e f g : W32) : g ^^^ (e &&& (f ^^^ g)) = ch e f g := by
  unfold ch
  ext i hi
  simp only [BitVec.getElem_xor, BitVec.getElem_and, BitVec.getElem_not]
  cases e[i] <;> cases f[i] <;> cases g[i] <;> rfl
theorem maj_eq (a b c : W32) : (a &&& b) ||| (c &&& (a ||| b)) = maj a b c := by
  unfold maj
  ext i hi
  simp only [BitVec.getElem_xor, BitVec.getElem_and, BitVec.getElem_or]
  cases a[i] <;> cases b[i] <;> cases c[i] <;> rfl
def xorl (x : W32) (l : List Nat) : W32 := l.foldl (fun s n => s ^^^ rotr x n) 0
theorem xorl2 (x : W32) (a b : Nat) : xorl x [a, b] = rotr x a ^^^ rotr x b := by simp [xorl]
theorem xorl3 (x : W32) (a b c : Nat) : xorl x [a, b, c] = (rotr x a ^^^ rotr x b) ^^^ rotr x c := by simp [xorl]
theorem take_snoc {α : Type} {d : α} {l : List α} {k : Nat} (h : k < l.length) : l.take (k + 1) = l.take k ++ [l.getD k d] := by
  rw [List.take_succ_eq_append_getElem h]
  simp [List.getD, h]
theorem xorl_step (x : W32) {l : List Nat} {k : Nat} (h : k < l.length) : xorl x (l.take (k + 1)) = xorl x (l.take k) ^^^ rotr x (l.getD k 0) := by
  rw [take_snoc h (d := 0)]
  simp [xorl, List.foldl_append]
structure S8 where
  a : W32
  b : W32
  c : W32
  d : W32
  e : W32
  f : W32
  g : W32
  h : W32
def S8.l (s : S8) : List W32 := [s.a, s.b, s.c, s.d, s.e, s.f, s.g, s.h]
def t1 (k w : W32) (s : S8) : W32 := s.h + bg1 s.e + ch s.e s.f s.g + k + w
def t2 (s : S8) : W32 := bg0 s.a + maj s.a s.b s.c
def rnd (k w : W32) (s : S8) : S8 := ⟨t1 k w s + t2 s, s.a, s.b, s.c, s.d + t1 k w s, s.e, s.f, s.g⟩
def S8.add (s t : S8) : S8 := ⟨s.a + t.a, s.b + t.b, s.c + t.c, s.d + t.d, s.e + t.e, s.f + t.f, s.g + t.g, s.h + t.h⟩
def K64 : List W32 := [0x428a2f98, 0x71374491, 0xb5c0fbcf, 0xe9b5dba5, 0x3956c25b, 0x59f111f1, 0x923f82a4, 0xab1c5ed5, 0xd807aa98, 0x12835b01, 0x243185be, 0x550c7dc3, 0x72be5d74, 0x80deb1fe, 0x9bdc06a7, 0xc19bf174, 0xe49b69c1, 0xefbe4786, 0x0fc19dc6, 0x240ca1cc, 0x2de92c6f, 0x4a7484aa, 0x5cb0a9dc, 0x76f988da, 0x983e5152, 0xa831c66d, 0xb00327c8, 0xbf597fc7, 0xc6e00bf3, 0xd5a79147, 0x06ca6351, 0x14292967, 0x27b70a85, 0x2e1b2138, 0x4d2c6dfc, 0x53380d13, 0x650a7354, 0x766a0abb, 0x81c2c92e, 0x92722c85, 0xa2bfe8a1, 0xa81a664b, 0xc24b8b70, 0xc76c51a3, 0xd192e819, 0xd6990624, 0xf40e3585, 0x106aa070, 0x19a4c116, 0x1e376c08, 0x2748774c, 0x34b0bcb5, 0x391c0cb3, 0x4ed8aa4a, 0x5b9cca4f, 0x682e6ff3, 0x748f82ee, 0x78a5636f, 0x84c87814, 0x8cc70208, 0x90befffa, 0xa4506ceb, 0xbef9a3f7, 0xc67178f2]
theorem K64_len : K64.length = 64 := rfl
def H0 : S8 := ⟨0x6a09e667, 0xbb67ae85, 0x3c6ef372, 0xa54ff53a, 0x510e527f, 0x9b05688c, 0x1f83d9ab, 0x5be0cd19⟩
/-- word i of a block -/
def wrd (b : List UInt8) (i : Nat) : W32 := ((((b.getD (4 * i) 0).toBitVec.setWidth 32 <<< 24) ||| ((b.getD (4 * i + 1) 0).toBitVec.setWidth 32 <<< 16)) ||| ((b.getD (4 * i + 2) 0).toBitVec.setWidth 32 <<< 8)) ||| (b.getD (4 * i + 3) 0).toBitVec.setWidth 32
/-- the words of a block, one after the other -/
def nextW (l : List W32) : W32 := ((l.getD (l.length - 16) 0 + sg0 (l.getD (l.length - 15) 0)) + l.getD (l.length - 7) 0) + sg1 (l.getD (l.length - 2) 0)
def sch (b : List UInt8) : Nat → List W32
  | 0 => []
  | n + 1 => sch b n ++ [if n < 16 then wrd b n else nextW (sch b n)]
theorem sch_len (b : List UInt8) : ∀ n, (sch b n).length = n
  | 0 => rfl
  | n + 1 => by rw [sch, List.length_append, sch_len b n]; rfl
theorem sch_get (b : List UInt8) : ∀ (n m i : Nat), i < n → n ≤ m → (sch b m).getD i 0 = (sch b n).getD i 0 := by
  intro n m i hi hm
  induction m with
  | zero => omega
  | succ m ih =>
    by_cases e : n = m + 1
    · rw [e]
    · have hlt : i < (sch b m).length := by rw [sch_len]; omega
      rw [← ih (by omega), sch]
      simp [List.getD, List.getElem?_append_left hlt]
theorem sch_last (b : List UInt8) (n : Nat) : (sch b (n + 1)).getD n 0 = if n < 16 then wrd b n else nextW (sch b n) := by
  have h := sch_len b n
  rw [sch]
  simp [List.getD, List.getElem?_append_right (show (sch b n).length ≤ n by omega), h]
/-- word n of the schedule -/
def wat (b : List UInt8) (n : Nat) : W32 := (sch b 64).getD n 0
theorem wat_lo {b : List UInt8} {n : Nat} (h : n < 16) : wat b n = wrd b n := by
  unfold wat
  rw [sch_get b (n + 1) 64 n (by omega) (by omega), sch_last, if_pos h]
theorem wat_hi {b : List UInt8} {n : Nat} (h : 16 ≤ n) (h' : n < 64) : wat b n = ((wat b (n - 16) + sg0 (wat b (n - 15))) + wat b (n - 7)) + sg1 (wat b (n - 2)) := by
  unfold wat
  rw [sch_get b (n + 1) 64 n (by omega) (by omega), sch_last, if_neg (by omega), nextW, sch_len,
    sch_get b n 64 (n - 16) (by omega) (by omega), sch_get b n 64 (n - 15) (by omega) (by omega), sch_get b n 64 (n - 7) (by omega) (by omega), sch_get b n 64 (n - 2) (by omega) (by omega)]
/-- after so many rounds -/
def rnds (b : List UInt8) (s : S8) : Nat → S8
  | 0 => s
  | n + 1 => rnd (K64.getD n 0) (wat b n) (rnds b s n)
def comp (b : List UInt8) (s : S8) : S8 := s.add (rnds b s 64)
/-- the blocks, one after the other -/
def comps (l : List (List UInt8)) (s : S8) : S8 := l.foldl (fun s b => comp b s) s
theorem comps_snoc (l : List (List UInt8)) (b : List UInt8) (s : S8) : comps (l ++ [b]) s = comp b (comps l s) := by
  unfold comps
  rw [List.foldl_append]
  simp only [List.foldl_cons, List.foldl_nil]
/-- the byte i of 8, the highest first -/
def lenB (n i : Nat) : UInt8 := UInt8.ofBitVec ((BitVec.ofNat 64 (8 * n) >>> (8 * (7 - i))).setWidth 8)
def padN (n : Nat) : Nat := 64 * ((n + 72) / 64)
def pad (b : List UInt8) : List UInt8 := b ++ (128 :: List.replicate (padN b.length - b.length - 9) 0) ++ (List.range 8).map (lenB b.length)
theorem padN_ge (n : Nat) : n + 9 ≤ padN n := by unfold padN; omega
theorem pad_len (b : List UInt8) : (pad b).length = padN b.length := by
  have h := padN_ge b.length
  unfold pad
  generalize padN b.length = p at *
  rw [List.length_append, List.length_append, List.length_cons, List.length_replicate, List.length_map, List.length_range]
  omega
/-- ahead of the length -/
def padZ (b : List UInt8) : List UInt8 := b ++ (128 :: List.replicate (padN b.length - b.length - 1) 0)
def blk64 (l : List UInt8) (i : Nat) : List UInt8 := (l.drop (64 * i)).take 64
def blks (l : List UInt8) : List (List UInt8) := (List.range (l.length / 64)).map (blk64 l)
/-- byte i of a state -/
def outB (s : S8) (i : Nat) : UInt8 := UInt8.ofBitVec ((s.l.getD (i / 4) 0 >>> (24 - 8 * (i % 4))).setWidth 8)
def outL (s : S8) : List UInt8 := (List.range 32).map (outB s)
def sha (b : List UInt8) : B32 := ⟨outL (comps (blks (pad b)) H0), by simp [outL]⟩
/-- the length, written byte by byte from the end -/
def padI (b : List UInt8) : Nat → List UInt8
  | 0 => padZ b
  | i + 1 => (padI b i).set (padN b.length - 1 - i) (lenB b.length (7 - i))
theorem padI_len (b : List UInt8) : ∀ i, (padI b i).length = padN b.length
  | 0 => by
    have h := padN_ge b.length
    unfold padI padZ
    generalize padN b.length = p at *
    simp
    omega
  | i + 1 => by rw [padI, List.length_set, padI_len b i]
theorem padI_get (b : List UInt8) : ∀ i, i ≤ 8 → ∀ j, (padI b i)[j]? = if padN b.length - i ≤ j ∧ j < padN b.length then some (lenB b.length (j + 8 - padN b.length)) else (padZ b)[j]?
  | 0, _, j => by
    unfold padI
    rw [if_neg (by omega)]
  | i + 1, hi, j => by
    have hp := padN_ge b.length
    have hl := padI_len b i
    have ih := padI_get b i (by omega) j
    rw [padI, List.getElem?_set, hl]
    generalize padN b.length = p at *
    by_cases e : p - 1 - i = j
    · rw [if_pos e, if_pos (by omega), if_pos (by omega), show 7 - i = j + 8 - p by omega]
    · rw [if_neg e, ih]
      by_cases h : p - i ≤ j ∧ j < p
      · rw [if_pos h, if_pos (by omega)]
      · rw [if_neg h, if_neg (by omega)]
theorem padI_8 (b : List UInt8) : padI b 8 = pad b := by
  apply List.ext_getElem?
  intro j
  rw [padI_get b 8 (Nat.le_refl _) j]
  have hp := padN_ge b.length
  unfold pad padZ
  generalize padN b.length = p at *
  have hl : (b ++ (128 :: List.replicate (p - b.length - 9) 0)).length = p - 8 := by
    rw [List.length_append, List.length_cons, List.length_replicate]; omega
  by_cases h : p - 8 ≤ j ∧ j < p
  · rw [if_pos h, List.getElem?_append_right (by omega), hl, List.getElem?_map, List.getElem?_range (by omega), Option.map_some]
    congr 2
    omega
  · rw [if_neg h]
    by_cases h2 : j < p - 8
    · rw [List.getElem?_append_left (l₁ := b ++ (128 :: List.replicate (p - b.length - 9) 0)) (by omega)]
      by_cases h3 : j < b.length
      · rw [List.getElem?_append_left h3, List.getElem?_append_left h3]
      · rw [List.getElem?_append_right (by omega), List.getElem?_append_right (by omega)]
        cases hj : j - b.length with
        | zero => rfl
        | succ q =>
          rw [List.getElem?_cons_succ, List.getElem?_cons_succ, List.getElem?_replicate, List.getElem?_replicate, if_pos (by omega), if_pos (by omega)]
    · rw [List.getElem?_eq_none (by rw [List.length_append, List.length_cons, List.length_replicate]; omega), List.getElem?_eq_none (by rw [List.length_append, hl, List.length_map, List.length_range]; omega)]
end Go.Proofs.YtgfkbeipckbkiaaDoor
