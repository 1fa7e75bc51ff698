/- The seat's types and functions, for the new logic; SHA-256 in plain Lean, as the reference reckons it; Rotations; the padding; The reference's padding and schedule; The reference's schedule (joined texts: TN E7 U1 U2 U3) -/
import Derived.Test.YtfjlpndohnianaaDoorZ5
import Derived.Test.YtfjlpndohnianaaDoorRows
import Derived.Shelf.Abstract
set_option linter.all false
/- TN -/
namespace Go.Proofs.YtfjlpndohnianaaDoor
set_option linter.unusedSimpArgs false
set_option linter.unusedVariables false
open Go.RowKit Go.Shelf
instance : TOne Tryd.prog 1 := ⟨⟨_, Tryd.underlying1, rfl⟩, by kernel_rfl⟩
instance : TZ Tryd.prog 1 [.nilFunc] := ⟨⟨.nilFunc, by kernel_rfl, rfl⟩⟩
instance : TOne Tryd.prog 2 := ⟨⟨_, Tryd.underlying2, rfl⟩, by kernel_rfl⟩
instance : TZ Tryd.prog 2 [.int .i64 0] := ⟨⟨.int .i64 0, by kernel_rfl, rfl⟩⟩
instance : TOne Tryd.prog 3 := ⟨⟨_, Tryd.underlying3, rfl⟩, by kernel_rfl⟩
instance : TZ Tryd.prog 3 [.int .i64 0] := ⟨⟨.int .i64 0, by kernel_rfl, rfl⟩⟩
instance : TOne Tryd.prog 4 := ⟨⟨_, Tryd.underlying4, rfl⟩, by kernel_rfl⟩
instance : TZ Tryd.prog 4 [.bool false] := ⟨⟨.bool false, by kernel_rfl, rfl⟩⟩
instance : TOne Tryd.prog 5 := ⟨⟨_, Tryd.underlying5, rfl⟩, by kernel_rfl⟩
instance : TZ Tryd.prog 5 [.int .u8 0] := ⟨⟨.int .u8 0, by kernel_rfl, rfl⟩⟩
instance : TRow Tryd.prog 7 4 := ⟨⟨_, Tryd.underlying7, rfl⟩, by kernel_rfl⟩
instance : TFA Tryd.prog 7 0 0 := ⟨⟨_, _, 0, Tryd.underlying7, rfl, rfl, by kernel_rfl⟩⟩
instance : TFA Tryd.prog 7 1 1 := ⟨⟨_, _, 0, Tryd.underlying7, rfl, rfl, by kernel_rfl⟩⟩
instance : TFA Tryd.prog 7 2 2 := ⟨⟨_, _, 0, Tryd.underlying7, rfl, rfl, by kernel_rfl⟩⟩
instance : TFA Tryd.prog 7 3 3 := ⟨⟨_, _, 0, Tryd.underlying7, rfl, rfl, by kernel_rfl⟩⟩
instance : TZ Tryd.prog 7 ([.int .i64 0, .int .i64 0, .bool false, .int .u8 0]) := ⟨⟨.agg #[.int .i64 0, .int .i64 0, .bool false, .int .u8 0], by kernel_rfl, rfl⟩⟩
def pl7 : Nat → Option (Nat × Nat) := fun i => ([(0, 1), (1, 1), (2, 1), (3, 1)] : List (Nat × Nat)).toArray[i]?
instance : Place pl7 0 0 1 := ⟨rfl⟩
instance : Place pl7 1 1 1 := ⟨rfl⟩
instance : Place pl7 2 2 1 := ⟨rfl⟩
instance : Place pl7 3 3 1 := ⟨rfl⟩
instance : TB Tryd.prog 7 ([.int .i64 0, .int .i64 0, .bool false, .int .u8 0]) pl7 := ⟨fun w ps cells h => run_build_struct (fl := _) Tryd.underlying7 (z := ([.int .i64 0, .int .i64 0, .bool false, .int .u8 0] : List Value).toArray) (n := 4) (by kernel_rfl) (pl := [(0, 1), (1, 1), (2, 1), (3, 1)]) (by kernel_rfl) h⟩
instance : TOne Tryd.prog 9 := ⟨⟨_, Tryd.underlying9, rfl⟩, by kernel_rfl⟩
instance : TZ Tryd.prog 9 [.string ByteArray.empty] := ⟨⟨.string ByteArray.empty, by kernel_rfl, rfl⟩⟩
instance : TOne Tryd.prog 12 := ⟨⟨_, Tryd.underlying12, rfl⟩, by kernel_rfl⟩
instance : TZ Tryd.prog 12 [.int .u64 0] := ⟨⟨.int .u64 0, by kernel_rfl, rfl⟩⟩
instance : TRow Tryd.prog 13 2 := ⟨⟨_, Tryd.underlying13, rfl⟩, by kernel_rfl⟩
instance : TFA Tryd.prog 13 0 0 := ⟨⟨_, _, 0, Tryd.underlying13, rfl, rfl, by kernel_rfl⟩⟩
instance : TFA Tryd.prog 13 1 1 := ⟨⟨_, _, 0, Tryd.underlying13, rfl, rfl, by kernel_rfl⟩⟩
instance : TOne Tryd.prog 15 := ⟨⟨_, Tryd.underlying15, rfl⟩, by kernel_rfl⟩
instance : TZ Tryd.prog 15 [.pointer none] := ⟨⟨.pointer none, by kernel_rfl, rfl⟩⟩
instance : TOne Tryd.prog 16 := ⟨⟨_, Tryd.underlying16, rfl⟩, by kernel_rfl⟩
instance : TZ Tryd.prog 16 [.pointer none] := ⟨⟨.pointer none, by kernel_rfl, rfl⟩⟩
instance : TOne Tryd.prog 17 := ⟨⟨_, Tryd.underlying17, rfl⟩, by kernel_rfl⟩
instance : TZ Tryd.prog 17 [.pointer none] := ⟨⟨.pointer none, by kernel_rfl, rfl⟩⟩
instance : TRow Tryd.prog 18 1 := ⟨⟨_, Tryd.underlying18, rfl⟩, by kernel_rfl⟩
instance : TFA Tryd.prog 18 0 0 := ⟨⟨_, _, 0, Tryd.underlying18, rfl, rfl, by kernel_rfl⟩⟩
instance : TZ Tryd.prog 18 ([.pointer none]) := ⟨⟨.agg #[.pointer none], by kernel_rfl, rfl⟩⟩
def pl18 : Nat → Option (Nat × Nat) := fun i => ([(0, 1)] : List (Nat × Nat)).toArray[i]?
instance : Place pl18 0 0 1 := ⟨rfl⟩
instance : TB Tryd.prog 18 ([.pointer none]) pl18 := ⟨fun w ps cells h => run_build_struct (fl := _) Tryd.underlying18 (z := ([.pointer none] : List Value).toArray) (n := 1) (by kernel_rfl) (pl := [(0, 1)]) (by kernel_rfl) h⟩
instance : TOne Tryd.prog 20 := ⟨⟨_, Tryd.underlying20, rfl⟩, by kernel_rfl⟩
instance : TZ Tryd.prog 20 [.nilIface] := ⟨⟨.nilIface, by kernel_rfl, rfl⟩⟩
instance : TOne Tryd.prog 21 := ⟨⟨_, Tryd.underlying21, rfl⟩, by kernel_rfl⟩
instance : TZ Tryd.prog 21 [.int .i32 0] := ⟨⟨.int .i32 0, by kernel_rfl, rfl⟩⟩
instance : TRow Tryd.prog 22 32 := ⟨⟨_, Tryd.underlying22, rfl⟩, by kernel_rfl⟩
instance : TArr Tryd.prog 22 32 5 1 := ⟨Tryd.underlying22, by kernel_rfl⟩
instance : TZ Tryd.prog 22 zB32.cells := ⟨⟨.agg zB32.cells.toArray, by kernel_rfl, rfl⟩⟩
instance : TB Tryd.prog 22 zB32.cells (plArr 1) := ⟨fun w ps cells h => run_build_array Tryd.underlying22 (z := zB32.cells.toArray) (n := 32) (by kernel_rfl) (s := 1) (by kernel_rfl) h⟩
instance (x y : B32) : TEq Tryd.prog 22 x.cells y.cells (decide (x = y)) := ⟨fun w d => eq_B32 (d + 4) Tryd.underlying22 Tryd.underlying5 (by kernel_rfl) x y, Tryd.eqGuardType22⟩
instance : TRow Tryd.prog 23 32 := ⟨⟨_, Tryd.underlying23, rfl⟩, by kernel_rfl⟩
instance : TArr Tryd.prog 23 32 5 1 := ⟨Tryd.underlying23, by kernel_rfl⟩
instance : TZ Tryd.prog 23 zB32.cells := ⟨⟨.agg zB32.cells.toArray, by kernel_rfl, rfl⟩⟩
instance : TB Tryd.prog 23 zB32.cells (plArr 1) := ⟨fun w ps cells h => run_build_array Tryd.underlying23 (z := zB32.cells.toArray) (n := 32) (by kernel_rfl) (s := 1) (by kernel_rfl) h⟩
instance (x y : B32) : TEq Tryd.prog 23 x.cells y.cells (decide (x = y)) := ⟨fun w d => eq_B32 (d + 4) Tryd.underlying23 Tryd.underlying5 (by kernel_rfl) x y, Tryd.eqGuardType23⟩
instance : TRow Tryd.prog 24 32 := ⟨⟨_, Tryd.underlying24, rfl⟩, by kernel_rfl⟩
instance : TArr Tryd.prog 24 32 5 1 := ⟨Tryd.underlying24, by kernel_rfl⟩
instance : TZ Tryd.prog 24 zB32.cells := ⟨⟨.agg zB32.cells.toArray, by kernel_rfl, rfl⟩⟩
instance : TB Tryd.prog 24 zB32.cells (plArr 1) := ⟨fun w ps cells h => run_build_array Tryd.underlying24 (z := zB32.cells.toArray) (n := 32) (by kernel_rfl) (s := 1) (by kernel_rfl) h⟩
instance (x y : B32) : TEq Tryd.prog 24 x.cells y.cells (decide (x = y)) := ⟨fun w d => eq_B32 (d + 4) Tryd.underlying24 Tryd.underlying5 (by kernel_rfl) x y, Tryd.eqGuardType24⟩
instance : TRow Tryd.prog 25 64 := ⟨⟨_, Tryd.underlying25, rfl⟩, by kernel_rfl⟩
instance : TFA Tryd.prog 25 0 0 := ⟨⟨_, _, 31, Tryd.underlying25, rfl, rfl, by kernel_rfl⟩⟩
instance : TFA Tryd.prog 25 1 32 := ⟨⟨_, _, 31, Tryd.underlying25, rfl, rfl, by kernel_rfl⟩⟩
instance : TRow Tryd.prog 26 64 := ⟨⟨_, Tryd.underlying26, rfl⟩, by kernel_rfl⟩
instance : TFA Tryd.prog 26 0 0 := ⟨⟨_, _, 31, Tryd.underlying26, rfl, rfl, by kernel_rfl⟩⟩
instance : TFA Tryd.prog 26 1 32 := ⟨⟨_, _, 31, Tryd.underlying26, rfl, rfl, by kernel_rfl⟩⟩
instance : TZ Tryd.prog 26 zLeaf.cells := ⟨⟨.agg zLeaf.cells.toArray, by kernel_rfl, rfl⟩⟩
def pl26 : Nat → Option (Nat × Nat) := fun i => ([(0, 32), (32, 32)] : List (Nat × Nat)).toArray[i]?
instance : Place pl26 0 0 32 := ⟨rfl⟩
instance : Place pl26 1 32 32 := ⟨rfl⟩
instance : TB Tryd.prog 26 zLeaf.cells pl26 := ⟨fun w ps cells h => run_build_struct (fl := _) Tryd.underlying26 (z := zLeaf.cells.toArray) (n := 64) (by kernel_rfl) (pl := [(0, 32), (32, 32)]) (by kernel_rfl) h⟩
instance : TOne Tryd.prog 27 := ⟨⟨_, Tryd.underlying27, rfl⟩, by kernel_rfl⟩
instance : TZ Tryd.prog 27 [.slice none 0 0] := ⟨⟨.slice none 0 0, by kernel_rfl, rfl⟩⟩
instance : TS Tryd.prog 27 24 32 32 (.agg zB32.cells.toArray) := ⟨⟨Tryd.underlying27, by kernel_rfl, by simp [Value.cells, B32.cells_length], by decide, by decide⟩⟩
instance : TRow Tryd.prog 28 99 := ⟨⟨_, Tryd.underlying28, rfl⟩, by kernel_rfl⟩
instance : TFA Tryd.prog 28 0 0 := ⟨⟨_, _, 0, Tryd.underlying28, rfl, rfl, by kernel_rfl⟩⟩
instance : TFA Tryd.prog 28 1 1 := ⟨⟨_, _, 0, Tryd.underlying28, rfl, rfl, by kernel_rfl⟩⟩
instance : TFA Tryd.prog 28 2 2 := ⟨⟨_, _, 63, Tryd.underlying28, rfl, rfl, by kernel_rfl⟩⟩
instance : TFA Tryd.prog 28 3 66 := ⟨⟨_, _, 31, Tryd.underlying28, rfl, rfl, by kernel_rfl⟩⟩
instance : TFA Tryd.prog 28 4 98 := ⟨⟨_, _, 0, Tryd.underlying28, rfl, rfl, by kernel_rfl⟩⟩
instance : TRow Tryd.prog 29 99 := ⟨⟨_, Tryd.underlying29, rfl⟩, by kernel_rfl⟩
instance : TFA Tryd.prog 29 0 0 := ⟨⟨_, _, 0, Tryd.underlying29, rfl, rfl, by kernel_rfl⟩⟩
instance : TFA Tryd.prog 29 1 1 := ⟨⟨_, _, 0, Tryd.underlying29, rfl, rfl, by kernel_rfl⟩⟩
instance : TFA Tryd.prog 29 2 2 := ⟨⟨_, _, 63, Tryd.underlying29, rfl, rfl, by kernel_rfl⟩⟩
instance : TFA Tryd.prog 29 3 66 := ⟨⟨_, _, 31, Tryd.underlying29, rfl, rfl, by kernel_rfl⟩⟩
instance : TFA Tryd.prog 29 4 98 := ⟨⟨_, _, 0, Tryd.underlying29, rfl, rfl, by kernel_rfl⟩⟩
instance : TZ Tryd.prog 29 zProof.cells := ⟨⟨.agg zProof.cells.toArray, by kernel_rfl, rfl⟩⟩
def pl29 : Nat → Option (Nat × Nat) := fun i => ([(0, 1), (1, 1), (2, 64), (66, 32), (98, 1)] : List (Nat × Nat)).toArray[i]?
instance : Place pl29 0 0 1 := ⟨rfl⟩
instance : Place pl29 1 1 1 := ⟨rfl⟩
instance : Place pl29 2 2 64 := ⟨rfl⟩
instance : Place pl29 3 66 32 := ⟨rfl⟩
instance : Place pl29 4 98 1 := ⟨rfl⟩
instance : TB Tryd.prog 29 zProof.cells pl29 := ⟨fun w ps cells h => run_build_struct (fl := _) Tryd.underlying29 (z := zProof.cells.toArray) (n := 99) (by kernel_rfl) (pl := [(0, 1), (1, 1), (2, 64), (66, 32), (98, 1)]) (by kernel_rfl) h⟩
instance : TOne Tryd.prog 30 := ⟨⟨_, Tryd.underlying30, rfl⟩, by kernel_rfl⟩
instance : TZ Tryd.prog 30 [.nilFunc] := ⟨⟨.nilFunc, by kernel_rfl, rfl⟩⟩
instance : TOne Tryd.prog 31 := ⟨⟨_, Tryd.underlying31, rfl⟩, by kernel_rfl⟩
instance : TZ Tryd.prog 31 [.nilFunc] := ⟨⟨.nilFunc, by kernel_rfl, rfl⟩⟩
instance : TOne Tryd.prog 32 := ⟨⟨_, Tryd.underlying32, rfl⟩, by kernel_rfl⟩
instance : TZ Tryd.prog 32 [.pointer none] := ⟨⟨.pointer none, by kernel_rfl, rfl⟩⟩
instance : TOne Tryd.prog 33 := ⟨⟨_, Tryd.underlying33, rfl⟩, by kernel_rfl⟩
instance : TZ Tryd.prog 33 [.nilFunc] := ⟨⟨.nilFunc, by kernel_rfl, rfl⟩⟩
instance : TOne Tryd.prog 34 := ⟨⟨_, Tryd.underlying34, rfl⟩, by kernel_rfl⟩
instance : TZ Tryd.prog 34 [.nilFunc] := ⟨⟨.nilFunc, by kernel_rfl, rfl⟩⟩
instance : TOne Tryd.prog 35 := ⟨⟨_, Tryd.underlying35, rfl⟩, by kernel_rfl⟩
instance : TZ Tryd.prog 35 [.nilFunc] := ⟨⟨.nilFunc, by kernel_rfl, rfl⟩⟩
instance : TOne Tryd.prog 36 := ⟨⟨_, Tryd.underlying36, rfl⟩, by kernel_rfl⟩
instance : TZ Tryd.prog 36 [.slice none 0 0] := ⟨⟨.slice none 0 0, by kernel_rfl, rfl⟩⟩
instance : TS Tryd.prog 36 5 1 1 (.int .u8 0) := ⟨⟨Tryd.underlying36, by kernel_rfl, rfl, by decide, by decide⟩⟩
instance : TOne Tryd.prog 37 := ⟨⟨_, Tryd.underlying37, rfl⟩, by kernel_rfl⟩
instance : TZ Tryd.prog 37 [.nilFunc] := ⟨⟨.nilFunc, by kernel_rfl, rfl⟩⟩
instance : TOne Tryd.prog 38 := ⟨⟨_, Tryd.underlying38, rfl⟩, by kernel_rfl⟩
instance : TZ Tryd.prog 38 [.nilFunc] := ⟨⟨.nilFunc, by kernel_rfl, rfl⟩⟩
instance : TOne Tryd.prog 39 := ⟨⟨_, Tryd.underlying39, rfl⟩, by kernel_rfl⟩
instance : TZ Tryd.prog 39 [.nilFunc] := ⟨⟨.nilFunc, by kernel_rfl, rfl⟩⟩
instance : TOne Tryd.prog 40 := ⟨⟨_, Tryd.underlying40, rfl⟩, by kernel_rfl⟩
instance : TZ Tryd.prog 40 [.slice none 0 0] := ⟨⟨.slice none 0 0, by kernel_rfl, rfl⟩⟩
instance : TS Tryd.prog 40 36 1 24 (.slice none 0 0) := ⟨⟨Tryd.underlying40, by kernel_rfl, rfl, by decide, by decide⟩⟩
instance : TOne Tryd.prog 41 := ⟨⟨_, Tryd.underlying41, rfl⟩, by kernel_rfl⟩
instance : TZ Tryd.prog 41 [.int .i64 0] := ⟨⟨.int .i64 0, by kernel_rfl, rfl⟩⟩
instance : TOne Tryd.prog 43 := ⟨⟨_, Tryd.underlying43, rfl⟩, by kernel_rfl⟩
instance : TZ Tryd.prog 43 [.nilFunc] := ⟨⟨.nilFunc, by kernel_rfl, rfl⟩⟩
instance : TOne Tryd.prog 44 := ⟨⟨_, Tryd.underlying44, rfl⟩, by kernel_rfl⟩
instance : TZ Tryd.prog 44 [.nilFunc] := ⟨⟨.nilFunc, by kernel_rfl, rfl⟩⟩
instance : TOne Tryd.prog 45 := ⟨⟨_, Tryd.underlying45, rfl⟩, by kernel_rfl⟩
instance : TZ Tryd.prog 45 [.nilFunc] := ⟨⟨.nilFunc, by kernel_rfl, rfl⟩⟩
instance : TOne Tryd.prog 46 := ⟨⟨_, Tryd.underlying46, rfl⟩, by kernel_rfl⟩
instance : TZ Tryd.prog 46 [.nilFunc] := ⟨⟨.nilFunc, by kernel_rfl, rfl⟩⟩
instance : TOne Tryd.prog 47 := ⟨⟨_, Tryd.underlying47, rfl⟩, by kernel_rfl⟩
instance : TZ Tryd.prog 47 [.nilFunc] := ⟨⟨.nilFunc, by kernel_rfl, rfl⟩⟩
instance : TRow Tryd.prog 48 64 := ⟨⟨_, Tryd.underlying48, rfl⟩, by kernel_rfl⟩
instance : TArr Tryd.prog 48 2 23 32 := ⟨Tryd.underlying48, by kernel_rfl⟩
instance : TOne Tryd.prog 49 := ⟨⟨_, Tryd.underlying49, rfl⟩, by kernel_rfl⟩
instance : TZ Tryd.prog 49 [.nilFunc] := ⟨⟨.nilFunc, by kernel_rfl, rfl⟩⟩
instance : TOne Tryd.prog 51 := ⟨⟨_, Tryd.underlying51, rfl⟩, by kernel_rfl⟩
instance : TZ Tryd.prog 51 [.nilFunc] := ⟨⟨.nilFunc, by kernel_rfl, rfl⟩⟩
instance : TOne Tryd.prog 52 := ⟨⟨_, Tryd.underlying52, rfl⟩, by kernel_rfl⟩
instance : TZ Tryd.prog 52 [.nilFunc] := ⟨⟨.nilFunc, by kernel_rfl, rfl⟩⟩
instance : TOne Tryd.prog 53 := ⟨⟨_, Tryd.underlying53, rfl⟩, by kernel_rfl⟩
instance : TZ Tryd.prog 53 [.nilFunc] := ⟨⟨.nilFunc, by kernel_rfl, rfl⟩⟩
instance : TOne Tryd.prog 55 := ⟨⟨_, Tryd.underlying55, rfl⟩, by kernel_rfl⟩
instance : TZ Tryd.prog 55 [.nilFunc] := ⟨⟨.nilFunc, by kernel_rfl, rfl⟩⟩
instance : TOne Tryd.prog 56 := ⟨⟨_, Tryd.underlying56, rfl⟩, by kernel_rfl⟩
instance : TZ Tryd.prog 56 [.nilFunc] := ⟨⟨.nilFunc, by kernel_rfl, rfl⟩⟩
instance : TOne Tryd.prog 57 := ⟨⟨_, Tryd.underlying57, rfl⟩, by kernel_rfl⟩
instance : TZ Tryd.prog 57 [.nilFunc] := ⟨⟨.nilFunc, by kernel_rfl, rfl⟩⟩
instance : TOne Tryd.prog 59 := ⟨⟨_, Tryd.underlying59, rfl⟩, by kernel_rfl⟩
instance : TZ Tryd.prog 59 [.nilFunc] := ⟨⟨.nilFunc, by kernel_rfl, rfl⟩⟩
instance : TOne Tryd.prog 60 := ⟨⟨_, Tryd.underlying60, rfl⟩, by kernel_rfl⟩
instance : TZ Tryd.prog 60 [.nilFunc] := ⟨⟨.nilFunc, by kernel_rfl, rfl⟩⟩
instance : TOne Tryd.prog 61 := ⟨⟨_, Tryd.underlying61, rfl⟩, by kernel_rfl⟩
instance : TZ Tryd.prog 61 [.nilFunc] := ⟨⟨.nilFunc, by kernel_rfl, rfl⟩⟩
instance : TOne Tryd.prog 62 := ⟨⟨_, Tryd.underlying62, rfl⟩, by kernel_rfl⟩
instance : TZ Tryd.prog 62 [.nilFunc] := ⟨⟨.nilFunc, by kernel_rfl, rfl⟩⟩
instance : TOne Tryd.prog 63 := ⟨⟨_, Tryd.underlying63, rfl⟩, by kernel_rfl⟩
instance : TZ Tryd.prog 63 [.nilFunc] := ⟨⟨.nilFunc, by kernel_rfl, rfl⟩⟩
instance : TOne Tryd.prog 64 := ⟨⟨_, Tryd.underlying64, rfl⟩, by kernel_rfl⟩
instance : TZ Tryd.prog 64 [.nilFunc] := ⟨⟨.nilFunc, by kernel_rfl, rfl⟩⟩
instance : TOne Tryd.prog 65 := ⟨⟨_, Tryd.underlying65, rfl⟩, by kernel_rfl⟩
instance : TZ Tryd.prog 65 [.nilFunc] := ⟨⟨.nilFunc, by kernel_rfl, rfl⟩⟩
instance : TOne Tryd.prog 66 := ⟨⟨_, Tryd.underlying66, rfl⟩, by kernel_rfl⟩
instance : TZ Tryd.prog 66 [.nilFunc] := ⟨⟨.nilFunc, by kernel_rfl, rfl⟩⟩
instance : TOne Tryd.prog 67 := ⟨⟨_, Tryd.underlying67, rfl⟩, by kernel_rfl⟩
instance : TZ Tryd.prog 67 [.nilFunc] := ⟨⟨.nilFunc, by kernel_rfl, rfl⟩⟩
instance : TOne Tryd.prog 68 := ⟨⟨_, Tryd.underlying68, rfl⟩, by kernel_rfl⟩
instance : TZ Tryd.prog 68 [.nilFunc] := ⟨⟨.nilFunc, by kernel_rfl, rfl⟩⟩
instance : TOne Tryd.prog 69 := ⟨⟨_, Tryd.underlying69, rfl⟩, by kernel_rfl⟩
instance : TZ Tryd.prog 69 [.slice none 0 0] := ⟨⟨.slice none 0 0, by kernel_rfl, rfl⟩⟩
instance : TS Tryd.prog 69 3 1 8 (.int .i64 0) := ⟨⟨Tryd.underlying69, by kernel_rfl, rfl, by decide, by decide⟩⟩
instance : TOne Tryd.prog 70 := ⟨⟨_, Tryd.underlying70, rfl⟩, by kernel_rfl⟩
instance : TZ Tryd.prog 70 [.nilFunc] := ⟨⟨.nilFunc, by kernel_rfl, rfl⟩⟩
instance : TOne Tryd.prog 71 := ⟨⟨_, Tryd.underlying71, rfl⟩, by kernel_rfl⟩
instance : TZ Tryd.prog 71 [.nilFunc] := ⟨⟨.nilFunc, by kernel_rfl, rfl⟩⟩
instance : TOne Tryd.prog 72 := ⟨⟨_, Tryd.underlying72, rfl⟩, by kernel_rfl⟩
instance : TZ Tryd.prog 72 [.nilFunc] := ⟨⟨.nilFunc, by kernel_rfl, rfl⟩⟩
instance : TOne Tryd.prog 73 := ⟨⟨_, Tryd.underlying73, rfl⟩, by kernel_rfl⟩
instance : TZ Tryd.prog 73 [.nilFunc] := ⟨⟨.nilFunc, by kernel_rfl, rfl⟩⟩
instance : TOne Tryd.prog 74 := ⟨⟨_, Tryd.underlying74, rfl⟩, by kernel_rfl⟩
instance : TZ Tryd.prog 74 [.pointer none] := ⟨⟨.pointer none, by kernel_rfl, rfl⟩⟩
instance : TRow Tryd.prog 75 2 := ⟨⟨_, Tryd.underlying75, rfl⟩, by kernel_rfl⟩
instance : TFA Tryd.prog 75 0 0 := ⟨⟨_, _, 0, Tryd.underlying75, rfl, rfl, by kernel_rfl⟩⟩
instance : TFA Tryd.prog 75 1 1 := ⟨⟨_, _, 0, Tryd.underlying75, rfl, rfl, by kernel_rfl⟩⟩
instance : TZ Tryd.prog 75 ([.pointer none, .int .i64 0]) := ⟨⟨.agg #[.pointer none, .int .i64 0], by kernel_rfl, rfl⟩⟩
def pl75 : Nat → Option (Nat × Nat) := fun i => ([(0, 1), (1, 1)] : List (Nat × Nat)).toArray[i]?
instance : Place pl75 0 0 1 := ⟨rfl⟩
instance : Place pl75 1 1 1 := ⟨rfl⟩
instance : TB Tryd.prog 75 ([.pointer none, .int .i64 0]) pl75 := ⟨fun w ps cells h => run_build_struct (fl := _) Tryd.underlying75 (z := ([.pointer none, .int .i64 0] : List Value).toArray) (n := 2) (by kernel_rfl) (pl := [(0, 1), (1, 1)]) (by kernel_rfl) h⟩
instance : TRow Tryd.prog 76 2 := ⟨⟨_, Tryd.underlying76, rfl⟩, by kernel_rfl⟩
instance : TFA Tryd.prog 76 0 0 := ⟨⟨_, _, 0, Tryd.underlying76, rfl, rfl, by kernel_rfl⟩⟩
instance : TFA Tryd.prog 76 1 1 := ⟨⟨_, _, 0, Tryd.underlying76, rfl, rfl, by kernel_rfl⟩⟩
instance : TZ Tryd.prog 76 ([.pointer none, .int .i64 0]) := ⟨⟨.agg #[.pointer none, .int .i64 0], by kernel_rfl, rfl⟩⟩
def pl76 : Nat → Option (Nat × Nat) := fun i => ([(0, 1), (1, 1)] : List (Nat × Nat)).toArray[i]?
instance : Place pl76 0 0 1 := ⟨rfl⟩
instance : Place pl76 1 1 1 := ⟨rfl⟩
instance : TB Tryd.prog 76 ([.pointer none, .int .i64 0]) pl76 := ⟨fun w ps cells h => run_build_struct (fl := _) Tryd.underlying76 (z := ([.pointer none, .int .i64 0] : List Value).toArray) (n := 2) (by kernel_rfl) (pl := [(0, 1), (1, 1)]) (by kernel_rfl) h⟩
instance : TRow Tryd.prog 77 1 := ⟨⟨_, Tryd.underlying77, rfl⟩, by kernel_rfl⟩
instance : TFA Tryd.prog 77 0 0 := ⟨⟨_, _, 0, Tryd.underlying77, rfl, rfl, by kernel_rfl⟩⟩
instance : TZ Tryd.prog 77 ([.int .i64 0]) := ⟨⟨.agg #[.int .i64 0], by kernel_rfl, rfl⟩⟩
def pl77 : Nat → Option (Nat × Nat) := fun i => ([(0, 1)] : List (Nat × Nat)).toArray[i]?
instance : Place pl77 0 0 1 := ⟨rfl⟩
instance : TB Tryd.prog 77 ([.int .i64 0]) pl77 := ⟨fun w ps cells h => run_build_struct (fl := _) Tryd.underlying77 (z := ([.int .i64 0] : List Value).toArray) (n := 1) (by kernel_rfl) (pl := [(0, 1)]) (by kernel_rfl) h⟩
instance : TRow Tryd.prog 78 1 := ⟨⟨_, Tryd.underlying78, rfl⟩, by kernel_rfl⟩
instance : TFA Tryd.prog 78 0 0 := ⟨⟨_, _, 0, Tryd.underlying78, rfl, rfl, by kernel_rfl⟩⟩
instance : TZ Tryd.prog 78 ([.int .i64 0]) := ⟨⟨.agg #[.int .i64 0], by kernel_rfl, rfl⟩⟩
def pl78 : Nat → Option (Nat × Nat) := fun i => ([(0, 1)] : List (Nat × Nat)).toArray[i]?
instance : Place pl78 0 0 1 := ⟨rfl⟩
instance : TB Tryd.prog 78 ([.int .i64 0]) pl78 := ⟨fun w ps cells h => run_build_struct (fl := _) Tryd.underlying78 (z := ([.int .i64 0] : List Value).toArray) (n := 1) (by kernel_rfl) (pl := [(0, 1)]) (by kernel_rfl) h⟩
instance : TOne Tryd.prog 79 := ⟨⟨_, Tryd.underlying79, rfl⟩, by kernel_rfl⟩
instance : TZ Tryd.prog 79 [.nilFunc] := ⟨⟨.nilFunc, by kernel_rfl, rfl⟩⟩
instance : TOne Tryd.prog 80 := ⟨⟨_, Tryd.underlying80, rfl⟩, by kernel_rfl⟩
instance : TZ Tryd.prog 80 [.int .u32 0] := ⟨⟨.int .u32 0, by kernel_rfl, rfl⟩⟩
instance : TRow Tryd.prog 81 8 := ⟨⟨_, Tryd.underlying81, rfl⟩, by kernel_rfl⟩
instance : TArr Tryd.prog 81 8 80 1 := ⟨Tryd.underlying81, by kernel_rfl⟩
instance : TZ Tryd.prog 81 ([.int .u32 0, .int .u32 0, .int .u32 0, .int .u32 0, .int .u32 0, .int .u32 0, .int .u32 0, .int .u32 0]) := ⟨⟨.agg #[.int .u32 0, .int .u32 0, .int .u32 0, .int .u32 0, .int .u32 0, .int .u32 0, .int .u32 0, .int .u32 0], by kernel_rfl, rfl⟩⟩
instance : TB Tryd.prog 81 ([.int .u32 0, .int .u32 0, .int .u32 0, .int .u32 0, .int .u32 0, .int .u32 0, .int .u32 0, .int .u32 0]) (plArr 1) := ⟨fun w ps cells h => run_build_array Tryd.underlying81 (z := ([.int .u32 0, .int .u32 0, .int .u32 0, .int .u32 0, .int .u32 0, .int .u32 0, .int .u32 0, .int .u32 0] : List Value).toArray) (n := 8) (by kernel_rfl) (s := 1) (by kernel_rfl) h⟩
instance : TOne Tryd.prog 82 := ⟨⟨_, Tryd.underlying82, rfl⟩, by kernel_rfl⟩
instance : TZ Tryd.prog 82 [.slice none 0 0] := ⟨⟨.slice none 0 0, by kernel_rfl, rfl⟩⟩
instance : TS Tryd.prog 82 80 1 4 (.int .u32 0) := ⟨⟨Tryd.underlying82, by kernel_rfl, rfl, by decide, by decide⟩⟩
instance : TOne Tryd.prog 83 := ⟨⟨_, Tryd.underlying83, rfl⟩, by kernel_rfl⟩
instance : TZ Tryd.prog 83 [.nilFunc] := ⟨⟨.nilFunc, by kernel_rfl, rfl⟩⟩
instance : TOne Tryd.prog 84 := ⟨⟨_, Tryd.underlying84, rfl⟩, by kernel_rfl⟩
instance : TZ Tryd.prog 84 [.nilFunc] := ⟨⟨.nilFunc, by kernel_rfl, rfl⟩⟩
instance : TOne Tryd.prog 85 := ⟨⟨_, Tryd.underlying85, rfl⟩, by kernel_rfl⟩
instance : TZ Tryd.prog 85 [.nilFunc] := ⟨⟨.nilFunc, by kernel_rfl, rfl⟩⟩
instance : TOne Tryd.prog 86 := ⟨⟨_, Tryd.underlying86, rfl⟩, by kernel_rfl⟩
instance : TZ Tryd.prog 86 [.nilFunc] := ⟨⟨.nilFunc, by kernel_rfl, rfl⟩⟩
instance : TOne Tryd.prog 87 := ⟨⟨_, Tryd.underlying87, rfl⟩, by kernel_rfl⟩
instance : TZ Tryd.prog 87 [.int .u64 0] := ⟨⟨.int .u64 0, by kernel_rfl, rfl⟩⟩
instance : TOne Tryd.prog 88 := ⟨⟨_, Tryd.underlying88, rfl⟩, by kernel_rfl⟩
instance : TZ Tryd.prog 88 [.nilFunc] := ⟨⟨.nilFunc, by kernel_rfl, rfl⟩⟩
instance : TOne Tryd.prog 89 := ⟨⟨_, Tryd.underlying89, rfl⟩, by kernel_rfl⟩
instance : TZ Tryd.prog 89 [.nilFunc] := ⟨⟨.nilFunc, by kernel_rfl, rfl⟩⟩
instance : TOne Tryd.prog 90 := ⟨⟨_, Tryd.underlying90, rfl⟩, by kernel_rfl⟩
instance : TZ Tryd.prog 90 [.nilFunc] := ⟨⟨.nilFunc, by kernel_rfl, rfl⟩⟩
instance : TOne Tryd.prog 91 := ⟨⟨_, Tryd.underlying91, rfl⟩, by kernel_rfl⟩
instance : TZ Tryd.prog 91 [.nilFunc] := ⟨⟨.nilFunc, by kernel_rfl, rfl⟩⟩
instance : TRow Tryd.prog 92 32 := ⟨⟨_, Tryd.underlying92, rfl⟩, by kernel_rfl⟩
instance : TArr Tryd.prog 92 32 5 1 := ⟨Tryd.underlying92, by kernel_rfl⟩
instance : TZ Tryd.prog 92 zB32.cells := ⟨⟨.agg zB32.cells.toArray, by kernel_rfl, rfl⟩⟩
instance : TB Tryd.prog 92 zB32.cells (plArr 1) := ⟨fun w ps cells h => run_build_array Tryd.underlying92 (z := zB32.cells.toArray) (n := 32) (by kernel_rfl) (s := 1) (by kernel_rfl) h⟩
instance (x y : B32) : TEq Tryd.prog 92 x.cells y.cells (decide (x = y)) := ⟨fun w d => eq_B32 (d + 4) Tryd.underlying92 Tryd.underlying5 (by kernel_rfl) x y, Tryd.eqGuardType92⟩
instance : TOne Tryd.prog 93 := ⟨⟨_, Tryd.underlying93, rfl⟩, by kernel_rfl⟩
instance : TZ Tryd.prog 93 [.nilFunc] := ⟨⟨.nilFunc, by kernel_rfl, rfl⟩⟩
instance : TOne Tryd.prog 94 := ⟨⟨_, Tryd.underlying94, rfl⟩, by kernel_rfl⟩
instance : TZ Tryd.prog 94 [.nilFunc] := ⟨⟨.nilFunc, by kernel_rfl, rfl⟩⟩
instance : TOne Tryd.prog 95 := ⟨⟨_, Tryd.underlying95, rfl⟩, by kernel_rfl⟩
instance : TZ Tryd.prog 95 [.nilFunc] := ⟨⟨.nilFunc, by kernel_rfl, rfl⟩⟩
instance : TOne Tryd.prog 96 := ⟨⟨_, Tryd.underlying96, rfl⟩, by kernel_rfl⟩
instance : TZ Tryd.prog 96 [.nilFunc] := ⟨⟨.nilFunc, by kernel_rfl, rfl⟩⟩
instance : TOne Tryd.prog 97 := ⟨⟨_, Tryd.underlying97, rfl⟩, by kernel_rfl⟩
instance : TZ Tryd.prog 97 [.nilFunc] := ⟨⟨.nilFunc, by kernel_rfl, rfl⟩⟩
instance : TRow Tryd.prog 98 64 := ⟨⟨_, Tryd.underlying98, rfl⟩, by kernel_rfl⟩
instance : TArr Tryd.prog 98 2 24 32 := ⟨Tryd.underlying98, by kernel_rfl⟩
instance : TOne Tryd.prog 99 := ⟨⟨_, Tryd.underlying99, rfl⟩, by kernel_rfl⟩
instance : TZ Tryd.prog 99 [.int .u64 0] := ⟨⟨.int .u64 0, by kernel_rfl, rfl⟩⟩
instance : TRow Tryd.prog 100 8 := ⟨⟨_, Tryd.underlying100, rfl⟩, by kernel_rfl⟩
instance : TArr Tryd.prog 100 8 80 1 := ⟨Tryd.underlying100, by kernel_rfl⟩
instance : TZ Tryd.prog 100 ([.int .u32 0, .int .u32 0, .int .u32 0, .int .u32 0, .int .u32 0, .int .u32 0, .int .u32 0, .int .u32 0]) := ⟨⟨.agg #[.int .u32 0, .int .u32 0, .int .u32 0, .int .u32 0, .int .u32 0, .int .u32 0, .int .u32 0, .int .u32 0], by kernel_rfl, rfl⟩⟩
instance : TB Tryd.prog 100 ([.int .u32 0, .int .u32 0, .int .u32 0, .int .u32 0, .int .u32 0, .int .u32 0, .int .u32 0, .int .u32 0]) (plArr 1) := ⟨fun w ps cells h => run_build_array Tryd.underlying100 (z := ([.int .u32 0, .int .u32 0, .int .u32 0, .int .u32 0, .int .u32 0, .int .u32 0, .int .u32 0, .int .u32 0] : List Value).toArray) (n := 8) (by kernel_rfl) (s := 1) (by kernel_rfl) h⟩
instance : TOne Tryd.prog 101 := ⟨⟨_, Tryd.underlying101, rfl⟩, by kernel_rfl⟩
instance : TZ Tryd.prog 101 [.nilFunc] := ⟨⟨.nilFunc, by kernel_rfl, rfl⟩⟩
instance : TOne Tryd.prog 102 := ⟨⟨_, Tryd.underlying102, rfl⟩, by kernel_rfl⟩
instance : TZ Tryd.prog 102 [.nilFunc] := ⟨⟨.nilFunc, by kernel_rfl, rfl⟩⟩
instance : TOne Tryd.prog 103 := ⟨⟨_, Tryd.underlying103, rfl⟩, by kernel_rfl⟩
instance : TZ Tryd.prog 103 [.nilFunc] := ⟨⟨.nilFunc, by kernel_rfl, rfl⟩⟩
instance : TOne Tryd.prog 104 := ⟨⟨_, Tryd.underlying104, rfl⟩, by kernel_rfl⟩
instance : TZ Tryd.prog 104 [.nilFunc] := ⟨⟨.nilFunc, by kernel_rfl, rfl⟩⟩
instance : TOne Tryd.prog 105 := ⟨⟨_, Tryd.underlying105, rfl⟩, by kernel_rfl⟩
instance : TZ Tryd.prog 105 [.nilFunc] := ⟨⟨.nilFunc, by kernel_rfl, rfl⟩⟩
instance : TOne Tryd.prog 106 := ⟨⟨_, Tryd.underlying106, rfl⟩, by kernel_rfl⟩
instance : TZ Tryd.prog 106 [.nilFunc] := ⟨⟨.nilFunc, by kernel_rfl, rfl⟩⟩
instance : TOne Tryd.prog 107 := ⟨⟨_, Tryd.underlying107, rfl⟩, by kernel_rfl⟩
instance : TZ Tryd.prog 107 [.nilFunc] := ⟨⟨.nilFunc, by kernel_rfl, rfl⟩⟩
instance : TRow Tryd.prog 108 2 := ⟨⟨_, Tryd.underlying108, rfl⟩, by kernel_rfl⟩
instance : TFA Tryd.prog 108 0 0 := ⟨⟨_, _, 0, Tryd.underlying108, rfl, rfl, by kernel_rfl⟩⟩
instance : TFA Tryd.prog 108 1 1 := ⟨⟨_, _, 0, Tryd.underlying108, rfl, rfl, by kernel_rfl⟩⟩
instance : TZ Tryd.prog 108 ([.nilFunc, .int .i64 0]) := ⟨⟨.agg #[.nilFunc, .int .i64 0], by kernel_rfl, rfl⟩⟩
def pl108 : Nat → Option (Nat × Nat) := fun i => ([(0, 1), (1, 1)] : List (Nat × Nat)).toArray[i]?
instance : Place pl108 0 0 1 := ⟨rfl⟩
instance : Place pl108 1 1 1 := ⟨rfl⟩
instance : TB Tryd.prog 108 ([.nilFunc, .int .i64 0]) pl108 := ⟨fun w ps cells h => run_build_struct (fl := _) Tryd.underlying108 (z := ([.nilFunc, .int .i64 0] : List Value).toArray) (n := 2) (by kernel_rfl) (pl := [(0, 1), (1, 1)]) (by kernel_rfl) h⟩
instance : TRow Tryd.prog 109 2 := ⟨⟨_, Tryd.underlying109, rfl⟩, by kernel_rfl⟩
instance : TFA Tryd.prog 109 0 0 := ⟨⟨_, _, 0, Tryd.underlying109, rfl, rfl, by kernel_rfl⟩⟩
instance : TFA Tryd.prog 109 1 1 := ⟨⟨_, _, 0, Tryd.underlying109, rfl, rfl, by kernel_rfl⟩⟩
instance : TZ Tryd.prog 109 ([.nilFunc, .int .i64 0]) := ⟨⟨.agg #[.nilFunc, .int .i64 0], by kernel_rfl, rfl⟩⟩
def pl109 : Nat → Option (Nat × Nat) := fun i => ([(0, 1), (1, 1)] : List (Nat × Nat)).toArray[i]?
instance : Place pl109 0 0 1 := ⟨rfl⟩
instance : Place pl109 1 1 1 := ⟨rfl⟩
instance : TB Tryd.prog 109 ([.nilFunc, .int .i64 0]) pl109 := ⟨fun w ps cells h => run_build_struct (fl := _) Tryd.underlying109 (z := ([.nilFunc, .int .i64 0] : List Value).toArray) (n := 2) (by kernel_rfl) (pl := [(0, 1), (1, 1)]) (by kernel_rfl) h⟩
instance : TRow Tryd.prog 110 10 := ⟨⟨_, Tryd.underlying110, rfl⟩, by kernel_rfl⟩
instance : TArr Tryd.prog 110 5 109 2 := ⟨Tryd.underlying110, by kernel_rfl⟩
instance : TZ Tryd.prog 110 ([.nilFunc, .int .i64 0, .nilFunc, .int .i64 0, .nilFunc, .int .i64 0, .nilFunc, .int .i64 0, .nilFunc, .int .i64 0]) := ⟨⟨.agg #[.nilFunc, .int .i64 0, .nilFunc, .int .i64 0, .nilFunc, .int .i64 0, .nilFunc, .int .i64 0, .nilFunc, .int .i64 0], by kernel_rfl, rfl⟩⟩
instance : TB Tryd.prog 110 ([.nilFunc, .int .i64 0, .nilFunc, .int .i64 0, .nilFunc, .int .i64 0, .nilFunc, .int .i64 0, .nilFunc, .int .i64 0]) (plArr 2) := ⟨fun w ps cells h => run_build_array Tryd.underlying110 (z := ([.nilFunc, .int .i64 0, .nilFunc, .int .i64 0, .nilFunc, .int .i64 0, .nilFunc, .int .i64 0, .nilFunc, .int .i64 0] : List Value).toArray) (n := 10) (by kernel_rfl) (s := 2) (by kernel_rfl) h⟩
instance : TOne Tryd.prog 111 := ⟨⟨_, Tryd.underlying111, rfl⟩, by kernel_rfl⟩
instance : TZ Tryd.prog 111 [.nilFunc] := ⟨⟨.nilFunc, by kernel_rfl, rfl⟩⟩
instance : TOne Tryd.prog 113 := ⟨⟨_, Tryd.underlying113, rfl⟩, by kernel_rfl⟩
instance : TZ Tryd.prog 113 [.nilFunc] := ⟨⟨.nilFunc, by kernel_rfl, rfl⟩⟩
instance : TOne Tryd.prog 114 := ⟨⟨_, Tryd.underlying114, rfl⟩, by kernel_rfl⟩
instance : TZ Tryd.prog 114 [.pointer none] := ⟨⟨.pointer none, by kernel_rfl, rfl⟩⟩
instance : TOne Tryd.prog 115 := ⟨⟨_, Tryd.underlying115, rfl⟩, by kernel_rfl⟩
instance : TZ Tryd.prog 115 [.nilIface] := ⟨⟨.nilIface, by kernel_rfl, rfl⟩⟩
instance : TOne Tryd.prog 116 := ⟨⟨_, Tryd.underlying116, rfl⟩, by kernel_rfl⟩
instance : TZ Tryd.prog 116 [.nilIface] := ⟨⟨.nilIface, by kernel_rfl, rfl⟩⟩
instance : TRow Tryd.prog 117 33 := ⟨⟨_, Tryd.underlying117, rfl⟩, by kernel_rfl⟩
instance : TFA Tryd.prog 117 0 0 := ⟨⟨_, _, 0, Tryd.underlying117, rfl, rfl, by kernel_rfl⟩⟩
instance : TFA Tryd.prog 117 1 1 := ⟨⟨_, _, 31, Tryd.underlying117, rfl, rfl, by kernel_rfl⟩⟩
instance : TRow Tryd.prog 118 33 := ⟨⟨_, Tryd.underlying118, rfl⟩, by kernel_rfl⟩
instance : TFA Tryd.prog 118 0 0 := ⟨⟨_, _, 0, Tryd.underlying118, rfl, rfl, by kernel_rfl⟩⟩
instance : TFA Tryd.prog 118 1 1 := ⟨⟨_, _, 31, Tryd.underlying118, rfl, rfl, by kernel_rfl⟩⟩
instance : TOne Tryd.prog 119 := ⟨⟨_, Tryd.underlying119, rfl⟩, by kernel_rfl⟩
instance : TZ Tryd.prog 119 [.nilFunc] := ⟨⟨.nilFunc, by kernel_rfl, rfl⟩⟩
instance : TOne Tryd.prog 120 := ⟨⟨_, Tryd.underlying120, rfl⟩, by kernel_rfl⟩
instance : TZ Tryd.prog 120 [.nilFunc] := ⟨⟨.nilFunc, by kernel_rfl, rfl⟩⟩
instance : TOne Tryd.prog 121 := ⟨⟨_, Tryd.underlying121, rfl⟩, by kernel_rfl⟩
instance : TZ Tryd.prog 121 [.pointer none] := ⟨⟨.pointer none, by kernel_rfl, rfl⟩⟩
instance : TRow Tryd.prog 122 16 := ⟨⟨_, Tryd.underlying122, rfl⟩, by kernel_rfl⟩
instance : TArr Tryd.prog 122 16 80 1 := ⟨Tryd.underlying122, by kernel_rfl⟩
instance : TZ Tryd.prog 122 ([.int .u32 0, .int .u32 0, .int .u32 0, .int .u32 0, .int .u32 0, .int .u32 0, .int .u32 0, .int .u32 0, .int .u32 0, .int .u32 0, .int .u32 0, .int .u32 0, .int .u32 0, .int .u32 0, .int .u32 0, .int .u32 0]) := ⟨⟨.agg #[.int .u32 0, .int .u32 0, .int .u32 0, .int .u32 0, .int .u32 0, .int .u32 0, .int .u32 0, .int .u32 0, .int .u32 0, .int .u32 0, .int .u32 0, .int .u32 0, .int .u32 0, .int .u32 0, .int .u32 0, .int .u32 0], by kernel_rfl, rfl⟩⟩
instance : TB Tryd.prog 122 ([.int .u32 0, .int .u32 0, .int .u32 0, .int .u32 0, .int .u32 0, .int .u32 0, .int .u32 0, .int .u32 0, .int .u32 0, .int .u32 0, .int .u32 0, .int .u32 0, .int .u32 0, .int .u32 0, .int .u32 0, .int .u32 0]) (plArr 1) := ⟨fun w ps cells h => run_build_array Tryd.underlying122 (z := ([.int .u32 0, .int .u32 0, .int .u32 0, .int .u32 0, .int .u32 0, .int .u32 0, .int .u32 0, .int .u32 0, .int .u32 0, .int .u32 0, .int .u32 0, .int .u32 0, .int .u32 0, .int .u32 0, .int .u32 0, .int .u32 0] : List Value).toArray) (n := 16) (by kernel_rfl) (s := 1) (by kernel_rfl) h⟩
instance : TRow Tryd.prog 123 64 := ⟨⟨_, Tryd.underlying123, rfl⟩, by kernel_rfl⟩
instance : TArr Tryd.prog 123 64 80 1 := ⟨Tryd.underlying123, by kernel_rfl⟩
instance : TOne Tryd.prog 124 := ⟨⟨_, Tryd.underlying124, rfl⟩, by kernel_rfl⟩
instance : TZ Tryd.prog 124 [.nilFunc] := ⟨⟨.nilFunc, by kernel_rfl, rfl⟩⟩
instance : TOne Tryd.prog 125 := ⟨⟨_, Tryd.underlying125, rfl⟩, by kernel_rfl⟩
instance : TZ Tryd.prog 125 [.nilFunc] := ⟨⟨.nilFunc, by kernel_rfl, rfl⟩⟩
instance : TOne Tryd.prog 126 := ⟨⟨_, Tryd.underlying126, rfl⟩, by kernel_rfl⟩
instance : TZ Tryd.prog 126 [.nilFunc] := ⟨⟨.nilFunc, by kernel_rfl, rfl⟩⟩
instance : TOne Tryd.prog 128 := ⟨⟨_, Tryd.underlying128, rfl⟩, by kernel_rfl⟩
instance : TZ Tryd.prog 128 [.nilFunc] := ⟨⟨.nilFunc, by kernel_rfl, rfl⟩⟩
instance : TOne Tryd.prog 130 := ⟨⟨_, Tryd.underlying130, rfl⟩, by kernel_rfl⟩
instance : TZ Tryd.prog 130 [.nilFunc] := ⟨⟨.nilFunc, by kernel_rfl, rfl⟩⟩
instance : TOne Tryd.prog 131 := ⟨⟨_, Tryd.underlying131, rfl⟩, by kernel_rfl⟩
instance : TZ Tryd.prog 131 [.nilFunc] := ⟨⟨.nilFunc, by kernel_rfl, rfl⟩⟩
instance : TOne Tryd.prog 132 := ⟨⟨_, Tryd.underlying132, rfl⟩, by kernel_rfl⟩
instance : TZ Tryd.prog 132 [.nilFunc] := ⟨⟨.nilFunc, by kernel_rfl, rfl⟩⟩
instance : TOne Tryd.prog 133 := ⟨⟨_, Tryd.underlying133, rfl⟩, by kernel_rfl⟩
instance : TZ Tryd.prog 133 [.nilFunc] := ⟨⟨.nilFunc, by kernel_rfl, rfl⟩⟩
instance : TOne Tryd.prog 134 := ⟨⟨_, Tryd.underlying134, rfl⟩, by kernel_rfl⟩
instance : TZ Tryd.prog 134 [.nilFunc] := ⟨⟨.nilFunc, by kernel_rfl, rfl⟩⟩
instance : TOne Tryd.prog 135 := ⟨⟨_, Tryd.underlying135, rfl⟩, by kernel_rfl⟩
instance : TZ Tryd.prog 135 [.nilFunc] := ⟨⟨.nilFunc, by kernel_rfl, rfl⟩⟩
instance : TRow Tryd.prog 136 4 := ⟨⟨_, Tryd.underlying136, rfl⟩, by kernel_rfl⟩
instance : TFA Tryd.prog 136 0 0 := ⟨⟨_, _, 0, Tryd.underlying136, rfl, rfl, by kernel_rfl⟩⟩
instance : TFA Tryd.prog 136 1 1 := ⟨⟨_, _, 0, Tryd.underlying136, rfl, rfl, by kernel_rfl⟩⟩
instance : TFA Tryd.prog 136 2 2 := ⟨⟨_, _, 0, Tryd.underlying136, rfl, rfl, by kernel_rfl⟩⟩
instance : TFA Tryd.prog 136 3 3 := ⟨⟨_, _, 0, Tryd.underlying136, rfl, rfl, by kernel_rfl⟩⟩
instance : TOne Tryd.prog 143 := ⟨⟨_, Tryd.underlying143, rfl⟩, by kernel_rfl⟩
instance : TZ Tryd.prog 143 [.nilFunc] := ⟨⟨.nilFunc, by kernel_rfl, rfl⟩⟩
instance : TOne Tryd.prog 144 := ⟨⟨_, Tryd.underlying144, rfl⟩, by kernel_rfl⟩
instance : TZ Tryd.prog 144 [.pointer none] := ⟨⟨.pointer none, by kernel_rfl, rfl⟩⟩
instance : TRow Tryd.prog 147 11 := ⟨⟨_, Tryd.underlying147, rfl⟩, by kernel_rfl⟩
instance : TFA Tryd.prog 147 0 0 := ⟨⟨_, _, 0, Tryd.underlying147, rfl, rfl, by kernel_rfl⟩⟩
instance : TFA Tryd.prog 147 1 1 := ⟨⟨_, _, 0, Tryd.underlying147, rfl, rfl, by kernel_rfl⟩⟩
instance : TFA Tryd.prog 147 2 2 := ⟨⟨_, _, 0, Tryd.underlying147, rfl, rfl, by kernel_rfl⟩⟩
instance : TFA Tryd.prog 147 3 3 := ⟨⟨_, _, 0, Tryd.underlying147, rfl, rfl, by kernel_rfl⟩⟩
instance : TFA Tryd.prog 147 4 4 := ⟨⟨_, _, 0, Tryd.underlying147, rfl, rfl, by kernel_rfl⟩⟩
instance : TFA Tryd.prog 147 5 5 := ⟨⟨_, _, 0, Tryd.underlying147, rfl, rfl, by kernel_rfl⟩⟩
instance : TFA Tryd.prog 147 6 6 := ⟨⟨_, _, 0, Tryd.underlying147, rfl, rfl, by kernel_rfl⟩⟩
instance : TFA Tryd.prog 147 7 7 := ⟨⟨_, _, 0, Tryd.underlying147, rfl, rfl, by kernel_rfl⟩⟩
instance : TFA Tryd.prog 147 8 8 := ⟨⟨_, _, 0, Tryd.underlying147, rfl, rfl, by kernel_rfl⟩⟩
instance : TFA Tryd.prog 147 9 9 := ⟨⟨_, _, 0, Tryd.underlying147, rfl, rfl, by kernel_rfl⟩⟩
instance : TFA Tryd.prog 147 10 10 := ⟨⟨_, _, 0, Tryd.underlying147, rfl, rfl, by kernel_rfl⟩⟩
instance : TZ Tryd.prog 147 ([.int .u64 0, .int .u64 0, .int .u32 0, .int .u8 0, .int .u8 0, .int .u8 0, .int .u8 0, .nilFunc, .pointer none, .int .i32 0, .int .i32 0]) := ⟨⟨.agg #[.int .u64 0, .int .u64 0, .int .u32 0, .int .u8 0, .int .u8 0, .int .u8 0, .int .u8 0, .nilFunc, .pointer none, .int .i32 0, .int .i32 0], by kernel_rfl, rfl⟩⟩
def pl147 : Nat → Option (Nat × Nat) := fun i => ([(0, 1), (1, 1), (2, 1), (3, 1), (4, 1), (5, 1), (6, 1), (7, 1), (8, 1), (9, 1), (10, 1)] : List (Nat × Nat)).toArray[i]?
instance : Place pl147 0 0 1 := ⟨rfl⟩
instance : Place pl147 1 1 1 := ⟨rfl⟩
instance : Place pl147 2 2 1 := ⟨rfl⟩
instance : Place pl147 3 3 1 := ⟨rfl⟩
instance : Place pl147 4 4 1 := ⟨rfl⟩
instance : Place pl147 5 5 1 := ⟨rfl⟩
instance : Place pl147 6 6 1 := ⟨rfl⟩
instance : Place pl147 7 7 1 := ⟨rfl⟩
instance : Place pl147 8 8 1 := ⟨rfl⟩
instance : Place pl147 9 9 1 := ⟨rfl⟩
instance : Place pl147 10 10 1 := ⟨rfl⟩
instance : TB Tryd.prog 147 ([.int .u64 0, .int .u64 0, .int .u32 0, .int .u8 0, .int .u8 0, .int .u8 0, .int .u8 0, .nilFunc, .pointer none, .int .i32 0, .int .i32 0]) pl147 := ⟨fun w ps cells h => run_build_struct (fl := _) Tryd.underlying147 (z := ([.int .u64 0, .int .u64 0, .int .u32 0, .int .u8 0, .int .u8 0, .int .u8 0, .int .u8 0, .nilFunc, .pointer none, .int .i32 0, .int .i32 0] : List Value).toArray) (n := 11) (by kernel_rfl) (pl := [(0, 1), (1, 1), (2, 1), (3, 1), (4, 1), (5, 1), (6, 1), (7, 1), (8, 1), (9, 1), (10, 1)]) (by kernel_rfl) h⟩
instance : TOne Tryd.prog 149 := ⟨⟨_, Tryd.underlying149, rfl⟩, by kernel_rfl⟩
instance : TZ Tryd.prog 149 [.pointer none] := ⟨⟨.pointer none, by kernel_rfl, rfl⟩⟩
theorem leafFields' : ∃ f1 f2 : Field, Tryd.prog.underlying 26 = some (.struct #[f1, f2]) ∧ (f1.name == "_") = false ∧ (f2.name == "_") = false ∧ f1.type = 23 ∧ f2.type = 24 ∧ f1.offset = 0 ∧ f2.offset = 32 :=
  ⟨_, _, Tryd.underlying26, by decide, by decide, rfl, rfl, rfl, rfl⟩
theorem eqLeaf' {w : World} (d : Nat) (x y : Leaf) : (Op.equalIn (d + 3) 26 (.agg x.cells.toArray) (.agg y.cells.toArray)).run Tryd.prog w = .ok (decide (x = y)) w := by
  obtain ⟨f1, f2, h0, h1, h2, h3, h4, h5, h6⟩ := leafFields'
  exact eq_Leaf d h0 Tryd.stoodInHeld26 h1 h2 h3 h4 h5 h6 Tryd.underlying23 Tryd.underlying24 Tryd.underlying5 (by kernel_rfl) (by kernel_rfl) (by kernel_rfl) x y
instance (x y : Leaf) : TEq Tryd.prog 26 x.cells y.cells (decide (x = y)) := ⟨fun w d => eqLeaf' (d + 3) x y, Tryd.eqGuardType26⟩
theorem mixed : Tryd.prog.follows .mixedOrders = true := by kernel_rfl
instance : TInt Tryd.prog 2 .i64 := ⟨Tryd.underlying2⟩
instance : TInt Tryd.prog 3 .i64 := ⟨Tryd.underlying3⟩
instance : TInt Tryd.prog 5 .u8 := ⟨Tryd.underlying5⟩
instance : TInt Tryd.prog 12 .u64 := ⟨Tryd.underlying12⟩
instance : TPtr Tryd.prog 15 := ⟨_, Tryd.underlying15⟩
instance : TPtr Tryd.prog 16 := ⟨_, Tryd.underlying16⟩
instance : TPtr Tryd.prog 17 := ⟨_, Tryd.underlying17⟩
instance : TInt Tryd.prog 21 .i32 := ⟨Tryd.underlying21⟩
instance : TPtr Tryd.prog 32 := ⟨_, Tryd.underlying32⟩
instance : TInt Tryd.prog 41 .i64 := ⟨Tryd.underlying41⟩
instance : TPtr Tryd.prog 74 := ⟨_, Tryd.underlying74⟩
instance : TInt Tryd.prog 80 .u32 := ⟨Tryd.underlying80⟩
instance : TInt Tryd.prog 87 .u64 := ⟨Tryd.underlying87⟩
instance : TInt Tryd.prog 99 .u64 := ⟨Tryd.underlying99⟩
instance : TPtr Tryd.prog 114 := ⟨_, Tryd.underlying114⟩
instance : TPtr Tryd.prog 121 := ⟨_, Tryd.underlying121⟩
instance : TPtr Tryd.prog 144 := ⟨_, Tryd.underlying144⟩
instance : Ent Tryd.prog 3 := ⟨enters_of Tryd.func3 (by kernel_rfl) rfl⟩
instance : Ent Tryd.prog 4 := ⟨enters_of Tryd.func4 (by kernel_rfl) rfl⟩
instance : Ent Tryd.prog 5 := ⟨enters_of Tryd.func5 (by kernel_rfl) rfl⟩
instance : Ent Tryd.prog 6 := ⟨enters_of Tryd.func6 (by kernel_rfl) rfl⟩
instance : Ent Tryd.prog 7 := ⟨enters_of Tryd.func7 (by kernel_rfl) rfl⟩
instance : Ent Tryd.prog 8 := ⟨enters_of Tryd.func8 (by kernel_rfl) rfl⟩
instance : Ent Tryd.prog 9 := ⟨enters_of Tryd.func9 (by kernel_rfl) rfl⟩
instance : Ent Tryd.prog 10 := ⟨enters_of Tryd.func10 (by kernel_rfl) rfl⟩
instance : Ent Tryd.prog 11 := ⟨enters_of Tryd.func11 (by kernel_rfl) rfl⟩
instance : Ent Tryd.prog 12 := ⟨enters_of Tryd.func12 (by kernel_rfl) rfl⟩
instance : Ent Tryd.prog 13 := ⟨enters_of Tryd.func13 (by kernel_rfl) rfl⟩
instance : Ent Tryd.prog 14 := ⟨enters_of Tryd.func14 (by kernel_rfl) rfl⟩
instance : Ent Tryd.prog 15 := ⟨enters_of Tryd.func15 (by kernel_rfl) rfl⟩
instance : Ent Tryd.prog 16 := ⟨enters_of Tryd.func16 (by kernel_rfl) rfl⟩
instance : Ent Tryd.prog 17 := ⟨enters_of Tryd.func17 (by kernel_rfl) rfl⟩
instance : Ent Tryd.prog 18 := ⟨enters_of Tryd.func18 (by kernel_rfl) rfl⟩
instance : Ent Tryd.prog 19 := ⟨enters_of Tryd.func19 (by kernel_rfl) rfl⟩
instance : Ent Tryd.prog 20 := ⟨enters_of Tryd.func20 (by kernel_rfl) rfl⟩
instance : Ent Tryd.prog 21 := ⟨enters_of Tryd.func21 (by kernel_rfl) rfl⟩
instance : Ent Tryd.prog 22 := ⟨enters_of Tryd.func22 (by kernel_rfl) rfl⟩
instance : Ent Tryd.prog 23 := ⟨enters_of Tryd.func23 (by kernel_rfl) rfl⟩
instance : Ent Tryd.prog 24 := ⟨enters_of Tryd.func24 (by kernel_rfl) rfl⟩
instance : Ent Tryd.prog 25 := ⟨enters_of Tryd.func25 (by kernel_rfl) rfl⟩
instance : Ent Tryd.prog 26 := ⟨enters_of Tryd.func26 (by kernel_rfl) rfl⟩
instance : Ent Tryd.prog 27 := ⟨enters_of Tryd.func27 (by kernel_rfl) rfl⟩
instance : Ent Tryd.prog 28 := ⟨enters_of Tryd.func28 (by kernel_rfl) rfl⟩
instance : Ent Tryd.prog 29 := ⟨enters_of Tryd.func29 (by kernel_rfl) rfl⟩
instance : Ent Tryd.prog 30 := ⟨enters_of Tryd.func30 (by kernel_rfl) rfl⟩
instance : Ent Tryd.prog 31 := ⟨enters_of Tryd.func31 (by kernel_rfl) rfl⟩
instance : Ent Tryd.prog 32 := ⟨enters_of Tryd.func32 (by kernel_rfl) rfl⟩
instance : Ent Tryd.prog 33 := ⟨enters_of Tryd.func33 (by kernel_rfl) rfl⟩
instance : Ent Tryd.prog 34 := ⟨enters_of Tryd.func34 (by kernel_rfl) rfl⟩
instance : Ent Tryd.prog 35 := ⟨enters_of Tryd.func35 (by kernel_rfl) rfl⟩
instance : Ent Tryd.prog 36 := ⟨enters_of Tryd.func36 (by kernel_rfl) rfl⟩
instance : Ent Tryd.prog 37 := ⟨enters_of Tryd.func37 (by kernel_rfl) rfl⟩
instance : Ent Tryd.prog 38 := ⟨enters_of Tryd.func38 (by kernel_rfl) rfl⟩
instance : Ent Tryd.prog 39 := ⟨enters_of Tryd.func39 (by kernel_rfl) rfl⟩
instance : Ent Tryd.prog 40 := ⟨enters_of Tryd.func40 (by kernel_rfl) rfl⟩
instance : Ent Tryd.prog 41 := ⟨enters_of Tryd.func41 (by kernel_rfl) rfl⟩
instance : Ent Tryd.prog 42 := ⟨enters_of Tryd.func42 (by kernel_rfl) rfl⟩
instance : Ent Tryd.prog 43 := ⟨enters_of Tryd.func43 (by kernel_rfl) rfl⟩
instance : Ent Tryd.prog 44 := ⟨enters_of Tryd.func44 (by kernel_rfl) rfl⟩
instance : Ent Tryd.prog 45 := ⟨enters_of Tryd.func45 (by kernel_rfl) rfl⟩
instance : Ent Tryd.prog 46 := ⟨enters_of Tryd.func46 (by kernel_rfl) rfl⟩
instance : Ent Tryd.prog 47 := ⟨enters_of Tryd.func47 (by kernel_rfl) rfl⟩
instance : Ent Tryd.prog 48 := ⟨enters_of Tryd.func48 (by kernel_rfl) rfl⟩
instance : Ent Tryd.prog 49 := ⟨enters_of Tryd.func49 (by kernel_rfl) rfl⟩
instance : Ent Tryd.prog 50 := ⟨enters_of Tryd.func50 (by kernel_rfl) rfl⟩
instance : Ent Tryd.prog 51 := ⟨enters_of Tryd.func51 (by kernel_rfl) rfl⟩
instance : Ent Tryd.prog 52 := ⟨enters_of Tryd.func52 (by kernel_rfl) rfl⟩
instance : Ent Tryd.prog 53 := ⟨enters_of Tryd.func53 (by kernel_rfl) rfl⟩
instance : Ent Tryd.prog 54 := ⟨enters_of Tryd.func54 (by kernel_rfl) rfl⟩
instance : Ent Tryd.prog 55 := ⟨enters_of Tryd.func55 (by kernel_rfl) rfl⟩
instance : Ent Tryd.prog 56 := ⟨enters_of Tryd.func56 (by kernel_rfl) rfl⟩
instance : Ent Tryd.prog 57 := ⟨enters_of Tryd.func57 (by kernel_rfl) rfl⟩
instance : Ent Tryd.prog 58 := ⟨enters_of Tryd.func58 (by kernel_rfl) rfl⟩
instance : Ent Tryd.prog 59 := ⟨enters_of Tryd.func59 (by kernel_rfl) rfl⟩
instance : Ent Tryd.prog 60 := ⟨enters_of Tryd.func60 (by kernel_rfl) rfl⟩
instance : Ent Tryd.prog 61 := ⟨enters_of Tryd.func61 (by kernel_rfl) rfl⟩
instance : Ent Tryd.prog 62 := ⟨enters_of Tryd.func62 (by kernel_rfl) rfl⟩
instance : Ent Tryd.prog 63 := ⟨enters_of Tryd.func63 (by kernel_rfl) rfl⟩
instance : Ent Tryd.prog 64 := ⟨enters_of Tryd.func64 (by kernel_rfl) rfl⟩
instance : Ent Tryd.prog 65 := ⟨enters_of Tryd.func65 (by kernel_rfl) rfl⟩
instance : Ent Tryd.prog 66 := ⟨enters_of Tryd.func66 (by kernel_rfl) rfl⟩
instance : Ent Tryd.prog 67 := ⟨enters_of Tryd.func67 (by kernel_rfl) rfl⟩
instance : Ent Tryd.prog 68 := ⟨enters_of Tryd.func68 (by kernel_rfl) rfl⟩
instance : Ent Tryd.prog 69 := ⟨enters_of Tryd.func69 (by kernel_rfl) rfl⟩
instance : Ent Tryd.prog 70 := ⟨enters_of Tryd.func70 (by kernel_rfl) rfl⟩
instance : Ent Tryd.prog 71 := ⟨enters_of Tryd.func71 (by kernel_rfl) rfl⟩
instance : Ent Tryd.prog 72 := ⟨enters_of Tryd.func72 (by kernel_rfl) rfl⟩
instance : Ent Tryd.prog 73 := ⟨enters_of Tryd.func73 (by kernel_rfl) rfl⟩
instance : Ent Tryd.prog 74 := ⟨enters_of Tryd.func74 (by kernel_rfl) rfl⟩
instance : Ent Tryd.prog 75 := ⟨enters_of Tryd.func75 (by kernel_rfl) rfl⟩
instance : Ent Tryd.prog 76 := ⟨enters_of Tryd.func76 (by kernel_rfl) rfl⟩
instance : Ent Tryd.prog 77 := ⟨enters_of Tryd.func77 (by kernel_rfl) rfl⟩
instance : Ent Tryd.prog 78 := ⟨enters_of Tryd.func78 (by kernel_rfl) rfl⟩
instance : Ent Tryd.prog 79 := ⟨enters_of Tryd.func79 (by kernel_rfl) rfl⟩
instance : Ent Tryd.prog 80 := ⟨enters_of Tryd.func80 (by kernel_rfl) rfl⟩
instance : Ent Tryd.prog 81 := ⟨enters_of Tryd.func81 (by kernel_rfl) rfl⟩
instance : Ent Tryd.prog 82 := ⟨enters_of Tryd.func82 (by kernel_rfl) rfl⟩
instance : Ent Tryd.prog 83 := ⟨enters_of Tryd.func83 (by kernel_rfl) rfl⟩
instance : Ent Tryd.prog 84 := ⟨enters_of Tryd.func84 (by kernel_rfl) rfl⟩
instance : Ent Tryd.prog 85 := ⟨enters_of Tryd.func85 (by kernel_rfl) rfl⟩
instance : Ent Tryd.prog 86 := ⟨enters_of Tryd.func86 (by kernel_rfl) rfl⟩
instance : Ent Tryd.prog 87 := ⟨enters_of Tryd.func87 (by kernel_rfl) rfl⟩
end Go.Proofs.YtfjlpndohnianaaDoor
/- E7 -/
namespace Go.Proofs.YtfjlpndohnianaaDoor
set_option linter.unusedSimpArgs false
set_option linter.unusedVariables false
abbrev W32 := BitVec 32
def rotr (x : W32) (n : Nat) : W32 := (x >>> n) ||| (x <<< (32 - n))
def sg0 (x : W32) : W32 := (rotr x 7 ^^^ rotr x 18) ^^^ (x >>> 3)
def sg1 (x : W32) : W32 := (rotr x 17 ^^^ rotr x 19) ^^^ (x >>> 10)
def bg1 (x : W32) : W32 := (rotr x 6 ^^^ rotr x 11) ^^^ rotr x 25
def bg0 (x : W32) : W32 := (rotr x 2 ^^^ rotr x 13) ^^^ rotr x 22
def ch (e f g : W32) : W32 := (e &&& f) ^^^ (~~~e &&& g)
def maj (a b c : W32) : W32 := ((a &&& b) ^^^ (a &&& c)) ^^^ (b &&& c)
theorem ch_eq (e f g : W32) : g ^^^ (e &&& (f ^^^ g)) = ch e f g := by
  unfold ch
  ext i hi
  simp only [BitVec.getElem_xor, BitVec.getElem_and, BitVec.getElem_not]
  cases e[i] <;> cases f[i] <;> cases g[i] <;> rfl
theorem maj_eq (a b c : W32) : (a &&& b) ||| (c &&& (a ||| b)) = maj a b c := by
  unfold maj
  ext i hi
  simp only [BitVec.getElem_xor, BitVec.getElem_and, BitVec.getElem_or]
  cases a[i] <;> cases b[i] <;> cases c[i] <;> rfl
def xorl (x : W32) (l : List Nat) : W32 := l.foldl (fun s n => s ^^^ rotr x n) 0
theorem xorl2 (x : W32) (a b : Nat) : xorl x [a, b] = rotr x a ^^^ rotr x b := by simp [xorl]
theorem xorl3 (x : W32) (a b c : Nat) : xorl x [a, b, c] = (rotr x a ^^^ rotr x b) ^^^ rotr x c := by simp [xorl]
theorem take_snoc {α : Type} {d : α} {l : List α} {k : Nat} (h : k < l.length) : l.take (k + 1) = l.take k ++ [l.getD k d] := by
  rw [List.take_succ_eq_append_getElem h]
  simp [List.getD, h]
theorem xorl_step (x : W32) {l : List Nat} {k : Nat} (h : k < l.length) : xorl x (l.take (k + 1)) = xorl x (l.take k) ^^^ rotr x (l.getD k 0) := by
  rw [take_snoc h (d := 0)]
  simp [xorl, List.foldl_append]
structure S8 where
  a : W32
  b : W32
  c : W32
  d : W32
  e : W32
  f : W32
  g : W32
  h : W32
def S8.l (s : S8) : List W32 := [s.a, s.b, s.c, s.d, s.e, s.f, s.g, s.h]
def t1 (k w : W32) (s : S8) : W32 := s.h + bg1 s.e + ch s.e s.f s.g + k + w
def t2 (s : S8) : W32 := bg0 s.a + maj s.a s.b s.c
def rnd (k w : W32) (s : S8) : S8 := ⟨t1 k w s + t2 s, s.a, s.b, s.c, s.d + t1 k w s, s.e, s.f, s.g⟩
def S8.add (s t : S8) : S8 := ⟨s.a + t.a, s.b + t.b, s.c + t.c, s.d + t.d, s.e + t.e, s.f + t.f, s.g + t.g, s.h + t.h⟩
def K64 : List W32 := [0x428a2f98, 0x71374491, 0xb5c0fbcf, 0xe9b5dba5, 0x3956c25b, 0x59f111f1, 0x923f82a4, 0xab1c5ed5, 0xd807aa98, 0x12835b01, 0x243185be, 0x550c7dc3, 0x72be5d74, 0x80deb1fe, 0x9bdc06a7, 0xc19bf174, 0xe49b69c1, 0xefbe4786, 0x0fc19dc6, 0x240ca1cc, 0x2de92c6f, 0x4a7484aa, 0x5cb0a9dc, 0x76f988da, 0x983e5152, 0xa831c66d, 0xb00327c8, 0xbf597fc7, 0xc6e00bf3, 0xd5a79147, 0x06ca6351, 0x14292967, 0x27b70a85, 0x2e1b2138, 0x4d2c6dfc, 0x53380d13, 0x650a7354, 0x766a0abb, 0x81c2c92e, 0x92722c85, 0xa2bfe8a1, 0xa81a664b, 0xc24b8b70, 0xc76c51a3, 0xd192e819, 0xd6990624, 0xf40e3585, 0x106aa070, 0x19a4c116, 0x1e376c08, 0x2748774c, 0x34b0bcb5, 0x391c0cb3, 0x4ed8aa4a, 0x5b9cca4f, 0x682e6ff3, 0x748f82ee, 0x78a5636f, 0x84c87814, 0x8cc70208, 0x90befffa, 0xa4506ceb, 0xbef9a3f7, 0xc67178f2]
theorem K64_len : K64.length = 64 := rfl
def H0 : S8 := ⟨0x6a09e667, 0xbb67ae85, 0x3c6ef372, 0xa54ff53a, 0x510e527f, 0x9b05688c, 0x1f83d9ab, 0x5be0cd19⟩
/-- word i of a block -/
def wrd (b : List UInt8) (i : Nat) : W32 := ((((b.getD (4 * i) 0).toBitVec.setWidth 32 <<< 24) ||| ((b.getD (4 * i + 1) 0).toBitVec.setWidth 32 <<< 16)) ||| ((b.getD (4 * i + 2) 0).toBitVec.setWidth 32 <<< 8)) ||| (b.getD (4 * i + 3) 0).toBitVec.setWidth 32
/-- the words of a block, one after the other -/
def nextW (l : List W32) : W32 := ((l.getD (l.length - 16) 0 + sg0 (l.getD (l.length - 15) 0)) + l.getD (l.length - 7) 0) + sg1 (l.getD (l.length - 2) 0)
def sch (b : List UInt8) : Nat → List W32
  | 0 => []
  | n + 1 => sch b n ++ [if n < 16 then wrd b n else nextW (sch b n)]
theorem sch_len (b : List UInt8) : ∀ n, (sch b n).length = n
  | 0 => rfl
  | n + 1 => by rw [sch, List.length_append, sch_len b n]; rfl
theorem sch_get (b : List UInt8) : ∀ (n m i : Nat), i < n → n ≤ m → (sch b m).getD i 0 = (sch b n).getD i 0 := by
  intro n m i hi hm
  induction m with
  | zero => omega
  | succ m ih =>
    by_cases e : n = m + 1
    · rw [e]
    · have hlt : i < (sch b m).length := by rw [sch_len]; omega
      rw [← ih (by omega), sch]
      simp [List.getD, List.getElem?_append_left hlt]
theorem sch_last (b : List UInt8) (n : Nat) : (sch b (n + 1)).getD n 0 = if n < 16 then wrd b n else nextW (sch b n) := by
  have h := sch_len b n
  rw [sch]
  simp [List.getD, List.getElem?_append_right (show (sch b n).length ≤ n by omega), h]
/-- word n of the schedule -/
def wat (b : List UInt8) (n : Nat) : W32 := (sch b 64).getD n 0
theorem wat_lo {b : List UInt8} {n : Nat} (h : n < 16) : wat b n = wrd b n := by
  unfold wat
  rw [sch_get b (n + 1) 64 n (by omega) (by omega), sch_last, if_pos h]
theorem wat_hi {b : List UInt8} {n : Nat} (h : 16 ≤ n) (h' : n < 64) : wat b n = ((wat b (n - 16) + sg0 (wat b (n - 15))) + wat b (n - 7)) + sg1 (wat b (n - 2)) := by
  unfold wat
  rw [sch_get b (n + 1) 64 n (by omega) (by omega), sch_last, if_neg (by omega), nextW, sch_len,
    sch_get b n 64 (n - 16) (by omega) (by omega), sch_get b n 64 (n - 15) (by omega) (by omega), sch_get b n 64 (n - 7) (by omega) (by omega), sch_get b n 64 (n - 2) (by omega) (by omega)]
/-- after so many rounds -/
def rnds (b : List UInt8) (s : S8) : Nat → S8
  | 0 => s
  | n + 1 => rnd (K64.getD n 0) (wat b n) (rnds b s n)
def comp (b : List UInt8) (s : S8) : S8 := s.add (rnds b s 64)
/-- the blocks, one after the other -/
def comps (l : List (List UInt8)) (s : S8) : S8 := l.foldl (fun s b => comp b s) s
theorem comps_snoc (l : List (List UInt8)) (b : List UInt8) (s : S8) : comps (l ++ [b]) s = comp b (comps l s) := by
  unfold comps
  rw [List.foldl_append]
  simp only [List.foldl_cons, List.foldl_nil]
/-- the byte i of 8, the highest first -/
def lenB (n i : Nat) : UInt8 := UInt8.ofBitVec ((BitVec.ofNat 64 (8 * n) >>> (8 * (7 - i))).setWidth 8)
def padN (n : Nat) : Nat := 64 * ((n + 72) / 64)
def pad (b : List UInt8) : List UInt8 := b ++ (128 :: List.replicate (padN b.length - b.length - 9) 0) ++ (List.range 8).map (lenB b.length)
theorem padN_ge (n : Nat) : n + 9 ≤ padN n := by unfold padN; omega
theorem pad_len (b : List UInt8) : (pad b).length = padN b.length := by
  have h := padN_ge b.length
  unfold pad
  generalize padN b.length = p at *
  rw [List.length_append, List.length_append, List.length_cons, List.length_replicate, List.length_map, List.length_range]
  omega
/-- ahead of the length -/
def padZ (b : List UInt8) : List UInt8 := b ++ (128 :: List.replicate (padN b.length - b.length - 1) 0)
def blk64 (l : List UInt8) (i : Nat) : List UInt8 := (l.drop (64 * i)).take 64
def blks (l : List UInt8) : List (List UInt8) := (List.range (l.length / 64)).map (blk64 l)
/-- byte i of a state -/
def outB (s : S8) (i : Nat) : UInt8 := UInt8.ofBitVec ((s.l.getD (i / 4) 0 >>> (24 - 8 * (i % 4))).setWidth 8)
def outL (s : S8) : List UInt8 := (List.range 32).map (outB s)
def sha (b : List UInt8) : B32 := ⟨outL (comps (blks (pad b)) H0), by simp [outL]⟩
/-- the length, written byte by byte from the end -/
def padI (b : List UInt8) : Nat → List UInt8
  | 0 => padZ b
  | i + 1 => (padI b i).set (padN b.length - 1 - i) (lenB b.length (7 - i))
theorem padI_len (b : List UInt8) : ∀ i, (padI b i).length = padN b.length
  | 0 => by
    have h := padN_ge b.length
    unfold padI padZ
    generalize padN b.length = p at *
    simp
    omega
  | i + 1 => by rw [padI, List.length_set, padI_len b i]
theorem padI_get (b : List UInt8) : ∀ i, i ≤ 8 → ∀ j, (padI b i)[j]? = if padN b.length - i ≤ j ∧ j < padN b.length then some (lenB b.length (j + 8 - padN b.length)) else (padZ b)[j]?
  | 0, _, j => by
    unfold padI
    rw [if_neg (by omega)]
  | i + 1, hi, j => by
    have hp := padN_ge b.length
    have hl := padI_len b i
    have ih := padI_get b i (by omega) j
    rw [padI, List.getElem?_set, hl]
    generalize padN b.length = p at *
    by_cases e : p - 1 - i = j
    · rw [if_pos e, if_pos (by omega), if_pos (by omega), show 7 - i = j + 8 - p by omega]
    · rw [if_neg e, ih]
      by_cases h : p - i ≤ j ∧ j < p
      · rw [if_pos h, if_pos (by omega)]
      · rw [if_neg h, if_neg (by omega)]
theorem padI_8 (b : List UInt8) : padI b 8 = pad b := by
  apply List.ext_getElem?
  intro j
  rw [padI_get b 8 (Nat.le_refl _) j]
  have hp := padN_ge b.length
  unfold pad padZ
  generalize padN b.length = p at *
  have hl : (b ++ (128 :: List.replicate (p - b.length - 9) 0)).length = p - 8 := by
    rw [List.length_append, List.length_cons, List.length_replicate]; omega
  by_cases h : p - 8 ≤ j ∧ j < p
  · rw [if_pos h, List.getElem?_append_right (by omega), hl, List.getElem?_map, List.getElem?_range (by omega), Option.map_some]
    congr 2
    omega
  · rw [if_neg h]
    by_cases h2 : j < p - 8
    · rw [List.getElem?_append_left (l₁ := b ++ (128 :: List.replicate (p - b.length - 9) 0)) (by omega)]
      by_cases h3 : j < b.length
      · rw [List.getElem?_append_left h3, List.getElem?_append_left h3]
      · rw [List.getElem?_append_right (by omega), List.getElem?_append_right (by omega)]
        cases hj : j - b.length with
        | zero => rfl
        | succ q =>
          rw [List.getElem?_cons_succ, List.getElem?_cons_succ, List.getElem?_replicate, List.getElem?_replicate, if_pos (by omega), if_pos (by omega)]
    · rw [List.getElem?_eq_none (by rw [List.length_append, List.length_cons, List.length_replicate]; omega), List.getElem?_eq_none (by rw [List.length_append, hl, List.length_map, List.length_range]; omega)]
end Go.Proofs.YtfjlpndohnianaaDoor
/- U1 -/
namespace Go.Proofs.YtfjlpndohnianaaDoor
set_option linter.unusedSimpArgs false
set_option linter.unusedVariables false
open Go.RowKit
section
variable {P : Program} {n : Nat} {D : List Deferred} {E : Env} {L : List Fa} {T T' : TypeId} {x y : Operand} {k : IntKind} {i j : Int} {m : Nat}
theorem r_subU {p q : Nat} [hk : UK k m] (hx : ev E x = some (.int k i)) (hy : ev E y = some (.int k j)) [ha : NatOf i p] [hb : NatOf j q] (h : q ≤ p ∧ p < 2 ^ m) : Runs0 P n D E L (.binOp .sub T x y T') (.int k ((p - q : Nat) : Int)) := fun c w ka s o ho => by
  obtain rfl := ha.eq
  obtain rfl := hb.eq
  refine run_bin ho (ka.ev hx) (ka.ev hy) (by cases k <;> rfl) ?_
  have e : binOp .sub T (.int k (p : Int)) (.int k (q : Int)) = Op.intArith .sub k p q := by simp [binOp]
  rw [e]
  simp only [Op.intArith, hk.wrap]
  rw [Int.emod_eq_of_lt (by omega) (by have h2 := h.2; have : ((p : Nat) : Int) < ((2 ^ m : Nat) : Int) := by exact_mod_cast h2
                                       push_cast at this; omega)]
  rw [Int.ofNat_sub h.1]
  rfl
end
theorem rot_and (n : Nat) (h : 1 ≤ n ∧ n ≤ 31) : (((BitVec.ofInt 64 (-(n : Int))) &&& BitVec.ofNat 64 31).toNat : Int) = ((32 - n : Nat) : Int) := by
  have key : ∀ k : Fin 32, 1 ≤ k.val → ((BitVec.ofInt 64 (-(k.val : Int))) &&& BitVec.ofNat 64 31).toNat = 32 - k.val := by decide +kernel
  have := key ⟨n, by omega⟩ h.1
  simp only at this
  rw [this]
theorem rot_eq (x : W32) (n : Nat) (h : 1 ≤ n ∧ n ≤ 31) : (x <<< (32 - n)) ||| (x >>> (32 - (32 - n))) = rotr x n := by
  rw [show 32 - (32 - n) = n by omega, BitVec.or_comm]; rfl
theorem Rot_s (x : W32) (n : Nat) (h : 1 ≤ n ∧ n ≤ 31) : Spec Tryd.prog 80 [.int .u32 (x.toNat : Int), .int .i64 (-(n : Int))].toArray [] [] (fun _ : Unit => .int .u32 ((rotr x n).toNat : Int)) (fun _ => []) := by
  refine spec_of Tryd.func80 rfl (n := 17) rfl rfl ?_
  intro W
  refine h_seq ?_
  refine h_reg ?_
  refine h_op (r_assign rfl) ?_
  refine h_nil ?_
  refine q_then ?_
  refine h_seq ?_
  refine h_reg ?_
  refine h_op (r_move rfl) ?_
  refine h_op (r_cI rfl) ?_
  refine h_op (r_int (r_and rfl rfl) (rot_and n h)) ?_
  refine h_op (r_assign rfl) ?_
  refine h_nil ?_
  refine q_then ?_
  refine h_seq ?_
  refine h_reg ?_
  refine h_op (r_move rfl) ?_
  refine h_op (r_move rfl) ?_
  refine h_op (r_shl rfl rfl) ?_
  refine h_op (r_move rfl) ?_
  refine h_op (r_move rfl) ?_
  refine h_op (r_subU rfl rfl ⟨by omega, by omega⟩) ?_
  refine h_op (r_shr rfl rfl) ?_
  refine h_op (r_or rfl rfl) ?_
  refine h_op (r_assign rfl) ?_
  refine h_nil ?_
  refine q_then ?_
  refine h_ret ?_
  exact h_ret1 rfl rfl fun w s => ⟨(), by rw [← rot_eq x n h], s.res (List.Sublist.refl _) (by simp)⟩
theorem turn_s (x : W32) (n : Nat) (h : 1 ≤ n ∧ n ≤ 31) : Spec Tryd.prog 43 [.int .u32 (x.toNat : Int), .int .u64 (n : Int)].toArray [] [] (fun _ : Unit => .int .u32 ((rotr x n).toNat : Int)) (fun _ => []) := by
  refine spec_of Tryd.func43 rfl (n := 13) rfl rfl ?_
  intro W
  refine h_seq ?_
  refine h_reg ?_
  refine h_op (r_assign rfl) ?_
  refine h_nil ?_
  refine q_then ?_
  refine h_seq ?_
  refine h_reg ?_
  refine h_op (r_move rfl) ?_
  refine h_op (r_move rfl) ?_
  refine h_op (r_shr rfl rfl) ?_
  refine h_op (r_move rfl) ?_
  refine h_op (r_move rfl) ?_
  refine h_op (r_subU rfl rfl ⟨by omega, by omega⟩) ?_
  refine h_op (r_shl rfl rfl) ?_
  refine h_op (r_or rfl rfl) ?_
  refine h_op (r_assign rfl) ?_
  refine h_nil ?_
  refine q_then ?_
  refine h_ret ?_
  exact h_ret1 rfl rfl fun w s => ⟨(), rfl, s.res (List.Sublist.refl _) (by simp)⟩
theorem right_s (x : W32) (l : List Nat) (hl : ∀ n ∈ l, 1 ≤ n ∧ n ≤ 31) (b o c : Nat) (hn : l.length ≤ 100) : Spec Tryd.prog 67 [.int .u32 (x.toNat : Int), .slice (some ⟨b, o, none⟩) l.length c].toArray [.rd (some ⟨b, o, none⟩) (ic l)] [] (fun _ : Unit => .int .u32 ((xorl x l).toNat : Int)) (fun _ => []) := by
  refine spec_of Tryd.func67 rfl (n := 22) rfl rfl ?_
  intro W
  refine h_seq ?_
  refine h_reg ?_
  refine h_op (r_assign rfl) ?_
  refine h_nil ?_
  refine q_then ?_
  refine h_seq ?_
  refine h_reg ?_
  refine h_op (r_assign rfl) ?_
  refine h_nil ?_
  refine q_then ?_
  refine h_seq ?_
  refine h_seq ?_
  refine h_reg ?_
  refine h_op (r_move rfl) ?_
  refine h_op (r_len rfl) ?_
  refine h_op (r_move rfl) ?_
  refine h_nil ?_
  refine q_then ?_
  refine h_block ?_
  refine h_loop (fun (k : Nat) => k ≤ l.length) (fun (k : Nat) => [(10, .int .i64 (k : Int)), (9, .int .i64 (l.length : Int)), (8, .slice (some ⟨b, o, none⟩) l.length c), (5, .int .u32 ((xorl x (l.take k)).toNat : Int)), (0, .int .u32 (x.toNat : Int))]) (fun (k : Nat) => [.rd (some ⟨b, o, none⟩) (ic l)]) (fun (k : Nat) => l.length - k) 0 (Nat.zero_le _) ⟨rfl, rfl, rfl, rfl, rfl, trivial⟩ (fun _ s => s) ?_
  intro k hk
  refine h_seq ?_
  refine h_reg ?_
  refine h_op (r_lss rfl rfl) ?_
  refine h_nil ?_
  refine q_then ?_
  refine h_seq ?_
  refine h_cond rfl (fun h => ?_) (fun h => ?_)
  · have hb := hl (l.getD k 0) (by rw [List.getD, List.getElem?_eq_getElem (by omega)]; exact List.getElem_mem _)
    refine h_skip ?_
    refine q_then ?_
    refine h_seq ?_
    refine h_block ?_
    refine h_seq ?_
    refine h_reg ?_
    refine h_op (r_idx rfl rfl) ?_
    refine h_op (r_nth rfl (ic_at (by omega))) ?_
    refine h_op (r_assign rfl) ?_
    refine h_nil ?_
    refine q_then ?_
    refine h_reg ?_
    refine h_op (r_move rfl) ?_
    refine h_op (r_move rfl) ?_
    refine h_op (r_move rfl) ?_
    refine h_op (r_neg rfl) ?_
    refine h_call ((Rot_s x (l.getD k 0) hb).comes) rfl rfl rfl fun _ => ?_
    refine h_op (r_xor rfl rfl) ?_
    refine h_op (r_assign rfl) ?_
    refine h_nil ?_
    refine q_block ?_
    refine q_then ?_
    refine h_reg ?_
    refine h_op (r_add rfl rfl) ?_
    refine h_op (r_move rfl) ?_
    refine h_nil ?_
    exact h_back (k + 1) (by omega) (by omega) ⟨rfl, rfl, rfl, by rw [xorl_step x (by omega)]; rfl, rfl, trivial⟩ (same)
  · refine h_exit ?_
    refine q_thenE ?_
    refine q_thenE ?_
    refine q_blockE ?_
    refine q_then ?_
    refine h_seq ?_
    refine h_reg ?_
    refine h_op (r_move rfl) ?_
    refine h_op (r_assign rfl) ?_
    refine h_nil ?_
    refine q_then ?_
    refine h_ret ?_
    obtain rfl : k = l.length := by omega
    exact h_ret1 rfl rfl fun w s => ⟨(), by rw [List.take_length], s.res (List.nil_sublist _) (by simp)⟩
theorem Blocks_s (m : Nat) (h : m ≤ 1000000000000) : Spec Tryd.prog 69 [.int .i64 (m : Int)].toArray [] [] (fun _ : Unit => .int .i64 (((m + 72) / 64 : Nat) : Int)) (fun _ => []) := by
  refine spec_of Tryd.func69 rfl (n := 13) rfl rfl ?_
  intro W
  refine h_seq ?_
  refine h_reg ?_
  refine h_op (r_assign rfl) ?_
  refine h_nil ?_
  refine q_then ?_
  refine h_seq ?_
  refine h_seq ?_
  refine h_reg ?_
  refine h_op (r_move rfl) ?_
  refine h_op (r_bool (r_lss rfl rfl) (decide_eq_false (by omega))) ?_
  refine h_op (r_move rfl) ?_
  refine h_op (r_move rfl) ?_
  refine h_op (r_bool (r_gtr rfl rfl) (decide_eq_false (by omega))) ?_
  refine h_op (r_pick rfl rfl) ?_
  refine h_nil ?_
  refine q_then ?_
  refine h_condF rfl ?_
  refine h_skip ?_
  refine q_then ?_
  refine h_seq ?_
  refine h_reg ?_
  refine h_op (r_move rfl) ?_
  refine h_op (r_add rfl rfl) ?_
  refine h_op (r_add rfl rfl) ?_
  refine h_op (r_int (r_quo rfl rfl) (show _ = (((m + 72) / 64 : Nat) : Int) by omega)) ?_
  refine h_op (r_assign rfl) ?_
  refine h_nil ?_
  refine q_then ?_
  refine h_ret ?_
  exact h_ret1 rfl rfl fun w s => ⟨(), rfl, s.res (List.Sublist.refl _) (by simp)⟩
theorem padZ_eq (l : List UInt8) : (l ++ (List.replicate (padN l.length) (0 : UInt8)).drop l.length).set l.length (UInt8.ofBitVec 128) = padZ l := by
  have h := padN_ge l.length
  unfold padZ
  generalize padN l.length = p at *
  rw [List.set_append_right _ _ (Nat.le_refl _), Nat.sub_self, List.drop_replicate]
  obtain ⟨q, hq⟩ : ∃ q, p - l.length = q + 1 := ⟨p - l.length - 1, by omega⟩
  rw [hq, List.replicate_succ, List.set_cons_zero]
  rfl
theorem lenB_eq (n i : Nat) (h : i ≤ 7) (hn : n ≤ 1000000000000) : UInt8.ofBitVec (((BitVec.ofNat 64 n * 8) >>> (8 * i)).setWidth 8) = lenB n (7 - i) := by
  unfold lenB
  rw [show 7 - (7 - i) = i by omega, show BitVec.ofNat 64 n * 8 = BitVec.ofNat 64 (8 * n) by rw [Nat.mul_comm, BitVec.ofNat_mul]; rfl]
theorem Pad_s (l : List UInt8) (A : Option Addr) (c : Nat) (hA : A = none → l.length = 0 ∧ c = 0) (hn : l.length ≤ 100000000000) : Spec Tryd.prog 60 [.slice A l.length c].toArray [.rd A (bc l)] [] (fun u : Nat × Nat => .slice (some ⟨u.1, 0, none⟩) (pad l).length u.2) (fun u => [.own (.slice (some ⟨u.1, 0, none⟩) (pad l).length u.2) (pad l).length 5 1 (bc (pad l))]) := by
  rw [← padI_8, padI_len]
  have hp : 64 * ((l.length + 72) / 64) = padN l.length := rfl
  have hp2 := padN_ge l.length
  have hp3 : padN l.length ≤ l.length + 72 := by unfold padN; omega
  have hz := padZ_eq l
  have h8 := padI_len l
  have hst : ∀ i, i < 8 → padI l (i + 1) = (padI l i).set (padN l.length - 1 - i) (lenB l.length (7 - i)) := fun i _ => by rw [padI]
  have h0 : padI l 0 = padZ l := rfl
  generalize padN l.length = p at *
  obtain ⟨q, hq⟩ : ∃ q, q = l ++ List.drop l.length (List.replicate p 0) := ⟨_, rfl⟩
  have hql : q.length = p := by rw [hq, List.length_append, List.length_drop, List.length_replicate]; omega
  rw [← hq] at hz
  refine spec_of Tryd.func60 rfl (n := 39) rfl rfl ?_
  intro W
  refine h_seq ?_
  refine h_reg ?_
  refine h_op (r_assign rfl) ?_
  refine h_nil ?_
  refine q_then ?_
  refine h_seq ?_
  refine h_reg ?_
  refine h_op (r_move rfl) ?_
  refine h_op (r_len rfl) ?_
  refine h_call ((Blocks_s l.length (by omega)).comes) rfl rfl rfl fun _ => ?_
  refine h_op (r_int (r_mul rfl rfl) (show _ = (p : Int) by omega)) ?_
  refine h_opX (x_makeB rfl rfl) fun g10 => ?_
  refine h_op (r_assign rfl) ?_
  refine h_nil ?_
  refine q_then ?_
  refine h_seq ?_
  refine h_reg ?_
  refine h_op (r_move rfl) ?_
  refine h_op (r_move rfl) ?_
  refine h_opX (x_copyB rfl rfl (fun e => (hA e).1) rfl) fun _ => ?_
  refine h_nil ?_
  refine q_then ?_
  refine h_seq ?_
  refine h_reg ?_
  refine h_op (r_move rfl) ?_
  refine h_op (r_move rfl) ?_
  refine h_op (r_len rfl) ?_
  rw [← hq]
  refine h_op (r_idx rfl rfl) ?_
  refine h_opS (s_setBO rfl rfl) ?_
  refine h_nil ?_
  refine q_then ?_
  refine h_seq ?_
  refine h_reg ?_
  refine h_op (r_move rfl) ?_
  refine h_op (r_len rfl) ?_
  refine h_op (r_cNW rfl) ?_
  refine h_op (r_mulW rfl rfl) ?_
  refine h_op (r_assign rfl) ?_
  refine h_nil ?_
  refine q_then ?_
  refine h_seq ?_
  refine h_seq ?_
  refine h_reg ?_
  refine h_op (r_move rfl) ?_
  refine h_nil ?_
  refine q_then ?_
  refine h_block ?_
  rw [hz]
  refine h_loop (fun (i : Nat) => i ≤ 8) (fun (i : Nat) => [(22, .int .i64 (i : Int)), (3, .slice (some ⟨g10, 0, none⟩) p p), (4, .int .u64 ((BitVec.ofNat 64 l.length * 8).toNat : Int))]) (fun (i : Nat) => [.own (.slice (some ⟨g10, 0, none⟩) p p) p 5 1 (bc (padI l i))]) (fun (i : Nat) => 8 - i) 0 (by omega) ⟨rfl, rfl, rfl, trivial⟩ (by rw [h0]; exact same) ?_
  intro i hi
  have hl := h8 i
  refine h_seq ?_
  refine h_reg ?_
  refine h_op (r_lss rfl rfl) ?_
  refine h_nil ?_
  refine q_then ?_
  refine h_seq ?_
  refine h_cond rfl (fun h => ?_) (fun h => ?_)
  · refine h_skip ?_
    refine q_then ?_
    refine h_seq ?_
    refine h_block ?_
    refine h_seq ?_
    refine h_reg ?_
    refine h_op (r_move rfl) ?_
    refine h_op (r_assign rfl) ?_
    refine h_nil ?_
    refine q_then ?_
    refine h_reg ?_
    refine h_op (r_move rfl) ?_
    refine h_op (r_move rfl) ?_
    refine h_op (r_len rfl) ?_
    refine h_op (r_subN rfl rfl) ?_
    refine h_op (r_move rfl) ?_
    refine h_op (r_subN rfl rfl) ?_
    refine h_op (r_move rfl) ?_
    refine h_op (r_move rfl) ?_
    refine h_op (r_mul rfl rfl) ?_
    refine h_op (r_shr rfl rfl) ?_
    refine h_op (r_cW rfl) ?_
    refine h_op (r_idx rfl rfl) ?_
    refine h_opS (s_setBO rfl rfl) ?_
    refine h_nil ?_
    refine q_block ?_
    refine q_then ?_
    rw [lenB_eq l.length i (by omega) (by omega), ← hst i (by omega)]
    refine h_reg ?_
    refine h_op (r_add rfl rfl) ?_
    refine h_op (r_move rfl) ?_
    refine h_nil ?_
    exact h_back (i + 1) (by omega) (by omega) ⟨rfl, rfl, rfl, trivial⟩ (same)
  · refine h_exit ?_
    refine q_thenE ?_
    refine q_thenE ?_
    refine q_blockE ?_
    refine q_then ?_
    refine h_seq ?_
    refine h_reg ?_
    refine h_op (r_move rfl) ?_
    refine h_op (r_assign rfl) ?_
    refine h_nil ?_
    refine q_then ?_
    refine h_ret ?_
    obtain rfl : i = 8 := by omega
    exact h_ret1 rfl rfl fun w s => ⟨(g10, p), rfl, s.res (List.Sublist.refl _) (by simp [Fa.wr])⟩
end Go.Proofs.YtfjlpndohnianaaDoor
/- U2 -/
namespace Go.Proofs.YtfjlpndohnianaaDoor
set_option linter.unusedSimpArgs false
set_option linter.unusedVariables false
open Go.RowKit
def idxd : Nat → List Value → List (Nat × Value)
  | _, [] => []
  | k, v :: l => (k, v) :: idxd (k + 1) l
theorem parts_idxd : ∀ (l : List Value) (k : Nat), (∀ v ∈ l, v.oneCell' = true) → Parts 1 k (idxd k l) l
  | [], k, _ => inferInstanceAs (Parts 1 k [] [])
  | v :: l, k, h => by
    have h1 : v.oneCell' = true := h v (by simp)
    have hv : VCells v [v] := ⟨by cases v <;> first | rfl | simp [Value.oneCell'] at h1⟩
    exact Parts.cons hv (row_one h1) (parts_idxd l (k + 1) fun u hu => h u (by simp [hu]))
theorem wc_one {m : Nat} (k : IntKind) (l : List (BitVec m)) : ∀ v ∈ wc k l, v.oneCell' = true := by
  intro v hv
  obtain ⟨x, _, rfl⟩ := List.mem_map.1 hv
  rfl
instance rowK64 : Row (wc .u32 K64) 64 := ⟨rfl, wc_one _ _⟩
theorem primes_parts : Parts 1 0 (idxd 0 (wc .u32 K64)) (wc .u32 K64) := parts_idxd _ 0 (wc_one _ _)
theorem primes_s : Spec Tryd.prog 40 ([] : List Value).toArray [] [] (fun g : Nat => .slice (some ⟨g, 0, none⟩) 64 64) (fun g => [.own (.slice (some ⟨g, 0, none⟩) 64 64) 64 80 1 (wc .u32 K64)]) := by
  refine spec_of Tryd.func40 rfl (n := 2) rfl rfl ?_
  intro W
  refine h_seq ?_
  refine h_reg ?_
  refine h_op (r_assign rfl) ?_
  refine h_nil ?_
  refine q_then ?_
  refine h_seq ?_
  refine h_reg ?_
  refine h_opX (x_bsl (ps := idxd 0 (wc .u32 K64)) rfl rfl (hf := primes_parts) (ho := rowK64)) fun g1 => ?_
  refine h_op (r_assign rfl) ?_
  refine h_nil ?_
  refine q_then ?_
  refine h_ret ?_
  exact h_ret1 rfl rfl fun w s => ⟨g1, rfl, s.res (List.Sublist.refl _) (by simp [Fa.wr])⟩
def padR (l : List UInt8) (k : Nat) : List UInt8 := (l ++ [128]) ++ List.replicate k 0
theorem padR_step (l : List UInt8) (k : Nat) : padR l k ++ [UInt8.ofBitVec 0] = padR l (k + 1) := by
  unfold padR
  rw [List.replicate_succ', List.append_assoc]
  rfl
def padJ (l : List UInt8) (j : Nat) : List UInt8 := padR l (padN l.length - l.length - 9) ++ (List.range j).map (lenB l.length)
theorem padJ_step (l : List UInt8) (j : Nat) : padJ l j ++ [lenB l.length j] = padJ l (j + 1) := by
  unfold padJ
  rw [List.range_succ, List.map_append, List.append_assoc]
  rfl
theorem padJ_8 (l : List UInt8) : padJ l 8 = pad l := by
  unfold padJ padR pad
  simp only [List.append_assoc, List.cons_append, List.nil_append]
theorem lenB_eq2 (n j : Nat) (h : j ≤ 7) (hn : n ≤ 1000000000000) : UInt8.ofBitVec (((BitVec.ofNat 64 n * 8) >>> (56 - 8 * j)).setWidth 8) = lenB n j := by
  have := lenB_eq n (7 - j) (by omega) hn
  rwa [show 8 * (7 - j) = 56 - 8 * j by omega, show 7 - (7 - j) = j by omega] at this
theorem refPad_s (l : List UInt8) (A : Option Addr) (c : Nat) (hA : A = none → l.length = 0 ∧ c = 0) (hn : l.length ≤ 100000000000) : Spec Tryd.prog 41 [.slice A l.length c].toArray [.rd A (bc l)] [] (fun u : Nat × Nat => .slice (some ⟨u.1, 0, none⟩) (pad l).length u.2) (fun u => [.own (.slice (some ⟨u.1, 0, none⟩) (pad l).length u.2) (pad l).length 5 1 (bc (pad l))]) := by
  rw [pad_len]
  have hp : 64 * ((l.length + 72) / 64) = padN l.length := rfl
  have hp2 := padN_ge l.length
  have hj0 : ∀ k, k = padN l.length - l.length - 9 → padR l k = padJ l 0 := fun k hk => by unfold padJ; rw [hk]; simp
  generalize padN l.length = p at *
  refine spec_of Tryd.func41 rfl (n := 36) rfl rfl ?_
  intro W
  refine h_seq ?_
  refine h_reg ?_
  refine h_op (r_assign rfl) ?_
  refine h_nil ?_
  refine q_then ?_
  refine h_seq ?_
  refine h_reg ?_
  refine h_opX (x_bsl0 (xs := bc [])) fun g6 => ?_
  refine h_op (r_move rfl) ?_
  refine h_opX (x_appAB rfl rfl hA rfl) fun ⟨A8, c8⟩ => ?_
  refine h_op (r_assign rfl) ?_
  refine h_nil ?_
  refine q_then ?_
  refine h_seq ?_
  refine h_reg ?_
  refine h_op (r_move rfl) ?_
  refine h_opX (x_bsl rfl rfl) fun g10 => ?_
  refine h_opX (x_app1B rfl rfl) fun ⟨g11, c11⟩ => ?_
  refine h_op (r_assign rfl) ?_
  refine h_nil ?_
  refine q_then ?_
  refine h_seq ?_
  refine h_block ?_
  rw [show ([] ++ l) ++ [UInt8.ofBitVec 128] = padR l 0 by simp [padR]]
  refine h_loop (fun (s : Nat × Nat × Nat) => l.length + 1 + s.1 ≤ p - 8) (fun (s : Nat × Nat × Nat) => [(3, .slice (some ⟨s.2.1, 0, none⟩) (l.length + 1 + s.1) s.2.2), (0, .slice A l.length c)]) (fun (s : Nat × Nat × Nat) => [.own (.slice (some ⟨s.2.1, 0, none⟩) (l.length + 1 + s.1) s.2.2) (l.length + 1 + s.1) 5 1 (bc (padR l s.1))]) (fun (s : Nat × Nat × Nat) => p - s.1) (0, g11, c11) ((show l.length + 1 + 0 ≤ p - 8 by omega)) ⟨rfl, rfl, trivial⟩ (same) ?_
  rintro ⟨k, g, cp⟩ hk
  simp only at hk
  refine h_seq ?_
  refine h_seq ?_
  refine h_reg ?_
  refine h_op (r_move rfl) ?_
  refine h_op (r_len rfl) ?_
  refine h_op (r_rem rfl rfl) ?_
  refine h_op (r_neq rfl rfl) ?_
  refine h_nil ?_
  refine q_then ?_
  refine h_cond rfl (fun h => ?_) (fun h => ?_)
  · have hlt : l.length + 1 + k < p - 8 := by omega
    refine h_skip ?_
    refine q_then ?_
    refine h_block ?_
    refine h_reg ?_
    refine h_op (r_move rfl) ?_
    refine h_opX (x_bsl rfl rfl) fun g17 => ?_
    refine h_opX (x_app1B rfl rfl) fun ⟨g18, c18⟩ => ?_
    refine h_op (r_assign rfl) ?_
    refine h_nil ?_
    refine q_block ?_
    rw [padR_step]
    exact h_back (k + 1, g18, c18) ((show l.length + 1 + (k + 1) ≤ p - 8 by omega)) ((show p - (k + 1) < p - k by omega)) ⟨rfl, rfl, trivial⟩ (same)
  · have hk2 : k = p - l.length - 9 := by omega
    rw [hj0 k hk2]
    have hN : l.length + 1 + k = p - 8 := by omega
    rw [hN]
    refine h_exit ?_
    refine q_thenE ?_
    refine q_thenE ?_
    refine q_blockE ?_
    refine q_then ?_
    refine h_seq ?_
    refine h_reg ?_
    refine h_op (r_move rfl) ?_
    refine h_op (r_len rfl) ?_
    refine h_op (r_cNW rfl) ?_
    refine h_op (r_mulW rfl rfl) ?_
    refine h_op (r_assign rfl) ?_
    refine h_nil ?_
    refine q_then ?_
    refine h_seq ?_
    refine h_seq ?_
    refine h_reg ?_
    refine h_op (r_assign rfl) ?_
    refine h_nil ?_
    refine q_then ?_
    refine h_block ?_
    refine h_loop (fun (s : Nat × Nat × Nat) => s.1 ≤ 8) (fun (s : Nat × Nat × Nat) => [(3, .slice (some ⟨s.2.1, 0, none⟩) (p - 8 + s.1) s.2.2), (4, .int .u64 ((BitVec.ofNat 64 l.length * 8).toNat : Int)), (5, .int .i64 (56 - 8 * (s.1 : Int)))]) (fun (s : Nat × Nat × Nat) => [.own (.slice (some ⟨s.2.1, 0, none⟩) (p - 8 + s.1) s.2.2) (p - 8 + s.1) 5 1 (bc (padJ l s.1))]) (fun (s : Nat × Nat × Nat) => 8 - s.1) (0, g, cp) ((show 0 ≤ 8 by omega)) ⟨rfl, rfl, rfl, trivial⟩ (same) ?_
    rintro ⟨j, g, cp⟩ hj
    simp only at hj
    refine h_seq ?_
    refine h_seq ?_
    refine h_reg ?_
    refine h_op (r_move rfl) ?_
    refine h_op (r_geq rfl rfl) ?_
    refine h_nil ?_
    refine q_then ?_
    refine h_cond rfl (fun h => ?_) (fun h => ?_)
    · refine h_skip ?_
      refine q_then ?_
      refine h_seq ?_
      refine h_block ?_
      refine h_reg ?_
      refine h_op (r_move rfl) ?_
      refine h_op (r_move rfl) ?_
      refine h_op (r_move rfl) ?_
      refine h_op (r_cP (q := 56 - 8 * j) rfl (by omega) (by omega)) ?_
      refine h_op (r_shr rfl rfl) ?_
      refine h_op (r_cW rfl) ?_
      refine h_opX (x_bsl rfl rfl) fun g33 => ?_
      refine h_opX (x_app1B rfl rfl) fun ⟨g34, c34⟩ => ?_
      refine h_op (r_assign rfl) ?_
      refine h_nil ?_
      refine q_block ?_
      refine q_then ?_
      refine h_reg ?_
      refine h_op (r_move rfl) ?_
      refine h_op (r_sub rfl rfl) ?_
      refine h_op (r_assign rfl) ?_
      refine h_nil ?_
      rw [lenB_eq2 l.length j (by omega) (by omega), padJ_step]
      exact h_back (j + 1, g34, c34) ((show j + 1 ≤ 8 by omega)) ((show 8 - (j + 1) < 8 - j by omega)) ⟨rfl, rfl, aI rfl (by omega), trivial⟩ (same)
    · obtain rfl : j = 8 := by omega
      rw [padJ_8, show p - 8 + 8 = p by omega]
      refine h_exit ?_
      refine q_thenE ?_
      refine q_thenE ?_
      refine q_blockE ?_
      refine q_then ?_
      refine h_seq ?_
      refine h_reg ?_
      refine h_op (r_move rfl) ?_
      refine h_op (r_assign rfl) ?_
      refine h_nil ?_
      refine q_then ?_
      refine h_ret ?_
      exact h_ret1 rfl rfl fun w s => ⟨(g, cp), rfl, s.res (List.Sublist.refl _) (by simp [Fa.wr])⟩
end Go.Proofs.YtfjlpndohnianaaDoor
/- U3 -/
namespace Go.Proofs.YtfjlpndohnianaaDoor
set_option linter.unusedSimpArgs false
set_option linter.unusedVariables false
open Go.RowKit
theorem Sx.ownSome {A : List Fa} {W w : World} {L M : List Fa} {B : Option Addr} {N c e size : Nat} {xs : List Value} (s : Sx A W w L) [hd : TakeO (.slice B N c) L N e size xs M] (h : 0 < N) : ∃ g, B = some ⟨g, 0, none⟩ := by
  have ho : w.ownsRow 0 e size (.slice B N c) N xs := (s.perm hd.perm).ok (.own _ _ _ _ _) (List.mem_cons_self ..)
  rcases ho.2 with ⟨_, rfl⟩ | ⟨g, cap, cur, e1, _⟩
  · omega
  · injection e1 with e1 _ _
    exact ⟨g, e1⟩
theorem sch_lo (l : List UInt8) (k : Nat) (h : k < 16) : sch l (k + 1) = sch l k ++ [wrd l k] := by rw [sch, if_pos h]
theorem sch_hi (l : List UInt8) (k : Nat) (h : 16 ≤ k) : sch l (k + 1) = sch l k ++ [(((sch l k).getD (k - 16) 0 + sg0 ((sch l k).getD (k - 15) 0)) + (sch l k).getD (k - 7) 0) + sg1 ((sch l k).getD (k - 2) 0)] := by
  rw [sch, if_neg (by omega), nextW, sch_len]
theorem schedule_s (l : List UInt8) (b o c : Nat) (hl : l.length = 64) : Spec Tryd.prog 42 [.slice (some ⟨b, o, none⟩) 64 c].toArray [.rd (some ⟨b, o, none⟩) (bc l)] [] (fun u : Nat × Nat => .slice (some ⟨u.1, 0, none⟩) 64 u.2) (fun u => [.own (.slice (some ⟨u.1, 0, none⟩) 64 u.2) 64 80 1 (wc .u32 (sch l 64))]) := by
  refine spec_of Tryd.func42 rfl (n := 95) rfl rfl ?_
  intro W
  refine h_seq ?_
  refine h_reg ?_
  refine h_op (r_assign rfl) ?_
  refine h_nil ?_
  refine q_then ?_
  refine h_seq ?_
  refine h_reg ?_
  refine h_op (r_assign rfl) ?_
  refine h_nil ?_
  refine q_then ?_
  refine h_seq ?_
  refine h_seq ?_
  refine h_reg ?_
  refine h_op (r_assign rfl) ?_
  refine h_nil ?_
  refine q_then ?_
  refine h_block ?_
  refine h_nil_own 80 1 (xs := wc .u32 (sch l 0)) rfl ?_
  refine h_loop (fun (s : Nat × Option Addr × Nat) => s.1 ≤ 16) (fun (s : Nat × Option Addr × Nat) => [(4, .int .i64 (s.1 : Int)), (3, .slice s.2.1 s.1 s.2.2), (0, .slice (some ⟨b, o, none⟩) 64 c)]) (fun (s : Nat × Option Addr × Nat) => [.own (.slice s.2.1 s.1 s.2.2) s.1 80 1 (wc .u32 (sch l s.1)), .rd (some ⟨b, o, none⟩) (bc l)]) (fun (s : Nat × Option Addr × Nat) => 16 - s.1) (0, none, 0) ((show 0 ≤ 16 by omega)) ⟨rfl, rfl, rfl, trivial⟩ (same) ?_
  rintro ⟨k, B, cp⟩ hk
  dsimp only at hk ⊢
  refine h_seq ?_
  refine h_seq ?_
  refine h_reg ?_
  refine h_op (r_move rfl) ?_
  refine h_op (r_lss rfl rfl) ?_
  refine h_nil ?_
  refine q_then ?_
  refine h_cond rfl (fun h => ?_) (fun h => ?_)
  · have hst := sch_lo l k (by omega)
    unfold wrd at hst
    refine h_skip ?_
    refine q_then ?_
    refine h_seq ?_
    refine h_block ?_
    refine ha_start [.rd (some ⟨b, o, none⟩) (bc l)] [] mixed (same) ?_
    refine ha_takeP 0 rfl (r_move rfl) ?_
    refine ha_takeP 1 rfl (r_move rfl) ?_
    refine ha_takeP 2 rfl (r_move rfl) ?_
    refine ha_takeP 3 rfl (r_mul rfl rfl) ?_
    refine ha_takeP 4 rfl (r_idx rfl rfl) ?_
    refine ha_take 5 rfl (r_nth rfl (bc_at' (by omega))) ?_
    refine ha_takeP 6 rfl (r_cW rfl) ?_
    refine ha_takeP 7 rfl (r_shl rfl rfl) ?_
    refine ha_takeP 8 rfl (r_move rfl) ?_
    refine ha_takeP 9 rfl (r_move rfl) ?_
    refine ha_takeP 10 rfl (r_mul rfl rfl) ?_
    refine ha_takeP 11 rfl (r_add rfl rfl) ?_
    refine ha_takeP 12 rfl (r_idx rfl rfl) ?_
    refine ha_take 13 rfl (r_nth rfl (bc_at' (by omega))) ?_
    refine ha_takeP 14 rfl (r_cW rfl) ?_
    refine ha_takeP 15 rfl (r_shl rfl rfl) ?_
    refine ha_takeP 16 rfl (r_or rfl rfl) ?_
    refine ha_takeP 17 rfl (r_move rfl) ?_
    refine ha_takeP 18 rfl (r_move rfl) ?_
    refine ha_takeP 19 rfl (r_mul rfl rfl) ?_
    refine ha_takeP 20 rfl (r_add rfl rfl) ?_
    refine ha_takeP 21 rfl (r_idx rfl rfl) ?_
    refine ha_take 22 rfl (r_nth rfl (bc_at' (by omega))) ?_
    refine ha_takeP 23 rfl (r_cW rfl) ?_
    refine ha_takeP 24 rfl (r_shl rfl rfl) ?_
    refine ha_takeP 25 rfl (r_or rfl rfl) ?_
    refine ha_takeP 26 rfl (r_move rfl) ?_
    refine ha_takeP 27 rfl (r_move rfl) ?_
    refine ha_takeP 28 rfl (r_mul rfl rfl) ?_
    refine ha_takeP 29 rfl (r_add rfl rfl) ?_
    refine ha_takeP 30 rfl (r_idx rfl rfl) ?_
    refine ha_take 31 rfl (r_nth rfl (bc_at' (by omega))) ?_
    refine ha_takeP 32 rfl (r_cW rfl) ?_
    refine ha_takeP 33 rfl (r_or rfl rfl) ?_
    refine ha_one 34 ?_
    refine ho_X 34 rfl (rk (x_bsl rfl rfl)) (fun _ => same) fun g46 => ?_
    refine ha_one 35 ?_
    refine ho_X 35 rfl (rk (x_app1W rfl rfl)) (fun _ => same) fun ⟨g47, c47⟩ => ?_
    refine ha_takeP 36 rfl (r_assign rfl) ?_
    refine ha_done (by kernel_rfl) ?_
    refine q_block ?_
    refine q_then ?_
    rw [← hst]
    refine h_reg ?_
    refine h_op (r_move rfl) ?_
    refine h_op (r_add rfl rfl) ?_
    refine h_op (r_assign rfl) ?_
    refine h_nil ?_
    exact h_back (k + 1, some ⟨g47, 0, none⟩, c47) ((show k + 1 ≤ 16 by omega)) ((show 16 - (k + 1) < 16 - k by omega)) ⟨rfl, rfl, rfl, trivial⟩ (same)
  · obtain rfl : k = 16 := by omega
    refine h_pure (φ := ∃ g, B = some ⟨g, 0, none⟩) (fun w s => s.ownSome (N := 16) (c := cp) (by decide)) ?_
    rintro ⟨g, rfl⟩
    refine h_exit ?_
    refine q_thenE ?_
    refine q_thenE ?_
    refine q_blockE ?_
    refine q_then ?_
    refine h_seq ?_
    refine h_seq ?_
    refine h_reg ?_
    refine h_op (r_assign rfl) ?_
    refine h_nil ?_
    refine q_then ?_
    refine h_block ?_
    refine h_loop (fun (s : Nat × Nat × Nat) => 16 ≤ s.1 ∧ s.1 ≤ 64) (fun (s : Nat × Nat × Nat) => [(5, .int .i64 (s.1 : Int)), (3, .slice (some ⟨s.2.1, 0, none⟩) s.1 s.2.2)]) (fun (s : Nat × Nat × Nat) => [.own (.slice (some ⟨s.2.1, 0, none⟩) s.1 s.2.2) s.1 80 1 (wc .u32 (sch l s.1))]) (fun (s : Nat × Nat × Nat) => 64 - s.1) (16, g, cp) ((show 16 ≤ 16 ∧ 16 ≤ 64 by omega)) ⟨rfl, rfl, trivial⟩ (same) ?_
    rintro ⟨k, g, cp⟩ hk
    dsimp only at hk ⊢
    refine h_seq ?_
    refine h_seq ?_
    refine h_reg ?_
    refine h_op (r_move rfl) ?_
    refine h_op (r_lss rfl rfl) ?_
    refine h_nil ?_
    refine q_then ?_
    refine h_cond rfl (fun h => ?_) (fun h => ?_)
    · have hst := sch_hi l k (by omega)
      unfold sg0 sg1 at hst
      have hsl := sch_len l k
      refine h_skip ?_
      refine q_then ?_
      refine h_seq ?_
      refine h_block ?_
      refine h_seq ?_
      refine h_reg ?_
      refine h_op (r_move rfl) ?_
      refine h_op (r_move rfl) ?_
      refine h_op (r_subN rfl rfl) ?_
      refine h_op (r_idx rfl rfl) ?_
      refine h_op (r_nth rfl (wc_at (by omega))) ?_
      refine h_op (r_assign rfl) ?_
      refine h_nil ?_
      refine q_then ?_
      refine h_seq ?_
      refine h_reg ?_
      refine h_op (r_move rfl) ?_
      refine h_op (r_move rfl) ?_
      refine h_op (r_subN rfl rfl) ?_
      refine h_op (r_idx rfl rfl) ?_
      refine h_op (r_nth rfl (wc_at (by omega))) ?_
      refine h_op (r_assign rfl) ?_
      refine h_nil ?_
      refine q_then ?_
      refine ha_start [] [.rd (some ⟨g, 0, none⟩) (wc .u32 (sch l k))] mixed (same) ?_
      refine ha_takeP 0 rfl (r_move rfl) ?_
      refine ha_takeP 1 rfl (r_move rfl) ?_
      refine ha_takeP 2 rfl (r_move rfl) ?_
      refine ha_takeP 3 rfl (r_subN rfl rfl) ?_
      refine ha_takeP 4 rfl (r_idx rfl rfl) ?_
      refine ha_takeR 5 rfl (r_nth rfl (wc_at (by omega))) ?_
      refine ha_takeP 6 rfl (r_move rfl) ?_
      refine ha_takeP 8 rfl (r_move rfl) ?_
      refine ha_takeP 11 rfl (r_move rfl) ?_
      refine ha_takeP 12 rfl (r_shr rfl rfl) ?_
      refine ha_takeP 15 rfl (r_move rfl) ?_
      refine ha_takeP 16 rfl (r_move rfl) ?_
      refine ha_takeP 17 rfl (r_subN rfl rfl) ?_
      refine ha_takeP 18 rfl (r_idx rfl rfl) ?_
      refine ha_takeR 19 rfl (r_nth rfl (wc_at (by omega))) ?_
      refine ha_takeP 21 rfl (r_move rfl) ?_
      refine ha_takeP 23 rfl (r_move rfl) ?_
      refine ha_takeP 26 rfl (r_move rfl) ?_
      refine ha_takeP 27 rfl (r_shr rfl rfl) ?_
      refine ha_one 7 ?_
      refine ho_C 7 rfl ((turn_s _ 7 (by decide)).comes) rfl rfl rfl (fun _ => same) fun _ => ?_
      refine ha_one 9 ?_
      refine ho_C 9 rfl ((turn_s _ 18 (by decide)).comes) rfl rfl rfl (fun _ => same) fun _ => ?_
      refine ha_takeP 10 rfl (r_xor rfl rfl) ?_
      refine ha_takeP 13 rfl (r_xor rfl rfl) ?_
      refine ha_takeP 14 rfl (r_addW rfl rfl) ?_
      refine ha_takeP 20 rfl (r_addW rfl rfl) ?_
      refine ha_one 22 ?_
      refine ho_C 22 rfl ((turn_s _ 17 (by decide)).comes) rfl rfl rfl (fun _ => same) fun _ => ?_
      refine ha_one 24 ?_
      refine ho_C 24 rfl ((turn_s _ 19 (by decide)).comes) rfl rfl rfl (fun _ => same) fun _ => ?_
      refine ha_takeP 25 rfl (r_xor rfl rfl) ?_
      refine ha_takeP 28 rfl (r_xor rfl rfl) ?_
      refine ha_takeP 29 rfl (r_addW rfl rfl) ?_
      refine ha_one 30 ?_
      refine ho_X 30 rfl (rk (x_bsl rfl rfl)) (fun _ => same) fun g92 => ?_
      refine ha_one 31 ?_
      refine ho_X 31 rfl (k_app1W rfl rfl) (fun _ => same) fun ⟨g93, c93⟩ => ?_
      refine ha_takeP 32 rfl (r_assign rfl) ?_
      refine ha_done (by kernel_rfl) ?_
      refine q_block ?_
      refine q_then ?_
      rw [← hst]
      refine h_reg ?_
      refine h_op (r_move rfl) ?_
      refine h_op (r_add rfl rfl) ?_
      refine h_op (r_assign rfl) ?_
      refine h_nil ?_
      exact h_back (k + 1, g93, c93) ((show 16 ≤ k + 1 ∧ k + 1 ≤ 64 by omega)) ((show 64 - (k + 1) < 64 - k by omega)) ⟨rfl, rfl, trivial⟩ (same)
    · obtain rfl : k = 64 := by omega
      refine h_exit ?_
      refine q_thenE ?_
      refine q_thenE ?_
      refine q_blockE ?_
      refine q_then ?_
      refine h_seq ?_
      refine h_reg ?_
      refine h_op (r_move rfl) ?_
      refine h_op (r_assign rfl) ?_
      refine h_nil ?_
      refine q_then ?_
      refine h_ret ?_
      exact h_ret1 rfl rfl fun w s => ⟨(g, cp), rfl, s.res (List.Sublist.refl _) (by simp [Fa.wr])⟩
end Go.Proofs.YtfjlpndohnianaaDoor
