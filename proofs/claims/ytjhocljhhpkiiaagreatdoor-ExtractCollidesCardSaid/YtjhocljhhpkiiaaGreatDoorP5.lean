/- The seat's types and functions, for the new logic; SHA-256 in plain Lean, as the reference reckons it; Rotations; the padding; The reference's padding and schedule; The reference's schedule (joined texts: TN E7 U1 U2 U3) -/
import Derived.Test.YtjhocljhhpkiiaaGreatDoorP4
import Derived.Test.YtjhocljhhpkiiaaGreatDoorRows
import Derived.Shelf.Abstract
set_option linter.all false
/- TN -/
namespace Go.Proofs.YtjhocljhhpkiiaaGreatDoor
set_option linter.unusedSimpArgs false
set_option linter.unusedVariables false
open Go.RowKit Go.Shelf
instance : TOne Tryz.prog 3 := ⟨⟨_, Tryz.underlying3, rfl⟩, by kernel_rfl⟩
instance : TZ Tryz.prog 3 [.int .i64 0] := ⟨⟨.int .i64 0, by kernel_rfl, rfl⟩⟩
instance : TOne Tryz.prog 4 := ⟨⟨_, Tryz.underlying4, rfl⟩, by kernel_rfl⟩
instance : TZ Tryz.prog 4 [.bool false] := ⟨⟨.bool false, by kernel_rfl, rfl⟩⟩
instance : TOne Tryz.prog 5 := ⟨⟨_, Tryz.underlying5, rfl⟩, by kernel_rfl⟩
instance : TS Tryz.prog 22 124 33 56 (.agg zEntry.cells.toArray) := ⟨⟨Tryz.underlying22, by kernel_rfl, by simp [Value.cells, Entry.cells_length], by decide, by decide⟩⟩
instance : TOne Tryz.prog 23 := ⟨⟨_, Tryz.underlying23, rfl⟩, by kernel_rfl⟩
instance : TZ Tryz.prog 23 [.slice none 0 0] := ⟨⟨.slice none 0 0, by kernel_rfl, rfl⟩⟩
instance : TS Tryz.prog 23 5 1 1 (.int .u8 0) := ⟨⟨Tryz.underlying23, by kernel_rfl, rfl, by decide, by decide⟩⟩
instance : TRow Tryz.prog 25 3 := ⟨⟨_, Tryz.underlying25, rfl⟩, by kernel_rfl⟩
instance : TFA Tryz.prog 25 0 0 := ⟨⟨_, _, 0, Tryz.underlying25, rfl, rfl, by kernel_rfl⟩⟩
instance : TFA Tryz.prog 25 1 1 := ⟨⟨_, _, 0, Tryz.underlying25, rfl, rfl, by kernel_rfl⟩⟩
instance : TFA Tryz.prog 25 2 2 := ⟨⟨_, _, 0, Tryz.underlying25, rfl, rfl, by kernel_rfl⟩⟩
instance : TZ Tryz.prog 25 zClaim.cells := ⟨⟨.agg zClaim.cells.toArray, by kernel_rfl, rfl⟩⟩
def pl25 : Nat → Option (Nat × Nat) := fun i => ([(0, 1), (1, 1), (2, 1)] : List (Nat × Nat)).toArray[i]?
instance : Place pl25 0 0 1 := ⟨rfl⟩
instance : TB Tryz.prog 25 zClaim.cells pl25 := ⟨fun w ps cells h => run_build_struct (fl := _) Tryz.underlying25 (z := zClaim.cells.toArray) (n := 3) (by kernel_rfl) (pl := [(0, 1), (1, 1), (2, 1)]) (by kernel_rfl) h⟩
instance : TOne Tryz.prog 26 := ⟨⟨_, Tryz.underlying26, rfl⟩, by kernel_rfl⟩
instance : TZ Tryz.prog 26 [.pointer none] := ⟨⟨.pointer none, by kernel_rfl, rfl⟩⟩
instance : TRow Tryz.prog 34 32 := ⟨⟨_, Tryz.underlying34, rfl⟩, by kernel_rfl⟩
instance : TArr Tryz.prog 34 32 5 1 := ⟨Tryz.underlying34, by kernel_rfl⟩
instance : TRow Tryz.prog 35 32 := ⟨⟨_, Tryz.underlying35, rfl⟩, by kernel_rfl⟩
instance : TArr Tryz.prog 35 32 5 1 := ⟨Tryz.underlying35, by kernel_rfl⟩
instance : TZ Tryz.prog 35 zB32.cells := ⟨⟨.agg zB32.cells.toArray, by kernel_rfl, rfl⟩⟩
instance : TB Tryz.prog 35 zB32.cells (plArr 1) := ⟨fun w ps cells h => run_build_array Tryz.underlying35 (z := zB32.cells.toArray) (n := 32) (by kernel_rfl) (s := 1) (by kernel_rfl) h⟩
instance (x y : B32) : TEq Tryz.prog 35 x.cells y.cells (decide (x = y)) := ⟨fun w d => eq_B32 (d + 4) Tryz.underlying35 Tryz.underlying5 (by kernel_rfl) x y, Tryz.eqGuardType35⟩
instance : TOne Tryz.prog 36 := ⟨⟨_, Tryz.underlying36, rfl⟩, by kernel_rfl⟩
instance : TOne Tryz.prog 38 := ⟨⟨_, Tryz.underlying38, rfl⟩, by kernel_rfl⟩
instance : TZ Tryz.prog 38 [.slice none 0 0] := ⟨⟨.slice none 0 0, by kernel_rfl, rfl⟩⟩
instance : TS Tryz.prog 38 23 1 24 (.slice none 0 0) := ⟨⟨Tryz.underlying38, by kernel_rfl, rfl, by decide, by decide⟩⟩
instance : TRow Tryz.prog 42 32 := ⟨⟨_, Tryz.underlying42, rfl⟩, by kernel_rfl⟩
instance : TArr Tryz.prog 42 32 5 1 := ⟨Tryz.underlying42, by kernel_rfl⟩
instance : TZ Tryz.prog 42 zB32.cells := ⟨⟨.agg zB32.cells.toArray, by kernel_rfl, rfl⟩⟩
instance : TB Tryz.prog 42 zB32.cells (plArr 1) := ⟨fun w ps cells h => run_build_array Tryz.underlying42 (z := zB32.cells.toArray) (n := 32) (by kernel_rfl) (s := 1) (by kernel_rfl) h⟩
instance (x y : B32) : TEq Tryz.prog 42 x.cells y.cells (decide (x = y)) := ⟨fun w d => eq_B32 (d + 4) Tryz.underlying42 Tryz.underlying5 (by kernel_rfl) x y, Tryz.eqGuardType42⟩
instance : TRow Tryz.prog 51 64 := ⟨⟨_, Tryz.underlying51, rfl⟩, by kernel_rfl⟩
instance : TFA Tryz.prog 51 0 0 := ⟨⟨_, _, 31, Tryz.underlying51, rfl, rfl, by kernel_rfl⟩⟩
instance : TFA Tryz.prog 51 1 32 := ⟨⟨_, _, 31, Tryz.underlying51, rfl, rfl, by kernel_rfl⟩⟩
instance : TZ Tryz.prog 51 zLeaf.cells := ⟨⟨.agg zLeaf.cells.toArray, by kernel_rfl, rfl⟩⟩
def pl51 : Nat → Option (Nat × Nat) := fun i => ([(0, 32), (32, 32)] : List (Nat × Nat)).toArray[i]?
instance : Place pl51 0 0 32 := ⟨rfl⟩
instance : Place pl51 1 32 32 := ⟨rfl⟩
instance : TB Tryz.prog 51 zLeaf.cells pl51 := ⟨fun w ps cells h => run_build_struct (fl := _) Tryz.underlying51 (z := zLeaf.cells.toArray) (n := 64) (by kernel_rfl) (pl := [(0, 32), (32, 32)]) (by kernel_rfl) h⟩
instance : TOne Tryz.prog 52 := ⟨⟨_, Tryz.underlying52, rfl⟩, by kernel_rfl⟩
instance : TZ Tryz.prog 52 [.slice none 0 0] := ⟨⟨.slice none 0 0, by kernel_rfl, rfl⟩⟩
instance : TS Tryz.prog 52 42 32 32 (.agg zB32.cells.toArray) := ⟨⟨Tryz.underlying52, by kernel_rfl, by simp [Value.cells, B32.cells_length], by decide, by decide⟩⟩
instance : TRow Tryz.prog 54 99 := ⟨⟨_, Tryz.underlying54, rfl⟩, by kernel_rfl⟩
instance : TFA Tryz.prog 54 0 0 := ⟨⟨_, _, 0, Tryz.underlying54, rfl, rfl, by kernel_rfl⟩⟩
instance : TFA Tryz.prog 54 1 1 := ⟨⟨_, _, 0, Tryz.underlying54, rfl, rfl, by kernel_rfl⟩⟩
instance : TFA Tryz.prog 54 2 2 := ⟨⟨_, _, 63, Tryz.underlying54, rfl, rfl, by kernel_rfl⟩⟩
instance : TFA Tryz.prog 54 3 66 := ⟨⟨_, _, 31, Tryz.underlying54, rfl, rfl, by kernel_rfl⟩⟩
instance : TFA Tryz.prog 54 4 98 := ⟨⟨_, _, 0, Tryz.underlying54, rfl, rfl, by kernel_rfl⟩⟩
instance : TZ Tryz.prog 54 zProof.cells := ⟨⟨.agg zProof.cells.toArray, by kernel_rfl, rfl⟩⟩
def pl54 : Nat → Option (Nat × Nat) := fun i => ([(0, 1), (1, 1), (2, 64), (66, 32), (98, 1)] : List (Nat × Nat)).toArray[i]?
instance : Place pl54 0 0 1 := ⟨rfl⟩
instance : Place pl54 1 1 1 := ⟨rfl⟩
instance : Place pl54 2 2 64 := ⟨rfl⟩
instance : TB Tryz.prog 54 zProof.cells pl54 := ⟨fun w ps cells h => run_build_struct (fl := _) Tryz.underlying54 (z := zProof.cells.toArray) (n := 99) (by kernel_rfl) (pl := [(0, 1), (1, 1), (2, 64), (66, 32), (98, 1)]) (by kernel_rfl) h⟩
instance : TOne Tryz.prog 67 := ⟨⟨_, Tryz.underlying67, rfl⟩, by kernel_rfl⟩
instance : TS Tryz.prog 67 25 3 56 (.agg zClaim.cells.toArray) := ⟨⟨Tryz.underlying67, by kernel_rfl, by simp [Value.cells, Claim.cells_length], by decide, by decide⟩⟩
instance : TOne Tryz.prog 68 := ⟨⟨_, Tryz.underlying68, rfl⟩, by kernel_rfl⟩
instance : TS Tryz.prog 68 126 97 104 (.agg zItem.cells.toArray) := ⟨⟨Tryz.underlying68, by kernel_rfl, by simp [Value.cells, Item.cells_length], by decide, by decide⟩⟩
instance : TS Tryz.prog 76 3 1 8 (.int .i64 0) := ⟨⟨Tryz.underlying76, by kernel_rfl, rfl, by decide, by decide⟩⟩
instance : TOne Tryz.prog 94 := ⟨⟨_, Tryz.underlying94, rfl⟩, by kernel_rfl⟩
instance : TOne Tryz.prog 104 := ⟨⟨_, Tryz.underlying104, rfl⟩, by kernel_rfl⟩
instance : TZ Tryz.prog 104 [.slice none 0 0] := ⟨⟨.slice none 0 0, by kernel_rfl, rfl⟩⟩
instance : TS Tryz.prog 104 35 32 32 (.agg zB32.cells.toArray) := ⟨⟨Tryz.underlying104, by kernel_rfl, by simp [Value.cells, B32.cells_length], by decide, by decide⟩⟩
instance : TRow Tryz.prog 124 33 := ⟨⟨_, Tryz.underlying124, rfl⟩, by kernel_rfl⟩
instance : TFA Tryz.prog 124 0 0 := ⟨⟨_, _, 31, Tryz.underlying124, rfl, rfl, by kernel_rfl⟩⟩
instance : TFA Tryz.prog 124 1 32 := ⟨⟨_, _, 0, Tryz.underlying124, rfl, rfl, by kernel_rfl⟩⟩
instance : TZ Tryz.prog 124 zEntry.cells := ⟨⟨.agg zEntry.cells.toArray, by kernel_rfl, rfl⟩⟩
def pl124 : Nat → Option (Nat × Nat) := fun i => ([(0, 32), (32, 1)] : List (Nat × Nat)).toArray[i]?
instance : Place pl124 0 0 32 := ⟨rfl⟩
instance : Place pl124 1 32 1 := ⟨rfl⟩
instance : TB Tryz.prog 124 zEntry.cells pl124 := ⟨fun w ps cells h => run_build_struct (fl := _) Tryz.underlying124 (z := zEntry.cells.toArray) (n := 33) (by kernel_rfl) (pl := [(0, 32), (32, 1)]) (by kernel_rfl) h⟩
instance : TRow Tryz.prog 126 97 := ⟨⟨_, Tryz.underlying126, rfl⟩, by kernel_rfl⟩
instance : TFA Tryz.prog 126 0 0 := ⟨⟨_, _, 0, Tryz.underlying126, rfl, rfl, by kernel_rfl⟩⟩
instance : TFA Tryz.prog 126 1 1 := ⟨⟨_, _, 31, Tryz.underlying126, rfl, rfl, by kernel_rfl⟩⟩
instance : TFA Tryz.prog 126 2 33 := ⟨⟨_, _, 63, Tryz.underlying126, rfl, rfl, by kernel_rfl⟩⟩
instance : TZ Tryz.prog 126 zItem.cells := ⟨⟨.agg zItem.cells.toArray, by kernel_rfl, rfl⟩⟩
def pl126 : Nat → Option (Nat × Nat) := fun i => ([(0, 1), (1, 32), (33, 64)] : List (Nat × Nat)).toArray[i]?
instance : TB Tryz.prog 126 zItem.cells pl126 := ⟨fun w ps cells h => run_build_struct (fl := _) Tryz.underlying126 (z := zItem.cells.toArray) (n := 97) (by kernel_rfl) (pl := [(0, 1), (1, 32), (33, 64)]) (by kernel_rfl) h⟩
instance : TOne Tryz.prog 133 := ⟨⟨_, Tryz.underlying133, rfl⟩, by kernel_rfl⟩
instance : TZ Tryz.prog 133 [.slice none 0 0] := ⟨⟨.slice none 0 0, by kernel_rfl, rfl⟩⟩
instance : TS Tryz.prog 133 26 1 8 (.pointer none) := ⟨⟨Tryz.underlying133, by kernel_rfl, rfl, by decide, by decide⟩⟩
instance : TOne Tryz.prog 140 := ⟨⟨_, Tryz.underlying140, rfl⟩, by kernel_rfl⟩
instance : TFA Tryz.prog 142 0 0 := ⟨⟨_, _, 0, Tryz.underlying142, rfl, rfl, by kernel_rfl⟩⟩
instance : TFA Tryz.prog 142 1 1 := ⟨⟨_, _, 0, Tryz.underlying142, rfl, rfl, by kernel_rfl⟩⟩
def pl142 : Nat → Option (Nat × Nat) := fun i => ([(0, 1), (1, 1)] : List (Nat × Nat)).toArray[i]?
instance : Place pl142 0 0 1 := ⟨rfl⟩
instance : Place pl142 1 1 1 := ⟨rfl⟩
instance : TB Tryz.prog 142 ([.pointer none, .int .i64 0]) pl142 := ⟨fun w ps cells h => run_build_struct (fl := _) Tryz.underlying142 (z := ([.pointer none, .int .i64 0] : List Value).toArray) (n := 2) (by kernel_rfl) (pl := [(0, 1), (1, 1)]) (by kernel_rfl) h⟩
instance : TFA Tryz.prog 144 0 0 := ⟨⟨_, _, 0, Tryz.underlying144, rfl, rfl, by kernel_rfl⟩⟩
def pl144 : Nat → Option (Nat × Nat) := fun i => ([(0, 1)] : List (Nat × Nat)).toArray[i]?
instance : TB Tryz.prog 144 ([.int .i64 0]) pl144 := ⟨fun w ps cells h => run_build_struct (fl := _) Tryz.underlying144 (z := ([.int .i64 0] : List Value).toArray) (n := 1) (by kernel_rfl) (pl := [(0, 1)]) (by kernel_rfl) h⟩
instance : TOne Tryz.prog 163 := ⟨⟨_, Tryz.underlying163, rfl⟩, by kernel_rfl⟩
instance : TFA Tryz.prog 165 0 0 := ⟨⟨_, _, 0, Tryz.underlying165, rfl, rfl, by kernel_rfl⟩⟩
instance : TFA Tryz.prog 165 1 1 := ⟨⟨_, _, 31, Tryz.underlying165, rfl, rfl, by kernel_rfl⟩⟩
def pl165 : Nat → Option (Nat × Nat) := fun i => ([(0, 1), (1, 32)] : List (Nat × Nat)).toArray[i]?
instance : Place pl165 0 0 1 := ⟨rfl⟩
instance : Place pl165 1 1 32 := ⟨rfl⟩
instance : TB Tryz.prog 165 zNd.cells pl165 := ⟨fun w ps cells h => run_build_struct (fl := _) Tryz.underlying165 (z := zNd.cells.toArray) (n := 33) (by kernel_rfl) (pl := [(0, 1), (1, 32)]) (by kernel_rfl) h⟩
instance : TFA Tryz.prog 169 0 0 := ⟨⟨_, _, 0, Tryz.underlying169, rfl, rfl, by kernel_rfl⟩⟩
instance : TFA Tryz.prog 169 1 1 := ⟨⟨_, _, 0, Tryz.underlying169, rfl, rfl, by kernel_rfl⟩⟩
instance : TFA Tryz.prog 169 2 2 := ⟨⟨_, _, 2, Tryz.underlying169, rfl, rfl, by kernel_rfl⟩⟩
instance : TFA Tryz.prog 169 4 6 := ⟨⟨_, _, 98, Tryz.underlying169, rfl, rfl, by kernel_rfl⟩⟩
def pl169 : Nat → Option (Nat × Nat) := fun i => ([(0, 1), (1, 1), (2, 3), (5, 1), (6, 99)] : List (Nat × Nat)).toArray[i]?
instance : Place pl169 0 0 1 := ⟨rfl⟩
instance : Place pl169 1 1 1 := ⟨rfl⟩
instance : Place pl169 2 2 3 := ⟨rfl⟩
instance : Place pl169 4 6 99 := ⟨rfl⟩
instance : TB Tryz.prog 169 zChk.cells pl169 := ⟨fun w ps cells h => run_build_struct (fl := _) Tryz.underlying169 (z := zChk.cells.toArray) (n := 105) (by kernel_rfl) (pl := [(0, 1), (1, 1), (2, 3), (5, 1), (6, 99)]) (by kernel_rfl) h⟩
instance : TS Tryz.prog 191 195 1 8 (.agg #[.nilFunc]) := ⟨⟨Tryz.underlying191, by kernel_rfl, rfl, by decide, by decide⟩⟩
instance : TOne Tryz.prog 193 := ⟨⟨_, Tryz.underlying193, rfl⟩, by kernel_rfl⟩
instance : TRow Tryz.prog 195 1 := ⟨⟨_, Tryz.underlying195, rfl⟩, by kernel_rfl⟩
instance : TFA Tryz.prog 195 0 0 := ⟨⟨_, _, 0, Tryz.underlying195, rfl, rfl, by kernel_rfl⟩⟩
instance : TZ Tryz.prog 195 ([.nilFunc]) := ⟨⟨.agg #[.nilFunc], by kernel_rfl, rfl⟩⟩
def pl195 : Nat → Option (Nat × Nat) := fun i => ([(0, 1)] : List (Nat × Nat)).toArray[i]?
instance : Place pl195 0 0 1 := ⟨rfl⟩
instance : TB Tryz.prog 195 ([.nilFunc]) pl195 := ⟨fun w ps cells h => run_build_struct (fl := _) Tryz.underlying195 (z := ([.nilFunc] : List Value).toArray) (n := 1) (by kernel_rfl) (pl := [(0, 1)]) (by kernel_rfl) h⟩
instance : TOne Tryz.prog 204 := ⟨⟨_, Tryz.underlying204, rfl⟩, by kernel_rfl⟩
instance : TRow Tryz.prog 205 8 := ⟨⟨_, Tryz.underlying205, rfl⟩, by kernel_rfl⟩
instance : TArr Tryz.prog 205 8 204 1 := ⟨Tryz.underlying205, by kernel_rfl⟩
instance : TZ Tryz.prog 205 ([.int .u32 0, .int .u32 0, .int .u32 0, .int .u32 0, .int .u32 0, .int .u32 0, .int .u32 0, .int .u32 0]) := ⟨⟨.agg #[.int .u32 0, .int .u32 0, .int .u32 0, .int .u32 0, .int .u32 0, .int .u32 0, .int .u32 0, .int .u32 0], by kernel_rfl, rfl⟩⟩
instance : TB Tryz.prog 205 ([.int .u32 0, .int .u32 0, .int .u32 0, .int .u32 0, .int .u32 0, .int .u32 0, .int .u32 0, .int .u32 0]) (plArr 1) := ⟨fun w ps cells h => run_build_array Tryz.underlying205 (z := ([.int .u32 0, .int .u32 0, .int .u32 0, .int .u32 0, .int .u32 0, .int .u32 0, .int .u32 0, .int .u32 0] : List Value).toArray) (n := 8) (by kernel_rfl) (s := 1) (by kernel_rfl) h⟩
instance : TRow Tryz.prog 206 8 := ⟨⟨_, Tryz.underlying206, rfl⟩, by kernel_rfl⟩
instance : TArr Tryz.prog 206 8 204 1 := ⟨Tryz.underlying206, by kernel_rfl⟩
instance : TZ Tryz.prog 206 ([.int .u32 0, .int .u32 0, .int .u32 0, .int .u32 0, .int .u32 0, .int .u32 0, .int .u32 0, .int .u32 0]) := ⟨⟨.agg #[.int .u32 0, .int .u32 0, .int .u32 0, .int .u32 0, .int .u32 0, .int .u32 0, .int .u32 0, .int .u32 0], by kernel_rfl, rfl⟩⟩
instance : TB Tryz.prog 206 ([.int .u32 0, .int .u32 0, .int .u32 0, .int .u32 0, .int .u32 0, .int .u32 0, .int .u32 0, .int .u32 0]) (plArr 1) := ⟨fun w ps cells h => run_build_array Tryz.underlying206 (z := ([.int .u32 0, .int .u32 0, .int .u32 0, .int .u32 0, .int .u32 0, .int .u32 0, .int .u32 0, .int .u32 0] : List Value).toArray) (n := 8) (by kernel_rfl) (s := 1) (by kernel_rfl) h⟩
instance : TOne Tryz.prog 208 := ⟨⟨_, Tryz.underlying208, rfl⟩, by kernel_rfl⟩
instance : TZ Tryz.prog 208 [.nilFunc] := ⟨⟨.nilFunc, by kernel_rfl, rfl⟩⟩
instance : TS Tryz.prog 213 204 1 4 (.int .u32 0) := ⟨⟨Tryz.underlying213, by kernel_rfl, rfl, by decide, by decide⟩⟩
instance : TOne Tryz.prog 228 := ⟨⟨_, Tryz.underlying228, rfl⟩, by kernel_rfl⟩
instance : TRow Tryz.prog 232 2 := ⟨⟨_, Tryz.underlying232, rfl⟩, by kernel_rfl⟩
instance : TArr Tryz.prog 232 2 228 1 := ⟨Tryz.underlying232, by kernel_rfl⟩
instance : TZ Tryz.prog 232 ([.nilIface, .nilIface]) := ⟨⟨.agg #[.nilIface, .nilIface], by kernel_rfl, rfl⟩⟩
instance : TRow Tryz.prog 235 97 := ⟨⟨_, Tryz.underlying235, rfl⟩, by kernel_rfl⟩
instance : TFA Tryz.prog 235 0 0 := ⟨⟨_, _, 96, Tryz.underlying235, rfl, rfl, by kernel_rfl⟩⟩
instance : TZ Tryz.prog 235 zItem.cells := ⟨⟨.agg zItem.cells.toArray, by kernel_rfl, rfl⟩⟩
def pl235 : Nat → Option (Nat × Nat) := fun i => ([(0, 97)] : List (Nat × Nat)).toArray[i]?
instance : Place pl235 0 0 97 := ⟨rfl⟩
instance : TB Tryz.prog 235 zItem.cells pl235 := ⟨fun w ps cells h => run_build_struct (fl := _) Tryz.underlying235 (z := zItem.cells.toArray) (n := 97) (by kernel_rfl) (pl := [(0, 97)]) (by kernel_rfl) h⟩
instance : TOne Tryz.prog 238 := ⟨⟨_, Tryz.underlying238, rfl⟩, by kernel_rfl⟩
instance : TRow Tryz.prog 240 2 := ⟨⟨_, Tryz.underlying240, rfl⟩, by kernel_rfl⟩
instance : TFA Tryz.prog 240 0 0 := ⟨⟨_, _, 0, Tryz.underlying240, rfl, rfl, by kernel_rfl⟩⟩
instance : TFA Tryz.prog 240 1 1 := ⟨⟨_, _, 0, Tryz.underlying240, rfl, rfl, by kernel_rfl⟩⟩
instance : TZ Tryz.prog 240 ([.nilFunc, .int .i64 0]) := ⟨⟨.agg #[.nilFunc, .int .i64 0], by kernel_rfl, rfl⟩⟩
def pl240 : Nat → Option (Nat × Nat) := fun i => ([(0, 1), (1, 1)] : List (Nat × Nat)).toArray[i]?
instance : Place pl240 0 0 1 := ⟨rfl⟩
instance : Place pl240 1 1 1 := ⟨rfl⟩
instance : TB Tryz.prog 240 ([.nilFunc, .int .i64 0]) pl240 := ⟨fun w ps cells h => run_build_struct (fl := _) Tryz.underlying240 (z := ([.nilFunc, .int .i64 0] : List Value).toArray) (n := 2) (by kernel_rfl) (pl := [(0, 1), (1, 1)]) (by kernel_rfl) h⟩
instance : TRow Tryz.prog 241 10 := ⟨⟨_, Tryz.underlying241, rfl⟩, by kernel_rfl⟩
instance : TArr Tryz.prog 241 5 240 2 := ⟨Tryz.underlying241, by kernel_rfl⟩
instance : TZ Tryz.prog 241 ([.nilFunc, .int .i64 0, .nilFunc, .int .i64 0, .nilFunc, .int .i64 0, .nilFunc, .int .i64 0, .nilFunc, .int .i64 0]) := ⟨⟨.agg #[.nilFunc, .int .i64 0, .nilFunc, .int .i64 0, .nilFunc, .int .i64 0, .nilFunc, .int .i64 0, .nilFunc, .int .i64 0], by kernel_rfl, rfl⟩⟩
instance : TB Tryz.prog 241 ([.nilFunc, .int .i64 0, .nilFunc, .int .i64 0, .nilFunc, .int .i64 0, .nilFunc, .int .i64 0, .nilFunc, .int .i64 0]) (plArr 2) := ⟨fun w ps cells h => run_build_array Tryz.underlying241 (z := ([.nilFunc, .int .i64 0, .nilFunc, .int .i64 0, .nilFunc, .int .i64 0, .nilFunc, .int .i64 0, .nilFunc, .int .i64 0] : List Value).toArray) (n := 10) (by kernel_rfl) (s := 2) (by kernel_rfl) h⟩
instance : TS Tryz.prog 245 250 98 112 (.agg zEnd.cells.toArray) := ⟨⟨Tryz.underlying245, by kernel_rfl, by simp [Value.cells, End.cells_length], by decide, by decide⟩⟩
instance : TRow Tryz.prog 250 98 := ⟨⟨_, Tryz.underlying250, rfl⟩, by kernel_rfl⟩
instance : TFA Tryz.prog 250 0 0 := ⟨⟨_, _, 96, Tryz.underlying250, rfl, rfl, by kernel_rfl⟩⟩
instance : TFA Tryz.prog 250 1 97 := ⟨⟨_, _, 0, Tryz.underlying250, rfl, rfl, by kernel_rfl⟩⟩
instance : TZ Tryz.prog 250 zEnd.cells := ⟨⟨.agg zEnd.cells.toArray, by kernel_rfl, rfl⟩⟩
def pl250 : Nat → Option (Nat × Nat) := fun i => ([(0, 97), (97, 1)] : List (Nat × Nat)).toArray[i]?
instance : Place pl250 0 0 97 := ⟨rfl⟩
instance : Place pl250 1 97 1 := ⟨rfl⟩
instance : TB Tryz.prog 250 zEnd.cells pl250 := ⟨fun w ps cells h => run_build_struct (fl := _) Tryz.underlying250 (z := zEnd.cells.toArray) (n := 98) (by kernel_rfl) (pl := [(0, 97), (97, 1)]) (by kernel_rfl) h⟩
instance : TRow Tryz.prog 275 65 := ⟨⟨_, Tryz.underlying275, rfl⟩, by kernel_rfl⟩
instance : TFA Tryz.prog 275 0 0 := ⟨⟨_, _, 63, Tryz.underlying275, rfl, rfl, by kernel_rfl⟩⟩
instance : TFA Tryz.prog 275 1 64 := ⟨⟨_, _, 0, Tryz.underlying275, rfl, rfl, by kernel_rfl⟩⟩
instance : TZ Tryz.prog 275 zNLeaf.cells := ⟨⟨.agg zNLeaf.cells.toArray, by kernel_rfl, rfl⟩⟩
def pl275 : Nat → Option (Nat × Nat) := fun i => ([(0, 64), (64, 1)] : List (Nat × Nat)).toArray[i]?
instance : Place pl275 0 0 64 := ⟨rfl⟩
instance : Place pl275 1 64 1 := ⟨rfl⟩
instance : TB Tryz.prog 275 zNLeaf.cells pl275 := ⟨fun w ps cells h => run_build_struct (fl := _) Tryz.underlying275 (z := zNLeaf.cells.toArray) (n := 65) (by kernel_rfl) (pl := [(0, 64), (64, 1)]) (by kernel_rfl) h⟩
instance : TRow Tryz.prog 276 2 := ⟨⟨_, Tryz.underlying276, rfl⟩, by kernel_rfl⟩
instance : TArr Tryz.prog 276 2 26 1 := ⟨Tryz.underlying276, by kernel_rfl⟩
instance : TZ Tryz.prog 276 ([.pointer none, .pointer none]) := ⟨⟨.agg #[.pointer none, .pointer none], by kernel_rfl, rfl⟩⟩
instance : TB Tryz.prog 276 ([.pointer none, .pointer none]) (plArr 1) := ⟨fun w ps cells h => run_build_array Tryz.underlying276 (z := ([.pointer none, .pointer none] : List Value).toArray) (n := 2) (by kernel_rfl) (s := 1) (by kernel_rfl) h⟩
instance : TRow Tryz.prog 277 64 := ⟨⟨_, Tryz.underlying277, rfl⟩, by kernel_rfl⟩
instance : TArr Tryz.prog 277 2 42 32 := ⟨Tryz.underlying277, by kernel_rfl⟩
instance : TRow Tryz.prog 279 67 := ⟨⟨_, Tryz.underlying279, rfl⟩, by kernel_rfl⟩
instance : TFA Tryz.prog 279 1 2 := ⟨⟨_, _, 63, Tryz.underlying279, rfl, rfl, by kernel_rfl⟩⟩
instance : TZ Tryz.prog 279 zNInner.cells := ⟨⟨.agg zNInner.cells.toArray, by kernel_rfl, rfl⟩⟩
def pl279 : Nat → Option (Nat × Nat) := fun i => ([(0, 2), (2, 64), (66, 1)] : List (Nat × Nat)).toArray[i]?
instance : Place pl279 0 0 2 := ⟨rfl⟩
instance : Place pl279 1 2 64 := ⟨rfl⟩
instance : Place pl279 2 66 1 := ⟨rfl⟩
instance : TB Tryz.prog 279 zNInner.cells pl279 := ⟨fun w ps cells h => run_build_struct (fl := _) Tryz.underlying279 (z := zNInner.cells.toArray) (n := 67) (by kernel_rfl) (pl := [(0, 2), (2, 64), (66, 1)]) (by kernel_rfl) h⟩
instance : TArr Tryz.prog 287 16 204 1 := ⟨Tryz.underlying287, by kernel_rfl⟩
instance : TZ Tryz.prog 287 ([.int .u32 0, .int .u32 0, .int .u32 0, .int .u32 0, .int .u32 0, .int .u32 0, .int .u32 0, .int .u32 0, .int .u32 0, .int .u32 0, .int .u32 0, .int .u32 0, .int .u32 0, .int .u32 0, .int .u32 0, .int .u32 0]) := ⟨⟨.agg #[.int .u32 0, .int .u32 0, .int .u32 0, .int .u32 0, .int .u32 0, .int .u32 0, .int .u32 0, .int .u32 0, .int .u32 0, .int .u32 0, .int .u32 0, .int .u32 0, .int .u32 0, .int .u32 0, .int .u32 0, .int .u32 0], by kernel_rfl, rfl⟩⟩
instance : TRow Tryz.prog 288 64 := ⟨⟨_, Tryz.underlying288, rfl⟩, by kernel_rfl⟩
instance : TArr Tryz.prog 288 64 204 1 := ⟨Tryz.underlying288, by kernel_rfl⟩
instance : TRow Tryz.prog 293 32 := ⟨⟨_, Tryz.underlying293, rfl⟩, by kernel_rfl⟩
instance : TArr Tryz.prog 293 32 5 1 := ⟨Tryz.underlying293, by kernel_rfl⟩
instance : TZ Tryz.prog 293 zB32.cells := ⟨⟨.agg zB32.cells.toArray, by kernel_rfl, rfl⟩⟩
instance : TB Tryz.prog 293 zB32.cells (plArr 1) := ⟨fun w ps cells h => run_build_array Tryz.underlying293 (z := zB32.cells.toArray) (n := 32) (by kernel_rfl) (s := 1) (by kernel_rfl) h⟩
instance (x y : B32) : TEq Tryz.prog 293 x.cells y.cells (decide (x = y)) := ⟨fun w d => eq_B32 (d + 4) Tryz.underlying293 Tryz.underlying5 (by kernel_rfl) x y, Tryz.eqGuardType293⟩
instance : TOne Tryz.prog 295 := ⟨⟨_, Tryz.underlying295, rfl⟩, by kernel_rfl⟩
theorem leafFields' : ∃ f1 f2 : Field, Tryz.prog.underlying 51 = some (.struct #[f1, f2]) ∧ (f1.name == "_") = false ∧ (f2.name == "_") = false ∧ f1.type = 35 ∧ f2.type = 42 ∧ f1.offset = 0 ∧ f2.offset = 32 :=
  ⟨_, _, Tryz.underlying51, by decide, by decide, rfl, rfl, rfl, rfl⟩
theorem eqLeaf' {w : World} (d : Nat) (x y : Leaf) : (Op.equalIn (d + 3) 51 (.agg x.cells.toArray) (.agg y.cells.toArray)).run Tryz.prog w = .ok (decide (x = y)) w := by
  obtain ⟨f1, f2, h0, h1, h2, h3, h4, h5, h6⟩ := leafFields'
  exact eq_Leaf d h0 Tryz.stoodInHeld51 h1 h2 h3 h4 h5 h6 Tryz.underlying35 Tryz.underlying42 Tryz.underlying5 (by kernel_rfl) (by kernel_rfl) (by kernel_rfl) x y
instance (x y : Leaf) : TEq Tryz.prog 51 x.cells y.cells (decide (x = y)) := ⟨fun w d => eqLeaf' (d + 3) x y, Tryz.eqGuardType51⟩
theorem mixed : Tryz.prog.follows .mixedOrders = true := by kernel_rfl
instance : TInt Tryz.prog 3 .i64 := ⟨Tryz.underlying3⟩
instance : TInt Tryz.prog 5 .u8 := ⟨Tryz.underlying5⟩
instance : TPtr Tryz.prog 26 := ⟨_, Tryz.underlying26⟩
instance : TPtr Tryz.prog 36 := ⟨_, Tryz.underlying36⟩
instance : TFT Tryz.prog 51 0 0 35 := ⟨_, _, Tryz.underlying51, rfl, rfl, rfl⟩
instance : TConc Tryz.prog 94 := ⟨_, Tryz.underlying94, by intro l h; cases h⟩
instance : TFT Tryz.prog 124 1 32 23 := ⟨_, _, Tryz.underlying124, rfl, rfl, rfl⟩
instance : TConc Tryz.prog 174 := ⟨_, Tryz.underlying174, by intro l h; cases h⟩
instance : TInt Tryz.prog 204 .u32 := ⟨Tryz.underlying204⟩
instance : TInt Tryz.prog 217 .u64 := ⟨Tryz.underlying217⟩
instance : TConc Tryz.prog 232 := ⟨_, Tryz.underlying232, by intro l h; cases h⟩
instance : TConc Tryz.prog 235 := ⟨_, Tryz.underlying235, by intro l h; cases h⟩
instance : TConc Tryz.prog 275 := ⟨_, Tryz.underlying275, by intro l h; cases h⟩
instance : TFT Tryz.prog 275 0 0 51 := ⟨_, _, Tryz.underlying275, rfl, rfl, rfl⟩
instance : TConc Tryz.prog 279 := ⟨_, Tryz.underlying279, by intro l h; cases h⟩
instance : TFT Tryz.prog 279 0 0 276 := ⟨_, _, Tryz.underlying279, rfl, rfl, rfl⟩
instance : TFT Tryz.prog 279 2 66 3 := ⟨_, _, Tryz.underlying279, rfl, rfl, rfl⟩
instance : TInt Tryz.prog 291 .u64 := ⟨Tryz.underlying291⟩
instance : Ent Tryz.prog 15 := ⟨enters_of Tryz.func15 (by kernel_rfl) rfl⟩
instance : Ent Tryz.prog 16 := ⟨enters_of Tryz.func16 (by kernel_rfl) rfl⟩
instance : Ent Tryz.prog 17 := ⟨enters_of Tryz.func17 (by kernel_rfl) rfl⟩
instance : Ent Tryz.prog 18 := ⟨enters_of Tryz.func18 (by kernel_rfl) rfl⟩
instance : Ent Tryz.prog 19 := ⟨enters_of Tryz.func19 (by kernel_rfl) rfl⟩
instance : Ent Tryz.prog 20 := ⟨enters_of Tryz.func20 (by kernel_rfl) rfl⟩
instance : Ent Tryz.prog 21 := ⟨enters_of Tryz.func21 (by kernel_rfl) rfl⟩
instance : Ent Tryz.prog 22 := ⟨enters_of Tryz.func22 (by kernel_rfl) rfl⟩
instance : Ent Tryz.prog 23 := ⟨enters_of Tryz.func23 (by kernel_rfl) rfl⟩
instance : Ent Tryz.prog 24 := ⟨enters_of Tryz.func24 (by kernel_rfl) rfl⟩
instance : Ent Tryz.prog 25 := ⟨enters_of Tryz.func25 (by kernel_rfl) rfl⟩
instance : Ent Tryz.prog 26 := ⟨enters_of Tryz.func26 (by kernel_rfl) rfl⟩
instance : Ent Tryz.prog 27 := ⟨enters_of Tryz.func27 (by kernel_rfl) rfl⟩
instance : Ent Tryz.prog 28 := ⟨enters_of Tryz.func28 (by kernel_rfl) rfl⟩
instance : Ent Tryz.prog 29 := ⟨enters_of Tryz.func29 (by kernel_rfl) rfl⟩
instance : Ent Tryz.prog 30 := ⟨enters_of Tryz.func30 (by kernel_rfl) rfl⟩
instance : Ent Tryz.prog 38 := ⟨enters_of Tryz.func38 (by kernel_rfl) rfl⟩
instance : Ent Tryz.prog 44 := ⟨enters_of Tryz.func44 (by kernel_rfl) rfl⟩
instance : Ent Tryz.prog 45 := ⟨enters_of Tryz.func45 (by kernel_rfl) rfl⟩
instance : Ent Tryz.prog 46 := ⟨enters_of Tryz.func46 (by kernel_rfl) rfl⟩
instance : Ent Tryz.prog 56 := ⟨enters_of Tryz.func56 (by kernel_rfl) rfl⟩
instance : Ent Tryz.prog 60 := ⟨enters_of Tryz.func60 (by kernel_rfl) rfl⟩
instance : Ent Tryz.prog 63 := ⟨enters_of Tryz.func63 (by kernel_rfl) rfl⟩
instance : Ent Tryz.prog 64 := ⟨enters_of Tryz.func64 (by kernel_rfl) rfl⟩
instance : Ent Tryz.prog 65 := ⟨enters_of Tryz.func65 (by kernel_rfl) rfl⟩
instance : Ent Tryz.prog 66 := ⟨enters_of Tryz.func66 (by kernel_rfl) rfl⟩
instance : Ent Tryz.prog 67 := ⟨enters_of Tryz.func67 (by kernel_rfl) rfl⟩
instance : Ent Tryz.prog 68 := ⟨enters_of Tryz.func68 (by kernel_rfl) rfl⟩
instance : Ent Tryz.prog 69 := ⟨enters_of Tryz.func69 (by kernel_rfl) rfl⟩
instance : Ent Tryz.prog 70 := ⟨enters_of Tryz.func70 (by kernel_rfl) rfl⟩
instance : Ent Tryz.prog 71 := ⟨enters_of Tryz.func71 (by kernel_rfl) rfl⟩
instance : Ent Tryz.prog 72 := ⟨enters_of Tryz.func72 (by kernel_rfl) rfl⟩
instance : Ent Tryz.prog 73 := ⟨enters_of Tryz.func73 (by kernel_rfl) rfl⟩
instance : Ent Tryz.prog 74 := ⟨enters_of Tryz.func74 (by kernel_rfl) rfl⟩
instance : Ent Tryz.prog 75 := ⟨enters_of Tryz.func75 (by kernel_rfl) rfl⟩
instance : Ent Tryz.prog 76 := ⟨enters_of Tryz.func76 (by kernel_rfl) rfl⟩
instance : Ent Tryz.prog 77 := ⟨enters_of Tryz.func77 (by kernel_rfl) rfl⟩
instance : Ent Tryz.prog 78 := ⟨enters_of Tryz.func78 (by kernel_rfl) rfl⟩
instance : Ent Tryz.prog 79 := ⟨enters_of Tryz.func79 (by kernel_rfl) rfl⟩
instance : Ent Tryz.prog 80 := ⟨enters_of Tryz.func80 (by kernel_rfl) rfl⟩
instance : Ent Tryz.prog 81 := ⟨enters_of Tryz.func81 (by kernel_rfl) rfl⟩
instance : Ent Tryz.prog 82 := ⟨enters_of Tryz.func82 (by kernel_rfl) rfl⟩
instance : Ent Tryz.prog 83 := ⟨enters_of Tryz.func83 (by kernel_rfl) rfl⟩
instance : Ent Tryz.prog 84 := ⟨enters_of Tryz.func84 (by kernel_rfl) rfl⟩
instance : Ent Tryz.prog 88 := ⟨enters_of Tryz.func88 (by kernel_rfl) rfl⟩
instance : Ent Tryz.prog 90 := ⟨enters_of Tryz.func90 (by kernel_rfl) rfl⟩
instance : Ent Tryz.prog 91 := ⟨enters_of Tryz.func91 (by kernel_rfl) rfl⟩
instance : Ent Tryz.prog 92 := ⟨enters_of Tryz.func92 (by kernel_rfl) rfl⟩
instance : Ent Tryz.prog 96 := ⟨enters_of Tryz.func96 (by kernel_rfl) rfl⟩
instance : Ent Tryz.prog 97 := ⟨enters_of Tryz.func97 (by kernel_rfl) rfl⟩
instance : Ent Tryz.prog 98 := ⟨enters_of Tryz.func98 (by kernel_rfl) rfl⟩
instance : Ent Tryz.prog 99 := ⟨enters_of Tryz.func99 (by kernel_rfl) rfl⟩
instance : Ent Tryz.prog 100 := ⟨enters_of Tryz.func100 (by kernel_rfl) rfl⟩
instance : Ent Tryz.prog 101 := ⟨enters_of Tryz.func101 (by kernel_rfl) rfl⟩
instance : Ent Tryz.prog 102 := ⟨enters_of Tryz.func102 (by kernel_rfl) rfl⟩
instance : Ent Tryz.prog 107 := ⟨enters_of Tryz.func107 (by kernel_rfl) rfl⟩
instance : Ent Tryz.prog 108 := ⟨enters_of Tryz.func108 (by kernel_rfl) rfl⟩
instance : Ent Tryz.prog 109 := ⟨enters_of Tryz.func109 (by kernel_rfl) rfl⟩
instance : Ent Tryz.prog 110 := ⟨enters_of Tryz.func110 (by kernel_rfl) rfl⟩
instance : Ent Tryz.prog 111 := ⟨enters_of Tryz.func111 (by kernel_rfl) rfl⟩
instance : Ent Tryz.prog 113 := ⟨enters_of Tryz.func113 (by kernel_rfl) rfl⟩
instance : Ent Tryz.prog 116 := ⟨enters_of Tryz.func116 (by kernel_rfl) rfl⟩
instance : Ent Tryz.prog 117 := ⟨enters_of Tryz.func117 (by kernel_rfl) rfl⟩
instance : Ent Tryz.prog 118 := ⟨enters_of Tryz.func118 (by kernel_rfl) rfl⟩
instance : Ent Tryz.prog 119 := ⟨enters_of Tryz.func119 (by kernel_rfl) rfl⟩
instance : Ent Tryz.prog 120 := ⟨enters_of Tryz.func120 (by kernel_rfl) rfl⟩
instance : Ent Tryz.prog 121 := ⟨enters_of Tryz.func121 (by kernel_rfl) rfl⟩
instance : Ent Tryz.prog 122 := ⟨enters_of Tryz.func122 (by kernel_rfl) rfl⟩
instance : Ent Tryz.prog 123 := ⟨enters_of Tryz.func123 (by kernel_rfl) rfl⟩
instance : Ent Tryz.prog 124 := ⟨enters_of Tryz.func124 (by kernel_rfl) rfl⟩
instance : Ent Tryz.prog 125 := ⟨enters_of Tryz.func125 (by kernel_rfl) rfl⟩
instance : Ent Tryz.prog 126 := ⟨enters_of Tryz.func126 (by kernel_rfl) rfl⟩
instance : Ent Tryz.prog 127 := ⟨enters_of Tryz.func127 (by kernel_rfl) rfl⟩
instance : Ent Tryz.prog 128 := ⟨enters_of Tryz.func128 (by kernel_rfl) rfl⟩
instance : Ent Tryz.prog 129 := ⟨enters_of Tryz.func129 (by kernel_rfl) rfl⟩
instance : Ent Tryz.prog 130 := ⟨enters_of Tryz.func130 (by kernel_rfl) rfl⟩
instance : Ent Tryz.prog 131 := ⟨enters_of Tryz.func131 (by kernel_rfl) rfl⟩
instance : Ent Tryz.prog 132 := ⟨enters_of Tryz.func132 (by kernel_rfl) rfl⟩
instance : Ent Tryz.prog 133 := ⟨enters_of Tryz.func133 (by kernel_rfl) rfl⟩
instance : Ent Tryz.prog 134 := ⟨enters_of Tryz.func134 (by kernel_rfl) rfl⟩
instance : Ent Tryz.prog 135 := ⟨enters_of Tryz.func135 (by kernel_rfl) rfl⟩
instance : Ent Tryz.prog 136 := ⟨enters_of Tryz.func136 (by kernel_rfl) rfl⟩
instance : Ent Tryz.prog 137 := ⟨enters_of Tryz.func137 (by kernel_rfl) rfl⟩
instance : Ent Tryz.prog 138 := ⟨enters_of Tryz.func138 (by kernel_rfl) rfl⟩
instance : Ent Tryz.prog 139 := ⟨enters_of Tryz.func139 (by kernel_rfl) rfl⟩
instance : Ent Tryz.prog 140 := ⟨enters_of Tryz.func140 (by kernel_rfl) rfl⟩
instance : Ent Tryz.prog 141 := ⟨enters_of Tryz.func141 (by kernel_rfl) rfl⟩
instance : Ent Tryz.prog 142 := ⟨enters_of Tryz.func142 (by kernel_rfl) rfl⟩
instance : Ent Tryz.prog 143 := ⟨enters_of Tryz.func143 (by kernel_rfl) rfl⟩
instance : Ent Tryz.prog 145 := ⟨enters_of Tryz.func145 (by kernel_rfl) rfl⟩
instance : Ent Tryz.prog 146 := ⟨enters_of Tryz.func146 (by kernel_rfl) rfl⟩
instance : Ent Tryz.prog 147 := ⟨enters_of Tryz.func147 (by kernel_rfl) rfl⟩
instance : Ent Tryz.prog 148 := ⟨enters_of Tryz.func148 (by kernel_rfl) rfl⟩
instance : Ent Tryz.prog 149 := ⟨enters_of Tryz.func149 (by kernel_rfl) rfl⟩
instance : Ent Tryz.prog 150 := ⟨enters_of Tryz.func150 (by kernel_rfl) rfl⟩
instance : Ent Tryz.prog 151 := ⟨enters_of Tryz.func151 (by kernel_rfl) rfl⟩
instance : Ent Tryz.prog 152 := ⟨enters_of Tryz.func152 (by kernel_rfl) rfl⟩
instance : Ent Tryz.prog 153 := ⟨enters_of Tryz.func153 (by kernel_rfl) rfl⟩
instance : Ent Tryz.prog 154 := ⟨enters_of Tryz.func154 (by kernel_rfl) rfl⟩
instance : Ent Tryz.prog 155 := ⟨enters_of Tryz.func155 (by kernel_rfl) rfl⟩
instance : Ent Tryz.prog 156 := ⟨enters_of Tryz.func156 (by kernel_rfl) rfl⟩
instance : Ent Tryz.prog 157 := ⟨enters_of Tryz.func157 (by kernel_rfl) rfl⟩
instance : Ent Tryz.prog 164 := ⟨enters_of Tryz.func164 (by kernel_rfl) rfl⟩
instance : Ent Tryz.prog 165 := ⟨enters_of Tryz.func165 (by kernel_rfl) rfl⟩
instance : Ent Tryz.prog 166 := ⟨enters_of Tryz.func166 (by kernel_rfl) rfl⟩
instance : Ent Tryz.prog 167 := ⟨enters_of Tryz.func167 (by kernel_rfl) rfl⟩
instance : Ent Tryz.prog 168 := ⟨enters_of Tryz.func168 (by kernel_rfl) rfl⟩
instance : Ent Tryz.prog 169 := ⟨enters_of Tryz.func169 (by kernel_rfl) rfl⟩
instance : Ent Tryz.prog 170 := ⟨enters_of Tryz.func170 (by kernel_rfl) rfl⟩
instance : Ent Tryz.prog 171 := ⟨enters_of Tryz.func171 (by kernel_rfl) rfl⟩
instance : Ent Tryz.prog 172 := ⟨enters_of Tryz.func172 (by kernel_rfl) rfl⟩
instance : Ent Tryz.prog 174 := ⟨enters_of Tryz.func174 (by kernel_rfl) rfl⟩
instance : Ent Tryz.prog 175 := ⟨enters_of Tryz.func175 (by kernel_rfl) rfl⟩
instance : Ent Tryz.prog 176 := ⟨enters_of Tryz.func176 (by kernel_rfl) rfl⟩
instance : Ent Tryz.prog 181 := ⟨enters_of Tryz.func181 (by kernel_rfl) rfl⟩
instance : Ent Tryz.prog 182 := ⟨enters_of Tryz.func182 (by kernel_rfl) rfl⟩
instance : Ent Tryz.prog 183 := ⟨enters_of Tryz.func183 (by kernel_rfl) rfl⟩
instance : Ent Tryz.prog 184 := ⟨enters_of Tryz.func184 (by kernel_rfl) rfl⟩
instance : Ent Tryz.prog 185 := ⟨enters_of Tryz.func185 (by kernel_rfl) rfl⟩
instance : Ent Tryz.prog 186 := ⟨enters_of Tryz.func186 (by kernel_rfl) rfl⟩
instance : Ent Tryz.prog 187 := ⟨enters_of Tryz.func187 (by kernel_rfl) rfl⟩
instance : Ent Tryz.prog 188 := ⟨enters_of Tryz.func188 (by kernel_rfl) rfl⟩
instance : Ent Tryz.prog 189 := ⟨enters_of Tryz.func189 (by kernel_rfl) rfl⟩
instance : Ent Tryz.prog 190 := ⟨enters_of Tryz.func190 (by kernel_rfl) rfl⟩
instance : Ent Tryz.prog 191 := ⟨enters_of Tryz.func191 (by kernel_rfl) rfl⟩
instance : Ent Tryz.prog 192 := ⟨enters_of Tryz.func192 (by kernel_rfl) rfl⟩
instance : Ent Tryz.prog 193 := ⟨enters_of Tryz.func193 (by kernel_rfl) rfl⟩
instance : Ent Tryz.prog 194 := ⟨enters_of Tryz.func194 (by kernel_rfl) rfl⟩
instance : Ent Tryz.prog 195 := ⟨enters_of Tryz.func195 (by kernel_rfl) rfl⟩
instance : Ent Tryz.prog 196 := ⟨enters_of Tryz.func196 (by kernel_rfl) rfl⟩
instance : Ent Tryz.prog 197 := ⟨enters_of Tryz.func197 (by kernel_rfl) rfl⟩
instance : Ent Tryz.prog 198 := ⟨enters_of Tryz.func198 (by kernel_rfl) rfl⟩
instance : Ent Tryz.prog 199 := ⟨enters_of Tryz.func199 (by kernel_rfl) rfl⟩
instance : Ent Tryz.prog 200 := ⟨enters_of Tryz.func200 (by kernel_rfl) rfl⟩
instance : Ent Tryz.prog 201 := ⟨enters_of Tryz.func201 (by kernel_rfl) rfl⟩
instance : Ent Tryz.prog 202 := ⟨enters_of Tryz.func202 (by kernel_rfl) rfl⟩
instance : Ent Tryz.prog 203 := ⟨enters_of Tryz.func203 (by kernel_rfl) rfl⟩
instance : Ent Tryz.prog 204 := ⟨enters_of Tryz.func204 (by kernel_rfl) rfl⟩
instance : Ent Tryz.prog 205 := ⟨enters_of Tryz.func205 (by kernel_rfl) rfl⟩
instance : Ent Tryz.prog 210 := ⟨enters_of Tryz.func210 (by kernel_rfl) rfl⟩
instance : Ent Tryz.prog 211 := ⟨enters_of Tryz.func211 (by kernel_rfl) rfl⟩
instance : Ent Tryz.prog 214 := ⟨enters_of Tryz.func214 (by kernel_rfl) rfl⟩
instance : Ent Tryz.prog 215 := ⟨enters_of Tryz.func215 (by kernel_rfl) rfl⟩
instance : Ent Tryz.prog 216 := ⟨enters_of Tryz.func216 (by kernel_rfl) rfl⟩
instance : Ent Tryz.prog 217 := ⟨enters_of Tryz.func217 (by kernel_rfl) rfl⟩
instance : Ent Tryz.prog 218 := ⟨enters_of Tryz.func218 (by kernel_rfl) rfl⟩
instance : Ent Tryz.prog 219 := ⟨enters_of Tryz.func219 (by kernel_rfl) rfl⟩
instance : Ent Tryz.prog 220 := ⟨enters_of Tryz.func220 (by kernel_rfl) rfl⟩
instance : Ent Tryz.prog 221 := ⟨enters_of Tryz.func221 (by kernel_rfl) rfl⟩
instance : Ent Tryz.prog 222 := ⟨enters_of Tryz.func222 (by kernel_rfl) rfl⟩
instance : Ent Tryz.prog 224 := ⟨enters_of Tryz.func224 (by kernel_rfl) rfl⟩
instance : Ent Tryz.prog 225 := ⟨enters_of Tryz.func225 (by kernel_rfl) rfl⟩
instance : Ent Tryz.prog 226 := ⟨enters_of Tryz.func226 (by kernel_rfl) rfl⟩
instance : Ent Tryz.prog 253 := ⟨enters_of Tryz.func253 (by kernel_rfl) rfl⟩
instance : Ent Tryz.prog 254 := ⟨enters_of Tryz.func254 (by kernel_rfl) rfl⟩
end Go.Proofs.YtjhocljhhpkiiaaGreatDoor
/- E7 -/
namespace Go.Proofs.YtjhocljhhpkiiaaGreatDoor
set_option linter.unusedSimpArgs false
set_option linter.unusedVariables false
abbrev W32 := BitVec 32
def rotr (x : W32) (n : Nat) : W32 := (x >>> n) ||| (x <<< (32 - n))
def sg0 (x : W32) : W32 := (rotr x 7 ^^^ rotr x 18) ^^^ (x >>> 3)
def sg1 (x : W32) : W32 := (rotr x 17 ^^^ rotr x 19) ^^^ (x >>> 10)
def bg1 (x : W32) : W32 := (rotr x 6 ^^^ rotr x 11) ^^^ rotr x 25
def bg0 (x : W32) : W32 := (rotr x 2 ^^^ rotr x 13) ^^^ rotr x 22
def ch (e f g : W32) : W32 := (e &&& f) ^^^ (~~~e &&& g)
def maj (a b c : W32) : W32 := ((a &&& b) ^^^ (a &&& c)) ^^^ (b &&& c)
theorem ch_eq (e f g : W32) : g ^^^ (e &&& (f ^^^ g)) = ch e f g := by
  unfold ch
  ext i hi
  simp only [BitVec.getElem_xor, BitVec.getElem_and, BitVec.getElem_not]
  cases e[i] <;> cases f[i] <;> cases g[i] <;> rfl
theorem maj_eq (a b c : W32) : (a &&& b) ||| (c &&& (a ||| b)) = maj a b c := by
  unfold maj
  ext i hi
  simp only [BitVec.getElem_xor, BitVec.getElem_and, BitVec.getElem_or]
  cases a[i] <;> cases b[i] <;> cases c[i] <;> rfl
def xorl (x : W32) (l : List Nat) : W32 := l.foldl (fun s n => s ^^^ rotr x n) 0
theorem xorl2 (x : W32) (a b : Nat) : xorl x [a, b] = rotr x a ^^^ rotr x b := by simp [xorl]
theorem xorl3 (x : W32) (a b c : Nat) : xorl x [a, b, c] = (rotr x a ^^^ rotr x b) ^^^ rotr x c := by simp [xorl]
theorem take_snoc {α : Type} {d : α} {l : List α} {k : Nat} (h : k < l.length) : l.take (k + 1) = l.take k ++ [l.getD k d] := by
  rw [List.take_succ_eq_append_getElem h]
  simp [List.getD, h]
theorem xorl_step (x : W32) {l : List Nat} {k : Nat} (h : k < l.length) : xorl x (l.take (k + 1)) = xorl x (l.take k) ^^^ rotr x (l.getD k 0) := by
  rw [take_snoc h (d := 0)]
  simp [xorl, List.foldl_append]
structure S8 where
  a : W32
  b : W32
  c : W32
  d : W32
  e : W32
  f : W32
  g : W32
  h : W32
def S8.l (s : S8) : List W32 := [s.a, s.b, s.c, s.d, s.e, s.f, s.g, s.h]
def t1 (k w : W32) (s : S8) : W32 := s.h + bg1 s.e + ch s.e s.f s.g + k + w
def t2 (s : S8) : W32 := bg0 s.a + maj s.a s.b s.c
def rnd (k w : W32) (s : S8) : S8 := ⟨t1 k w s + t2 s, s.a, s.b, s.c, s.d + t1 k w s, s.e, s.f, s.g⟩
def S8.add (s t : S8) : S8 := ⟨s.a + t.a, s.b + t.b, s.c + t.c, s.d + t.d, s.e + t.e, s.f + t.f, s.g + t.g, s.h + t.h⟩
def K64 : List W32 := [0x428a2f98, 0x71374491, 0xb5c0fbcf, 0xe9b5dba5, 0x3956c25b, 0x59f111f1, 0x923f82a4, 0xab1c5ed5, 0xd807aa98, 0x12835b01, 0x243185be, 0x550c7dc3, 0x72be5d74, 0x80deb1fe, 0x9bdc06a7, 0xc19bf174, 0xe49b69c1, 0xefbe4786, 0x0fc19dc6, 0x240ca1cc, 0x2de92c6f, 0x4a7484aa, 0x5cb0a9dc, 0x76f988da, 0x983e5152, 0xa831c66d, 0xb00327c8, 0xbf597fc7, 0xc6e00bf3, 0xd5a79147, 0x06ca6351, 0x14292967, 0x27b70a85, 0x2e1b2138, 0x4d2c6dfc, 0x53380d13, 0x650a7354, 0x766a0abb, 0x81c2c92e, 0x92722c85, 0xa2bfe8a1, 0xa81a664b, 0xc24b8b70, 0xc76c51a3, 0xd192e819, 0xd6990624, 0xf40e3585, 0x106aa070, 0x19a4c116, 0x1e376c08, 0x2748774c, 0x34b0bcb5, 0x391c0cb3, 0x4ed8aa4a, 0x5b9cca4f, 0x682e6ff3, 0x748f82ee, 0x78a5636f, 0x84c87814, 0x8cc70208, 0x90befffa, 0xa4506ceb, 0xbef9a3f7, 0xc67178f2]
theorem K64_len : K64.length = 64 := rfl
def H0 : S8 := ⟨0x6a09e667, 0xbb67ae85, 0x3c6ef372, 0xa54ff53a, 0x510e527f, 0x9b05688c, 0x1f83d9ab, 0x5be0cd19⟩
/-- word i of a block -/
def wrd (b : List UInt8) (i : Nat) : W32 := ((((b.getD (4 * i) 0).toBitVec.setWidth 32 <<< 24) ||| ((b.getD (4 * i + 1) 0).toBitVec.setWidth 32 <<< 16)) ||| ((b.getD (4 * i + 2) 0).toBitVec.setWidth 32 <<< 8)) ||| (b.getD (4 * i + 3) 0).toBitVec.setWidth 32
/-- the words of a block, one after the other -/
def nextW (l : List W32) : W32 := ((l.getD (l.length - 16) 0 + sg0 (l.getD (l.length - 15) 0)) + l.getD (l.length - 7) 0) + sg1 (l.getD (l.length - 2) 0)
def sch (b : List UInt8) : Nat → List W32
  | 0 => []
  | n + 1 => sch b n ++ [if n < 16 then wrd b n else nextW (sch b n)]
theorem sch_len (b : List UInt8) : ∀ n, (sch b n).length = n
  | 0 => rfl
  | n + 1 => by rw [sch, List.length_append, sch_len b n]; rfl
theorem sch_get (b : List UInt8) : ∀ (n m i : Nat), i < n → n ≤ m → (sch b m).getD i 0 = (sch b n).getD i 0 := by
  intro n m i hi hm
  induction m with
  | zero => omega
  | succ m ih =>
    by_cases e : n = m + 1
    · rw [e]
    · have hlt : i < (sch b m).length := by rw [sch_len]; omega
      rw [← ih (by omega), sch]
      simp [List.getD, List.getElem?_append_left hlt]
theorem sch_last (b : List UInt8) (n : Nat) : (sch b (n + 1)).getD n 0 = if n < 16 then wrd b n else nextW (sch b n) := by
  have h := sch_len b n
  rw [sch]
  simp [List.getD, List.getElem?_append_right (show (sch b n).length ≤ n by omega), h]
/-- word n of the schedule -/
def wat (b : List UInt8) (n : Nat) : W32 := (sch b 64).getD n 0
theorem wat_lo {b : List UInt8} {n : Nat} (h : n < 16) : wat b n = wrd b n := by
  unfold wat
  rw [sch_get b (n + 1) 64 n (by omega) (by omega), sch_last, if_pos h]
theorem wat_hi {b : List UInt8} {n : Nat} (h : 16 ≤ n) (h' : n < 64) : wat b n = ((wat b (n - 16) + sg0 (wat b (n - 15))) + wat b (n - 7)) + sg1 (wat b (n - 2)) := by
  unfold wat
  rw [sch_get b (n + 1) 64 n (by omega) (by omega), sch_last, if_neg (by omega), nextW, sch_len,
    sch_get b n 64 (n - 16) (by omega) (by omega), sch_get b n 64 (n - 15) (by omega) (by omega), sch_get b n 64 (n - 7) (by omega) (by omega), sch_get b n 64 (n - 2) (by omega) (by omega)]
/-- after so many rounds -/
def rnds (b : List UInt8) (s : S8) : Nat → S8
  | 0 => s
  | n + 1 => rnd (K64.getD n 0) (wat b n) (rnds b s n)
def comp (b : List UInt8) (s : S8) : S8 := s.add (rnds b s 64)
/-- the blocks, one after the other -/
def comps (l : List (List UInt8)) (s : S8) : S8 := l.foldl (fun s b => comp b s) s
theorem comps_snoc (l : List (List UInt8)) (b : List UInt8) (s : S8) : comps (l ++ [b]) s = comp b (comps l s) := by
  unfold comps
  rw [List.foldl_append]
  simp only [List.foldl_cons, List.foldl_nil]
/-- the byte i of 8, the highest first -/
def lenB (n i : Nat) : UInt8 := UInt8.ofBitVec ((BitVec.ofNat 64 (8 * n) >>> (8 * (7 - i))).setWidth 8)
def padN (n : Nat) : Nat := 64 * ((n + 72) / 64)
def pad (b : List UInt8) : List UInt8 := b ++ (128 :: List.replicate (padN b.length - b.length - 9) 0) ++ (List.range 8).map (lenB b.length)
theorem padN_ge (n : Nat) : n + 9 ≤ padN n := by unfold padN; omega
theorem pad_len (b : List UInt8) : (pad b).length = padN b.length := by
  have h := padN_ge b.length
  unfold pad
  generalize padN b.length = p at *
  rw [List.length_append, List.length_append, List.length_cons, List.length_replicate, List.length_map, List.length_range]
  omega
/-- ahead of the length -/
def padZ (b : List UInt8) : List UInt8 := b ++ (128 :: List.replicate (padN b.length - b.length - 1) 0)
def blk64 (l : List UInt8) (i : Nat) : List UInt8 := (l.drop (64 * i)).take 64
def blks (l : List UInt8) : List (List UInt8) := (List.range (l.length / 64)).map (blk64 l)
/-- byte i of a state -/
def outB (s : S8) (i : Nat) : UInt8 := UInt8.ofBitVec ((s.l.getD (i / 4) 0 >>> (24 - 8 * (i % 4))).setWidth 8)
def outL (s : S8) : List UInt8 := (List.range 32).map (outB s)
def sha (b : List UInt8) : B32 := ⟨outL (comps (blks (pad b)) H0), by simp [outL]⟩
/-- the length, written byte by byte from the end -/
def padI (b : List UInt8) : Nat → List UInt8
  | 0 => padZ b
  | i + 1 => (padI b i).set (padN b.length - 1 - i) (lenB b.length (7 - i))
theorem padI_len (b : List UInt8) : ∀ i, (padI b i).length = padN b.length
  | 0 => by
    have h := padN_ge b.length
    unfold padI padZ
    generalize padN b.length = p at *
    simp
    omega
  | i + 1 => by rw [padI, List.length_set, padI_len b i]
theorem padI_get (b : List UInt8) : ∀ i, i ≤ 8 → ∀ j, (padI b i)[j]? = if padN b.length - i ≤ j ∧ j < padN b.length then some (lenB b.length (j + 8 - padN b.length)) else (padZ b)[j]?
  | 0, _, j => by
    unfold padI
    rw [if_neg (by omega)]
  | i + 1, hi, j => by
    have hp := padN_ge b.length
    have hl := padI_len b i
    have ih := padI_get b i (by omega) j
    rw [padI, List.getElem?_set, hl]
    generalize padN b.length = p at *
    by_cases e : p - 1 - i = j
    · rw [if_pos e, if_pos (by omega), if_pos (by omega), show 7 - i = j + 8 - p by omega]
    · rw [if_neg e, ih]
      by_cases h : p - i ≤ j ∧ j < p
      · rw [if_pos h, if_pos (by omega)]
      · rw [if_neg h, if_neg (by omega)]
theorem padI_8 (b : List UInt8) : padI b 8 = pad b := by
  apply List.ext_getElem?
  intro j
  rw [padI_get b 8 (Nat.le_refl _) j]
  have hp := padN_ge b.length
  unfold pad padZ
  generalize padN b.length = p at *
  have hl : (b ++ (128 :: List.replicate (p - b.length - 9) 0)).length = p - 8 := by
    rw [List.length_append, List.length_cons, List.length_replicate]; omega
  by_cases h : p - 8 ≤ j ∧ j < p
  · rw [if_pos h, List.getElem?_append_right (by omega), hl, List.getElem?_map, List.getElem?_range (by omega), Option.map_some]
    congr 2
    omega
  · rw [if_neg h]
    by_cases h2 : j < p - 8
    · rw [List.getElem?_append_left (l₁ := b ++ (128 :: List.replicate (p - b.length - 9) 0)) (by omega)]
      by_cases h3 : j < b.length
      · rw [List.getElem?_append_left h3, List.getElem?_append_left h3]
      · rw [List.getElem?_append_right (by omega), List.getElem?_append_right (by omega)]
        cases hj : j - b.length with
        | zero => rfl
        | succ q =>
          rw [List.getElem?_cons_succ, List.getElem?_cons_succ, List.getElem?_replicate, List.getElem?_replicate, if_pos (by omega), if_pos (by omega)]
    · rw [List.getElem?_eq_none (by rw [List.length_append, List.length_cons, List.length_replicate]; omega), List.getElem?_eq_none (by rw [List.length_append, hl, List.length_map, List.length_range]; omega)]
end Go.Proofs.YtjhocljhhpkiiaaGreatDoor
/- U1 -/
namespace Go.Proofs.YtjhocljhhpkiiaaGreatDoor
set_option linter.unusedSimpArgs false
set_option linter.unusedVariables false
open Go.RowKit
section
variable {P : Program} {n : Nat} {D : List Deferred} {E : Env} {L : List Fa} {T T' : TypeId} {x y : Operand} {k : IntKind} {i j : Int} {m : Nat}
theorem r_subU {p q : Nat} [hk : UK k m] (hx : ev E x = some (.int k i)) (hy : ev E y = some (.int k j)) [ha : NatOf i p] [hb : NatOf j q] (h : q ≤ p ∧ p < 2 ^ m) : Runs0 P n D E L (.binOp .sub T x y T') (.int k ((p - q : Nat) : Int)) := fun c w ka s o ho => by
  obtain rfl := ha.eq
  obtain rfl := hb.eq
  refine run_bin ho (ka.ev hx) (ka.ev hy) (by cases k <;> rfl) ?_
  have e : binOp .sub T (.int k (p : Int)) (.int k (q : Int)) = Op.intArith .sub k p q := by simp [binOp]
  rw [e]
  simp only [Op.intArith, hk.wrap]
  rw [Int.emod_eq_of_lt (by omega) (by have h2 := h.2; have : ((p : Nat) : Int) < ((2 ^ m : Nat) : Int) := by exact_mod_cast h2
                                       push_cast at this; omega)]
  rw [Int.ofNat_sub h.1]
  rfl
end
theorem rot_and (n : Nat) (h : 1 ≤ n ∧ n ≤ 31) : (((BitVec.ofInt 64 (-(n : Int))) &&& BitVec.ofNat 64 31).toNat : Int) = ((32 - n : Nat) : Int) := by
  have key : ∀ k : Fin 32, 1 ≤ k.val → ((BitVec.ofInt 64 (-(k.val : Int))) &&& BitVec.ofNat 64 31).toNat = 32 - k.val := by decide +kernel
  have := key ⟨n, by omega⟩ h.1
  simp only at this
  rw [this]
theorem rot_eq (x : W32) (n : Nat) (h : 1 ≤ n ∧ n ≤ 31) : (x <<< (32 - n)) ||| (x >>> (32 - (32 - n))) = rotr x n := by
  rw [show 32 - (32 - n) = n by omega, BitVec.or_comm]; rfl
theorem Rot_s (x : W32) (n : Nat) (h : 1 ≤ n ∧ n ≤ 31) : Spec Tryz.prog 214 [.int .u32 (x.toNat : Int), .int .i64 (-(n : Int))].toArray [] [] (fun _ : Unit => .int .u32 ((rotr x n).toNat : Int)) (fun _ => []) := by
  refine spec_of Tryz.func214 rfl (n := 17) rfl rfl ?_
  intro W
  refine h_seq ?_
  refine h_reg ?_
  refine h_op (r_assign rfl) ?_
  refine h_nil ?_
  refine q_then ?_
  refine h_seq ?_
  refine h_reg ?_
  refine h_op (r_move rfl) ?_
  refine h_op (r_cI rfl) ?_
  refine h_op (r_int (r_and rfl rfl) (rot_and n h)) ?_
  refine h_op (r_assign rfl) ?_
  refine h_nil ?_
  refine q_then ?_
  refine h_seq ?_
  refine h_reg ?_
  refine h_op (r_move rfl) ?_
  refine h_op (r_move rfl) ?_
  refine h_op (r_shl rfl rfl) ?_
  refine h_op (r_move rfl) ?_
  refine h_op (r_move rfl) ?_
  refine h_op (r_subU rfl rfl ⟨by omega, by omega⟩) ?_
  refine h_op (r_shr rfl rfl) ?_
  refine h_op (r_or rfl rfl) ?_
  refine h_op (r_assign rfl) ?_
  refine h_nil ?_
  refine q_then ?_
  refine h_ret ?_
  exact h_ret1 rfl rfl fun w s => ⟨(), by rw [← rot_eq x n h], s.res (List.Sublist.refl _) (by simp)⟩
theorem turn_s (x : W32) (n : Nat) (h : 1 ≤ n ∧ n ≤ 31) : Spec Tryz.prog 138 [.int .u32 (x.toNat : Int), .int .u64 (n : Int)].toArray [] [] (fun _ : Unit => .int .u32 ((rotr x n).toNat : Int)) (fun _ => []) := by
  refine spec_of Tryz.func138 rfl (n := 13) rfl rfl ?_
  intro W
  refine h_seq ?_
  refine h_reg ?_
  refine h_op (r_assign rfl) ?_
  refine h_nil ?_
  refine q_then ?_
  refine h_seq ?_
  refine h_reg ?_
  refine h_op (r_move rfl) ?_
  refine h_op (r_move rfl) ?_
  refine h_op (r_shr rfl rfl) ?_
  refine h_op (r_move rfl) ?_
  refine h_op (r_move rfl) ?_
  refine h_op (r_subU rfl rfl ⟨by omega, by omega⟩) ?_
  refine h_op (r_shl rfl rfl) ?_
  refine h_op (r_or rfl rfl) ?_
  refine h_op (r_assign rfl) ?_
  refine h_nil ?_
  refine q_then ?_
  refine h_ret ?_
  exact h_ret1 rfl rfl fun w s => ⟨(), rfl, s.res (List.Sublist.refl _) (by simp)⟩
theorem right_s (x : W32) (l : List Nat) (hl : ∀ n ∈ l, 1 ≤ n ∧ n ≤ 31) (b o c : Nat) (hn : l.length ≤ 100) : Spec Tryz.prog 184 [.int .u32 (x.toNat : Int), .slice (some ⟨b, o, none⟩) l.length c].toArray [.rd (some ⟨b, o, none⟩) (ic l)] [] (fun _ : Unit => .int .u32 ((xorl x l).toNat : Int)) (fun _ => []) := by
  refine spec_of Tryz.func184 rfl (n := 22) rfl rfl ?_
  intro W
  refine h_seq ?_
  refine h_reg ?_
  refine h_op (r_assign rfl) ?_
  refine h_nil ?_
  refine q_then ?_
  refine h_seq ?_
  refine h_reg ?_
  refine h_op (r_assign rfl) ?_
  refine h_nil ?_
  refine q_then ?_
  refine h_seq ?_
  refine h_seq ?_
  refine h_reg ?_
  refine h_op (r_move rfl) ?_
  refine h_op (r_len rfl) ?_
  refine h_op (r_move rfl) ?_
  refine h_nil ?_
  refine q_then ?_
  refine h_block ?_
  refine h_loop (fun (k : Nat) => k ≤ l.length) (fun (k : Nat) => [(10, .int .i64 (k : Int)), (9, .int .i64 (l.length : Int)), (8, .slice (some ⟨b, o, none⟩) l.length c), (5, .int .u32 ((xorl x (l.take k)).toNat : Int)), (0, .int .u32 (x.toNat : Int))]) (fun (k : Nat) => [.rd (some ⟨b, o, none⟩) (ic l)]) (fun (k : Nat) => l.length - k) 0 (Nat.zero_le _) ⟨rfl, rfl, rfl, rfl, rfl, trivial⟩ (fun _ s => s) ?_
  intro k hk
  refine h_seq ?_
  refine h_reg ?_
  refine h_op (r_lss rfl rfl) ?_
  refine h_nil ?_
  refine q_then ?_
  refine h_seq ?_
  refine h_cond rfl (fun h => ?_) (fun h => ?_)
  · have hb := hl (l.getD k 0) (by rw [List.getD, List.getElem?_eq_getElem (by omega)]; exact List.getElem_mem _)
    refine h_skip ?_
    refine q_then ?_
    refine h_seq ?_
    refine h_block ?_
    refine h_seq ?_
    refine h_reg ?_
    refine h_op (r_idx rfl rfl) ?_
    refine h_op (r_nth rfl (ic_at (by omega))) ?_
    refine h_op (r_assign rfl) ?_
    refine h_nil ?_
    refine q_then ?_
    refine h_reg ?_
    refine h_op (r_move rfl) ?_
    refine h_op (r_move rfl) ?_
    refine h_op (r_move rfl) ?_
    refine h_op (r_neg rfl) ?_
    refine h_call ((Rot_s x (l.getD k 0) hb).comes) rfl rfl rfl fun _ => ?_
    refine h_op (r_xor rfl rfl) ?_
    refine h_op (r_assign rfl) ?_
    refine h_nil ?_
    refine q_block ?_
    refine q_then ?_
    refine h_reg ?_
    refine h_op (r_add rfl rfl) ?_
    refine h_op (r_move rfl) ?_
    refine h_nil ?_
    exact h_back (k + 1) (by omega) (by omega) ⟨rfl, rfl, rfl, by rw [xorl_step x (by omega)]; rfl, rfl, trivial⟩ (same)
  · refine h_exit ?_
    refine q_thenE ?_
    refine q_thenE ?_
    refine q_blockE ?_
    refine q_then ?_
    refine h_seq ?_
    refine h_reg ?_
    refine h_op (r_move rfl) ?_
    refine h_op (r_assign rfl) ?_
    refine h_nil ?_
    refine q_then ?_
    refine h_ret ?_
    obtain rfl : k = l.length := by omega
    exact h_ret1 rfl rfl fun w s => ⟨(), by rw [List.take_length], s.res (List.nil_sublist _) (by simp)⟩
theorem Blocks_s (m : Nat) (h : m ≤ 1000000000000) : Spec Tryz.prog 186 [.int .i64 (m : Int)].toArray [] [] (fun _ : Unit => .int .i64 (((m + 72) / 64 : Nat) : Int)) (fun _ => []) := by
  refine spec_of Tryz.func186 rfl (n := 13) rfl rfl ?_
  intro W
  refine h_seq ?_
  refine h_reg ?_
  refine h_op (r_assign rfl) ?_
  refine h_nil ?_
  refine q_then ?_
  refine h_seq ?_
  refine h_seq ?_
  refine h_reg ?_
  refine h_op (r_move rfl) ?_
  refine h_op (r_bool (r_lss rfl rfl) (decide_eq_false (by omega))) ?_
  refine h_op (r_move rfl) ?_
  refine h_op (r_move rfl) ?_
  refine h_op (r_bool (r_gtr rfl rfl) (decide_eq_false (by omega))) ?_
  refine h_op (r_pick rfl rfl) ?_
  refine h_nil ?_
  refine q_then ?_
  refine h_condF rfl ?_
  refine h_skip ?_
  refine q_then ?_
  refine h_seq ?_
  refine h_reg ?_
  refine h_op (r_move rfl) ?_
  refine h_op (r_add rfl rfl) ?_
  refine h_op (r_add rfl rfl) ?_
  refine h_op (r_int (r_quo rfl rfl) (show _ = (((m + 72) / 64 : Nat) : Int) by omega)) ?_
  refine h_op (r_assign rfl) ?_
  refine h_nil ?_
  refine q_then ?_
  refine h_ret ?_
  exact h_ret1 rfl rfl fun w s => ⟨(), rfl, s.res (List.Sublist.refl _) (by simp)⟩
theorem padZ_eq (l : List UInt8) : (l ++ (List.replicate (padN l.length) (0 : UInt8)).drop l.length).set l.length (UInt8.ofBitVec 128) = padZ l := by
  have h := padN_ge l.length
  unfold padZ
  generalize padN l.length = p at *
  rw [List.set_append_right _ _ (Nat.le_refl _), Nat.sub_self, List.drop_replicate]
  obtain ⟨q, hq⟩ : ∃ q, p - l.length = q + 1 := ⟨p - l.length - 1, by omega⟩
  rw [hq, List.replicate_succ, List.set_cons_zero]
  rfl
theorem lenB_eq (n i : Nat) (h : i ≤ 7) (hn : n ≤ 1000000000000) : UInt8.ofBitVec (((BitVec.ofNat 64 n * 8) >>> (8 * i)).setWidth 8) = lenB n (7 - i) := by
  unfold lenB
  rw [show 7 - (7 - i) = i by omega, show BitVec.ofNat 64 n * 8 = BitVec.ofNat 64 (8 * n) by rw [Nat.mul_comm, BitVec.ofNat_mul]; rfl]
theorem Pad_s (l : List UInt8) (A : Option Addr) (c : Nat) (hA : A = none → l.length = 0 ∧ c = 0) (hn : l.length ≤ 100000000000) : Spec Tryz.prog 133 [.slice A l.length c].toArray [.rd A (bc l)] [] (fun u : Nat × Nat => .slice (some ⟨u.1, 0, none⟩) (pad l).length u.2) (fun u => [.own (.slice (some ⟨u.1, 0, none⟩) (pad l).length u.2) (pad l).length 5 1 (bc (pad l))]) := by
  rw [← padI_8, padI_len]
  have hp : 64 * ((l.length + 72) / 64) = padN l.length := rfl
  have hp2 := padN_ge l.length
  have hp3 : padN l.length ≤ l.length + 72 := by unfold padN; omega
  have hz := padZ_eq l
  have h8 := padI_len l
  have hst : ∀ i, i < 8 → padI l (i + 1) = (padI l i).set (padN l.length - 1 - i) (lenB l.length (7 - i)) := fun i _ => by rw [padI]
  have h0 : padI l 0 = padZ l := rfl
  generalize padN l.length = p at *
  obtain ⟨q, hq⟩ : ∃ q, q = l ++ List.drop l.length (List.replicate p 0) := ⟨_, rfl⟩
  have hql : q.length = p := by rw [hq, List.length_append, List.length_drop, List.length_replicate]; omega
  rw [← hq] at hz
  refine spec_of Tryz.func133 rfl (n := 39) rfl rfl ?_
  intro W
  refine h_seq ?_
  refine h_reg ?_
  refine h_op (r_assign rfl) ?_
  refine h_nil ?_
  refine q_then ?_
  refine h_seq ?_
  refine h_reg ?_
  refine h_op (r_move rfl) ?_
  refine h_op (r_len rfl) ?_
  refine h_call ((Blocks_s l.length (by omega)).comes) rfl rfl rfl fun _ => ?_
  refine h_op (r_int (r_mul rfl rfl) (show _ = (p : Int) by omega)) ?_
  refine h_opX (x_makeB rfl rfl) fun g10 => ?_
  refine h_op (r_assign rfl) ?_
  refine h_nil ?_
  refine q_then ?_
  refine h_seq ?_
  refine h_reg ?_
  refine h_op (r_move rfl) ?_
  refine h_op (r_move rfl) ?_
  refine h_opX (x_copyB rfl rfl (fun e => (hA e).1) rfl) fun _ => ?_
  refine h_nil ?_
  refine q_then ?_
  refine h_seq ?_
  refine h_reg ?_
  refine h_op (r_move rfl) ?_
  refine h_op (r_move rfl) ?_
  refine h_op (r_len rfl) ?_
  rw [← hq]
  refine h_op (r_idx rfl rfl) ?_
  refine h_opS (s_setBO rfl rfl) ?_
  refine h_nil ?_
  refine q_then ?_
  refine h_seq ?_
  refine h_reg ?_
  refine h_op (r_move rfl) ?_
  refine h_op (r_len rfl) ?_
  refine h_op (r_cNW rfl) ?_
  refine h_op (r_mulW rfl rfl) ?_
  refine h_op (r_assign rfl) ?_
  refine h_nil ?_
  refine q_then ?_
  refine h_seq ?_
  refine h_seq ?_
  refine h_reg ?_
  refine h_op (r_move rfl) ?_
  refine h_nil ?_
  refine q_then ?_
  refine h_block ?_
  rw [hz]
  refine h_loop (fun (i : Nat) => i ≤ 8) (fun (i : Nat) => [(22, .int .i64 (i : Int)), (3, .slice (some ⟨g10, 0, none⟩) p p), (4, .int .u64 ((BitVec.ofNat 64 l.length * 8).toNat : Int))]) (fun (i : Nat) => [.own (.slice (some ⟨g10, 0, none⟩) p p) p 5 1 (bc (padI l i))]) (fun (i : Nat) => 8 - i) 0 (by omega) ⟨rfl, rfl, rfl, trivial⟩ (by rw [h0]; exact same) ?_
  intro i hi
  have hl := h8 i
  refine h_seq ?_
  refine h_reg ?_
  refine h_op (r_lss rfl rfl) ?_
  refine h_nil ?_
  refine q_then ?_
  refine h_seq ?_
  refine h_cond rfl (fun h => ?_) (fun h => ?_)
  · refine h_skip ?_
    refine q_then ?_
    refine h_seq ?_
    refine h_block ?_
    refine h_seq ?_
    refine h_reg ?_
    refine h_op (r_move rfl) ?_
    refine h_op (r_assign rfl) ?_
    refine h_nil ?_
    refine q_then ?_
    refine h_reg ?_
    refine h_op (r_move rfl) ?_
    refine h_op (r_move rfl) ?_
    refine h_op (r_len rfl) ?_
    refine h_op (r_subN rfl rfl) ?_
    refine h_op (r_move rfl) ?_
    refine h_op (r_subN rfl rfl) ?_
    refine h_op (r_move rfl) ?_
    refine h_op (r_move rfl) ?_
    refine h_op (r_mul rfl rfl) ?_
    refine h_op (r_shr rfl rfl) ?_
    refine h_op (r_cW rfl) ?_
    refine h_op (r_idx rfl rfl) ?_
    refine h_opS (s_setBO rfl rfl) ?_
    refine h_nil ?_
    refine q_block ?_
    refine q_then ?_
    rw [lenB_eq l.length i (by omega) (by omega), ← hst i (by omega)]
    refine h_reg ?_
    refine h_op (r_add rfl rfl) ?_
    refine h_op (r_move rfl) ?_
    refine h_nil ?_
    exact h_back (i + 1) (by omega) (by omega) ⟨rfl, rfl, rfl, trivial⟩ (same)
  · refine h_exit ?_
    refine q_thenE ?_
    refine q_thenE ?_
    refine q_blockE ?_
    refine q_then ?_
    refine h_seq ?_
    refine h_reg ?_
    refine h_op (r_move rfl) ?_
    refine h_op (r_assign rfl) ?_
    refine h_nil ?_
    refine q_then ?_
    refine h_ret ?_
    obtain rfl : i = 8 := by omega
    exact h_ret1 rfl rfl fun w s => ⟨(g10, p), rfl, s.res (List.Sublist.refl _) (by simp [Fa.wr])⟩
end Go.Proofs.YtjhocljhhpkiiaaGreatDoor
/- U2 -/
namespace Go.Proofs.YtjhocljhhpkiiaaGreatDoor
set_option linter.unusedSimpArgs false
set_option linter.unusedVariables false
open Go.RowKit
def idxd : Nat → List Value → List (Nat × Value)
  | _, [] => []
  | k, v :: l => (k, v) :: idxd (k + 1) l
theorem parts_idxd : ∀ (l : List Value) (k : Nat), (∀ v ∈ l, v.oneCell' = true) → Parts 1 k (idxd k l) l
  | [], k, _ => inferInstanceAs (Parts 1 k [] [])
  | v :: l, k, h => by
    have h1 : v.oneCell' = true := h v (by simp)
    have hv : VCells v [v] := ⟨by cases v <;> first | rfl | simp [Value.oneCell'] at h1⟩
    exact Parts.cons hv (row_one h1) (parts_idxd l (k + 1) fun u hu => h u (by simp [hu]))
theorem wc_one {m : Nat} (k : IntKind) (l : List (BitVec m)) : ∀ v ∈ wc k l, v.oneCell' = true := by
  intro v hv
  obtain ⟨x, _, rfl⟩ := List.mem_map.1 hv
  rfl
instance rowK64 : Row (wc .u32 K64) 64 := ⟨rfl, wc_one _ _⟩
theorem primes_parts : Parts 1 0 (idxd 0 (wc .u32 K64)) (wc .u32 K64) := parts_idxd _ 0 (wc_one _ _)
theorem primes_s : Spec Tryz.prog 135 ([] : List Value).toArray [] [] (fun g : Nat => .slice (some ⟨g, 0, none⟩) 64 64) (fun g => [.own (.slice (some ⟨g, 0, none⟩) 64 64) 64 204 1 (wc .u32 K64)]) := by
  refine spec_of Tryz.func135 rfl (n := 2) rfl rfl ?_
  intro W
  refine h_seq ?_
  refine h_reg ?_
  refine h_op (r_assign rfl) ?_
  refine h_nil ?_
  refine q_then ?_
  refine h_seq ?_
  refine h_reg ?_
  refine h_opX (x_bsl (ps := idxd 0 (wc .u32 K64)) rfl rfl (hf := primes_parts) (ho := rowK64)) fun g1 => ?_
  refine h_op (r_assign rfl) ?_
  refine h_nil ?_
  refine q_then ?_
  refine h_ret ?_
  exact h_ret1 rfl rfl fun w s => ⟨g1, rfl, s.res (List.Sublist.refl _) (by simp [Fa.wr])⟩
def padR (l : List UInt8) (k : Nat) : List UInt8 := (l ++ [128]) ++ List.replicate k 0
theorem padR_step (l : List UInt8) (k : Nat) : padR l k ++ [UInt8.ofBitVec 0] = padR l (k + 1) := by
  unfold padR
  rw [List.replicate_succ', List.append_assoc]
  rfl
def padJ (l : List UInt8) (j : Nat) : List UInt8 := padR l (padN l.length - l.length - 9) ++ (List.range j).map (lenB l.length)
theorem padJ_step (l : List UInt8) (j : Nat) : padJ l j ++ [lenB l.length j] = padJ l (j + 1) := by
  unfold padJ
  rw [List.range_succ, List.map_append, List.append_assoc]
  rfl
theorem padJ_8 (l : List UInt8) : padJ l 8 = pad l := by
  unfold padJ padR pad
  simp only [List.append_assoc, List.cons_append, List.nil_append]
theorem lenB_eq2 (n j : Nat) (h : j ≤ 7) (hn : n ≤ 1000000000000) : UInt8.ofBitVec (((BitVec.ofNat 64 n * 8) >>> (56 - 8 * j)).setWidth 8) = lenB n j := by
  have := lenB_eq n (7 - j) (by omega) hn
  rwa [show 8 * (7 - j) = 56 - 8 * j by omega, show 7 - (7 - j) = j by omega] at this
theorem refPad_s (l : List UInt8) (A : Option Addr) (c : Nat) (hA : A = none → l.length = 0 ∧ c = 0) (hn : l.length ≤ 100000000000) : Spec Tryz.prog 136 [.slice A l.length c].toArray [.rd A (bc l)] [] (fun u : Nat × Nat => .slice (some ⟨u.1, 0, none⟩) (pad l).length u.2) (fun u => [.own (.slice (some ⟨u.1, 0, none⟩) (pad l).length u.2) (pad l).length 5 1 (bc (pad l))]) := by
  rw [pad_len]
  have hp : 64 * ((l.length + 72) / 64) = padN l.length := rfl
  have hp2 := padN_ge l.length
  have hj0 : ∀ k, k = padN l.length - l.length - 9 → padR l k = padJ l 0 := fun k hk => by unfold padJ; rw [hk]; simp
  generalize padN l.length = p at *
  refine spec_of Tryz.func136 rfl (n := 36) rfl rfl ?_
  intro W
  refine h_seq ?_
  refine h_reg ?_
  refine h_op (r_assign rfl) ?_
  refine h_nil ?_
  refine q_then ?_
  refine h_seq ?_
  refine h_reg ?_
  refine h_opX (x_bsl0 (xs := bc [])) fun g6 => ?_
  refine h_op (r_move rfl) ?_
  refine h_opX (x_appAB rfl rfl hA rfl) fun ⟨A8, c8⟩ => ?_
  refine h_op (r_assign rfl) ?_
  refine h_nil ?_
  refine q_then ?_
  refine h_seq ?_
  refine h_reg ?_
  refine h_op (r_move rfl) ?_
  refine h_opX (x_bsl rfl rfl) fun g10 => ?_
  refine h_opX (x_app1B rfl rfl) fun ⟨g11, c11⟩ => ?_
  refine h_op (r_assign rfl) ?_
  refine h_nil ?_
  refine q_then ?_
  refine h_seq ?_
  refine h_block ?_
  rw [show ([] ++ l) ++ [UInt8.ofBitVec 128] = padR l 0 by simp [padR]]
  refine h_loop (fun (s : Nat × Nat × Nat) => l.length + 1 + s.1 ≤ p - 8) (fun (s : Nat × Nat × Nat) => [(3, .slice (some ⟨s.2.1, 0, none⟩) (l.length + 1 + s.1) s.2.2), (0, .slice A l.length c)]) (fun (s : Nat × Nat × Nat) => [.own (.slice (some ⟨s.2.1, 0, none⟩) (l.length + 1 + s.1) s.2.2) (l.length + 1 + s.1) 5 1 (bc (padR l s.1))]) (fun (s : Nat × Nat × Nat) => p - s.1) (0, g11, c11) ((show l.length + 1 + 0 ≤ p - 8 by omega)) ⟨rfl, rfl, trivial⟩ (same) ?_
  rintro ⟨k, g, cp⟩ hk
  simp only at hk
  refine h_seq ?_
  refine h_seq ?_
  refine h_reg ?_
  refine h_op (r_move rfl) ?_
  refine h_op (r_len rfl) ?_
  refine h_op (r_rem rfl rfl) ?_
  refine h_op (r_neq rfl rfl) ?_
  refine h_nil ?_
  refine q_then ?_
  refine h_cond rfl (fun h => ?_) (fun h => ?_)
  · have hlt : l.length + 1 + k < p - 8 := by omega
    refine h_skip ?_
    refine q_then ?_
    refine h_block ?_
    refine h_reg ?_
    refine h_op (r_move rfl) ?_
    refine h_opX (x_bsl rfl rfl) fun g17 => ?_
    refine h_opX (x_app1B rfl rfl) fun ⟨g18, c18⟩ => ?_
    refine h_op (r_assign rfl) ?_
    refine h_nil ?_
    refine q_block ?_
    rw [padR_step]
    exact h_back (k + 1, g18, c18) ((show l.length + 1 + (k + 1) ≤ p - 8 by omega)) ((show p - (k + 1) < p - k by omega)) ⟨rfl, rfl, trivial⟩ (same)
  · have hk2 : k = p - l.length - 9 := by omega
    rw [hj0 k hk2]
    have hN : l.length + 1 + k = p - 8 := by omega
    rw [hN]
    refine h_exit ?_
    refine q_thenE ?_
    refine q_thenE ?_
    refine q_blockE ?_
    refine q_then ?_
    refine h_seq ?_
    refine h_reg ?_
    refine h_op (r_move rfl) ?_
    refine h_op (r_len rfl) ?_
    refine h_op (r_cNW rfl) ?_
    refine h_op (r_mulW rfl rfl) ?_
    refine h_op (r_assign rfl) ?_
    refine h_nil ?_
    refine q_then ?_
    refine h_seq ?_
    refine h_seq ?_
    refine h_reg ?_
    refine h_op (r_assign rfl) ?_
    refine h_nil ?_
    refine q_then ?_
    refine h_block ?_
    refine h_loop (fun (s : Nat × Nat × Nat) => s.1 ≤ 8) (fun (s : Nat × Nat × Nat) => [(3, .slice (some ⟨s.2.1, 0, none⟩) (p - 8 + s.1) s.2.2), (4, .int .u64 ((BitVec.ofNat 64 l.length * 8).toNat : Int)), (5, .int .i64 (56 - 8 * (s.1 : Int)))]) (fun (s : Nat × Nat × Nat) => [.own (.slice (some ⟨s.2.1, 0, none⟩) (p - 8 + s.1) s.2.2) (p - 8 + s.1) 5 1 (bc (padJ l s.1))]) (fun (s : Nat × Nat × Nat) => 8 - s.1) (0, g, cp) ((show 0 ≤ 8 by omega)) ⟨rfl, rfl, rfl, trivial⟩ (same) ?_
    rintro ⟨j, g, cp⟩ hj
    simp only at hj
    refine h_seq ?_
    refine h_seq ?_
    refine h_reg ?_
    refine h_op (r_move rfl) ?_
    refine h_op (r_geq rfl rfl) ?_
    refine h_nil ?_
    refine q_then ?_
    refine h_cond rfl (fun h => ?_) (fun h => ?_)
    · refine h_skip ?_
      refine q_then ?_
      refine h_seq ?_
      refine h_block ?_
      refine h_reg ?_
      refine h_op (r_move rfl) ?_
      refine h_op (r_move rfl) ?_
      refine h_op (r_move rfl) ?_
      refine h_op (r_cP (q := 56 - 8 * j) rfl (by omega) (by omega)) ?_
      refine h_op (r_shr rfl rfl) ?_
      refine h_op (r_cW rfl) ?_
      refine h_opX (x_bsl rfl rfl) fun g33 => ?_
      refine h_opX (x_app1B rfl rfl) fun ⟨g34, c34⟩ => ?_
      refine h_op (r_assign rfl) ?_
      refine h_nil ?_
      refine q_block ?_
      refine q_then ?_
      refine h_reg ?_
      refine h_op (r_move rfl) ?_
      refine h_op (r_sub rfl rfl) ?_
      refine h_op (r_assign rfl) ?_
      refine h_nil ?_
      rw [lenB_eq2 l.length j (by omega) (by omega), padJ_step]
      exact h_back (j + 1, g34, c34) ((show j + 1 ≤ 8 by omega)) ((show 8 - (j + 1) < 8 - j by omega)) ⟨rfl, rfl, aI rfl (by omega), trivial⟩ (same)
    · obtain rfl : j = 8 := by omega
      rw [padJ_8, show p - 8 + 8 = p by omega]
      refine h_exit ?_
      refine q_thenE ?_
      refine q_thenE ?_
      refine q_blockE ?_
      refine q_then ?_
      refine h_seq ?_
      refine h_reg ?_
      refine h_op (r_move rfl) ?_
      refine h_op (r_assign rfl) ?_
      refine h_nil ?_
      refine q_then ?_
      refine h_ret ?_
      exact h_ret1 rfl rfl fun w s => ⟨(g, cp), rfl, s.res (List.Sublist.refl _) (by simp [Fa.wr])⟩
end Go.Proofs.YtjhocljhhpkiiaaGreatDoor
/- U3 -/
namespace Go.Proofs.YtjhocljhhpkiiaaGreatDoor
set_option linter.unusedSimpArgs false
set_option linter.unusedVariables false
open Go.RowKit
theorem Sx.ownSome {A : List Fa} {W w : World} {L M : List Fa} {B : Option Addr} {N c e size : Nat} {xs : List Value} (s : Sx A W w L) [hd : TakeO (.slice B N c) L N e size xs M] (h : 0 < N) : ∃ g, B = some ⟨g, 0, none⟩ := by
  have ho : w.ownsRow 0 e size (.slice B N c) N xs := (s.perm hd.perm).ok (.own _ _ _ _ _) (List.mem_cons_self ..)
  rcases ho.2 with ⟨_, rfl⟩ | ⟨g, cap, cur, e1, _⟩
  · omega
  · injection e1 with e1 _ _
    exact ⟨g, e1⟩
theorem sch_lo (l : List UInt8) (k : Nat) (h : k < 16) : sch l (k + 1) = sch l k ++ [wrd l k] := by rw [sch, if_pos h]
theorem sch_hi (l : List UInt8) (k : Nat) (h : 16 ≤ k) : sch l (k + 1) = sch l k ++ [(((sch l k).getD (k - 16) 0 + sg0 ((sch l k).getD (k - 15) 0)) + (sch l k).getD (k - 7) 0) + sg1 ((sch l k).getD (k - 2) 0)] := by
  rw [sch, if_neg (by omega), nextW, sch_len]
theorem schedule_s (l : List UInt8) (b o c : Nat) (hl : l.length = 64) : Spec Tryz.prog 137 [.slice (some ⟨b, o, none⟩) 64 c].toArray [.rd (some ⟨b, o, none⟩) (bc l)] [] (fun u : Nat × Nat => .slice (some ⟨u.1, 0, none⟩) 64 u.2) (fun u => [.own (.slice (some ⟨u.1, 0, none⟩) 64 u.2) 64 204 1 (wc .u32 (sch l 64))]) := by
  refine spec_of Tryz.func137 rfl (n := 95) rfl rfl ?_
  intro W
  refine h_seq ?_
  refine h_reg ?_
  refine h_op (r_assign rfl) ?_
  refine h_nil ?_
  refine q_then ?_
  refine h_seq ?_
  refine h_reg ?_
  refine h_op (r_assign rfl) ?_
  refine h_nil ?_
  refine q_then ?_
  refine h_seq ?_
  refine h_seq ?_
  refine h_reg ?_
  refine h_op (r_assign rfl) ?_
  refine h_nil ?_
  refine q_then ?_
  refine h_block ?_
  refine h_nil_own 204 1 (xs := wc .u32 (sch l 0)) rfl ?_
  refine h_loop (fun (s : Nat × Option Addr × Nat) => s.1 ≤ 16) (fun (s : Nat × Option Addr × Nat) => [(4, .int .i64 (s.1 : Int)), (3, .slice s.2.1 s.1 s.2.2), (0, .slice (some ⟨b, o, none⟩) 64 c)]) (fun (s : Nat × Option Addr × Nat) => [.own (.slice s.2.1 s.1 s.2.2) s.1 204 1 (wc .u32 (sch l s.1)), .rd (some ⟨b, o, none⟩) (bc l)]) (fun (s : Nat × Option Addr × Nat) => 16 - s.1) (0, none, 0) ((show 0 ≤ 16 by omega)) ⟨rfl, rfl, rfl, trivial⟩ (same) ?_
  rintro ⟨k, B, cp⟩ hk
  dsimp only at hk ⊢
  refine h_seq ?_
  refine h_seq ?_
  refine h_reg ?_
  refine h_op (r_move rfl) ?_
  refine h_op (r_lss rfl rfl) ?_
  refine h_nil ?_
  refine q_then ?_
  refine h_cond rfl (fun h => ?_) (fun h => ?_)
  · have hst := sch_lo l k (by omega)
    unfold wrd at hst
    refine h_skip ?_
    refine q_then ?_
    refine h_seq ?_
    refine h_block ?_
    refine ha_start [.rd (some ⟨b, o, none⟩) (bc l)] [] mixed (same) ?_
    refine ha_takeP 0 rfl (r_move rfl) ?_
    refine ha_takeP 1 rfl (r_move rfl) ?_
    refine ha_takeP 2 rfl (r_move rfl) ?_
    refine ha_takeP 3 rfl (r_mul rfl rfl) ?_
    refine ha_takeP 4 rfl (r_idx rfl rfl) ?_
    refine ha_take 5 rfl (r_nth rfl (bc_at' (by omega))) ?_
    refine ha_takeP 6 rfl (r_cW rfl) ?_
    refine ha_takeP 7 rfl (r_shl rfl rfl) ?_
    refine ha_takeP 8 rfl (r_move rfl) ?_
    refine ha_takeP 9 rfl (r_move rfl) ?_
    refine ha_takeP 10 rfl (r_mul rfl rfl) ?_
    refine ha_takeP 11 rfl (r_add rfl rfl) ?_
    refine ha_takeP 12 rfl (r_idx rfl rfl) ?_
    refine ha_take 13 rfl (r_nth rfl (bc_at' (by omega))) ?_
    refine ha_takeP 14 rfl (r_cW rfl) ?_
    refine ha_takeP 15 rfl (r_shl rfl rfl) ?_
    refine ha_takeP 16 rfl (r_or rfl rfl) ?_
    refine ha_takeP 17 rfl (r_move rfl) ?_
    refine ha_takeP 18 rfl (r_move rfl) ?_
    refine ha_takeP 19 rfl (r_mul rfl rfl) ?_
    refine ha_takeP 20 rfl (r_add rfl rfl) ?_
    refine ha_takeP 21 rfl (r_idx rfl rfl) ?_
    refine ha_take 22 rfl (r_nth rfl (bc_at' (by omega))) ?_
    refine ha_takeP 23 rfl (r_cW rfl) ?_
    refine ha_takeP 24 rfl (r_shl rfl rfl) ?_
    refine ha_takeP 25 rfl (r_or rfl rfl) ?_
    refine ha_takeP 26 rfl (r_move rfl) ?_
    refine ha_takeP 27 rfl (r_move rfl) ?_
    refine ha_takeP 28 rfl (r_mul rfl rfl) ?_
    refine ha_takeP 29 rfl (r_add rfl rfl) ?_
    refine ha_takeP 30 rfl (r_idx rfl rfl) ?_
    refine ha_take 31 rfl (r_nth rfl (bc_at' (by omega))) ?_
    refine ha_takeP 32 rfl (r_cW rfl) ?_
    refine ha_takeP 33 rfl (r_or rfl rfl) ?_
    refine ha_one 34 ?_
    refine ho_X 34 rfl (rk (x_bsl rfl rfl)) (fun _ => same) fun g46 => ?_
    refine ha_one 35 ?_
    refine ho_X 35 rfl (rk (x_app1W rfl rfl)) (fun _ => same) fun ⟨g47, c47⟩ => ?_
    refine ha_takeP 36 rfl (r_assign rfl) ?_
    refine ha_done (by kernel_rfl) ?_
    refine q_block ?_
    refine q_then ?_
    rw [← hst]
    refine h_reg ?_
    refine h_op (r_move rfl) ?_
    refine h_op (r_add rfl rfl) ?_
    refine h_op (r_assign rfl) ?_
    refine h_nil ?_
    exact h_back (k + 1, some ⟨g47, 0, none⟩, c47) ((show k + 1 ≤ 16 by omega)) ((show 16 - (k + 1) < 16 - k by omega)) ⟨rfl, rfl, rfl, trivial⟩ (same)
  · obtain rfl : k = 16 := by omega
    refine h_pure (φ := ∃ g, B = some ⟨g, 0, none⟩) (fun w s => s.ownSome (N := 16) (c := cp) (by decide)) ?_
    rintro ⟨g, rfl⟩
    refine h_exit ?_
    refine q_thenE ?_
    refine q_thenE ?_
    refine q_blockE ?_
    refine q_then ?_
    refine h_seq ?_
    refine h_seq ?_
    refine h_reg ?_
    refine h_op (r_assign rfl) ?_
    refine h_nil ?_
    refine q_then ?_
    refine h_block ?_
    refine h_loop (fun (s : Nat × Nat × Nat) => 16 ≤ s.1 ∧ s.1 ≤ 64) (fun (s : Nat × Nat × Nat) => [(5, .int .i64 (s.1 : Int)), (3, .slice (some ⟨s.2.1, 0, none⟩) s.1 s.2.2)]) (fun (s : Nat × Nat × Nat) => [.own (.slice (some ⟨s.2.1, 0, none⟩) s.1 s.2.2) s.1 204 1 (wc .u32 (sch l s.1))]) (fun (s : Nat × Nat × Nat) => 64 - s.1) (16, g, cp) ((show 16 ≤ 16 ∧ 16 ≤ 64 by omega)) ⟨rfl, rfl, trivial⟩ (same) ?_
    rintro ⟨k, g, cp⟩ hk
    dsimp only at hk ⊢
    refine h_seq ?_
    refine h_seq ?_
    refine h_reg ?_
    refine h_op (r_move rfl) ?_
    refine h_op (r_lss rfl rfl) ?_
    refine h_nil ?_
    refine q_then ?_
    refine h_cond rfl (fun h => ?_) (fun h => ?_)
    · have hst := sch_hi l k (by omega)
      unfold sg0 sg1 at hst
      have hsl := sch_len l k
      refine h_skip ?_
      refine q_then ?_
      refine h_seq ?_
      refine h_block ?_
      refine h_seq ?_
      refine h_reg ?_
      refine h_op (r_move rfl) ?_
      refine h_op (r_move rfl) ?_
      refine h_op (r_subN rfl rfl) ?_
      refine h_op (r_idx rfl rfl) ?_
      refine h_op (r_nth rfl (wc_at (by omega))) ?_
      refine h_op (r_assign rfl) ?_
      refine h_nil ?_
      refine q_then ?_
      refine h_seq ?_
      refine h_reg ?_
      refine h_op (r_move rfl) ?_
      refine h_op (r_move rfl) ?_
      refine h_op (r_subN rfl rfl) ?_
      refine h_op (r_idx rfl rfl) ?_
      refine h_op (r_nth rfl (wc_at (by omega))) ?_
      refine h_op (r_assign rfl) ?_
      refine h_nil ?_
      refine q_then ?_
      refine ha_start [] [.rd (some ⟨g, 0, none⟩) (wc .u32 (sch l k))] mixed (same) ?_
      refine ha_takeP 0 rfl (r_move rfl) ?_
      refine ha_takeP 1 rfl (r_move rfl) ?_
      refine ha_takeP 2 rfl (r_move rfl) ?_
      refine ha_takeP 3 rfl (r_subN rfl rfl) ?_
      refine ha_takeP 4 rfl (r_idx rfl rfl) ?_
      refine ha_takeR 5 rfl (r_nth rfl (wc_at (by omega))) ?_
      refine ha_takeP 6 rfl (r_move rfl) ?_
      refine ha_takeP 8 rfl (r_move rfl) ?_
      refine ha_takeP 11 rfl (r_move rfl) ?_
      refine ha_takeP 12 rfl (r_shr rfl rfl) ?_
      refine ha_takeP 15 rfl (r_move rfl) ?_
      refine ha_takeP 16 rfl (r_move rfl) ?_
      refine ha_takeP 17 rfl (r_subN rfl rfl) ?_
      refine ha_takeP 18 rfl (r_idx rfl rfl) ?_
      refine ha_takeR 19 rfl (r_nth rfl (wc_at (by omega))) ?_
      refine ha_takeP 21 rfl (r_move rfl) ?_
      refine ha_takeP 23 rfl (r_move rfl) ?_
      refine ha_takeP 26 rfl (r_move rfl) ?_
      refine ha_takeP 27 rfl (r_shr rfl rfl) ?_
      refine ha_one 7 ?_
      refine ho_C 7 rfl ((turn_s _ 7 (by decide)).comes) rfl rfl rfl (fun xx => same) fun _ => ?_
      refine ha_one 9 ?_
      refine ho_C 9 rfl ((turn_s _ 18 (by decide)).comes) rfl rfl rfl (fun xx => same) fun _ => ?_
      refine ha_takeP 10 rfl (r_xor rfl rfl) ?_
      refine ha_takeP 13 rfl (r_xor rfl rfl) ?_
      refine ha_takeP 14 rfl (r_addW rfl rfl) ?_
      refine ha_takeP 20 rfl (r_addW rfl rfl) ?_
      refine ha_one 22 ?_
      refine ho_C 22 rfl ((turn_s _ 17 (by decide)).comes) rfl rfl rfl (fun xx => same) fun _ => ?_
      refine ha_one 24 ?_
      refine ho_C 24 rfl ((turn_s _ 19 (by decide)).comes) rfl rfl rfl (fun xx => same) fun _ => ?_
      refine ha_takeP 25 rfl (r_xor rfl rfl) ?_
      refine ha_takeP 28 rfl (r_xor rfl rfl) ?_
      refine ha_takeP 29 rfl (r_addW rfl rfl) ?_
      refine ha_one 30 ?_
      refine ho_X 30 rfl (rk (x_bsl rfl rfl)) (fun _ => same) fun g92 => ?_
      refine ha_one 31 ?_
      refine ho_X 31 rfl (k_app1W rfl rfl) (fun _ => same) fun ⟨g93, c93⟩ => ?_
      refine ha_takeP 32 rfl (r_assign rfl) ?_
      refine ha_done (by kernel_rfl) ?_
      refine q_block ?_
      refine q_then ?_
      rw [← hst]
      refine h_reg ?_
      refine h_op (r_move rfl) ?_
      refine h_op (r_add rfl rfl) ?_
      refine h_op (r_assign rfl) ?_
      refine h_nil ?_
      exact h_back (k + 1, g93, c93) ((show 16 ≤ k + 1 ∧ k + 1 ≤ 64 by omega)) ((show 64 - (k + 1) < 64 - k by omega)) ⟨rfl, rfl, trivial⟩ (same)
    · obtain rfl : k = 64 := by omega
      refine h_exit ?_
      refine q_thenE ?_
      refine q_thenE ?_
      refine q_blockE ?_
      refine q_then ?_
      refine h_seq ?_
      refine h_reg ?_
      refine h_op (r_move rfl) ?_
      refine h_op (r_assign rfl) ?_
      refine h_nil ?_
      refine q_then ?_
      refine h_ret ?_
      exact h_ret1 rfl rfl fun w s => ⟨(g, cp), rfl, s.res (List.Sublist.refl _) (by simp [Fa.wr])⟩
end Go.Proofs.YtjhocljhhpkiiaaGreatDoor
