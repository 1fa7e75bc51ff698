/- joined texts -/
import Derived.Test.YtjhlbbgikccclaaGreatDoorF4
import Derived.Test.YtjhlbbgikccclaaGreatDoorRows
import Derived.Shelf.Abstract
set_option linter.all false
namespace Go.Proofs.YtjhlbbgikccclaaGreatDoor
section
open Go.RowKit Go.Shelf
instance : TOne Tryz.prog 3 := ⟨⟨_, Tryz.underlying3, rfl⟩, by kernel_rfl⟩
instance : TZ Tryz.prog 3 [.int .i64 0] := ⟨⟨.int .i64 0, by kernel_rfl, rfl⟩⟩
instance : TOne Tryz.prog 4 := ⟨⟨_, Tryz.underlying4, rfl⟩, by kernel_rfl⟩
instance : TZ Tryz.prog 4 [.bool false] := ⟨⟨.bool false, by kernel_rfl, rfl⟩⟩
instance : TOne Tryz.prog 5 := ⟨⟨_, Tryz.underlying5, rfl⟩, by kernel_rfl⟩
instance : TOne Tryz.prog 9 := ⟨⟨_, Tryz.underlying9, rfl⟩, by kernel_rfl⟩
instance : TS Tryz.prog 22 85 4 80 (.agg #[.int .i64 0, .slice none 0 0, .slice none 0 0, .slice none 0 0]) := ⟨⟨Tryz.underlying22, by kernel_rfl, rfl, by decide, by decide⟩⟩
instance : TOne Tryz.prog 24 := ⟨⟨_, Tryz.underlying24, rfl⟩, by kernel_rfl⟩
instance : TZ Tryz.prog 24 [.slice none 0 0] := ⟨⟨.slice none 0 0, by kernel_rfl, rfl⟩⟩
instance : TS Tryz.prog 24 89 33 56 (.agg QcP.cells.toArray) := ⟨⟨Tryz.underlying24, by kernel_rfl, by simp [Value.cells, Entry.cells_length], by decide, by decide⟩⟩
instance : TOne Tryz.prog 28 := ⟨⟨_, Tryz.underlying28, rfl⟩, by kernel_rfl⟩
instance : TS Tryz.prog 28 39 3 56 (.agg QaK.cells.toArray) := ⟨⟨Tryz.underlying28, by kernel_rfl, by simp [Value.cells, Update.cells_length], by decide, by decide⟩⟩
instance : TS Tryz.prog 29 37 34 64 (.agg VI.cells.toArray) := ⟨⟨Tryz.underlying29, by kernel_rfl, by simp [Value.cells, Change.cells_length], by decide, by decide⟩⟩
instance : TOne Tryz.prog 31 := ⟨⟨_, Tryz.underlying31, rfl⟩, by kernel_rfl⟩
instance : TZ Tryz.prog 31 [.pointer none] := ⟨⟨.pointer none, by kernel_rfl, rfl⟩⟩
instance : TRow Tryz.prog 33 32 := ⟨⟨_, Tryz.underlying33, rfl⟩, by kernel_rfl⟩
instance : TArr Tryz.prog 33 32 5 1 := ⟨Tryz.underlying33, by kernel_rfl⟩
instance : TZ Tryz.prog 33 QN.cells := ⟨⟨.agg QN.cells.toArray, by kernel_rfl, rfl⟩⟩
instance : TRow Tryz.prog 34 32 := ⟨⟨_, Tryz.underlying34, rfl⟩, by kernel_rfl⟩
instance : TArr Tryz.prog 34 32 5 1 := ⟨Tryz.underlying34, by kernel_rfl⟩
instance : TZ Tryz.prog 34 QN.cells := ⟨⟨.agg QN.cells.toArray, by kernel_rfl, rfl⟩⟩
instance : TB Tryz.prog 34 QN.cells (Qb0 1) := ⟨fun w ps cells h => JC Tryz.underlying34 (z := QN.cells.toArray) (n := 32) (by kernel_rfl) (s := 1) (by kernel_rfl) h⟩
instance (x y : B32) : TEq Tryz.prog 34 x.cells y.cells (decide (x = y)) := ⟨fun w d => Qch (d + 4) Tryz.underlying34 Tryz.underlying5 (by kernel_rfl) x y, Tryz.eqGuardType34⟩
instance : TOne Tryz.prog 35 := ⟨⟨_, Tryz.underlying35, rfl⟩, by kernel_rfl⟩
instance : TZ Tryz.prog 35 [.slice none 0 0] := ⟨⟨.slice none 0 0, by kernel_rfl, rfl⟩⟩
instance : TS Tryz.prog 35 5 1 1 (.int .u8 0) := ⟨⟨Tryz.underlying35, by kernel_rfl, rfl, by decide, by decide⟩⟩
instance : TRow Tryz.prog 37 34 := ⟨⟨_, Tryz.underlying37, rfl⟩, by kernel_rfl⟩
instance : TFA Tryz.prog 37 0 0 := ⟨⟨_, _, 31, Tryz.underlying37, rfl, rfl, by kernel_rfl⟩⟩
instance : TFA Tryz.prog 37 1 32 := ⟨⟨_, _, 0, Tryz.underlying37, rfl, rfl, by kernel_rfl⟩⟩
instance : TFA Tryz.prog 37 2 33 := ⟨⟨_, _, 0, Tryz.underlying37, rfl, rfl, by kernel_rfl⟩⟩
instance : TZ Tryz.prog 37 VI.cells := ⟨⟨.agg VI.cells.toArray, by kernel_rfl, rfl⟩⟩
def Qod : Nat → Option (Nat × Nat) := fun i => ([(0, 32), (32, 1), (33, 1)] : List (Nat × Nat)).toArray[i]?
instance : Place Qod 0 0 32 := ⟨rfl⟩
instance : Place Qod 1 32 1 := ⟨rfl⟩
instance : Place Qod 2 33 1 := ⟨rfl⟩
instance : TB Tryz.prog 37 VI.cells Qod := ⟨fun w ps cells h => QY (fl := _) Tryz.underlying37 (z := VI.cells.toArray) (n := 34) (by kernel_rfl) (pl := [(0, 32), (32, 1), (33, 1)]) (by kernel_rfl) h⟩
instance : TRow Tryz.prog 39 3 := ⟨⟨_, Tryz.underlying39, rfl⟩, by kernel_rfl⟩
instance : TFA Tryz.prog 39 0 0 := ⟨⟨_, _, 0, Tryz.underlying39, rfl, rfl, by kernel_rfl⟩⟩
instance : TFA Tryz.prog 39 1 1 := ⟨⟨_, _, 0, Tryz.underlying39, rfl, rfl, by kernel_rfl⟩⟩
instance : TFA Tryz.prog 39 2 2 := ⟨⟨_, _, 0, Tryz.underlying39, rfl, rfl, by kernel_rfl⟩⟩
instance : TZ Tryz.prog 39 QaK.cells := ⟨⟨.agg QaK.cells.toArray, by kernel_rfl, rfl⟩⟩
def Qoe : Nat → Option (Nat × Nat) := fun i => ([(0, 1), (1, 1), (2, 1)] : List (Nat × Nat)).toArray[i]?
instance : Place Qoe 0 0 1 := ⟨rfl⟩
instance : Place Qoe 1 1 1 := ⟨rfl⟩
instance : Place Qoe 2 2 1 := ⟨rfl⟩
instance : TB Tryz.prog 39 QaK.cells Qoe := ⟨fun w ps cells h => QY (fl := _) Tryz.underlying39 (z := QaK.cells.toArray) (n := 3) (by kernel_rfl) (pl := [(0, 1), (1, 1), (2, 1)]) (by kernel_rfl) h⟩
instance : TOne Tryz.prog 43 := ⟨⟨_, Tryz.underlying43, rfl⟩, by kernel_rfl⟩
instance : TRow Tryz.prog 45 32 := ⟨⟨_, Tryz.underlying45, rfl⟩, by kernel_rfl⟩
instance : TArr Tryz.prog 45 32 5 1 := ⟨Tryz.underlying45, by kernel_rfl⟩
instance : TZ Tryz.prog 45 QN.cells := ⟨⟨.agg QN.cells.toArray, by kernel_rfl, rfl⟩⟩
instance (x y : B32) : TEq Tryz.prog 45 x.cells y.cells (decide (x = y)) := ⟨fun w d => Qch (d + 4) Tryz.underlying45 Tryz.underlying5 (by kernel_rfl) x y, Tryz.eqGuardType45⟩
instance : TRow Tryz.prog 50 3 := ⟨⟨_, Tryz.underlying50, rfl⟩, by kernel_rfl⟩
instance : TFA Tryz.prog 50 0 0 := ⟨⟨_, _, 0, Tryz.underlying50, rfl, rfl, by kernel_rfl⟩⟩
instance : TFA Tryz.prog 50 1 1 := ⟨⟨_, _, 0, Tryz.underlying50, rfl, rfl, by kernel_rfl⟩⟩
instance : TFA Tryz.prog 50 2 2 := ⟨⟨_, _, 0, Tryz.underlying50, rfl, rfl, by kernel_rfl⟩⟩
instance : TZ Tryz.prog 50 Qah.cells := ⟨⟨.agg Qah.cells.toArray, by kernel_rfl, rfl⟩⟩
def Qof : Nat → Option (Nat × Nat) := fun i => ([(0, 1), (1, 1), (2, 1)] : List (Nat × Nat)).toArray[i]?
instance : Place Qof 0 0 1 := ⟨rfl⟩
instance : Place Qof 1 1 1 := ⟨rfl⟩
instance : Place Qof 2 2 1 := ⟨rfl⟩
instance : TB Tryz.prog 50 Qah.cells Qof := ⟨fun w ps cells h => QY (fl := _) Tryz.underlying50 (z := Qah.cells.toArray) (n := 3) (by kernel_rfl) (pl := [(0, 1), (1, 1), (2, 1)]) (by kernel_rfl) h⟩
instance : TFA Tryz.prog 52 0 0 := ⟨⟨_, _, 2, Tryz.underlying52, rfl, rfl, by kernel_rfl⟩⟩
instance : TFA Tryz.prog 52 1 3 := ⟨⟨_, _, 0, Tryz.underlying52, rfl, rfl, by kernel_rfl⟩⟩
instance : TOne Tryz.prog 54 := ⟨⟨_, Tryz.underlying54, rfl⟩, by kernel_rfl⟩
instance : TZ Tryz.prog 54 [.int .i64 0] := ⟨⟨.int .i64 0, by kernel_rfl, rfl⟩⟩
instance : TOne Tryz.prog 56 := ⟨⟨_, Tryz.underlying56, rfl⟩, by kernel_rfl⟩
instance : TRow Tryz.prog 60 64 := ⟨⟨_, Tryz.underlying60, rfl⟩, by kernel_rfl⟩
instance : TFA Tryz.prog 60 0 0 := ⟨⟨_, _, 31, Tryz.underlying60, rfl, rfl, by kernel_rfl⟩⟩
instance : TFA Tryz.prog 60 1 32 := ⟨⟨_, _, 31, Tryz.underlying60, rfl, rfl, by kernel_rfl⟩⟩
instance : TZ Tryz.prog 60 Yi.cells := ⟨⟨.agg Yi.cells.toArray, by kernel_rfl, rfl⟩⟩
def QpY : Nat → Option (Nat × Nat) := fun i => ([(0, 32), (32, 32)] : List (Nat × Nat)).toArray[i]?
instance : Place QpY 0 0 32 := ⟨rfl⟩
instance : Place QpY 1 32 32 := ⟨rfl⟩
instance : TB Tryz.prog 60 Yi.cells QpY := ⟨fun w ps cells h => QY (fl := _) Tryz.underlying60 (z := Yi.cells.toArray) (n := 64) (by kernel_rfl) (pl := [(0, 32), (32, 32)]) (by kernel_rfl) h⟩
instance : TOne Tryz.prog 61 := ⟨⟨_, Tryz.underlying61, rfl⟩, by kernel_rfl⟩
instance : TZ Tryz.prog 61 [.slice none 0 0] := ⟨⟨.slice none 0 0, by kernel_rfl, rfl⟩⟩
instance : TS Tryz.prog 61 45 32 32 (.agg QN.cells.toArray) := ⟨⟨Tryz.underlying61, by kernel_rfl, by simp [Value.cells, B32.cells_length], by decide, by decide⟩⟩
instance : TRow Tryz.prog 63 99 := ⟨⟨_, Tryz.underlying63, rfl⟩, by kernel_rfl⟩
instance : TFA Tryz.prog 63 0 0 := ⟨⟨_, _, 0, Tryz.underlying63, rfl, rfl, by kernel_rfl⟩⟩
instance : TFA Tryz.prog 63 1 1 := ⟨⟨_, _, 0, Tryz.underlying63, rfl, rfl, by kernel_rfl⟩⟩
instance : TFA Tryz.prog 63 2 2 := ⟨⟨_, _, 63, Tryz.underlying63, rfl, rfl, by kernel_rfl⟩⟩
instance : TFA Tryz.prog 63 3 66 := ⟨⟨_, _, 31, Tryz.underlying63, rfl, rfl, by kernel_rfl⟩⟩
instance : TFA Tryz.prog 63 4 98 := ⟨⟨_, _, 0, Tryz.underlying63, rfl, rfl, by kernel_rfl⟩⟩
instance : TZ Tryz.prog 63 Jr.cells := ⟨⟨.agg Jr.cells.toArray, by kernel_rfl, rfl⟩⟩
def QlF : Nat → Option (Nat × Nat) := fun i => ([(0, 1), (1, 1), (2, 64), (66, 32), (98, 1)] : List (Nat × Nat)).toArray[i]?
instance : Place QlF 0 0 1 := ⟨rfl⟩
instance : Place QlF 1 1 1 := ⟨rfl⟩
instance : Place QlF 2 2 64 := ⟨rfl⟩
instance : Place QlF 3 66 32 := ⟨rfl⟩
instance : TB Tryz.prog 63 Jr.cells QlF := ⟨fun w ps cells h => QY (fl := _) Tryz.underlying63 (z := Jr.cells.toArray) (n := 99) (by kernel_rfl) (pl := [(0, 1), (1, 1), (2, 64), (66, 32), (98, 1)]) (by kernel_rfl) h⟩
instance : TRow Tryz.prog 85 4 := ⟨⟨_, Tryz.underlying85, rfl⟩, by kernel_rfl⟩
instance : TFA Tryz.prog 85 0 0 := ⟨⟨_, _, 0, Tryz.underlying85, rfl, rfl, by kernel_rfl⟩⟩
instance : TFA Tryz.prog 85 1 1 := ⟨⟨_, _, 0, Tryz.underlying85, rfl, rfl, by kernel_rfl⟩⟩
instance : TFA Tryz.prog 85 2 2 := ⟨⟨_, _, 0, Tryz.underlying85, rfl, rfl, by kernel_rfl⟩⟩
instance : TFA Tryz.prog 85 3 3 := ⟨⟨_, _, 0, Tryz.underlying85, rfl, rfl, by kernel_rfl⟩⟩
instance : TZ Tryz.prog 85 ([.int .i64 0, .slice none 0 0, .slice none 0 0, .slice none 0 0]) := ⟨⟨.agg #[.int .i64 0, .slice none 0 0, .slice none 0 0, .slice none 0 0], by kernel_rfl, rfl⟩⟩
instance : TRow Tryz.prog 89 33 := ⟨⟨_, Tryz.underlying89, rfl⟩, by kernel_rfl⟩
instance : TFA Tryz.prog 89 0 0 := ⟨⟨_, _, 31, Tryz.underlying89, rfl, rfl, by kernel_rfl⟩⟩
instance : TFA Tryz.prog 89 1 32 := ⟨⟨_, _, 0, Tryz.underlying89, rfl, rfl, by kernel_rfl⟩⟩
instance : TZ Tryz.prog 89 QcP.cells := ⟨⟨.agg QcP.cells.toArray, by kernel_rfl, rfl⟩⟩
def QpZ : Nat → Option (Nat × Nat) := fun i => ([(0, 32), (32, 1)] : List (Nat × Nat)).toArray[i]?
instance : Place QpZ 0 0 32 := ⟨rfl⟩
instance : Place QpZ 1 32 1 := ⟨rfl⟩
instance : TB Tryz.prog 89 QcP.cells QpZ := ⟨fun w ps cells h => QY (fl := _) Tryz.underlying89 (z := QcP.cells.toArray) (n := 33) (by kernel_rfl) (pl := [(0, 32), (32, 1)]) (by kernel_rfl) h⟩
instance : TOne Tryz.prog 97 := ⟨⟨_, Tryz.underlying97, rfl⟩, by kernel_rfl⟩
instance : TZ Tryz.prog 97 [.slice none 0 0] := ⟨⟨.slice none 0 0, by kernel_rfl, rfl⟩⟩
instance : TS Tryz.prog 97 35 1 24 (.slice none 0 0) := ⟨⟨Tryz.underlying97, by kernel_rfl, rfl, by decide, by decide⟩⟩
instance : TFA Tryz.prog 113 0 0 := ⟨⟨_, _, 0, Tryz.underlying113, rfl, rfl, by kernel_rfl⟩⟩
instance : TFA Tryz.prog 113 1 1 := ⟨⟨_, _, 0, Tryz.underlying113, rfl, rfl, by kernel_rfl⟩⟩
def Qpe : Nat → Option (Nat × Nat) := fun i => ([(0, 1), (1, 1)] : List (Nat × Nat)).toArray[i]?
instance : Place Qpe 0 0 1 := ⟨rfl⟩
instance : TB Tryz.prog 113 ([.pointer none, .pointer none]) Qpe := ⟨fun w ps cells h => QY (fl := _) Tryz.underlying113 (z := ([.pointer none, .pointer none] : List Value).toArray) (n := 2) (by kernel_rfl) (pl := [(0, 1), (1, 1)]) (by kernel_rfl) h⟩
instance : TOne Tryz.prog 114 := ⟨⟨_, Tryz.underlying114, rfl⟩, by kernel_rfl⟩
instance : TS Tryz.prog 114 34 32 32 (.agg QN.cells.toArray) := ⟨⟨Tryz.underlying114, by kernel_rfl, by simp [Value.cells, B32.cells_length], by decide, by decide⟩⟩
instance : TFA Tryz.prog 134 0 0 := ⟨⟨_, _, 0, Tryz.underlying134, rfl, rfl, by kernel_rfl⟩⟩
instance : TFA Tryz.prog 134 1 1 := ⟨⟨_, _, 0, Tryz.underlying134, rfl, rfl, by kernel_rfl⟩⟩
def Qpf : Nat → Option (Nat × Nat) := fun i => ([(0, 1), (1, 1)] : List (Nat × Nat)).toArray[i]?
instance : Place Qpf 0 0 1 := ⟨rfl⟩
instance : TB Tryz.prog 134 ([.slice none 0 0, .bool false]) Qpf := ⟨fun w ps cells h => QY (fl := _) Tryz.underlying134 (z := ([.slice none 0 0, .bool false] : List Value).toArray) (n := 2) (by kernel_rfl) (pl := [(0, 1), (1, 1)]) (by kernel_rfl) h⟩
instance : TOne Tryz.prog 145 := ⟨⟨_, Tryz.underlying145, rfl⟩, by kernel_rfl⟩
instance : TZ Tryz.prog 145 [.pointer none] := ⟨⟨.pointer none, by kernel_rfl, rfl⟩⟩
instance : TOne Tryz.prog 168 := ⟨⟨_, Tryz.underlying168, rfl⟩, by kernel_rfl⟩
instance : TFA Tryz.prog 170 0 0 := ⟨⟨_, _, 0, Tryz.underlying170, rfl, rfl, by kernel_rfl⟩⟩
instance : TFA Tryz.prog 170 1 1 := ⟨⟨_, _, 0, Tryz.underlying170, rfl, rfl, by kernel_rfl⟩⟩
def QlB : Nat → Option (Nat × Nat) := fun i => ([(0, 1), (1, 1)] : List (Nat × Nat)).toArray[i]?
instance : Place QlB 0 0 1 := ⟨rfl⟩
instance : Place QlB 1 1 1 := ⟨rfl⟩
instance : TB Tryz.prog 170 ([.pointer none, .int .i64 0]) QlB := ⟨fun w ps cells h => QY (fl := _) Tryz.underlying170 (z := ([.pointer none, .int .i64 0] : List Value).toArray) (n := 2) (by kernel_rfl) (pl := [(0, 1), (1, 1)]) (by kernel_rfl) h⟩
instance : TOne Tryz.prog 175 := ⟨⟨_, Tryz.underlying175, rfl⟩, by kernel_rfl⟩
instance : TFA Tryz.prog 177 0 0 := ⟨⟨_, _, 0, Tryz.underlying177, rfl, rfl, by kernel_rfl⟩⟩
instance : TFA Tryz.prog 177 1 1 := ⟨⟨_, _, 31, Tryz.underlying177, rfl, rfl, by kernel_rfl⟩⟩
def QlC : Nat → Option (Nat × Nat) := fun i => ([(0, 1), (1, 32)] : List (Nat × Nat)).toArray[i]?
instance : Place QlC 0 0 1 := ⟨rfl⟩
instance : Place QlC 1 1 32 := ⟨rfl⟩
instance : TB Tryz.prog 177 zNd.cells QlC := ⟨fun w ps cells h => QY (fl := _) Tryz.underlying177 (z := zNd.cells.toArray) (n := 33) (by kernel_rfl) (pl := [(0, 1), (1, 32)]) (by kernel_rfl) h⟩
instance : TRow Tryz.prog 178 2 := ⟨⟨_, Tryz.underlying178, rfl⟩, by kernel_rfl⟩
instance : TArr Tryz.prog 178 2 31 1 := ⟨Tryz.underlying178, by kernel_rfl⟩
instance : TZ Tryz.prog 178 ([.pointer none, .pointer none]) := ⟨⟨.agg #[.pointer none, .pointer none], by kernel_rfl, rfl⟩⟩
instance : TB Tryz.prog 178 ([.pointer none, .pointer none]) (Qb0 1) := ⟨fun w ps cells h => JC Tryz.underlying178 (z := ([.pointer none, .pointer none] : List Value).toArray) (n := 2) (by kernel_rfl) (s := 1) (by kernel_rfl) h⟩
instance : TRow Tryz.prog 179 64 := ⟨⟨_, Tryz.underlying179, rfl⟩, by kernel_rfl⟩
instance : TArr Tryz.prog 179 2 45 32 := ⟨Tryz.underlying179, by kernel_rfl⟩
instance : TRow Tryz.prog 181 67 := ⟨⟨_, Tryz.underlying181, rfl⟩, by kernel_rfl⟩
instance : TFA Tryz.prog 181 1 2 := ⟨⟨_, _, 63, Tryz.underlying181, rfl, rfl, by kernel_rfl⟩⟩
instance : TZ Tryz.prog 181 QaJ.cells := ⟨⟨.agg QaJ.cells.toArray, by kernel_rfl, rfl⟩⟩
def QhY : Nat → Option (Nat × Nat) := fun i => ([(0, 2), (2, 64), (66, 1)] : List (Nat × Nat)).toArray[i]?
instance : Place QhY 0 0 2 := ⟨rfl⟩
instance : Place QhY 1 2 64 := ⟨rfl⟩
instance : Place QhY 2 66 1 := ⟨rfl⟩
instance : TB Tryz.prog 181 QaJ.cells QhY := ⟨fun w ps cells h => QY (fl := _) Tryz.underlying181 (z := QaJ.cells.toArray) (n := 67) (by kernel_rfl) (pl := [(0, 2), (2, 64), (66, 1)]) (by kernel_rfl) h⟩
instance : TS Tryz.prog 187 9 1 16 (.string ByteArray.empty) := ⟨⟨Tryz.underlying187, by kernel_rfl, rfl, by decide, by decide⟩⟩
instance : TRow Tryz.prog 194 32 := ⟨⟨_, Tryz.underlying194, rfl⟩, by kernel_rfl⟩
instance : TArr Tryz.prog 194 32 5 1 := ⟨Tryz.underlying194, by kernel_rfl⟩
instance : TZ Tryz.prog 194 QN.cells := ⟨⟨.agg QN.cells.toArray, by kernel_rfl, rfl⟩⟩
instance : TB Tryz.prog 194 QN.cells (Qb0 1) := ⟨fun w ps cells h => JC Tryz.underlying194 (z := QN.cells.toArray) (n := 32) (by kernel_rfl) (s := 1) (by kernel_rfl) h⟩
instance (x y : B32) : TEq Tryz.prog 194 x.cells y.cells (decide (x = y)) := ⟨fun w d => Qch (d + 4) Tryz.underlying194 Tryz.underlying5 (by kernel_rfl) x y, Tryz.eqGuardType194⟩
instance : TOne Tryz.prog 195 := ⟨⟨_, Tryz.underlying195, rfl⟩, by kernel_rfl⟩
instance : TZ Tryz.prog 195 [.slice none 0 0] := ⟨⟨.slice none 0 0, by kernel_rfl, rfl⟩⟩
instance : TS Tryz.prog 195 31 1 8 (.pointer none) := ⟨⟨Tryz.underlying195, by kernel_rfl, rfl, by decide, by decide⟩⟩
instance : TFA Tryz.prog 217 0 0 := ⟨⟨_, _, 0, Tryz.underlying217, rfl, rfl, by kernel_rfl⟩⟩
instance : TFA Tryz.prog 217 1 1 := ⟨⟨_, _, 0, Tryz.underlying217, rfl, rfl, by kernel_rfl⟩⟩
instance : TFA Tryz.prog 217 2 2 := ⟨⟨_, _, 2, Tryz.underlying217, rfl, rfl, by kernel_rfl⟩⟩
instance : TFA Tryz.prog 217 3 5 := ⟨⟨_, _, 0, Tryz.underlying217, rfl, rfl, by kernel_rfl⟩⟩
instance : TFA Tryz.prog 217 4 6 := ⟨⟨_, _, 98, Tryz.underlying217, rfl, rfl, by kernel_rfl⟩⟩
def Qd4 : Nat → Option (Nat × Nat) := fun i => ([(0, 1), (1, 1), (2, 3), (5, 1), (6, 99)] : List (Nat × Nat)).toArray[i]?
instance : Place Qd4 0 0 1 := ⟨rfl⟩
instance : Place Qd4 1 1 1 := ⟨rfl⟩
instance : Place Qd4 2 2 3 := ⟨rfl⟩
instance : Place Qd4 3 5 1 := ⟨rfl⟩
instance : Place Qd4 4 6 99 := ⟨rfl⟩
instance : TB Tryz.prog 217 Qr1.cells Qd4 := ⟨fun w ps cells h => QY (fl := _) Tryz.underlying217 (z := Qr1.cells.toArray) (n := 105) (by kernel_rfl) (pl := [(0, 1), (1, 1), (2, 3), (5, 1), (6, 99)]) (by kernel_rfl) h⟩
instance : TS Tryz.prog 218 222 1 8 (.agg #[.nilFunc]) := ⟨⟨Tryz.underlying218, by kernel_rfl, rfl, by decide, by decide⟩⟩
instance : TOne Tryz.prog 220 := ⟨⟨_, Tryz.underlying220, rfl⟩, by kernel_rfl⟩
instance : TRow Tryz.prog 222 1 := ⟨⟨_, Tryz.underlying222, rfl⟩, by kernel_rfl⟩
instance : TFA Tryz.prog 222 0 0 := ⟨⟨_, _, 0, Tryz.underlying222, rfl, rfl, by kernel_rfl⟩⟩
instance : TZ Tryz.prog 222 ([.nilFunc]) := ⟨⟨.agg #[.nilFunc], by kernel_rfl, rfl⟩⟩
def Qpg : Nat → Option (Nat × Nat) := fun i => ([(0, 1)] : List (Nat × Nat)).toArray[i]?
instance : Place Qpg 0 0 1 := ⟨rfl⟩
instance : TB Tryz.prog 222 ([.nilFunc]) Qpg := ⟨fun w ps cells h => QY (fl := _) Tryz.underlying222 (z := ([.nilFunc] : List Value).toArray) (n := 1) (by kernel_rfl) (pl := [(0, 1)]) (by kernel_rfl) h⟩
instance : TOne Tryz.prog 233 := ⟨⟨_, Tryz.underlying233, rfl⟩, by kernel_rfl⟩
instance : TRow Tryz.prog 235 2 := ⟨⟨_, Tryz.underlying235, rfl⟩, by kernel_rfl⟩
instance : TFA Tryz.prog 235 0 0 := ⟨⟨_, _, 0, Tryz.underlying235, rfl, rfl, by kernel_rfl⟩⟩
instance : TFA Tryz.prog 235 1 1 := ⟨⟨_, _, 0, Tryz.underlying235, rfl, rfl, by kernel_rfl⟩⟩
instance : TZ Tryz.prog 235 ([.nilFunc, .int .i64 0]) := ⟨⟨.agg #[.nilFunc, .int .i64 0], by kernel_rfl, rfl⟩⟩
def QlD : Nat → Option (Nat × Nat) := fun i => ([(0, 1), (1, 1)] : List (Nat × Nat)).toArray[i]?
instance : Place QlD 0 0 1 := ⟨rfl⟩
instance : Place QlD 1 1 1 := ⟨rfl⟩
instance : TB Tryz.prog 235 ([.nilFunc, .int .i64 0]) QlD := ⟨fun w ps cells h => QY (fl := _) Tryz.underlying235 (z := ([.nilFunc, .int .i64 0] : List Value).toArray) (n := 2) (by kernel_rfl) (pl := [(0, 1), (1, 1)]) (by kernel_rfl) h⟩
instance : TRow Tryz.prog 236 10 := ⟨⟨_, Tryz.underlying236, rfl⟩, by kernel_rfl⟩
instance : TArr Tryz.prog 236 5 235 2 := ⟨Tryz.underlying236, by kernel_rfl⟩
instance : TZ Tryz.prog 236 ([.nilFunc, .int .i64 0, .nilFunc, .int .i64 0, .nilFunc, .int .i64 0, .nilFunc, .int .i64 0, .nilFunc, .int .i64 0]) := ⟨⟨.agg #[.nilFunc, .int .i64 0, .nilFunc, .int .i64 0, .nilFunc, .int .i64 0, .nilFunc, .int .i64 0, .nilFunc, .int .i64 0], by kernel_rfl, rfl⟩⟩
instance : TB Tryz.prog 236 ([.nilFunc, .int .i64 0, .nilFunc, .int .i64 0, .nilFunc, .int .i64 0, .nilFunc, .int .i64 0, .nilFunc, .int .i64 0]) (Qb0 2) := ⟨fun w ps cells h => JC Tryz.underlying236 (z := ([.nilFunc, .int .i64 0, .nilFunc, .int .i64 0, .nilFunc, .int .i64 0, .nilFunc, .int .i64 0, .nilFunc, .int .i64 0] : List Value).toArray) (n := 10) (by kernel_rfl) (s := 2) (by kernel_rfl) h⟩
instance : TOne Tryz.prog 251 := ⟨⟨_, Tryz.underlying251, rfl⟩, by kernel_rfl⟩
instance : TRow Tryz.prog 252 8 := ⟨⟨_, Tryz.underlying252, rfl⟩, by kernel_rfl⟩
instance : TArr Tryz.prog 252 8 251 1 := ⟨Tryz.underlying252, by kernel_rfl⟩
instance : TZ Tryz.prog 252 ([.int .u32 0, .int .u32 0, .int .u32 0, .int .u32 0, .int .u32 0, .int .u32 0, .int .u32 0, .int .u32 0]) := ⟨⟨.agg #[.int .u32 0, .int .u32 0, .int .u32 0, .int .u32 0, .int .u32 0, .int .u32 0, .int .u32 0, .int .u32 0], by kernel_rfl, rfl⟩⟩
instance : TB Tryz.prog 252 ([.int .u32 0, .int .u32 0, .int .u32 0, .int .u32 0, .int .u32 0, .int .u32 0, .int .u32 0, .int .u32 0]) (Qb0 1) := ⟨fun w ps cells h => JC Tryz.underlying252 (z := ([.int .u32 0, .int .u32 0, .int .u32 0, .int .u32 0, .int .u32 0, .int .u32 0, .int .u32 0, .int .u32 0] : List Value).toArray) (n := 8) (by kernel_rfl) (s := 1) (by kernel_rfl) h⟩
instance : TS Tryz.prog 253 251 1 4 (.int .u32 0) := ⟨⟨Tryz.underlying253, by kernel_rfl, rfl, by decide, by decide⟩⟩
instance : TFA Tryz.prog 272 0 0 := ⟨⟨_, _, 0, Tryz.underlying272, rfl, rfl, by kernel_rfl⟩⟩
def Qrn : Nat → Option (Nat × Nat) := fun i => ([(0, 1)] : List (Nat × Nat)).toArray[i]?
instance : TB Tryz.prog 272 ([.int .i64 0]) Qrn := ⟨fun w ps cells h => QY (fl := _) Tryz.underlying272 (z := ([.int .i64 0] : List Value).toArray) (n := 1) (by kernel_rfl) (pl := [(0, 1)]) (by kernel_rfl) h⟩
instance : TRow Tryz.prog 281 65 := ⟨⟨_, Tryz.underlying281, rfl⟩, by kernel_rfl⟩
instance : TFA Tryz.prog 281 0 0 := ⟨⟨_, _, 63, Tryz.underlying281, rfl, rfl, by kernel_rfl⟩⟩
instance : TFA Tryz.prog 281 1 64 := ⟨⟨_, _, 0, Tryz.underlying281, rfl, rfl, by kernel_rfl⟩⟩
instance : TZ Tryz.prog 281 Qbk.cells := ⟨⟨.agg Qbk.cells.toArray, by kernel_rfl, rfl⟩⟩
def QlE : Nat → Option (Nat × Nat) := fun i => ([(0, 64), (64, 1)] : List (Nat × Nat)).toArray[i]?
instance : Place QlE 0 0 64 := ⟨rfl⟩
instance : Place QlE 1 64 1 := ⟨rfl⟩
instance : TB Tryz.prog 281 Qbk.cells QlE := ⟨fun w ps cells h => QY (fl := _) Tryz.underlying281 (z := Qbk.cells.toArray) (n := 65) (by kernel_rfl) (pl := [(0, 64), (64, 1)]) (by kernel_rfl) h⟩
instance : TFA Tryz.prog 284 0 0 := ⟨⟨_, _, 0, Tryz.underlying284, rfl, rfl, by kernel_rfl⟩⟩
instance : TFA Tryz.prog 284 1 1 := ⟨⟨_, _, 0, Tryz.underlying284, rfl, rfl, by kernel_rfl⟩⟩
instance : TFA Tryz.prog 284 2 2 := ⟨⟨_, _, 0, Tryz.underlying284, rfl, rfl, by kernel_rfl⟩⟩
instance : TS Tryz.prog 329 3 1 8 (.int .i64 0) := ⟨⟨Tryz.underlying329, by kernel_rfl, rfl, by decide, by decide⟩⟩
instance : TOne Tryz.prog 331 := ⟨⟨_, Tryz.underlying331, rfl⟩, by kernel_rfl⟩
instance : TRow Tryz.prog 358 8 := ⟨⟨_, Tryz.underlying358, rfl⟩, by kernel_rfl⟩
instance : TArr Tryz.prog 358 8 251 1 := ⟨Tryz.underlying358, by kernel_rfl⟩
instance : TZ Tryz.prog 358 ([.int .u32 0, .int .u32 0, .int .u32 0, .int .u32 0, .int .u32 0, .int .u32 0, .int .u32 0, .int .u32 0]) := ⟨⟨.agg #[.int .u32 0, .int .u32 0, .int .u32 0, .int .u32 0, .int .u32 0, .int .u32 0, .int .u32 0, .int .u32 0], by kernel_rfl, rfl⟩⟩
instance : TB Tryz.prog 358 ([.int .u32 0, .int .u32 0, .int .u32 0, .int .u32 0, .int .u32 0, .int .u32 0, .int .u32 0, .int .u32 0]) (Qb0 1) := ⟨fun w ps cells h => JC Tryz.underlying358 (z := ([.int .u32 0, .int .u32 0, .int .u32 0, .int .u32 0, .int .u32 0, .int .u32 0, .int .u32 0, .int .u32 0] : List Value).toArray) (n := 8) (by kernel_rfl) (s := 1) (by kernel_rfl) h⟩
instance : TOne Tryz.prog 360 := ⟨⟨_, Tryz.underlying360, rfl⟩, by kernel_rfl⟩
instance : TZ Tryz.prog 360 [.nilFunc] := ⟨⟨.nilFunc, by kernel_rfl, rfl⟩⟩
instance : TArr Tryz.prog 390 16 251 1 := ⟨Tryz.underlying390, by kernel_rfl⟩
instance : TZ Tryz.prog 390 ([.int .u32 0, .int .u32 0, .int .u32 0, .int .u32 0, .int .u32 0, .int .u32 0, .int .u32 0, .int .u32 0, .int .u32 0, .int .u32 0, .int .u32 0, .int .u32 0, .int .u32 0, .int .u32 0, .int .u32 0, .int .u32 0]) := ⟨⟨.agg #[.int .u32 0, .int .u32 0, .int .u32 0, .int .u32 0, .int .u32 0, .int .u32 0, .int .u32 0, .int .u32 0, .int .u32 0, .int .u32 0, .int .u32 0, .int .u32 0, .int .u32 0, .int .u32 0, .int .u32 0, .int .u32 0], by kernel_rfl, rfl⟩⟩
instance : TRow Tryz.prog 391 64 := ⟨⟨_, Tryz.underlying391, rfl⟩, by kernel_rfl⟩
instance : TArr Tryz.prog 391 64 251 1 := ⟨Tryz.underlying391, by kernel_rfl⟩
theorem QfF : ∃ f1 f2 : Field, Tryz.prog.underlying 60 = some (.struct #[f1, f2]) ∧ (f1.name == "_") = false ∧ (f2.name == "_") = false ∧ f1.type = 34 ∧ f2.type = 45 ∧ f1.offset = 0 ∧ f2.offset = 32 :=
 ⟨_, _, Tryz.underlying60, by decide, by decide, rfl, rfl, rfl, rfl⟩
theorem Qn6 {w : World} (d : Nat) (x y : Leaf) : (Op.equalIn (d + 3) 60 (.agg x.cells.toArray) (.agg y.cells.toArray)).run Tryz.prog w = .ok (decide (x = y)) w := by
 obtain ⟨f1, f2, h0, h1, h2, h3, h4, h5, h6⟩ := QfF
 exact Qn7 d h0 Tryz.stoodInHeld60 h1 h2 h3 h4 h5 h6 Tryz.underlying34 Tryz.underlying45 Tryz.underlying5 (by kernel_rfl) (by kernel_rfl) (by kernel_rfl) x y
instance (x y : Leaf) : TEq Tryz.prog 60 x.cells y.cells (decide (x = y)) := ⟨fun w d => Qn6 (d + 3) x y, Tryz.eqGuardType60⟩
theorem QJ : Tryz.prog.follows .mixedOrders = true := by kernel_rfl
instance : TInt Tryz.prog 3 .i64 := ⟨Tryz.underlying3⟩
instance : TInt Tryz.prog 5 .u8 := ⟨Tryz.underlying5⟩
instance : TPtr Tryz.prog 23 := ⟨_, Tryz.underlying23⟩
instance : TPtr Tryz.prog 31 := ⟨_, Tryz.underlying31⟩
instance : TConc Tryz.prog 54 := ⟨_, Tryz.underlying54, by intro l h; cases h⟩
instance : TPtr Tryz.prog 56 := ⟨_, Tryz.underlying56⟩
instance : TFT Tryz.prog 60 0 0 34 := ⟨_, _, Tryz.underlying60, rfl, rfl, rfl⟩
instance : TFT Tryz.prog 89 1 32 35 := ⟨_, _, Tryz.underlying89, rfl, rfl, rfl⟩
instance : TConc Tryz.prog 127 := ⟨_, Tryz.underlying127, by intro l h; cases h⟩
instance : TInt Tryz.prog 136 .u64 := ⟨Tryz.underlying136⟩
instance : TConc Tryz.prog 145 := ⟨_, Tryz.underlying145, by intro l h; cases h⟩
instance : TPtr Tryz.prog 145 := ⟨_, Tryz.underlying145⟩
instance : TConc Tryz.prog 147 := ⟨_, Tryz.underlying147, by intro l h; cases h⟩
instance : TConc Tryz.prog 181 := ⟨_, Tryz.underlying181, by intro l h; cases h⟩
instance : TFT Tryz.prog 181 0 0 178 := ⟨_, _, Tryz.underlying181, rfl, rfl, rfl⟩
instance : TFT Tryz.prog 181 2 66 3 := ⟨_, _, Tryz.underlying181, rfl, rfl, rfl⟩
instance : TInt Tryz.prog 251 .u32 := ⟨Tryz.underlying251⟩
instance : TConc Tryz.prog 281 := ⟨_, Tryz.underlying281, by intro l h; cases h⟩
instance : TFT Tryz.prog 281 0 0 60 := ⟨_, _, Tryz.underlying281, rfl, rfl, rfl⟩
instance : TInt Tryz.prog 337 .u64 := ⟨Tryz.underlying337⟩
instance : Ent Tryz.prog 12 := ⟨enters_of Tryz.func12 (by kernel_rfl) rfl⟩
instance : Ent Tryz.prog 13 := ⟨enters_of Tryz.func13 (by kernel_rfl) rfl⟩
instance : Ent Tryz.prog 15 := ⟨enters_of Tryz.func15 (by kernel_rfl) rfl⟩
instance : Ent Tryz.prog 17 := ⟨enters_of Tryz.func17 (by kernel_rfl) rfl⟩
instance : Ent Tryz.prog 18 := ⟨enters_of Tryz.func18 (by kernel_rfl) rfl⟩
instance : Ent Tryz.prog 19 := ⟨enters_of Tryz.func19 (by kernel_rfl) rfl⟩
instance : Ent Tryz.prog 20 := ⟨enters_of Tryz.func20 (by kernel_rfl) rfl⟩
instance : Ent Tryz.prog 21 := ⟨enters_of Tryz.func21 (by kernel_rfl) rfl⟩
instance : Ent Tryz.prog 22 := ⟨enters_of Tryz.func22 (by kernel_rfl) rfl⟩
instance : Ent Tryz.prog 23 := ⟨enters_of Tryz.func23 (by kernel_rfl) rfl⟩
instance : Ent Tryz.prog 24 := ⟨enters_of Tryz.func24 (by kernel_rfl) rfl⟩
instance : Ent Tryz.prog 25 := ⟨enters_of Tryz.func25 (by kernel_rfl) rfl⟩
instance : Ent Tryz.prog 26 := ⟨enters_of Tryz.func26 (by kernel_rfl) rfl⟩
instance : Ent Tryz.prog 27 := ⟨enters_of Tryz.func27 (by kernel_rfl) rfl⟩
instance : Ent Tryz.prog 31 := ⟨enters_of Tryz.func31 (by kernel_rfl) rfl⟩
instance : Ent Tryz.prog 32 := ⟨enters_of Tryz.func32 (by kernel_rfl) rfl⟩
instance : Ent Tryz.prog 33 := ⟨enters_of Tryz.func33 (by kernel_rfl) rfl⟩
instance : Ent Tryz.prog 34 := ⟨enters_of Tryz.func34 (by kernel_rfl) rfl⟩
instance : Ent Tryz.prog 35 := ⟨enters_of Tryz.func35 (by kernel_rfl) rfl⟩
instance : Ent Tryz.prog 36 := ⟨enters_of Tryz.func36 (by kernel_rfl) rfl⟩
instance : Ent Tryz.prog 37 := ⟨enters_of Tryz.func37 (by kernel_rfl) rfl⟩
instance : Ent Tryz.prog 38 := ⟨enters_of Tryz.func38 (by kernel_rfl) rfl⟩
instance : Ent Tryz.prog 39 := ⟨enters_of Tryz.func39 (by kernel_rfl) rfl⟩
instance : Ent Tryz.prog 40 := ⟨enters_of Tryz.func40 (by kernel_rfl) rfl⟩
instance : Ent Tryz.prog 42 := ⟨enters_of Tryz.func42 (by kernel_rfl) rfl⟩
instance : Ent Tryz.prog 43 := ⟨enters_of Tryz.func43 (by kernel_rfl) rfl⟩
instance : Ent Tryz.prog 44 := ⟨enters_of Tryz.func44 (by kernel_rfl) rfl⟩
instance : Ent Tryz.prog 45 := ⟨enters_of Tryz.func45 (by kernel_rfl) rfl⟩
instance : Ent Tryz.prog 47 := ⟨enters_of Tryz.func47 (by kernel_rfl) rfl⟩
instance : Ent Tryz.prog 48 := ⟨enters_of Tryz.func48 (by kernel_rfl) rfl⟩
instance : Ent Tryz.prog 49 := ⟨enters_of Tryz.func49 (by kernel_rfl) rfl⟩
instance : Ent Tryz.prog 50 := ⟨enters_of Tryz.func50 (by kernel_rfl) rfl⟩
instance : Ent Tryz.prog 52 := ⟨enters_of Tryz.func52 (by kernel_rfl) rfl⟩
instance : Ent Tryz.prog 54 := ⟨enters_of Tryz.func54 (by kernel_rfl) rfl⟩
instance : Ent Tryz.prog 55 := ⟨enters_of Tryz.func55 (by kernel_rfl) rfl⟩
instance : Ent Tryz.prog 56 := ⟨enters_of Tryz.func56 (by kernel_rfl) rfl⟩
instance : Ent Tryz.prog 57 := ⟨enters_of Tryz.func57 (by kernel_rfl) rfl⟩
instance : Ent Tryz.prog 58 := ⟨enters_of Tryz.func58 (by kernel_rfl) rfl⟩
instance : Ent Tryz.prog 59 := ⟨enters_of Tryz.func59 (by kernel_rfl) rfl⟩
instance : Ent Tryz.prog 60 := ⟨enters_of Tryz.func60 (by kernel_rfl) rfl⟩
instance : Ent Tryz.prog 61 := ⟨enters_of Tryz.func61 (by kernel_rfl) rfl⟩
instance : Ent Tryz.prog 62 := ⟨enters_of Tryz.func62 (by kernel_rfl) rfl⟩
instance : Ent Tryz.prog 63 := ⟨enters_of Tryz.func63 (by kernel_rfl) rfl⟩
instance : Ent Tryz.prog 64 := ⟨enters_of Tryz.func64 (by kernel_rfl) rfl⟩
instance : Ent Tryz.prog 65 := ⟨enters_of Tryz.func65 (by kernel_rfl) rfl⟩
instance : Ent Tryz.prog 66 := ⟨enters_of Tryz.func66 (by kernel_rfl) rfl⟩
instance : Ent Tryz.prog 67 := ⟨enters_of Tryz.func67 (by kernel_rfl) rfl⟩
instance : Ent Tryz.prog 68 := ⟨enters_of Tryz.func68 (by kernel_rfl) rfl⟩
instance : Ent Tryz.prog 69 := ⟨enters_of Tryz.func69 (by kernel_rfl) rfl⟩
instance : Ent Tryz.prog 70 := ⟨enters_of Tryz.func70 (by kernel_rfl) rfl⟩
instance : Ent Tryz.prog 72 := ⟨enters_of Tryz.func72 (by kernel_rfl) rfl⟩
instance : Ent Tryz.prog 79 := ⟨enters_of Tryz.func79 (by kernel_rfl) rfl⟩
instance : Ent Tryz.prog 80 := ⟨enters_of Tryz.func80 (by kernel_rfl) rfl⟩
instance : Ent Tryz.prog 81 := ⟨enters_of Tryz.func81 (by kernel_rfl) rfl⟩
instance : Ent Tryz.prog 82 := ⟨enters_of Tryz.func82 (by kernel_rfl) rfl⟩
instance : Ent Tryz.prog 83 := ⟨enters_of Tryz.func83 (by kernel_rfl) rfl⟩
instance : Ent Tryz.prog 84 := ⟨enters_of Tryz.func84 (by kernel_rfl) rfl⟩
instance : Ent Tryz.prog 85 := ⟨enters_of Tryz.func85 (by kernel_rfl) rfl⟩
instance : Ent Tryz.prog 86 := ⟨enters_of Tryz.func86 (by kernel_rfl) rfl⟩
instance : Ent Tryz.prog 87 := ⟨enters_of Tryz.func87 (by kernel_rfl) rfl⟩
instance : Ent Tryz.prog 88 := ⟨enters_of Tryz.func88 (by kernel_rfl) rfl⟩
instance : Ent Tryz.prog 89 := ⟨enters_of Tryz.func89 (by kernel_rfl) rfl⟩
instance : Ent Tryz.prog 90 := ⟨enters_of Tryz.func90 (by kernel_rfl) rfl⟩
instance : Ent Tryz.prog 91 := ⟨enters_of Tryz.func91 (by kernel_rfl) rfl⟩
instance : Ent Tryz.prog 92 := ⟨enters_of Tryz.func92 (by kernel_rfl) rfl⟩
instance : Ent Tryz.prog 93 := ⟨enters_of Tryz.func93 (by kernel_rfl) rfl⟩
instance : Ent Tryz.prog 94 := ⟨enters_of Tryz.func94 (by kernel_rfl) rfl⟩
instance : Ent Tryz.prog 95 := ⟨enters_of Tryz.func95 (by kernel_rfl) rfl⟩
instance : Ent Tryz.prog 96 := ⟨enters_of Tryz.func96 (by kernel_rfl) rfl⟩
instance : Ent Tryz.prog 97 := ⟨enters_of Tryz.func97 (by kernel_rfl) rfl⟩
instance : Ent Tryz.prog 98 := ⟨enters_of Tryz.func98 (by kernel_rfl) rfl⟩
instance : Ent Tryz.prog 99 := ⟨enters_of Tryz.func99 (by kernel_rfl) rfl⟩
instance : Ent Tryz.prog 100 := ⟨enters_of Tryz.func100 (by kernel_rfl) rfl⟩
instance : Ent Tryz.prog 101 := ⟨enters_of Tryz.func101 (by kernel_rfl) rfl⟩
instance : Ent Tryz.prog 102 := ⟨enters_of Tryz.func102 (by kernel_rfl) rfl⟩
instance : Ent Tryz.prog 103 := ⟨enters_of Tryz.func103 (by kernel_rfl) rfl⟩
instance : Ent Tryz.prog 104 := ⟨enters_of Tryz.func104 (by kernel_rfl) rfl⟩
instance : Ent Tryz.prog 105 := ⟨enters_of Tryz.func105 (by kernel_rfl) rfl⟩
instance : Ent Tryz.prog 106 := ⟨enters_of Tryz.func106 (by kernel_rfl) rfl⟩
instance : Ent Tryz.prog 107 := ⟨enters_of Tryz.func107 (by kernel_rfl) rfl⟩
instance : Ent Tryz.prog 108 := ⟨enters_of Tryz.func108 (by kernel_rfl) rfl⟩
instance : Ent Tryz.prog 109 := ⟨enters_of Tryz.func109 (by kernel_rfl) rfl⟩
instance : Ent Tryz.prog 111 := ⟨enters_of Tryz.func111 (by kernel_rfl) rfl⟩
instance : Ent Tryz.prog 112 := ⟨enters_of Tryz.func112 (by kernel_rfl) rfl⟩
instance : Ent Tryz.prog 114 := ⟨enters_of Tryz.func114 (by kernel_rfl) rfl⟩
instance : Ent Tryz.prog 115 := ⟨enters_of Tryz.func115 (by kernel_rfl) rfl⟩
instance : Ent Tryz.prog 119 := ⟨enters_of Tryz.func119 (by kernel_rfl) rfl⟩
instance : Ent Tryz.prog 120 := ⟨enters_of Tryz.func120 (by kernel_rfl) rfl⟩
instance : Ent Tryz.prog 121 := ⟨enters_of Tryz.func121 (by kernel_rfl) rfl⟩
instance : Ent Tryz.prog 122 := ⟨enters_of Tryz.func122 (by kernel_rfl) rfl⟩
instance : Ent Tryz.prog 123 := ⟨enters_of Tryz.func123 (by kernel_rfl) rfl⟩
instance : Ent Tryz.prog 124 := ⟨enters_of Tryz.func124 (by kernel_rfl) rfl⟩
instance : Ent Tryz.prog 125 := ⟨enters_of Tryz.func125 (by kernel_rfl) rfl⟩
instance : Ent Tryz.prog 126 := ⟨enters_of Tryz.func126 (by kernel_rfl) rfl⟩
instance : Ent Tryz.prog 127 := ⟨enters_of Tryz.func127 (by kernel_rfl) rfl⟩
instance : Ent Tryz.prog 128 := ⟨enters_of Tryz.func128 (by kernel_rfl) rfl⟩
instance : Ent Tryz.prog 129 := ⟨enters_of Tryz.func129 (by kernel_rfl) rfl⟩
instance : Ent Tryz.prog 130 := ⟨enters_of Tryz.func130 (by kernel_rfl) rfl⟩
instance : Ent Tryz.prog 131 := ⟨enters_of Tryz.func131 (by kernel_rfl) rfl⟩
instance : Ent Tryz.prog 132 := ⟨enters_of Tryz.func132 (by kernel_rfl) rfl⟩
instance : Ent Tryz.prog 133 := ⟨enters_of Tryz.func133 (by kernel_rfl) rfl⟩
instance : Ent Tryz.prog 134 := ⟨enters_of Tryz.func134 (by kernel_rfl) rfl⟩
instance : Ent Tryz.prog 140 := ⟨enters_of Tryz.func140 (by kernel_rfl) rfl⟩
instance : Ent Tryz.prog 142 := ⟨enters_of Tryz.func142 (by kernel_rfl) rfl⟩
instance : Ent Tryz.prog 143 := ⟨enters_of Tryz.func143 (by kernel_rfl) rfl⟩
instance : Ent Tryz.prog 144 := ⟨enters_of Tryz.func144 (by kernel_rfl) rfl⟩
instance : Ent Tryz.prog 145 := ⟨enters_of Tryz.func145 (by kernel_rfl) rfl⟩
instance : Ent Tryz.prog 146 := ⟨enters_of Tryz.func146 (by kernel_rfl) rfl⟩
instance : Ent Tryz.prog 147 := ⟨enters_of Tryz.func147 (by kernel_rfl) rfl⟩
instance : Ent Tryz.prog 148 := ⟨enters_of Tryz.func148 (by kernel_rfl) rfl⟩
instance : Ent Tryz.prog 149 := ⟨enters_of Tryz.func149 (by kernel_rfl) rfl⟩
instance : Ent Tryz.prog 150 := ⟨enters_of Tryz.func150 (by kernel_rfl) rfl⟩
instance : Ent Tryz.prog 151 := ⟨enters_of Tryz.func151 (by kernel_rfl) rfl⟩
instance : Ent Tryz.prog 152 := ⟨enters_of Tryz.func152 (by kernel_rfl) rfl⟩
instance : Ent Tryz.prog 153 := ⟨enters_of Tryz.func153 (by kernel_rfl) rfl⟩
instance : Ent Tryz.prog 154 := ⟨enters_of Tryz.func154 (by kernel_rfl) rfl⟩
instance : Ent Tryz.prog 155 := ⟨enters_of Tryz.func155 (by kernel_rfl) rfl⟩
instance : Ent Tryz.prog 156 := ⟨enters_of Tryz.func156 (by kernel_rfl) rfl⟩
instance : Ent Tryz.prog 157 := ⟨enters_of Tryz.func157 (by kernel_rfl) rfl⟩
instance : Ent Tryz.prog 158 := ⟨enters_of Tryz.func158 (by kernel_rfl) rfl⟩
instance : Ent Tryz.prog 159 := ⟨enters_of Tryz.func159 (by kernel_rfl) rfl⟩
instance : Ent Tryz.prog 160 := ⟨enters_of Tryz.func160 (by kernel_rfl) rfl⟩
instance : Ent Tryz.prog 161 := ⟨enters_of Tryz.func161 (by kernel_rfl) rfl⟩
instance : Ent Tryz.prog 162 := ⟨enters_of Tryz.func162 (by kernel_rfl) rfl⟩
instance : Ent Tryz.prog 165 := ⟨enters_of Tryz.func165 (by kernel_rfl) rfl⟩
instance : Ent Tryz.prog 166 := ⟨enters_of Tryz.func166 (by kernel_rfl) rfl⟩
instance : Ent Tryz.prog 167 := ⟨enters_of Tryz.func167 (by kernel_rfl) rfl⟩
instance : Ent Tryz.prog 168 := ⟨enters_of Tryz.func168 (by kernel_rfl) rfl⟩
instance : Ent Tryz.prog 169 := ⟨enters_of Tryz.func169 (by kernel_rfl) rfl⟩
instance : Ent Tryz.prog 170 := ⟨enters_of Tryz.func170 (by kernel_rfl) rfl⟩
instance : Ent Tryz.prog 171 := ⟨enters_of Tryz.func171 (by kernel_rfl) rfl⟩
instance : Ent Tryz.prog 172 := ⟨enters_of Tryz.func172 (by kernel_rfl) rfl⟩
instance : Ent Tryz.prog 173 := ⟨enters_of Tryz.func173 (by kernel_rfl) rfl⟩
instance : Ent Tryz.prog 174 := ⟨enters_of Tryz.func174 (by kernel_rfl) rfl⟩
instance : Ent Tryz.prog 175 := ⟨enters_of Tryz.func175 (by kernel_rfl) rfl⟩
instance : Ent Tryz.prog 176 := ⟨enters_of Tryz.func176 (by kernel_rfl) rfl⟩
instance : Ent Tryz.prog 177 := ⟨enters_of Tryz.func177 (by kernel_rfl) rfl⟩
instance : Ent Tryz.prog 178 := ⟨enters_of Tryz.func178 (by kernel_rfl) rfl⟩
instance : Ent Tryz.prog 179 := ⟨enters_of Tryz.func179 (by kernel_rfl) rfl⟩
instance : Ent Tryz.prog 180 := ⟨enters_of Tryz.func180 (by kernel_rfl) rfl⟩
instance : Ent Tryz.prog 181 := ⟨enters_of Tryz.func181 (by kernel_rfl) rfl⟩
instance : Ent Tryz.prog 182 := ⟨enters_of Tryz.func182 (by kernel_rfl) rfl⟩
instance : Ent Tryz.prog 185 := ⟨enters_of Tryz.func185 (by kernel_rfl) rfl⟩
instance : Ent Tryz.prog 186 := ⟨enters_of Tryz.func186 (by kernel_rfl) rfl⟩
instance : Ent Tryz.prog 187 := ⟨enters_of Tryz.func187 (by kernel_rfl) rfl⟩
instance : Ent Tryz.prog 188 := ⟨enters_of Tryz.func188 (by kernel_rfl) rfl⟩
instance : Ent Tryz.prog 189 := ⟨enters_of Tryz.func189 (by kernel_rfl) rfl⟩
instance : Ent Tryz.prog 190 := ⟨enters_of Tryz.func190 (by kernel_rfl) rfl⟩
instance : Ent Tryz.prog 191 := ⟨enters_of Tryz.func191 (by kernel_rfl) rfl⟩
instance : Ent Tryz.prog 192 := ⟨enters_of Tryz.func192 (by kernel_rfl) rfl⟩
instance : Ent Tryz.prog 193 := ⟨enters_of Tryz.func193 (by kernel_rfl) rfl⟩
instance : Ent Tryz.prog 194 := ⟨enters_of Tryz.func194 (by kernel_rfl) rfl⟩
instance : Ent Tryz.prog 195 := ⟨enters_of Tryz.func195 (by kernel_rfl) rfl⟩
instance : Ent Tryz.prog 196 := ⟨enters_of Tryz.func196 (by kernel_rfl) rfl⟩
instance : Ent Tryz.prog 197 := ⟨enters_of Tryz.func197 (by kernel_rfl) rfl⟩
instance : Ent Tryz.prog 198 := ⟨enters_of Tryz.func198 (by kernel_rfl) rfl⟩
instance : Ent Tryz.prog 199 := ⟨enters_of Tryz.func199 (by kernel_rfl) rfl⟩
instance : Ent Tryz.prog 200 := ⟨enters_of Tryz.func200 (by kernel_rfl) rfl⟩
instance : Ent Tryz.prog 201 := ⟨enters_of Tryz.func201 (by kernel_rfl) rfl⟩
instance : Ent Tryz.prog 202 := ⟨enters_of Tryz.func202 (by kernel_rfl) rfl⟩
instance : Ent Tryz.prog 203 := ⟨enters_of Tryz.func203 (by kernel_rfl) rfl⟩
instance : Ent Tryz.prog 204 := ⟨enters_of Tryz.func204 (by kernel_rfl) rfl⟩
instance : Ent Tryz.prog 214 := ⟨enters_of Tryz.func214 (by kernel_rfl) rfl⟩
instance : Ent Tryz.prog 215 := ⟨enters_of Tryz.func215 (by kernel_rfl) rfl⟩
instance : Ent Tryz.prog 216 := ⟨enters_of Tryz.func216 (by kernel_rfl) rfl⟩
instance : Ent Tryz.prog 217 := ⟨enters_of Tryz.func217 (by kernel_rfl) rfl⟩
instance : Ent Tryz.prog 218 := ⟨enters_of Tryz.func218 (by kernel_rfl) rfl⟩
instance : Ent Tryz.prog 219 := ⟨enters_of Tryz.func219 (by kernel_rfl) rfl⟩
instance : Ent Tryz.prog 220 := ⟨enters_of Tryz.func220 (by kernel_rfl) rfl⟩
instance : Ent Tryz.prog 221 := ⟨enters_of Tryz.func221 (by kernel_rfl) rfl⟩
instance : Ent Tryz.prog 222 := ⟨enters_of Tryz.func222 (by kernel_rfl) rfl⟩
instance : Ent Tryz.prog 223 := ⟨enters_of Tryz.func223 (by kernel_rfl) rfl⟩
instance : Ent Tryz.prog 224 := ⟨enters_of Tryz.func224 (by kernel_rfl) rfl⟩
instance : Ent Tryz.prog 225 := ⟨enters_of Tryz.func225 (by kernel_rfl) rfl⟩
instance : Ent Tryz.prog 226 := ⟨enters_of Tryz.func226 (by kernel_rfl) rfl⟩
instance : Ent Tryz.prog 227 := ⟨enters_of Tryz.func227 (by kernel_rfl) rfl⟩
instance : Ent Tryz.prog 228 := ⟨enters_of Tryz.func228 (by kernel_rfl) rfl⟩
instance : Ent Tryz.prog 240 := ⟨enters_of Tryz.func240 (by kernel_rfl) rfl⟩
instance : Ent Tryz.prog 241 := ⟨enters_of Tryz.func241 (by kernel_rfl) rfl⟩
instance : Ent Tryz.prog 242 := ⟨enters_of Tryz.func242 (by kernel_rfl) rfl⟩
instance : Ent Tryz.prog 243 := ⟨enters_of Tryz.func243 (by kernel_rfl) rfl⟩
instance : Ent Tryz.prog 244 := ⟨enters_of Tryz.func244 (by kernel_rfl) rfl⟩
instance : Ent Tryz.prog 245 := ⟨enters_of Tryz.func245 (by kernel_rfl) rfl⟩
instance : Ent Tryz.prog 246 := ⟨enters_of Tryz.func246 (by kernel_rfl) rfl⟩
instance : Ent Tryz.prog 247 := ⟨enters_of Tryz.func247 (by kernel_rfl) rfl⟩
instance : Ent Tryz.prog 248 := ⟨enters_of Tryz.func248 (by kernel_rfl) rfl⟩
instance : Ent Tryz.prog 249 := ⟨enters_of Tryz.func249 (by kernel_rfl) rfl⟩
instance : Ent Tryz.prog 250 := ⟨enters_of Tryz.func250 (by kernel_rfl) rfl⟩
instance : Ent Tryz.prog 251 := ⟨enters_of Tryz.func251 (by kernel_rfl) rfl⟩
instance : Ent Tryz.prog 252 := ⟨enters_of Tryz.func252 (by kernel_rfl) rfl⟩
instance : Ent Tryz.prog 253 := ⟨enters_of Tryz.func253 (by kernel_rfl) rfl⟩
instance : Ent Tryz.prog 254 := ⟨enters_of Tryz.func254 (by kernel_rfl) rfl⟩
instance : Ent Tryz.prog 257 := ⟨enters_of Tryz.func257 (by kernel_rfl) rfl⟩
instance : Ent Tryz.prog 258 := ⟨enters_of Tryz.func258 (by kernel_rfl) rfl⟩
instance : Ent Tryz.prog 259 := ⟨enters_of Tryz.func259 (by kernel_rfl) rfl⟩
instance : Ent Tryz.prog 260 := ⟨enters_of Tryz.func260 (by kernel_rfl) rfl⟩
instance : Ent Tryz.prog 268 := ⟨enters_of Tryz.func268 (by kernel_rfl) rfl⟩
instance : Ent Tryz.prog 270 := ⟨enters_of Tryz.func270 (by kernel_rfl) rfl⟩
instance : Ent Tryz.prog 271 := ⟨enters_of Tryz.func271 (by kernel_rfl) rfl⟩
instance : Ent Tryz.prog 274 := ⟨enters_of Tryz.func274 (by kernel_rfl) rfl⟩
instance : Ent Tryz.prog 294 := ⟨enters_of Tryz.func294 (by kernel_rfl) rfl⟩
instance : Ent Tryz.prog 310 := ⟨enters_of Tryz.func310 (by kernel_rfl) rfl⟩
instance : Ent Tryz.prog 316 := ⟨enters_of Tryz.func316 (by kernel_rfl) rfl⟩
end
section
abbrev W32 := BitVec 32
def qD (x : W32) (n : Nat) : W32 := (x >>> n) ||| (x <<< (32 - n))
def sg0 (x : W32) : W32 := (qD x 7 ^^^ qD x 18) ^^^ (x >>> 3)
def sg1 (x : W32) : W32 := (qD x 17 ^^^ qD x 19) ^^^ (x >>> 10)
def bg1 (x : W32) : W32 := (qD x 6 ^^^ qD x 11) ^^^ qD x 25
def bg0 (x : W32) : W32 := (qD x 2 ^^^ qD x 13) ^^^ qD x 22
def ch (e f g : W32) : W32 := (e &&& f) ^^^ (~~~e &&& g)
def maj (a b c : W32) : W32 := ((a &&& b) ^^^ (a &&& c)) ^^^ (b &&& c)
theorem Qra (e f g : W32) : g ^^^ (e &&& (f ^^^ g)) = ch e f g := by
 unfold ch
 ext i hi
 simp only [BitVec.getElem_xor, BitVec.getElem_and, BitVec.getElem_not]
 cases e[i] <;> cases f[i] <;> cases g[i] <;> rfl
theorem QpT (a b c : W32) : (a &&& b) ||| (c &&& (a ||| b)) = maj a b c := by
 unfold maj
 ext i hi
 simp only [BitVec.getElem_xor, BitVec.getElem_and, BitVec.getElem_or]
 cases a[i] <;> cases b[i] <;> cases c[i] <;> rfl
def Qag (x : W32) (l : List Nat) : W32 := l.foldl (fun s n => s ^^^ qD x n) 0
theorem Qps (x : W32) (a b : Nat) : Qag x [a, b] = qD x a ^^^ qD x b := by simp [Qag]
theorem Qpt (x : W32) (a b c : Nat) : Qag x [a, b, c] = (qD x a ^^^ qD x b) ^^^ qD x c := by simp [Qag]
theorem QdL {α : Type} {d : α} {l : List α} {k : Nat} (h : k < l.length) : l.take (k + 1) = l.take k ++ [l.getD k d] := by
 rw [List.take_succ_eq_append_getElem h]
 simp [List.getD, h]
theorem QjX (x : W32) {l : List Nat} {k : Nat} (h : k < l.length) : Qag x (l.take (k + 1)) = Qag x (l.take k) ^^^ qD x (l.getD k 0) := by
 rw [QdL h (d := 0)]
 simp [Qag, List.foldl_append]
structure S8 where
 a : W32
 b : W32
 c : W32
 d : W32
 e : W32
 f : W32
 g : W32
 h : W32
def S8.l (s : S8) : List W32 := [s.a, s.b, s.c, s.d, s.e, s.f, s.g, s.h]
def t1 (k w : W32) (s : S8) : W32 := s.h + bg1 s.e + ch s.e s.f s.g + k + w
def t2 (s : S8) : W32 := bg0 s.a + maj s.a s.b s.c
def rnd (k w : W32) (s : S8) : S8 := ⟨t1 k w s + t2 s, s.a, s.b, s.c, s.d + t1 k w s, s.e, s.f, s.g⟩
def S8.add (s t : S8) : S8 := ⟨s.a + t.a, s.b + t.b, s.c + t.c, s.d + t.d, s.e + t.e, s.f + t.f, s.g + t.g, s.h + t.h⟩
def K64 : List W32 := [0x428a2f98, 0x71374491, 0xb5c0fbcf, 0xe9b5dba5, 0x3956c25b, 0x59f111f1, 0x923f82a4, 0xab1c5ed5, 0xd807aa98, 0x12835b01, 0x243185be, 0x550c7dc3, 0x72be5d74, 0x80deb1fe, 0x9bdc06a7, 0xc19bf174, 0xe49b69c1, 0xefbe4786, 0x0fc19dc6, 0x240ca1cc, 0x2de92c6f, 0x4a7484aa, 0x5cb0a9dc, 0x76f988da, 0x983e5152, 0xa831c66d, 0xb00327c8, 0xbf597fc7, 0xc6e00bf3, 0xd5a79147, 0x06ca6351, 0x14292967, 0x27b70a85, 0x2e1b2138, 0x4d2c6dfc, 0x53380d13, 0x650a7354, 0x766a0abb, 0x81c2c92e, 0x92722c85, 0xa2bfe8a1, 0xa81a664b, 0xc24b8b70, 0xc76c51a3, 0xd192e819, 0xd6990624, 0xf40e3585, 0x106aa070, 0x19a4c116, 0x1e376c08, 0x2748774c, 0x34b0bcb5, 0x391c0cb3, 0x4ed8aa4a, 0x5b9cca4f, 0x682e6ff3, 0x748f82ee, 0x78a5636f, 0x84c87814, 0x8cc70208, 0x90befffa, 0xa4506ceb, 0xbef9a3f7, 0xc67178f2]
theorem Qhw : K64.length = 64 := rfl
def H0 : S8 := ⟨0x6a09e667, 0xbb67ae85, 0x3c6ef372, 0xa54ff53a, 0x510e527f, 0x9b05688c, 0x1f83d9ab, 0x5be0cd19⟩
def wrd (b : List UInt8) (i : Nat) : W32 := ((((b.getD (4 * i) 0).toBitVec.setWidth 32 <<< 24) ||| ((b.getD (4 * i + 1) 0).toBitVec.setWidth 32 <<< 16)) ||| ((b.getD (4 * i + 2) 0).toBitVec.setWidth 32 <<< 8)) ||| (b.getD (4 * i + 3) 0).toBitVec.setWidth 32
def QhU (l : List W32) : W32 := ((l.getD (l.length - 16) 0 + sg0 (l.getD (l.length - 15) 0)) + l.getD (l.length - 7) 0) + sg1 (l.getD (l.length - 2) 0)
def sch (b : List UInt8) : Nat → List W32
 | 0 => []
 | n + 1 => sch b n ++ [if n < 16 then wrd b n else QhU (sch b n)]
theorem VE (b : List UInt8) : ∀ n, (sch b n).length = n
 | 0 => rfl
 | n + 1 => by rw [sch, List.length_append, VE b n]; rfl
theorem ZA (b : List UInt8) : ∀ (n m i : Nat), i < n → n ≤ m → (sch b m).getD i 0 = (sch b n).getD i 0 := by
 intro n m i hi hm
 induction m with
 | zero => omega
 | succ m ih =>
  by_cases e : n = m + 1
  ·rw [e]
  have hlt : i < (sch b m).length := by rw [VE]; omega
  rw [← ih (by omega), sch]
  simp [List.getD, List.getElem?_append_left hlt]
theorem Qgg (b : List UInt8) (n : Nat) : (sch b (n + 1)).getD n 0 = if n < 16 then wrd b n else QhU (sch b n) := by
 have h := VE b n
 rw [sch]
 simp [List.getD, List.getElem?_append_right (show (sch b n).length ≤ n by omega), h]
def wat (b : List UInt8) (n : Nat) : W32 := (sch b 64).getD n 0
theorem Qq2 {b : List UInt8} {n : Nat} (h : n < 16) : wat b n = wrd b n := by
 unfold wat
 rw [ZA b (n + 1) 64 n (by omega) (by omega), Qgg, if_pos h]
theorem Qq1 {b : List UInt8} {n : Nat} (h : 16 ≤ n) (h' : n < 64) : wat b n = ((wat b (n - 16) + sg0 (wat b (n - 15))) + wat b (n - 7)) + sg1 (wat b (n - 2)) := by
 unfold wat
 rw [ZA b (n + 1) 64 n (by omega) (by omega), Qgg, if_neg (by omega), QhU, VE,
  ZA b n 64 (n - 16) (by omega) (by omega), ZA b n 64 (n - 15) (by omega) (by omega), ZA b n 64 (n - 7) (by omega) (by omega), ZA b n 64 (n - 2) (by omega) (by omega)]
def Vr (b : List UInt8) (s : S8) : Nat → S8
 | 0 => s
 | n + 1 => rnd (K64.getD n 0) (wat b n) (Vr b s n)
def Qfe (b : List UInt8) (s : S8) : S8 := s.add (Vr b s 64)
def YE (l : List (List UInt8)) (s : S8) : S8 := l.foldl (fun s b => Qfe b s) s
theorem Qce (l : List (List UInt8)) (b : List UInt8) (s : S8) : YE (l ++ [b]) s = Qfe b (YE l s) := by
 unfold YE
 rw [List.foldl_append]
 simp only [List.foldl_cons, List.foldl_nil]
def Qei (n i : Nat) : UInt8 := UInt8.ofBitVec ((BitVec.ofNat 64 (8 * n) >>> (8 * (7 - i))).setWidth 8)
def Yg (n : Nat) : Nat := 64 * ((n + 72) / 64)
def pad (b : List UInt8) : List UInt8 := b ++ (128 :: List.replicate (Yg b.length - b.length - 9) 0) ++ (List.range 8).map (Qei b.length)
theorem V7 (n : Nat) : n + 9 ≤ Yg n := by unfold Yg; omega
theorem Qeq (b : List UInt8) : (pad b).length = Yg b.length := by
 have h := V7 b.length
 unfold pad
 generalize Yg b.length = p at *
 rw [List.length_append, List.length_append, List.length_cons, List.length_replicate, List.length_map, List.length_range]
 omega
def QgX (b : List UInt8) : List UInt8 := b ++ (128 :: List.replicate (Yg b.length - b.length - 1) 0)
def Y3 (l : List UInt8) (i : Nat) : List UInt8 := (l.drop (64 * i)).take 64
def VT (l : List UInt8) : List (List UInt8) := (List.range (l.length / 64)).map (Y3 l)
def QcS (s : S8) (i : Nat) : UInt8 := UInt8.ofBitVec ((s.l.getD (i / 4) 0 >>> (24 - 8 * (i % 4))).setWidth 8)
def QfL (s : S8) : List UInt8 := (List.range 32).map (QcS s)
def sha (b : List UInt8) : B32 := ⟨QfL (YE (VT (pad b)) H0), by simp [QfL]⟩
def Qba (b : List UInt8) : Nat → List UInt8
 | 0 => QgX b
 | i + 1 => (Qba b i).set (Yg b.length - 1 - i) (Qei b.length (7 - i))
theorem Qa8 (b : List UInt8) : ∀ i, (Qba b i).length = Yg b.length
 | 0 => by
  have h := V7 b.length
  unfold Qba QgX
  generalize Yg b.length = p at *
  simp
  omega
 | i + 1 => by rw [Qba, List.length_set, Qa8 b i]
theorem QfN (b : List UInt8) : ∀ i, i ≤ 8 → ∀ j, (Qba b i)[j]? = if Yg b.length - i ≤ j ∧ j < Yg b.length then some (Qei b.length (j + 8 - Yg b.length)) else (QgX b)[j]?
 | 0, _, j => by
  unfold Qba
  rw [if_neg (by omega)]
 | i + 1, hi, j => by
  have hp := V7 b.length
  have hl := Qa8 b i
  have ih := QfN b i (by omega) j
  rw [Qba, List.getElem?_set, hl]
  generalize Yg b.length = p at *
  by_cases e : p - 1 - i = j
  ·rw [if_pos e, if_pos (by omega), if_pos (by omega), show 7 - i = j + 8 - p by omega]
  rw [if_neg e, ih]
  by_cases h : p - i ≤ j ∧ j < p
  ·rw [if_pos h, if_pos (by omega)]
  rw [if_neg h, if_neg (by omega)]
theorem QpW (b : List UInt8) : Qba b 8 = pad b := by
 apply List.ext_getElem?
 intro j
 rw [QfN b 8 (Nat.le_refl _) j]
 have hp := V7 b.length
 unfold pad QgX
 generalize Yg b.length = p at *
 have hl : (b ++ (128 :: List.replicate (p - b.length - 9) 0)).length = p - 8 := by
  rw [List.length_append, List.length_cons, List.length_replicate]; omega
 by_cases h : p - 8 ≤ j ∧ j < p
 ·rw [if_pos h, List.getElem?_append_right (by omega), hl, List.getElem?_map, List.getElem?_range (by omega), Option.map_some]
  congr 2
  omega
 rw [if_neg h]
 by_cases h2 : j < p - 8
 ·rw [List.getElem?_append_left (l₁ := b ++ (128 :: List.replicate (p - b.length - 9) 0)) (by omega)]
  by_cases h3 : j < b.length
  ·rw [List.getElem?_append_left h3, List.getElem?_append_left h3]
  rw [List.getElem?_append_right (by omega), List.getElem?_append_right (by omega)]
  cases hj : j - b.length with
  | zero => rfl
  | succ q =>
   rw [List.getElem?_cons_succ, List.getElem?_cons_succ, List.getElem?_replicate, List.getElem?_replicate, if_pos (by omega), if_pos (by omega)]
 rw [List.getElem?_eq_none (by rw [List.length_append, List.length_cons, List.length_replicate]; omega), List.getElem?_eq_none (by rw [List.length_append, hl, List.length_map, List.length_range]; omega)]
end
section
open Go.RowKit
section
variable {P : Program} {n : Nat} {D : List Deferred} {E : Env} {L : List Fa} {T T' : TypeId} {x y : Operand} {k : IntKind} {i j : Int} {m : Nat}
theorem Qmd {p q : Nat} [hk : UK k m] (hx : ev E x = some (.int k i)) (hy : ev E y = some (.int k j)) [ha : NatOf i p] [hb : NatOf j q] (h : q ≤ p ∧ p < 2 ^ m) : QM P n D E L (.binOp .sub T x y T') (.int k ((p - q : Nat) : Int)) := fun c w ka s o ho => by
  obtain rfl := ha.eq
  obtain rfl := hb.eq
  refine J7 ho (ka.ev hx) (ka.ev hy) (by cases k <;> rfl) ?_
  have e : binOp .sub T (.int k (p : Int)) (.int k (q : Int)) = Op.intArith .sub k p q := by simp [binOp]
  rw [e]
  simp only [Op.intArith, hk.wrap]
  rw [Int.emod_eq_of_lt (by omega) (by have h2 := h.2; have : ((p : Nat) : Int) < ((2 ^ m : Nat) : Int) := by exact_mod_cast h2
                                       push_cast at this; omega)]
  rw [Int.ofNat_sub h.1]
  rfl
end
theorem Qo0 (n : Nat) (h : 1 ≤ n ∧ n ≤ 31) : (((BitVec.ofInt 64 (-(n : Int))) &&& BitVec.ofNat 64 31).toNat : Int) = ((32 - n : Nat) : Int) := by
 have key : ∀ k : Fin 32, 1 ≤ k.val → ((BitVec.ofInt 64 (-(k.val : Int))) &&& BitVec.ofNat 64 31).toNat = 32 - k.val := by decide +kernel
 have := key ⟨n, by omega⟩ h.1
 simp only at this
 rw [this]
theorem Qqv (x : W32) (n : Nat) (h : 1 ≤ n ∧ n ≤ 31) : (x <<< (32 - n)) ||| (x >>> (32 - (32 - n))) = qD x n := by
 rw [show 32 - (32 - n) = n by omega, BitVec.or_comm]; rfl
theorem QqT (x : W32) (n : Nat) (h : 1 ≤ n ∧ n ≤ 31) : QC Tryz.prog 271 [.int .u32 (x.toNat : Int), .int .i64 (-(n : Int))].toArray [] [] (fun _ : Unit => .int .u32 ((qD x n).toNat : Int)) (fun _ => []) := by
 refine Qk Tryz.func271 rfl (n := 17) rfl rfl ?_
 intro W
 refine yR ?_
 refine yS rfl ?_
 refine yN ?_
 refine yR ?_
 refine yM rfl ?_
 refine Qb (QrD rfl) ?_
 refine Qb (Jv (qp rfl rfl) (Qo0 n h)) ?_
 refine yS rfl ?_
 refine yN ?_
 refine yR ?_
 refine yM rfl ?_
 refine yM rfl ?_
 refine Qb (Qb4 rfl rfl) ?_
 refine yM rfl ?_
 refine yM rfl ?_
 refine Qb (Qmd rfl rfl ⟨by omega, by omega⟩) ?_
 refine Qb (YW rfl rfl) ?_
 refine Qb (QcT rfl rfl) ?_
 refine yS rfl ?_
 refine yN ?_
 refine Qs ?_
 exact Qu rfl rfl fun w s => ⟨(), by rw [← Qqv x n h], s.res (List.Sublist.refl _) (by simp)⟩
theorem Vi (x : W32) (n : Nat) (h : 1 ≤ n ∧ n ≤ 31) : QC Tryz.prog 134 [.int .u32 (x.toNat : Int), .int .u64 (n : Int)].toArray [] [] (fun _ : Unit => .int .u32 ((qD x n).toNat : Int)) (fun _ => []) := by
 refine Qk Tryz.func134 rfl (n := 13) rfl rfl ?_
 intro W
 refine yR ?_
 refine yS rfl ?_
 refine yN ?_
 refine yR ?_
 refine yM rfl ?_
 refine yM rfl ?_
 refine Qb (YW rfl rfl) ?_
 refine yM rfl ?_
 refine yM rfl ?_
 refine Qb (Qmd rfl rfl ⟨by omega, by omega⟩) ?_
 refine Qb (Qb4 rfl rfl) ?_
 refine Qb (QcT rfl rfl) ?_
 refine yS rfl ?_
 refine yN ?_
 refine Qs ?_
 exact Qu rfl rfl fun w s => ⟨(), rfl, s.res (List.Sublist.refl _) (by simp)⟩
theorem qg (x : W32) (l : List Nat) (hl : ∀ n ∈ l, 1 ≤ n ∧ n ≤ 31) (b o c : Nat) (hn : l.length ≤ 100) : QC Tryz.prog 258 [.int .u32 (x.toNat : Int), .slice (some ⟨b, o, none⟩) l.length c].toArray [.rd (some ⟨b, o, none⟩) (ic l)] [] (fun _ : Unit => .int .u32 ((Qag x l).toNat : Int)) (fun _ => []) := by
 refine Qk Tryz.func258 rfl (n := 22) rfl rfl ?_
 intro W
 refine yR ?_
 refine yS rfl ?_
 refine yN ?_
 refine yR ?_
 refine yS rfl ?_
 refine yN ?_
 refine Qd ?_
 refine yR ?_
 refine yM rfl ?_
 refine Qb (QF rfl) ?_
 refine yM rfl ?_
 refine yN ?_
 refine Qq ?_
 refine QS (fun (k : Nat) => k ≤ l.length) (fun (k : Nat) => [(10, .int .i64 (k : Int)), (9, .int .i64 (l.length : Int)), (8, .slice (some ⟨b, o, none⟩) l.length c), (5, .int .u32 ((Qag x (l.take k)).toNat : Int)), (0, .int .u32 (x.toNat : Int))]) (fun (k : Nat) => [.rd (some ⟨b, o, none⟩) (ic l)]) (fun (k : Nat) => l.length - k) 0 (Nat.zero_le _) ⟨rfl, rfl, rfl, rfl, rfl, trivial⟩ (fun _ s => s) ?_
 intro k hk
 refine yR ?_
 refine Qb (QT rfl rfl) ?_
 refine yN ?_
 refine Qd ?_
 refine QU rfl (fun h => ?_) (fun h => ?_)
 ·have hb := hl (l.getD k 0) (by rw [List.getD, List.getElem?_eq_getElem (by omega)]; exact List.getElem_mem _)
  refine Qn ?_
  refine Qc ?_
  refine Qd ?_
  refine Qq ?_
  refine yR ?_
  refine Qb (QQ rfl rfl) ?_
  refine Qb (QX rfl (Qpd (by omega))) ?_
  refine yS rfl ?_
  refine yN ?_
  refine Q5 ?_
  refine yM rfl ?_
  refine yM rfl ?_
  refine yM rfl ?_
  refine Qb (Qrr rfl) ?_
  refine Qh ((QqT x (l.getD k 0) hb).comes) rfl rfl rfl fun _ => ?_
  refine Qb (Ym rfl rfl) ?_
  refine yS rfl ?_
  refine QE ?_
  refine Q2 ?_
  refine Qc ?_
  refine Q5 ?_
  refine Qb (QI rfl rfl) ?_
  refine yM rfl ?_
  refine QE ?_
  exact QH (k + 1) (by omega) (by omega) ⟨rfl, rfl, rfl, by rw [QjX x (by omega)]; rfl, rfl, trivial⟩ (same)
 refine QK ?_
 refine Qx ?_
 refine Qx ?_
 refine Q8 ?_
 refine Qc ?_
 refine yR ?_
 refine yM rfl ?_
 refine yS rfl ?_
 refine yN ?_
 refine Qs ?_
 obtain rfl : k = l.length := by omega
 exact Qu rfl rfl fun w s => ⟨(), by rw [List.take_length], s.res (List.nil_sublist _) (by simp)⟩
theorem QjZ (m : Nat) (h : m ≤ 1000000000000) : QC Tryz.prog 260 [.int .i64 (m : Int)].toArray [] [] (fun _ : Unit => .int .i64 (((m + 72) / 64 : Nat) : Int)) (fun _ => []) := by
 refine Qk Tryz.func260 rfl (n := 13) rfl rfl ?_
 intro W
 refine yR ?_
 refine yS rfl ?_
 refine yN ?_
 refine Qd ?_
 refine yR ?_
 refine yM rfl ?_
 refine Qb (Ql (QT rfl rfl) (decide_eq_false (by omega))) ?_
 refine yM rfl ?_
 refine yM rfl ?_
 refine Qb (Ql (Jo rfl rfl) (decide_eq_false (by omega))) ?_
 refine Qb (Qy rfl rfl) ?_
 refine yN ?_
 refine Qt rfl ?_
 refine Qn ?_
 refine Qc ?_
 refine yR ?_
 refine yM rfl ?_
 refine Qb (QI rfl rfl) ?_
 refine Qb (QI rfl rfl) ?_
 refine Qb (Jv (Zk rfl rfl) (show _ = (((m + 72) / 64 : Nat) : Int) by omega)) ?_
 refine yS rfl ?_
 refine yN ?_
 refine Qs ?_
 exact Qu rfl rfl fun w s => ⟨(), rfl, s.res (List.Sublist.refl _) (by simp)⟩
theorem Qob (l : List UInt8) : (l ++ (List.replicate (Yg l.length) (0 : UInt8)).drop l.length).set l.length (UInt8.ofBitVec 128) = QgX l := by
 have h := V7 l.length
 unfold QgX
 generalize Yg l.length = p at *
 rw [List.set_append_right _ _ (Nat.le_refl _), Nat.sub_self, List.drop_replicate]
 obtain ⟨q, hq⟩ : ∃ q, p - l.length = q + 1 := ⟨p - l.length - 1, by omega⟩
 rw [hq, List.replicate_succ, List.set_cons_zero]
 rfl
theorem QhS (n i : Nat) (h : i ≤ 7) (hn : n ≤ 1000000000000) : UInt8.ofBitVec (((BitVec.ofNat 64 n * 8) >>> (8 * i)).setWidth 8) = Qei n (7 - i) := by
 unfold Qei
 rw [show 7 - (7 - i) = i by omega, show BitVec.ofNat 64 n * 8 = BitVec.ofNat 64 (8 * n) by rw [Nat.mul_comm, BitVec.ofNat_mul]; rfl]
theorem QqQ (l : List UInt8) (A : Option Addr) (c : Nat) (hA : A = none → l.length = 0 ∧ c = 0) (hn : l.length ≤ 100000000000) : QC Tryz.prog 224 [.slice A l.length c].toArray [.rd A (bc l)] [] (fun u : Nat × Nat => .slice (some ⟨u.1, 0, none⟩) (pad l).length u.2) (fun u => [.own (.slice (some ⟨u.1, 0, none⟩) (pad l).length u.2) (pad l).length 5 1 (bc (pad l))]) := by
 rw [← QpW, Qa8]
 have hp : 64 * ((l.length + 72) / 64) = Yg l.length := rfl
 have hp2 := V7 l.length
 have hp3 : Yg l.length ≤ l.length + 72 := by unfold Yg; omega
 have hz := Qob l
 have h8 := Qa8 l
 have hst : ∀ i, i < 8 → Qba l (i + 1) = (Qba l i).set (Yg l.length - 1 - i) (Qei l.length (7 - i)) := fun i _ => by rw [Qba]
 have h0 : Qba l 0 = QgX l := rfl
 generalize Yg l.length = p at *
 obtain ⟨q, hq⟩ : ∃ q, q = l ++ List.drop l.length (List.replicate p 0) := ⟨_, rfl⟩
 have hql : q.length = p := by rw [hq, List.length_append, List.length_drop, List.length_replicate]; omega
 rw [← hq] at hz
 refine Qk Tryz.func224 rfl (n := 39) rfl rfl ?_
 intro W
 refine yR ?_
 refine yS rfl ?_
 refine yN ?_
 refine yR ?_
 refine yM rfl ?_
 refine Qb (QF rfl) ?_
 refine Qh ((QjZ l.length (by omega)).comes) rfl rfl rfl fun _ => ?_
 refine Qb (Jv (qR rfl rfl) (show _ = (p : Int) by omega)) ?_
 refine Qo (VH rfl rfl) fun g10 => ?_
 refine yS rfl ?_
 refine yN ?_
 refine yR ?_
 refine yM rfl ?_
 refine yM rfl ?_
 refine Qo (QoX rfl rfl (fun e => (hA e).1) rfl) fun _ => ?_
 refine yN ?_
 refine yR ?_
 refine yM rfl ?_
 refine yM rfl ?_
 refine Qb (QF rfl) ?_
 rw [← hq]
 refine Qb (QQ rfl rfl) ?_
 refine Q7 (Qii rfl rfl) ?_
 refine yN ?_
 refine yR ?_
 refine yM rfl ?_
 refine Qb (QF rfl) ?_
 refine Qb (Zi rfl) ?_
 refine Qb (Qab rfl rfl) ?_
 refine yS rfl ?_
 refine yN ?_
 refine Qd ?_
 refine yR ?_
 refine yM rfl ?_
 refine yN ?_
 refine Qq ?_
 rw [hz]
 refine QS (fun (i : Nat) => i ≤ 8) (fun (i : Nat) => [(22, .int .i64 (i : Int)), (3, .slice (some ⟨g10, 0, none⟩) p p), (4, .int .u64 ((BitVec.ofNat 64 l.length * 8).toNat : Int))]) (fun (i : Nat) => [.own (.slice (some ⟨g10, 0, none⟩) p p) p 5 1 (bc (Qba l i))]) (fun (i : Nat) => 8 - i) 0 (by omega) ⟨rfl, rfl, rfl, trivial⟩ (by rw [h0]; exact same) ?_
 intro i hi
 have hl := h8 i
 refine yR ?_
 refine Qb (QT rfl rfl) ?_
 refine yN ?_
 refine Qd ?_
 refine QU rfl (fun h => ?_) (fun h => ?_)
 ·refine Qn ?_
  refine Qc ?_
  refine Qd ?_
  refine Qq ?_
  refine yR ?_
  refine yM rfl ?_
  refine yS rfl ?_
  refine yN ?_
  refine Q5 ?_
  refine yM rfl ?_
  refine yM rfl ?_
  refine Qb (QF rfl) ?_
  refine Qb (YR rfl rfl) ?_
  refine yM rfl ?_
  refine Qb (YR rfl rfl) ?_
  refine yM rfl ?_
  refine yM rfl ?_
  refine Qb (qR rfl rfl) ?_
  refine Qb (YW rfl rfl) ?_
  refine Qb (Qew rfl) ?_
  refine Qb (QQ rfl rfl) ?_
  refine Q7 (Qii rfl rfl) ?_
  refine QE ?_
  refine Q2 ?_
  refine Qc ?_
  rw [QhS l.length i (by omega) (by omega), ← hst i (by omega)]
  refine Q5 ?_
  refine Qb (QI rfl rfl) ?_
  refine yM rfl ?_
  refine QE ?_
  exact QH (i + 1) (by omega) (by omega) ⟨rfl, rfl, rfl, trivial⟩ (same)
 refine QK ?_
 refine Qx ?_
 refine Qx ?_
 refine Q8 ?_
 refine Qc ?_
 refine yR ?_
 refine yM rfl ?_
 refine yS rfl ?_
 refine yN ?_
 refine Qs ?_
 obtain rfl : i = 8 := by omega
 exact Qu rfl rfl fun w s => ⟨(g10, p), rfl, s.res (List.Sublist.refl _) (by simp [Fa.wr])⟩
end
section
open Go.RowKit
def Qf7 : Nat → List Value → List (Nat × Value)
 | _, [] => []
 | k, v :: l => (k, v) :: Qf7 (k + 1) l
theorem V8 : ∀ (l : List Value) (k : Nat), (∀ v ∈ l, v.oneCell' = true) → Parts 1 k (Qf7 k l) l
 | [], k, _ => inferInstanceAs (Parts 1 k [] [])
 | v :: l, k, h => by
  have h1 : v.oneCell' = true := h v (by simp)
  have hv : VCells v [v] := ⟨by cases v <;> first | rfl | simp [Value.oneCell'] at h1⟩
  exact Parts.cons hv (Yy h1) (V8 l (k + 1) fun u hu => h u (by simp [hu]))
theorem Qho {m : Nat} (k : IntKind) (l : List (BitVec m)) : ∀ v ∈ wc k l, v.oneCell' = true := by
 intro v hv
 obtain ⟨x, _, rfl⟩ := List.mem_map.1 hv
 rfl
instance rowK64 : Row (wc .u32 K64) 64 := ⟨rfl, Qho _ _⟩
theorem Qev : Parts 1 0 (Qf7 0 (wc .u32 K64)) (wc .u32 K64) := V8 _ 0 (Qho _ _)
theorem QlM : QC Tryz.prog 131 ([] : List Value).toArray [] [] (fun g : Nat => .slice (some ⟨g, 0, none⟩) 64 64) (fun g => [.own (.slice (some ⟨g, 0, none⟩) 64 64) 64 251 1 (wc .u32 K64)]) := by
 refine Qk Tryz.func131 rfl (n := 2) rfl rfl ?_
 intro W
 refine yR ?_
 refine yS rfl ?_
 refine yN ?_
 refine yR ?_
 refine Qo (J8 (ps := Qf7 0 (wc .u32 K64)) rfl rfl (hf := Qev) (ho := rowK64)) fun g1 => ?_
 refine yS rfl ?_
 refine yN ?_
 refine Qs ?_
 exact Qu rfl rfl fun w s => ⟨g1, rfl, s.res (List.Sublist.refl _) (by simp [Fa.wr])⟩
def Qep (l : List UInt8) (k : Nat) : List UInt8 := (l ++ [128]) ++ List.replicate k 0
theorem Qj0 (l : List UInt8) (k : Nat) : Qep l k ++ [UInt8.ofBitVec 0] = Qep l (k + 1) := by
 unfold Qep
 rw [List.replicate_succ', List.append_assoc]
 rfl
def QfO (l : List UInt8) (j : Nat) : List UInt8 := Qep l (Yg l.length - l.length - 9) ++ (List.range j).map (Qei l.length)
theorem Qjz (l : List UInt8) (j : Nat) : QfO l j ++ [Qei l.length j] = QfO l (j + 1) := by
 unfold QfO
 rw [List.range_succ, List.map_append, List.append_assoc]
 rfl
theorem QpX (l : List UInt8) : QfO l 8 = pad l := by
 unfold QfO Qep pad
 simp only [List.append_assoc, List.cons_append, List.nil_append]
theorem Ql2 (n j : Nat) (h : j ≤ 7) (hn : n ≤ 1000000000000) : UInt8.ofBitVec (((BitVec.ofNat 64 n * 8) >>> (56 - 8 * j)).setWidth 8) = Qei n j := by
 have := QhS n (7 - j) (by omega) hn
 rwa [show 8 * (7 - j) = 56 - 8 * j by omega, show 7 - (7 - j) = j by omega] at this
theorem Qmf (l : List UInt8) (A : Option Addr) (c : Nat) (hA : A = none → l.length = 0 ∧ c = 0) (hn : l.length ≤ 100000000000) : QC Tryz.prog 132 [.slice A l.length c].toArray [.rd A (bc l)] [] (fun u : Nat × Nat => .slice (some ⟨u.1, 0, none⟩) (pad l).length u.2) (fun u => [.own (.slice (some ⟨u.1, 0, none⟩) (pad l).length u.2) (pad l).length 5 1 (bc (pad l))]) := by
 rw [Qeq]
 have hp : 64 * ((l.length + 72) / 64) = Yg l.length := rfl
 have hp2 := V7 l.length
 have hj0 : ∀ k, k = Yg l.length - l.length - 9 → Qep l k = QfO l 0 := fun k hk => by unfold QfO; rw [hk]; simp
 generalize Yg l.length = p at *
 refine Qk Tryz.func132 rfl (n := 36) rfl rfl ?_
 intro W
 refine yR ?_
 refine yS rfl ?_
 refine yN ?_
 refine yR ?_
 refine Qo (Qhr (xs := bc [])) fun g6 => ?_
 refine yM rfl ?_
 refine Qo (Vd rfl rfl hA rfl) fun ⟨A8, c8⟩ => ?_
 refine yS rfl ?_
 refine yN ?_
 refine yR ?_
 refine yM rfl ?_
 refine Qo (J8 rfl rfl) fun g10 => ?_
 refine Qo (QeB rfl rfl) fun ⟨g11, c11⟩ => ?_
 refine yS rfl ?_
 refine yN ?_
 refine Qd ?_
 refine Qq ?_
 rw [show ([] ++ l) ++ [UInt8.ofBitVec 128] = Qep l 0 by simp [Qep]]
 refine QS (fun (s : Nat × Nat × Nat) => l.length + 1 + s.1 ≤ p - 8) (fun (s : Nat × Nat × Nat) => [(3, .slice (some ⟨s.2.1, 0, none⟩) (l.length + 1 + s.1) s.2.2), (0, .slice A l.length c)]) (fun (s : Nat × Nat × Nat) => [.own (.slice (some ⟨s.2.1, 0, none⟩) (l.length + 1 + s.1) s.2.2) (l.length + 1 + s.1) 5 1 (bc (Qep l s.1))]) (fun (s : Nat × Nat × Nat) => p - s.1) (0, g11, c11) ((show l.length + 1 + 0 ≤ p - 8 by omega)) ⟨rfl, rfl, trivial⟩ (same) ?_
 rintro ⟨k, g, cp⟩ hk
 simp only at hk
 refine Qd ?_
 refine yR ?_
 refine yM rfl ?_
 refine Qb (QF rfl) ?_
 refine Qb (VL rfl rfl) ?_
 refine Qb (QL rfl rfl) ?_
 refine yN ?_
 refine QU rfl (fun h => ?_) (fun h => ?_)
 ·have hlt : l.length + 1 + k < p - 8 := by omega
  refine Qn ?_
  refine Qc ?_
  refine Qq ?_
  refine Q5 ?_
  refine yM rfl ?_
  refine Qo (J8 rfl rfl) fun g17 => ?_
  refine Qo (QeB rfl rfl) fun ⟨g18, c18⟩ => ?_
  refine yS rfl ?_
  refine QE ?_
  refine Q2 ?_
  rw [Qj0]
  exact QH (k + 1, g18, c18) ((show l.length + 1 + (k + 1) ≤ p - 8 by omega)) ((show p - (k + 1) < p - k by omega)) ⟨rfl, rfl, trivial⟩ (same)
 have hk2 : k = p - l.length - 9 := by omega
 rw [hj0 k hk2]
 have hN : l.length + 1 + k = p - 8 := by omega
 rw [hN]
 refine QK ?_
 refine Qx ?_
 refine Qx ?_
 refine Q8 ?_
 refine Qc ?_
 refine yR ?_
 refine yM rfl ?_
 refine Qb (QF rfl) ?_
 refine Qb (Zi rfl) ?_
 refine Qb (Qab rfl rfl) ?_
 refine yS rfl ?_
 refine yN ?_
 refine Qd ?_
 refine yR ?_
 refine yS rfl ?_
 refine yN ?_
 refine Qq ?_
 refine QS (fun (s : Nat × Nat × Nat) => s.1 ≤ 8) (fun (s : Nat × Nat × Nat) => [(3, .slice (some ⟨s.2.1, 0, none⟩) (p - 8 + s.1) s.2.2), (4, .int .u64 ((BitVec.ofNat 64 l.length * 8).toNat : Int)), (5, .int .i64 (56 - 8 * (s.1 : Int)))]) (fun (s : Nat × Nat × Nat) => [.own (.slice (some ⟨s.2.1, 0, none⟩) (p - 8 + s.1) s.2.2) (p - 8 + s.1) 5 1 (bc (QfO l s.1))]) (fun (s : Nat × Nat × Nat) => 8 - s.1) (0, g, cp) ((show 0 ≤ 8 by omega)) ⟨rfl, rfl, rfl, trivial⟩ (same) ?_
 rintro ⟨j, g, cp⟩ hj
 simp only at hj
 refine Qd ?_
 refine yR ?_
 refine yM rfl ?_
 refine Qb (Vb rfl rfl) ?_
 refine yN ?_
 refine QU rfl (fun h => ?_) (fun h => ?_)
 ·refine Qn ?_
  refine Qc ?_
  refine Qd ?_
  refine Qq ?_
  refine Q5 ?_
  refine yM rfl ?_
  refine yM rfl ?_
  refine yM rfl ?_
  refine Qb (Qro (q := 56 - 8 * j) rfl (by omega) (by omega)) ?_
  refine Qb (YW rfl rfl) ?_
  refine Qb (Qew rfl) ?_
  refine Qo (J8 rfl rfl) fun g33 => ?_
  refine Qo (QeB rfl rfl) fun ⟨g34, c34⟩ => ?_
  refine yS rfl ?_
  refine QE ?_
  refine Q2 ?_
  refine Qc ?_
  refine Q5 ?_
  refine yM rfl ?_
  refine Qb (YQ rfl rfl) ?_
  refine yS rfl ?_
  refine QE ?_
  rw [Ql2 l.length j (by omega) (by omega), Qjz]
  exact QH (j + 1, g34, c34) ((show j + 1 ≤ 8 by omega)) ((show 8 - (j + 1) < 8 - j by omega)) ⟨rfl, rfl, aI rfl (by omega), trivial⟩ (same)
 obtain rfl : j = 8 := by omega
 rw [QpX, show p - 8 + 8 = p by omega]
 refine QK ?_
 refine Qx ?_
 refine Qx ?_
 refine Q8 ?_
 refine Qc ?_
 refine yR ?_
 refine yM rfl ?_
 refine yS rfl ?_
 refine yN ?_
 refine Qs ?_
 exact Qu rfl rfl fun w s => ⟨(g, cp), rfl, s.res (List.Sublist.refl _) (by simp [Fa.wr])⟩
end
section
open Go.RowKit
theorem Sx.ownSome {A : List Fa} {W w : World} {L M : List Fa} {B : Option Addr} {N c e size : Nat} {xs : List Value} (s : Sx A W w L) [hd : TakeO (.slice B N c) L N e size xs M] (h : 0 < N) : ∃ g, B = some ⟨g, 0, none⟩ := by
 have ho : w.ownsRow 0 e size (.slice B N c) N xs := (s.perm hd.perm).ok (.own _ _ _ _ _) (List.mem_cons_self ..)
 rcases ho.2 with ⟨_, rfl⟩ | ⟨g, cap, cur, e1, _⟩
 ·omega
 injection e1 with e1 _ _
 exact ⟨g, e1⟩
theorem Qqy (l : List UInt8) (k : Nat) (h : k < 16) : sch l (k + 1) = sch l k ++ [wrd l k] := by rw [sch, if_pos h]
theorem Qqx (l : List UInt8) (k : Nat) (h : 16 ≤ k) : sch l (k + 1) = sch l k ++ [(((sch l k).getD (k - 16) 0 + sg0 ((sch l k).getD (k - 15) 0)) + (sch l k).getD (k - 7) 0) + sg1 ((sch l k).getD (k - 2) 0)] := by
 rw [sch, if_neg (by omega), QhU, VE]
theorem Qhh (l : List UInt8) (b o c : Nat) (hl : l.length = 64) : QC Tryz.prog 133 [.slice (some ⟨b, o, none⟩) 64 c].toArray [.rd (some ⟨b, o, none⟩) (bc l)] [] (fun u : Nat × Nat => .slice (some ⟨u.1, 0, none⟩) 64 u.2) (fun u => [.own (.slice (some ⟨u.1, 0, none⟩) 64 u.2) 64 251 1 (wc .u32 (sch l 64))]) := by
 refine Qk Tryz.func133 rfl (n := 95) rfl rfl ?_
 intro W
 refine yR ?_
 refine yS rfl ?_
 refine yN ?_
 refine yR ?_
 refine yS rfl ?_
 refine yN ?_
 refine Qd ?_
 refine yR ?_
 refine yS rfl ?_
 refine yN ?_
 refine Qq ?_
 refine Ju 251 1 (xs := wc .u32 (sch l 0)) rfl ?_
 refine QS (fun (s : Nat × Option Addr × Nat) => s.1 ≤ 16) (fun (s : Nat × Option Addr × Nat) => [(4, .int .i64 (s.1 : Int)), (3, .slice s.2.1 s.1 s.2.2), (0, .slice (some ⟨b, o, none⟩) 64 c)]) (fun (s : Nat × Option Addr × Nat) => [.own (.slice s.2.1 s.1 s.2.2) s.1 251 1 (wc .u32 (sch l s.1)), .rd (some ⟨b, o, none⟩) (bc l)]) (fun (s : Nat × Option Addr × Nat) => 16 - s.1) (0, none, 0) ((show 0 ≤ 16 by omega)) ⟨rfl, rfl, rfl, trivial⟩ (same) ?_
 rintro ⟨k, B, cp⟩ hk
 dsimp only at hk ⊢
 refine Qd ?_
 refine yR ?_
 refine yM rfl ?_
 refine Qb (QT rfl rfl) ?_
 refine yN ?_
 refine QU rfl (fun h => ?_) (fun h => ?_)
 ·have hst := Qqy l k (by omega)
  unfold wrd at hst
  refine Qn ?_
  refine Qc ?_
  refine Qd ?_
  refine Qq ?_
  refine Q1 [.rd (some ⟨b, o, none⟩) (bc l)] [] QJ (same) ?_
  refine Qa 0 rfl (Qi rfl) ?_
  refine Qa 1 rfl (Qi rfl) ?_
  refine Qa 2 rfl (Qi rfl) ?_
  refine Qa 3 rfl (qR rfl rfl) ?_
  refine Qa 4 rfl (QQ rfl rfl) ?_
  refine Qp 5 rfl (QX rfl (J1 (by omega))) ?_
  refine Qa 6 rfl (Qew rfl) ?_
  refine Qa 7 rfl (Qb4 rfl rfl) ?_
  refine Qa 8 rfl (Qi rfl) ?_
  refine Qa 9 rfl (Qi rfl) ?_
  refine Qa 10 rfl (qR rfl rfl) ?_
  refine Qa 11 rfl (QI rfl rfl) ?_
  refine Qa 12 rfl (QQ rfl rfl) ?_
  refine Qp 13 rfl (QX rfl (J1 (by omega))) ?_
  refine Qa 14 rfl (Qew rfl) ?_
  refine Qa 15 rfl (Qb4 rfl rfl) ?_
  refine Qa 16 rfl (QcT rfl rfl) ?_
  refine Qa 17 rfl (Qi rfl) ?_
  refine Qa 18 rfl (Qi rfl) ?_
  refine Qa 19 rfl (qR rfl rfl) ?_
  refine Qa 20 rfl (QI rfl rfl) ?_
  refine Qa 21 rfl (QQ rfl rfl) ?_
  refine Qp 22 rfl (QX rfl (J1 (by omega))) ?_
  refine Qa 23 rfl (Qew rfl) ?_
  refine Qa 24 rfl (Qb4 rfl rfl) ?_
  refine Qa 25 rfl (QcT rfl rfl) ?_
  refine Qa 26 rfl (Qi rfl) ?_
  refine Qa 27 rfl (Qi rfl) ?_
  refine Qa 28 rfl (qR rfl rfl) ?_
  refine Qa 29 rfl (QI rfl rfl) ?_
  refine Qa 30 rfl (QQ rfl rfl) ?_
  refine Qp 31 rfl (QX rfl (J1 (by omega))) ?_
  refine Qa 32 rfl (Qew rfl) ?_
  refine Qa 33 rfl (QcT rfl rfl) ?_
  refine Qv 34 ?_
  refine JB 34 rfl (rk (J8 rfl rfl)) (fun _ => same) fun g46 => ?_
  refine Qv 35 ?_
  refine JB 35 rfl (rk (QoU rfl rfl)) (fun _ => same) fun ⟨g47, c47⟩ => ?_
  refine Qa 36 rfl (Q6 rfl) ?_
  refine QB (by kernel_rfl) ?_
  refine Q2 ?_
  refine Qc ?_
  rw [← hst]
  refine Q5 ?_
  refine yM rfl ?_
  refine Qb (QI rfl rfl) ?_
  refine yS rfl ?_
  refine QE ?_
  exact QH (k + 1, some ⟨g47, 0, none⟩, c47) ((show k + 1 ≤ 16 by omega)) ((show 16 - (k + 1) < 16 - k by omega)) ⟨rfl, rfl, rfl, trivial⟩ (same)
 obtain rfl : k = 16 := by omega
 refine Jq (φ := ∃ g, B = some ⟨g, 0, none⟩) (fun w s => s.ownSome (N := 16) (c := cp) (by decide)) ?_
 rintro ⟨g, rfl⟩
 refine QK ?_
 refine Qx ?_
 refine Qx ?_
 refine Q8 ?_
 refine Qc ?_
 refine Qd ?_
 refine yR ?_
 refine yS rfl ?_
 refine yN ?_
 refine Qq ?_
 refine QS (fun (s : Nat × Nat × Nat) => 16 ≤ s.1 ∧ s.1 ≤ 64) (fun (s : Nat × Nat × Nat) => [(5, .int .i64 (s.1 : Int)), (3, .slice (some ⟨s.2.1, 0, none⟩) s.1 s.2.2)]) (fun (s : Nat × Nat × Nat) => [.own (.slice (some ⟨s.2.1, 0, none⟩) s.1 s.2.2) s.1 251 1 (wc .u32 (sch l s.1))]) (fun (s : Nat × Nat × Nat) => 64 - s.1) (16, g, cp) ((show 16 ≤ 16 ∧ 16 ≤ 64 by omega)) ⟨rfl, rfl, trivial⟩ (same) ?_
 rintro ⟨k, g, cp⟩ hk
 dsimp only at hk ⊢
 refine Qd ?_
 refine yR ?_
 refine yM rfl ?_
 refine Qb (QT rfl rfl) ?_
 refine yN ?_
 refine QU rfl (fun h => ?_) (fun h => ?_)
 ·have hst := Qqx l k (by omega)
  unfold sg0 sg1 at hst
  have hsl := VE l k
  refine Qn ?_
  refine Qc ?_
  refine Qd ?_
  refine Qq ?_
  refine yR ?_
  refine yM rfl ?_
  refine yM rfl ?_
  refine Qb (YR rfl rfl) ?_
  refine Qb (QQ rfl rfl) ?_
  refine Qb (QX rfl (YT (by omega))) ?_
  refine yS rfl ?_
  refine yN ?_
  refine yR ?_
  refine yM rfl ?_
  refine yM rfl ?_
  refine Qb (YR rfl rfl) ?_
  refine Qb (QQ rfl rfl) ?_
  refine Qb (QX rfl (YT (by omega))) ?_
  refine yS rfl ?_
  refine yN ?_
  refine Q1 [] [.rd (some ⟨g, 0, none⟩) (wc .u32 (sch l k))] QJ (same) ?_
  refine Qa 0 rfl (Qi rfl) ?_
  refine Qa 1 rfl (Qi rfl) ?_
  refine Qa 2 rfl (Qi rfl) ?_
  refine Qa 3 rfl (YR rfl rfl) ?_
  refine Qa 4 rfl (QQ rfl rfl) ?_
  refine Qf6 5 rfl (QX rfl (YT (by omega))) ?_
  refine Qa 6 rfl (Qi rfl) ?_
  refine Qa 8 rfl (Qi rfl) ?_
  refine Qa 11 rfl (Qi rfl) ?_
  refine Qa 12 rfl (YW rfl rfl) ?_
  refine Qa 15 rfl (Qi rfl) ?_
  refine Qa 16 rfl (Qi rfl) ?_
  refine Qa 17 rfl (YR rfl rfl) ?_
  refine Qa 18 rfl (QQ rfl rfl) ?_
  refine Qf6 19 rfl (QX rfl (YT (by omega))) ?_
  refine Qa 21 rfl (Qi rfl) ?_
  refine Qa 23 rfl (Qi rfl) ?_
  refine Qa 26 rfl (Qi rfl) ?_
  refine Qa 27 rfl (YW rfl rfl) ?_
  refine Qv 7 ?_
  refine QR 7 rfl ((Vi _ 7 (by decide)).comes) rfl rfl rfl (fun xx => same) fun _ => ?_
  refine Qv 9 ?_
  refine QR 9 rfl ((Vi _ 18 (by decide)).comes) rfl rfl rfl (fun xx => same) fun _ => ?_
  refine Qa 10 rfl (Ym rfl rfl) ?_
  refine Qa 13 rfl (Ym rfl rfl) ?_
  refine Qa 14 rfl (Jn rfl rfl) ?_
  refine Qa 20 rfl (Jn rfl rfl) ?_
  refine Qv 22 ?_
  refine QR 22 rfl ((Vi _ 17 (by decide)).comes) rfl rfl rfl (fun xx => same) fun _ => ?_
  refine Qv 24 ?_
  refine QR 24 rfl ((Vi _ 19 (by decide)).comes) rfl rfl rfl (fun xx => same) fun _ => ?_
  refine Qa 25 rfl (Ym rfl rfl) ?_
  refine Qa 28 rfl (Ym rfl rfl) ?_
  refine Qa 29 rfl (Jn rfl rfl) ?_
  refine Qv 30 ?_
  refine JB 30 rfl (rk (J8 rfl rfl)) (fun _ => same) fun g92 => ?_
  refine Qv 31 ?_
  refine JB 31 rfl (QnP rfl rfl) (fun _ => same) fun ⟨g93, c93⟩ => ?_
  refine Qa 32 rfl (Q6 rfl) ?_
  refine QB (by kernel_rfl) ?_
  refine Q2 ?_
  refine Qc ?_
  rw [← hst]
  refine Q5 ?_
  refine yM rfl ?_
  refine Qb (QI rfl rfl) ?_
  refine yS rfl ?_
  refine QE ?_
  exact QH (k + 1, g93, c93) ((show 16 ≤ k + 1 ∧ k + 1 ≤ 64 by omega)) ((show 64 - (k + 1) < 64 - k by omega)) ⟨rfl, rfl, trivial⟩ (same)
 obtain rfl : k = 64 := by omega
 refine QK ?_
 refine Qx ?_
 refine Qx ?_
 refine Q8 ?_
 refine Qc ?_
 refine yR ?_
 refine yM rfl ?_
 refine yS rfl ?_
 refine yN ?_
 refine Qs ?_
 exact Qu rfl rfl fun w s => ⟨(g, cp), rfl, s.res (List.Sublist.refl _) (by simp [Fa.wr])⟩
end
end Go.Proofs.YtjhlbbgikccclaaGreatDoor
