/- Structs of this translation that are built from parts. -/
import Derived.Test.YthinpbgbnlohpaaB4
import Derived.Test.YthinpbgbnlohpaaT1
namespace Go.Proofs.Ythinpbgbnlohpaa
set_option linter.unusedSimpArgs false
set_option linter.unusedVariables false
open Go.RowKit
theorem elI : ElT Try.prog 22 61 97 104 (.agg zItem.cells.toArray) := ⟨Try.underlying22, by kernel_rfl, zItem_size, by decide, by decide⟩
theorem elB : ElT Try.prog 25 5 1 1 (.int .u8 0) := ⟨Try.underlying25, by kernel_rfl, rfl, by decide, by decide⟩
theorem size3' : (Try.prog.info? 3).map (·.size) = some 1 := by kernel_rfl
section
variable {w : World}
theorem buildItem {ps : List (Nat × Value)} {y : Item} (hf : Instr.fill (fun i => ([(0, 1), (1, 32), (33, 64)] : List (Nat × Nat)).toArray[i]?) zItem.cells.toArray ps = some y.cells.toArray) : (Instr.build 61 ps.toArray).run Try.prog w = .ok (.agg y.cells.toArray) w := by
  obtain ⟨f1, f2, f3, hT, -, -, -, t1, t2, t3, o1, o2, o3⟩ := itemFields
  exact run_build_struct (fl := [f1, f2, f3]) hT zero61 (pl := [(0, 1), (1, 32), (33, 64)]) (by simp [t1, t2, t3, o1, o2, o3, size3, size43, size45]) hf
theorem buildLeaf {ps : List (Nat × Value)} {y : Leaf} (hf : Instr.fill (fun i => ([(0, 32), (32, 32)] : List (Nat × Nat)).toArray[i]?) zLeaf.cells.toArray ps = some y.cells.toArray) : (Instr.build 45 ps.toArray).run Try.prog w = .ok (.agg y.cells.toArray) w := by
  obtain ⟨f1, f2, hT, -, -, t1, t2, o1, o2⟩ := leafFields
  exact run_build_struct (fl := [f1, f2]) hT zero45 (pl := [(0, 32), (32, 32)]) (by simp [t1, t2, o1, o2, size42, size43]) hf
theorem zero42 : (Try.prog.info? 42).map (fun i => (i.zero, i.size)) = some (some (.agg zB32.cells.toArray), 32) := by kernel_rfl
end
section
variable {a : Act} {w : World} {o : Oper}
theorem exItem_ (ho : o.op = .build 61 #[]) : (execOp a.eval o).run Try.prog w = .ok (.value (.agg zItem.cells.toArray)) w :=
  ex_build (l := []) ho [] rfl (buildItem (by rfl))
theorem exItem0 {x0 : Operand} (ho : o.op = .build 61 #[(0, x0)]) {k : Int} (h0 : a.eval x0 = .int .i64 k) : (execOp a.eval o).run Try.prog w = .ok (.value (.agg (Item.cells ⟨k, zB32, zLeaf⟩).toArray)) w :=
  ex_build (l := [(0, x0)]) ho [(0, .int .i64 k)] (by simp [h0]) (buildItem (by rw [fill_Item0]; rfl))
theorem exItem01 {x0 x1 : Operand} (ho : o.op = .build 61 #[(0, x0), (1, x1)]) {k : Int} (h0 : a.eval x0 = .int .i64 k) {d : B32} (h1 : a.eval x1 = .agg d.cells.toArray) : (execOp a.eval o).run Try.prog w = .ok (.value (.agg (Item.cells ⟨k, d, zLeaf⟩).toArray)) w :=
  ex_build (l := [(0, x0), (1, x1)]) ho [(0, .int .i64 k), (1, .agg d.cells.toArray)] (by simp [h0, h1]) (buildItem (by rw [fill_Item0, fill_Item1]; rfl))
theorem exItem02 {x0 x1 : Operand} (ho : o.op = .build 61 #[(0, x0), (2, x1)]) {k : Int} (h0 : a.eval x0 = .int .i64 k) {d : Leaf} (h1 : a.eval x1 = .agg d.cells.toArray) : (execOp a.eval o).run Try.prog w = .ok (.value (.agg (Item.cells ⟨k, zB32, d⟩).toArray)) w :=
  ex_build (l := [(0, x0), (2, x1)]) ho [(0, .int .i64 k), (2, .agg d.cells.toArray)] (by simp [h0, h1]) (buildItem (by rw [fill_Item0, fill_Item2]; rfl))
theorem exLeaf01 {x0 x1 : Operand} (ho : o.op = .build 45 #[(0, x0), (1, x1)]) {k d : B32} (h0 : a.eval x0 = .agg k.cells.toArray) (h1 : a.eval x1 = .agg d.cells.toArray) : (execOp a.eval o).run Try.prog w = .ok (.value (.agg (Leaf.cells ⟨k, d⟩).toArray)) w :=
  ex_build (l := [(0, x0), (1, x1)]) ho [(0, .agg k.cells.toArray), (1, .agg d.cells.toArray)] (by simp [h0, h1]) (buildLeaf (by rw [fill_Leaf0, fill_Leaf1]; rfl))
theorem exLeaf0 {x0 : Operand} (ho : o.op = .build 45 #[(0, x0)]) {k : B32} (h0 : a.eval x0 = .agg k.cells.toArray) : (execOp a.eval o).run Try.prog w = .ok (.value (.agg (Leaf.cells ⟨k, zB32⟩).toArray)) w :=
  ex_build (l := [(0, x0)]) ho [(0, .agg k.cells.toArray)] (by simp [h0]) (buildLeaf (by rw [fill_Leaf0]; rfl))
/-- 32 bytes that begin with b -/
def headB (b : UInt8) : B32 := ⟨(List.replicate 32 0).set 0 b, by simp⟩
theorem exDigest0 {x0 : Operand} (ho : o.op = .build 43 #[(0, x0)]) {b : UInt8} (h0 : a.eval x0 = .int .u8 b.toNat) : (execOp a.eval o).run Try.prog w = .ok (.value (.agg (headB b).cells.toArray)) w :=
  ex_build (l := [(0, x0)]) ho [(0, .int .u8 b.toNat)] (by simp [h0]) (run_build_array Try.underlying43 zero43 size5 (by unfold B32.cells zB32; rw [fill_B32 0 b _ (by simp)]; rfl))
theorem exKey0 {x0 : Operand} (ho : o.op = .build 42 #[(0, x0)]) {b : UInt8} (h0 : a.eval x0 = .int .u8 b.toNat) : (execOp a.eval o).run Try.prog w = .ok (.value (.agg (headB b).cells.toArray)) w :=
  ex_build (l := [(0, x0)]) ho [(0, .int .u8 b.toNat)] (by simp [h0]) (run_build_array Try.underlying42 zero42 size5 (by unfold B32.cells zB32; rw [fill_B32 0 b _ (by simp)]; rfl))
end
end Go.Proofs.Ythinpbgbnlohpaa
