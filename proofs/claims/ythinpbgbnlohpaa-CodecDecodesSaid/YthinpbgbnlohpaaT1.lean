/- The types of this translation, as the laws want them. -/
import Derived.Test.YthinpbgbnlohpaaRows
import Derived.Test.YthinpbgbnlohpaaB2
namespace Go.Proofs.Ythinpbgbnlohpaa
set_option linter.unusedSimpArgs false
set_option linter.unusedVariables false
open Go.RowKit

/-! ### types of this translation -/
theorem zero61 : (Try.prog.info? 61).map (fun i => (i.zero, i.size)) = some (some (.agg zItem.cells.toArray), 97) := by kernel_rfl
theorem zItem_size : zItem.cells.toArray.size = 97 := by simp [Item.cells_length]
theorem zero61' : (Try.prog.info? 61).map (fun i => (i.zero, i.size)) = some (some (.agg zItem.cells.toArray), zItem.cells.toArray.size) := by rw [zItem_size]; exact zero61
theorem size61 : (Try.prog.info? 61).map (·.size) = some 97 := by kernel_rfl
theorem itemSize (x : Item) : (Try.prog.info? 61).map (·.size) = some x.cells.toArray.size := by rw [List.size_toArray, Item.cells_length]; exact size61
theorem itemLen (x : Item) : (Try.prog.info? 61).map (·.size) = some x.cells.length := by rw [Item.cells_length]; exact size61
section
variable {ops : Array Oper} {rest : List Oper} {a : Act} {w : World} {Q : Exit → Act → World → Prop}
theorem loadItem {o : Oper} (hg : o.guard = none) (x : Operand) (ho : o.op = .load 61 x) (b off : Nat) (hx : a.eval x = .pointer (some ⟨b, off, none⟩)) (it : Item)
    (hc : w.rangeAt b off it.cells) (h : wpList Try.prog ops Q rest (a.put o.dst (.agg it.cells.toArray)) w) : wpList Try.prog ops Q (o :: rest) a w :=
  wpList_load_mid hg _ x ho b off hx _ _ hc Try.underlying61 rfl (by rw [Item.cells_length]; exact size61) h
theorem copyItem {o1 o2 : Oper} (hg1 : o1.guard = none) (hg2 : o2.guard = none) (ho1 : o1.op = .alloc 61) (d : Tmp) (hd : o1.dst = some d)
    (x : Operand) (ho2 : o2.op = .store 61 (.tmp d) x) (hd2 : o2.dst = none) (it : Item)
    (hlt : (a.put (some d) (.pointer (some ⟨w.heap.size, 0, none⟩))).eval (.tmp d) = .pointer (some ⟨w.heap.size, 0, none⟩)) (hx : (a.put (some d) (.pointer (some ⟨w.heap.size, 0, none⟩))).eval x = .agg it.cells.toArray)
    (h : wpList Try.prog ops Q rest (a.put (some d) (.pointer (some ⟨w.heap.size, 0, none⟩))) (w.alloc (.cells it.cells.toArray 61))) : wpList Try.prog ops Q (o1 :: o2 :: rest) a w :=
  wpl_local hg1 hg2 _ ho1 d hd x ho2 hd2 _ zero61' _ (by simp [Item.cells_length]) (all_oneCell_toArray (Item.cells_one it)) hlt hx h
end

theorem zeroEnd : (Try.prog.info? 95).map (fun i => (i.zero, i.size)) = some (some (.agg zItem.cells.toArray), 97) := by kernel_rfl
theorem buildEnd (w : World) (x : Item) : (Instr.build 95 #[(0, .agg x.cells.toArray)]).run Try.prog w = .ok (.agg x.cells.toArray) w := by
  obtain ⟨i, hi, hs⟩ := Option.map_eq_some_iff.1 size61
  exact run_build_one (P := Try.prog) (w := w) zItem.cells.toArray 95 _ i Try.underlying95 (by rw [zItem_size]; exact zeroEnd) _ rfl rfl hi (by rw [zItem_size]; exact hs) _ (by simp [Value.cells, Item.cells_length])

theorem follows : Try.prog.follows .mixedOrders = true := by kernel_rfl
section
variable {ops : Array Oper} {rest : List Oper} {a : Act} {w : World} {Q : Act → Prop}
theorem wplBuildEnd {Q : Exit → Act → World → Prop} {o : Oper} (hg : o.guard = none) (x0 : Operand) (ho : o.op = .build 95 #[(0, x0)]) (x : Item) (hx : a.eval x0 = .agg x.cells.toArray)
    (h : wpList Try.prog ops Q rest (a.put o.dst (.agg x.cells.toArray)) w) : wpList Try.prog ops Q (o :: rest) a w :=
  wpl_run hg (ex_build (l := [(0, x0)]) ho [(0, .agg x.cells.toArray)] (by simp [hx]) (buildEnd _ x)) h
theorem stillLoadItem {o : Oper} (hg : o.guard = none) (x : Operand) (ho : o.op = .load 61 x) (b off : Nat) (hx : a.eval x = .pointer (some ⟨b, off, none⟩)) (it : Item)
    (hc : w.rangeAt b off it.cells) (h : wpStill Try.prog ops w Q rest (a.put o.dst (.agg it.cells.toArray))) : wpStill Try.prog ops w Q (o :: rest) a :=
  wpStill_load_mid hg _ x ho b off hx _ _ hc Try.underlying61 rfl (by rw [Item.cells_length]; exact size61) h
end


theorem size5 : (Try.prog.info? 5).map (·.size) = some 1 := by kernel_rfl
theorem size43 : (Try.prog.info? 43).map (·.size) = some 32 := by kernel_rfl
theorem size42 : (Try.prog.info? 42).map (·.size) = some 32 := by kernel_rfl
theorem size45 : (Try.prog.info? 45).map (·.size) = some 64 := by kernel_rfl
theorem zero43 : (Try.prog.info? 43).map (fun i => (i.zero, i.size)) = some (some (.agg zB32.cells.toArray), 32) := by kernel_rfl
theorem zero45 : (Try.prog.info? 45).map (fun i => (i.zero, i.size)) = some (some (.agg zLeaf.cells.toArray), 64) := by kernel_rfl
theorem leafFields : ∃ f1 f2 : Field, Try.prog.underlying 45 = some (.struct #[f1, f2]) ∧ (f1.name == "_") = false ∧ (f2.name == "_") = false ∧ f1.type = 42 ∧ f2.type = 43 ∧ f1.offset = 0 ∧ f2.offset = 32 :=
  ⟨_, _, Try.underlying45, by decide, by decide, rfl, rfl, rfl, rfl⟩
section
variable {ops : Array Oper} {rest : List Oper} {a : Act} {w : World} {Q : Exit → Act → World → Prop}
theorem eqlDigest (x y : B32) : (binOp .eql 43 (.agg x.cells.toArray) (.agg y.cells.toArray)).run Try.prog w = .ok (.bool (decide (x = y))) w :=
  eql_B32 Try.underlying43 Try.underlying5 size5 x y
theorem eqLeaf (d : Nat) (x y : Leaf) : (Op.equalIn (d + 3) 45 (.agg x.cells.toArray) (.agg y.cells.toArray)).run Try.prog w = .ok (decide (x = y)) w := by
  obtain ⟨f1, f2, h0, h1, h2, h3, h4, h5, h6⟩ := leafFields
  exact eq_Leaf d h0 Try.stoodInHeld45 h1 h2 h3 h4 h5 h6 Try.underlying42 Try.underlying43 Try.underlying5 size5 size42 size43 x y
theorem eqlLeaf (x y : Leaf) : (binOp .eql 45 (.agg x.cells.toArray) (.agg y.cells.toArray)).run Try.prog w = .ok (.bool (decide (x = y))) w := by
  rw [run_eql_struct, eqLeaf 9997 x y]
  rfl
theorem itemFields : ∃ f1 f2 f3 : Field, Try.prog.underlying 61 = some (.struct #[f1, f2, f3]) ∧ (f1.name == "_") = false ∧ (f2.name == "_") = false ∧ (f3.name == "_") = false ∧ f1.type = 3 ∧ f2.type = 43 ∧ f3.type = 45 ∧ f1.offset = 0 ∧ f2.offset = 1 ∧ f3.offset = 33 :=
  ⟨_, _, _, Try.underlying61, by decide, by decide, by decide, rfl, rfl, rfl, rfl, rfl, rfl⟩
theorem fields61 : ∃ fs : Array Field, Try.prog.underlying 61 = some (.struct fs) ∧ (∃ f, fs[0]? = some f ∧ f.type = 3 ∧ f.offset = 0) ∧ (∃ f, fs[1]? = some f ∧ f.type = 43 ∧ f.offset = 1) ∧ (∃ f, fs[2]? = some f ∧ f.type = 45 ∧ f.offset = 33) :=
  ⟨_, Try.underlying61, ⟨_, rfl, rfl, rfl⟩, ⟨_, rfl, rfl, rfl⟩, ⟨_, rfl, rfl, rfl⟩⟩
theorem size3 : (Try.prog.info? 3).map (·.size) = some 1 := by kernel_rfl
theorem exItemKind {a : Act} {w : World} {o : Oper} {x : Operand} (ho : o.op = .fieldAddr 61 x 0) {b off : Nat} (hx : a.eval x = .pointer (some ⟨b, off, none⟩)) : (execOp a.eval o).run Try.prog w = .ok (.value (.pointer (some ⟨b, off, none⟩))) w := by
  obtain ⟨fs, hT, ⟨f, hf, ht, hof⟩, _, _⟩ := fields61
  exact ex_fieldAt ho hx hT hf (by rw [ht]; exact size3) (by rw [hof]; rfl)
theorem exItemDigest {a : Act} {w : World} {o : Oper} {x : Operand} (ho : o.op = .fieldAddr 61 x 1) {b off : Nat} (hx : a.eval x = .pointer (some ⟨b, off, none⟩)) : (execOp a.eval o).run Try.prog w = .ok (.value (.pointer (some ⟨b, off + 1, none⟩))) w := by
  obtain ⟨fs, hT, _, ⟨f, hf, ht, hof⟩, _⟩ := fields61
  exact ex_fieldAt ho hx hT hf (by rw [ht]; exact size43) (by rw [hof])
theorem exItemLeaf {a : Act} {w : World} {o : Oper} {x : Operand} (ho : o.op = .fieldAddr 61 x 2) {b off : Nat} (hx : a.eval x = .pointer (some ⟨b, off, none⟩)) : (execOp a.eval o).run Try.prog w = .ok (.value (.pointer (some ⟨b, off + 33, none⟩))) w := by
  obtain ⟨fs, hT, _, _, ⟨f, hf, ht, hof⟩⟩ := fields61
  exact ex_fieldAt ho hx hT hf (by rw [ht]; exact size45) (by rw [hof])
theorem exLeafKey {a : Act} {w : World} {o : Oper} {x : Operand} (ho : o.op = .fieldAddr 45 x 0) {b off : Nat} (hx : a.eval x = .pointer (some ⟨b, off, none⟩)) : (execOp a.eval o).run Try.prog w = .ok (.value (.pointer (some ⟨b, off, none⟩))) w := by
  obtain ⟨f1, f2, h0, _, _, h3, h4, h5, h6⟩ := leafFields
  exact ex_fieldAt ho hx h0 (f := f1) rfl (by rw [h3]; exact size42) (by rw [h5]; rfl)
theorem exLeafValue {a : Act} {w : World} {o : Oper} {x : Operand} (ho : o.op = .fieldAddr 45 x 1) {b off : Nat} (hx : a.eval x = .pointer (some ⟨b, off, none⟩)) : (execOp a.eval o).run Try.prog w = .ok (.value (.pointer (some ⟨b, off + 32, none⟩))) w := by
  obtain ⟨f1, f2, h0, _, _, h3, h4, h5, h6⟩ := leafFields
  exact ex_fieldAt ho hx h0 (f := f2) rfl (by rw [h4]; exact size43) (by rw [h6])
theorem eqItem (d : Nat) (x y : Item) : (Op.equalIn (d + 4) 61 (.agg x.cells.toArray) (.agg y.cells.toArray)).run Try.prog w = .ok (decide (x = y)) w := by
  obtain ⟨f1, f2, f3, hT, m1, m2, m3, t1, t2, t3, o1, o2, o3⟩ := itemFields
  exact eq_Item d hT Try.stoodInHeld61 m1 m2 m3 t1 t2 t3 o1 o2 o3 Try.underlying3 Try.underlying43 Try.underlying5 size5 size43 (eqLeaf d) Try.underlying45 rfl size45 x y
theorem neqItem (x y : Item) : (binOp .neq 61 (.agg x.cells.toArray) (.agg y.cells.toArray)).run Try.prog w = .ok (.bool (!decide (x = y))) w := by
  rw [run_neq_struct, eqItem 9996 x y]
  rfl
theorem neqDigest (x y : B32) : (binOp .neq 43 (.agg x.cells.toArray) (.agg y.cells.toArray)).run Try.prog w = .ok (.bool (!decide (x = y))) w :=
  neq_B32 Try.underlying43 Try.underlying5 size5 x y
theorem neqLeaf (x y : Leaf) : (binOp .neq 45 (.agg x.cells.toArray) (.agg y.cells.toArray)).run Try.prog w = .ok (.bool (!decide (x = y))) w := by
  rw [run_neq_struct, eqLeaf 9997 x y]
  rfl
theorem wEqlDigest {o : Oper} (x0 y0 : Operand) (T' : TypeId) (ho : o.op = .binOp .eql 43 x0 y0 T') (hw : Region.wanted o (yielded ops a.tmps) = true) (x y : B32) (hx : a.eval x0 = .agg x.cells.toArray) (hy : a.eval y0 = .agg y.cells.toArray)
    (h : wpList Try.prog ops Q rest (a.put o.dst (.bool (decide (x = y)))) w) : wpList Try.prog ops Q (o :: rest) a w :=
  wpl_runG hw (ex_eql ho hx hy Try.eqGuardType43 (eqlDigest x y)) h
theorem wEqlLeaf {o : Oper} (x0 y0 : Operand) (T' : TypeId) (ho : o.op = .binOp .eql 45 x0 y0 T') (hw : Region.wanted o (yielded ops a.tmps) = true) (x y : Leaf) (hx : a.eval x0 = .agg x.cells.toArray) (hy : a.eval y0 = .agg y.cells.toArray)
    (h : wpList Try.prog ops Q rest (a.put o.dst (.bool (decide (x = y)))) w) : wpList Try.prog ops Q (o :: rest) a w :=
  wpl_runG hw (ex_eql ho hx hy Try.eqGuardType45 (eqlLeaf x y)) h
theorem wLoadDigest {o : Oper} (x0 : Operand) (ho : o.op = .load 43 x0) (hw : Region.wanted o (yielded ops a.tmps) = true) (b off : Nat) (hx : a.eval x0 = .pointer (some ⟨b, off, none⟩)) (x : B32) (hc : w.rangeAt b off x.cells)
    (h : wpList Try.prog ops Q rest (a.put o.dst (.agg x.cells.toArray)) w) : wpList Try.prog ops Q (o :: rest) a w :=
  wpl_runG hw (ex_load_row ho hx hc Try.underlying43 rfl (by rw [B32.cells_length]; exact size43)) h
theorem wLoadKey {o : Oper} (x0 : Operand) (ho : o.op = .load 42 x0) (hw : Region.wanted o (yielded ops a.tmps) = true) (b off : Nat) (hx : a.eval x0 = .pointer (some ⟨b, off, none⟩)) (x : B32) (hc : w.rangeAt b off x.cells)
    (h : wpList Try.prog ops Q rest (a.put o.dst (.agg x.cells.toArray)) w) : wpList Try.prog ops Q (o :: rest) a w :=
  wpl_runG hw (ex_load_row ho hx hc Try.underlying42 rfl (by rw [B32.cells_length]; exact size42)) h
theorem wLoadLeaf {o : Oper} (x0 : Operand) (ho : o.op = .load 45 x0) (hw : Region.wanted o (yielded ops a.tmps) = true) (b off : Nat) (hx : a.eval x0 = .pointer (some ⟨b, off, none⟩)) (x : Leaf) (hc : w.rangeAt b off x.cells)
    (h : wpList Try.prog ops Q rest (a.put o.dst (.agg x.cells.toArray)) w) : wpList Try.prog ops Q (o :: rest) a w :=
  wpl_runG hw (ex_load_row ho hx hc Try.underlying45 rfl (by rw [Leaf.cells_length]; exact size45)) h
theorem wLoadItem {o : Oper} (x0 : Operand) (ho : o.op = .load 61 x0) (hw : Region.wanted o (yielded ops a.tmps) = true) (b off : Nat) (hx : a.eval x0 = .pointer (some ⟨b, off, none⟩)) (x : Item) (hc : w.rangeAt b off x.cells)
    (h : wpList Try.prog ops Q rest (a.put o.dst (.agg x.cells.toArray)) w) : wpList Try.prog ops Q (o :: rest) a w :=
  wpl_runG hw (ex_load_row ho hx hc Try.underlying61 rfl (itemLen x)) h
theorem run_zero {T : TypeId} {d : TypeDesc} {z : Array Value} {n : Nat} (hu : Try.prog.underlying T = some d) (hz : (Try.prog.info? T).map (fun i => (i.zero, i.size)) = some (some (.agg z), n)) (hd : (∃ n e, d = .array n e ∧ ((Try.prog.info? e).map (·.size)).isSome = true)) :
    (Instr.build T #[]).run Try.prog w = .ok (.agg z) w := by
  obtain ⟨hz1, _⟩ := zero_of_info hz
  obtain ⟨m, e, rfl, hs⟩ := hd
  obtain ⟨s, hs⟩ := Option.isSome_iff_exists.1 hs
  obtain ⟨i, hi, _⟩ := Option.map_eq_some_iff.1 hs
  simp [Instr.build, Sem.run_bind, hz1, run_underlying hu, Value.cells, Instr.fill, sizeOf, typeInfo, hi]
theorem wZeroDigest {o : Oper} (ho : o.op = .build 43 #[]) (hw : Region.wanted o (yielded ops a.tmps) = true) 
    (h : wpList Try.prog ops Q rest (a.put o.dst (.agg zB32.cells.toArray)) w) : wpList Try.prog ops Q (o :: rest) a w :=
  wpl_runG hw (ex_build (l := []) ho [] rfl (run_zero Try.underlying43 zero43 ⟨_, _, rfl, by rw [size5]; rfl⟩)) h
theorem zeroLeaf : (Instr.build 45 #[]).run Try.prog w = .ok (.agg zLeaf.cells.toArray) w := by
  obtain ⟨hz1, _⟩ := zero_of_info zero45
  obtain ⟨i, hi, _⟩ := Option.map_eq_some_iff.1 size42
  obtain ⟨j, hj, _⟩ := Option.map_eq_some_iff.1 size43
  simp [Instr.build, Sem.run_bind, hz1, run_underlying Try.underlying45, Value.cells, Instr.fill, sizeOf, typeInfo, hi, hj]
theorem wZeroLeaf {o : Oper} (ho : o.op = .build 45 #[]) (hw : Region.wanted o (yielded ops a.tmps) = true) 
    (h : wpList Try.prog ops Q rest (a.put o.dst (.agg zLeaf.cells.toArray)) w) : wpList Try.prog ops Q (o :: rest) a w :=
  wpl_runG hw (ex_build (l := []) ho [] rfl zeroLeaf) h
end
end Go.Proofs.Ythinpbgbnlohpaa
