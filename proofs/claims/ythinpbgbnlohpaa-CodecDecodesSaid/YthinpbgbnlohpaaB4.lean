/- Laws of my own, part 4: structs and arrays that are built from parts, rows of structs, a part of a block that is written. -/
import Derived.Test.YthinpbgbnlohpaaB3
import Derived.Great.BuildSlice
import Derived.Laws.CopyRow
namespace Go.Proofs.Ythinpbgbnlohpaa
set_option linter.unusedSimpArgs false
set_option linter.unusedVariables false
open Go.RowKit
section
variable {P : Program} {w : World}
theorem run_places : ∀ (l : List Field) (pl : List (Nat × Nat)), l.map (fun f => (f.offset, (P.info? f.type).map (·.size))) = pl.map (fun p => (p.1, some p.2)) →
    (l.mapM (m := Sem) fun f => do pure (f.offset, ← sizeOf f.type)).run P w = .ok pl w
  | [], pl, h => by
    cases pl with
    | nil => simp
    | cons p pl => simp at h
  | f :: l, pl, h => by
    cases pl with
    | nil => simp at h
    | cons p pl =>
      simp only [List.map_cons, List.cons.injEq, Prod.mk.injEq] at h
      obtain ⟨⟨h1, h2⟩, h3⟩ := h
      obtain ⟨i, hi, hs⟩ := Option.map_eq_some_iff.1 h2
      have ih := run_places l pl h3
      have e : (sizeOf f.type).run P w = .ok p.2 w := by simp [sizeOf, typeInfo, hi, hs]
      simp only [List.mapM_cons, Sem.run_bind, e, Result.andThen_ok, Sem.run_pure, ih, h1]
theorem run_build_struct {t : TypeId} {fl : List Field} (hu : P.underlying t = some (.struct fl.toArray)) {z : Array Value} {n : Nat} (hz : (P.info? t).map (fun i => (i.zero, i.size)) = some (some (.agg z), n))
    {pl : List (Nat × Nat)} (hp : fl.map (fun f => (f.offset, (P.info? f.type).map (·.size))) = pl.map (fun p => (p.1, some p.2))) {ps : List (Nat × Value)} {cells : Array Value} (hf : Instr.fill (fun i => pl.toArray[i]?) z ps = some cells) :
    (Instr.build t ps.toArray).run P w = .ok (.agg cells) w := by
  obtain ⟨hz1, _⟩ := zero_of_info hz
  have hpl := run_places (P := P) (w := w) fl pl hp
  simp only [Instr.build, Sem.run_bind, hz1, Result.andThen_ok, run_underlying hu, Value.cells]
  rw [List.mapM_toArray]
  simp only [map_eq_pure_bind, Sem.run_bind] at hpl ⊢
  simp only [hpl, Result.andThen_ok, Sem.run_pure]
  simp only [hf, Sem.run_pure]
theorem run_build_array {t e m s : Nat} (hu : P.underlying t = some (.array m e)) {z : Array Value} {n : Nat} (hz : (P.info? t).map (fun i => (i.zero, i.size)) = some (some (.agg z), n)) (hs : (P.info? e).map (·.size) = some s)
    {ps : List (Nat × Value)} {cells : Array Value} (hf : Instr.fill (fun i => some (i * s, s)) z ps = some cells) : (Instr.build t ps.toArray).run P w = .ok (.agg cells) w := by
  obtain ⟨hz1, _⟩ := zero_of_info hz
  obtain ⟨i, hi, rfl⟩ := Option.map_eq_some_iff.1 hs
  simp only [Instr.build, Sem.run_bind, hz1, Result.andThen_ok, run_underlying hu, Value.cells, sizeOf, typeInfo]
  simp [hi, hf]
end
/-! ### what is filled -/
theorem fill_Item0 (k : Int) (x : Item) (rest : List (Nat × Value)) : Instr.fill (fun i => ([(0, 1), (1, 32), (33, 64)] : List (Nat × Nat)).toArray[i]?) x.cells.toArray ((0, .int .i64 k) :: rest) = Instr.fill (fun i => ([(0, 1), (1, 32), (33, 64)] : List (Nat × Nat)).toArray[i]?) (Item.cells ⟨k, x.digest, x.leaf⟩).toArray rest := by
  rw [fill_one _ _ 0 (.int .i64 k) rest 0 1 (by rfl) (by rfl) (by simp [Item.cells_length])]
  congr 1
theorem fill_Item1 (d : B32) (x : Item) (rest : List (Nat × Value)) : Instr.fill (fun i => ([(0, 1), (1, 32), (33, 64)] : List (Nat × Nat)).toArray[i]?) x.cells.toArray ((1, .agg d.cells.toArray) :: rest) = Instr.fill (fun i => ([(0, 1), (1, 32), (33, 64)] : List (Nat × Nat)).toArray[i]?) (Item.cells ⟨x.kind, d, x.leaf⟩).toArray rest := by
  rw [fill_one _ _ 1 (.agg d.cells.toArray) rest 1 32 (by rfl) (by simp [Value.cells, B32.cells_length]) (by simp [Item.cells_length])]
  congr 1
  simp [Item.cells, Value.cells, B32.cells_length]
theorem fill_Item2 (d : Leaf) (x : Item) (rest : List (Nat × Value)) : Instr.fill (fun i => ([(0, 1), (1, 32), (33, 64)] : List (Nat × Nat)).toArray[i]?) x.cells.toArray ((2, .agg d.cells.toArray) :: rest) = Instr.fill (fun i => ([(0, 1), (1, 32), (33, 64)] : List (Nat × Nat)).toArray[i]?) (Item.cells ⟨x.kind, x.digest, d⟩).toArray rest := by
  rw [fill_one _ _ 2 (.agg d.cells.toArray) rest 33 64 (by rfl) (by simp [Value.cells, Leaf.cells_length]) (by simp [Item.cells_length])]
  congr 1
  simp [Item.cells, Value.cells, B32.cells_length, Leaf.cells_length, List.take_append, List.drop_append]
theorem fill_Leaf0 (d : B32) (x : Leaf) (rest : List (Nat × Value)) : Instr.fill (fun i => ([(0, 32), (32, 32)] : List (Nat × Nat)).toArray[i]?) x.cells.toArray ((0, .agg d.cells.toArray) :: rest) = Instr.fill (fun i => ([(0, 32), (32, 32)] : List (Nat × Nat)).toArray[i]?) (Leaf.cells ⟨d, x.value⟩).toArray rest := by
  rw [fill_one _ _ 0 (.agg d.cells.toArray) rest 0 32 (by rfl) (by simp [Value.cells, B32.cells_length]) (by simp [Leaf.cells_length])]
  congr 1
  simp [Leaf.cells, Value.cells, B32.cells_length]
theorem fill_Leaf1 (d : B32) (x : Leaf) (rest : List (Nat × Value)) : Instr.fill (fun i => ([(0, 32), (32, 32)] : List (Nat × Nat)).toArray[i]?) x.cells.toArray ((1, .agg d.cells.toArray) :: rest) = Instr.fill (fun i => ([(0, 32), (32, 32)] : List (Nat × Nat)).toArray[i]?) (Leaf.cells ⟨x.key, d⟩).toArray rest := by
  rw [fill_one _ _ 1 (.agg d.cells.toArray) rest 32 32 (by rfl) (by simp [Value.cells, B32.cells_length]) (by simp [Leaf.cells_length])]
  congr 1
  simp [Leaf.cells, Value.cells, B32.cells_length]
theorem fill_B32 (i : Nat) (b : UInt8) (l : List UInt8) (hi : i < l.length) (rest : List (Nat × Value)) : Instr.fill (fun i => some (i * 1, 1)) (bc l).toArray ((i, .int .u8 b.toNat) :: rest) = Instr.fill (fun i => some (i * 1, 1)) (bc (l.set i b)).toArray rest := by
  rw [fill_one _ _ i (.int .u8 b.toNat) rest i 1 (by simp) (by rfl) (by simp [bc_length]; omega)]
  congr 1
  simp only [Value.cells, bc, List.map_set]
  rw [List.set_eq_take_append_cons_drop]
  simp [hi]
theorem fill_rows {α : Type} {n : Nat} {f : α → List Value} (hf : ∀ x, (f x).length = n) : ∀ (l : List α) (k : Nat) (pre Z : List Value), pre.length = k * n → Z.length = l.length * n →
    Instr.fill (fun i => some (i * n, n)) (pre ++ Z).toArray ((l.zipIdx k).map fun x => (x.2, .agg (f x.1).toArray)) = some (pre ++ l.flatMap f).toArray
  | [], k, pre, Z, hp, hZ => by
    have : Z = [] := List.eq_nil_of_length_eq_zero (by simpa using hZ)
    subst this
    simp [Instr.fill]
  | x :: l, k, pre, Z, hp, hZ => by
    rw [List.zipIdx_cons, List.map_cons, fill_one _ _ k _ _ (k * n) n rfl (by simp [Value.cells, hf]) (by simp [hp, hZ, Nat.succ_mul])]
    have e1 : List.take (k * n) (pre ++ Z).toArray.toList = pre := by simp [← hp]
    have e2 : List.drop (k * n + n) (pre ++ Z).toArray.toList = Z.drop n := by simp [← hp]
    have ih := fill_rows hf l (k + 1) (pre ++ f x) (Z.drop n) (by simp [hp, hf, Nat.succ_mul]) (by simp [hZ, Nat.succ_mul])
    rw [e1, e2]
    simp only [Value.cells, List.flatMap_cons]
    rw [← List.append_assoc]
    exact ih
section
variable {P : Program} {ops : Array Oper} {rest : List Oper} {a : Act} {w : World} {Q : Exit → Act → World → Prop}
/-- a slice literal of structs -/
theorem wplBuildRows {o : Oper} (hg : o.guard = none) {t e : TypeId} {m n bytes : Nat} {z : Value} (E : ElT P t e n bytes z) {parts : List (Nat × Operand)} (ho : o.op = .buildSlice t m parts.toArray) {α : Type} {f : α → List Value} (hf : ∀ x, (f x).length = n) (l : List α) (hl : l.length = m) (h0 : 0 < m) (hm : m * n ≤ 16777216)
    (hp : (parts.map fun p => (p.1, a.eval p.2)) = (l.zipIdx 0).map fun x => (x.2, .agg (f x.1).toArray)) (h : wpList P ops Q rest (a.put o.dst (.slice (some ⟨w.heap.size, 0, none⟩) m m)) (w.alloc (.cells (l.flatMap f).toArray e))) : wpList P ops Q (o :: rest) a w := by
  obtain ⟨i, hi, hz, hsz, hby⟩ := info_parts E.hi
  subst hl
  refine wpList_buildSlice hg t e l.length parts.toArray ho _ i z E.ht hi hz (by rw [hsz]; omega) (by rw [hsz]; have := E.h0; have := Nat.mul_pos h0 this; omega) ?_ h
  have e1 : (parts.toArray.map fun (x : Nat × Operand) => match x with | (i, x) => (i, a.eval x)).toList = (l.zipIdx 0).map fun x => (x.2, .agg (f x.1).toArray) := by
    rw [← hp]; simp
  rw [e1, hsz]
  have := fill_rows hf l 0 [] ((Array.range (l.length * n)).map (z.cells[· % z.cells.size]!)).toList (by simp) (by simp)
  rw [List.nil_append, Array.toArray_toList, List.nil_append] at this
  exact this
theorem ex_store_mid {o : Oper} {T T' : TypeId} {p x : Operand} (ho : o.op = .store T p x) {g off : Nat} {c : Array Value} {cs : List Value} (hp : a.eval p = .pointer (some ⟨g, off, none⟩)) (hx : a.eval x = .agg cs.toArray) (hb : w.heap[g]? = some (.cells c T' (0, 0)))
    (hi : (P.info? T).map (·.size) = some cs.length) (hc : off + cs.length ≤ c.size) (h1 : ∀ v ∈ cs, v.oneCell' = true) :
    (execOp a.eval o).run P w = .ok .skip (w.setRow g (c.toList.take off ++ cs ++ c.toList.drop (off + cs.length)).toArray) := by
  obtain ⟨j, hj, hjs⟩ := Option.map_eq_some_iff.1 hi
  have hst := run_storeCells_at P g off T' cs 0 c w hb (by simpa using hc) h1
  have hrun : (storeVar T ⟨g, off, none⟩ (.agg cs.toArray)).run P w = .ok () (w.setRow g (c.toList.take off ++ cs ++ c.toList.drop (off + cs.length)).toArray) := by
    simp only [Nat.add_zero] at hst
    simp [storeVar, Value.cells, sizeOf, typeInfo, hj, hjs, hst]
  unfold execOp
  simp only [ho, hp, hx, Instr.storeAt, Instr.sureAddr, Sem.run_bind, Sem.run_pure, Result.andThen_ok, hrun]
theorem wplStoreMid {o : Oper} (hg : o.guard = none) {T T' : TypeId} {p x : Operand} (ho : o.op = .store T p x) {g off : Nat} {c : Array Value} {cs : List Value} (hp : a.eval p = .pointer (some ⟨g, off, none⟩)) (hx : a.eval x = .agg cs.toArray) (hb : w.heap[g]? = some (.cells c T' (0, 0)))
    (hi : (P.info? T).map (·.size) = some cs.length) (hc : off + cs.length ≤ c.size) (h1 : ∀ v ∈ cs, v.oneCell' = true)
    (h : ∀ w', w'.heap[g]? = some (.cells (c.toList.take off ++ cs ++ c.toList.drop (off + cs.length)).toArray T' (0, 0)) → w'.heap.size = w.heap.size → (∀ k, k ≠ g → w'.heap[k]? = w.heap[k]?) → (∀ B w0, Below B w0 w → B ≤ g → Below B w0 w') → wpList P ops Q rest (a.put o.dst undef) w') : wpList P ops Q (o :: rest) a w := by
  refine wpList_plain hg fun K hK => ?_
  unfold Oper.wp
  rw [ex_store_mid ho hp hx hb hi hc h1]
  exact hK _ _ (h _ (setRow_heap w g c _ T' _ hb) (by simp) (fun k hk => setRow_other w g k _ hk) (fun B w0 hB hg => below_setRow hB hg _))
theorem ex_arrayAt {o : Oper} {T e n : Nat} {x : Operand} (ho : o.op = .sliceToArrayPointer T x) (hT : P.underlying T = some (.array n e)) {A : Option Addr} {m c : Nat} (hx : a.eval x = .slice A m c) (hn : n ≤ m) : (execOp a.eval o).run P w = .ok (.value (.pointer A)) w := by
  unfold execOp
  simp only [ho, hx, Sem.run_bind, run_arrayAt w T e n A m c hT hn, Result.andThen_ok, Sem.run_pure]
end
theorem Item.set1 (x : Item) (d : B32) : (x.cells.toArray.toList.take 1 ++ d.cells ++ x.cells.toArray.toList.drop (1 + d.cells.length)).toArray = (Item.cells ⟨x.kind, d, x.leaf⟩).toArray := by
  simp [Item.cells, B32.cells_length]
theorem Item.set2 (x : Item) (d : Leaf) : (x.cells.toArray.toList.take 33 ++ d.cells ++ x.cells.toArray.toList.drop (33 + d.cells.length)).toArray = (Item.cells ⟨x.kind, x.digest, d⟩).toArray := by
  simp [Item.cells, B32.cells_length, Leaf.cells_length, List.take_append, List.drop_append]
end Go.Proofs.Ythinpbgbnlohpaa
