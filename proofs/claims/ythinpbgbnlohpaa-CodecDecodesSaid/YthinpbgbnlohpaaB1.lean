/- Laws of my own, over any program: rows of bytes, what a slice reads as, local copies, appends. -/
import Derived.WalkKit
import Derived.WalkSpells
import Derived.WalkLawsBesides
import Derived.Deep.MidRow
import Derived.Deep.DeepFit
import Derived.Deep.WholeRow
import Derived.Stop.BytesEq
import Derived.Lib.Hide
import Derived.Outline
namespace Go.Proofs.Ythinpbgbnlohpaa
set_option linter.unusedSimpArgs false
set_option linter.unusedVariables false
open Go.RowKit

/-! ### bytes -/
def bc (l : List UInt8) : List Value := l.map fun b => .int .u8 b.toNat
abbrev B32 := {l : List UInt8 // l.length = 32}
def zB32 : B32 := ⟨List.replicate 32 0, by simp⟩
def B32.cells (x : B32) : List Value := bc x.1
theorem bc_one (l : List UInt8) : ∀ v ∈ bc l, v.oneCell' = true := by
  intro v hv; simp [bc] at hv; obtain ⟨b, _, rfl⟩ := hv; rfl
theorem bc_length (l : List UInt8) : (bc l).length = l.length := by simp [bc]
theorem bc_append (l m : List UInt8) : bc (l ++ m) = bc l ++ bc m := by simp [bc]
theorem bc_take (l : List UInt8) (n : Nat) : bc (l.take n) = (bc l).take n := by simp [bc]
theorem bc_drop (l : List UInt8) (n : Nat) : bc (l.drop n) = (bc l).drop n := by simp [bc]
theorem bc_get (l : List UInt8) (i : Nat) (h : i < l.length) : (bc l)[i]? = some (.int .u8 (l.getD i 0).toNat) := by simp [bc, h]
theorem B32.cells_length (x : B32) : x.cells.length = 32 := by simp [B32.cells, bc, x.2]
theorem B32.cells_one (x : B32) : ∀ v ∈ x.cells, v.oneCell' = true := bc_one _

structure Leaf where
  key : B32
  value : B32
  deriving DecidableEq
structure Item where
  kind : Int
  digest : B32
  leaf : Leaf
  deriving DecidableEq
def zLeaf : Leaf := ⟨zB32, zB32⟩
def zItem : Item := ⟨0, zB32, zLeaf⟩
def Leaf.cells (x : Leaf) : List Value := x.key.cells ++ x.value.cells
def Item.cells (x : Item) : List Value := .int .i64 x.kind :: (x.digest.cells ++ x.leaf.cells)
theorem Leaf.cells_length (x : Leaf) : x.cells.length = 64 := by simp [Leaf.cells, B32.cells_length]
theorem Item.cells_length (x : Item) : x.cells.length = 97 := by simp [Item.cells, B32.cells_length, Leaf.cells_length]
theorem Leaf.cells_one (x : Leaf) : ∀ v ∈ x.cells, v.oneCell' = true := by
  intro v hv
  simp only [Leaf.cells, List.mem_append] at hv
  rcases hv with hv | hv <;> exact bc_one _ v hv
theorem Item.cells_one (x : Item) : ∀ v ∈ x.cells, v.oneCell' = true := by
  intro v hv
  simp only [Item.cells, List.mem_cons, List.mem_append] at hv
  rcases hv with rfl | hv | hv
  · rfl
  · exact bc_one _ v hv
  · exact Leaf.cells_one _ v hv
@[go_sem] theorem Item.cells_at0 (x : Item) : x.cells.toArray[0]? = some (.int .i64 x.kind) := by simp [Item.cells]
@[go_sem] theorem Item.cells_at0' (x : Item) : x.cells[0]? = some (.int .i64 x.kind) := by simp [Item.cells]

theorem ret_int {k : IntKind} {a b : Int} (h : a = b) : Ending.returned (.int k a) = .returned (.int k b) := by rw [h]

/-! ### what lies from an address on -/
/-- the cells from A on, in block order; nothing is asked of A where there are none -/
def Rd (w : World) (A : Option Addr) (cs : List Value) : Prop := ∀ j v, cs[j]? = some v → ∃ b o, A = some ⟨b, o, none⟩ ∧ w.cell? ⟨b, o + j, none⟩ = some v
theorem Rd.nil (w : World) (A : Option Addr) : Rd w A [] := fun j v h => by simp at h
theorem Rd.mk {w : World} {b o : Nat} {cs : List Value} (h : w.rangeAt b o cs) : Rd w (some ⟨b, o, none⟩) cs := fun j v hv => ⟨b, o, rfl, h j v hv⟩
theorem Rd.range {w : World} {b o : Nat} {cs : List Value} (h : Rd w (some ⟨b, o, none⟩) cs) : w.rangeAt b o cs := fun j v hv => by
  obtain ⟨b', o', e, hc⟩ := h j v hv
  obtain ⟨rfl, rfl⟩ : b = b' ∧ o = o' := by simpa using e
  exact hc
theorem Rd.open_ {w : World} {A : Option Addr} {cs : List Value} (h : Rd w A cs) (hn : 0 < cs.length) : ∃ b o, A = some ⟨b, o, none⟩ ∧ b < w.heap.size ∧ w.rangeAt b o cs := by
  obtain ⟨b, o, e, hc⟩ := h 0 cs[0] (by simp [hn])
  subst e
  exact ⟨b, o, rfl, World.block_lt_of_cell? w _ hc, h.range⟩
theorem Rd.below {w w1 : World} {A : Option Addr} {cs : List Value} (h : Rd w A cs) (hb : Below w.heap.size w w1) : Rd w1 A cs := fun j v hv => by
  obtain ⟨b, o, e, hc⟩ := h j v hv
  exact ⟨b, o, e, (hb.cell (World.block_lt_of_cell? w _ hc)).trans hc⟩
theorem Rd.take_ {w : World} {A : Option Addr} {cs : List Value} (h : Rd w A cs) (n : Nat) : Rd w A (cs.take n) := fun j v hv => by
  rw [List.getElem?_take] at hv
  split at hv
  · exact h j v hv
  · simp at hv
theorem Rd.left {w : World} {A : Option Addr} {cs ds : List Value} (h : Rd w A (cs ++ ds)) : Rd w A cs := by
  have := h.take_ cs.length
  simpa using this
theorem rangeAt_drop {w : World} {b o : Nat} {cs : List Value} (h : w.rangeAt b o cs) (n : Nat) : w.rangeAt b (o + n) (cs.drop n) := fun j v hv => by
  rw [List.getElem?_drop] at hv
  have := h (n + j) v hv
  rwa [← Nat.add_assoc] at this
theorem rangeAt_take {w : World} {b o : Nat} {cs : List Value} (h : w.rangeAt b o cs) (n : Nat) : w.rangeAt b o (cs.take n) := fun j v hv => by
  rw [List.getElem?_take] at hv
  split at hv
  · exact h j v hv
  · simp at hv
theorem rangeAt_left {w : World} {b o : Nat} {cs ds : List Value} (h : w.rangeAt b o (cs ++ ds)) : w.rangeAt b o cs := by simpa using rangeAt_take h cs.length
theorem rangeAt_right {w : World} {b o : Nat} {cs ds : List Value} (h : w.rangeAt b o (cs ++ ds)) : w.rangeAt b (o + cs.length) ds := by simpa using rangeAt_drop h cs.length
theorem rangeAt_below {w w1 : World} {b o : Nat} {cs : List Value} (h : w.rangeAt b o cs) (hb : Below w.heap.size w w1) : w1.rangeAt b o cs := (Rd.below (Rd.mk h) hb).range
theorem rangeAt_new (w : World) (cs : Array Value) (T : TypeId) : (w.alloc (.cells cs T)).rangeAt w.heap.size 0 cs.toList := fun j v hv => by
  simp at hv ⊢
  exact hv
/-- a row of elements, one after the other -/
theorem rangeAt_flat {α : Type} {w : World} {b o n : Nat} {f : α → List Value} {l : List α} (hf : ∀ x, (f x).length = n) (h : w.rangeAt b o (l.flatMap f)) {k : Nat} {x : α} (hk : l[k]? = some x) : w.rangeAt b (o + k * n) (f x) := by
  have e : l = l.take k ++ x :: l.drop (k + 1) := by
    have hlt := (List.getElem?_eq_some_iff.1 hk).1
    have hx := (List.getElem?_eq_some_iff.1 hk).2
    conv => lhs; rw [← List.take_append_drop k l, List.drop_eq_getElem_cons hlt, hx]
  rw [e, List.flatMap_append, List.flatMap_cons] at h
  have h2 := rangeAt_left (rangeAt_right h)
  have hl : ∀ m : List α, (m.flatMap f).length = m.length * n := by
    intro m
    induction m with
    | nil => simp
    | cons a m ih => simp [List.flatMap_cons, hf, ih, Nat.add_mul]; omega
  rw [hl] at h2
  have hlt := (List.getElem?_eq_some_iff.1 hk).1
  rwa [List.length_take, Nat.min_eq_left (by omega)] at h2
theorem flat_length {α : Type} {n : Nat} {f : α → List Value} (hf : ∀ x, (f x).length = n) (m : List α) : (m.flatMap f).length = m.length * n := by
  induction m with
  | nil => simp
  | cons a m ih => simp [List.flatMap_cons, hf, ih, Nat.add_mul]; omega
theorem flat_one {α : Type} {f : α → List Value} (hf : ∀ x, ∀ v ∈ f x, v.oneCell' = true) (m : List α) : ∀ v ∈ m.flatMap f, v.oneCell' = true := by
  intro v hv
  obtain ⟨x, _, hx⟩ := List.mem_flatMap.1 hv
  exact hf x v hx
theorem own_Rd {w : World} {base : Nat} {e : TypeId} {size n : Nat} {v : Value} {xs : List Value} (h : w.ownsRow base e size v n xs) : ∃ A c, v = .slice A n c ∧ n ≤ c ∧ Rd w A xs := by
  rcases h.2 with ⟨rfl, rfl⟩ | ⟨g, cap, cur, rfl, hg, hh, hn, hm, hs, ht⟩
  · have : xs = [] := List.eq_nil_of_length_eq_zero (by simpa using h.1)
    subst this
    exact ⟨none, 0, rfl, Nat.le_refl _, Rd.nil _ _⟩
  · refine ⟨some ⟨g, 0, none⟩, cap, rfl, hn, Rd.mk fun j v hv => ?_⟩
    have := h.cells (g := g) rfl j v hv
    rwa [Addr.add_mid] at this

theorem blk_cells {w : World} {g : Nat} {C : Array Value} {T : TypeId} (h : w.heap[g]? = some (.cells C T (0, 0))) : (∀ i, w.cell? ⟨g, i, none⟩ = C[i]?) ∧ (∀ i, w.frozen? ⟨g, i, none⟩ = false) :=
  ⟨fun i => by simp [World.cell?, h], fun i => by simp [World.frozen?, h]⟩
theorem blk_below {w w1 : World} {g : Nat} {o : Obj} (h : w.heap[g]? = some o) (hb : Below w.heap.size w w1) : w1.heap[g]? = some o :=
  (hb.block g (Array.getElem?_eq_some_iff.1 h).1).trans h

theorem blk_at {w w1 : World} (g : Nat) (C : Array Value) (T : TypeId) (h : w.heap[g]? = some (.cells C T (0, 0))) (hb : Below w.heap.size w w1) :
    w1.heap[g]? = some (.cells C T (0, 0)) ∧ (∀ i, w1.cell? ⟨g, i, none⟩ = C[i]?) ∧ (∀ i, w1.frozen? ⟨g, i, none⟩ = false) :=
  ⟨blk_below h hb, blk_cells (blk_below h hb)⟩

theorem bthen {w W w1 : World} (h : Below w.heap.size w W) (k : Below W.heap.size W w1) : Below w.heap.size w w1 := h.trans (k.mono h.size)
theorem balloc {w W : World} (h : Below w.heap.size w W) (o : Obj) : Below w.heap.size w (W.alloc o) := h.alloc h.size o
theorem bset {w W : World} (h : Below w.heap.size w W) {p : Addr} (hp : w.heap.size ≤ p.block) (u : Value) : Below w.heap.size w (W.setCell p u) := h.setCell hp u
theorem brefl (w : World) : Below w.heap.size w w := Below.refl _ _
theorem bdrew {w W : World} (h : Below w.heap.size w W) : Below w.heap.size w W.drew := h.drew
theorem bdrewN {w W : World} (h : Below w.heap.size w W) (n : Nat) : Below w.heap.size w (W.drewN n) := ⟨h.os, h.tape, h.output, h.size, h.block⟩
theorem bgrown {w W w1 : World} (h : Below w.heap.size w W) {row : Option Nat} (hg : W.grownBy w1 row) (hr : ∀ k, row = some k → w.heap.size ≤ k) : Below w.heap.size w w1 := h.grown hg h.size hr

theorem Item.ranges {w : World} {b o : Nat} {x : Item} (h : w.rangeAt b o x.cells) : w.rangeAt b (o + 1) x.digest.cells ∧ w.rangeAt b (o + 33) x.leaf.cells ∧ w.rangeAt b (o + 33) x.leaf.key.cells ∧ w.rangeAt b (o + 65) x.leaf.value.cells := by
  have h1 := rangeAt_drop h 1
  simp only [Item.cells, List.drop_succ_cons, List.drop_zero] at h1
  have h2 := rangeAt_left h1
  have h3 := rangeAt_right h1
  rw [B32.cells_length] at h3
  have h4 : w.rangeAt b (o + 33) (x.leaf.key.cells ++ x.leaf.value.cells) := h3
  have h5 := rangeAt_right h4
  rw [B32.cells_length] at h5
  exact ⟨h2, h3, rangeAt_left h4, h5⟩

/-! ### laws at a list of operations -/
section
variable {P : Program}
/-- alloc of a row type, then the store of a whole row into it: the local copy of a value. -/
theorem wpl_local {ops : Array Oper} {rest : List Oper} {o1 o2 : Oper} {a : Act} {w : World} {Q : Exit → Act → World → Prop} (hg1 : o1.guard = none) (hg2 : o2.guard = none) (T : TypeId) (ho1 : o1.op = .alloc T) (d : Tmp) (hd : o1.dst = some d)
    (x : Operand) (ho2 : o2.op = .store T (.tmp d) x) (hd2 : o2.dst = none) (z : Array Value) (hz : (P.info? T).map (fun i => (i.zero, i.size)) = some (some (.agg z), z.size))
    (cs : Array Value) (hs : cs.size = z.size) (h1 : cs.all (·.oneCell') = true)
    (hlt : (a.put (some d) (.pointer (some ⟨w.heap.size, 0, none⟩))).eval (.tmp d) = .pointer (some ⟨w.heap.size, 0, none⟩)) (hx : (a.put (some d) (.pointer (some ⟨w.heap.size, 0, none⟩))).eval x = .agg cs)
    (h : wpList P ops Q rest (a.put (some d) (.pointer (some ⟨w.heap.size, 0, none⟩))) (w.alloc (.cells cs T))) : wpList P ops Q (o1 :: o2 :: rest) a w := by
  obtain ⟨hz1, hz2⟩ := zero_of_info hz
  refine wpList_plain hg1 fun K hK => ?_
  unfold Oper.wp execOp
  simp only [ho1, Instr.alloc, newVar, newRow, newObj, Sem.run_bind, hz1, Result.andThen_ok, Sem.run_pure, Value.cells, hd]
  simp only [Oper.upon_value, hd, Sem.run, Result.andThen_ok]
  refine hK _ _ ?_
  refine wpList_plain hg2 fun K2 hK2 => ?_
  unfold Oper.wp execOp
  simp only [ho2, hlt, hx]
  have := run_storeAt_new (P := P) w T z cs (by rw [hz2, hs]) hs.symm h1
  have h2 : Sem.run P (do Instr.storeAt T (.pointer (some ⟨w.heap.size, 0, none⟩)) (.agg cs); pure Next.skip) (w.alloc (.cells z T)) = .ok .skip (w.alloc (.cells cs T)) := by
    rw [Sem.run_bind, this]; rfl
  refine (congrArg (Oper.upon P o2 _ K2 Q) h2).mpr ?_
  simp only [Oper.upon_skip, hd2]
  exact hK2 _ _ h
theorem wpl_runG {ops : Array Oper} {rest : List Oper} {o : Oper} {a : Act} {w w' : World} {v : Value} {Q : Exit → Act → World → Prop} (hw : Region.wanted o (yielded ops a.tmps) = true)
    (hr : (execOp a.eval o).run P w = .ok (.value v) w') (h : wpList P ops Q rest (a.put o.dst v) w') : wpList P ops Q (o :: rest) a w := by
  refine wpList_step fun K hK => ?_
  rw [if_pos hw]
  unfold Oper.wp
  rw [hr]
  exact hK _ _ h
/-! guards: which operation stands first (with_reducible apply gLoad (T := 43)) -/
section
variable {ops : Array Oper} {rest : List Oper} {a : Act} {w : World} {Q : Exit → Act → World → Prop} {d : Option Tmp} {ty : TypeId} {pos : String} {af : Array Edge} {gd : Option (Nat × Bool)}
theorem gLoad {T : TypeId} {x : Operand} (h : wpList P ops Q (⟨d, .load T x, ty, pos, af, gd⟩ :: rest) a w) : wpList P ops Q (⟨d, .load T x, ty, pos, af, gd⟩ :: rest) a w := h
theorem gAlloc {T : TypeId} (h : wpList P ops Q (⟨d, .alloc T, ty, pos, af, gd⟩ :: rest) a w) : wpList P ops Q (⟨d, .alloc T, ty, pos, af, gd⟩ :: rest) a w := h
theorem gBox {T : TypeId} {x : Operand} (h : wpList P ops Q (⟨d, .box T x, ty, pos, af, gd⟩ :: rest) a w) : wpList P ops Q (⟨d, .box T x, ty, pos, af, gd⟩ :: rest) a w := h
theorem gBuild {T : TypeId} {ps : Array (Nat × Operand)} (h : wpList P ops Q (⟨d, .build T ps, ty, pos, af, gd⟩ :: rest) a w) : wpList P ops Q (⟨d, .build T ps, ty, pos, af, gd⟩ :: rest) a w := h
theorem gBuildSlice {T : TypeId} {n : Nat} {ps : Array (Nat × Operand)} (h : wpList P ops Q (⟨d, .buildSlice T n ps, ty, pos, af, gd⟩ :: rest) a w) : wpList P ops Q (⟨d, .buildSlice T n ps, ty, pos, af, gd⟩ :: rest) a w := h
theorem gBin {b : BinOp} {T T' : TypeId} {x y : Operand} (h : wpList P ops Q (⟨d, .binOp b T x y T', ty, pos, af, gd⟩ :: rest) a w) : wpList P ops Q (⟨d, .binOp b T x y T', ty, pos, af, gd⟩ :: rest) a w := h
theorem gStore {T : TypeId} {x y : Operand} (h : wpList P ops Q (⟨d, .store T x y, ty, pos, af, gd⟩ :: rest) a w) : wpList P ops Q (⟨d, .store T x y, ty, pos, af, gd⟩ :: rest) a w := h
theorem gSlice {T : TypeId} {x : Operand} {l h' m : Option Operand} (h : wpList P ops Q (⟨d, .slice T x l h' m, ty, pos, af, gd⟩ :: rest) a w) : wpList P ops Q (⟨d, .slice T x l h' m, ty, pos, af, gd⟩ :: rest) a w := h
theorem gIndexAddr {T : TypeId} {x y : Operand} (h : wpList P ops Q (⟨d, .indexAddr T x y, ty, pos, af, gd⟩ :: rest) a w) : wpList P ops Q (⟨d, .indexAddr T x y, ty, pos, af, gd⟩ :: rest) a w := h
theorem gIndex {T : TypeId} {x y : Operand} (h : wpList P ops Q (⟨d, .index T x y, ty, pos, af, gd⟩ :: rest) a w) : wpList P ops Q (⟨d, .index T x y, ty, pos, af, gd⟩ :: rest) a w := h
theorem gField {T : TypeId} {x : Operand} {i : Nat} (h : wpList P ops Q (⟨d, .field T x i, ty, pos, af, gd⟩ :: rest) a w) : wpList P ops Q (⟨d, .field T x i, ty, pos, af, gd⟩ :: rest) a w := h
theorem gMake {T : TypeId} {x y : Operand} (h : wpList P ops Q (⟨d, .makeSlice T x y, ty, pos, af, gd⟩ :: rest) a w) : wpList P ops Q (⟨d, .makeSlice T x y, ty, pos, af, gd⟩ :: rest) a w := h
theorem gBuiltin {b : Builtin} {as : Array Operand} {ts : Array TypeId} (h : wpList P ops Q (⟨d, .call ⟨.builtin b, as, ts⟩, ty, pos, af, gd⟩ :: rest) a w) : wpList P ops Q (⟨d, .call ⟨.builtin b, as, ts⟩, ty, pos, af, gd⟩ :: rest) a w := h
end
/-- an operation whose run is known -/
theorem wpl_run {ops : Array Oper} {rest : List Oper} {o : Oper} {a : Act} {w w' : World} {v : Value} {Q : Exit → Act → World → Prop} (hg : o.guard = none)
    (hr : (execOp a.eval o).run P w = .ok (.value v) w') (h : wpList P ops Q rest (a.put o.dst v) w') : wpList P ops Q (o :: rest) a w := by
  refine wpList_plain hg fun K hK => ?_
  unfold Oper.wp
  rw [hr]
  exact hK _ _ h
end
end Go.Proofs.Ythinpbgbnlohpaa
