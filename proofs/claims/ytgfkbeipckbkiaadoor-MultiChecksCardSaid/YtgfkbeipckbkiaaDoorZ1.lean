/- Laws of my own, over any program: rows of bytes, what a slice reads as, local copies, appends; Laws of my own, part 5: an argument that is a slice of bytes or of items, opened; a law's post out of 'nothing below has turned'; Laws of my own, part 6: the post of a law that answers true and turns nothing below; Laws of my own, part 7: a slice inside a struct, opened; Laws of my own, part 2: building rows, comparing them, loads in a region that draws; Laws of my own, part 3: appends to a row of the call's own, fields, arrays; Laws of my own, part 4: structs and arrays that are built from parts, rows of structs, a part of a block that is written (joined texts: B1 B5 B6 B7 B2 B3 B4) -/
import Derived.WalkKit
import Derived.WalkSpells
import Derived.WalkLawsBesides
import Derived.Deep.MidRow
import Derived.Deep.DeepFit
import Derived.Deep.WholeRow
import Derived.Stop.BytesEq
import Derived.Lib.Hide
import Derived.Outline
import Derived.Carry
import Derived.Deep.Slices
import Derived.OpenShut
import Derived.ChangeSame
import Derived.ProofKit
import Derived.JoinedOf
import Derived.StillTailTactics
import Derived.BigQuiet
import Derived.Deep.QuietTactic
import Derived.Laws.CopyOwn
import Derived.Great.BuildSlice
import Derived.Laws.CopyRow
set_option linter.all false
/- B1 -/
namespace Go.Proofs.YtgfkbeipckbkiaaDoor
set_option linter.unusedSimpArgs false
set_option linter.unusedVariables false
open Go.RowKit

/-! ### bytes -/
def bc (l : List UInt8) : List Value := l.map fun b => .int .u8 b.toNat
abbrev B32 := {l : List UInt8 // l.length = 32}
def zB32 : B32 := ⟨List.replicate 32 0, by simp⟩
def B32.cells (x : B32) : List Value := bc x.1
theorem bc_one (l : List UInt8) : ∀ v ∈ bc l, v.oneCell' = true := by
  intro v hv; simp [bc] at hv; obtain ⟨b, _, rfl⟩ := hv; rfl
theorem bc_length (l : List UInt8) : (bc l).length = l.length := by simp [bc]
theorem bc_append (l m : List UInt8) : bc (l ++ m) = bc l ++ bc m := by simp [bc]
theorem bc_take (l : List UInt8) (n : Nat) : bc (l.take n) = (bc l).take n := by simp [bc]
theorem bc_drop (l : List UInt8) (n : Nat) : bc (l.drop n) = (bc l).drop n := by simp [bc]
theorem bc_get (l : List UInt8) (i : Nat) (h : i < l.length) : (bc l)[i]? = some (.int .u8 (l.getD i 0).toNat) := by simp [bc, h]
theorem B32.cells_length (x : B32) : x.cells.length = 32 := by simp [B32.cells, bc, x.2]
theorem B32.cells_one (x : B32) : ∀ v ∈ x.cells, v.oneCell' = true := bc_one _

structure Leaf where
  key : B32
  value : B32
  deriving DecidableEq
structure Item where
  kind : Int
  digest : B32
  leaf : Leaf
  deriving DecidableEq
def zLeaf : Leaf := ⟨zB32, zB32⟩
def zItem : Item := ⟨0, zB32, zLeaf⟩
def Leaf.cells (x : Leaf) : List Value := x.key.cells ++ x.value.cells
def Item.cells (x : Item) : List Value := .int .i64 x.kind :: (x.digest.cells ++ x.leaf.cells)
theorem Leaf.cells_length (x : Leaf) : x.cells.length = 64 := by simp [Leaf.cells, B32.cells_length]
theorem Item.cells_length (x : Item) : x.cells.length = 97 := by simp [Item.cells, B32.cells_length, Leaf.cells_length]
theorem Leaf.cells_one (x : Leaf) : ∀ v ∈ x.cells, v.oneCell' = true := by
  intro v hv
  simp only [Leaf.cells, List.mem_append] at hv
  rcases hv with hv | hv <;> exact bc_one _ v hv
theorem Item.cells_one (x : Item) : ∀ v ∈ x.cells, v.oneCell' = true := by
  intro v hv
  simp only [Item.cells, List.mem_cons, List.mem_append] at hv
  rcases hv with rfl | hv | hv
  · rfl
  · exact bc_one _ v hv
  · exact Leaf.cells_one _ v hv
@[go_sem] theorem Item.cells_at0 (x : Item) : x.cells.toArray[0]? = some (.int .i64 x.kind) := by simp [Item.cells]
@[go_sem] theorem Item.cells_at0' (x : Item) : x.cells[0]? = some (.int .i64 x.kind) := by simp [Item.cells]

theorem ret_int {k : IntKind} {a b : Int} (h : a = b) : Ending.returned (.int k a) = .returned (.int k b) := by rw [h]

/-! ### what lies from an address on -/
/-- the cells from A on, in block order; nothing is asked of A where there are none -/
def Rd (w : World) (A : Option Addr) (cs : List Value) : Prop := ∀ j v, cs[j]? = some v → ∃ b o, A = some ⟨b, o, none⟩ ∧ w.cell? ⟨b, o + j, none⟩ = some v
theorem Rd.nil (w : World) (A : Option Addr) : Rd w A [] := fun j v h => by simp at h
theorem Rd.mk {w : World} {b o : Nat} {cs : List Value} (h : w.rangeAt b o cs) : Rd w (some ⟨b, o, none⟩) cs := fun j v hv => ⟨b, o, rfl, h j v hv⟩
theorem Rd.range {w : World} {b o : Nat} {cs : List Value} (h : Rd w (some ⟨b, o, none⟩) cs) : w.rangeAt b o cs := fun j v hv => by
  obtain ⟨b', o', e, hc⟩ := h j v hv
  obtain ⟨rfl, rfl⟩ : b = b' ∧ o = o' := by simpa using e
  exact hc
theorem Rd.open_ {w : World} {A : Option Addr} {cs : List Value} (h : Rd w A cs) (hn : 0 < cs.length) : ∃ b o, A = some ⟨b, o, none⟩ ∧ b < w.heap.size ∧ w.rangeAt b o cs := by
  obtain ⟨b, o, e, hc⟩ := h 0 cs[0] (by simp [hn])
  subst e
  exact ⟨b, o, rfl, World.block_lt_of_cell? w _ hc, h.range⟩
theorem Rd.below {w w1 : World} {A : Option Addr} {cs : List Value} (h : Rd w A cs) (hb : Below w.heap.size w w1) : Rd w1 A cs := fun j v hv => by
  obtain ⟨b, o, e, hc⟩ := h j v hv
  exact ⟨b, o, e, (hb.cell (World.block_lt_of_cell? w _ hc)).trans hc⟩
theorem Rd.take_ {w : World} {A : Option Addr} {cs : List Value} (h : Rd w A cs) (n : Nat) : Rd w A (cs.take n) := fun j v hv => by
  rw [List.getElem?_take] at hv
  split at hv
  · exact h j v hv
  · simp at hv
theorem Rd.left {w : World} {A : Option Addr} {cs ds : List Value} (h : Rd w A (cs ++ ds)) : Rd w A cs := by
  have := h.take_ cs.length
  simpa using this
theorem rangeAt_drop {w : World} {b o : Nat} {cs : List Value} (h : w.rangeAt b o cs) (n : Nat) : w.rangeAt b (o + n) (cs.drop n) := fun j v hv => by
  rw [List.getElem?_drop] at hv
  have := h (n + j) v hv
  rwa [← Nat.add_assoc] at this
theorem rangeAt_take {w : World} {b o : Nat} {cs : List Value} (h : w.rangeAt b o cs) (n : Nat) : w.rangeAt b o (cs.take n) := fun j v hv => by
  rw [List.getElem?_take] at hv
  split at hv
  · exact h j v hv
  · simp at hv
theorem rangeAt_left {w : World} {b o : Nat} {cs ds : List Value} (h : w.rangeAt b o (cs ++ ds)) : w.rangeAt b o cs := by simpa using rangeAt_take h cs.length
theorem rangeAt_right {w : World} {b o : Nat} {cs ds : List Value} (h : w.rangeAt b o (cs ++ ds)) : w.rangeAt b (o + cs.length) ds := by simpa using rangeAt_drop h cs.length
theorem rangeAt_below {w w1 : World} {b o : Nat} {cs : List Value} (h : w.rangeAt b o cs) (hb : Below w.heap.size w w1) : w1.rangeAt b o cs := (Rd.below (Rd.mk h) hb).range
theorem rangeAt_new (w : World) (cs : Array Value) (T : TypeId) : (w.alloc (.cells cs T)).rangeAt w.heap.size 0 cs.toList := fun j v hv => by
  simp at hv ⊢
  exact hv
/-- a row of elements, one after the other -/
theorem rangeAt_flat {α : Type} {w : World} {b o n : Nat} {f : α → List Value} {l : List α} (hf : ∀ x, (f x).length = n) (h : w.rangeAt b o (l.flatMap f)) {k : Nat} {x : α} (hk : l[k]? = some x) : w.rangeAt b (o + k * n) (f x) := by
  have e : l = l.take k ++ x :: l.drop (k + 1) := by
    have hlt := (List.getElem?_eq_some_iff.1 hk).1
    have hx := (List.getElem?_eq_some_iff.1 hk).2
    conv => lhs; rw [← List.take_append_drop k l, List.drop_eq_getElem_cons hlt, hx]
  rw [e, List.flatMap_append, List.flatMap_cons] at h
  have h2 := rangeAt_left (rangeAt_right h)
  have hl : ∀ m : List α, (m.flatMap f).length = m.length * n := by
    intro m
    induction m with
    | nil => simp
    | cons a m ih => simp [List.flatMap_cons, hf, ih, Nat.add_mul]; omega
  rw [hl] at h2
  have hlt := (List.getElem?_eq_some_iff.1 hk).1
  rwa [List.length_take, Nat.min_eq_left (by omega)] at h2
theorem flat_length {α : Type} {n : Nat} {f : α → List Value} (hf : ∀ x, (f x).length = n) (m : List α) : (m.flatMap f).length = m.length * n := by
  induction m with
  | nil => simp
  | cons a m ih => simp [List.flatMap_cons, hf, ih, Nat.add_mul]; omega
theorem flat_one {α : Type} {f : α → List Value} (hf : ∀ x, ∀ v ∈ f x, v.oneCell' = true) (m : List α) : ∀ v ∈ m.flatMap f, v.oneCell' = true := by
  intro v hv
  obtain ⟨x, _, hx⟩ := List.mem_flatMap.1 hv
  exact hf x v hx
theorem own_Rd {w : World} {base : Nat} {e : TypeId} {size n : Nat} {v : Value} {xs : List Value} (h : w.ownsRow base e size v n xs) : ∃ A c, v = .slice A n c ∧ n ≤ c ∧ Rd w A xs := by
  rcases h.2 with ⟨rfl, rfl⟩ | ⟨g, cap, cur, rfl, hg, hh, hn, hm, hs, ht⟩
  · have : xs = [] := List.eq_nil_of_length_eq_zero (by simpa using h.1)
    subst this
    exact ⟨none, 0, rfl, Nat.le_refl _, Rd.nil _ _⟩
  · refine ⟨some ⟨g, 0, none⟩, cap, rfl, hn, Rd.mk fun j v hv => ?_⟩
    have := h.cells (g := g) rfl j v hv
    rwa [Addr.add_mid] at this

theorem blk_cells {w : World} {g : Nat} {C : Array Value} {T : TypeId} (h : w.heap[g]? = some (.cells C T (0, 0))) : (∀ i, w.cell? ⟨g, i, none⟩ = C[i]?) ∧ (∀ i, w.frozen? ⟨g, i, none⟩ = false) :=
  ⟨fun i => by simp [World.cell?, h], fun i => by simp [World.frozen?, h]⟩
theorem blk_below {w w1 : World} {g : Nat} {o : Obj} (h : w.heap[g]? = some o) (hb : Below w.heap.size w w1) : w1.heap[g]? = some o :=
  (hb.block g (Array.getElem?_eq_some_iff.1 h).1).trans h

theorem blk_at {w w1 : World} (g : Nat) (C : Array Value) (T : TypeId) (h : w.heap[g]? = some (.cells C T (0, 0))) (hb : Below w.heap.size w w1) :
    w1.heap[g]? = some (.cells C T (0, 0)) ∧ (∀ i, w1.cell? ⟨g, i, none⟩ = C[i]?) ∧ (∀ i, w1.frozen? ⟨g, i, none⟩ = false) :=
  ⟨blk_below h hb, blk_cells (blk_below h hb)⟩

theorem bthen {w W w1 : World} (h : Below w.heap.size w W) (k : Below W.heap.size W w1) : Below w.heap.size w w1 := h.trans (k.mono h.size)
theorem balloc {w W : World} (h : Below w.heap.size w W) (o : Obj) : Below w.heap.size w (W.alloc o) := h.alloc h.size o
theorem bset {w W : World} (h : Below w.heap.size w W) {p : Addr} (hp : w.heap.size ≤ p.block) (u : Value) : Below w.heap.size w (W.setCell p u) := h.setCell hp u
theorem brefl (w : World) : Below w.heap.size w w := Below.refl _ _
theorem bdrew {w W : World} (h : Below w.heap.size w W) : Below w.heap.size w W.drew := h.drew
theorem bdrewN {w W : World} (h : Below w.heap.size w W) (n : Nat) : Below w.heap.size w (W.drewN n) := ⟨h.os, h.tape, h.output, h.size, h.block⟩
theorem bgrown {w W w1 : World} (h : Below w.heap.size w W) {row : Option Nat} (hg : W.grownBy w1 row) (hr : ∀ k, row = some k → w.heap.size ≤ k) : Below w.heap.size w w1 := h.grown hg h.size hr

theorem Item.ranges {w : World} {b o : Nat} {x : Item} (h : w.rangeAt b o x.cells) : w.rangeAt b (o + 1) x.digest.cells ∧ w.rangeAt b (o + 33) x.leaf.cells ∧ w.rangeAt b (o + 33) x.leaf.key.cells ∧ w.rangeAt b (o + 65) x.leaf.value.cells := by
  have h1 := rangeAt_drop h 1
  simp only [Item.cells, List.drop_succ_cons, List.drop_zero] at h1
  have h2 := rangeAt_left h1
  have h3 := rangeAt_right h1
  rw [B32.cells_length] at h3
  have h4 : w.rangeAt b (o + 33) (x.leaf.key.cells ++ x.leaf.value.cells) := h3
  have h5 := rangeAt_right h4
  rw [B32.cells_length] at h5
  exact ⟨h2, h3, rangeAt_left h4, h5⟩

/-! ### laws at a list of operations -/
section
variable {P : Program}
/-- alloc of a row type, then the store of a whole row into it: the local copy of a value. -/
theorem wpl_local {ops : Array Oper} {rest : List Oper} {o1 o2 : Oper} {a : Act} {w : World} {Q : Exit → Act → World → Prop} (hg1 : o1.guard = none) (hg2 : o2.guard = none) (T : TypeId) (ho1 : o1.op = .alloc T) (d : Tmp) (hd : o1.dst = some d)
    (x : Operand) (ho2 : o2.op = .store T (.tmp d) x) (hd2 : o2.dst = none) (z : Array Value) (hz : (P.info? T).map (fun i => (i.zero, i.size)) = some (some (.agg z), z.size))
    (cs : Array Value) (hs : cs.size = z.size) (h1 : cs.all (·.oneCell') = true)
    (hlt : (a.put (some d) (.pointer (some ⟨w.heap.size, 0, none⟩))).eval (.tmp d) = .pointer (some ⟨w.heap.size, 0, none⟩)) (hx : (a.put (some d) (.pointer (some ⟨w.heap.size, 0, none⟩))).eval x = .agg cs)
    (h : wpList P ops Q rest (a.put (some d) (.pointer (some ⟨w.heap.size, 0, none⟩))) (w.alloc (.cells cs T))) : wpList P ops Q (o1 :: o2 :: rest) a w := by
  obtain ⟨hz1, hz2⟩ := zero_of_info hz
  refine wpList_plain hg1 fun K hK => ?_
  unfold Oper.wp execOp
  simp only [ho1, Instr.alloc, newVar, newRow, newObj, Sem.run_bind, hz1, Result.andThen_ok, Sem.run_pure, Value.cells, hd]
  simp only [Oper.upon_value, hd, Sem.run, Result.andThen_ok]
  refine hK _ _ ?_
  refine wpList_plain hg2 fun K2 hK2 => ?_
  unfold Oper.wp execOp
  simp only [ho2, hlt, hx]
  have := run_storeAt_new (P := P) w T z cs (by rw [hz2, hs]) hs.symm h1
  have h2 : Sem.run P (do Instr.storeAt T (.pointer (some ⟨w.heap.size, 0, none⟩)) (.agg cs); pure Next.skip) (w.alloc (.cells z T)) = .ok .skip (w.alloc (.cells cs T)) := by
    rw [Sem.run_bind, this]; rfl
  refine (congrArg (Oper.upon P o2 _ K2 Q) h2).mpr ?_
  simp only [Oper.upon_skip, hd2]
  exact hK2 _ _ h
theorem wpl_runG {ops : Array Oper} {rest : List Oper} {o : Oper} {a : Act} {w w' : World} {v : Value} {Q : Exit → Act → World → Prop} (hw : Region.wanted o (yielded ops a.tmps) = true)
    (hr : (execOp a.eval o).run P w = .ok (.value v) w') (h : wpList P ops Q rest (a.put o.dst v) w') : wpList P ops Q (o :: rest) a w := by
  refine wpList_step fun K hK => ?_
  rw [if_pos hw]
  unfold Oper.wp
  rw [hr]
  exact hK _ _ h
/-! guards: which operation stands first (with_reducible apply gLoad (T := 43)) -/
section
variable {ops : Array Oper} {rest : List Oper} {a : Act} {w : World} {Q : Exit → Act → World → Prop} {d : Option Tmp} {ty : TypeId} {pos : String} {af : Array Edge} {gd : Option (Nat × Bool)}
theorem gLoad {T : TypeId} {x : Operand} (h : wpList P ops Q (⟨d, .load T x, ty, pos, af, gd⟩ :: rest) a w) : wpList P ops Q (⟨d, .load T x, ty, pos, af, gd⟩ :: rest) a w := h
theorem gAlloc {T : TypeId} (h : wpList P ops Q (⟨d, .alloc T, ty, pos, af, gd⟩ :: rest) a w) : wpList P ops Q (⟨d, .alloc T, ty, pos, af, gd⟩ :: rest) a w := h
theorem gBox {T : TypeId} {x : Operand} (h : wpList P ops Q (⟨d, .box T x, ty, pos, af, gd⟩ :: rest) a w) : wpList P ops Q (⟨d, .box T x, ty, pos, af, gd⟩ :: rest) a w := h
theorem gBuild {T : TypeId} {ps : Array (Nat × Operand)} (h : wpList P ops Q (⟨d, .build T ps, ty, pos, af, gd⟩ :: rest) a w) : wpList P ops Q (⟨d, .build T ps, ty, pos, af, gd⟩ :: rest) a w := h
theorem gBuildSlice {T : TypeId} {n : Nat} {ps : Array (Nat × Operand)} (h : wpList P ops Q (⟨d, .buildSlice T n ps, ty, pos, af, gd⟩ :: rest) a w) : wpList P ops Q (⟨d, .buildSlice T n ps, ty, pos, af, gd⟩ :: rest) a w := h
theorem gBin {b : BinOp} {T T' : TypeId} {x y : Operand} (h : wpList P ops Q (⟨d, .binOp b T x y T', ty, pos, af, gd⟩ :: rest) a w) : wpList P ops Q (⟨d, .binOp b T x y T', ty, pos, af, gd⟩ :: rest) a w := h
theorem gStore {T : TypeId} {x y : Operand} (h : wpList P ops Q (⟨d, .store T x y, ty, pos, af, gd⟩ :: rest) a w) : wpList P ops Q (⟨d, .store T x y, ty, pos, af, gd⟩ :: rest) a w := h
theorem gSlice {T : TypeId} {x : Operand} {l h' m : Option Operand} (h : wpList P ops Q (⟨d, .slice T x l h' m, ty, pos, af, gd⟩ :: rest) a w) : wpList P ops Q (⟨d, .slice T x l h' m, ty, pos, af, gd⟩ :: rest) a w := h
theorem gIndexAddr {T : TypeId} {x y : Operand} (h : wpList P ops Q (⟨d, .indexAddr T x y, ty, pos, af, gd⟩ :: rest) a w) : wpList P ops Q (⟨d, .indexAddr T x y, ty, pos, af, gd⟩ :: rest) a w := h
theorem gIndex {T : TypeId} {x y : Operand} (h : wpList P ops Q (⟨d, .index T x y, ty, pos, af, gd⟩ :: rest) a w) : wpList P ops Q (⟨d, .index T x y, ty, pos, af, gd⟩ :: rest) a w := h
theorem gField {T : TypeId} {x : Operand} {i : Nat} (h : wpList P ops Q (⟨d, .field T x i, ty, pos, af, gd⟩ :: rest) a w) : wpList P ops Q (⟨d, .field T x i, ty, pos, af, gd⟩ :: rest) a w := h
theorem gMake {T : TypeId} {x y : Operand} (h : wpList P ops Q (⟨d, .makeSlice T x y, ty, pos, af, gd⟩ :: rest) a w) : wpList P ops Q (⟨d, .makeSlice T x y, ty, pos, af, gd⟩ :: rest) a w := h
theorem gBuiltin {b : Builtin} {as : Array Operand} {ts : Array TypeId} (h : wpList P ops Q (⟨d, .call ⟨.builtin b, as, ts⟩, ty, pos, af, gd⟩ :: rest) a w) : wpList P ops Q (⟨d, .call ⟨.builtin b, as, ts⟩, ty, pos, af, gd⟩ :: rest) a w := h
end
/-- an operation whose run is known -/
theorem wpl_run {ops : Array Oper} {rest : List Oper} {o : Oper} {a : Act} {w w' : World} {v : Value} {Q : Exit → Act → World → Prop} (hg : o.guard = none)
    (hr : (execOp a.eval o).run P w = .ok (.value v) w') (h : wpList P ops Q rest (a.put o.dst v) w') : wpList P ops Q (o :: rest) a w := by
  refine wpList_plain hg fun K hK => ?_
  unfold Oper.wp
  rw [hr]
  exact hK _ _ h
end
end Go.Proofs.YtgfkbeipckbkiaaDoor
/- B5 -/
namespace Go.Proofs.YtgfkbeipckbkiaaDoor
set_option linter.unusedSimpArgs false
set_option linter.unusedVariables false
open Go.RowKit Go.ChangeShapes Go.WideShapes
section
variable {H : Type} {enc : TypeId × Value → H} {P : Program} {w : World} {base : Nat} {spare : Nat → Bool} {held : Bool} {fuel : Nat} {t : TypeId} {cs : List Value} {x : DataW H × List MemPlace}
def toByte : Value → UInt8 | .int _ n => UInt8.ofNat n.toNat | _ => 0
theorem toByte_int {n : Int} (h0 : 0 ≤ n) (h1 : n ≤ 255) : (Value.int .u8 (toByte (.int .u8 n)).toNat) = .int .u8 n := by
  unfold toByte
  have : (UInt8.ofNat n.toNat).toNat = n.toNat := by rw [UInt8.toNat_ofNat']; omega
  rw [this]
  congr 1
  omega
theorem bytes_of (cs : List Value) (h : ∀ i, i < cs.length → ∃ n, cs[i]? = some (.int .u8 n) ∧ 0 ≤ n ∧ n ≤ 255) : cs = bc (cs.map toByte) := by
  apply List.ext_getElem?
  intro i
  by_cases hi : i < cs.length
  · obtain ⟨n, hn, h0, h1⟩ := h i hi
    simp only [bc, List.getElem?_map, hn, Option.map_some, toByte_int h0 h1]
  · rw [List.getElem?_eq_none (by omega), List.getElem?_eq_none (by simp [bc]; omega)]
theorem dec_B32 {e : TypeId} (ht : P.underlying t = some (.array 32 e)) (hc : P.cellsOf t = 32) (he : P.underlying e = some (.int .u8)) (hce : P.cellsOf e = 1) (h : DataW.trod enc P w base spare held fuel t cs = some x) : ∃ y : B32, cs = y.cells := by
  obtain ⟨xs, m, rfl, _, hl, hxl, hx⟩ := DataW.trod_array ht h
  rw [hc] at hl
  have hb := bytes_of cs (fun i hi => by
    have h1 := hx i (by omega)
    rw [List.getElem?_eq_getElem (by omega), hce, Nat.mul_one] at h1
    obtain ⟨n, hn, _, hw⟩ := DataW.trod_int he h1
    have := bounds_u8 hw
    refine ⟨n, ?_, this.1, this.2⟩
    have h2 := congrArg (fun l => l[0]?) hn
    simpa using h2)
  exact ⟨⟨cs.map toByte, by simp [hl]⟩, hb⟩
theorem dec_Leaf {f0 f1 : Field} {e : TypeId} (ht : P.underlying t = some (.struct #[f0, f1])) (hc : P.cellsOf t = 64) (o0 : f0.offset = 0) (o1 : f1.offset = 32) (h0 : P.underlying f0.type = some (.array 32 e)) (h1 : P.underlying f1.type = some (.array 32 e)) (c0 : P.cellsOf f0.type = 32) (c1 : P.cellsOf f1.type = 32)
    (he : P.underlying e = some (.int .u8)) (hce : P.cellsOf e = 1) (h : DataW.trod enc P w base spare held fuel t cs = some x) : ∃ y : Leaf, cs = y.cells := by
  obtain ⟨xs, n, rfl, _, hl, hxl, hx⟩ := DataW.trod_struct ht h
  simp only [List.size_toArray, List.length_cons, List.length_nil] at hxl
  have g0 := hx 0 f0 rfl
  have g1 := hx 1 f1 rfl
  rw [List.getElem?_eq_getElem (by omega)] at g0 g1
  rw [o0, c0, List.drop_zero] at g0
  rw [o1, c1] at g1
  obtain ⟨y0, e0⟩ := dec_B32 h0 c0 he hce g0
  obtain ⟨y1, e1⟩ := dec_B32 h1 c1 he hce g1
  refine ⟨⟨y0, y1⟩, ?_⟩
  rw [hc] at hl
  unfold Leaf.cells
  simp only [← e0, ← e1]
  rw [List.take_of_length_le (l := cs.drop 32) (by simp; omega), List.take_append_drop]
theorem dec_Item {f0 f1 f2 g0 g1 : Field} {e : TypeId} (ht : P.underlying t = some (.struct #[f0, f1, f2])) (hc : P.cellsOf t = 97) (o0 : f0.offset = 0) (o1 : f1.offset = 1) (o2 : f2.offset = 33) (h0 : P.underlying f0.type = some (.int .i64)) (c0 : P.cellsOf f0.type = 1) (h1 : P.underlying f1.type = some (.array 32 e)) (c1 : P.cellsOf f1.type = 32)
    (h2 : P.underlying f2.type = some (.struct #[g0, g1])) (c2 : P.cellsOf f2.type = 64) (p0 : g0.offset = 0) (p1 : g1.offset = 32) (q0 : P.underlying g0.type = some (.array 32 e)) (q1 : P.underlying g1.type = some (.array 32 e)) (d0 : P.cellsOf g0.type = 32) (d1 : P.cellsOf g1.type = 32)
    (he : P.underlying e = some (.int .u8)) (hce : P.cellsOf e = 1) (h : DataW.trod enc P w base spare held fuel t cs = some x) : ∃ y : Item, cs = y.cells ∧ -9223372036854775808 ≤ y.kind ∧ y.kind ≤ 9223372036854775807 := by
  obtain ⟨xs, n, rfl, _, hl, hxl, hx⟩ := DataW.trod_struct ht h
  simp only [List.size_toArray, List.length_cons, List.length_nil] at hxl
  have k0 := hx 0 f0 rfl
  have k1 := hx 1 f1 rfl
  have k2 := hx 2 f2 rfl
  rw [List.getElem?_eq_getElem (by omega)] at k0 k1 k2
  rw [o0, c0, List.drop_zero] at k0
  rw [o1, c1] at k1
  rw [o2, c2] at k2
  obtain ⟨m, e0, _, hw⟩ := DataW.trod_int h0 k0
  obtain ⟨y1, e1⟩ := dec_B32 h1 c1 he hce k1
  obtain ⟨y2, e2⟩ := dec_Leaf h2 c2 p0 p1 q0 q1 d0 d1 he hce k2
  rw [hc] at hl
  have hb := bounds_i64 hw
  refine ⟨⟨m, y1, y2⟩, ?_, hb.1, hb.2⟩
  have r1 : cs = cs.take 1 ++ ((cs.drop 1).take 32 ++ (cs.drop 33).take 64) := by
    rw [List.take_of_length_le (l := cs.drop 33) (by simp; omega)]
    have : cs.drop 33 = (cs.drop 1).drop 32 := by rw [List.drop_drop]
    rw [this, List.take_append_drop, List.take_append_drop]
  rw [r1, e0, e1, e2]
  rfl
theorem rows_at {α : Type} {f : α → List Value} {n : Nat} (hf : ∀ y, (f y).length = n) (hn : 0 < n) : ∀ (l : List α) (j : Nat) (y : α), l[j / n]? = some y → (l.flatMap f)[j]? = (f y)[j % n]?
  | [], j, y, h => by simp at h
  | z :: l, j, y, h => by
    rw [List.flatMap_cons]
    by_cases hj : j < n
    · rw [Nat.div_eq_of_lt hj] at h
      obtain rfl : z = y := by simpa using h
      rw [Nat.mod_eq_of_lt hj, List.getElem?_append_left (by rw [hf]; exact hj)]
    · obtain ⟨k, rfl⟩ : ∃ k, j = k + n := ⟨j - n, by omega⟩
      rw [Nat.add_div_right _ hn, List.getElem?_cons_succ] at h
      rw [List.getElem?_append_right (by rw [hf]; omega), hf, Nat.add_sub_cancel, Nat.add_mod_right]
      exact rows_at hf hn l k y h
theorem spot_none {a : Addr} {v : Value} (h : w.cell? a = some v) : a = ⟨a.block, a.off, none⟩ := by
  obtain ⟨b, o, s⟩ := a
  cases s with
  | none => rfl
  | some s =>
    unfold World.cell? at h
    simp only [Option.isSome_some, if_true] at h
    split at h <;> cases h
/-- a slice whose elements read as rows of n cells -/
theorem open_rows {α : Type} [Inhabited α] {f : α → List Value} {n : Nat} (hf : ∀ y, (f y).length = n) (hn : 0 < n) {e : TypeId} (ht : P.underlying t = some (.slice e)) (hc : P.cellsOf e = n) (q : α → Prop) (dec : ∀ (fuel : Nat) (cs : List Value) (x : DataW H × List MemPlace), DataW.trod enc P w base spare held fuel e cs = some x → ∃ y, cs = f y ∧ q y)
    {v : Value} {d : DataW H} {ps : List MemPlace} {r : Reach} {b0 : Nat} (hval : Value.okWide P w r b0 t v) (hd : DataW.Trod enc P w base spare held t v d ps) :
    ∃ (l : List α) (A : Option Addr) (cap : Nat), v = .slice A l.length cap ∧ l.length ≤ cap ∧ cap ≤ maxLen ∧ (A = none → cap = 0) ∧ Rd w A (l.flatMap f) ∧ ∀ y ∈ l, q y := by
  obtain ⟨a, len, cap, rfl⟩ := okWide_slice ht hval
  obtain ⟨fuel, hfu⟩ := hd
  rcases Deep.open_slice ht hfu with ⟨h, _⟩ | ⟨a', len', cap', m, k, D, Pl, hcs, hba, hlc, hmax, hm, _, hel⟩
  · simp [Value.cells] at h
    obtain ⟨rfl, rfl, rfl⟩ := h
    exact ⟨[], none, 0, rfl, Nat.le_refl _, Nat.zero_le _, fun _ => rfl, Rd.nil _ _, fun y hy => by cases hy⟩
  · simp [Value.cells] at hcs
    obtain ⟨rfl, rfl, rfl⟩ := hcs
    have hlm : len ≤ m := by rw [hm]; split <;> omega
    have hch : ∀ i, i < len → ∃ y : α, (w.cells? base (a'.add (i * n)) n = some (f y)) ∧ q y := fun i hi => by
      obtain ⟨cs', h1, h2⟩ := hel i (by omega)
      rw [hc] at h1
      obtain ⟨y, rfl, hq⟩ := dec _ _ _ h2
      exact ⟨y, h1, hq⟩
    obtain ⟨g, hg⟩ := Deep.choose_lt hch
    have hcell : ∀ i, i < len → ∀ j u, (f (g i))[j]? = some u → w.cell? ((a'.add (i * n)).add j) = some u := fun i hi j u hu => by
      have h1 := (hg i hi).1
      unfold World.cells? at h1
      split at h1
      · have hj : j < n := by rw [← hf (g i)]; exact (List.getElem?_eq_some_iff.1 hu).1
        have := mapM_some_get h1 j j (by simp [hj])
        rw [hu] at this
        exact this
      · cases h1
    refine ⟨(List.range len).map g, some a', cap, by simp, by simpa using hlc, hmax, (fun h => by cases h), ?_, ?_⟩
    · intro j u hu
      have hlen : ((List.range len).map g).length = len := by simp
      have hj : j < len * n := by
        have := (List.getElem?_eq_some_iff.1 hu).1
        rw [flat_length hf, hlen] at this
        exact this
      have hi : j / n < len := (Nat.div_lt_iff_lt_mul hn).2 hj
      have hu' : (f (g (j / n)))[j % n]? = some u := by
        rw [← hu]
        exact (rows_at hf hn ((List.range len).map g) j (g (j / n)) (by simp [hi])).symm
      have h0 : 0 < len := Nat.lt_of_le_of_lt (Nat.zero_le _) hi
      have hz : ∃ u0, (f (g 0))[0]? = some u0 := ⟨(f (g 0))[0]'(by rw [hf]; exact hn), List.getElem?_eq_getElem _⟩
      obtain ⟨u0, hu0⟩ := hz
      have hs := hcell 0 h0 0 u0 hu0
      have hs' : w.cell? a' = some u0 := by simpa [Addr.add] using hs
      have ha := spot_none hs'
      refine ⟨a'.block, a'.off, by rw [← ha], ?_⟩
      have h2 := hcell (j / n) hi (j % n) u hu'
      rw [ha, Addr.add_mid, Addr.add_mid, Nat.add_assoc, Nat.div_add_mod'] at h2
      exact h2
    · intro y hy
      simp only [List.mem_map, List.mem_range] at hy
      obtain ⟨i, hi, rfl⟩ := hy
      exact (hg i hi).2
theorem byteOf_bc (l : List UInt8) : l.flatMap (fun b => [Value.int .u8 b.toNat]) = bc l := by
  induction l with
  | nil => rfl
  | cons x l ih => simp [bc] at ih ⊢; exact ih
theorem open_bytes {e : TypeId} (ht : P.underlying t = some (.slice e)) (he : P.underlying e = some (.int .u8)) (hc : P.cellsOf e = 1)
    {v : Value} {d : DataW H} {ps : List MemPlace} {r : Reach} {b0 : Nat} (hval : Value.okWide P w r b0 t v) (hd : DataW.Trod enc P w base spare held t v d ps) :
    ∃ (l : List UInt8) (A : Option Addr) (cap : Nat), v = .slice A l.length cap ∧ l.length ≤ cap ∧ cap ≤ maxLen ∧ (A = none → cap = 0) ∧ Rd w A (bc l) := by
  obtain ⟨l, A, cap, h1, h2, h3, h4, h5, _⟩ := open_rows (f := fun b : UInt8 => [Value.int .u8 b.toNat]) (fun _ => rfl) Nat.one_pos ht hc (fun _ => True) (fun fuel cs x h => by
    obtain ⟨n, rfl, _, hw⟩ := DataW.trod_int he h
    have := bounds_u8 hw
    exact ⟨toByte (.int .u8 n), by rw [toByte_int this.1 this.2], trivial⟩) hval hd
  rw [byteOf_bc] at h5
  exact ⟨l, A, cap, h1, h2, h3, h4, h5⟩
end
end Go.Proofs.YtgfkbeipckbkiaaDoor
/- B6 -/
namespace Go.Proofs.YtgfkbeipckbkiaaDoor
set_option linter.unusedSimpArgs false
set_option linter.unusedVariables false
open Go.RowKit Go.ChangeShapes Go.WideShapes
section
variable {H : Type} {enc : TypeId × Value → H} {P : Program}
theorem below_trodAll (hl : laidOutB P = true) {W W' : World} (hb : Below W.heap.size W W') : ∀ (ts : List TypeId) (vs : List Value) (ds : List (DataW H)) (ps : List MemPlace), (∀ t ∈ ts, P.readableRec t = true ∧ t < P.types.size) →
    DataW.TrodAll enc P W 0 (fun _ => true) true ts vs ds ps → (∀ x ∈ ps, x.block < W.heap.size) → DataW.TrodAll enc P W' 0 (fun b => decide (b < W.heap.size)) true ts vs ds ps
  | [], vs, ds, ps, _, h, _ => by
    cases vs <;> cases ds <;> simp_all [DataW.TrodAll]
  | t :: ts, vs, ds, ps, hr, h, hlt => by
    cases vs with
    | nil => cases ds <;> simp [DataW.TrodAll] at h
    | cons v vs =>
      cases ds with
      | nil => simp [DataW.TrodAll] at h
      | cons d ds =>
        obtain ⟨p, p', h1, h2, rfl⟩ := h
        have hlt1 : ∀ x ∈ p, x.block < W.heap.size := fun x hx => hlt x (by simp [hx])
        have hlt2 : ∀ x ∈ p', x.block < W.heap.size := fun x hx => hlt x (by simp [hx])
        exact ⟨p, p', Below.trod hl (hr t (by simp)).1 (hr t (by simp)).2 h1 hb hlt1, below_trodAll hl hb ts vs ds p' (fun t ht => hr t (by simp [ht])) h2 hlt2, rfl⟩
theorem post_law {f : Func} {s : ChangeSpec} {apart fresh handsOn : Bool} {W W' : World} {args : Array Value} {ds gs : List (DataW H)} {before : List MemPlace} (hl : laidOutB P = true) (hr : ∀ t ∈ f.params.toList, P.readableRec t = true ∧ t < P.types.size)
    (hW : DataW.Whole enc P f.params.toList s.vars apart W args.toList ds gs before) (hsv : s.vars = []) (hsf : s.fn H (ds ++ gs) = { results := [.lit (.bool true)], args := ds }) {tb : TypeId} (hrt : f.resultTypes = #[tb]) (htb : P.underlying tb = some .bool) (hb : Below W.heap.size W W') :
    s.post enc P f apart fresh handsOn false W args (.bool true) W' := by
  have hW' := hW
  obtain ⟨pa, pv, hA, hV, hps, hfz, hnd⟩ := hW
  rw [hsv] at hV
  obtain ⟨rfl, rfl⟩ := trodVars_none hV
  have hlt := hW'.lt
  simp only [List.append_nil] at hps
  subst hps
  refine ⟨ds, [], before, [], before, [], hW', ?_, ?_, ?_, ?_, fun h => by cases h⟩
  · rw [hsf, hrt]
    exact trodAll_cons_mk (shut_bool htb _) trodAll_mk0
  · rw [hsf]
    exact below_trodAll hl hb _ _ _ _ hr hA hlt
  · rw [hsf, hsv]
    exact hV
  · exact hb.frame _
end
end Go.Proofs.YtgfkbeipckbkiaaDoor
/- B7 -/
namespace Go.Proofs.YtgfkbeipckbkiaaDoor
set_option linter.unusedSimpArgs false
set_option linter.unusedVariables false
open Go.RowKit Go.ChangeShapes Go.WideShapes
section
variable {H : Type} {enc : TypeId × Value → H} {P : Program} {w : World} {base : Nat} {spare : Nat → Bool} {held : Bool} {t : TypeId}
/-- a slice whose elements read as rows of n cells -/
theorem open_rows_t {α : Type} [Inhabited α] {f : α → List Value} {n : Nat} (hf : ∀ y, (f y).length = n) (hn : 0 < n) {e : TypeId} (ht : P.underlying t = some (.slice e)) (hc : P.cellsOf e = n) (q : α → Prop) (dec : ∀ (fuel : Nat) (cs : List Value) (x : DataW H × List MemPlace), DataW.trod enc P w base spare held fuel e cs = some x → ∃ y, cs = f y ∧ q y)
    {fuel : Nat} {cs : List Value} {x : DataW H × List MemPlace} (hfu : DataW.trod enc P w base spare held fuel t cs = some x) :
    ∃ (l : List α) (A : Option Addr) (cap : Nat), cs = [.slice A l.length cap] ∧ l.length ≤ cap ∧ cap ≤ maxLen ∧ (A = none → cap = 0) ∧ Rd w A (l.flatMap f) ∧ ∀ y ∈ l, q y := by
  rcases Deep.open_slice ht hfu with ⟨rfl, _⟩ | ⟨a', len, cap, m, k, D, Pl, rfl, hba, hlc, hmax, hm, _, hel⟩
  · exact ⟨[], none, 0, rfl, Nat.le_refl _, Nat.zero_le _, fun _ => rfl, Rd.nil _ _, fun y hy => by cases hy⟩
  · have hlm : len ≤ m := by rw [hm]; split <;> omega
    have hch : ∀ i, i < len → ∃ y : α, (w.cells? base (a'.add (i * n)) n = some (f y)) ∧ q y := fun i hi => by
      obtain ⟨cs', h1, h2⟩ := hel i (by omega)
      rw [hc] at h1
      obtain ⟨y, rfl, hq⟩ := dec _ _ _ h2
      exact ⟨y, h1, hq⟩
    obtain ⟨g, hg⟩ := Deep.choose_lt hch
    have hcell : ∀ i, i < len → ∀ j u, (f (g i))[j]? = some u → w.cell? ((a'.add (i * n)).add j) = some u := fun i hi j u hu => by
      have h1 := (hg i hi).1
      unfold World.cells? at h1
      split at h1
      · have hj : j < n := by rw [← hf (g i)]; exact (List.getElem?_eq_some_iff.1 hu).1
        have := mapM_some_get h1 j j (by simp [hj])
        rw [hu] at this
        exact this
      · cases h1
    refine ⟨(List.range len).map g, some a', cap, by simp, by simpa using hlc, hmax, (fun h => by cases h), ?_, ?_⟩
    · intro j u hu
      have hlen : ((List.range len).map g).length = len := by simp
      have hj : j < len * n := by
        have := (List.getElem?_eq_some_iff.1 hu).1
        rw [flat_length hf, hlen] at this
        exact this
      have hi : j / n < len := (Nat.div_lt_iff_lt_mul hn).2 hj
      have hu' : (f (g (j / n)))[j % n]? = some u := by
        rw [← hu]
        exact (rows_at hf hn ((List.range len).map g) j (g (j / n)) (by simp [hi])).symm
      have h0 : 0 < len := Nat.lt_of_le_of_lt (Nat.zero_le _) hi
      have hz : ∃ u0, (f (g 0))[0]? = some u0 := ⟨(f (g 0))[0]'(by rw [hf]; exact hn), List.getElem?_eq_getElem _⟩
      obtain ⟨u0, hu0⟩ := hz
      have hs := hcell 0 h0 0 u0 hu0
      have hs' : w.cell? a' = some u0 := by simpa [Addr.add] using hs
      have ha := spot_none hs'
      refine ⟨a'.block, a'.off, by rw [← ha], ?_⟩
      have h2 := hcell (j / n) hi (j % n) u hu'
      rw [ha, Addr.add_mid, Addr.add_mid, Nat.add_assoc, Nat.div_add_mod'] at h2
      exact h2
    · intro y hy
      simp only [List.mem_map, List.mem_range] at hy
      obtain ⟨i, hi, rfl⟩ := hy
      exact (hg i hi).2
end
end Go.Proofs.YtgfkbeipckbkiaaDoor
/- B2 -/
namespace Go.Proofs.YtgfkbeipckbkiaaDoor
set_option linter.unusedSimpArgs false
set_option linter.unusedVariables false
open Go.RowKit

/-! ### build -/
theorem foldl_set (off : Nat) : ∀ (cs : List Value) (k : Nat) (Z : Array Value), off + k + cs.length ≤ Z.size →
    (cs.zipIdx k).foldl (fun acc (x : Value × Nat) => acc.setIfInBounds (off + x.2) x.1) Z = (Z.toList.take (off + k) ++ cs ++ Z.toList.drop (off + k + cs.length)).toArray := by
  intro cs
  induction cs with
  | nil => intro k Z h; simp
  | cons c cs ih =>
    intro k Z h
    simp only [List.length_cons] at h
    rw [List.zipIdx_cons, List.foldl_cons, ih (k + 1) _ (by simp; omega)]
    congr 1
    simp only [Array.toList_setIfInBounds]
    have e : off + (k + 1) = off + k + 1 := by omega
    have hk : off + k < Z.toList.length := by simp; omega
    rw [e, List.take_add_one, List.take_set_of_le (by omega)]
    simp only [List.getElem?_set_self hk, Option.toList_some]
    rw [List.drop_set_of_lt (by omega)]
    simp [List.length_cons, Nat.add_assoc, Nat.add_comm 1]
theorem fold_part (off : Nat) (cs Z : Array Value) (h : off + cs.size ≤ Z.size) :
    cs.zipIdx.foldl (fun acc (x : Value × Nat) => acc.setIfInBounds (off + x.2) x.1) Z = (Z.toList.take off ++ cs.toList ++ Z.toList.drop (off + cs.size)).toArray := by
  rw [← Array.foldl_toList, Array.toList_zipIdx, foldl_set off cs.toList 0 Z (by simpa using h)]
  simp
theorem fill_one (place : Nat → Option (Nat × Nat)) (Z : Array Value) (i : Nat) (v : Value) (rest : List (Nat × Value)) (off size : Nat) (hp : place i = some (off, size)) (hs : v.cells.size = size) (hz : off + size ≤ Z.size) :
    Instr.fill place Z ((i, v) :: rest) = Instr.fill place (Z.toList.take off ++ v.cells.toList ++ Z.toList.drop (off + size)).toArray rest := by
  subst hs
  rw [Instr.fill]
  simp only [hp]
  rw [if_neg (by simp; omega), fold_part off v.cells Z (by omega)]

section
variable {P : Program} {ops : Array Oper} {rest : List Oper} {a : Act} {w : World} {Q : Exit → Act → World → Prop}
/-- a struct that is made of one part, all of it -/
theorem run_build_one (z : Array Value) (t : TypeId) (fs : Array Field) (i : TypeInfo) (hu : P.underlying t = some (.struct fs)) (hz : (P.info? t).map (fun i => (i.zero, i.size)) = some (some (.agg z), z.size))
    (f : Field) (hf : fs = #[f]) (ho : f.offset = 0) (hi : P.info? f.type = some i) (hs : i.size = z.size) (v : Value) (hv : v.cells.size = z.size) :
    (Instr.build t #[(0, v)]).run P w = .ok (.agg v.cells) w := by
  obtain ⟨hz1, _⟩ := zero_of_info hz
  subst hf
  simp only [Instr.build, Sem.run_bind, hz1, Result.andThen_ok, run_underlying hu, Value.cells]
  simp only [List.mapM_toArray, List.mapM_cons, List.mapM_nil, sizeOf, typeInfo, ho]
  simp [hi, hs]
  rw [fill_one _ _ 0 v [] 0 z.size (by simp) hv (by omega)]
  have hd : List.drop z.size z.toList = [] := by simp
  simp [Instr.fill, hd, Value.cells]
end
section
variable {P : Program} {a : Act} {w w' : World} {o : Oper} {v : Value}
theorem ex_build {t : TypeId} {l : List (Nat × Operand)} (ho : o.op = .build t l.toArray) (ps : List (Nat × Value)) (hp : (l.map fun p => (p.1, a.eval p.2)) = ps) (h : (Instr.build t ps.toArray).run P w = .ok v w') :
    (execOp a.eval o).run P w = .ok (.value v) w' := by
  unfold execOp
  simp only [ho]
  have e : (l.toArray.map fun (x : Nat × Operand) => match x with | (i, x) => (i, a.eval x)) = ps.toArray := by
    rw [← hp]; simp
  rw [e, Sem.run_bind, h]
  rfl
theorem rangeAt_new' (w : World) (cs : List Value) (T : TypeId) : (w.alloc (.cells cs.toArray T)).rangeAt w.heap.size 0 cs := by
  simpa using rangeAt_new w cs.toArray T
end
/-! ### cutting a slice -/
def cutA (A : Option Addr) (c i size : Nat) : Option Addr := if c = i then A else A.map (·.add (i * size))
theorem flat_drop {α : Type} {n : Nat} {f : α → List Value} (hf : ∀ x, (f x).length = n) : ∀ (i : Nat) (l : List α), (l.flatMap f).drop (i * n) = (l.drop i).flatMap f
  | 0, l => by simp
  | i + 1, [] => by simp
  | i + 1, x :: l => by
    rw [List.flatMap_cons, List.drop_succ_cons, ← flat_drop hf i l, Nat.succ_mul, Nat.add_comm (i * n) n, ← List.drop_drop]
    congr 1
    rw [← hf x]
    exact List.drop_left
theorem flat_take {α : Type} {n : Nat} {f : α → List Value} (hf : ∀ x, (f x).length = n) : ∀ (i : Nat) (l : List α), (l.flatMap f).take (i * n) = (l.take i).flatMap f
  | 0, l => by simp
  | i + 1, [] => by simp
  | i + 1, x :: l => by
    rw [List.flatMap_cons, List.take_succ_cons, List.flatMap_cons, ← flat_take hf i l, Nat.succ_mul, Nat.add_comm (i * n) n, List.take_append]
    congr 1
    · rw [List.take_of_length_le (by rw [hf]; omega)]
    · rw [hf, Nat.add_sub_cancel_left]
theorem cut_Rd {w : World} {A : Option Addr} {cs : List Value} {n c i size : Nat} (h : Rd w A cs) (hl : cs.length = n * size) (hn : n ≤ c) (hi : i ≤ n) : Rd w (cutA A c i size) (cs.drop (i * size)) := by
  unfold cutA
  split
  · have : i = n := by omega
    subst this
    rw [List.drop_of_length_le (by omega)]
    exact Rd.nil _ _
  · intro j v hv
    rw [List.getElem?_drop] at hv
    obtain ⟨b, o, rfl, hc⟩ := h _ v hv
    exact ⟨b, o + i * size, by simp [Addr.add_mid], by rwa [Nat.add_assoc]⟩
section
variable {P : Program} {a : Act} {w : World} {o : Oper}
section
variable {T e size : Nat} {x : Operand} {A : Option Addr} {n c : Nat}
theorem cut_l {xl : Operand} {kl : IntKind} {L : Int} (ho : o.op = .slice T x (some xl) none none) (hT : P.underlying T = some (.slice e)) (hs : (P.info? e).map (·.size) = some size) (hx : a.eval x = .slice A n c) (hl : a.eval xl = .int kl L) (h0 : 0 ≤ L) (h1 : L ≤ n) :
    (execOp a.eval o).run P w = .ok (.value (.slice (cutA A c L.toNat size) (n - L.toNat) (c - L.toNat))) w := by
  obtain ⟨i, hi, rfl⟩ := Option.map_eq_some_iff.1 hs
  have hel : P.elem T = e := by simp [Program.elem, hT]
  have hu : P.underlying T = some (.slice (P.elem T)) := by rw [hel]; exact hT
  unfold execOp
  simp only [ho, hx, Option.map_some, Option.map_none, hl]
  rw [Sem.run_bind, run_sliceAt_slice _ _ _ _ _ _ hu, run_slice_l w T A n c hu kl L h0 h1, hel]
  simp [sizeOf, typeInfo, hi, sliced, Result.andThen, cutA]
theorem cut_h {xh : Operand} {kh : IntKind} {H : Int} (ho : o.op = .slice T x none (some xh) none) (hT : P.underlying T = some (.slice e)) (hs : (P.info? e).map (·.size) = some size) (hx : a.eval x = .slice A n c) (hh : a.eval xh = .int kh H) (h0 : 0 ≤ H) (h1 : H ≤ c) :
    (execOp a.eval o).run P w = .ok (.value (.slice (cutA A c 0 size) H.toNat c)) w := by
  obtain ⟨i, hi, rfl⟩ := Option.map_eq_some_iff.1 hs
  have hel : P.elem T = e := by simp [Program.elem, hT]
  have hu : P.underlying T = some (.slice (P.elem T)) := by rw [hel]; exact hT
  unfold execOp
  simp only [ho, hx, Option.map_some, Option.map_none, hh]
  rw [Sem.run_bind, run_sliceAt_slice _ _ _ _ _ _ hu, run_slice_h w T A n c hu kh H h0 h1, hel]
  simp [sizeOf, typeInfo, hi, sliced, Result.andThen, cutA]
theorem cut_lh {xl xh : Operand} {kl kh : IntKind} {L H : Int} (ho : o.op = .slice T x (some xl) (some xh) none) (hT : P.underlying T = some (.slice e)) (hs : (P.info? e).map (·.size) = some size) (hx : a.eval x = .slice A n c) (hl : a.eval xl = .int kl L) (hh : a.eval xh = .int kh H) (h0 : 0 ≤ L) (h1 : L ≤ H) (h2 : H ≤ c) :
    (execOp a.eval o).run P w = .ok (.value (.slice (cutA A c L.toNat size) (H.toNat - L.toNat) (c - L.toNat))) w := by
  obtain ⟨i, hi, rfl⟩ := Option.map_eq_some_iff.1 hs
  have hel : P.elem T = e := by simp [Program.elem, hT]
  have hu : P.underlying T = some (.slice (P.elem T)) := by rw [hel]; exact hT
  unfold execOp
  simp only [ho, hx, Option.map_some, Option.map_none, hl, hh]
  rw [Sem.run_bind, run_sliceAt_slice _ _ _ _ _ _ hu, run_slice_lh w T A n c hu kl kh L H h0 h1 h2, hel]
  simp [sizeOf, typeInfo, hi, sliced, Result.andThen, cutA]
end
end

/-! ### single operations -/
section
variable {P : Program} {a : Act} {w : World} {o : Oper}
theorem ex_move {x : Operand} {v : Value} (ho : o.op = .move x) (hx : a.eval x = v) : (execOp a.eval o).run P w = .ok (.value v) w := by
  unfold execOp
  simp only [ho, hx]
  rfl
theorem ex_assign {x : Operand} {v : Value} (ho : o.op = .assign x) (hx : a.eval x = v) : (execOp a.eval o).run P w = .ok (.value v) w := by
  unfold execOp
  simp only [ho, hx]
  rfl
theorem ex_load_row {ty : TypeId} {x : Operand} (ho : o.op = .load ty x) {b off : Nat} (hx : a.eval x = .pointer (some ⟨b, off, none⟩)) {cs : List Value} {d : TypeDesc} (hc : w.rangeAt b off cs)
    (hu : P.underlying ty = some d) (hd : d.isRow = true) (hi : (P.info? ty).map (·.size) = some cs.length) : (execOp a.eval o).run P w = .ok (.value (.agg cs.toArray)) w := by
  unfold execOp
  simp only [ho, hx, Instr.loadAt, Instr.sureAddr, Sem.run_bind, Sem.run_pure, Result.andThen_ok, run_loadVar_mid w b off ty cs d hc hu hd hi]
theorem ex_load_cell {ty : TypeId} {x : Operand} (ho : o.op = .load ty x) {b off : Nat} (hx : a.eval x = .pointer (some ⟨b, off, none⟩)) {v : Value} {d : TypeDesc} (hc : w.cell? ⟨b, off, none⟩ = some v)
    (hu : P.underlying ty = some d) (hd : d.isRow = false) : (execOp a.eval o).run P w = .ok (.value v) w := by
  have hagg : (isAgg ty).run P w = .ok false w := by
    unfold isAgg
    rw [Sem.run_bind, run_underlying hu w]
    cases d <;> simp_all
  unfold execOp
  simp only [ho, hx, Instr.loadAt, Instr.sureAddr, Sem.run_bind, Sem.run_pure, Result.andThen_ok, loadVar, hagg]
  simp [load, Sem.run, hc]
theorem ex_alloc {T : TypeId} (ho : o.op = .alloc T) {z : Value} (hz : (P.info? T).map (fun i => (i.zero, i.size)) = some (some z, z.cells.size)) :
    (execOp a.eval o).run P w = .ok (.value (.pointer (some ⟨w.heap.size, 0, none⟩))) (w.alloc (.cells z.cells T)) := by
  obtain ⟨hz1, hz2⟩ := zero_of_info hz
  unfold execOp
  simp only [ho, Instr.alloc, newVar, newRow, newObj, Sem.run_bind, hz1, Result.andThen_ok, Sem.run_pure]
  rfl
theorem ex_store_new {T : TypeId} {p x : Operand} (ho : o.op = .store T p x) {z cs : Array Value} (hp : a.eval p = .pointer (some ⟨w.heap.size, 0, none⟩)) (hx : a.eval x = .agg cs)
    (hz : (P.info? T).map (·.size) = some cs.size) (hs : z.size = cs.size) (h1 : cs.all (·.oneCell') = true) : (execOp a.eval o).run P (w.alloc (.cells z T)) = .ok .skip (w.alloc (.cells cs T)) := by
  unfold execOp
  simp only [ho, hp, hx]
  have h := run_storeAt_new (P := P) w T z cs hz hs h1
  rw [Sem.run_bind, h]
  rfl
theorem ex_neqI {T T' : TypeId} {x y : Operand} (ho : o.op = .binOp .neq T x y T') {k : IntKind} {m n : Int} (hx : a.eval x = .int k m) (hy : a.eval y = .int k n) {v : Bool} (hv : (m != n) = v) : (execOp a.eval o).run P w = .ok (.value (.bool v)) w := by
  subst hv
  unfold execOp
  simp only [ho, hx, hy, eqGuard_at_int, binOp_neq]
  rfl
theorem ex_eqlI {T T' : TypeId} {x y : Operand} (ho : o.op = .binOp .eql T x y T') {k : IntKind} {m n : Int} (hx : a.eval x = .int k m) (hy : a.eval y = .int k n) {v : Bool} (hv : (m == n) = v) : (execOp a.eval o).run P w = .ok (.value (.bool v)) w := by
  subst hv
  unfold execOp
  simp only [ho, hx, hy, eqGuard_at_int, binOp_eql]
  rfl
theorem ex_pick {c x y : Operand} (ho : o.op = .pick c x y) {t : Bool} (hc : a.eval c = .bool t) {v : Value} (hv : (if t = true then a.eval x else a.eval y) = v) : (execOp a.eval o).run P w = .ok (.value v) w := by
  subst hv
  unfold execOp
  simp only [ho, hc, asBool]
  rfl
theorem ex_fieldAt {T : TypeId} {x : Operand} {i : Nat} (ho : o.op = .fieldAddr T x i) {b off : Nat} (hx : a.eval x = .pointer (some ⟨b, off, none⟩)) {fs : Array Field} (hT : P.underlying T = some (.struct fs)) {f : Field} (hf : fs[i]? = some f) {s : Nat} (hs : (P.info? f.type).map (·.size) = some (s + 1)) {k : Nat} (hk : off + f.offset = k) :
    (execOp a.eval o).run P w = .ok (.value (.pointer (some ⟨b, k, none⟩))) w := by
  obtain ⟨j, hj, hjs⟩ := Option.map_eq_some_iff.1 hs
  subst hk
  unfold execOp
  simp only [ho, hx]
  simp [Instr.fieldAt, run_underlying hT, hf, Instr.sureAddr, fieldPlace, sizeOf, typeInfo, hj, hjs, Addr.add_mid]
theorem ex_index {T e size : Nat} {x i : Operand} (ho : o.op = .indexAddr T x i) (hT : P.underlying T = some (.slice e)) (hs : (P.info? e).map (·.size) = some size) {b off n c : Nat} (hx : a.eval x = .slice (some ⟨b, off, none⟩) n c) {k : IntKind} {I : Int} (hi : a.eval i = .int k I) (h0 : 0 ≤ I) (h1 : I < n) :
    (execOp a.eval o).run P w = .ok (.value (.pointer (some ⟨b, off + I.toNat * size, none⟩))) w := by
  obtain ⟨i, hi', rfl⟩ := Option.map_eq_some_iff.1 hs
  have hel : P.elem T = e := by simp [Program.elem, hT]
  have hu : P.underlying T = some (.slice (P.elem T)) := by rw [hel]; exact hT
  unfold execOp
  simp only [ho, hx, hi]
  rw [Sem.run_bind, run_indexAt_slice w T _ n c k I hu, if_pos ⟨h0, h1⟩, hel]
  simp [sizeOf, typeInfo, hi', Result.andThen, Addr.add_mid]
end

section
variable {P : Program} {a : Act} {w : World} {o : Oper}
theorem ex_eql {T T' : TypeId} {x y : Operand} (ho : o.op = .binOp .eql T x y T') {xs ys : Array Value} (hx : a.eval x = .agg xs) (hy : a.eval y = .agg ys) (hm : P.eqGuardType P.depth T = false) {v : Value} (h : (binOp .eql T (.agg xs) (.agg ys)).run P w = .ok v w) :
    (execOp a.eval o).run P w = .ok (.value v) w := by
  unfold execOp
  simp only [ho, hx, hy]
  rw [Sem.run_bind, Sem.run_bind, run_eqGuard_agg w _ _ _ _ _ _ hm, Result.andThen_ok, h]
  rfl
theorem ex_neq {T T' : TypeId} {x y : Operand} (ho : o.op = .binOp .neq T x y T') {xs ys : Array Value} (hx : a.eval x = .agg xs) (hy : a.eval y = .agg ys) (hm : P.eqGuardType P.depth T = false) {v : Value} (h : (binOp .neq T (.agg xs) (.agg ys)).run P w = .ok v w) :
    (execOp a.eval o).run P w = .ok (.value v) w := by
  unfold execOp
  simp only [ho, hx, hy]
  rw [Sem.run_bind, Sem.run_bind, run_eqGuard_agg w _ _ _ _ _ _ hm, Result.andThen_ok, h]
  rfl
theorem part_row {T n : Nat} {d : TypeDesc} (hu : P.underlying T = some d) (hd : d.isRow = true) (hs : (P.info? T).map (·.size) = some n) (cs : Array Value) (off : Nat) : (part T cs off).run P w = .ok (.agg (cs.extract off (off + n))) w := by
  obtain ⟨i, hi, rfl⟩ := Option.map_eq_some_iff.1 hs
  have hagg : (isAgg T).run P w = .ok true w := by
    unfold isAgg
    rw [Sem.run_bind, run_underlying hu w]
    cases d <;> simp_all
  simp [part, hagg, sizeOf, typeInfo, hi]
theorem eq_B32 {T e : TypeId} (d : Nat) (ht : P.underlying T = some (.array 32 e)) (he : P.underlying e = some (.int .u8)) (hs : (P.info? e).map (·.size) = some 1) (x y : B32) :
    (Op.equalIn (d + 2) T (.agg x.cells.toArray) (.agg y.cells.toArray)).run P w = .ok (decide (x = y)) w := by
  obtain ⟨i, hi, h1⟩ := Option.map_eq_some_iff.1 hs
  have := run_equalIn_bytes (P := P) w d T e 32 ht he (fun w => by simp [sizeOf, typeInfo, hi, h1]) x.1 y.1 x.2 y.2
  rw [show decide (x = y) = (x.1 == y.1) by rw [Bool.eq_iff_iff]; simp [Subtype.ext_iff]]
  exact this
theorem eql_B32 {T e : TypeId} (ht : P.underlying T = some (.array 32 e)) (he : P.underlying e = some (.int .u8)) (hs : (P.info? e).map (·.size) = some 1) (x y : B32) :
    (binOp .eql T (.agg x.cells.toArray) (.agg y.cells.toArray)).run P w = .ok (.bool (decide (x = y))) w := by
  rw [run_eql_struct, eq_B32 9998 ht he hs x y]
  rfl
theorem neq_B32 {T e : TypeId} (ht : P.underlying T = some (.array 32 e)) (he : P.underlying e = some (.int .u8)) (hs : (P.info? e).map (·.size) = some 1) (x y : B32) :
    (binOp .neq T (.agg x.cells.toArray) (.agg y.cells.toArray)).run P w = .ok (.bool (!decide (x = y))) w := by
  rw [run_neq_struct, eq_B32 9998 ht he hs x y]
  rfl
/-- a struct of two rows of 32 bytes -/
theorem eq_Leaf {T t1 t2 e : TypeId} (d : Nat) {f1 f2 : Field} (hT : P.underlying T = some (.struct #[f1, f2])) (hp : P.stoodInHeld T = false) (hn1 : (f1.name == "_") = false) (hn2 : (f2.name == "_") = false) (h1 : f1.type = t1) (h2 : f2.type = t2) (o1 : f1.offset = 0) (o2 : f2.offset = 32)
    (ht1 : P.underlying t1 = some (.array 32 e)) (ht2 : P.underlying t2 = some (.array 32 e)) (he : P.underlying e = some (.int .u8)) (hs : (P.info? e).map (·.size) = some 1) (hs1 : (P.info? t1).map (·.size) = some 32) (hs2 : (P.info? t2).map (·.size) = some 32) (x y : Leaf) :
    (Op.equalIn (d + 3) T (.agg x.cells.toArray) (.agg y.cells.toArray)).run P w = .ok (decide (x = y)) w := by
  have hf : P.fieldsOf T = #[f1, f2] := by simp [Program.fieldsOf, hT]
  rw [run_equalIn_struct (P := P) w (d + 2) T _ _ (by rw [hf]; exact hT) hp, hf]
  have n1 : f1.name ≠ "_" := by simpa using hn1
  have n2 : f2.name ≠ "_" := by simpa using hn2
  have ex1 : ∀ z : Leaf, z.cells.toArray.extract 0 (0 + 32) = z.key.cells.toArray := fun z => by
    apply Array.ext'
    simp only [List.extract_toArray, Leaf.cells]
    simp [List.extract_eq_drop_take', B32.cells_length]
  have ex2 : ∀ z : Leaf, z.cells.toArray.extract 32 (32 + 32) = z.value.cells.toArray := fun z => by
    apply Array.ext'
    simp only [List.extract_toArray, Leaf.cells]
    simp [List.extract_eq_drop_take', B32.cells_length, List.take_of_length_le]
  have p1 : ∀ z : Leaf, (part t1 z.cells.toArray 0).run P w = .ok (.agg z.key.cells.toArray) w := fun z => by rw [part_row ht1 rfl hs1, ex1]
  have p2 : ∀ z : Leaf, (part t2 z.cells.toArray 32).run P w = .ok (.agg z.value.cells.toArray) w := fun z => by rw [part_row ht2 rfl hs2, ex2]
  simp only [Op.eqFields, if_pos n1, if_pos n2, Sem.run_bind, h1, h2, o1, o2, p1, Result.andThen_ok, eq_B32 d ht1 he hs]
  have e1 : decide (x = y) = (decide (x.key = y.key) && decide (x.value = y.value)) := by
    rw [Bool.eq_iff_iff]; cases x; cases y; simp
  rw [e1]
  by_cases k1 : x.key = y.key <;> by_cases k2 : x.value = y.value <;> simp [k1, k2, p2, eq_B32 d ht2 he hs]
end

section
variable {P : Program} {w : World}
theorem item_ex1 (z : Item) : z.cells.toArray.extract 1 (1 + 32) = z.digest.cells.toArray := by
  apply Array.ext'
  simp only [List.extract_toArray, Item.cells]
  simp [List.extract_eq_drop_take', B32.cells_length]
theorem item_ex2 (z : Item) : z.cells.toArray.extract 33 (33 + 64) = z.leaf.cells.toArray := by
  apply Array.ext'
  simp only [List.extract_toArray, Item.cells]
  simp [List.extract_eq_drop_take', B32.cells_length, Leaf.cells_length, List.take_of_length_le]
theorem eq_Item {T t0 t1 t2 e : TypeId} {d2 : TypeDesc} (d : Nat) {f0 f1 f2 : Field} (hT : P.underlying T = some (.struct #[f0, f1, f2])) (hp : P.stoodInHeld T = false) (hn0 : (f0.name == "_") = false) (hn1 : (f1.name == "_") = false) (hn2 : (f2.name == "_") = false)
    (h0 : f0.type = t0) (h1 : f1.type = t1) (h2 : f2.type = t2) (o0 : f0.offset = 0) (o1 : f1.offset = 1) (o2 : f2.offset = 33) (ht0 : P.underlying t0 = some (.int .i64))
    (ht1 : P.underlying t1 = some (.array 32 e)) (he : P.underlying e = some (.int .u8)) (hs : (P.info? e).map (·.size) = some 1) (hs1 : (P.info? t1).map (·.size) = some 32)
    (hL : ∀ x y : Leaf, (Op.equalIn (d + 3) t2 (.agg x.cells.toArray) (.agg y.cells.toArray)).run P w = .ok (decide (x = y)) w) (ht2 : P.underlying t2 = some d2) (hd2 : d2.isRow = true) (hs2 : (P.info? t2).map (·.size) = some 64) (x y : Item) :
    (Op.equalIn (d + 4) T (.agg x.cells.toArray) (.agg y.cells.toArray)).run P w = .ok (decide (x = y)) w := by
  have hf : P.fieldsOf T = #[f0, f1, f2] := by simp [Program.fieldsOf, hT]
  rw [run_equalIn_struct (P := P) w (d + 3) T _ _ (by rw [hf]; exact hT) hp, hf]
  have n0 : f0.name ≠ "_" := by simpa using hn0
  have n1 : f1.name ≠ "_" := by simpa using hn1
  have n2 : f2.name ≠ "_" := by simpa using hn2
  have p0 : ∀ z : Item, (part t0 z.cells.toArray 0).run P w = .ok (.int .i64 z.kind) w := fun z => by
    simp [part, isAgg, run_underlying ht0, Item.cells]
  have p1 : ∀ z : Item, (part t1 z.cells.toArray 1).run P w = .ok (.agg z.digest.cells.toArray) w := fun z => by rw [part_row ht1 rfl hs1, item_ex1]
  have p2 : ∀ z : Item, (part t2 z.cells.toArray 33).run P w = .ok (.agg z.leaf.cells.toArray) w := fun z => by rw [part_row ht2 hd2 hs2, item_ex2]
  have q0 : (Op.equalIn (d + 3) t0 (.int .i64 x.kind) (.int .i64 y.kind)).run P w = .ok (x.kind == y.kind) w := run_equalIn_int w (d + 2) _ _ _ _ _ ht0
  have q1 : (Op.equalIn (d + 3) t1 (.agg x.digest.cells.toArray) (.agg y.digest.cells.toArray)).run P w = .ok (decide (x.digest = y.digest)) w := eq_B32 (d + 1) ht1 he hs _ _
  have q2 := hL x.leaf y.leaf
  simp only [Op.eqFields, if_pos n0, if_pos n1, if_pos n2, Sem.run_bind, h0, h1, h2, o0, o1, o2, p0, q0, Result.andThen_ok]
  have e1 : decide (x = y) = ((x.kind == y.kind) && (decide (x.digest = y.digest) && decide (x.leaf = y.leaf))) := by
    rw [Bool.eq_iff_iff]; cases x; cases y; simp
  rw [e1]
  by_cases k0 : x.kind = y.kind <;> by_cases k1 : x.digest = y.digest <;> by_cases k2 : x.leaf = y.leaf <;> simp [k0, k1, k2] at q1 q2 ⊢ <;> simp [k0, k1, k2, p1, p2, q1, q2]
end

/-! ### a region that draws its order: what reads is taken first, under S -/
section
variable {P : Program} {ops : Array Oper} {Q : Exit → Act → World → Prop} {md : Region.Mode} {S : World → Prop} {fuel : Nat} {listed : Array Bool} {a : Act} {w : World}
theorem yields_of {o : Oper} {v : Value} (hg : o.guard = none) (h : ∀ w, S w → (execOp a.eval o).run P w = .ok (.value v) w) : YieldsIf P ops S o v a := .inl ⟨by simp [Region.wanted, hg], h⟩
/-- the post does not hang on the frame at a panic -/
def HQ (Q : Exit → Act → World → Prop) : Prop := ∀ (d : Option Tmp) (v : Value) (c : _) (a : Act) (w : World), Q (.panic c) (a.put d v) w → Q (.panic c) a w
theorem heldQ {id : Nat} (hm : P.follows .mixedOrders = true) (hQ : HQ Q) (h : HQ Q → wpAnyH P .any ops Q S ops.size (Array.replicate ops.size false) a w.drew) : (Code.region id ops true).wp P Q a w :=
  wp_region_held (S := S) hm (h hQ)
theorem HQ.mk (h : ∀ (ts : Array Value) (ds : List Deferred) (ts' : Array Value) (c : _) (w : World), Q (.panic c) ⟨ts', ds⟩ w → Q (.panic c) ⟨ts, ds⟩ w) : HQ Q := fun d v c a w hq => by
  cases d with
  | none => exact hq
  | some d => exact h _ _ _ _ _ hq
theorem takeQ (i : Nat) (hQ : HQ Q) {l : List Oper} {oi : Oper} {v : Value} (hi : l[i]? = some oi) (hs : Region.noSelect l.toArray = true) (hf : Region.free md l.toArray listed i = true) (hr : (Region.ready md l.toArray listed).contains i = true)
    (hy : YieldsIf P l.toArray S oi v a) (hS : S w) (h : wpAnyH P md l.toArray Q S fuel (listed.setIfInBounds i true) (a.put oi.dst v) w) : wpAnyH P md l.toArray Q S (fuel + 1) listed a w :=
  wpAnyH_take (by simpa using hi) hs hf hr (hQ _ _) hy hS h
/-- one alone may come up -/
theorem heldOne (i : Nat) {l : List Oper} {o : Oper} {v : Value} {w' : World} (ho : l[i]? = some o) (hr : Region.ready md l.toArray listed = [i]) (hg : o.guard = none) (hrun : (execOp a.eval o).run P w = .ok (.value v) w') (hS : S w')
    (h : wpAnyH P md l.toArray Q S fuel (listed.setIfInBounds i true) (a.put o.dst v) w') : wpAnyH P md l.toArray Q S (fuel + 1) listed a w := by
  refine wpAnyH_all hr (by simp) fun j hj => ?_
  obtain rfl : j = i := by simpa using hj
  have ho' : l.toArray[j]? = some o := by simpa using ho
  unfold wpOp
  simp only [ho', Region.wanted, hg, if_true]
  refine .inl ?_
  unfold Oper.wp
  rw [hrun]
  exact ⟨hS, h⟩
theorem heldOne_skip (i : Nat) {l : List Oper} {o : Oper} {w' : World} (ho : l[i]? = some o) (hr : Region.ready md l.toArray listed = [i]) (hg : o.guard = none) (hrun : (execOp a.eval o).run P w = .ok .skip w') (hS : S w')
    (h : wpAnyH P md l.toArray Q S fuel (listed.setIfInBounds i true) (a.put o.dst undef) w') : wpAnyH P md l.toArray Q S (fuel + 1) listed a w := by
  refine wpAnyH_all hr (by simp) fun j hj => ?_
  obtain rfl : j = i := by simpa using hj
  have ho' : l.toArray[j]? = some o := by simpa using ho
  unfold wpOp
  simp only [ho', Region.wanted, hg, if_true]
  refine .inl ?_
  unfold Oper.wp
  rw [hrun]
  exact ⟨hS, h⟩
end

section
variable {P : Program} {ops : Array Oper} {rest : List Oper} {a : Act} {w : World} {Q : Act → Prop}
theorem wpStill_run {o : Oper} {v : Value} (hg : o.guard = none) (hr : (execOp a.eval o).run P w = .ok (.value v) w) (h : wpStill P ops w Q rest (a.put o.dst v)) : wpStill P ops w Q (o :: rest) a := by
  unfold wpStill
  rw [if_pos (by simp [Region.wanted, hg])]
  unfold Oper.still
  rw [hr, Oper.stillUpon_value]
  exact h
theorem wpStill_runG {o : Oper} {v : Value} (hw : Region.wanted o (yielded ops a.tmps) = true) (hr : (execOp a.eval o).run P w = .ok (.value v) w) (h : wpStill P ops w Q rest (a.put o.dst v)) : wpStill P ops w Q (o :: rest) a := by
  unfold wpStill
  rw [if_pos hw]
  unfold Oper.still
  rw [hr, Oper.stillUpon_value]
  exact h
theorem wpStill_skip {o : Oper} (hw : Region.wanted o (yielded ops a.tmps) = false) (h : wpStill P ops w Q rest (a.put o.dst undef)) : wpStill P ops w Q (o :: rest) a := by
  unfold wpStill
  rw [if_neg (by rw [hw]; exact Bool.false_ne_true)]
  exact h
theorem wpStill_load_mid {o : Oper} (hg : o.guard = none) (ty : TypeId) (x : Operand) (ho : o.op = .load ty x)
    (b off : Nat) (hx : a.eval x = .pointer (some ⟨b, off, none⟩)) (cs : List Value) (d : TypeDesc) (hc : w.rangeAt b off cs)
    (hu : P.underlying ty = some d) (hd : d.isRow = true) (hi : (P.info? ty).map (·.size) = some cs.length)
    (h : wpStill P ops w Q rest (a.put o.dst (.agg cs.toArray))) : wpStill P ops w Q (o :: rest) a := by
  refine wpStill_run hg ?_ h
  unfold execOp
  simp only [ho, hx, Instr.loadAt, Instr.sureAddr, Sem.run_bind, Sem.run_pure, Result.andThen_ok, run_loadVar_mid w b off ty cs d hc hu hd hi]
end
end Go.Proofs.YtgfkbeipckbkiaaDoor
/- B3 -/
namespace Go.Proofs.YtgfkbeipckbkiaaDoor
set_option linter.unusedSimpArgs false
set_option linter.unusedVariables false
open Go.RowKit

structure ElT (P : Program) (t e : TypeId) (size bytes : Nat) (z : Value) : Prop where
  ht : P.underlying t = some (.slice e)
  hi : (P.info? e).map (fun i => (i.zero, i.size, i.bytes)) = some (some z, size, bytes)
  hz : z.cells.size = size
  h0 : 0 < size
  hb : 0 < bytes
theorem Rd_lit (w : World) (cs : List Value) (T : TypeId) : Rd (w.alloc (.cells cs.toArray T)) (some ⟨w.heap.size, 0, none⟩) cs := Rd.mk (rangeAt_new' w cs T)
theorem Rd_at (w : World) (g : Nat) (cs : List Value) (T : TypeId) (h : w.heap.size = g) : Rd (w.alloc (.cells cs.toArray T)) (some ⟨g, 0, none⟩) cs := by subst h; exact Rd_lit w cs T
theorem own_lit (w : World) (base : Nat) (e : TypeId) (size n : Nat) (cs : List Value) (hb : base ≤ w.heap.size) (hn : n ≤ 9223372036854775807) (hs : cs.length = n * size) :
    (w.alloc (.cells cs.toArray e)).ownsRow base e size (.slice (some ⟨w.heap.size, 0, none⟩) n n) n cs := by
  have := World.ownsRow_lit (e := e) (size := size) (base := base) w cs.toArray n hb hn (by simpa using hs)
  simpa using this
theorem own_alloc {w : World} {base : Nat} {e : TypeId} {size n : Nat} {v : Value} {xs : List Value} (h : w.ownsRow base e size v n xs) (o : Obj) : (w.alloc o).ownsRow base e size v n xs := h.alloc o
theorem own_base {w : World} {base base' : Nat} {e : TypeId} {size n : Nat} {v : Value} {xs : List Value} (h : w.ownsRow base e size v n xs) (hb : base' ≤ base) : w.ownsRow base' e size v n xs := by
  obtain ⟨h1, h2⟩ := h
  refine ⟨h1, ?_⟩
  rcases h2 with h2 | ⟨g, cap, cur, rfl, hg, r⟩
  · exact .inl h2
  · exact .inr ⟨g, cap, cur, rfl, by omega, r⟩
theorem own_below {w w1 : World} {base : Nat} {e : TypeId} {size n : Nat} {v : Value} {xs : List Value} (h : w.ownsRow base e size v n xs) (hb : Below w.heap.size w w1) : w1.ownsRow base e size v n xs :=
  h.kept (row := none) ⟨hb.os, hb.tape, hb.output, hb.size, fun i hi _ => hb.block i hi⟩ (by cases v.ownBlock <;> simp)
theorem own_setCell {w : World} {base : Nat} {e : TypeId} {size n : Nat} {v : Value} {xs : List Value} (h : w.ownsRow base e size v n xs) {p : Addr} (hp : p.block < base) (u : Value) : (w.setCell p u).ownsRow base e size v n xs := ownsRow_setCell_below h hp u
theorem grow_below {w W w1 : World} {B : Nat} {base : Nat} {e : TypeId} {size n : Nat} {v : Value} {xs : List Value} (h : Below B w W) (hown : W.ownsRow base e size v n xs) (hg : W.grownBy w1 v.ownBlock) (hB : B ≤ base) (hB2 : B ≤ W.heap.size) : Below B w w1 :=
  h.grown hg hB2 (fun k hk => Nat.le_trans hB (hown.lt k hk).1)
/-- a range that is no part of the row that grows -/
theorem grow_range {W w1 : World} {b o : Nat} {cs : List Value} {v : Value} (h : W.rangeAt b o cs) (hg : W.grownBy w1 v.ownBlock) (hne : some b ≠ v.ownBlock) : w1.rangeAt b o cs := fun j u hu =>
  hg.cell (h j u hu) hne
theorem own_ne {w : World} {base : Nat} {e : TypeId} {size n : Nat} {v : Value} {xs : List Value} (h : w.ownsRow base e size v n xs) {b : Nat} (hb : b < base ∨ w.heap.size ≤ b) : some b ≠ v.ownBlock := fun e => by
  have := h.lt b e.symm
  omega

theorem own_ne_type {w : World} {base : Nat} {e : TypeId} {size n : Nat} {v : Value} {xs : List Value} (h : w.ownsRow base e size v n xs) {b : Nat} {C : Array Value} {T : TypeId} {fr : Nat × Nat} (hb : w.heap[b]? = some (.cells C T fr)) (hT : T ≠ e) : some b ≠ v.ownBlock := fun hbv => by
  rcases h.2 with ⟨rfl, _⟩ | ⟨g, cap, cur, rfl, hg, hh, r⟩
  · simp [Value.ownBlock] at hbv
  · simp only [Value.ownBlock, Option.some.injEq] at hbv
    subst hbv
    rw [hh] at hb
    injection hb with hb
    injection hb with _ h2 _
    exact hT h2.symm
theorem grow_blk {W w1 : World} {b : Nat} {v : Value} {o : Obj} (h : W.heap[b]? = some o) (hg : W.grownBy w1 v.ownBlock) (hne : some b ≠ v.ownBlock) : w1.heap[b]? = some o :=
  (hg.block b (Array.getElem?_eq_some_iff.1 h).1 hne).trans h
theorem alloc_blk {W : World} {b : Nat} {o : Obj} (h : W.heap[b]? = some o) (o' : Obj) : (W.alloc o').heap[b]? = some o := by
  rw [Below.heap_alloc W o' b (Array.getElem?_eq_some_iff.1 h).1]; exact h
theorem blk_range {W : World} {b : Nat} {cs : List Value} {T : TypeId} {fr : Nat × Nat} (h : W.heap[b]? = some (.cells cs.toArray T fr)) : W.rangeAt b 0 cs := fun j v hv => by
  rw [cell_of_row W b (0 + j) cs.toArray T fr h]; simpa using hv
section
variable {P : Program} {a : Act} {w : World} {o : Oper}
theorem ex_append {s x : Operand} {t e : TypeId} {size bytes : Nat} {z : Value} (ho : o.op = .call { callee := .builtin .append, args := #[s, x], argTypes := #[t, t] }) (E : ElT P t e size bytes z)
    {base n : Nat} {v : Value} {xs : List Value} (hs : a.eval s = v) (hown : w.ownsRow base e size v n xs) {A : Option Addr} {m c : Nat} {news : List Value} (hx : a.eval x = .slice A m c) (hA : A = none → m = 0 ∧ c = 0) (hl : news.length = m * size) (hr : Rd w A news)
    (h1 : ∀ u ∈ news, u.oneCell' = true) (hb : (n + m) * bytes ≤ 140737488355328) (hbase : base ≤ w.heap.size) :
    ∃ v' w', (execOp a.eval o).run P w = .ok (.value v') w' ∧ w'.ownsRow base e size v' (n + m) (xs ++ news) ∧ w.grownBy w' v.ownBlock := by
  obtain ⟨i, hi, hz, hsz, hby⟩ := info_parts E.hi
  have hnm : n + m ≤ maxLen := by
    have : n + m ≤ (n + m) * bytes := Nat.le_mul_of_pos_right _ E.hb
    unfold maxLen
    omega
  cases A with
  | none =>
    obtain ⟨rfl, rfl⟩ := hA rfl
    have hn0 : news = [] := List.eq_nil_of_length_eq_zero (by simpa using hl)
    subst hn0
    have hrun := run_append_owned_none (P := P) w base t o.type e i size E.ht hi v n xs hown
    refine ⟨v, w, ?_, by simpa using hown, World.grownBy.refl _ _⟩
    unfold execOp
    simp only [ho, resolve, invoke, builtin, Sem.run_bind, Sem.run_pure, Result.andThen_ok, List.map_toArray, List.map_cons, List.map_nil, hs, hx, hrun]
  | some ad =>
    have hnews : ∀ j u, news[j]? = some u → w.cell? (ad.add j) = some u := fun j u hu => by
      obtain ⟨b, o', e, hc⟩ := hr j u hu
      obtain rfl := Option.some.inj e
      rw [Addr.add_mid]
      exact hc
    obtain ⟨v', w', hrun, h2, h3, _⟩ := run_append_own (P := P) w base t o.type e i z size bytes E.ht hi hz hsz hby E.hz E.h0 v n xs hown ad m c news hl hnews h1 hnm hb hbase
    refine ⟨v', w', ?_, h2, h3⟩
    unfold execOp
    simp only [ho, resolve, invoke, builtin, Sem.run_bind, Sem.run_pure, Result.andThen_ok, List.map_toArray, List.map_cons, List.map_nil, hs, hx, hrun]
/-- the address of a field -/
theorem ex_field {T : TypeId} {x : Operand} {i : Nat} (ho : o.op = .fieldAddr T x i) {b off : Nat} (hx : a.eval x = .pointer (some ⟨b, off, none⟩)) {fs : Array Field} (hT : P.underlying T = some (.struct fs)) {f : Field} (hf : fs[i]? = some f) {s : Nat} (hs : (P.info? f.type).map (·.size) = some (s + 1)) {k : Nat} (hk : off + f.offset = k) :
    (execOp a.eval o).run P w = .ok (.value (.pointer (some ⟨b, k, none⟩))) w := by
  obtain ⟨j, hj, hjs⟩ := Option.map_eq_some_iff.1 hs
  subst hk
  unfold execOp
  simp only [ho, hx]
  simp [Instr.fieldAt, run_underlying hT, hf, Instr.sureAddr, fieldPlace, sizeOf, typeInfo, hj, hjs, Addr.add_mid]
/-- a slice of all of an array -/
theorem ex_slice_array {T e n size : Nat} {x : Operand} (ho : o.op = .slice T x none none none) {b off : Nat} (hx : a.eval x = .pointer (some ⟨b, off, none⟩)) (hT : P.underlying T = some (.array n e)) (hs : (P.info? e).map (·.size) = some size) (hn : 0 < n) :
    (execOp a.eval o).run P w = .ok (.value (.slice (some ⟨b, off, none⟩) n n)) w := by
  obtain ⟨j, hj, hjs⟩ := Option.map_eq_some_iff.1 hs
  unfold execOp
  simp only [ho, hx, Option.map_none]
  simp [Instr.sliceAt, run_underlying hT, Instr.sureAddr, Instr.sliceBounds, sizeOf, typeInfo, hj, Addr.add_mid]
end
section
variable {P : Program} {ops : Array Oper} {rest : List Oper} {a : Act} {w : World} {Q : Exit → Act → World → Prop}
theorem wplAppend {o : Oper} (hg : o.guard = none) (s x : Operand) {t e : TypeId} {size bytes : Nat} {z : Value} (ho : o.op = .call { callee := .builtin .append, args := #[s, x], argTypes := #[t, t] }) (E : ElT P t e size bytes z)
    {base n : Nat} {v : Value} {xs : List Value} (hs : a.eval s = v) (hown : w.ownsRow base e size v n xs) {A : Option Addr} {m c : Nat} {news : List Value} (hx : a.eval x = .slice A m c) (hA : A = none → m = 0 ∧ c = 0) (hl : news.length = m * size) (hr : Rd w A news)
    (h1 : ∀ u ∈ news, u.oneCell' = true) (hb : (n + m) * bytes ≤ 140737488355328) (hbase : base ≤ w.heap.size)
    (h : ∀ v' w', w'.ownsRow base e size v' (n + m) (xs ++ news) → w.grownBy w' v.ownBlock → wpList P ops Q rest (a.put o.dst v') w') : wpList P ops Q (o :: rest) a w := by
  obtain ⟨v', w', hrun, h2, h3⟩ := ex_append ho E hs hown hx hA hl hr h1 hb hbase
  exact wpl_run hg hrun (h v' w' h2 h3)
theorem wplAllocZ {o : Oper} (hg : o.guard = none) {T : TypeId} (ho : o.op = .alloc T) {z : Array Value} {n : Nat} (hz : (P.info? T).map (fun i => (i.zero, i.size)) = some (some (.agg z), n))
    (h : wpList P ops Q rest (a.put o.dst (.pointer (some ⟨w.heap.size, 0, none⟩))) (w.alloc (.cells z T))) : wpList P ops Q (o :: rest) a w := by
  obtain ⟨hz1, _⟩ := zero_of_info hz
  refine wpl_run hg ?_ h
  unfold execOp
  simp only [ho, Instr.alloc, newVar, newRow, newObj, Sem.run_bind, hz1, Result.andThen_ok, Sem.run_pure]
  rfl
theorem wplStoreRow {o : Oper} (hg : o.guard = none) {T : TypeId} {p x : Operand} (ho : o.op = .store T p x) {g : Nat} {c : Array Value} {cs : List Value} (hp : a.eval p = .pointer (some ⟨g, 0, none⟩)) (hx : a.eval x = .agg cs.toArray) (hb : w.heap[g]? = some (.cells c T (0, 0)))
    (hi : (P.info? T).map (·.size) = some cs.length) (hc : c.size = cs.length) (h1 : ∀ v ∈ cs, v.oneCell' = true)
    (h : ∀ w', w'.heap[g]? = some (.cells cs.toArray T (0, 0)) → w'.heap.size = w.heap.size → (∀ k, k ≠ g → w'.heap[k]? = w.heap[k]?) → (∀ B w0, Below B w0 w → B ≤ g → Below B w0 w') → wpList P ops Q rest (a.put o.dst undef) w') : wpList P ops Q (o :: rest) a w := by
  refine wpList_plain hg fun K hK => ?_
  unfold Oper.wp execOp
  have hrun := run_storeVar_row (P := P) w g T T c cs.toArray hb (by simpa using hi) (by simpa using hc) (all_oneCell_toArray h1)
  simp only [ho, hp, hx, Instr.storeAt, Instr.sureAddr, Sem.run_bind, Sem.run_pure, Result.andThen_ok, hrun]
  exact hK _ _ (h _ (setRow_heap w g c _ T _ hb) (by simp) (fun k hk => setRow_other w g k _ hk) (fun B w0 hB hg => below_setRow hB hg _))
/-- one cell of a block of one's own -/
theorem wplStoreCell {o : Oper} (hg : o.guard = none) {T T' : TypeId} {p x : Operand} (ho : o.op = .store T p x) {g i : Nat} {c : Array Value} {v : Value} (hp : a.eval p = .pointer (some ⟨g, i, none⟩)) (hx : a.eval x = v) (hb : w.heap[g]? = some (.cells c T' (0, 0)))
    (hi : (P.info? T).map (·.size) = some 1) (hc : i < c.size) (h1 : v.oneCell' = true)
    (h : ∀ w', w'.heap[g]? = some (.cells (c.setIfInBounds i v) T' (0, 0)) → w'.heap.size = w.heap.size → (∀ k, k ≠ g → w'.heap[k]? = w.heap[k]?) → (∀ B w0, Below B w0 w → B ≤ g → Below B w0 w') → wpList P ops Q rest (a.put o.dst undef) w') : wpList P ops Q (o :: rest) a w := by
  refine wpList_plain hg fun K hK => ?_
  obtain ⟨j, hj, hjs⟩ := Option.map_eq_some_iff.1 hi
  obtain ⟨hcell, hfz⟩ := blk_cells hb
  have hone : v.cells = #[v] := by cases v <;> first | rfl | simp [Value.oneCell'] at h1
  have hst : (store (⟨g, i, none⟩ : Addr) v).run P w = .ok () (w.setCell ⟨g, i, none⟩ v) := by
    have hcl : w.cell? ⟨g, i, none⟩ = some c[i] := by rw [hcell]; simp [hc]
    cases v <;> first | (simp [Value.oneCell'] at h1; done) | simp [store, Sem.run, hcl, hfz]
  have hrun : (storeVar T ⟨g, i, none⟩ v).run P w = .ok () (w.setCell ⟨g, i, none⟩ v) := by
    simp [storeVar, hone, sizeOf, typeInfo, hj, hjs, storeCells, Addr.add, hst]
  unfold Oper.wp execOp
  simp only [ho, hp, hx, Instr.storeAt, Instr.sureAddr, Sem.run_bind, Sem.run_pure, Result.andThen_ok, hrun]
  exact hK _ _ (h _ (heap_setCell_same w g i c T' v hb) (by simp) (fun k hk => heap_setCell_other w _ k v hk) (fun B w0 hB hg => hB.setCell hg v))
end
theorem ret_row {P : Program} {fn : Func} {R : Ending → World → Prop} {a : Act} {w : World} {p : Tmp} {ty T : TypeId} (hf : fn.results = #[.cell p ty]) {g : Nat} {cs : List Value} (hp : a.tmps.getD p undef = .pointer (some ⟨g, 0, none⟩)) (hb : w.heap[g]? = some (.cells cs.toArray T (0, 0)))
    {d : TypeDesc} (hu : P.underlying ty = some d) (hd : d.isRow = true) (hi : (P.info? ty).map (·.size) = some cs.length) (hds : a.defers = []) (hR : R (.returned (.agg cs.toArray)) w) : bodyPost P fn R .ret a w :=
  bodyPost_ret (results_cell_row hf a.tmps w g T cs.toArray (0, 0) d hp hb hu (by cases d <;> simp_all) (by simpa using hi)) hds hR
section
variable {P : Program} {Q : Exit → Act → World → Prop} {md : Region.Mode} {S : World → Prop} {fuel : Nat} {listed : Array Bool} {a : Act} {w : World}
theorem heldAppend (i : Nat) {l : List Oper} {o : Oper} (hi : l[i]? = some o) (hr : Region.ready md l.toArray listed = [i]) (hg : o.guard = none) (s x : Operand) {t e : TypeId} {size bytes : Nat} {z : Value} (ho : o.op = .call { callee := .builtin .append, args := #[s, x], argTypes := #[t, t] }) (E : ElT P t e size bytes z)
    {base n : Nat} {v : Value} {xs : List Value} (hs : a.eval s = v) (hown : w.ownsRow base e size v n xs) {A : Option Addr} {m c : Nat} {news : List Value} (hx : a.eval x = .slice A m c) (hA : A = none → m = 0 ∧ c = 0) (hl : news.length = m * size) (hrd : Rd w A news)
    (h1 : ∀ u ∈ news, u.oneCell' = true) (hb : (n + m) * bytes ≤ 140737488355328) (hbase : base ≤ w.heap.size) (hS : ∀ w', w.grownBy w' v.ownBlock → S w')
    (h : ∀ v' w', w'.ownsRow base e size v' (n + m) (xs ++ news) → w.grownBy w' v.ownBlock → wpAnyH P md l.toArray Q S fuel (listed.setIfInBounds i true) (a.put o.dst v') w') : wpAnyH P md l.toArray Q S (fuel + 1) listed a w := by
  obtain ⟨v', w', hrun, h2, h3⟩ := ex_append ho E hs hown hx hA hl hrd h1 hb hbase
  exact heldOne i hi hr hg hrun (hS w' h3) (h v' w' h2 h3)
end
end Go.Proofs.YtgfkbeipckbkiaaDoor
/- B4 -/
namespace Go.Proofs.YtgfkbeipckbkiaaDoor
set_option linter.unusedSimpArgs false
set_option linter.unusedVariables false
open Go.RowKit
section
variable {P : Program} {w : World}
theorem run_places : ∀ (l : List Field) (pl : List (Nat × Nat)), l.map (fun f => (f.offset, (P.info? f.type).map (·.size))) = pl.map (fun p => (p.1, some p.2)) →
    (l.mapM (m := Sem) fun f => do pure (f.offset, ← sizeOf f.type)).run P w = .ok pl w
  | [], pl, h => by
    cases pl with
    | nil => simp
    | cons p pl => simp at h
  | f :: l, pl, h => by
    cases pl with
    | nil => simp at h
    | cons p pl =>
      simp only [List.map_cons, List.cons.injEq, Prod.mk.injEq] at h
      obtain ⟨⟨h1, h2⟩, h3⟩ := h
      obtain ⟨i, hi, hs⟩ := Option.map_eq_some_iff.1 h2
      have ih := run_places l pl h3
      have e : (sizeOf f.type).run P w = .ok p.2 w := by simp [sizeOf, typeInfo, hi, hs]
      simp only [List.mapM_cons, Sem.run_bind, e, Result.andThen_ok, Sem.run_pure, ih, h1]
theorem run_build_struct {t : TypeId} {fl : List Field} (hu : P.underlying t = some (.struct fl.toArray)) {z : Array Value} {n : Nat} (hz : (P.info? t).map (fun i => (i.zero, i.size)) = some (some (.agg z), n))
    {pl : List (Nat × Nat)} (hp : fl.map (fun f => (f.offset, (P.info? f.type).map (·.size))) = pl.map (fun p => (p.1, some p.2))) {ps : List (Nat × Value)} {cells : Array Value} (hf : Instr.fill (fun i => pl.toArray[i]?) z ps = some cells) :
    (Instr.build t ps.toArray).run P w = .ok (.agg cells) w := by
  obtain ⟨hz1, _⟩ := zero_of_info hz
  have hpl := run_places (P := P) (w := w) fl pl hp
  simp only [Instr.build, Sem.run_bind, hz1, Result.andThen_ok, run_underlying hu, Value.cells]
  rw [List.mapM_toArray]
  simp only [map_eq_pure_bind, Sem.run_bind] at hpl ⊢
  simp only [hpl, Result.andThen_ok, Sem.run_pure]
  simp only [hf, Sem.run_pure]
theorem run_build_array {t e m s : Nat} (hu : P.underlying t = some (.array m e)) {z : Array Value} {n : Nat} (hz : (P.info? t).map (fun i => (i.zero, i.size)) = some (some (.agg z), n)) (hs : (P.info? e).map (·.size) = some s)
    {ps : List (Nat × Value)} {cells : Array Value} (hf : Instr.fill (fun i => some (i * s, s)) z ps = some cells) : (Instr.build t ps.toArray).run P w = .ok (.agg cells) w := by
  obtain ⟨hz1, _⟩ := zero_of_info hz
  obtain ⟨i, hi, rfl⟩ := Option.map_eq_some_iff.1 hs
  simp only [Instr.build, Sem.run_bind, hz1, Result.andThen_ok, run_underlying hu, Value.cells, sizeOf, typeInfo]
  simp [hi, hf]
end
/-! ### what is filled -/
theorem fill_Item0 (k : Int) (x : Item) (rest : List (Nat × Value)) : Instr.fill (fun i => ([(0, 1), (1, 32), (33, 64)] : List (Nat × Nat)).toArray[i]?) x.cells.toArray ((0, .int .i64 k) :: rest) = Instr.fill (fun i => ([(0, 1), (1, 32), (33, 64)] : List (Nat × Nat)).toArray[i]?) (Item.cells ⟨k, x.digest, x.leaf⟩).toArray rest := by
  rw [fill_one _ _ 0 (.int .i64 k) rest 0 1 (by rfl) (by rfl) (by simp [Item.cells_length])]
  congr 1
theorem fill_Item1 (d : B32) (x : Item) (rest : List (Nat × Value)) : Instr.fill (fun i => ([(0, 1), (1, 32), (33, 64)] : List (Nat × Nat)).toArray[i]?) x.cells.toArray ((1, .agg d.cells.toArray) :: rest) = Instr.fill (fun i => ([(0, 1), (1, 32), (33, 64)] : List (Nat × Nat)).toArray[i]?) (Item.cells ⟨x.kind, d, x.leaf⟩).toArray rest := by
  rw [fill_one _ _ 1 (.agg d.cells.toArray) rest 1 32 (by rfl) (by simp [Value.cells, B32.cells_length]) (by simp [Item.cells_length])]
  congr 1
  simp [Item.cells, Value.cells, B32.cells_length]
theorem fill_Item2 (d : Leaf) (x : Item) (rest : List (Nat × Value)) : Instr.fill (fun i => ([(0, 1), (1, 32), (33, 64)] : List (Nat × Nat)).toArray[i]?) x.cells.toArray ((2, .agg d.cells.toArray) :: rest) = Instr.fill (fun i => ([(0, 1), (1, 32), (33, 64)] : List (Nat × Nat)).toArray[i]?) (Item.cells ⟨x.kind, x.digest, d⟩).toArray rest := by
  rw [fill_one _ _ 2 (.agg d.cells.toArray) rest 33 64 (by rfl) (by simp [Value.cells, Leaf.cells_length]) (by simp [Item.cells_length])]
  congr 1
  simp [Item.cells, Value.cells, B32.cells_length, Leaf.cells_length, List.take_append, List.drop_append]
theorem fill_Leaf0 (d : B32) (x : Leaf) (rest : List (Nat × Value)) : Instr.fill (fun i => ([(0, 32), (32, 32)] : List (Nat × Nat)).toArray[i]?) x.cells.toArray ((0, .agg d.cells.toArray) :: rest) = Instr.fill (fun i => ([(0, 32), (32, 32)] : List (Nat × Nat)).toArray[i]?) (Leaf.cells ⟨d, x.value⟩).toArray rest := by
  rw [fill_one _ _ 0 (.agg d.cells.toArray) rest 0 32 (by rfl) (by simp [Value.cells, B32.cells_length]) (by simp [Leaf.cells_length])]
  congr 1
  simp [Leaf.cells, Value.cells, B32.cells_length]
theorem fill_Leaf1 (d : B32) (x : Leaf) (rest : List (Nat × Value)) : Instr.fill (fun i => ([(0, 32), (32, 32)] : List (Nat × Nat)).toArray[i]?) x.cells.toArray ((1, .agg d.cells.toArray) :: rest) = Instr.fill (fun i => ([(0, 32), (32, 32)] : List (Nat × Nat)).toArray[i]?) (Leaf.cells ⟨x.key, d⟩).toArray rest := by
  rw [fill_one _ _ 1 (.agg d.cells.toArray) rest 32 32 (by rfl) (by simp [Value.cells, B32.cells_length]) (by simp [Leaf.cells_length])]
  congr 1
  simp [Leaf.cells, Value.cells, B32.cells_length]
theorem fill_B32 (i : Nat) (b : UInt8) (l : List UInt8) (hi : i < l.length) (rest : List (Nat × Value)) : Instr.fill (fun i => some (i * 1, 1)) (bc l).toArray ((i, .int .u8 b.toNat) :: rest) = Instr.fill (fun i => some (i * 1, 1)) (bc (l.set i b)).toArray rest := by
  rw [fill_one _ _ i (.int .u8 b.toNat) rest i 1 (by simp) (by rfl) (by simp [bc_length]; omega)]
  congr 1
  simp only [Value.cells, bc, List.map_set]
  rw [List.set_eq_take_append_cons_drop]
  simp [hi]
theorem fill_rows {α : Type} {n : Nat} {f : α → List Value} (hf : ∀ x, (f x).length = n) : ∀ (l : List α) (k : Nat) (pre Z : List Value), pre.length = k * n → Z.length = l.length * n →
    Instr.fill (fun i => some (i * n, n)) (pre ++ Z).toArray ((l.zipIdx k).map fun x => (x.2, .agg (f x.1).toArray)) = some (pre ++ l.flatMap f).toArray
  | [], k, pre, Z, hp, hZ => by
    have : Z = [] := List.eq_nil_of_length_eq_zero (by simpa using hZ)
    subst this
    simp [Instr.fill]
  | x :: l, k, pre, Z, hp, hZ => by
    rw [List.zipIdx_cons, List.map_cons, fill_one _ _ k _ _ (k * n) n rfl (by simp [Value.cells, hf]) (by simp [hp, hZ, Nat.succ_mul])]
    have e1 : List.take (k * n) (pre ++ Z).toArray.toList = pre := by simp [← hp]
    have e2 : List.drop (k * n + n) (pre ++ Z).toArray.toList = Z.drop n := by simp [← hp]
    have ih := fill_rows hf l (k + 1) (pre ++ f x) (Z.drop n) (by simp [hp, hf, Nat.succ_mul]) (by simp [hZ, Nat.succ_mul])
    rw [e1, e2]
    simp only [Value.cells, List.flatMap_cons]
    rw [← List.append_assoc]
    exact ih
section
variable {P : Program} {ops : Array Oper} {rest : List Oper} {a : Act} {w : World} {Q : Exit → Act → World → Prop}
/-- a slice literal of structs -/
theorem wplBuildRows {o : Oper} (hg : o.guard = none) {t e : TypeId} {m n bytes : Nat} {z : Value} (E : ElT P t e n bytes z) {parts : List (Nat × Operand)} (ho : o.op = .buildSlice t m parts.toArray) {α : Type} {f : α → List Value} (hf : ∀ x, (f x).length = n) (l : List α) (hl : l.length = m) (h0 : 0 < m) (hm : m * n ≤ 16777216)
    (hp : (parts.map fun p => (p.1, a.eval p.2)) = (l.zipIdx 0).map fun x => (x.2, .agg (f x.1).toArray)) (h : wpList P ops Q rest (a.put o.dst (.slice (some ⟨w.heap.size, 0, none⟩) m m)) (w.alloc (.cells (l.flatMap f).toArray e))) : wpList P ops Q (o :: rest) a w := by
  obtain ⟨i, hi, hz, hsz, hby⟩ := info_parts E.hi
  subst hl
  refine wpList_buildSlice hg t e l.length parts.toArray ho _ i z E.ht hi hz (by rw [hsz]; omega) (by rw [hsz]; have := E.h0; have := Nat.mul_pos h0 this; omega) ?_ h
  have e1 : (parts.toArray.map fun (x : Nat × Operand) => match x with | (i, x) => (i, a.eval x)).toList = (l.zipIdx 0).map fun x => (x.2, .agg (f x.1).toArray) := by
    rw [← hp]; simp
  rw [e1, hsz]
  have := fill_rows hf l 0 [] ((Array.range (l.length * n)).map (z.cells[· % z.cells.size]!)).toList (by simp) (by simp)
  rw [List.nil_append, Array.toArray_toList, List.nil_append] at this
  exact this
theorem ex_store_mid {o : Oper} {T T' : TypeId} {p x : Operand} (ho : o.op = .store T p x) {g off : Nat} {c : Array Value} {cs : List Value} (hp : a.eval p = .pointer (some ⟨g, off, none⟩)) (hx : a.eval x = .agg cs.toArray) (hb : w.heap[g]? = some (.cells c T' (0, 0)))
    (hi : (P.info? T).map (·.size) = some cs.length) (hc : off + cs.length ≤ c.size) (h1 : ∀ v ∈ cs, v.oneCell' = true) :
    (execOp a.eval o).run P w = .ok .skip (w.setRow g (c.toList.take off ++ cs ++ c.toList.drop (off + cs.length)).toArray) := by
  obtain ⟨j, hj, hjs⟩ := Option.map_eq_some_iff.1 hi
  have hst := run_storeCells_at P g off T' cs 0 c w hb (by simpa using hc) h1
  have hrun : (storeVar T ⟨g, off, none⟩ (.agg cs.toArray)).run P w = .ok () (w.setRow g (c.toList.take off ++ cs ++ c.toList.drop (off + cs.length)).toArray) := by
    simp only [Nat.add_zero] at hst
    simp [storeVar, Value.cells, sizeOf, typeInfo, hj, hjs, hst]
  unfold execOp
  simp only [ho, hp, hx, Instr.storeAt, Instr.sureAddr, Sem.run_bind, Sem.run_pure, Result.andThen_ok, hrun]
theorem wplStoreMid {o : Oper} (hg : o.guard = none) {T T' : TypeId} {p x : Operand} (ho : o.op = .store T p x) {g off : Nat} {c : Array Value} {cs : List Value} (hp : a.eval p = .pointer (some ⟨g, off, none⟩)) (hx : a.eval x = .agg cs.toArray) (hb : w.heap[g]? = some (.cells c T' (0, 0)))
    (hi : (P.info? T).map (·.size) = some cs.length) (hc : off + cs.length ≤ c.size) (h1 : ∀ v ∈ cs, v.oneCell' = true)
    (h : ∀ w', w'.heap[g]? = some (.cells (c.toList.take off ++ cs ++ c.toList.drop (off + cs.length)).toArray T' (0, 0)) → w'.heap.size = w.heap.size → (∀ k, k ≠ g → w'.heap[k]? = w.heap[k]?) → (∀ B w0, Below B w0 w → B ≤ g → Below B w0 w') → wpList P ops Q rest (a.put o.dst undef) w') : wpList P ops Q (o :: rest) a w := by
  refine wpList_plain hg fun K hK => ?_
  unfold Oper.wp
  rw [ex_store_mid ho hp hx hb hi hc h1]
  exact hK _ _ (h _ (setRow_heap w g c _ T' _ hb) (by simp) (fun k hk => setRow_other w g k _ hk) (fun B w0 hB hg => below_setRow hB hg _))
theorem ex_arrayAt {o : Oper} {T e n : Nat} {x : Operand} (ho : o.op = .sliceToArrayPointer T x) (hT : P.underlying T = some (.array n e)) {A : Option Addr} {m c : Nat} (hx : a.eval x = .slice A m c) (hn : n ≤ m) : (execOp a.eval o).run P w = .ok (.value (.pointer A)) w := by
  unfold execOp
  simp only [ho, hx, Sem.run_bind, run_arrayAt w T e n A m c hT hn, Result.andThen_ok, Sem.run_pure]
end
theorem Item.set1 (x : Item) (d : B32) : (x.cells.toArray.toList.take 1 ++ d.cells ++ x.cells.toArray.toList.drop (1 + d.cells.length)).toArray = (Item.cells ⟨x.kind, d, x.leaf⟩).toArray := by
  simp [Item.cells, B32.cells_length]
theorem Item.set2 (x : Item) (d : Leaf) : (x.cells.toArray.toList.take 33 ++ d.cells ++ x.cells.toArray.toList.drop (33 + d.cells.length)).toArray = (Item.cells ⟨x.kind, x.digest, d⟩).toArray := by
  simp [Item.cells, B32.cells_length, Leaf.cells_length, List.take_append, List.drop_append]
end Go.Proofs.YtgfkbeipckbkiaaDoor
