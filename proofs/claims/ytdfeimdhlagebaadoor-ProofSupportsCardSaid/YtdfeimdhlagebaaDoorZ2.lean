/- Single operations over what is known of the world; The program's structs: their cells, and what stands where. Printed by gens.py; Builds, comparisons, appends, made slices, results: over what is known of the world; Regions that draw their order, over what is known of the world; single pure operations; Slices that are built of parts, that grow, that are read: over what is known of the world (joined texts: S2 V1 S3 S4 S5) -/
import Derived.Test.YtdfeimdhlagebaaDoorZ1
import Derived.Laws.MakeOwn
import Derived.IntWalk
set_option linter.all false
/- S2 -/
namespace Go.Proofs.YtdfeimdhlagebaaDoor
set_option linter.unusedSimpArgs false
set_option linter.unusedVariables false
open Go.RowKit

class TRow (P : Program) (T : TypeId) (n : outParam Nat) : Prop where
  und : ∃ d, P.underlying T = some d ∧ d.isRow = true
  size : (P.info? T).map (·.size) = some n
class TOne (P : Program) (T : TypeId) : Prop where
  und : ∃ d, P.underlying T = some d ∧ d.isRow = false
  size : (P.info? T).map (·.size) = some 1
class TZ (P : Program) (T : TypeId) (cs : outParam (List Value)) : Prop where
  zero : ∃ z, (P.info? T).map (fun i => (i.zero, i.size)) = some (some z, z.cells.size) ∧ z.cells = cs.toArray
class TS (P : Program) (T : TypeId) (e size bytes : outParam Nat) (z : outParam Value) : Prop where
  el : ElT P T e size bytes z
/-- so many cells, each one by itself -/
class Row (cs : List Value) (n : outParam Nat) : Prop where
  len : cs.length = n
  one : ∀ v ∈ cs, v.oneCell' = true
class CellAt (cs : List Value) (off : Nat) (v : outParam Value) : Prop where
  at_ : cs[off]? = some v
class RowAt (cs : List Value) (off n : Nat) (out : outParam (List Value)) : Prop where
  at_ : ∀ j v, out[j]? = some v → cs[off + j]? = some v
  len : out.length = n
class SetAt (cs : List Value) (off : Nat) (new : List Value) (out : outParam (List Value)) : Prop where
  eq : out = cs.take off ++ new ++ cs.drop (off + new.length)
  fit : off + new.length ≤ cs.length

instance (v : Value) (l : List Value) : CellAt (v :: l) 0 v := ⟨rfl⟩
instance (u v : Value) (l : List Value) (n : Nat) [h : CellAt l n v] : CellAt (u :: l) (n + 1) v := ⟨h.at_⟩
theorem RowAt.whole {cs : List Value} {n : Nat} (h : cs.length = n) : RowAt cs 0 n cs := ⟨fun j v hv => by rw [Nat.zero_add]; exact hv, h⟩
theorem SetAt.whole {cs new : List Value} (h : cs.length = new.length) : SetAt cs 0 new new :=
  ⟨by rw [Nat.zero_add, ← h, List.drop_length, List.append_nil, List.take_zero, List.nil_append], by omega⟩
instance (b : B32) : Row b.cells 32 := ⟨B32.cells_length b, B32.cells_one b⟩
instance (b : B32) : RowAt b.cells 0 32 b.cells := .whole (B32.cells_length b)
instance (b c : B32) : SetAt b.cells 0 c.cells c.cells := .whole (by rw [B32.cells_length, B32.cells_length])
instance (u v : Value) (l : List Value) : SetAt (u :: l) 0 [v] (v :: l) := ⟨by simp, by simp⟩
instance (u v : Value) (l out : List Value) (n : Nat) [h : SetAt l n [v] out] : SetAt (u :: l) (n + 1) [v] (u :: out) := ⟨by rw [h.eq]; simp [Nat.add_right_comm], by have := h.fit; simp at this ⊢; omega⟩

/-! facts that are found by their block -/
class HasB (g : Nat) (L : List Fc) (cs : outParam (List Value)) (T : outParam TypeId) : Prop where
  mem : Fc.blk g cs T ∈ L
instance (priority := 100) (g : Nat) (f : Fc) (L : List Fc) (cs : List Value) (T : TypeId) [h : HasB g L cs T] : HasB g (f :: L) cs T := ⟨List.mem_cons_of_mem _ h.mem⟩
instance (g : Nat) (L : List Fc) (cs : List Value) (T : TypeId) : HasB g (.blk g cs T :: L) cs T := ⟨List.mem_cons_self ..⟩
class HasR (b O : Nat) (L : List Fc) (o off : outParam Nat) (cs : outParam (List Value)) : Prop where
  mem : Fc.rd (some ⟨b, o, none⟩) cs ∈ L
  off : O = o + off
instance (priority := 100) (b O : Nat) (f : Fc) (L : List Fc) (o off : Nat) (cs : List Value) [h : HasR b O L o off cs] : HasR b O (f :: L) o off cs := ⟨List.mem_cons_of_mem _ h.mem, h.off⟩
instance (b o off : Nat) (L : List Fc) (cs : List Value) : HasR b (o + off) (.rd (some ⟨b, o, none⟩) cs :: L) o off cs := ⟨List.mem_cons_self .., rfl⟩
instance (b o : Nat) (L : List Fc) (cs : List Value) : HasR b o (.rd (some ⟨b, o, none⟩) cs :: L) o 0 cs := ⟨List.mem_cons_self .., rfl⟩
/-- a slice: its cells -/
class HasA (A : Option Addr) (L : List Fc) (cs : outParam (List Value)) : Prop where
  mem : Fc.rd A cs ∈ L
instance (priority := 100) (A : Option Addr) (f : Fc) (L : List Fc) (cs : List Value) [h : HasA A L cs] : HasA A (f :: L) cs := ⟨List.mem_cons_of_mem _ h.mem⟩
instance (A : Option Addr) (L : List Fc) (cs : List Value) : HasA A (.rd A cs :: L) cs := ⟨List.mem_cons_self ..⟩
/-- a row of one's own -/
class HasO (v : Value) (L : List Fc) (n : outParam Nat) (e : outParam TypeId) (size : outParam Nat) (xs : outParam (List Value)) : Prop where
  mem : Fc.own v n e size xs ∈ L
instance (priority := 100) (v : Value) (f : Fc) (L : List Fc) (n e size : Nat) (xs : List Value) [h : HasO v L n e size xs] : HasO v (f :: L) n e size xs := ⟨List.mem_cons_of_mem _ h.mem⟩
instance (v : Value) (L : List Fc) (n e size : Nat) (xs : List Value) : HasO v (.own v n e size xs :: L) n e size xs := ⟨List.mem_cons_self ..⟩
class RepB (g : Nat) (cs cs' : List Value) (T : TypeId) (L : List Fc) (L' : outParam (List Fc)) : Prop where
  rep : Repl (.blk g cs T) (.blk g cs' T) L L'
instance (priority := 100) (g : Nat) (cs cs' : List Value) (T : TypeId) (f : Fc) (L L' : List Fc) [h : RepB g cs cs' T L L'] : RepB g cs cs' T (f :: L) (f :: L') := ⟨.tail h.rep⟩
instance (g : Nat) (cs cs' : List Value) (T : TypeId) (L : List Fc) : RepB g cs cs' T (.blk g cs T :: L) (.blk g cs' T :: L) := ⟨.head⟩
class RepO (v v' : Value) (n n' : Nat) (e : TypeId) (size : Nat) (xs xs' : List Value) (L : List Fc) (L' : outParam (List Fc)) : Prop where
  rep : Repl (.own v n e size xs) (.own v' n' e size xs') L L'
instance (priority := 100) (v v' : Value) (n n' : Nat) (e : TypeId) (size : Nat) (xs xs' : List Value) (f : Fc) (L L' : List Fc) [h : RepO v v' n n' e size xs xs' L L'] : RepO v v' n n' e size xs xs' (f :: L) (f :: L') := ⟨.tail h.rep⟩
instance (v v' : Value) (n n' : Nat) (e : TypeId) (size : Nat) (xs xs' : List Value) (L : List Fc) : RepO v v' n n' e size xs xs' (.own v n e size xs :: L) (.own v' n' e size xs' :: L) := ⟨.head⟩

section
variable {P : Program} {X : List Nat} {w0 w : World} {L : List Fc} {a : Act} {o : Oper}
theorem St.blk (h : St X w0 w L) {g : Nat} {cs : List Value} {T : TypeId} (hm : Fc.blk g cs T ∈ L) : w.heap[g]? = some (.cells cs.toArray T (0, 0)) := h.ok _ hm
theorem St.rd (h : St X w0 w L) {A : Option Addr} {cs : List Value} (hm : Fc.rd A cs ∈ L) : Rd w A cs := h.ok _ hm
theorem St.own (h : St X w0 w L) {v : Value} {n : Nat} {e : TypeId} {size : Nat} {xs : List Value} (hm : Fc.own v n e size xs ∈ L) : w.ownsRow w0.heap.size e size v n xs := h.ok _ hm
theorem ex_row {T T' : TypeId} {n : Nat} {x : Operand} [hT : TRow P T n] {g off : Nat} {cs out : List Value} [hr : RowAt cs off n out] (ho : o.op = .load T x) (hx : a.eval x = .pointer (some ⟨g, off, none⟩)) (hb : w.heap[g]? = some (.cells cs.toArray T' (0, 0))) :
    (execOp a.eval o).run P w = .ok (.value (.agg out.toArray)) w := by
  obtain ⟨d, hu, hd⟩ := hT.und
  refine ex_load_row ho hx (cs := out) (fun j v hv => ?_) hu hd (by rw [hr.len]; exact hT.size)
  rw [cell_of_row w g (off + j) cs.toArray T' (0, 0) hb]
  simpa using hr.at_ j v hv
theorem ex_cell {T T' : TypeId} {x : Operand} [hT : TOne P T] {g off : Nat} {cs : List Value} {v : Value} [hr : CellAt cs off v] (ho : o.op = .load T x) (hx : a.eval x = .pointer (some ⟨g, off, none⟩)) (hb : w.heap[g]? = some (.cells cs.toArray T' (0, 0))) :
    (execOp a.eval o).run P w = .ok (.value v) w := by
  obtain ⟨d, hu, hd⟩ := hT.und
  refine ex_load_cell ho hx ?_ hu hd
  rw [cell_of_row w g off cs.toArray T' (0, 0) hb]
  simpa using hr.at_
theorem ex_rowR {T : TypeId} {n : Nat} {x : Operand} [hT : TRow P T n] {b o1 off : Nat} {cs out : List Value} [hr : RowAt cs off n out] (ho : o.op = .load T x) (hx : a.eval x = .pointer (some ⟨b, o1 + off, none⟩)) (hb : Rd w (some ⟨b, o1, none⟩) cs) :
    (execOp a.eval o).run P w = .ok (.value (.agg out.toArray)) w := by
  obtain ⟨d, hu, hd⟩ := hT.und
  refine ex_load_row ho hx (cs := out) (fun j v hv => ?_) hu hd (by rw [hr.len]; exact hT.size)
  have := hb.range _ v (hr.at_ j v hv)
  rwa [← Nat.add_assoc] at this
theorem ex_cellR {T : TypeId} {x : Operand} [hT : TOne P T] {b o1 off : Nat} {cs : List Value} {v : Value} [hr : CellAt cs off v] (ho : o.op = .load T x) (hx : a.eval x = .pointer (some ⟨b, o1 + off, none⟩)) (hb : Rd w (some ⟨b, o1, none⟩) cs) :
    (execOp a.eval o).run P w = .ok (.value v) w := by
  obtain ⟨d, hu, hd⟩ := hT.und
  exact ex_load_cell ho hx (hb.range _ v hr.at_) hu hd
/-! the same, out of St -/
theorem xRow {T T' : TypeId} {n : Nat} {x : Operand} [TRow P T n] {g off : Nat} {cs out : List Value} (hS : St X w0 w L) (ho : o.op = .load T x) (hx : a.eval x = .pointer (some ⟨g, off, none⟩)) [hm : HasB g L cs T'] [RowAt cs off n out] :
    (execOp a.eval o).run P w = .ok (.value (.agg out.toArray)) w := ex_row ho hx (hS.blk hm.mem)
theorem xCell {T T' : TypeId} {x : Operand} [TOne P T] {g off : Nat} {cs : List Value} {v : Value} (hS : St X w0 w L) (ho : o.op = .load T x) (hx : a.eval x = .pointer (some ⟨g, off, none⟩)) [hm : HasB g L cs T'] [CellAt cs off v] :
    (execOp a.eval o).run P w = .ok (.value v) w := ex_cell ho hx (hS.blk hm.mem)
theorem xRowR {T : TypeId} {n : Nat} {x : Operand} [TRow P T n] {b O o1 off : Nat} {cs out : List Value} (hS : St X w0 w L) (ho : o.op = .load T x) (hx : a.eval x = .pointer (some ⟨b, O, none⟩)) [hm : HasR b O L o1 off cs] [RowAt cs off n out] :
    (execOp a.eval o).run P w = .ok (.value (.agg out.toArray)) w := ex_rowR ho (hm.off ▸ hx) (hS.rd hm.mem)
theorem xCellR {T : TypeId} {x : Operand} [TOne P T] {b O o1 off : Nat} {cs : List Value} {v : Value} (hS : St X w0 w L) (ho : o.op = .load T x) (hx : a.eval x = .pointer (some ⟨b, O, none⟩)) [hm : HasR b O L o1 off cs] [CellAt cs off v] :
    (execOp a.eval o).run P w = .ok (.value v) w := ex_cellR ho (hm.off ▸ hx) (hS.rd hm.mem)
/-- one cell of a row of cells that have one form -/
theorem xNth {T T' : TypeId} {x : Operand} [TOne P T] {g off : Nat} {cs : List Value} {v : Value} (hS : St X w0 w L) (ho : o.op = .load T x) (hx : a.eval x = .pointer (some ⟨g, off, none⟩)) [hm : HasB g L cs T'] (hc : cs[off]? = some v) :
    (execOp a.eval o).run P w = .ok (.value v) w := @ex_cell P w a o T T' x _ g off cs v ⟨hc⟩ ho hx (hS.blk hm.mem)
theorem xNthR {T : TypeId} {x : Operand} [TOne P T] {b o1 off O : Nat} {cs : List Value} {v : Value} (hS : St X w0 w L) (ho : o.op = .load T x) (hx : a.eval x = .pointer (some ⟨b, O, none⟩)) [hm : HasR b O L o1 off cs] (hc : cs[off]? = some v) :
    (execOp a.eval o).run P w = .ok (.value v) w := @ex_cellR P w a o T x _ b o1 off cs v ⟨hc⟩ ho (hm.off ▸ hx) (hS.rd hm.mem)
theorem xBox {T : TypeId} {x : Operand} {v : Value} {cs : List Value} (ho : o.op = .box T x) (hx : a.eval x = v) (hv : v.cells = cs.toArray) : (execOp a.eval o).run P w = .ok (.value (.pointer (some ⟨w.heap.size, 0, none⟩))) (w.alloc (.cells cs.toArray T)) := by
  unfold execOp
  simp only [ho, hx, Instr.box, newVar, newRow, newObj, Sem.run_bind, Sem.run_pure, hv]
  rfl
theorem xAlloc {T : TypeId} {cs : List Value} [hz : TZ P T cs] (ho : o.op = .alloc T) : (execOp a.eval o).run P w = .ok (.value (.pointer (some ⟨w.heap.size, 0, none⟩))) (w.alloc (.cells cs.toArray T)) := by
  obtain ⟨z, h1, h2⟩ := hz.zero
  rw [← h2]
  exact ex_alloc ho h1
end
section
variable {P : Program} {X : List Nat} {w0 w : World} {L L' : List Fc} {a : Act} {ops : Array Oper} {rest : List Oper} {Q : Exit → Act → World → Prop} {d : Option Tmp} {ty : TypeId} {pos : String} {af : Array Edge}
theorem sBox {T : TypeId} {x : Operand} {cs : List Value} (hS : St X w0 w L) (hx : a.eval x = .agg cs.toArray)
    (h : ∀ g w', St X w0 w' (.blk g cs T :: L) → wpList P ops Q rest (a.put d (.pointer (some ⟨g, 0, none⟩))) w') : wpList P ops Q (⟨d, .box T x, ty, pos, af, none⟩ :: rest) a w :=
  wpl_run rfl (xBox rfl hx rfl) (h _ _ (hS.alloc cs T))
theorem sBox1 {T : TypeId} {x : Operand} {v : Value} (hS : St X w0 w L) (hx : a.eval x = v) (hv : v.cells = #[v])
    (h : ∀ g w', St X w0 w' (.blk g [v] T :: L) → wpList P ops Q rest (a.put d (.pointer (some ⟨g, 0, none⟩))) w') : wpList P ops Q (⟨d, .box T x, ty, pos, af, none⟩ :: rest) a w :=
  wpl_run rfl (xBox (cs := [v]) rfl hx hv) (h _ _ (hS.alloc [v] T))
theorem sAlloc {T : TypeId} {cs : List Value} [TZ P T cs] (hS : St X w0 w L)
    (h : ∀ g w', St X w0 w' (.blk g cs T :: L) → wpList P ops Q rest (a.put d (.pointer (some ⟨g, 0, none⟩))) w') : wpList P ops Q (⟨d, .alloc T, ty, pos, af, none⟩ :: rest) a w :=
  wpl_run rfl (xAlloc rfl) (h _ _ (hS.alloc cs T))
theorem St.put (h : St X w0 w L) {w' : World} {g : Nat} {cs cs' : List Value} {T : TypeId} (hr : Repl (.blk g cs T) (.blk g cs' T) L L') (hb : w'.heap[g]? = some (.cells cs'.toArray T (0, 0))) (hbel : ∀ B w0, Below B w0 w → B ≤ g → Below B w0 w')
    (hsz : w'.heap.size = w.heap.size) (hk : ∀ k, k ≠ g → w'.heap[k]? = w.heap[k]?) : St X w0 w' L' := by
  have h0 := hbel 0 w (Below.refl _ _) (Nat.zero_le _)
  exact h.turn hr rfl (fun k hk => hk) hb h0.os h0.tape h0.output (by omega) fun k _ hne => hk k hne
/-- a value of many cells into a block of one's own, from its head on or in its midst -/
theorem sStore {T T' : TypeId} {n : Nat} {p x : Operand} [hT : TRow P T n] {g off : Nat} {cs new cs' : List Value} (hS : St X w0 w L) (hp : a.eval p = .pointer (some ⟨g, off, none⟩)) (hx : a.eval x = .agg new.toArray) [hm : HasB g L cs T'] [hn : Row new n] [hs : SetAt cs off new cs'] [hr : RepB g cs cs' T' L L']
    (h : ∀ w', St X w0 w' L' → wpList P ops Q rest (a.put d undef) w') : wpList P ops Q (⟨d, .store T p x, ty, pos, af, none⟩ :: rest) a w := by
  refine wplStoreMid rfl rfl hp hx (hS.blk hm.mem) (by rw [hn.len]; exact hT.size) (by simpa using hs.fit) hn.one ?_
  intro w' h1 h2 h3 h4
  refine h w' (hS.put hr.rep ?_ h4 h2 h3)
  rw [hs.eq]
  simpa using h1
theorem sStore1 {T T' : TypeId} {p x : Operand} [hT : TOne P T] {g off : Nat} {cs cs' : List Value} {v : Value} (hS : St X w0 w L) (hp : a.eval p = .pointer (some ⟨g, off, none⟩)) (hx : a.eval x = v) (hv : v.oneCell' = true) [hm : HasB g L cs T'] [hs : SetAt cs off [v] cs'] [hr : RepB g cs cs' T' L L']
    (h : ∀ w', St X w0 w' L' → wpList P ops Q rest (a.put d undef) w') : wpList P ops Q (⟨d, .store T p x, ty, pos, af, none⟩ :: rest) a w := by
  have hf := hs.fit
  simp only [List.length_singleton] at hf
  refine wplStoreCell rfl rfl hp hx (hS.blk hm.mem) hT.size (by simpa using Nat.lt_of_succ_le hf) hv ?_
  intro w' h1 h2 h3 h4
  refine h w' (hS.put hr.rep ?_ h4 h2 h3)
  rw [hs.eq]
  rw [List.setIfInBounds_toArray] at h1
  rw [h1, List.length_singleton, List.set_eq_take_append_cons_drop, if_pos (by omega)]
  simp
end
end Go.Proofs.YtdfeimdhlagebaaDoor
/- V1 -/
namespace Go.Proofs.YtdfeimdhlagebaaDoor
set_option linter.unusedSimpArgs false
set_option linter.unusedVariables false
open Go.RowKit
structure Sl where
  A : Option Addr
  n : Nat
  c : Nat
theorem RowAt.mk' {cs pre out post : List Value} {off n : Nat} (h : cs = pre ++ (out ++ post)) (hp : pre.length = off) (ho : out.length = n) : RowAt cs off n out := by
  subst h; subst hp
  refine ⟨fun j v hv => ?_, ho⟩
  rw [List.getElem?_append_right (by omega), Nat.add_sub_cancel_left, List.getElem?_append_left (by have := (List.getElem?_eq_some_iff.1 hv).1; exact this)]
  exact hv
theorem CellAt.mk' {cs pre post : List Value} {off : Nat} {v : Value} (h : cs = pre ++ (v :: post)) (hp : pre.length = off) : CellAt cs off v := by
  subst h; subst hp
  exact ⟨by simp⟩
theorem SetAt.mk' {cs pre old new post out : List Value} {off : Nat} (h : cs = pre ++ (old ++ post)) (h' : out = pre ++ (new ++ post)) (hp : pre.length = off) (hl : old.length = new.length) : SetAt cs off new out := by
  subst h; subst hp; subst h'
  refine ⟨?_, by simp [hl]⟩
  rw [List.take_left, ← hl, List.drop_append, List.drop_of_length_le (by omega), Nat.add_sub_cancel_left, List.drop_left]
  simp
/-- a value of one cell -/
class OneC (v : Value) : Prop where
  one : v.oneCell' = true
instance (t : TypeId) (v : Value) : OneC (.iface t v) := ⟨rfl⟩
instance : OneC .nilIface := ⟨rfl⟩
/-- the cells of one value -/
class VCells (v : Value) (cs : outParam (List Value)) : Prop where
  eq : v.cells = cs.toArray
instance (cs : List Value) : VCells (.agg cs.toArray) cs := ⟨rfl⟩
instance (k : IntKind) (n : Int) : VCells (.int k n) [.int k n] := ⟨rfl⟩
instance (b : Bool) : VCells (.bool b) [.bool b] := ⟨rfl⟩
instance (s : ByteArray) : VCells (.string s) [.string s] := ⟨rfl⟩
instance (p : Option Addr) : VCells (.pointer p) [.pointer p] := ⟨rfl⟩
instance (A : Option Addr) (n c : Nat) : VCells (.slice A n c) [.slice A n c] := ⟨rfl⟩
instance : VCells .nilIface [.nilIface] := ⟨rfl⟩
instance (t : TypeId) (v : Value) : VCells (.iface t v) [.iface t v] := ⟨rfl⟩
instance : VCells .nilFunc [.nilFunc] := ⟨rfl⟩
instance (f : Fn) (c d : Array Value) : VCells (.func f c d) [.func f c d] := ⟨rfl⟩
/-- part i of a struct or an array: where it stands, how many cells it has -/
class TF (P : Program) (T : TypeId) (i : Nat) (off n : outParam Nat) : Prop where
  off : ∃ d, P.underlying T = some d ∧ ((∃ fs f, d = .struct fs ∧ fs[i]? = some f ∧ f.offset = off ∧ (P.info? f.type).map (·.size) = some n) ∨ ∃ m e, d = .array m e ∧ (P.info? e).map (·.size) = some n ∧ off = i * n)
class Builds (P : Program) (T : TypeId) (cs : List Value) (ps : List (Nat × Value)) (out : outParam (List Value)) : Prop where
  eq : True

instance (x : Leaf) : Row x.cells 64 := ⟨Leaf.cells_length x, Leaf.cells_one x⟩
instance (x : Leaf) : RowAt x.cells 0 64 x.cells := .whole (Leaf.cells_length x)
instance (x y : Leaf) : SetAt x.cells 0 y.cells y.cells := .whole (by rw [Leaf.cells_length, Leaf.cells_length])
instance (x : Leaf) : RowAt x.cells 0 32 x.key.cells := .mk' (pre := []) (post := (x.value.cells)) (by simp [Leaf.cells]) (by rfl) (B32.cells_length _)
instance (x : Leaf) (y : B32) : SetAt x.cells 0 y.cells ({ x with key := y } : Leaf).cells := .mk' (pre := []) (old := x.key.cells) (post := (x.value.cells)) (by simp [Leaf.cells]) (by simp [Leaf.cells]) (by rfl) (by rw [B32.cells_length, B32.cells_length])
instance (x : Leaf) : RowAt x.cells 32 32 x.value.cells := .mk' (pre := (x.key.cells)) (post := []) (by simp [Leaf.cells]) (by simp [B32.cells_length, Leaf.cells_length, Item.cells_length]) (B32.cells_length _)
instance (x : Leaf) (y : B32) : SetAt x.cells 32 y.cells ({ x with value := y } : Leaf).cells := .mk' (pre := (x.key.cells)) (old := x.value.cells) (post := []) (by simp [Leaf.cells]) (by simp [Leaf.cells]) (by simp [B32.cells_length, Leaf.cells_length, Item.cells_length]) (by rw [B32.cells_length, B32.cells_length])
instance (x : Item) : Row x.cells 97 := ⟨Item.cells_length x, Item.cells_one x⟩
instance (x : Item) : RowAt x.cells 0 97 x.cells := .whole (Item.cells_length x)
instance (x y : Item) : SetAt x.cells 0 y.cells y.cells := .whole (by rw [Item.cells_length, Item.cells_length])
instance (x : Item) : CellAt x.cells 0 (.int .i64 x.kind) := .mk' (pre := []) (post := (x.digest.cells ++ x.leaf.cells)) (by simp [Leaf.cells, Item.cells]) (by rfl)
instance (x : Item) (y : Int) : SetAt x.cells 0 [.int .i64 y] ({ x with kind := y } : Item).cells := .mk' (pre := []) (old := [.int .i64 x.kind]) (post := (x.digest.cells ++ x.leaf.cells)) (by simp [Leaf.cells, Item.cells]) (by simp [Leaf.cells, Item.cells]) (by rfl) rfl
instance (x : Item) : RowAt x.cells 1 32 x.digest.cells := .mk' (pre := ([.int .i64 x.kind])) (post := (x.leaf.cells)) (by simp [Leaf.cells, Item.cells]) (by simp [B32.cells_length, Leaf.cells_length, Item.cells_length]) (B32.cells_length _)
instance (x : Item) (y : B32) : SetAt x.cells 1 y.cells ({ x with digest := y } : Item).cells := .mk' (pre := ([.int .i64 x.kind])) (old := x.digest.cells) (post := (x.leaf.cells)) (by simp [Leaf.cells, Item.cells]) (by simp [Leaf.cells, Item.cells]) (by simp [B32.cells_length, Leaf.cells_length, Item.cells_length]) (by rw [B32.cells_length, B32.cells_length])
instance (x : Item) : RowAt x.cells 33 64 x.leaf.cells := .mk' (pre := ([.int .i64 x.kind] ++ x.digest.cells)) (post := []) (by simp [Item.cells]) (by simp [B32.cells_length, Leaf.cells_length, Item.cells_length]) (Leaf.cells_length _)
instance (x : Item) (y : Leaf) : SetAt x.cells 33 y.cells ({ x with leaf := y } : Item).cells := .mk' (pre := ([.int .i64 x.kind] ++ x.digest.cells)) (old := x.leaf.cells) (post := []) (by simp [Item.cells]) (by simp [Item.cells]) (by simp [B32.cells_length, Leaf.cells_length, Item.cells_length]) (by rw [Leaf.cells_length, Leaf.cells_length])
instance (x : Item) : RowAt x.cells 33 32 x.leaf.key.cells := .mk' (pre := ([.int .i64 x.kind] ++ x.digest.cells)) (post := (x.leaf.value.cells)) (by simp [Leaf.cells, Item.cells]) (by simp [B32.cells_length, Leaf.cells_length, Item.cells_length]) (B32.cells_length _)
instance (x : Item) (y : B32) : SetAt x.cells 33 y.cells ({ x with leaf.key := y } : Item).cells := .mk' (pre := ([.int .i64 x.kind] ++ x.digest.cells)) (old := x.leaf.key.cells) (post := (x.leaf.value.cells)) (by simp [Leaf.cells, Item.cells]) (by simp [Leaf.cells, Item.cells]) (by simp [B32.cells_length, Leaf.cells_length, Item.cells_length]) (by rw [B32.cells_length, B32.cells_length])
instance (x : Item) : RowAt x.cells 65 32 x.leaf.value.cells := .mk' (pre := ([.int .i64 x.kind] ++ x.digest.cells ++ x.leaf.key.cells)) (post := []) (by simp [Leaf.cells, Item.cells]) (by simp [B32.cells_length, Leaf.cells_length, Item.cells_length]) (B32.cells_length _)
instance (x : Item) (y : B32) : SetAt x.cells 65 y.cells ({ x with leaf.value := y } : Item).cells := .mk' (pre := ([.int .i64 x.kind] ++ x.digest.cells ++ x.leaf.key.cells)) (old := x.leaf.value.cells) (post := []) (by simp [Leaf.cells, Item.cells]) (by simp [Leaf.cells, Item.cells]) (by simp [B32.cells_length, Leaf.cells_length, Item.cells_length]) (by rw [B32.cells_length, B32.cells_length])
structure Proof where
  kind : Int
  depth : Int
  leaf : Leaf
  bitmap : B32
  sibs : Sl
def Proof.cells (x : Proof) : List Value := [.int .i64 x.kind] ++ ([.int .i64 x.depth] ++ (x.leaf.cells ++ (x.bitmap.cells ++ ([.slice x.sibs.A x.sibs.n x.sibs.c] ++ []))))
def zProof : Proof := ⟨0, 0, zLeaf, zB32, ⟨none, 0, 0⟩⟩
theorem Proof.cells_length (x : Proof) : x.cells.length = 99 := by simp [Proof.cells, B32.cells_length, Leaf.cells_length, Item.cells_length]
theorem Proof.cells_one (x : Proof) : ∀ v ∈ x.cells, v.oneCell' = true := by
  intro v hv
  simp only [Proof.cells, List.mem_append, List.mem_singleton, List.not_mem_nil, or_false] at hv
  rcases hv with rfl | rfl | h | h | rfl
  · exact rfl
  · exact rfl
  · exact Leaf.cells_one _ v h
  · exact B32.cells_one _ v h
  · exact rfl
instance (x : Proof) : Row x.cells 99 := ⟨Proof.cells_length x, Proof.cells_one x⟩
instance (x : Proof) : RowAt x.cells 0 99 x.cells := .whole (Proof.cells_length x)
instance (x y : Proof) : SetAt x.cells 0 y.cells y.cells := .whole (by rw [Proof.cells_length, Proof.cells_length])
instance (x : Proof) : CellAt x.cells 0 (.int .i64 x.kind) := .mk' (pre := []) (post := ([.int .i64 x.depth] ++ x.leaf.cells ++ x.bitmap.cells ++ [.slice x.sibs.A x.sibs.n x.sibs.c])) (by simp [Leaf.cells, Proof.cells]) (by rfl)
instance (x : Proof) (y : Int) : SetAt x.cells 0 [.int .i64 y] ({ x with kind := y } : Proof).cells := .mk' (pre := []) (old := [.int .i64 x.kind]) (post := ([.int .i64 x.depth] ++ x.leaf.cells ++ x.bitmap.cells ++ [.slice x.sibs.A x.sibs.n x.sibs.c])) (by simp [Leaf.cells, Proof.cells]) (by simp [Leaf.cells, Proof.cells]) (by rfl) rfl
instance (x : Proof) : CellAt x.cells 1 (.int .i64 x.depth) := .mk' (pre := ([.int .i64 x.kind])) (post := (x.leaf.cells ++ x.bitmap.cells ++ [.slice x.sibs.A x.sibs.n x.sibs.c])) (by simp [Leaf.cells, Proof.cells]) (by simp [B32.cells_length, Leaf.cells_length, Item.cells_length])
instance (x : Proof) (y : Int) : SetAt x.cells 1 [.int .i64 y] ({ x with depth := y } : Proof).cells := .mk' (pre := ([.int .i64 x.kind])) (old := [.int .i64 x.depth]) (post := (x.leaf.cells ++ x.bitmap.cells ++ [.slice x.sibs.A x.sibs.n x.sibs.c])) (by simp [Leaf.cells, Proof.cells]) (by simp [Leaf.cells, Proof.cells]) (by simp [B32.cells_length, Leaf.cells_length, Item.cells_length]) rfl
instance (x : Proof) : RowAt x.cells 2 64 x.leaf.cells := .mk' (pre := ([.int .i64 x.kind] ++ [.int .i64 x.depth])) (post := (x.bitmap.cells ++ [.slice x.sibs.A x.sibs.n x.sibs.c])) (by simp [Proof.cells]) (by simp [B32.cells_length, Leaf.cells_length, Item.cells_length]) (Leaf.cells_length _)
instance (x : Proof) (y : Leaf) : SetAt x.cells 2 y.cells ({ x with leaf := y } : Proof).cells := .mk' (pre := ([.int .i64 x.kind] ++ [.int .i64 x.depth])) (old := x.leaf.cells) (post := (x.bitmap.cells ++ [.slice x.sibs.A x.sibs.n x.sibs.c])) (by simp [Proof.cells]) (by simp [Proof.cells]) (by simp [B32.cells_length, Leaf.cells_length, Item.cells_length]) (by rw [Leaf.cells_length, Leaf.cells_length])
instance (x : Proof) : RowAt x.cells 2 32 x.leaf.key.cells := .mk' (pre := ([.int .i64 x.kind] ++ [.int .i64 x.depth])) (post := (x.leaf.value.cells ++ x.bitmap.cells ++ [.slice x.sibs.A x.sibs.n x.sibs.c])) (by simp [Leaf.cells, Proof.cells]) (by simp [B32.cells_length, Leaf.cells_length, Item.cells_length]) (B32.cells_length _)
instance (x : Proof) (y : B32) : SetAt x.cells 2 y.cells ({ x with leaf.key := y } : Proof).cells := .mk' (pre := ([.int .i64 x.kind] ++ [.int .i64 x.depth])) (old := x.leaf.key.cells) (post := (x.leaf.value.cells ++ x.bitmap.cells ++ [.slice x.sibs.A x.sibs.n x.sibs.c])) (by simp [Leaf.cells, Proof.cells]) (by simp [Leaf.cells, Proof.cells]) (by simp [B32.cells_length, Leaf.cells_length, Item.cells_length]) (by rw [B32.cells_length, B32.cells_length])
instance (x : Proof) : RowAt x.cells 34 32 x.leaf.value.cells := .mk' (pre := ([.int .i64 x.kind] ++ [.int .i64 x.depth] ++ x.leaf.key.cells)) (post := (x.bitmap.cells ++ [.slice x.sibs.A x.sibs.n x.sibs.c])) (by simp [Leaf.cells, Proof.cells]) (by simp [B32.cells_length, Leaf.cells_length, Item.cells_length]) (B32.cells_length _)
instance (x : Proof) (y : B32) : SetAt x.cells 34 y.cells ({ x with leaf.value := y } : Proof).cells := .mk' (pre := ([.int .i64 x.kind] ++ [.int .i64 x.depth] ++ x.leaf.key.cells)) (old := x.leaf.value.cells) (post := (x.bitmap.cells ++ [.slice x.sibs.A x.sibs.n x.sibs.c])) (by simp [Leaf.cells, Proof.cells]) (by simp [Leaf.cells, Proof.cells]) (by simp [B32.cells_length, Leaf.cells_length, Item.cells_length]) (by rw [B32.cells_length, B32.cells_length])
instance (x : Proof) : RowAt x.cells 66 32 x.bitmap.cells := .mk' (pre := ([.int .i64 x.kind] ++ [.int .i64 x.depth] ++ x.leaf.cells)) (post := ([.slice x.sibs.A x.sibs.n x.sibs.c])) (by simp [Leaf.cells, Proof.cells]) (by simp [B32.cells_length, Leaf.cells_length, Item.cells_length]) (B32.cells_length _)
instance (x : Proof) (y : B32) : SetAt x.cells 66 y.cells ({ x with bitmap := y } : Proof).cells := .mk' (pre := ([.int .i64 x.kind] ++ [.int .i64 x.depth] ++ x.leaf.cells)) (old := x.bitmap.cells) (post := ([.slice x.sibs.A x.sibs.n x.sibs.c])) (by simp [Leaf.cells, Proof.cells]) (by simp [Leaf.cells, Proof.cells]) (by simp [B32.cells_length, Leaf.cells_length, Item.cells_length]) (by rw [B32.cells_length, B32.cells_length])
instance (x : Proof) : CellAt x.cells 98 (.slice x.sibs.A x.sibs.n x.sibs.c) := .mk' (pre := ([.int .i64 x.kind] ++ [.int .i64 x.depth] ++ x.leaf.cells ++ x.bitmap.cells)) (post := []) (by simp [Leaf.cells, Proof.cells]) (by simp [B32.cells_length, Leaf.cells_length, Item.cells_length])
instance (x : Proof) (A : Option Addr) (m c : Nat) : SetAt x.cells 98 [.slice A m c] ({ x with sibs := ⟨A, m, c⟩ } : Proof).cells := .mk' (pre := ([.int .i64 x.kind] ++ [.int .i64 x.depth] ++ x.leaf.cells ++ x.bitmap.cells)) (old := [.slice x.sibs.A x.sibs.n x.sibs.c]) (post := []) (by simp [Leaf.cells, Proof.cells]) (by simp [Leaf.cells, Proof.cells]) (by simp [B32.cells_length, Leaf.cells_length, Item.cells_length]) rfl
instance (x : Proof) (y : Sl) : SetAt x.cells 98 [.slice y.A y.n y.c] ({ x with sibs := y } : Proof).cells := .mk' (pre := ([.int .i64 x.kind] ++ [.int .i64 x.depth] ++ x.leaf.cells ++ x.bitmap.cells)) (old := [.slice x.sibs.A x.sibs.n x.sibs.c]) (post := []) (by simp [Leaf.cells, Proof.cells]) (by simp [Leaf.cells, Proof.cells]) (by simp [B32.cells_length, Leaf.cells_length, Item.cells_length]) rfl
structure Entry where
  key : B32
  value : Sl
def Entry.cells (x : Entry) : List Value := x.key.cells ++ ([.slice x.value.A x.value.n x.value.c] ++ [])
def zEntry : Entry := ⟨zB32, ⟨none, 0, 0⟩⟩
theorem Entry.cells_length (x : Entry) : x.cells.length = 33 := by simp [Entry.cells, B32.cells_length, Leaf.cells_length, Item.cells_length]
theorem Entry.cells_one (x : Entry) : ∀ v ∈ x.cells, v.oneCell' = true := by
  intro v hv
  simp only [Entry.cells, List.mem_append, List.mem_singleton, List.not_mem_nil, or_false] at hv
  rcases hv with h | rfl
  · exact B32.cells_one _ v h
  · exact rfl
instance (x : Entry) : Row x.cells 33 := ⟨Entry.cells_length x, Entry.cells_one x⟩
instance (x : Entry) : RowAt x.cells 0 33 x.cells := .whole (Entry.cells_length x)
instance (x y : Entry) : SetAt x.cells 0 y.cells y.cells := .whole (by rw [Entry.cells_length, Entry.cells_length])
instance (x : Entry) : RowAt x.cells 0 32 x.key.cells := .mk' (pre := []) (post := ([.slice x.value.A x.value.n x.value.c])) (by simp [Entry.cells]) (by rfl) (B32.cells_length _)
instance (x : Entry) (y : B32) : SetAt x.cells 0 y.cells ({ x with key := y } : Entry).cells := .mk' (pre := []) (old := x.key.cells) (post := ([.slice x.value.A x.value.n x.value.c])) (by simp [Entry.cells]) (by simp [Entry.cells]) (by rfl) (by rw [B32.cells_length, B32.cells_length])
instance (x : Entry) : CellAt x.cells 32 (.slice x.value.A x.value.n x.value.c) := .mk' (pre := (x.key.cells)) (post := []) (by simp [Entry.cells]) (by simp [B32.cells_length, Leaf.cells_length, Item.cells_length])
instance (x : Entry) (A : Option Addr) (m c : Nat) : SetAt x.cells 32 [.slice A m c] ({ x with value := ⟨A, m, c⟩ } : Entry).cells := .mk' (pre := (x.key.cells)) (old := [.slice x.value.A x.value.n x.value.c]) (post := []) (by simp [Entry.cells]) (by simp [Entry.cells]) (by simp [B32.cells_length, Leaf.cells_length, Item.cells_length]) rfl
instance (x : Entry) (y : Sl) : SetAt x.cells 32 [.slice y.A y.n y.c] ({ x with value := y } : Entry).cells := .mk' (pre := (x.key.cells)) (old := [.slice x.value.A x.value.n x.value.c]) (post := []) (by simp [Entry.cells]) (by simp [Entry.cells]) (by simp [B32.cells_length, Leaf.cells_length, Item.cells_length]) rfl
structure Claim where
  key : Sl
  value : Sl
  present : Bool
def Claim.cells (x : Claim) : List Value := [.slice x.key.A x.key.n x.key.c] ++ ([.slice x.value.A x.value.n x.value.c] ++ ([.bool x.present] ++ []))
def zClaim : Claim := ⟨⟨none, 0, 0⟩, ⟨none, 0, 0⟩, false⟩
theorem Claim.cells_length (x : Claim) : x.cells.length = 3 := by simp [Claim.cells, B32.cells_length, Leaf.cells_length, Item.cells_length]
theorem Claim.cells_one (x : Claim) : ∀ v ∈ x.cells, v.oneCell' = true := by
  intro v hv
  simp only [Claim.cells, List.mem_append, List.mem_singleton, List.not_mem_nil, or_false] at hv
  rcases hv with rfl | rfl | rfl
  · exact rfl
  · exact rfl
  · exact rfl
instance (x : Claim) : Row x.cells 3 := ⟨Claim.cells_length x, Claim.cells_one x⟩
instance (x : Claim) : RowAt x.cells 0 3 x.cells := .whole (Claim.cells_length x)
instance (x y : Claim) : SetAt x.cells 0 y.cells y.cells := .whole (by rw [Claim.cells_length, Claim.cells_length])
instance (x : Claim) : CellAt x.cells 0 (.slice x.key.A x.key.n x.key.c) := .mk' (pre := []) (post := ([.slice x.value.A x.value.n x.value.c] ++ [.bool x.present])) (by simp [Claim.cells]) (by rfl)
instance (x : Claim) (A : Option Addr) (m c : Nat) : SetAt x.cells 0 [.slice A m c] ({ x with key := ⟨A, m, c⟩ } : Claim).cells := .mk' (pre := []) (old := [.slice x.key.A x.key.n x.key.c]) (post := ([.slice x.value.A x.value.n x.value.c] ++ [.bool x.present])) (by simp [Claim.cells]) (by simp [Claim.cells]) (by rfl) rfl
instance (x : Claim) (y : Sl) : SetAt x.cells 0 [.slice y.A y.n y.c] ({ x with key := y } : Claim).cells := .mk' (pre := []) (old := [.slice x.key.A x.key.n x.key.c]) (post := ([.slice x.value.A x.value.n x.value.c] ++ [.bool x.present])) (by simp [Claim.cells]) (by simp [Claim.cells]) (by rfl) rfl
instance (x : Claim) : CellAt x.cells 1 (.slice x.value.A x.value.n x.value.c) := .mk' (pre := ([.slice x.key.A x.key.n x.key.c])) (post := ([.bool x.present])) (by simp [Claim.cells]) (by simp [B32.cells_length, Leaf.cells_length, Item.cells_length])
instance (x : Claim) (A : Option Addr) (m c : Nat) : SetAt x.cells 1 [.slice A m c] ({ x with value := ⟨A, m, c⟩ } : Claim).cells := .mk' (pre := ([.slice x.key.A x.key.n x.key.c])) (old := [.slice x.value.A x.value.n x.value.c]) (post := ([.bool x.present])) (by simp [Claim.cells]) (by simp [Claim.cells]) (by simp [B32.cells_length, Leaf.cells_length, Item.cells_length]) rfl
instance (x : Claim) (y : Sl) : SetAt x.cells 1 [.slice y.A y.n y.c] ({ x with value := y } : Claim).cells := .mk' (pre := ([.slice x.key.A x.key.n x.key.c])) (old := [.slice x.value.A x.value.n x.value.c]) (post := ([.bool x.present])) (by simp [Claim.cells]) (by simp [Claim.cells]) (by simp [B32.cells_length, Leaf.cells_length, Item.cells_length]) rfl
instance (x : Claim) : CellAt x.cells 2 (.bool x.present) := .mk' (pre := ([.slice x.key.A x.key.n x.key.c] ++ [.slice x.value.A x.value.n x.value.c])) (post := []) (by simp [Claim.cells]) (by simp [B32.cells_length, Leaf.cells_length, Item.cells_length])
instance (x : Claim) (y : Bool) : SetAt x.cells 2 [.bool y] ({ x with present := y } : Claim).cells := .mk' (pre := ([.slice x.key.A x.key.n x.key.c] ++ [.slice x.value.A x.value.n x.value.c])) (old := [.bool x.present]) (post := []) (by simp [Claim.cells]) (by simp [Claim.cells]) (by simp [B32.cells_length, Leaf.cells_length, Item.cells_length]) rfl
structure End where
  item : Item
  depth : Int
def End.cells (x : End) : List Value := x.item.cells ++ ([.int .i64 x.depth] ++ [])
def zEnd : End := ⟨zItem, 0⟩
theorem End.cells_length (x : End) : x.cells.length = 98 := by simp [End.cells, B32.cells_length, Leaf.cells_length, Item.cells_length]
theorem End.cells_one (x : End) : ∀ v ∈ x.cells, v.oneCell' = true := by
  intro v hv
  simp only [End.cells, List.mem_append, List.mem_singleton, List.not_mem_nil, or_false] at hv
  rcases hv with h | rfl
  · exact Item.cells_one _ v h
  · exact rfl
instance (x : End) : Row x.cells 98 := ⟨End.cells_length x, End.cells_one x⟩
instance (x : End) : RowAt x.cells 0 98 x.cells := .whole (End.cells_length x)
instance (x y : End) : SetAt x.cells 0 y.cells y.cells := .whole (by rw [End.cells_length, End.cells_length])
instance (x : End) : RowAt x.cells 0 97 x.item.cells := .mk' (pre := []) (post := ([.int .i64 x.depth])) (by simp [Leaf.cells, End.cells]) (by rfl) (Item.cells_length _)
instance (x : End) (y : Item) : SetAt x.cells 0 y.cells ({ x with item := y } : End).cells := .mk' (pre := []) (old := x.item.cells) (post := ([.int .i64 x.depth])) (by simp [Leaf.cells, End.cells]) (by simp [Leaf.cells, End.cells]) (by rfl) (by rw [Item.cells_length, Item.cells_length])
instance (x : End) : CellAt x.cells 0 (.int .i64 x.item.kind) := .mk' (pre := []) (post := (x.item.digest.cells ++ x.item.leaf.cells ++ [.int .i64 x.depth])) (by simp [Leaf.cells, Item.cells, End.cells]) (by rfl)
instance (x : End) (y : Int) : SetAt x.cells 0 [.int .i64 y] ({ x with item.kind := y } : End).cells := .mk' (pre := []) (old := [.int .i64 x.item.kind]) (post := (x.item.digest.cells ++ x.item.leaf.cells ++ [.int .i64 x.depth])) (by simp [Leaf.cells, Item.cells, End.cells]) (by simp [Leaf.cells, Item.cells, End.cells]) (by rfl) rfl
instance (x : End) : RowAt x.cells 1 32 x.item.digest.cells := .mk' (pre := ([.int .i64 x.item.kind])) (post := (x.item.leaf.cells ++ [.int .i64 x.depth])) (by simp [Leaf.cells, Item.cells, End.cells]) (by simp [B32.cells_length, Leaf.cells_length, Item.cells_length]) (B32.cells_length _)
instance (x : End) (y : B32) : SetAt x.cells 1 y.cells ({ x with item.digest := y } : End).cells := .mk' (pre := ([.int .i64 x.item.kind])) (old := x.item.digest.cells) (post := (x.item.leaf.cells ++ [.int .i64 x.depth])) (by simp [Leaf.cells, Item.cells, End.cells]) (by simp [Leaf.cells, Item.cells, End.cells]) (by simp [B32.cells_length, Leaf.cells_length, Item.cells_length]) (by rw [B32.cells_length, B32.cells_length])
instance (x : End) : RowAt x.cells 33 64 x.item.leaf.cells := .mk' (pre := ([.int .i64 x.item.kind] ++ x.item.digest.cells)) (post := ([.int .i64 x.depth])) (by simp [Item.cells, End.cells]) (by simp [B32.cells_length, Leaf.cells_length, Item.cells_length]) (Leaf.cells_length _)
instance (x : End) (y : Leaf) : SetAt x.cells 33 y.cells ({ x with item.leaf := y } : End).cells := .mk' (pre := ([.int .i64 x.item.kind] ++ x.item.digest.cells)) (old := x.item.leaf.cells) (post := ([.int .i64 x.depth])) (by simp [Item.cells, End.cells]) (by simp [Item.cells, End.cells]) (by simp [B32.cells_length, Leaf.cells_length, Item.cells_length]) (by rw [Leaf.cells_length, Leaf.cells_length])
instance (x : End) : RowAt x.cells 33 32 x.item.leaf.key.cells := .mk' (pre := ([.int .i64 x.item.kind] ++ x.item.digest.cells)) (post := (x.item.leaf.value.cells ++ [.int .i64 x.depth])) (by simp [Leaf.cells, Item.cells, End.cells]) (by simp [B32.cells_length, Leaf.cells_length, Item.cells_length]) (B32.cells_length _)
instance (x : End) (y : B32) : SetAt x.cells 33 y.cells ({ x with item.leaf.key := y } : End).cells := .mk' (pre := ([.int .i64 x.item.kind] ++ x.item.digest.cells)) (old := x.item.leaf.key.cells) (post := (x.item.leaf.value.cells ++ [.int .i64 x.depth])) (by simp [Leaf.cells, Item.cells, End.cells]) (by simp [Leaf.cells, Item.cells, End.cells]) (by simp [B32.cells_length, Leaf.cells_length, Item.cells_length]) (by rw [B32.cells_length, B32.cells_length])
instance (x : End) : RowAt x.cells 65 32 x.item.leaf.value.cells := .mk' (pre := ([.int .i64 x.item.kind] ++ x.item.digest.cells ++ x.item.leaf.key.cells)) (post := ([.int .i64 x.depth])) (by simp [Leaf.cells, Item.cells, End.cells]) (by simp [B32.cells_length, Leaf.cells_length, Item.cells_length]) (B32.cells_length _)
instance (x : End) (y : B32) : SetAt x.cells 65 y.cells ({ x with item.leaf.value := y } : End).cells := .mk' (pre := ([.int .i64 x.item.kind] ++ x.item.digest.cells ++ x.item.leaf.key.cells)) (old := x.item.leaf.value.cells) (post := ([.int .i64 x.depth])) (by simp [Leaf.cells, Item.cells, End.cells]) (by simp [Leaf.cells, Item.cells, End.cells]) (by simp [B32.cells_length, Leaf.cells_length, Item.cells_length]) (by rw [B32.cells_length, B32.cells_length])
instance (x : End) : CellAt x.cells 97 (.int .i64 x.depth) := .mk' (pre := (x.item.cells)) (post := []) (by simp [Leaf.cells, Item.cells, End.cells]) (by simp [B32.cells_length, Leaf.cells_length, Item.cells_length])
instance (x : End) (y : Int) : SetAt x.cells 97 [.int .i64 y] ({ x with depth := y } : End).cells := .mk' (pre := (x.item.cells)) (old := [.int .i64 x.depth]) (post := []) (by simp [Leaf.cells, Item.cells, End.cells]) (by simp [Leaf.cells, Item.cells, End.cells]) (by simp [B32.cells_length, Leaf.cells_length, Item.cells_length]) rfl
structure Update where
  key : Sl
  value : Sl
  del : Bool
def Update.cells (x : Update) : List Value := [.slice x.key.A x.key.n x.key.c] ++ ([.slice x.value.A x.value.n x.value.c] ++ ([.bool x.del] ++ []))
def zUpdate : Update := ⟨⟨none, 0, 0⟩, ⟨none, 0, 0⟩, false⟩
theorem Update.cells_length (x : Update) : x.cells.length = 3 := by simp [Update.cells, B32.cells_length, Leaf.cells_length, Item.cells_length]
theorem Update.cells_one (x : Update) : ∀ v ∈ x.cells, v.oneCell' = true := by
  intro v hv
  simp only [Update.cells, List.mem_append, List.mem_singleton, List.not_mem_nil, or_false] at hv
  rcases hv with rfl | rfl | rfl
  · exact rfl
  · exact rfl
  · exact rfl
instance (x : Update) : Row x.cells 3 := ⟨Update.cells_length x, Update.cells_one x⟩
instance (x : Update) : RowAt x.cells 0 3 x.cells := .whole (Update.cells_length x)
instance (x y : Update) : SetAt x.cells 0 y.cells y.cells := .whole (by rw [Update.cells_length, Update.cells_length])
instance (x : Update) : CellAt x.cells 0 (.slice x.key.A x.key.n x.key.c) := .mk' (pre := []) (post := ([.slice x.value.A x.value.n x.value.c] ++ [.bool x.del])) (by simp [Update.cells]) (by rfl)
instance (x : Update) (A : Option Addr) (m c : Nat) : SetAt x.cells 0 [.slice A m c] ({ x with key := ⟨A, m, c⟩ } : Update).cells := .mk' (pre := []) (old := [.slice x.key.A x.key.n x.key.c]) (post := ([.slice x.value.A x.value.n x.value.c] ++ [.bool x.del])) (by simp [Update.cells]) (by simp [Update.cells]) (by rfl) rfl
instance (x : Update) (y : Sl) : SetAt x.cells 0 [.slice y.A y.n y.c] ({ x with key := y } : Update).cells := .mk' (pre := []) (old := [.slice x.key.A x.key.n x.key.c]) (post := ([.slice x.value.A x.value.n x.value.c] ++ [.bool x.del])) (by simp [Update.cells]) (by simp [Update.cells]) (by rfl) rfl
instance (x : Update) : CellAt x.cells 1 (.slice x.value.A x.value.n x.value.c) := .mk' (pre := ([.slice x.key.A x.key.n x.key.c])) (post := ([.bool x.del])) (by simp [Update.cells]) (by simp [B32.cells_length, Leaf.cells_length, Item.cells_length])
instance (x : Update) (A : Option Addr) (m c : Nat) : SetAt x.cells 1 [.slice A m c] ({ x with value := ⟨A, m, c⟩ } : Update).cells := .mk' (pre := ([.slice x.key.A x.key.n x.key.c])) (old := [.slice x.value.A x.value.n x.value.c]) (post := ([.bool x.del])) (by simp [Update.cells]) (by simp [Update.cells]) (by simp [B32.cells_length, Leaf.cells_length, Item.cells_length]) rfl
instance (x : Update) (y : Sl) : SetAt x.cells 1 [.slice y.A y.n y.c] ({ x with value := y } : Update).cells := .mk' (pre := ([.slice x.key.A x.key.n x.key.c])) (old := [.slice x.value.A x.value.n x.value.c]) (post := ([.bool x.del])) (by simp [Update.cells]) (by simp [Update.cells]) (by simp [B32.cells_length, Leaf.cells_length, Item.cells_length]) rfl
instance (x : Update) : CellAt x.cells 2 (.bool x.del) := .mk' (pre := ([.slice x.key.A x.key.n x.key.c] ++ [.slice x.value.A x.value.n x.value.c])) (post := []) (by simp [Update.cells]) (by simp [B32.cells_length, Leaf.cells_length, Item.cells_length])
instance (x : Update) (y : Bool) : SetAt x.cells 2 [.bool y] ({ x with del := y } : Update).cells := .mk' (pre := ([.slice x.key.A x.key.n x.key.c] ++ [.slice x.value.A x.value.n x.value.c])) (old := [.bool x.del]) (post := []) (by simp [Update.cells]) (by simp [Update.cells]) (by simp [B32.cells_length, Leaf.cells_length, Item.cells_length]) rfl
structure Change where
  key : B32
  value : Sl
  del : Bool
def Change.cells (x : Change) : List Value := x.key.cells ++ ([.slice x.value.A x.value.n x.value.c] ++ ([.bool x.del] ++ []))
def zChange : Change := ⟨zB32, ⟨none, 0, 0⟩, false⟩
theorem Change.cells_length (x : Change) : x.cells.length = 34 := by simp [Change.cells, B32.cells_length, Leaf.cells_length, Item.cells_length]
theorem Change.cells_one (x : Change) : ∀ v ∈ x.cells, v.oneCell' = true := by
  intro v hv
  simp only [Change.cells, List.mem_append, List.mem_singleton, List.not_mem_nil, or_false] at hv
  rcases hv with h | rfl | rfl
  · exact B32.cells_one _ v h
  · exact rfl
  · exact rfl
instance (x : Change) : Row x.cells 34 := ⟨Change.cells_length x, Change.cells_one x⟩
instance (x : Change) : RowAt x.cells 0 34 x.cells := .whole (Change.cells_length x)
instance (x y : Change) : SetAt x.cells 0 y.cells y.cells := .whole (by rw [Change.cells_length, Change.cells_length])
instance (x : Change) : RowAt x.cells 0 32 x.key.cells := .mk' (pre := []) (post := ([.slice x.value.A x.value.n x.value.c] ++ [.bool x.del])) (by simp [Change.cells]) (by rfl) (B32.cells_length _)
instance (x : Change) (y : B32) : SetAt x.cells 0 y.cells ({ x with key := y } : Change).cells := .mk' (pre := []) (old := x.key.cells) (post := ([.slice x.value.A x.value.n x.value.c] ++ [.bool x.del])) (by simp [Change.cells]) (by simp [Change.cells]) (by rfl) (by rw [B32.cells_length, B32.cells_length])
instance (x : Change) : CellAt x.cells 32 (.slice x.value.A x.value.n x.value.c) := .mk' (pre := (x.key.cells)) (post := ([.bool x.del])) (by simp [Change.cells]) (by simp [B32.cells_length, Leaf.cells_length, Item.cells_length])
instance (x : Change) (A : Option Addr) (m c : Nat) : SetAt x.cells 32 [.slice A m c] ({ x with value := ⟨A, m, c⟩ } : Change).cells := .mk' (pre := (x.key.cells)) (old := [.slice x.value.A x.value.n x.value.c]) (post := ([.bool x.del])) (by simp [Change.cells]) (by simp [Change.cells]) (by simp [B32.cells_length, Leaf.cells_length, Item.cells_length]) rfl
instance (x : Change) (y : Sl) : SetAt x.cells 32 [.slice y.A y.n y.c] ({ x with value := y } : Change).cells := .mk' (pre := (x.key.cells)) (old := [.slice x.value.A x.value.n x.value.c]) (post := ([.bool x.del])) (by simp [Change.cells]) (by simp [Change.cells]) (by simp [B32.cells_length, Leaf.cells_length, Item.cells_length]) rfl
instance (x : Change) : CellAt x.cells 33 (.bool x.del) := .mk' (pre := (x.key.cells ++ [.slice x.value.A x.value.n x.value.c])) (post := []) (by simp [Change.cells]) (by simp [B32.cells_length, Leaf.cells_length, Item.cells_length])
instance (x : Change) (y : Bool) : SetAt x.cells 33 [.bool y] ({ x with del := y } : Change).cells := .mk' (pre := (x.key.cells ++ [.slice x.value.A x.value.n x.value.c])) (old := [.bool x.del]) (post := []) (by simp [Change.cells]) (by simp [Change.cells]) (by simp [B32.cells_length, Leaf.cells_length, Item.cells_length]) rfl
structure Nd where
  c : Value
  dg : B32
def Nd.cells (x : Nd) : List Value := [x.c] ++ (x.dg.cells ++ [])
def zNd : Nd := ⟨.nilIface, zB32⟩
theorem Nd.cells_length (x : Nd) : x.cells.length = 33 := by simp [Nd.cells, B32.cells_length, Leaf.cells_length, Item.cells_length]
theorem Nd.cells_one (x : Nd) [hc : OneC x.c] : ∀ v ∈ x.cells, v.oneCell' = true := by
  intro v hv
  simp only [Nd.cells, List.mem_append, List.mem_singleton, List.not_mem_nil, or_false] at hv
  rcases hv with rfl | h
  · exact hc.one
  · exact B32.cells_one _ v h
instance (x : Nd) [OneC x.c] : Row x.cells 33 := ⟨Nd.cells_length x, Nd.cells_one x⟩
instance (x : Nd) : RowAt x.cells 0 33 x.cells := .whole (Nd.cells_length x)
instance (x y : Nd) : SetAt x.cells 0 y.cells y.cells := .whole (by rw [Nd.cells_length, Nd.cells_length])
instance (x : Nd) : CellAt x.cells 0 (x.c) := .mk' (pre := []) (post := (x.dg.cells)) (by simp [Nd.cells]) (by rfl)
instance (x : Nd) (y : Value) : SetAt x.cells 0 [y] ({ x with c := y } : Nd).cells := .mk' (pre := []) (old := [x.c]) (post := (x.dg.cells)) (by simp [Nd.cells]) (by simp [Nd.cells]) (by rfl) rfl
instance (x : Nd) : RowAt x.cells 1 32 x.dg.cells := .mk' (pre := ([x.c])) (post := []) (by simp [Nd.cells]) (by simp [B32.cells_length, Leaf.cells_length, Item.cells_length]) (B32.cells_length _)
instance (x : Nd) (y : B32) : SetAt x.cells 1 y.cells ({ x with dg := y } : Nd).cells := .mk' (pre := ([x.c])) (old := x.dg.cells) (post := []) (by simp [Nd.cells]) (by simp [Nd.cells]) (by simp [B32.cells_length, Leaf.cells_length, Item.cells_length]) (by rw [B32.cells_length, B32.cells_length])
structure NLeaf where
  leaf : Leaf
  value : Sl
def NLeaf.cells (x : NLeaf) : List Value := x.leaf.cells ++ ([.slice x.value.A x.value.n x.value.c] ++ [])
def zNLeaf : NLeaf := ⟨zLeaf, ⟨none, 0, 0⟩⟩
theorem NLeaf.cells_length (x : NLeaf) : x.cells.length = 65 := by simp [NLeaf.cells, B32.cells_length, Leaf.cells_length, Item.cells_length]
theorem NLeaf.cells_one (x : NLeaf) : ∀ v ∈ x.cells, v.oneCell' = true := by
  intro v hv
  simp only [NLeaf.cells, List.mem_append, List.mem_singleton, List.not_mem_nil, or_false] at hv
  rcases hv with h | rfl
  · exact Leaf.cells_one _ v h
  · exact rfl
instance (x : NLeaf) : Row x.cells 65 := ⟨NLeaf.cells_length x, NLeaf.cells_one x⟩
instance (x : NLeaf) : RowAt x.cells 0 65 x.cells := .whole (NLeaf.cells_length x)
instance (x y : NLeaf) : SetAt x.cells 0 y.cells y.cells := .whole (by rw [NLeaf.cells_length, NLeaf.cells_length])
instance (x : NLeaf) : RowAt x.cells 0 64 x.leaf.cells := .mk' (pre := []) (post := ([.slice x.value.A x.value.n x.value.c])) (by simp [NLeaf.cells]) (by rfl) (Leaf.cells_length _)
instance (x : NLeaf) (y : Leaf) : SetAt x.cells 0 y.cells ({ x with leaf := y } : NLeaf).cells := .mk' (pre := []) (old := x.leaf.cells) (post := ([.slice x.value.A x.value.n x.value.c])) (by simp [NLeaf.cells]) (by simp [NLeaf.cells]) (by rfl) (by rw [Leaf.cells_length, Leaf.cells_length])
instance (x : NLeaf) : RowAt x.cells 0 32 x.leaf.key.cells := .mk' (pre := []) (post := (x.leaf.value.cells ++ [.slice x.value.A x.value.n x.value.c])) (by simp [Leaf.cells, NLeaf.cells]) (by rfl) (B32.cells_length _)
instance (x : NLeaf) (y : B32) : SetAt x.cells 0 y.cells ({ x with leaf.key := y } : NLeaf).cells := .mk' (pre := []) (old := x.leaf.key.cells) (post := (x.leaf.value.cells ++ [.slice x.value.A x.value.n x.value.c])) (by simp [Leaf.cells, NLeaf.cells]) (by simp [Leaf.cells, NLeaf.cells]) (by rfl) (by rw [B32.cells_length, B32.cells_length])
instance (x : NLeaf) : RowAt x.cells 32 32 x.leaf.value.cells := .mk' (pre := (x.leaf.key.cells)) (post := ([.slice x.value.A x.value.n x.value.c])) (by simp [Leaf.cells, NLeaf.cells]) (by simp [B32.cells_length, Leaf.cells_length, Item.cells_length]) (B32.cells_length _)
instance (x : NLeaf) (y : B32) : SetAt x.cells 32 y.cells ({ x with leaf.value := y } : NLeaf).cells := .mk' (pre := (x.leaf.key.cells)) (old := x.leaf.value.cells) (post := ([.slice x.value.A x.value.n x.value.c])) (by simp [Leaf.cells, NLeaf.cells]) (by simp [Leaf.cells, NLeaf.cells]) (by simp [B32.cells_length, Leaf.cells_length, Item.cells_length]) (by rw [B32.cells_length, B32.cells_length])
instance (x : NLeaf) : CellAt x.cells 64 (.slice x.value.A x.value.n x.value.c) := .mk' (pre := (x.leaf.cells)) (post := []) (by simp [Leaf.cells, NLeaf.cells]) (by simp [B32.cells_length, Leaf.cells_length, Item.cells_length])
instance (x : NLeaf) (A : Option Addr) (m c : Nat) : SetAt x.cells 64 [.slice A m c] ({ x with value := ⟨A, m, c⟩ } : NLeaf).cells := .mk' (pre := (x.leaf.cells)) (old := [.slice x.value.A x.value.n x.value.c]) (post := []) (by simp [Leaf.cells, NLeaf.cells]) (by simp [Leaf.cells, NLeaf.cells]) (by simp [B32.cells_length, Leaf.cells_length, Item.cells_length]) rfl
instance (x : NLeaf) (y : Sl) : SetAt x.cells 64 [.slice y.A y.n y.c] ({ x with value := y } : NLeaf).cells := .mk' (pre := (x.leaf.cells)) (old := [.slice x.value.A x.value.n x.value.c]) (post := []) (by simp [Leaf.cells, NLeaf.cells]) (by simp [Leaf.cells, NLeaf.cells]) (by simp [B32.cells_length, Leaf.cells_length, Item.cells_length]) rfl
structure NInner where
  l : Option Addr
  r : Option Addr
  dl : B32
  dr : B32
  n : Int
def NInner.cells (x : NInner) : List Value := [.pointer x.l] ++ ([.pointer x.r] ++ (x.dl.cells ++ (x.dr.cells ++ ([.int .i64 x.n] ++ []))))
def zNInner : NInner := ⟨none, none, zB32, zB32, 0⟩
theorem NInner.cells_length (x : NInner) : x.cells.length = 67 := by simp [NInner.cells, B32.cells_length, Leaf.cells_length, Item.cells_length]
theorem NInner.cells_one (x : NInner) : ∀ v ∈ x.cells, v.oneCell' = true := by
  intro v hv
  simp only [NInner.cells, List.mem_append, List.mem_singleton, List.not_mem_nil, or_false] at hv
  rcases hv with rfl | rfl | h | h | rfl
  · exact rfl
  · exact rfl
  · exact B32.cells_one _ v h
  · exact B32.cells_one _ v h
  · exact rfl
instance (x : NInner) : Row x.cells 67 := ⟨NInner.cells_length x, NInner.cells_one x⟩
instance (x : NInner) : RowAt x.cells 0 67 x.cells := .whole (NInner.cells_length x)
instance (x y : NInner) : SetAt x.cells 0 y.cells y.cells := .whole (by rw [NInner.cells_length, NInner.cells_length])
instance (x : NInner) : CellAt x.cells 0 (.pointer x.l) := .mk' (pre := []) (post := ([.pointer x.r] ++ x.dl.cells ++ x.dr.cells ++ [.int .i64 x.n])) (by simp [NInner.cells]) (by rfl)
instance (x : NInner) (y : Option Addr) : SetAt x.cells 0 [.pointer y] ({ x with l := y } : NInner).cells := .mk' (pre := []) (old := [.pointer x.l]) (post := ([.pointer x.r] ++ x.dl.cells ++ x.dr.cells ++ [.int .i64 x.n])) (by simp [NInner.cells]) (by simp [NInner.cells]) (by rfl) rfl
instance (x : NInner) : CellAt x.cells 1 (.pointer x.r) := .mk' (pre := ([.pointer x.l])) (post := (x.dl.cells ++ x.dr.cells ++ [.int .i64 x.n])) (by simp [NInner.cells]) (by simp [B32.cells_length, Leaf.cells_length, Item.cells_length])
instance (x : NInner) (y : Option Addr) : SetAt x.cells 1 [.pointer y] ({ x with r := y } : NInner).cells := .mk' (pre := ([.pointer x.l])) (old := [.pointer x.r]) (post := (x.dl.cells ++ x.dr.cells ++ [.int .i64 x.n])) (by simp [NInner.cells]) (by simp [NInner.cells]) (by simp [B32.cells_length, Leaf.cells_length, Item.cells_length]) rfl
instance (x : NInner) : RowAt x.cells 2 32 x.dl.cells := .mk' (pre := ([.pointer x.l] ++ [.pointer x.r])) (post := (x.dr.cells ++ [.int .i64 x.n])) (by simp [NInner.cells]) (by simp [B32.cells_length, Leaf.cells_length, Item.cells_length]) (B32.cells_length _)
instance (x : NInner) (y : B32) : SetAt x.cells 2 y.cells ({ x with dl := y } : NInner).cells := .mk' (pre := ([.pointer x.l] ++ [.pointer x.r])) (old := x.dl.cells) (post := (x.dr.cells ++ [.int .i64 x.n])) (by simp [NInner.cells]) (by simp [NInner.cells]) (by simp [B32.cells_length, Leaf.cells_length, Item.cells_length]) (by rw [B32.cells_length, B32.cells_length])
instance (x : NInner) : RowAt x.cells 34 32 x.dr.cells := .mk' (pre := ([.pointer x.l] ++ [.pointer x.r] ++ x.dl.cells)) (post := ([.int .i64 x.n])) (by simp [NInner.cells]) (by simp [B32.cells_length, Leaf.cells_length, Item.cells_length]) (B32.cells_length _)
instance (x : NInner) (y : B32) : SetAt x.cells 34 y.cells ({ x with dr := y } : NInner).cells := .mk' (pre := ([.pointer x.l] ++ [.pointer x.r] ++ x.dl.cells)) (old := x.dr.cells) (post := ([.int .i64 x.n])) (by simp [NInner.cells]) (by simp [NInner.cells]) (by simp [B32.cells_length, Leaf.cells_length, Item.cells_length]) (by rw [B32.cells_length, B32.cells_length])
instance (x : NInner) : CellAt x.cells 66 (.int .i64 x.n) := .mk' (pre := ([.pointer x.l] ++ [.pointer x.r] ++ x.dl.cells ++ x.dr.cells)) (post := []) (by simp [NInner.cells]) (by simp [B32.cells_length, Leaf.cells_length, Item.cells_length])
instance (x : NInner) (y : Int) : SetAt x.cells 66 [.int .i64 y] ({ x with n := y } : NInner).cells := .mk' (pre := ([.pointer x.l] ++ [.pointer x.r] ++ x.dl.cells ++ x.dr.cells)) (old := [.int .i64 x.n]) (post := []) (by simp [NInner.cells]) (by simp [NInner.cells]) (by simp [B32.cells_length, Leaf.cells_length, Item.cells_length]) rfl
end Go.Proofs.YtdfeimdhlagebaaDoor
/- S3 -/
namespace Go.Proofs.YtdfeimdhlagebaaDoor
set_option linter.unusedSimpArgs false
set_option linter.unusedVariables false
open Go.RowKit
/-! ### builds -/
class TB (P : Program) (T : TypeId) (z : outParam (List Value)) (pl : outParam (Nat → Option (Nat × Nat))) : Prop where
  run : ∀ (w : World) (ps : List (Nat × Value)) (cells : Array Value), Instr.fill pl z.toArray ps = some cells → (Instr.build T ps.toArray).run P w = .ok (.agg cells) w
class Place (pl : Nat → Option (Nat × Nat)) (i : Nat) (off n : outParam Nat) : Prop where
  eq : pl i = some (off, n)
def plArr (n : Nat) : Nat → Option (Nat × Nat) := fun i => some (i * n, n)
instance (n i : Nat) : Place (plArr n) i (i * n) n := ⟨rfl⟩
class Fills (pl : Nat → Option (Nat × Nat)) (cs : List Value) (ps : List (Nat × Value)) (out : outParam (List Value)) : Prop where
  eq : Instr.fill pl cs.toArray ps = some out.toArray
instance (pl : Nat → Option (Nat × Nat)) (cs : List Value) : Fills pl cs [] cs := ⟨rfl⟩
instance (pl : Nat → Option (Nat × Nat)) (cs cs' out new : List Value) (i off n : Nat) (v : Value) (ps : List (Nat × Value)) [hp : Place pl i off n] [hv : VCells v new] [hn : Row new n] [hs : SetAt cs off new cs'] [hf : Fills pl cs' ps out] : Fills pl cs ((i, v) :: ps) out := by
  have hl := hn.len
  have hfit := hs.fit
  refine ⟨?_⟩
  rw [fill_one pl _ i v ps off n hp.eq (by rw [hv.eq]; simpa using hl) (by simp; omega), ← hf.eq, hs.eq, hv.eq]
  simp [hl]
theorem row_one {v : Value} (h : v.oneCell' = true) : Row [v] 1 := ⟨rfl, by simpa using h⟩
instance (k : IntKind) (n : Int) : Row [.int k n] 1 := row_one rfl
instance (b : Bool) : Row [.bool b] 1 := row_one rfl
instance (s : ByteArray) : Row [.string s] 1 := row_one rfl
instance (p : Option Addr) : Row [.pointer p] 1 := row_one rfl
instance (A : Option Addr) (n c : Nat) : Row [.slice A n c] 1 := row_one rfl
instance : Row [.nilIface] 1 := row_one rfl
instance (t : TypeId) (v : Value) : Row [.iface t v] 1 := row_one rfl
instance : Row [.nilFunc] 1 := row_one rfl
instance (f : Fn) (c d : Array Value) : Row [.func f c d] 1 := row_one rfl
instance : Row [] 0 := ⟨rfl, by simp⟩
instance (priority := 50) (v : Value) (l : List Value) (n : Nat) [h : Row [v] 1] [k : Row l n] : Row (v :: l) (n + 1) := ⟨by simp [k.len], fun u hu => (List.mem_cons.1 hu).elim (fun e => h.one u (by simp [e])) (k.one u)⟩
instance (priority := 50) (cs new : List Value) (n : Nat) [h : Row cs n] [k : Row new n] : SetAt cs 0 new new := .whole (by rw [h.len, k.len])
instance (priority := 50) (cs : List Value) (n : Nat) [h : Row cs n] : RowAt cs 0 n cs := .whole h.len
instance (priority := 40) (cs : List Value) : RowAt cs 0 0 [] := ⟨fun j v hv => by simp at hv, rfl⟩
instance (priority := 40) (v : Value) (cs out : List Value) (n : Nat) [h : RowAt cs 0 n out] : RowAt (v :: cs) 0 (n + 1) (v :: out) := ⟨fun j u hu => by
  cases j with
  | zero => simpa using hu
  | succ j => have := h.at_ j u (by simpa using hu); rw [Nat.zero_add] at this ⊢; simpa using this, by simp [h.len]⟩
instance (priority := 40) (v : Value) (cs out : List Value) (off n : Nat) [h : RowAt cs off n out] : RowAt (v :: cs) (off + 1) n out := ⟨fun j u hu => by
  have := h.at_ j u hu
  rw [Nat.add_right_comm]; simpa using this, h.len⟩
/-- equality of two values of many cells -/
class TEq (P : Program) (T : TypeId) (xs ys : List Value) (p : outParam Bool) : Prop where
  eq : ∀ (w : World) (d : Nat), (Op.equalIn (d + 6) T (.agg xs.toArray) (.agg ys.toArray)).run P w = .ok p w
  guard : P.eqGuardType P.depth T = false
section
variable {P : Program} {a : Act} {w : World} {o : Oper}
theorem xBuild {T : TypeId} {z out : List Value} {pl : Nat → Option (Nat × Nat)} [hT : TB P T z pl] {l : List (Nat × Operand)} {ps : List (Nat × Value)} (ho : o.op = .build T l.toArray) (hp : (l.map fun p => (p.1, a.eval p.2)) = ps) [hf : Fills pl z ps out] :
    (execOp a.eval o).run P w = .ok (.value (.agg out.toArray)) w := ex_build ho ps hp (hT.run w ps _ hf.eq)
theorem xEql {T T' : TypeId} {x y : Operand} {xs ys : List Value} {p : Bool} (ho : o.op = .binOp .eql T x y T') (hx : a.eval x = .agg xs.toArray) (hy : a.eval y = .agg ys.toArray) [h : TEq P T xs ys p] :
    (execOp a.eval o).run P w = .ok (.value (.bool p)) w := ex_eql ho hx hy h.guard (by rw [run_eql_struct, h.eq w 9994]; rfl)
theorem xNeq {T T' : TypeId} {x y : Operand} {xs ys : List Value} {p : Bool} (ho : o.op = .binOp .neq T x y T') (hx : a.eval x = .agg xs.toArray) (hy : a.eval y = .agg ys.toArray) [h : TEq P T xs ys p] :
    (execOp a.eval o).run P w = .ok (.value (.bool (!p))) w := ex_neq ho hx hy h.guard (by rw [run_neq_struct, h.eq w 9994]; rfl)
end
section
variable {P : Program} {a : Act} {w : World} {o : Oper}
theorem xEqlP {T T' : TypeId} {x y : Operand} {xs ys : List Value} {q : Prop} [Decidable q] (ho : o.op = .binOp .eql T x y T') (hx : a.eval x = .agg xs.toArray) (hy : a.eval y = .agg ys.toArray) [h : TEq P T xs ys (decide q)] (hq : q) :
    (execOp a.eval o).run P w = .ok (.value (.bool true)) w := by have := xEql (w := w) ho hx hy (h := h); simpa [hq] using this
theorem xEqlN {T T' : TypeId} {x y : Operand} {xs ys : List Value} {q : Prop} [Decidable q] (ho : o.op = .binOp .eql T x y T') (hx : a.eval x = .agg xs.toArray) (hy : a.eval y = .agg ys.toArray) [h : TEq P T xs ys (decide q)] (hq : ¬ q) :
    (execOp a.eval o).run P w = .ok (.value (.bool false)) w := by have := xEql (w := w) ho hx hy (h := h); simpa [hq] using this
theorem xNeqP {T T' : TypeId} {x y : Operand} {xs ys : List Value} {q : Prop} [Decidable q] (ho : o.op = .binOp .neq T x y T') (hx : a.eval x = .agg xs.toArray) (hy : a.eval y = .agg ys.toArray) [h : TEq P T xs ys (decide q)] (hq : q) :
    (execOp a.eval o).run P w = .ok (.value (.bool false)) w := by have := xNeq (w := w) ho hx hy (h := h); simpa [hq] using this
theorem xNeqN {T T' : TypeId} {x y : Operand} {xs ys : List Value} {q : Prop} [Decidable q] (ho : o.op = .binOp .neq T x y T') (hx : a.eval x = .agg xs.toArray) (hy : a.eval y = .agg ys.toArray) [h : TEq P T xs ys (decide q)] (hq : ¬ q) :
    (execOp a.eval o).run P w = .ok (.value (.bool true)) w := by have := xNeq (w := w) ho hx hy (h := h); simpa [hq] using this
end
/-! ### slices that are made and grow -/
section
variable {P : Program} {X : List Nat} {w0 w : World} {L L' : List Fc} {a : Act} {ops : Array Oper} {rest : List Oper} {Q : Exit → Act → World → Prop} {d : Option Tmp} {ty : TypeId} {pos : String} {af : Array Edge}
theorem append_where {base : Nat} {t ty e : TypeId} {i : TypeInfo} {z : Value} {size bytes : Nat} (ht : P.underlying t = some (.slice e)) (hi : P.info? e = some i) (hz : i.zero = some z)
    (hsize : i.size = size) (hby : i.bytes = bytes) {v : Value} {n : Nat} {xs : List Value} (hown : w.ownsRow base e size v n xs)
    {a : Addr} {m c : Nat} {news : List Value} (hl : news.length = m * size) (hnews : ∀ j u, news[j]? = some u → w.cell? (a.add j) = some u) (h1 : ∀ u ∈ news, u.oneCell' = true)
    (h63 : n + m ≤ maxLen) (hbytes : (n + m) * bytes ≤ 140737488355328) {v' : Value} {w' : World} (hr : (Builtin.append_ #[t, t] ty #[v, .slice (some a) m c]).run P w = .ok v' w') (hnil : v' = .slice none 0 0 ↔ v = .slice none 0 0 ∧ m = 0) :
    v'.ownBlock = v.ownBlock ∨ v'.ownBlock = some w.heap.size := by
  subst hsize hby
  have hsmall : n + m ≤ 9223372036854775807 := by simp only [maxLen] at h63; omega
  rcases hown.2 with ⟨rfl, rfl⟩ | ⟨g, cap, cur, rfl, hbg, hg, hnc, hcm, hcs, htake⟩
  · by_cases hm : m = 0
    · rw [hnil.2 ⟨rfl, hm⟩]; exact .inl rfl
    · have hr2 := run_append_nil (P := P) w t ty e i z ht hi hz a m c news hl hnews (by omega) (by omega) (by have hb := hbytes; simp only [Nat.zero_add] at hb; omega)
      rw [hr2] at hr
      injection hr with hr _
      rw [← hr]
      exact .inr rfl
  · by_cases hroom : n + m ≤ cap
    · have hfit : n * i.size + news.length ≤ cur.size := by rw [hl, hcs, ← Nat.add_mul]; exact Nat.mul_le_mul_right _ hroom
      have hr2 := run_append_room (P := P) w t ty e i ht hi g n cap cur hg a m c news hl hnews h1 hroom hfit
      rw [hr2] at hr
      injection hr with hr _
      rw [← hr]
      exact .inl rfl
    · have holds : ∀ j u, xs[j]? = some u → w.cell? ((⟨g, 0, none⟩ : Addr).add j) = some u := hown.cells (g := g) rfl
      have hr2 := run_append_grow (P := P) w t ty e i z ht hi hz ⟨g, 0, none⟩ n cap xs hown.1 holds a m c news hl hnews (by omega) (by omega) (growslice_fits (by omega) hbytes)
      rw [hr2] at hr
      injection hr with hr _
      rw [← hr]
      exact .inr rfl
theorem xAppend {o : Oper} {s x : Operand} {t e : TypeId} {size bytes : Nat} {z : Value} (ho : o.op = .call { callee := .builtin .append, args := #[s, x], argTypes := #[t, t] }) (E : ElT P t e size bytes z)
    {base n : Nat} {v : Value} {xs : List Value} (hs : a.eval s = v) (hown : w.ownsRow base e size v n xs) {A : Option Addr} {m c : Nat} {news : List Value} (hx : a.eval x = .slice A m c) (hA : A = none → m = 0 ∧ c = 0) (hl : news.length = m * size) (hr : Rd w A news)
    (h1 : ∀ u ∈ news, u.oneCell' = true) (hb : (n + m) * bytes ≤ 140737488355328) (hbase : base ≤ w.heap.size) :
    ∃ v' w', (execOp a.eval o).run P w = .ok (.value v') w' ∧ w'.ownsRow base e size v' (n + m) (xs ++ news) ∧ w.grownBy w' v.ownBlock ∧ (v'.ownBlock = v.ownBlock ∨ v'.ownBlock = some w.heap.size) := by
  obtain ⟨i, hi, hz, hsz, hby⟩ := info_parts E.hi
  have hnm : n + m ≤ maxLen := by
    have : n + m ≤ (n + m) * bytes := Nat.le_mul_of_pos_right _ E.hb
    unfold maxLen
    omega
  cases A with
  | none =>
    obtain ⟨rfl, rfl⟩ := hA rfl
    have hn0 : news = [] := List.eq_nil_of_length_eq_zero (by simpa using hl)
    subst hn0
    have hrun := run_append_owned_none (P := P) w base t o.type e i size E.ht hi v n xs hown
    refine ⟨v, w, ?_, by simpa using hown, World.grownBy.refl _ _, .inl rfl⟩
    unfold execOp
    simp only [ho, resolve, invoke, builtin, Sem.run_bind, Sem.run_pure, Result.andThen_ok, List.map_toArray, List.map_cons, List.map_nil, hs, hx, hrun]
  | some ad =>
    have hnews : ∀ j u, news[j]? = some u → w.cell? (ad.add j) = some u := fun j u hu => by
      obtain ⟨b, o', e, hc⟩ := hr j u hu
      obtain rfl := Option.some.inj e
      rw [Addr.add_mid]
      exact hc
    obtain ⟨v', w', hrun, h2, h3, h4⟩ := run_append_own (P := P) w base t o.type e i z size bytes E.ht hi hz hsz hby E.hz E.h0 v n xs hown ad m c news hl hnews h1 hnm hb hbase
    refine ⟨v', w', ?_, h2, h3, append_where E.ht hi hz hsz hby hown hl hnews h1 hnm hb hrun h4⟩
    unfold execOp
    simp only [ho, resolve, invoke, builtin, Sem.run_bind, Sem.run_pure, Result.andThen_ok, List.map_toArray, List.map_cons, List.map_nil, hs, hx, hrun]
theorem St.grow (h : St X w0 w L) {w' : World} {v v' : Value} {n n' : Nat} {e : TypeId} {size : Nat} {xs xs' : List Value} (hr : Repl (.own v n e size xs) (.own v' n' e size xs') L L') (hw : w'.ownsRow w0.heap.size e size v' n' xs') (hg : w.grownBy w' v.ownBlock)
    (hwh : v'.ownBlock = v.ownBlock ∨ v'.ownBlock = some w.heap.size) : St X w0 w' L' := by
  -- where v' stands in a block of its own, that block is new: every fact stands apart from it
  rcases hwh with h1 | h1
  · refine h.turn hr rfl (fun k hk => by show v.ownBlock = some k; rw [← h1]; exact hk) hw hg.os hg.tape hg.output hg.size fun k hk hne => hg.block k hk fun e => hne e.symm
  · have hsep : ∀ {M M' : List Fc}, Repl (.own v n e size xs) (.own v' n' e size xs') M M' → (∀ f ∈ M, f ∈ L) → M.Pairwise Fc.sep → M'.Pairwise Fc.sep := by
      intro M M' hM
      induction hM with
      | head =>
        intro hL hp
        obtain ⟨h2, h3⟩ := List.pairwise_cons.1 hp
        refine List.pairwise_cons.2 ⟨fun g hg' _ k a b => ?_, h3⟩
        have a' : v'.ownBlock = some k := a
        rw [h1] at a'
        have hlt := Fc.bound (h.ok g (hL g (List.mem_cons_of_mem _ hg'))) b
        injection a' with a'
        omega
      | tail hM ih =>
        intro hL hp
        obtain ⟨h2, h3⟩ := List.pairwise_cons.1 hp
        refine List.pairwise_cons.2 ⟨fun g hg' => ?_, ih (fun f hf => hL f (List.mem_cons_of_mem _ hf)) h3⟩
        rcases hM.old g hg' with rfl | ⟨h5, _⟩
        · intro _ k a b
          have b' : v'.ownBlock = some k := b
          rw [h1] at b'
          have hlt := Fc.bound (h.ok _ (hL _ (List.mem_cons_self ..))) a
          injection b' with b'
          omega
        · exact h2 g h5
    have hfr := h.fresh _ hr.mem rfl
    refine ⟨⟨hg.os.trans h.bel.os, hg.tape.trans h.bel.tape, hg.output.trans h.bel.output, Nat.le_trans h.size hg.size, fun k hlt hX => ?_⟩, fun f hf => ?_, hsep hr (fun _ h => h) h.sep, fun f hf hfw k hk => ?_⟩
    · refine (hg.block k (Nat.lt_of_lt_of_le hlt h.size) fun e => ?_).trans (h.bel.block k hlt hX)
      rcases hfr k e.symm with h2 | h2
      · omega
      · exact hX h2
    · rcases hr.old f hf with rfl | ⟨h3, h4⟩
      · exact hw
      · refine Fc.kept (h.ok f h3) hg.size fun k hk => hg.block k (Fc.bound (h.ok f h3) hk) fun e => ?_
        rcases h4 h.sep with h5 | h5
        · exact h5 (by rw [Bool.or_eq_true]; exact .inr rfl) k hk e.symm
        · exact h5
    · rcases hr.old f hf with rfl | ⟨h3, _⟩
      · have hk' : v'.ownBlock = some k := hk
        rw [h1] at hk'
        injection hk' with hk'
        exact .inl (by have := h.size; omega)
      · exact h.fresh f h3 hfw k hk
/-- append to a row of one's own -/
theorem sAppend {L' : Value → List Fc} {t e : TypeId} {size bytes : Nat} {z : Value} [E : TS P t e size bytes z] {s x : Operand} {n m c : Nat} {v : Value} {xs news : List Value} {A : Option Addr} (hS : St X w0 w L) (hx : a.eval x = .slice A m c) (hs : a.eval s = v)
    [hm : HasO v L n e size xs] (hrd : Rd w A news) [hr : ∀ v', RepO v v' n (n + m) e size xs (xs ++ news) L (L' v')] (hA : A = none → m = 0 ∧ c = 0) (hl : news.length = m * size) (h1 : ∀ u ∈ news, u.oneCell' = true) (hb : (n + m) * bytes ≤ 140737488355328)
    (h : ∀ v' w', St X w0 w' (L' v') → wpList P ops Q rest (a.put d v') w') : wpList P ops Q (⟨d, .call { callee := .builtin .append, args := #[s, x], argTypes := #[t, t] }, ty, pos, af, none⟩ :: rest) a w := by
  obtain ⟨v', w', hrun, h2, h3, h4⟩ := xAppend (o := ⟨d, .call { callee := .builtin .append, args := #[s, x], argTypes := #[t, t] }, ty, pos, af, none⟩) rfl E.el hs (hS.own hm.mem) hx hA hl hrd h1 hb hS.size
  exact wpl_run rfl hrun (h v' w' (hS.grow (hr v').rep h2 h3 h4))
end
end Go.Proofs.YtdfeimdhlagebaaDoor
/- S4 -/
namespace Go.Proofs.YtdfeimdhlagebaaDoor
set_option linter.unusedSimpArgs false
set_option linter.unusedVariables false
open Go.RowKit
/-! where a cell stands, in a block of one's own or in what is read -/
class HasC (b O : Nat) (L : List Fc) (off : outParam Nat) (cs : outParam (List Value)) : Prop where
  cell : ∀ {X : List Nat} {w0 w : World}, St X w0 w L → ∀ j v, cs[off + j]? = some v → w.cell? ⟨b, O + j, none⟩ = some v
instance (priority := 100) (b O : Nat) (L : List Fc) (cs : List Value) (T : TypeId) [h : HasB b L cs T] : HasC b O L O cs :=
  ⟨fun hS j v hv => by rw [cell_of_row _ b (O + j) cs.toArray T (0, 0) (hS.blk h.mem)]; simpa using hv⟩
instance (b O : Nat) (L : List Fc) (o off : Nat) (cs : List Value) [h : HasR b O L o off cs] : HasC b O L off cs :=
  ⟨fun hS j v hv => by have := (hS.rd h.mem).range _ v hv; rwa [← Nat.add_assoc, ← h.off] at this⟩
/-- field i of a struct type: where it stands -/
class TFA (P : Program) (T : TypeId) (i : Nat) (off : outParam Nat) : Prop where
  fld : ∃ (fs : Array Field) (f : Field) (s : Nat), P.underlying T = some (.struct fs) ∧ fs[i]? = some f ∧ f.offset = off ∧ (P.info? f.type).map (·.size) = some (s + 1)
section
variable {P : Program} {X : List Nat} {w0 w : World} {L : List Fc} {a : Act} {o : Oper}
theorem xRowC {T : TypeId} {n : Nat} {x : Operand} [hT : TRow P T n] {b O off : Nat} {cs out : List Value} (hS : St X w0 w L) (ho : o.op = .load T x) (hx : a.eval x = .pointer (some ⟨b, O, none⟩)) [hm : HasC b O L off cs] [hr : RowAt cs off n out] :
    (execOp a.eval o).run P w = .ok (.value (.agg out.toArray)) w := by
  obtain ⟨d, hu, hd⟩ := hT.und
  exact ex_load_row ho hx (cs := out) (fun j v hv => hm.cell hS j v (hr.at_ j v hv)) hu hd (by rw [hr.len]; exact hT.size)
theorem xCellC {T : TypeId} {x : Operand} [hT : TOne P T] {b O off : Nat} {cs : List Value} {v : Value} (hS : St X w0 w L) (ho : o.op = .load T x) (hx : a.eval x = .pointer (some ⟨b, O, none⟩)) [hm : HasC b O L off cs] [hr : CellAt cs off v] :
    (execOp a.eval o).run P w = .ok (.value v) w := by
  obtain ⟨d, hu, hd⟩ := hT.und
  exact ex_load_cell ho hx (by have := hm.cell hS 0 v (by simpa using hr.at_); simpa using this) hu hd
theorem xField {T : TypeId} {x : Operand} {i off : Nat} [h : TFA P T i off] {b O : Nat} (ho : o.op = .fieldAddr T x i) (hx : a.eval x = .pointer (some ⟨b, O, none⟩)) :
    (execOp a.eval o).run P w = .ok (.value (.pointer (some ⟨b, O + off, none⟩))) w := by
  obtain ⟨fs, f, s, h1, h2, h3, h4⟩ := h.fld
  exact ex_fieldAt ho hx h1 h2 h4 (by rw [h3])
theorem xMove {x : Operand} (ho : o.op = .move x) : (execOp a.eval o).run P w = .ok (.value (a.eval x)) w := ex_move ho rfl
theorem xAssign {x : Operand} (ho : o.op = .assign x) : (execOp a.eval o).run P w = .ok (.value (a.eval x)) w := ex_assign ho rfl
theorem xInt {op : BinOp} {T T' : TypeId} {x y : Operand} {k : IntKind} {m n : Int} {v : Value} (ho : o.op = .binOp op T x y T') (hx : a.eval x = .int k m) (hy : a.eval y = .int k n) (hg : (eqGuard op T x y (.int k m) (.int k n)).run P w = .ok () w) (hv : (binOp op T (.int k m) (.int k n)).run P w = .ok v w) :
    (execOp a.eval o).run P w = .ok (.value v) w := by
  unfold execOp
  simp only [ho, hx, hy, Sem.run_bind, hg, Result.andThen_ok, hv]
  rfl
theorem xAdd {T T' : TypeId} {x y : Operand} {m n : Int} (ho : o.op = .binOp .add T x y T') (hx : a.eval x = .int .i64 m) (hy : a.eval y = .int .i64 n) (h : -9223372036854775808 ≤ m + n ∧ m + n ≤ 9223372036854775807) :
    (execOp a.eval o).run P w = .ok (.value (.int .i64 (m + n))) w := by
  unfold execOp
  simp only [ho, hx, hy]
  have e : (binOp .add T (.int .i64 m) (.int .i64 n)).run P w = .ok (.int .i64 (m + n)) w := by
    rw [← IntWalk.i64_in (m + n) h]
    rfl
  rw [Sem.run_bind, Sem.run_bind]
  have g : (eqGuard .add T x y (.int .i64 m) (.int .i64 n)).run P w = .ok () w := rfl
  rw [g, Result.andThen_ok, e]
  rfl
theorem xSub {T T' : TypeId} {x y : Operand} {m n : Int} (ho : o.op = .binOp .sub T x y T') (hx : a.eval x = .int .i64 m) (hy : a.eval y = .int .i64 n) (h : -9223372036854775808 ≤ m - n ∧ m - n ≤ 9223372036854775807) :
    (execOp a.eval o).run P w = .ok (.value (.int .i64 (m - n))) w := by
  unfold execOp
  simp only [ho, hx, hy]
  have e : (binOp .sub T (.int .i64 m) (.int .i64 n)).run P w = .ok (.int .i64 (m - n)) w := by
    rw [← IntWalk.i64_in (m - n) h]
    rfl
  rw [Sem.run_bind, Sem.run_bind]
  have g : (eqGuard .sub T x y (.int .i64 m) (.int .i64 n)).run P w = .ok () w := rfl
  rw [g, Result.andThen_ok, e]
  rfl
theorem xEqI {T T' : TypeId} {x y : Operand} {k : IntKind} {m n : Int} (ho : o.op = .binOp .eql T x y T') (hx : a.eval x = .int k m) (hy : a.eval y = .int k n) : (execOp a.eval o).run P w = .ok (.value (.bool (m == n))) w := ex_eqlI ho hx hy rfl
theorem xNeI {T T' : TypeId} {x y : Operand} {k : IntKind} {m n : Int} (ho : o.op = .binOp .neq T x y T') (hx : a.eval x = .int k m) (hy : a.eval y = .int k n) : (execOp a.eval o).run P w = .ok (.value (.bool (m != n))) w := ex_neqI ho hx hy rfl
theorem xCmp {op : BinOp} {T T' : TypeId} {x y : Operand} {k : IntKind} {m n : Int} {p : Bool} (ho : o.op = .binOp op T x y T') (hx : a.eval x = .int k m) (hy : a.eval y = .int k n) (hp : (binOp op T (.int k m) (.int k n)).run P w = .ok (.bool p) w) (hg : (eqGuard op T x y (.int k m) (.int k n)).run P w = .ok () w) :
    (execOp a.eval o).run P w = .ok (.value (.bool p)) w := xInt ho hx hy hg hp
theorem xLss {T T' : TypeId} {x y : Operand} {k : IntKind} {m n : Int} (ho : o.op = .binOp .lss T x y T') (hx : a.eval x = .int k m) (hy : a.eval y = .int k n) : (execOp a.eval o).run P w = .ok (.value (.bool (decide (m < n)))) w := xCmp ho hx hy (by cases k <;> rfl) rfl
theorem xLeq {T T' : TypeId} {x y : Operand} {k : IntKind} {m n : Int} (ho : o.op = .binOp .leq T x y T') (hx : a.eval x = .int k m) (hy : a.eval y = .int k n) : (execOp a.eval o).run P w = .ok (.value (.bool (decide (m ≤ n)))) w := xCmp ho hx hy (by cases k <;> rfl) rfl
theorem xGtr {T T' : TypeId} {x y : Operand} {k : IntKind} {m n : Int} (ho : o.op = .binOp .gtr T x y T') (hx : a.eval x = .int k m) (hy : a.eval y = .int k n) : (execOp a.eval o).run P w = .ok (.value (.bool (decide (m > n)))) w := xCmp ho hx hy (by cases k <;> rfl) rfl
theorem xGeq {T T' : TypeId} {x y : Operand} {k : IntKind} {m n : Int} (ho : o.op = .binOp .geq T x y T') (hx : a.eval x = .int k m) (hy : a.eval y = .int k n) : (execOp a.eval o).run P w = .ok (.value (.bool (decide (m ≥ n)))) w := xCmp ho hx hy (by cases k <;> rfl) rfl
theorem xEqV {T T' : TypeId} {x y : Operand} {k : IntKind} {m n : Int} {t : Bool} (ho : o.op = .binOp .eql T x y T') (hx : a.eval x = .int k m) (hy : a.eval y = .int k n) (ht : (m == n) = t) : (execOp a.eval o).run P w = .ok (.value (.bool t)) w := by subst ht; exact xEqI ho hx hy
theorem xNeV {T T' : TypeId} {x y : Operand} {k : IntKind} {m n : Int} {t : Bool} (ho : o.op = .binOp .neq T x y T') (hx : a.eval x = .int k m) (hy : a.eval y = .int k n) (ht : (m != n) = t) : (execOp a.eval o).run P w = .ok (.value (.bool t)) w := by subst ht; exact xNeI ho hx hy
theorem xLssV {T T' : TypeId} {x y : Operand} {k : IntKind} {m n : Int} {t : Bool} (ho : o.op = .binOp .lss T x y T') (hx : a.eval x = .int k m) (hy : a.eval y = .int k n) (ht : decide (m < n) = t) : (execOp a.eval o).run P w = .ok (.value (.bool t)) w := by subst ht; exact xLss ho hx hy
theorem xLeqV {T T' : TypeId} {x y : Operand} {k : IntKind} {m n : Int} {t : Bool} (ho : o.op = .binOp .leq T x y T') (hx : a.eval x = .int k m) (hy : a.eval y = .int k n) (ht : decide (m ≤ n) = t) : (execOp a.eval o).run P w = .ok (.value (.bool t)) w := by subst ht; exact xLeq ho hx hy
theorem xGtrV {T T' : TypeId} {x y : Operand} {k : IntKind} {m n : Int} {t : Bool} (ho : o.op = .binOp .gtr T x y T') (hx : a.eval x = .int k m) (hy : a.eval y = .int k n) (ht : decide (m > n) = t) : (execOp a.eval o).run P w = .ok (.value (.bool t)) w := by subst ht; exact xGtr ho hx hy
theorem xGeqV {T T' : TypeId} {x y : Operand} {k : IntKind} {m n : Int} {t : Bool} (ho : o.op = .binOp .geq T x y T') (hx : a.eval x = .int k m) (hy : a.eval y = .int k n) (ht : decide (m ≥ n) = t) : (execOp a.eval o).run P w = .ok (.value (.bool t)) w := by subst ht; exact xGeq ho hx hy
theorem xNot {T : TypeId} {x : Operand} {b : Bool} (ho : o.op = .unOp .not T x) (hx : a.eval x = .bool b) : (execOp a.eval o).run P w = .ok (.value (.bool (!b))) w := by
  unfold execOp
  simp only [ho, hx]
  rfl
theorem xPick {c x y : Operand} {t : Bool} (ho : o.op = .pick c x y) (hc : a.eval c = .bool t) : (execOp a.eval o).run P w = .ok (.value (if t = true then a.eval x else a.eval y)) w := ex_pick ho hc rfl
theorem xLen {T e size bytes : Nat} {z : Value} [E : TS P T e size bytes z] {x : Operand} {A : Option Addr} {n c : Nat} (ho : o.op = .call { callee := .builtin .len, args := #[x], argTypes := #[T] }) (hx : a.eval x = .slice A n c) : (execOp a.eval o).run P w = .ok (.value (.int .i64 n)) w := by
  unfold execOp
  simp only [ho, resolve, invoke, builtin, Sem.run_bind, Sem.run_pure, Result.andThen_ok, List.map_toArray, List.map_cons, List.map_nil, hx]
  simp [Builtin.len_, goInt, run_underlying E.el.ht]
theorem xExtract {x : Operand} {i : Nat} {vs : List Value} {v : Value} (ho : o.op = .extract x i) (hx : a.eval x = .tuple vs.toArray) (hv : vs[i]? = some v) : (execOp a.eval o).run P w = .ok (.value v) w := by
  unfold execOp
  simp only [ho, hx, Instr.extract]
  simp [hv]
end
/-! ### a region that draws its order -/
section
variable {P : Program} {ops : Array Oper} {Q : Exit → Act → World → Prop} {md : Region.Mode} {S : World → Prop} {fuel : Nat} {listed : Array Bool} {a : Act} {w w0 : World} {X : List Nat} {L : List Fc}
theorem heldSt {id : Nat} (hS : St X w0 w L) (hm : P.follows .mixedOrders = true) (hQ : HQ Q) (h : HQ Q → ∀ w', St X w0 w' L → wpAnyH P .any ops Q (fun w' => St X w0 w' L) ops.size (Array.replicate ops.size false) a w') : (Code.region id ops true).wp P Q a w :=
  heldQ hm hQ fun hQ => h hQ _ hS.drew
/-- more may be known from here on -/
theorem heldMore {S' : World → Prop} (hS' : ∀ w, S' w → S w) : ∀ (fuel : Nat) (listed : Array Bool) (a : Act) (w : World), wpAnyH P md ops Q S' fuel listed a w → wpAnyH P md ops Q S fuel listed a w
  | 0, _, _, _, h => h
  | fuel + 1, _, _, _, h => ⟨h.1, fun i hi => wpOp_mono (fun a' w' h' => ⟨hS' _ h'.1, heldMore hS' fuel _ a' w' h'.2⟩) (h.2 i hi)⟩
theorem yieldsG {o : Oper} {v : Value} (hw : Region.wanted o (yielded ops a.tmps) = true) (h : ∀ w, S w → (execOp a.eval o).run P w = .ok (.value v) w) : YieldsIf P ops S o v a := .inl ⟨hw, h⟩
theorem yieldsNo {o : Oper} (hw : Region.wanted o (yielded ops a.tmps) = false) : YieldsIf P ops S o undef a := .inr ⟨hw, rfl⟩
theorem heldCall (i : Nat) {l : List Oper} {o : Oper} {f : FuncId} {args args' : Array Value} {R : Ending → World → Prop} (ho : l[i]? = some o) (hr : Region.ready md l.toArray listed = [i]) (hw : Region.wanted o (yielded l.toArray a.tmps) = true) (hrun : (execOp a.eval o).run P w = .ok (.enter f args') w)
    (hc : Calls P f args w R) (hargs : args' = args) (h : ∀ e w', R e w' → ∃ v, e = .returned v ∧ S w' ∧ wpAnyH P md l.toArray Q S fuel (listed.setIfInBounds i true) (a.put o.dst v) w') : wpAnyH P md l.toArray Q S (fuel + 1) listed a w := by
  refine wpAnyH_all hr (by simp) fun j hj => ?_
  obtain rfl : j = i := by simpa using hj
  have ho' : l.toArray[j]? = some o := by simpa using ho
  unfold wpOp
  simp only [ho', hw, if_true]
  refine .inl ?_
  unfold Oper.wp
  rw [hrun, hargs]
  refine hc.mono fun e w' hR => ?_
  obtain ⟨v, rfl, h1, h2⟩ := h e w' hR
  exact ⟨h1, h2⟩
/-- a new block: one alone may come up -/
theorem heldNew (i : Nat) {l : List Oper} {o : Oper} {v : Value} {w' : World} (ho : l[i]? = some o) (hr : Region.ready md l.toArray listed = [i]) (hw : Region.wanted o (yielded l.toArray a.tmps) = true) (hrun : (execOp a.eval o).run P w = .ok (.value v) w') (hS : S w')
    (h : wpAnyH P md l.toArray Q S fuel (listed.setIfInBounds i true) (a.put o.dst v) w') : wpAnyH P md l.toArray Q S (fuel + 1) listed a w := by
  refine wpAnyH_all hr (by simp) fun j hj => ?_
  obtain rfl : j = i := by simpa using hj
  have ho' : l.toArray[j]? = some o := by simpa using ho
  unfold wpOp
  simp only [ho', hw, if_true]
  refine .inl ?_
  unfold Oper.wp
  rw [hrun]
  exact ⟨hS, h⟩
end
theorem wantedNone {d : Option Tmp} {op : Op} {ty : TypeId} {pos : String} {af : Array Edge} {y : Nat → Option Bool} : Region.wanted ⟨d, op, ty, pos, af, none⟩ y = true := rfl
/-! ### steps that leave their side conditions as goals, one after the other -/
section
variable {P : Program} {X : List Nat} {w0 w : World} {L L' : List Fc} {a : Act} {ops : Array Oper} {rest : List Oper} {Q : Exit → Act → World → Prop} {d : Option Tmp} {ty : TypeId} {pos : String} {af : Array Edge} {gd : Option (Nat × Bool)}
theorem wpBuild {T : TypeId} {z out : List Value} {pl : Nat → Option (Nat × Nat)} [hT : TB P T z pl] {l : List (Nat × Operand)} {ps : List (Nat × Value)} (hw : Region.wanted ⟨d, .build T l.toArray, ty, pos, af, gd⟩ (yielded ops a.tmps) = true)
    (hp : (l.map fun p => (p.1, a.eval p.2)) = ps) (hf : Fills pl z ps out) (h : wpList P ops Q rest (a.put d (.agg out.toArray)) w) : wpList P ops Q (⟨d, .build T l.toArray, ty, pos, af, gd⟩ :: rest) a w :=
  wpl_runG hw (xBuild rfl hp) h
theorem wpRow {T : TypeId} {n : Nat} {x : Operand} [hT : TRow P T n] {b O off : Nat} {cs out : List Value} (hS : St X w0 w L) (hw : Region.wanted ⟨d, .load T x, ty, pos, af, gd⟩ (yielded ops a.tmps) = true) (hx : a.eval x = .pointer (some ⟨b, O, none⟩)) (hm : HasC b O L off cs) (hr : RowAt cs off n out)
    (h : wpList P ops Q rest (a.put d (.agg out.toArray)) w) : wpList P ops Q (⟨d, .load T x, ty, pos, af, gd⟩ :: rest) a w :=
  wpl_runG hw (xRowC hS rfl hx) h
theorem wpCell {T : TypeId} {x : Operand} [hT : TOne P T] {b O off : Nat} {cs : List Value} {v : Value} (hS : St X w0 w L) (hw : Region.wanted ⟨d, .load T x, ty, pos, af, gd⟩ (yielded ops a.tmps) = true) (hx : a.eval x = .pointer (some ⟨b, O, none⟩)) (hm : HasC b O L off cs) (hr : CellAt cs off v)
    (h : wpList P ops Q rest (a.put d v) w) : wpList P ops Q (⟨d, .load T x, ty, pos, af, gd⟩ :: rest) a w :=
  wpl_runG hw (xCellC hS rfl hx) h
theorem wpEql {T T' : TypeId} {x y : Operand} {xs ys : List Value} {p : Bool} (hw : Region.wanted ⟨d, .binOp .eql T x y T', ty, pos, af, gd⟩ (yielded ops a.tmps) = true) (hx : a.eval x = .agg xs.toArray) (hy : a.eval y = .agg ys.toArray) (hq : TEq P T xs ys p)
    (h : wpList P ops Q rest (a.put d (.bool p)) w) : wpList P ops Q (⟨d, .binOp .eql T x y T', ty, pos, af, gd⟩ :: rest) a w :=
  wpl_runG hw (xEql rfl hx hy) h
theorem wpNeq {T T' : TypeId} {x y : Operand} {xs ys : List Value} {p : Bool} (hw : Region.wanted ⟨d, .binOp .neq T x y T', ty, pos, af, gd⟩ (yielded ops a.tmps) = true) (hx : a.eval x = .agg xs.toArray) (hy : a.eval y = .agg ys.toArray) (hq : TEq P T xs ys p)
    (h : wpList P ops Q rest (a.put d (.bool (!p))) w) : wpList P ops Q (⟨d, .binOp .neq T x y T', ty, pos, af, gd⟩ :: rest) a w :=
  wpl_runG hw (xNeq rfl hx hy) h
theorem wpEqlB {T T' : TypeId} {x y : Operand} {xs ys : List Value} {p b : Bool} (hw : Region.wanted ⟨d, .binOp .eql T x y T', ty, pos, af, gd⟩ (yielded ops a.tmps) = true) (hx : a.eval x = .agg xs.toArray) (hy : a.eval y = .agg ys.toArray) (hq : TEq P T xs ys p) (hb : p = b)
    (h : wpList P ops Q rest (a.put d (.bool b)) w) : wpList P ops Q (⟨d, .binOp .eql T x y T', ty, pos, af, gd⟩ :: rest) a w :=
  wpEql hw hx hy hq (by rw [hb]; exact h)
theorem wpNeqB {T T' : TypeId} {x y : Operand} {xs ys : List Value} {p b : Bool} (hw : Region.wanted ⟨d, .binOp .neq T x y T', ty, pos, af, gd⟩ (yielded ops a.tmps) = true) (hx : a.eval x = .agg xs.toArray) (hy : a.eval y = .agg ys.toArray) (hq : TEq P T xs ys p) (hb : p = b)
    (h : wpList P ops Q rest (a.put d (.bool (!b))) w) : wpList P ops Q (⟨d, .binOp .neq T x y T', ty, pos, af, gd⟩ :: rest) a w :=
  wpNeq hw hx hy hq (by rw [hb]; exact h)
end
class TArr (P : Program) (T : TypeId) (len e size : outParam Nat) : Prop where
  und : P.underlying T = some (.array len e)
  size : (P.info? e).map (·.size) = some size
section
variable {P : Program} {a : Act} {ops : Array Oper} {rest : List Oper} {Q : Exit → Act → World → Prop} {d : Option Tmp} {ty : TypeId} {pos : String} {af : Array Edge} {gd : Option (Nat × Bool)} {w : World} {o : Oper}
theorem run_idx {T len e size : Nat} [hT : TArr P T len e size] {cs : List Value} {k : IntKind} {n : Int} (h0 : 0 ≤ n) (h1 : n < len) {v : Value} (hp : (part e cs.toArray (n.toNat * size)).run P w = .ok v w) : (Instr.index T (.agg cs.toArray) (.int k n)).run P w = .ok v w := by
  obtain ⟨j, hj, hjs⟩ := Option.map_eq_some_iff.1 hT.size
  subst hjs
  simp only [Instr.index, asIntOf, Sem.run_bind, Sem.run_pure, Result.andThen_ok, run_underlying hT.und, if_pos (show 0 ≤ n ∧ n < (len : Int) from ⟨h0, h1⟩), sizeOf, typeInfo]
  simp [hj, hp]
theorem xIdxR {T len e size : Nat} [hT : TArr P T len e size] [hr : TRow P e size] {x i : Operand} {cs out : List Value} {k : IntKind} {n : Int} {off : Nat} (ho : o.op = .index T x i) (hx : a.eval x = .agg cs.toArray) (hi : a.eval i = .int k n) (hb : 0 ≤ n ∧ n < len) (hn : n.toNat * size = off) [h : RowAt cs off size out] :
    (execOp a.eval o).run P w = .ok (.value (.agg out.toArray)) w := by
  obtain ⟨d, hu, hd⟩ := hr.und
  have hp := part_row (w := w) hu hd hr.size cs.toArray (n.toNat * size)
  have he : cs.toArray.extract (n.toNat * size) (n.toNat * size + size) = out.toArray := by
    subst hn
    apply Array.ext'
    simp only [List.extract_toArray, List.extract_eq_drop_take']
    apply List.ext_getElem?
    intro j
    rw [List.getElem?_drop, List.getElem?_take]
    by_cases hj : j < size
    · rw [if_pos (by omega)]
      have hjo : j < out.length := by rw [h.len]; exact hj
      rw [h.at_ j out[j] (by simp [hjo])]
      simp [hjo]
    · rw [if_neg (by omega), List.getElem?_eq_none (by rw [h.len]; omega)]
  rw [he] at hp
  unfold execOp
  simp only [ho, hx, hi, Sem.run_bind, run_idx hb.1 hb.2 hp, Result.andThen_ok]
  rfl
theorem wpIdxR {T len e size : Nat} [hT : TArr P T len e size] [hr : TRow P e size] {x i : Operand} {cs out : List Value} {k : IntKind} {n : Int} {off : Nat} (hw : Region.wanted ⟨d, .index T x i, ty, pos, af, gd⟩ (yielded ops a.tmps) = true) (hx : a.eval x = .agg cs.toArray) (hi : a.eval i = .int k n) (hb : 0 ≤ n ∧ n < len) (hn : n.toNat * size = off) (h : RowAt cs off size out)
    (hk : wpList P ops Q rest (a.put d (.agg out.toArray)) w) : wpList P ops Q (⟨d, .index T x i, ty, pos, af, gd⟩ :: rest) a w :=
  wpl_runG hw (xIdxR rfl hx hi hb hn) hk
end
/-! ### results that lie in blocks -/
section
variable {P : Program} {X : List Nat} {w0 w : World} {L : List Fc} {fn : Func} {R : Ending → World → Prop} {a : Act}
theorem run_row {T T' : TypeId} {n g off : Nat} {cs out : List Value} [hT : TRow P T n] (hS : St X w0 w L) [hm : HasB g L cs T'] [hr : RowAt cs off n out] : (loadVar T ⟨g, off, none⟩).run P w = .ok (.agg out.toArray) w := by
  obtain ⟨d, hu, hd⟩ := hT.und
  refine run_loadVar_mid w g off T out d (fun j v hv => ?_) hu hd (by rw [hr.len]; exact hT.size)
  rw [cell_of_row w g (off + j) cs.toArray T' (0, 0) (hS.blk hm.mem)]
  simpa using hr.at_ j v hv
theorem run_cell {T T' : TypeId} {g off : Nat} {cs : List Value} {v : Value} [hT : TOne P T] (hS : St X w0 w L) [hm : HasB g L cs T'] [hr : CellAt cs off v] : (loadVar T ⟨g, off, none⟩).run P w = .ok v w := by
  obtain ⟨d, hu, hd⟩ := hT.und
  have hagg : (isAgg T).run P w = .ok false w := by
    unfold isAgg
    rw [Sem.run_bind, run_underlying hu w]
    cases d <;> simp_all
  have hc : w.cell? ⟨g, off, none⟩ = some v := by
    rw [cell_of_row w g off cs.toArray T' (0, 0) (hS.blk hm.mem)]
    simpa using hr.at_
  simp only [loadVar, Sem.run_bind, hagg, Result.andThen_ok]
  simp [load, Sem.run, hc]
theorem retC {p : Tmp} {T T' : TypeId} {n g : Nat} {cs out : List Value} (hS : St X w0 w L) (hf : fn.results = #[.cell p T]) (hp : a.tmps.getD p undef = .pointer (some ⟨g, 0, none⟩)) [TRow P T n] [HasB g L cs T'] [RowAt cs 0 n out] (hds : a.defers = []) (hR : R (.returned (.agg out.toArray)) w) : bodyPost P fn R .ret a w :=
  bodyPost_ret (by have := run_row (P := P) (T := T) (off := 0) (g := g) (out := out) hS; have hp' := hp; rw [Array.getD_eq_getD_getElem?] at hp'; simp only [results, hf]; simp [hp', asAddr, this]) hds hR
theorem retC1 {p : Tmp} {T T' : TypeId} {g : Nat} {cs : List Value} {v : Value} (hS : St X w0 w L) (hf : fn.results = #[.cell p T]) (hp : a.tmps.getD p undef = .pointer (some ⟨g, 0, none⟩)) [TOne P T] [HasB g L cs T'] [CellAt cs 0 v] (hds : a.defers = []) (hR : R (.returned v) w) : bodyPost P fn R .ret a w :=
  bodyPost_ret (by have := run_cell (P := P) (T := T) (off := 0) (g := g) (v := v) hS; have hp' := hp; rw [Array.getD_eq_getD_getElem?] at hp'; simp only [results, hf]; simp [hp', asAddr, this]) hds hR
theorem retCT {p q : Tmp} {T T' : TypeId} {n g : Nat} {cs out : List Value} (hS : St X w0 w L) (hf : fn.results = #[.cell p T, .tmp q]) (hp : a.tmps.getD p undef = .pointer (some ⟨g, 0, none⟩)) [TRow P T n] [HasB g L cs T'] [RowAt cs 0 n out] (hds : a.defers = []) (hR : R (.returned (.tuple #[.agg out.toArray, a.tmps.getD q undef])) w) : bodyPost P fn R .ret a w :=
  bodyPost_ret (by have := run_row (P := P) (T := T) (off := 0) (g := g) (out := out) hS; have hp' := hp; rw [Array.getD_eq_getD_getElem?] at hp'; simp only [results, hf]; simp [hp', asAddr, this]) hds hR
end
end Go.Proofs.YtdfeimdhlagebaaDoor
/- S5 -/
namespace Go.Proofs.YtdfeimdhlagebaaDoor
set_option linter.unusedSimpArgs false
set_option linter.unusedVariables false
open Go.RowKit
/-- a row of one's own, and the other facts -/
class DropO (v : Value) (e : TypeId) (L : List Fc) (n size : outParam Nat) (xs : outParam (List Value)) (M : outParam (List Fc)) : Prop where
  perm : L.Perm (.own v n e size xs :: M)
instance (priority := 100) (v : Value) (e : TypeId) (f : Fc) (L : List Fc) (n size : Nat) (xs : List Value) (M : List Fc) [h : DropO v e L n size xs M] : DropO v e (f :: L) n size xs (f :: M) := ⟨(h.perm.cons f).trans (List.Perm.swap _ _ _)⟩
instance (v : Value) (e : TypeId) (L : List Fc) (n size : Nat) (xs : List Value) : DropO v e (.own v n e size xs :: L) n size xs L := ⟨List.Perm.refl _⟩
instance (priority := 90) (b O : Nat) (f : Fc) (L : List Fc) (off : Nat) (cs : List Value) [h : HasC b O L off cs] : HasC b O (f :: L) off cs := ⟨fun hS => h.cell (hS.tail rfl)⟩
theorem own_cell {w : World} {B g n c : Nat} {e : TypeId} {size : Nat} {xs : List Value} (h : w.ownsRow B e size (.slice (some ⟨g, 0, none⟩) n c) n xs) {j : Nat} {v : Value} (hv : xs[j]? = some v) : w.cell? ⟨g, j, none⟩ = some v := by
  have := h.cells (g := g) rfl j v hv
  rwa [Addr.add_mid, Nat.zero_add] at this
instance (b O : Nat) (L : List Fc) (n c e size : Nat) (xs : List Value) : HasC b O (.own (.slice (some ⟨b, 0, none⟩) n c) n e size xs :: L) O xs :=
  ⟨fun hS j v hv => own_cell (hS.ok _ (List.mem_cons_self ..)) hv⟩
section
variable {P : Program} {X : List Nat} {w0 w : World} {L M : List Fc} {a : Act} {ops : Array Oper} {rest : List Oper} {Q : Exit → Act → World → Prop} {d : Option Tmp} {ty : TypeId} {pos : String} {af : Array Edge} {gd : Option (Nat × Bool)}
/-- a nil slice is a row of one's own -/
theorem St.ownNil (h : St X w0 w L) (e : TypeId) (size : Nat) : St X w0 w (.own (.slice none 0 0) 0 e size [] :: L) :=
  h.cons (World.ownsRow_nil w _ e size) (fun g _ _ k hk _ => by cases hk) (fun _ k hk => by cases hk)
theorem St.own_form (h : St X w0 w L) {v : Value} {e n size : Nat} {xs : List Value} [hd : DropO v e L n size xs M] : ∃ A c, v = .slice A n c ∧ n ≤ c ∧ (A = none → n = 0 ∧ c = 0) ∧ xs.length = n * size := by
  have ho : w.ownsRow w0.heap.size e size v n xs := h.ok _ (hd.perm.mem_iff.2 (List.mem_cons_self ..))
  refine ?_
  rcases ho.2 with ⟨rfl, rfl⟩ | ⟨g, cap, cur, rfl, _, _, hn, _⟩
  · exact ⟨none, 0, rfl, Nat.le_refl _, fun _ => ⟨rfl, rfl⟩, ho.1⟩
  · exact ⟨_, cap, rfl, hn, by simp, ho.1⟩
/-- a row of one's own is read from here on -/
theorem St.own_rd (h : St X w0 w L) {A : Option Addr} {c : Nat} {e n size : Nat} {xs : List Value} [hd : DropO (.slice A n c) e L n size xs M] : St X w0 w (.rd A xs :: M) := by
  have h2 := h.perm hd.perm.symm
  have ho : w.ownsRow w0.heap.size e size (.slice A n c) n xs := h2.ok _ (List.mem_cons_self ..)
  obtain ⟨h3, h4⟩ := List.pairwise_cons.1 h2.sep
  refine (h2.tail rfl).cons ?_ ?_ (by intro hw; cases hw)
  · obtain ⟨A', c', e', _, hr⟩ := own_Rd ho
    injection e' with e1 _ _
    subst e1
    exact hr
  · intro g hg hw k hk hk'
    obtain ⟨_, o, rfl⟩ := hk
    exact h3 g hg rfl k rfl hk'
/-- append, its source a stretch of what is known -/
theorem wpAppend {t e : TypeId} {size bytes : Nat} {z : Value} [E : TS P t e size bytes z] {s x : Operand} {n m c b O off k : Nat} {v : Value} {xs cs out : List Value} (hS : St X w0 w L) (hx : a.eval x = .slice (some ⟨b, O, none⟩) m c) (hs : a.eval s = v)
    (hd : DropO v e L n size xs M) (hc : HasC b O L off cs) (hk : m * size = k) (hr : RowAt cs off k out) (h1 : Row out k) (hb : (n + m) * bytes ≤ 140737488355328)
    (h : ∀ v' w', St X w0 w' (.own v' (n + m) e size (xs ++ out) :: M) → wpList P ops Q rest (a.put d v') w') : wpList P ops Q (⟨d, .call { callee := .builtin .append, args := #[s, x], argTypes := #[t, t] }, ty, pos, af, none⟩ :: rest) a w := by
  have h2 := hS.perm hd.perm.symm
  have hrd : Rd w (some ⟨b, O, none⟩) out := fun j u hu => ⟨b, O, rfl, hc.cell hS j u (hr.at_ j u hu)⟩
  obtain ⟨v', w', hrun, h3, h4, h5⟩ := xAppend (o := ⟨d, .call { callee := .builtin .append, args := #[s, x], argTypes := #[t, t] }, ty, pos, af, none⟩) rfl E.el hs (h2.own (List.mem_cons_self ..)) hx (by simp) (by rw [hr.len, hk]) hrd h1.one hb hS.size
  exact wpl_run rfl hrun (h v' w' (h2.grow .head h3 h4 h5))
/-- append of a slice that is read, nil or not -/
theorem wpAppendA {t e : TypeId} {size bytes : Nat} {z : Value} [E : TS P t e size bytes z] {s x : Operand} {n m c : Nat} {A : Option Addr} {v : Value} {xs cs : List Value} (hS : St X w0 w L) (hx : a.eval x = .slice A m c) (hs : a.eval s = v)
    (hd : DropO v e L n size xs M) (hc : HasA A L cs) (hA : A = none → m = 0 ∧ c = 0) (hl : cs.length = m * size) (h1 : ∀ u ∈ cs, u.oneCell' = true) (hb : (n + m) * bytes ≤ 140737488355328)
    (h : ∀ v' w', St X w0 w' (.own v' (n + m) e size (xs ++ cs) :: M) → wpList P ops Q rest (a.put d v') w') : wpList P ops Q (⟨d, .call { callee := .builtin .append, args := #[s, x], argTypes := #[t, t] }, ty, pos, af, none⟩ :: rest) a w := by
  have h2 := hS.perm hd.perm.symm
  obtain ⟨v', w', hrun, h3, h4, h5⟩ := xAppend (o := ⟨d, .call { callee := .builtin .append, args := #[s, x], argTypes := #[t, t] }, ty, pos, af, none⟩) rfl E.el hs (h2.own (List.mem_cons_self ..)) hx hA hl (hS.rd hc.mem) h1 hb hS.size
  exact wpl_run rfl hrun (h v' w' (h2.grow .head h3 h4 h5))
end
/-! ### a slice built of its parts -/
class Parts (n k : Nat) (ps : List (Nat × Value)) (out : outParam (List Value)) : Prop where
  fill : ∀ pre Z : List Value, pre.length = k * n → Z.length = ps.length * n → Instr.fill (fun i => some (i * n, n)) (pre ++ Z).toArray ps = some (pre ++ out).toArray
instance (n k : Nat) : Parts n k [] [] := ⟨fun pre Z _ hZ => by
  obtain rfl : Z = [] := List.eq_nil_of_length_eq_zero (by simpa using hZ)
  simp [Instr.fill]⟩
theorem Parts.cons {n k : Nat} {v : Value} {ps : List (Nat × Value)} {new out : List Value} (hv : VCells v new) (hn : Row new n) (hp : Parts n (k + 1) ps out) : Parts n k ((k, v) :: ps) (new ++ out) := ⟨fun pre Z hpre hZ => by
  have hl := hn.len
  rw [fill_one _ _ k v ps (k * n) n rfl (by rw [hv.eq]; simpa using hl) (by simp [hpre, hZ, Nat.succ_mul])]
  have e1 : List.take (k * n) (pre ++ Z).toArray.toList = pre := by simp [← hpre]
  have e2 : List.drop (k * n + n) (pre ++ Z).toArray.toList = Z.drop n := by simp [← hpre]
  have ih := hp.fill (pre ++ new) (Z.drop n) (by simp [hpre, hl, Nat.succ_mul]) (by simp [hZ, Nat.succ_mul])
  rw [e1, e2, hv.eq, ← List.append_assoc]
  exact ih⟩
instance (n k : Nat) (v : Value) (ps : List (Nat × Value)) (new out : List Value) [hv : VCells v new] [hn : Row new n] [hp : Parts n (k + 1) ps out] : Parts n k ((k, v) :: ps) (new ++ out) := .cons hv hn hp
instance (n k : Nat) (v : Value) (new : List Value) [hv : VCells v new] [hn : Row new n] : Parts n k [(k, v)] new := by
  have h := Parts.cons (k := k) hv hn (inferInstance : Parts n (k + 1) [] [])
  rwa [List.append_nil] at h
section
variable {P : Program} {X : List Nat} {w0 w : World} {L : List Fc} {a : Act} {ops : Array Oper} {rest : List Oper} {Q : Exit → Act → World → Prop} {d : Option Tmp} {ty : TypeId} {pos : String} {af : Array Edge}
theorem wpBSl {t e : TypeId} {m n bytes : Nat} {z : Value} [E : TS P t e n bytes z] {l : List (Nat × Operand)} {ps : List (Nat × Value)} {out : List Value} (hS : St X w0 w L) (hp : (l.map fun p => (p.1, a.eval p.2)) = ps) (hf : Parts n 0 ps out) (hl : ps.length = m) (h0 : 0 < m ∧ m * n ≤ 16777216)
    (h : ∀ g w', St X w0 w' (.blk g out e :: L) → wpList P ops Q rest (a.put d (.slice (some ⟨g, 0, none⟩) m m)) w') : wpList P ops Q (⟨d, .buildSlice t m l.toArray, ty, pos, af, none⟩ :: rest) a w := by
  obtain ⟨i, hi, hz, hsz, hby⟩ := info_parts E.el.hi
  subst hl
  refine wpList_buildSlice rfl t e ps.length l.toArray rfl out.toArray i z E.el.ht hi hz (by rw [hsz]; omega) (by rw [hsz]; have := E.el.h0; have := Nat.mul_pos h0.1 this; omega) ?_ (h _ _ (hS.alloc out e))
  have e1 : (l.toArray.map fun (x : Nat × Operand) => match x with | (i, x) => (i, a.eval x)).toList = ps := by
    rw [← hp]; simp
  rw [e1, hsz]
  have := hf.fill [] ((Array.range (ps.length * n)).map (z.cells[· % z.cells.size]!)).toList (by simp) (by simp)
  rw [List.nil_append, Array.toArray_toList, List.nil_append] at this
  exact this
end
section
variable {P : Program} {X : List Nat} {w0 w w' : World} {L M : List Fc} {a : Act} {o : Oper}
theorem St.ret1 (h : St X w0 w L) {f : Fc} (hr : Res [] w w' [f]) : St X w0 w' (f :: L) := h.ret hr
theorem St.ret2 (h : St X w0 w L) {f g : Fc} (hr : Res [] w w' [f, g]) : St X w0 w' (f :: g :: L) := h.ret hr
theorem xIndexS {T e size bytes : Nat} {z : Value} [E : TS P T e size bytes z] {x i : Operand} {b off n c : Nat} {k : IntKind} {I : Int} (ho : o.op = .indexAddr T x i) (hx : a.eval x = .slice (some ⟨b, off, none⟩) n c) (hi : a.eval i = .int k I) (h : 0 ≤ I ∧ I < n) :
    (execOp a.eval o).run P w = .ok (.value (.pointer (some ⟨b, off + I.toNat * size, none⟩))) w := by
  obtain ⟨i, h1, _, h2, _⟩ := info_parts E.el.hi
  exact ex_index ho E.el.ht (by rw [h1, Option.map_some, h2]) hx hi h.1 h.2
theorem xEqlB {T T' : TypeId} {x y : Operand} {xs ys : List Value} {p b : Bool} (ho : o.op = .binOp .eql T x y T') (hx : a.eval x = .agg xs.toArray) (hy : a.eval y = .agg ys.toArray) [h : TEq P T xs ys p] (hb : p = b) :
    (execOp a.eval o).run P w = .ok (.value (.bool b)) w := by subst hb; exact xEql ho hx hy
theorem xNeqB {T T' : TypeId} {x y : Operand} {xs ys : List Value} {p b : Bool} (ho : o.op = .binOp .neq T x y T') (hx : a.eval x = .agg xs.toArray) (hy : a.eval y = .agg ys.toArray) [h : TEq P T xs ys p] (hb : p = b) :
    (execOp a.eval o).run P w = .ok (.value (.bool (!b))) w := by subst hb; exact xNeq ho hx hy
/-- one of many cells or rows -/
theorem xNthC {T : TypeId} {x : Operand} [hT : TOne P T] {b O O' off k : Nat} {cs : List Value} {v : Value} (hS : St X w0 w L) (ho : o.op = .load T x) (hx : a.eval x = .pointer (some ⟨b, O', none⟩)) [hm : HasC b O L off cs] (hO : O' = O + k) (hc : cs[off + k]? = some v) :
    (execOp a.eval o).run P w = .ok (.value v) w := by
  obtain ⟨d, hu, hd⟩ := hT.und
  subst hO
  exact ex_load_cell ho hx (hm.cell hS k v hc) hu hd
theorem xNthRow {T : TypeId} {n : Nat} {x : Operand} [hT : TRow P T n] {b O O' off k : Nat} {cs out : List Value} (hS : St X w0 w L) (ho : o.op = .load T x) (hx : a.eval x = .pointer (some ⟨b, O', none⟩)) [hm : HasC b O L off cs] (hO : O' = O + k) (hl : out.length = n) (hc : ∀ j v, out[j]? = some v → cs[off + (k + j)]? = some v) :
    (execOp a.eval o).run P w = .ok (.value (.agg out.toArray)) w := by
  obtain ⟨d, hu, hd⟩ := hT.und
  subst hO
  exact ex_load_row ho hx (cs := out) (fun j v hv => by rw [Nat.add_assoc]; exact hm.cell hS (k + j) v (hc j v hv)) hu hd (by rw [hl]; exact hT.size)
end
/-! ### append of zeros to nil -/
section
variable {P : Program} {X : List Nat} {w0 w : World} {L M : List Fc} {a : Act} {o : Oper}
theorem xAppendZ {s x : Operand} {t e xt : TypeId} {size bytes : Nat} {z : Value} {n : Nat} [E : TS P t e size bytes z] {k : IntKind} (hxt : P.underlying xt = some (.int k)) (ho : o.op = .call { callee := .builtin .append, args := #[s, x], argTypes := #[t, xt] }) (hs : a.eval s = .slice none 0 0) (hx : a.eval x = .int .i64 n)
    (h0 : 0 < n) (hb : n * bytes ≤ 140737488355328) {base : Nat} (hbase : base ≤ w.heap.size) :
    ∃ v' w', (execOp a.eval o).run P w = .ok (.value v') w' ∧ w'.ownsRow base e size v' n ((List.range (n * size)).map fun i => z.cells[i % size]!) ∧ w.grownBy w' none ∧ v'.ownBlock = some w.heap.size := by
  obtain ⟨i, hi, hz, hsz, hby⟩ := info_parts E.el.hi
  have hzs := E.el.hz
  have hpos := E.el.h0
  have hbp := E.el.hb
  subst hsz hby
  have hn : n ≤ n * i.bytes := Nat.le_mul_of_pos_right _ hbp
  have hn0 : n ≠ 0 := by omega
  have hw : IntKind.i64.wrap (n : Int) = n := IntWalk.i64_in _ (by omega)
  have h48 : ¬ (281474976710656 < Builtin.nextslicecap n 0 * i.bytes) := by rw [nextslicecap_zero h0]; omega
  have h48' : ¬ (281474976710656 : Int) < (n : Int) * (i.bytes : Int) := by
    have : ((n * i.bytes : Nat) : Int) ≤ 140737488355328 := by omega
    rw [Int.natCast_mul] at this
    omega
  have h63 : ¬ (9223372036854775807 < (n : Int)) := by omega
  have hs0 : ¬ (n = 0 ∨ i.size = 0) := by omega
  have hneg : ¬ ((n : Int) < 0) := by omega
  have hns : ¬ n * i.size = 0 := Nat.mul_ne_zero hn0 (by omega)
  refine ⟨.slice (some ⟨w.heap.size, 0, none⟩) n (grownCap w n 0 e), w.drew.alloc (.cells (Builtin.zeroCells z.cells n ++ Builtin.zeroCells z.cells (grownCap w n 0 e - n)) e), ?_, ⟨by simp, .inr ⟨w.heap.size, _, _, rfl, hbase, heap_alloc_new w.drew _, grownCap_ge w n 0 e, grownCap_le_maxLen w n 0 e (by unfold maxLen; omega), ?_, ?_⟩⟩, ⟨rfl, rfl, rfl, by simp, fun k hk _ => Below.heap_alloc w.drew _ k hk⟩, rfl⟩
  · unfold execOp
    simp only [ho, resolve, invoke, builtin, Sem.run_bind, Sem.run_pure, Result.andThen_ok, List.map_toArray, List.map_cons, List.map_nil, hs, hx]
    simp [Builtin.append_, run_underlying E.el.ht, run_underlying hxt, sizeOf, typeInfo, zeroValue, hi, hz, asInt, asIntOf, hw, hneg, h48, h48', h63, hs0, hn0, hns, Question.forced, run_firstCells_none, Builtin.firstCells, newRow, grownCap]
  · simp only [Array.size_append, size_zeroCells, hzs, ← Nat.add_mul]
    congr 1
    have := grownCap_ge w n 0 e
    omega
  · rw [Array.toList_append, List.take_append_of_le_length (by simp [size_zeroCells, hzs]), List.take_of_length_le (by simp [size_zeroCells, hzs])]
    simp [Builtin.zeroCells, hzs]
/-- less of a row of one's own -/
theorem St.shrink (h : St X w0 w L) {A : Option Addr} {c e n m size : Nat} {xs : List Value} [hd : DropO (.slice A n c) e L n size xs M] (hm : m ≤ n) (hA : A ≠ none) : St X w0 w (.own (.slice A m c) m e size (xs.take (m * size)) :: M) := by
  have h2 := h.perm hd.perm.symm
  have ho : w.ownsRow w0.heap.size e size (.slice A n c) n xs := h2.ok _ (List.mem_cons_self ..)
  obtain ⟨h3, h4⟩ := List.pairwise_cons.1 h2.sep
  have hfr := h2.fresh _ (List.mem_cons_self ..) rfl
  have hbk : (Value.slice A m c).ownBlock = (Value.slice A n c).ownBlock := by cases A <;> rfl
  refine (h2.tail rfl).cons ?_ ?_ fun _ k hk => hfr k (by show (Value.slice A n c).ownBlock = some k; rw [← hbk]; exact hk)
  · refine ⟨by rw [List.length_take, ho.1]; exact Nat.min_eq_left (Nat.mul_le_mul_right _ hm), ?_⟩
    rcases ho.2 with ⟨h5, _⟩ | ⟨g, cap, cur, h5, hg, hh, hn, hmx, hcs, ht⟩
    · injection h5 with h5; exact (hA h5).elim
    · injection h5 with h5 _ h6
      subst h5 h6
      refine .inr ⟨g, c, cur, rfl, hg, hh, by omega, hmx, hcs, ?_⟩
      rw [← ht, List.take_take, Nat.min_eq_left (Nat.mul_le_mul_right _ hm)]
  · intro g hg _ k hk hk'
    exact h3 g hg rfl k (by show (Value.slice A n c).ownBlock = some k; rw [← hbk]; exact hk) hk'
theorem St.newOwn (h : St X w0 w L) {w' : World} {v : Value} {e n size : Nat} {xs : List Value} (ho : w'.ownsRow w0.heap.size e size v n xs) (hg : w.grownBy w' none) (hv : v.ownBlock = some w.heap.size) : St X w0 w' (.own v n e size xs :: L) := by
  have hb : Below w.heap.size w w' := ⟨hg.os, hg.tape, hg.output, hg.size, fun k hk => hg.block k hk (by simp)⟩
  refine (h.call hb).cons ho ?_ ?_
  · intro g hg' _ k hk hk'
    have hk2 : v.ownBlock = some k := hk
    rw [hv] at hk2
    injection hk2 with hk2
    have := Fc.bound (h.ok g hg') hk'
    omega
  · intro _ k hk
    have hk2 : v.ownBlock = some k := hk
    rw [hv] at hk2
    injection hk2 with hk2
    exact .inl (by have := h.size; omega)
end
section
variable {P : Program} {X : List Nat} {w0 w : World} {L M : List Fc} {a : Act} {ops : Array Oper} {rest : List Oper} {Q : Exit → Act → World → Prop} {d : Option Tmp} {ty : TypeId} {pos : String} {af : Array Edge} {gd : Option (Nat × Bool)}
theorem wpAppendZ {s x : Operand} {t e xt : TypeId} {size bytes : Nat} {z : Value} {n : Nat} [E : TS P t e size bytes z] {k : IntKind} (hxt : P.underlying xt = some (.int k)) (hS : St X w0 w L) (hs : a.eval s = .slice none 0 0) (hx : a.eval x = .int .i64 n) (h0 : 0 < n) (hb : n * bytes ≤ 140737488355328)
    (h : ∀ g c w', St X w0 w' (.own (.slice (some ⟨g, 0, none⟩) n c) n e size ((List.range (n * size)).map fun i => z.cells[i % size]!) :: L) → wpList P ops Q rest (a.put d (.slice (some ⟨g, 0, none⟩) n c)) w') : wpList P ops Q (⟨d, .call { callee := .builtin .append, args := #[s, x], argTypes := #[t, xt] }, ty, pos, af, none⟩ :: rest) a w := by
  obtain ⟨v', w', hrun, h2, h3, h4⟩ := xAppendZ (o := ⟨d, .call { callee := .builtin .append, args := #[s, x], argTypes := #[t, xt] }, ty, pos, af, none⟩) hxt rfl hs hx h0 hb (base := w0.heap.size) hS.size
  have hS' := hS.newOwn h2 h3 h4
  rcases h2.2 with ⟨rfl, h5⟩ | ⟨g, cap, cur, rfl, _⟩
  · omega
  · exact wpl_run rfl hrun (h g cap w' hS')
end
end Go.Proofs.YtdfeimdhlagebaaDoor
