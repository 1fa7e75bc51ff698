/- Single operations over what is known of the world. -/
import Derived.Test.YthinpbgbnlohpaaS1
namespace Go.Proofs.Ythinpbgbnlohpaa
set_option linter.unusedSimpArgs false
set_option linter.unusedVariables false
open Go.RowKit

class TRow (P : Program) (T : TypeId) (n : outParam Nat) : Prop where
  und : ∃ d, P.underlying T = some d ∧ d.isRow = true
  size : (P.info? T).map (·.size) = some n
class TOne (P : Program) (T : TypeId) : Prop where
  und : ∃ d, P.underlying T = some d ∧ d.isRow = false
  size : (P.info? T).map (·.size) = some 1
class TZ (P : Program) (T : TypeId) (cs : outParam (List Value)) : Prop where
  zero : ∃ z, (P.info? T).map (fun i => (i.zero, i.size)) = some (some z, z.cells.size) ∧ z.cells = cs.toArray
class TS (P : Program) (T : TypeId) (e size bytes : outParam Nat) (z : outParam Value) : Prop where
  el : ElT P T e size bytes z
/-- so many cells, each one by itself -/
class Row (cs : List Value) (n : outParam Nat) : Prop where
  len : cs.length = n
  one : ∀ v ∈ cs, v.oneCell' = true
class CellAt (cs : List Value) (off : Nat) (v : outParam Value) : Prop where
  at_ : cs[off]? = some v
class RowAt (cs : List Value) (off n : Nat) (out : outParam (List Value)) : Prop where
  at_ : ∀ j v, out[j]? = some v → cs[off + j]? = some v
  len : out.length = n
class SetAt (cs : List Value) (off : Nat) (new : List Value) (out : outParam (List Value)) : Prop where
  eq : out = cs.take off ++ new ++ cs.drop (off + new.length)
  fit : off + new.length ≤ cs.length

instance (v : Value) (l : List Value) : CellAt (v :: l) 0 v := ⟨rfl⟩
instance (u v : Value) (l : List Value) (n : Nat) [h : CellAt l n v] : CellAt (u :: l) (n + 1) v := ⟨h.at_⟩
theorem RowAt.whole {cs : List Value} {n : Nat} (h : cs.length = n) : RowAt cs 0 n cs := ⟨fun j v hv => by rw [Nat.zero_add]; exact hv, h⟩
theorem SetAt.whole {cs new : List Value} (h : cs.length = new.length) : SetAt cs 0 new new :=
  ⟨by rw [Nat.zero_add, ← h, List.drop_length, List.append_nil, List.take_zero, List.nil_append], by omega⟩
instance (b : B32) : Row b.cells 32 := ⟨B32.cells_length b, B32.cells_one b⟩
instance (b : B32) : RowAt b.cells 0 32 b.cells := .whole (B32.cells_length b)
instance (b c : B32) : SetAt b.cells 0 c.cells c.cells := .whole (by rw [B32.cells_length, B32.cells_length])
instance (u v : Value) (l : List Value) : SetAt (u :: l) 0 [v] (v :: l) := ⟨by simp, by simp⟩
instance (u v : Value) (l out : List Value) (n : Nat) [h : SetAt l n [v] out] : SetAt (u :: l) (n + 1) [v] (u :: out) := ⟨by rw [h.eq]; simp [Nat.add_right_comm], by have := h.fit; simp at this ⊢; omega⟩

/-! facts that are found by their block -/
class HasB (g : Nat) (L : List Fc) (cs : outParam (List Value)) (T : outParam TypeId) : Prop where
  mem : Fc.blk g cs T ∈ L
instance (priority := 100) (g : Nat) (f : Fc) (L : List Fc) (cs : List Value) (T : TypeId) [h : HasB g L cs T] : HasB g (f :: L) cs T := ⟨List.mem_cons_of_mem _ h.mem⟩
instance (g : Nat) (L : List Fc) (cs : List Value) (T : TypeId) : HasB g (.blk g cs T :: L) cs T := ⟨List.mem_cons_self ..⟩
class HasR (b O : Nat) (L : List Fc) (o off : outParam Nat) (cs : outParam (List Value)) : Prop where
  mem : Fc.rd (some ⟨b, o, none⟩) cs ∈ L
  off : O = o + off
instance (priority := 100) (b O : Nat) (f : Fc) (L : List Fc) (o off : Nat) (cs : List Value) [h : HasR b O L o off cs] : HasR b O (f :: L) o off cs := ⟨List.mem_cons_of_mem _ h.mem, h.off⟩
instance (b o off : Nat) (L : List Fc) (cs : List Value) : HasR b (o + off) (.rd (some ⟨b, o, none⟩) cs :: L) o off cs := ⟨List.mem_cons_self .., rfl⟩
instance (b o : Nat) (L : List Fc) (cs : List Value) : HasR b o (.rd (some ⟨b, o, none⟩) cs :: L) o 0 cs := ⟨List.mem_cons_self .., rfl⟩
/-- a slice: its cells -/
class HasA (A : Option Addr) (L : List Fc) (cs : outParam (List Value)) : Prop where
  mem : Fc.rd A cs ∈ L
instance (priority := 100) (A : Option Addr) (f : Fc) (L : List Fc) (cs : List Value) [h : HasA A L cs] : HasA A (f :: L) cs := ⟨List.mem_cons_of_mem _ h.mem⟩
instance (A : Option Addr) (L : List Fc) (cs : List Value) : HasA A (.rd A cs :: L) cs := ⟨List.mem_cons_self ..⟩
/-- a row of one's own -/
class HasO (v : Value) (L : List Fc) (n : outParam Nat) (e : outParam TypeId) (size : outParam Nat) (xs : outParam (List Value)) : Prop where
  mem : Fc.own v n e size xs ∈ L
instance (priority := 100) (v : Value) (f : Fc) (L : List Fc) (n e size : Nat) (xs : List Value) [h : HasO v L n e size xs] : HasO v (f :: L) n e size xs := ⟨List.mem_cons_of_mem _ h.mem⟩
instance (v : Value) (L : List Fc) (n e size : Nat) (xs : List Value) : HasO v (.own v n e size xs :: L) n e size xs := ⟨List.mem_cons_self ..⟩
class RepB (g : Nat) (cs cs' : List Value) (T : TypeId) (L : List Fc) (L' : outParam (List Fc)) : Prop where
  rep : Repl (.blk g cs T) (.blk g cs' T) L L'
instance (priority := 100) (g : Nat) (cs cs' : List Value) (T : TypeId) (f : Fc) (L L' : List Fc) [h : RepB g cs cs' T L L'] : RepB g cs cs' T (f :: L) (f :: L') := ⟨.tail h.rep⟩
instance (g : Nat) (cs cs' : List Value) (T : TypeId) (L : List Fc) : RepB g cs cs' T (.blk g cs T :: L) (.blk g cs' T :: L) := ⟨.head⟩
class RepO (v v' : Value) (n n' : Nat) (e : TypeId) (size : Nat) (xs xs' : List Value) (L : List Fc) (L' : outParam (List Fc)) : Prop where
  rep : Repl (.own v n e size xs) (.own v' n' e size xs') L L'
instance (priority := 100) (v v' : Value) (n n' : Nat) (e : TypeId) (size : Nat) (xs xs' : List Value) (f : Fc) (L L' : List Fc) [h : RepO v v' n n' e size xs xs' L L'] : RepO v v' n n' e size xs xs' (f :: L) (f :: L') := ⟨.tail h.rep⟩
instance (v v' : Value) (n n' : Nat) (e : TypeId) (size : Nat) (xs xs' : List Value) (L : List Fc) : RepO v v' n n' e size xs xs' (.own v n e size xs :: L) (.own v' n' e size xs' :: L) := ⟨.head⟩

section
variable {P : Program} {X : List Nat} {w0 w : World} {L : List Fc} {a : Act} {o : Oper}
theorem St.blk (h : St X w0 w L) {g : Nat} {cs : List Value} {T : TypeId} (hm : Fc.blk g cs T ∈ L) : w.heap[g]? = some (.cells cs.toArray T (0, 0)) := h.ok _ hm
theorem St.rd (h : St X w0 w L) {A : Option Addr} {cs : List Value} (hm : Fc.rd A cs ∈ L) : Rd w A cs := h.ok _ hm
theorem St.own (h : St X w0 w L) {v : Value} {n : Nat} {e : TypeId} {size : Nat} {xs : List Value} (hm : Fc.own v n e size xs ∈ L) : w.ownsRow w0.heap.size e size v n xs := h.ok _ hm
theorem ex_row {T T' : TypeId} {n : Nat} {x : Operand} [hT : TRow P T n] {g off : Nat} {cs out : List Value} [hr : RowAt cs off n out] (ho : o.op = .load T x) (hx : a.eval x = .pointer (some ⟨g, off, none⟩)) (hb : w.heap[g]? = some (.cells cs.toArray T' (0, 0))) :
    (execOp a.eval o).run P w = .ok (.value (.agg out.toArray)) w := by
  obtain ⟨d, hu, hd⟩ := hT.und
  refine ex_load_row ho hx (cs := out) (fun j v hv => ?_) hu hd (by rw [hr.len]; exact hT.size)
  rw [cell_of_row w g (off + j) cs.toArray T' (0, 0) hb]
  simpa using hr.at_ j v hv
theorem ex_cell {T T' : TypeId} {x : Operand} [hT : TOne P T] {g off : Nat} {cs : List Value} {v : Value} [hr : CellAt cs off v] (ho : o.op = .load T x) (hx : a.eval x = .pointer (some ⟨g, off, none⟩)) (hb : w.heap[g]? = some (.cells cs.toArray T' (0, 0))) :
    (execOp a.eval o).run P w = .ok (.value v) w := by
  obtain ⟨d, hu, hd⟩ := hT.und
  refine ex_load_cell ho hx ?_ hu hd
  rw [cell_of_row w g off cs.toArray T' (0, 0) hb]
  simpa using hr.at_
theorem ex_rowR {T : TypeId} {n : Nat} {x : Operand} [hT : TRow P T n] {b o1 off : Nat} {cs out : List Value} [hr : RowAt cs off n out] (ho : o.op = .load T x) (hx : a.eval x = .pointer (some ⟨b, o1 + off, none⟩)) (hb : Rd w (some ⟨b, o1, none⟩) cs) :
    (execOp a.eval o).run P w = .ok (.value (.agg out.toArray)) w := by
  obtain ⟨d, hu, hd⟩ := hT.und
  refine ex_load_row ho hx (cs := out) (fun j v hv => ?_) hu hd (by rw [hr.len]; exact hT.size)
  have := hb.range _ v (hr.at_ j v hv)
  rwa [← Nat.add_assoc] at this
theorem ex_cellR {T : TypeId} {x : Operand} [hT : TOne P T] {b o1 off : Nat} {cs : List Value} {v : Value} [hr : CellAt cs off v] (ho : o.op = .load T x) (hx : a.eval x = .pointer (some ⟨b, o1 + off, none⟩)) (hb : Rd w (some ⟨b, o1, none⟩) cs) :
    (execOp a.eval o).run P w = .ok (.value v) w := by
  obtain ⟨d, hu, hd⟩ := hT.und
  exact ex_load_cell ho hx (hb.range _ v hr.at_) hu hd
/-! the same, out of St -/
theorem xRow {T T' : TypeId} {n : Nat} {x : Operand} [TRow P T n] {g off : Nat} {cs out : List Value} (hS : St X w0 w L) (ho : o.op = .load T x) (hx : a.eval x = .pointer (some ⟨g, off, none⟩)) [hm : HasB g L cs T'] [RowAt cs off n out] :
    (execOp a.eval o).run P w = .ok (.value (.agg out.toArray)) w := ex_row ho hx (hS.blk hm.mem)
theorem xCell {T T' : TypeId} {x : Operand} [TOne P T] {g off : Nat} {cs : List Value} {v : Value} (hS : St X w0 w L) (ho : o.op = .load T x) (hx : a.eval x = .pointer (some ⟨g, off, none⟩)) [hm : HasB g L cs T'] [CellAt cs off v] :
    (execOp a.eval o).run P w = .ok (.value v) w := ex_cell ho hx (hS.blk hm.mem)
theorem xRowR {T : TypeId} {n : Nat} {x : Operand} [TRow P T n] {b O o1 off : Nat} {cs out : List Value} (hS : St X w0 w L) (ho : o.op = .load T x) (hx : a.eval x = .pointer (some ⟨b, O, none⟩)) [hm : HasR b O L o1 off cs] [RowAt cs off n out] :
    (execOp a.eval o).run P w = .ok (.value (.agg out.toArray)) w := ex_rowR ho (hm.off ▸ hx) (hS.rd hm.mem)
theorem xCellR {T : TypeId} {x : Operand} [TOne P T] {b O o1 off : Nat} {cs : List Value} {v : Value} (hS : St X w0 w L) (ho : o.op = .load T x) (hx : a.eval x = .pointer (some ⟨b, O, none⟩)) [hm : HasR b O L o1 off cs] [CellAt cs off v] :
    (execOp a.eval o).run P w = .ok (.value v) w := ex_cellR ho (hm.off ▸ hx) (hS.rd hm.mem)
/-- one cell of a row of cells that have one form -/
theorem xNth {T T' : TypeId} {x : Operand} [TOne P T] {g off : Nat} {cs : List Value} {v : Value} (hS : St X w0 w L) (ho : o.op = .load T x) (hx : a.eval x = .pointer (some ⟨g, off, none⟩)) [hm : HasB g L cs T'] (hc : cs[off]? = some v) :
    (execOp a.eval o).run P w = .ok (.value v) w := @ex_cell P w a o T T' x _ g off cs v ⟨hc⟩ ho hx (hS.blk hm.mem)
theorem xNthR {T : TypeId} {x : Operand} [TOne P T] {b o1 off O : Nat} {cs : List Value} {v : Value} (hS : St X w0 w L) (ho : o.op = .load T x) (hx : a.eval x = .pointer (some ⟨b, O, none⟩)) [hm : HasR b O L o1 off cs] (hc : cs[off]? = some v) :
    (execOp a.eval o).run P w = .ok (.value v) w := @ex_cellR P w a o T x _ b o1 off cs v ⟨hc⟩ ho (hm.off ▸ hx) (hS.rd hm.mem)
theorem xBox {T : TypeId} {x : Operand} {v : Value} {cs : List Value} (ho : o.op = .box T x) (hx : a.eval x = v) (hv : v.cells = cs.toArray) : (execOp a.eval o).run P w = .ok (.value (.pointer (some ⟨w.heap.size, 0, none⟩))) (w.alloc (.cells cs.toArray T)) := by
  unfold execOp
  simp only [ho, hx, Instr.box, newVar, newRow, newObj, Sem.run_bind, Sem.run_pure, hv]
  rfl
theorem xAlloc {T : TypeId} {cs : List Value} [hz : TZ P T cs] (ho : o.op = .alloc T) : (execOp a.eval o).run P w = .ok (.value (.pointer (some ⟨w.heap.size, 0, none⟩))) (w.alloc (.cells cs.toArray T)) := by
  obtain ⟨z, h1, h2⟩ := hz.zero
  rw [← h2]
  exact ex_alloc ho h1
end
section
variable {P : Program} {X : List Nat} {w0 w : World} {L L' : List Fc} {a : Act} {ops : Array Oper} {rest : List Oper} {Q : Exit → Act → World → Prop} {d : Option Tmp} {ty : TypeId} {pos : String} {af : Array Edge}
theorem sBox {T : TypeId} {x : Operand} {cs : List Value} (hS : St X w0 w L) (hx : a.eval x = .agg cs.toArray)
    (h : ∀ g w', St X w0 w' (.blk g cs T :: L) → wpList P ops Q rest (a.put d (.pointer (some ⟨g, 0, none⟩))) w') : wpList P ops Q (⟨d, .box T x, ty, pos, af, none⟩ :: rest) a w :=
  wpl_run rfl (xBox rfl hx rfl) (h _ _ (hS.alloc cs T))
theorem sBox1 {T : TypeId} {x : Operand} {v : Value} (hS : St X w0 w L) (hx : a.eval x = v) (hv : v.cells = #[v])
    (h : ∀ g w', St X w0 w' (.blk g [v] T :: L) → wpList P ops Q rest (a.put d (.pointer (some ⟨g, 0, none⟩))) w') : wpList P ops Q (⟨d, .box T x, ty, pos, af, none⟩ :: rest) a w :=
  wpl_run rfl (xBox (cs := [v]) rfl hx hv) (h _ _ (hS.alloc [v] T))
theorem sAlloc {T : TypeId} {cs : List Value} [TZ P T cs] (hS : St X w0 w L)
    (h : ∀ g w', St X w0 w' (.blk g cs T :: L) → wpList P ops Q rest (a.put d (.pointer (some ⟨g, 0, none⟩))) w') : wpList P ops Q (⟨d, .alloc T, ty, pos, af, none⟩ :: rest) a w :=
  wpl_run rfl (xAlloc rfl) (h _ _ (hS.alloc cs T))
theorem St.put (h : St X w0 w L) {w' : World} {g : Nat} {cs cs' : List Value} {T : TypeId} (hr : Repl (.blk g cs T) (.blk g cs' T) L L') (hb : w'.heap[g]? = some (.cells cs'.toArray T (0, 0))) (hbel : ∀ B w0, Below B w0 w → B ≤ g → Below B w0 w')
    (hsz : w'.heap.size = w.heap.size) (hk : ∀ k, k ≠ g → w'.heap[k]? = w.heap[k]?) : St X w0 w' L' := by
  have h0 := hbel 0 w (Below.refl _ _) (Nat.zero_le _)
  exact h.turn hr rfl (fun k hk => hk) hb h0.os h0.tape h0.output (by omega) fun k _ hne => hk k hne
/-- a value of many cells into a block of one's own, from its head on or in its midst -/
theorem sStore {T T' : TypeId} {n : Nat} {p x : Operand} [hT : TRow P T n] {g off : Nat} {cs new cs' : List Value} (hS : St X w0 w L) (hp : a.eval p = .pointer (some ⟨g, off, none⟩)) (hx : a.eval x = .agg new.toArray) [hm : HasB g L cs T'] [hn : Row new n] [hs : SetAt cs off new cs'] [hr : RepB g cs cs' T' L L']
    (h : ∀ w', St X w0 w' L' → wpList P ops Q rest (a.put d undef) w') : wpList P ops Q (⟨d, .store T p x, ty, pos, af, none⟩ :: rest) a w := by
  refine wplStoreMid rfl rfl hp hx (hS.blk hm.mem) (by rw [hn.len]; exact hT.size) (by simpa using hs.fit) hn.one ?_
  intro w' h1 h2 h3 h4
  refine h w' (hS.put hr.rep ?_ h4 h2 h3)
  rw [hs.eq]
  simpa using h1
theorem sStore1 {T T' : TypeId} {p x : Operand} [hT : TOne P T] {g off : Nat} {cs cs' : List Value} {v : Value} (hS : St X w0 w L) (hp : a.eval p = .pointer (some ⟨g, off, none⟩)) (hx : a.eval x = v) (hv : v.oneCell' = true) [hm : HasB g L cs T'] [hs : SetAt cs off [v] cs'] [hr : RepB g cs cs' T' L L']
    (h : ∀ w', St X w0 w' L' → wpList P ops Q rest (a.put d undef) w') : wpList P ops Q (⟨d, .store T p x, ty, pos, af, none⟩ :: rest) a w := by
  have hf := hs.fit
  simp only [List.length_singleton] at hf
  refine wplStoreCell rfl rfl hp hx (hS.blk hm.mem) hT.size (by simpa using Nat.lt_of_succ_le hf) hv ?_
  intro w' h1 h2 h3 h4
  refine h w' (hS.put hr.rep ?_ h4 h2 h3)
  rw [hs.eq]
  rw [List.setIfInBounds_toArray] at h1
  rw [h1, List.length_singleton, List.set_eq_take_append_cons_drop, if_pos (by omega)]
  simp
end
end Go.Proofs.Ythinpbgbnlohpaa
