/- Regions that draw their order, over what is known of the world; single pure operations; Slices that are built of parts, that grow, that are read: over what is known of the world; Slices that are made; what session 1's contracts leave; Shifts and ors of bytes, functions bound to a value, a slice's length in the world; What is known of the world, as a list of facts that stand apart; what a call asks of it and what it leaves (joined texts: S4 S5 S6 S7 N1) -/
import Derived.Test.YtgfkbeipckbkiaaDoorZ2
import Derived.IntWalk
import Derived.Laws.MakeOwn
set_option linter.all false
/- S4 -/
namespace Go.Proofs.YtgfkbeipckbkiaaDoor
set_option linter.unusedSimpArgs false
set_option linter.unusedVariables false
open Go.RowKit
/-! where a cell stands, in a block of one's own or in what is read -/
class HasC (b O : Nat) (L : List Fc) (off : outParam Nat) (cs : outParam (List Value)) : Prop where
  cell : ∀ {X : List Nat} {w0 w : World}, St X w0 w L → ∀ j v, cs[off + j]? = some v → w.cell? ⟨b, O + j, none⟩ = some v
instance (priority := 100) (b O : Nat) (L : List Fc) (cs : List Value) (T : TypeId) [h : HasB b L cs T] : HasC b O L O cs :=
  ⟨fun hS j v hv => by rw [cell_of_row _ b (O + j) cs.toArray T (0, 0) (hS.blk h.mem)]; simpa using hv⟩
instance (b O : Nat) (L : List Fc) (o off : Nat) (cs : List Value) [h : HasR b O L o off cs] : HasC b O L off cs :=
  ⟨fun hS j v hv => by have := (hS.rd h.mem).range _ v hv; rwa [← Nat.add_assoc, ← h.off] at this⟩
/-- field i of a struct type: where it stands -/
class TFA (P : Program) (T : TypeId) (i : Nat) (off : outParam Nat) : Prop where
  fld : ∃ (fs : Array Field) (f : Field) (s : Nat), P.underlying T = some (.struct fs) ∧ fs[i]? = some f ∧ f.offset = off ∧ (P.info? f.type).map (·.size) = some (s + 1)
section
variable {P : Program} {X : List Nat} {w0 w : World} {L : List Fc} {a : Act} {o : Oper}
theorem xRowC {T : TypeId} {n : Nat} {x : Operand} [hT : TRow P T n] {b O off : Nat} {cs out : List Value} (hS : St X w0 w L) (ho : o.op = .load T x) (hx : a.eval x = .pointer (some ⟨b, O, none⟩)) [hm : HasC b O L off cs] [hr : RowAt cs off n out] :
    (execOp a.eval o).run P w = .ok (.value (.agg out.toArray)) w := by
  obtain ⟨d, hu, hd⟩ := hT.und
  exact ex_load_row ho hx (cs := out) (fun j v hv => hm.cell hS j v (hr.at_ j v hv)) hu hd (by rw [hr.len]; exact hT.size)
theorem xCellC {T : TypeId} {x : Operand} [hT : TOne P T] {b O off : Nat} {cs : List Value} {v : Value} (hS : St X w0 w L) (ho : o.op = .load T x) (hx : a.eval x = .pointer (some ⟨b, O, none⟩)) [hm : HasC b O L off cs] [hr : CellAt cs off v] :
    (execOp a.eval o).run P w = .ok (.value v) w := by
  obtain ⟨d, hu, hd⟩ := hT.und
  exact ex_load_cell ho hx (by have := hm.cell hS 0 v (by simpa using hr.at_); simpa using this) hu hd
theorem xField {T : TypeId} {x : Operand} {i off : Nat} [h : TFA P T i off] {b O : Nat} (ho : o.op = .fieldAddr T x i) (hx : a.eval x = .pointer (some ⟨b, O, none⟩)) :
    (execOp a.eval o).run P w = .ok (.value (.pointer (some ⟨b, O + off, none⟩))) w := by
  obtain ⟨fs, f, s, h1, h2, h3, h4⟩ := h.fld
  exact ex_fieldAt ho hx h1 h2 h4 (by rw [h3])
theorem xMove {x : Operand} (ho : o.op = .move x) : (execOp a.eval o).run P w = .ok (.value (a.eval x)) w := ex_move ho rfl
theorem xAssign {x : Operand} (ho : o.op = .assign x) : (execOp a.eval o).run P w = .ok (.value (a.eval x)) w := ex_assign ho rfl
theorem xInt {op : BinOp} {T T' : TypeId} {x y : Operand} {k : IntKind} {m n : Int} {v : Value} (ho : o.op = .binOp op T x y T') (hx : a.eval x = .int k m) (hy : a.eval y = .int k n) (hg : (eqGuard op T x y (.int k m) (.int k n)).run P w = .ok () w) (hv : (binOp op T (.int k m) (.int k n)).run P w = .ok v w) :
    (execOp a.eval o).run P w = .ok (.value v) w := by
  unfold execOp
  simp only [ho, hx, hy, Sem.run_bind, hg, Result.andThen_ok, hv]
  rfl
theorem xAdd {T T' : TypeId} {x y : Operand} {m n : Int} (ho : o.op = .binOp .add T x y T') (hx : a.eval x = .int .i64 m) (hy : a.eval y = .int .i64 n) (h : -9223372036854775808 ≤ m + n ∧ m + n ≤ 9223372036854775807) :
    (execOp a.eval o).run P w = .ok (.value (.int .i64 (m + n))) w := by
  unfold execOp
  simp only [ho, hx, hy]
  have e : (binOp .add T (.int .i64 m) (.int .i64 n)).run P w = .ok (.int .i64 (m + n)) w := by
    rw [← IntWalk.i64_in (m + n) h]
    rfl
  rw [Sem.run_bind, Sem.run_bind]
  have g : (eqGuard .add T x y (.int .i64 m) (.int .i64 n)).run P w = .ok () w := rfl
  rw [g, Result.andThen_ok, e]
  rfl
theorem xSub {T T' : TypeId} {x y : Operand} {m n : Int} (ho : o.op = .binOp .sub T x y T') (hx : a.eval x = .int .i64 m) (hy : a.eval y = .int .i64 n) (h : -9223372036854775808 ≤ m - n ∧ m - n ≤ 9223372036854775807) :
    (execOp a.eval o).run P w = .ok (.value (.int .i64 (m - n))) w := by
  unfold execOp
  simp only [ho, hx, hy]
  have e : (binOp .sub T (.int .i64 m) (.int .i64 n)).run P w = .ok (.int .i64 (m - n)) w := by
    rw [← IntWalk.i64_in (m - n) h]
    rfl
  rw [Sem.run_bind, Sem.run_bind]
  have g : (eqGuard .sub T x y (.int .i64 m) (.int .i64 n)).run P w = .ok () w := rfl
  rw [g, Result.andThen_ok, e]
  rfl
theorem xEqI {T T' : TypeId} {x y : Operand} {k : IntKind} {m n : Int} (ho : o.op = .binOp .eql T x y T') (hx : a.eval x = .int k m) (hy : a.eval y = .int k n) : (execOp a.eval o).run P w = .ok (.value (.bool (m == n))) w := ex_eqlI ho hx hy rfl
theorem xNeI {T T' : TypeId} {x y : Operand} {k : IntKind} {m n : Int} (ho : o.op = .binOp .neq T x y T') (hx : a.eval x = .int k m) (hy : a.eval y = .int k n) : (execOp a.eval o).run P w = .ok (.value (.bool (m != n))) w := ex_neqI ho hx hy rfl
theorem xCmp {op : BinOp} {T T' : TypeId} {x y : Operand} {k : IntKind} {m n : Int} {p : Bool} (ho : o.op = .binOp op T x y T') (hx : a.eval x = .int k m) (hy : a.eval y = .int k n) (hp : (binOp op T (.int k m) (.int k n)).run P w = .ok (.bool p) w) (hg : (eqGuard op T x y (.int k m) (.int k n)).run P w = .ok () w) :
    (execOp a.eval o).run P w = .ok (.value (.bool p)) w := xInt ho hx hy hg hp
theorem xLss {T T' : TypeId} {x y : Operand} {k : IntKind} {m n : Int} (ho : o.op = .binOp .lss T x y T') (hx : a.eval x = .int k m) (hy : a.eval y = .int k n) : (execOp a.eval o).run P w = .ok (.value (.bool (decide (m < n)))) w := xCmp ho hx hy (by cases k <;> rfl) rfl
theorem xLeq {T T' : TypeId} {x y : Operand} {k : IntKind} {m n : Int} (ho : o.op = .binOp .leq T x y T') (hx : a.eval x = .int k m) (hy : a.eval y = .int k n) : (execOp a.eval o).run P w = .ok (.value (.bool (decide (m ≤ n)))) w := xCmp ho hx hy (by cases k <;> rfl) rfl
theorem xGtr {T T' : TypeId} {x y : Operand} {k : IntKind} {m n : Int} (ho : o.op = .binOp .gtr T x y T') (hx : a.eval x = .int k m) (hy : a.eval y = .int k n) : (execOp a.eval o).run P w = .ok (.value (.bool (decide (m > n)))) w := xCmp ho hx hy (by cases k <;> rfl) rfl
theorem xGeq {T T' : TypeId} {x y : Operand} {k : IntKind} {m n : Int} (ho : o.op = .binOp .geq T x y T') (hx : a.eval x = .int k m) (hy : a.eval y = .int k n) : (execOp a.eval o).run P w = .ok (.value (.bool (decide (m ≥ n)))) w := xCmp ho hx hy (by cases k <;> rfl) rfl
theorem xEqV {T T' : TypeId} {x y : Operand} {k : IntKind} {m n : Int} {t : Bool} (ho : o.op = .binOp .eql T x y T') (hx : a.eval x = .int k m) (hy : a.eval y = .int k n) (ht : (m == n) = t) : (execOp a.eval o).run P w = .ok (.value (.bool t)) w := by subst ht; exact xEqI ho hx hy
theorem xNeV {T T' : TypeId} {x y : Operand} {k : IntKind} {m n : Int} {t : Bool} (ho : o.op = .binOp .neq T x y T') (hx : a.eval x = .int k m) (hy : a.eval y = .int k n) (ht : (m != n) = t) : (execOp a.eval o).run P w = .ok (.value (.bool t)) w := by subst ht; exact xNeI ho hx hy
theorem xLssV {T T' : TypeId} {x y : Operand} {k : IntKind} {m n : Int} {t : Bool} (ho : o.op = .binOp .lss T x y T') (hx : a.eval x = .int k m) (hy : a.eval y = .int k n) (ht : decide (m < n) = t) : (execOp a.eval o).run P w = .ok (.value (.bool t)) w := by subst ht; exact xLss ho hx hy
theorem xLeqV {T T' : TypeId} {x y : Operand} {k : IntKind} {m n : Int} {t : Bool} (ho : o.op = .binOp .leq T x y T') (hx : a.eval x = .int k m) (hy : a.eval y = .int k n) (ht : decide (m ≤ n) = t) : (execOp a.eval o).run P w = .ok (.value (.bool t)) w := by subst ht; exact xLeq ho hx hy
theorem xGtrV {T T' : TypeId} {x y : Operand} {k : IntKind} {m n : Int} {t : Bool} (ho : o.op = .binOp .gtr T x y T') (hx : a.eval x = .int k m) (hy : a.eval y = .int k n) (ht : decide (m > n) = t) : (execOp a.eval o).run P w = .ok (.value (.bool t)) w := by subst ht; exact xGtr ho hx hy
theorem xGeqV {T T' : TypeId} {x y : Operand} {k : IntKind} {m n : Int} {t : Bool} (ho : o.op = .binOp .geq T x y T') (hx : a.eval x = .int k m) (hy : a.eval y = .int k n) (ht : decide (m ≥ n) = t) : (execOp a.eval o).run P w = .ok (.value (.bool t)) w := by subst ht; exact xGeq ho hx hy
theorem xNot {T : TypeId} {x : Operand} {b : Bool} (ho : o.op = .unOp .not T x) (hx : a.eval x = .bool b) : (execOp a.eval o).run P w = .ok (.value (.bool (!b))) w := by
  unfold execOp
  simp only [ho, hx]
  rfl
theorem xPick {c x y : Operand} {t : Bool} (ho : o.op = .pick c x y) (hc : a.eval c = .bool t) : (execOp a.eval o).run P w = .ok (.value (if t = true then a.eval x else a.eval y)) w := ex_pick ho hc rfl
theorem xLen {T e size bytes : Nat} {z : Value} [E : TS P T e size bytes z] {x : Operand} {A : Option Addr} {n c : Nat} (ho : o.op = .call { callee := .builtin .len, args := #[x], argTypes := #[T] }) (hx : a.eval x = .slice A n c) : (execOp a.eval o).run P w = .ok (.value (.int .i64 n)) w := by
  unfold execOp
  simp only [ho, resolve, invoke, builtin, Sem.run_bind, Sem.run_pure, Result.andThen_ok, List.map_toArray, List.map_cons, List.map_nil, hx]
  simp [Builtin.len_, goInt, run_underlying E.el.ht]
theorem xExtract {x : Operand} {i : Nat} {vs : List Value} {v : Value} (ho : o.op = .extract x i) (hx : a.eval x = .tuple vs.toArray) (hv : vs[i]? = some v) : (execOp a.eval o).run P w = .ok (.value v) w := by
  unfold execOp
  simp only [ho, hx, Instr.extract]
  simp [hv]
end
/-! ### a region that draws its order -/
section
variable {P : Program} {ops : Array Oper} {Q : Exit → Act → World → Prop} {md : Region.Mode} {S : World → Prop} {fuel : Nat} {listed : Array Bool} {a : Act} {w w0 : World} {X : List Nat} {L : List Fc}
theorem heldSt {id : Nat} (hS : St X w0 w L) (hm : P.follows .mixedOrders = true) (hQ : HQ Q) (h : HQ Q → ∀ w', St X w0 w' L → wpAnyH P .any ops Q (fun w' => St X w0 w' L) ops.size (Array.replicate ops.size false) a w') : (Code.region id ops true).wp P Q a w :=
  heldQ hm hQ fun hQ => h hQ _ hS.drew
/-- more may be known from here on -/
theorem heldMore {S' : World → Prop} (hS' : ∀ w, S' w → S w) : ∀ (fuel : Nat) (listed : Array Bool) (a : Act) (w : World), wpAnyH P md ops Q S' fuel listed a w → wpAnyH P md ops Q S fuel listed a w
  | 0, _, _, _, h => h
  | fuel + 1, _, _, _, h => ⟨h.1, fun i hi => wpOp_mono (fun a' w' h' => ⟨hS' _ h'.1, heldMore hS' fuel _ a' w' h'.2⟩) (h.2 i hi)⟩
theorem yieldsG {o : Oper} {v : Value} (hw : Region.wanted o (yielded ops a.tmps) = true) (h : ∀ w, S w → (execOp a.eval o).run P w = .ok (.value v) w) : YieldsIf P ops S o v a := .inl ⟨hw, h⟩
theorem yieldsNo {o : Oper} (hw : Region.wanted o (yielded ops a.tmps) = false) : YieldsIf P ops S o undef a := .inr ⟨hw, rfl⟩
theorem heldCall (i : Nat) {l : List Oper} {o : Oper} {f : FuncId} {args args' : Array Value} {R : Ending → World → Prop} (ho : l[i]? = some o) (hr : Region.ready md l.toArray listed = [i]) (hw : Region.wanted o (yielded l.toArray a.tmps) = true) (hrun : (execOp a.eval o).run P w = .ok (.enter f args') w)
    (hc : Calls P f args w R) (hargs : args' = args) (h : ∀ e w', R e w' → ∃ v, e = .returned v ∧ S w' ∧ wpAnyH P md l.toArray Q S fuel (listed.setIfInBounds i true) (a.put o.dst v) w') : wpAnyH P md l.toArray Q S (fuel + 1) listed a w := by
  refine wpAnyH_all hr (by simp) fun j hj => ?_
  obtain rfl : j = i := by simpa using hj
  have ho' : l.toArray[j]? = some o := by simpa using ho
  unfold wpOp
  simp only [ho', hw, if_true]
  refine .inl ?_
  unfold Oper.wp
  rw [hrun, hargs]
  refine hc.mono fun e w' hR => ?_
  obtain ⟨v, rfl, h1, h2⟩ := h e w' hR
  exact ⟨h1, h2⟩
/-- a new block: one alone may come up -/
theorem heldNew (i : Nat) {l : List Oper} {o : Oper} {v : Value} {w' : World} (ho : l[i]? = some o) (hr : Region.ready md l.toArray listed = [i]) (hw : Region.wanted o (yielded l.toArray a.tmps) = true) (hrun : (execOp a.eval o).run P w = .ok (.value v) w') (hS : S w')
    (h : wpAnyH P md l.toArray Q S fuel (listed.setIfInBounds i true) (a.put o.dst v) w') : wpAnyH P md l.toArray Q S (fuel + 1) listed a w := by
  refine wpAnyH_all hr (by simp) fun j hj => ?_
  obtain rfl : j = i := by simpa using hj
  have ho' : l.toArray[j]? = some o := by simpa using ho
  unfold wpOp
  simp only [ho', hw, if_true]
  refine .inl ?_
  unfold Oper.wp
  rw [hrun]
  exact ⟨hS, h⟩
end
theorem wantedNone {d : Option Tmp} {op : Op} {ty : TypeId} {pos : String} {af : Array Edge} {y : Nat → Option Bool} : Region.wanted ⟨d, op, ty, pos, af, none⟩ y = true := rfl
/-! ### steps that leave their side conditions as goals, one after the other -/
section
variable {P : Program} {X : List Nat} {w0 w : World} {L L' : List Fc} {a : Act} {ops : Array Oper} {rest : List Oper} {Q : Exit → Act → World → Prop} {d : Option Tmp} {ty : TypeId} {pos : String} {af : Array Edge} {gd : Option (Nat × Bool)}
theorem wpBuild {T : TypeId} {z out : List Value} {pl : Nat → Option (Nat × Nat)} [hT : TB P T z pl] {l : List (Nat × Operand)} {ps : List (Nat × Value)} (hw : Region.wanted ⟨d, .build T l.toArray, ty, pos, af, gd⟩ (yielded ops a.tmps) = true)
    (hp : (l.map fun p => (p.1, a.eval p.2)) = ps) (hf : Fills pl z ps out) (h : wpList P ops Q rest (a.put d (.agg out.toArray)) w) : wpList P ops Q (⟨d, .build T l.toArray, ty, pos, af, gd⟩ :: rest) a w :=
  wpl_runG hw (xBuild rfl hp) h
theorem wpRow {T : TypeId} {n : Nat} {x : Operand} [hT : TRow P T n] {b O off : Nat} {cs out : List Value} (hS : St X w0 w L) (hw : Region.wanted ⟨d, .load T x, ty, pos, af, gd⟩ (yielded ops a.tmps) = true) (hx : a.eval x = .pointer (some ⟨b, O, none⟩)) (hm : HasC b O L off cs) (hr : RowAt cs off n out)
    (h : wpList P ops Q rest (a.put d (.agg out.toArray)) w) : wpList P ops Q (⟨d, .load T x, ty, pos, af, gd⟩ :: rest) a w :=
  wpl_runG hw (xRowC hS rfl hx) h
theorem wpCell {T : TypeId} {x : Operand} [hT : TOne P T] {b O off : Nat} {cs : List Value} {v : Value} (hS : St X w0 w L) (hw : Region.wanted ⟨d, .load T x, ty, pos, af, gd⟩ (yielded ops a.tmps) = true) (hx : a.eval x = .pointer (some ⟨b, O, none⟩)) (hm : HasC b O L off cs) (hr : CellAt cs off v)
    (h : wpList P ops Q rest (a.put d v) w) : wpList P ops Q (⟨d, .load T x, ty, pos, af, gd⟩ :: rest) a w :=
  wpl_runG hw (xCellC hS rfl hx) h
theorem wpEql {T T' : TypeId} {x y : Operand} {xs ys : List Value} {p : Bool} (hw : Region.wanted ⟨d, .binOp .eql T x y T', ty, pos, af, gd⟩ (yielded ops a.tmps) = true) (hx : a.eval x = .agg xs.toArray) (hy : a.eval y = .agg ys.toArray) (hq : TEq P T xs ys p)
    (h : wpList P ops Q rest (a.put d (.bool p)) w) : wpList P ops Q (⟨d, .binOp .eql T x y T', ty, pos, af, gd⟩ :: rest) a w :=
  wpl_runG hw (xEql rfl hx hy) h
theorem wpNeq {T T' : TypeId} {x y : Operand} {xs ys : List Value} {p : Bool} (hw : Region.wanted ⟨d, .binOp .neq T x y T', ty, pos, af, gd⟩ (yielded ops a.tmps) = true) (hx : a.eval x = .agg xs.toArray) (hy : a.eval y = .agg ys.toArray) (hq : TEq P T xs ys p)
    (h : wpList P ops Q rest (a.put d (.bool (!p))) w) : wpList P ops Q (⟨d, .binOp .neq T x y T', ty, pos, af, gd⟩ :: rest) a w :=
  wpl_runG hw (xNeq rfl hx hy) h
theorem wpEqlB {T T' : TypeId} {x y : Operand} {xs ys : List Value} {p b : Bool} (hw : Region.wanted ⟨d, .binOp .eql T x y T', ty, pos, af, gd⟩ (yielded ops a.tmps) = true) (hx : a.eval x = .agg xs.toArray) (hy : a.eval y = .agg ys.toArray) (hq : TEq P T xs ys p) (hb : p = b)
    (h : wpList P ops Q rest (a.put d (.bool b)) w) : wpList P ops Q (⟨d, .binOp .eql T x y T', ty, pos, af, gd⟩ :: rest) a w :=
  wpEql hw hx hy hq (by rw [hb]; exact h)
theorem wpNeqB {T T' : TypeId} {x y : Operand} {xs ys : List Value} {p b : Bool} (hw : Region.wanted ⟨d, .binOp .neq T x y T', ty, pos, af, gd⟩ (yielded ops a.tmps) = true) (hx : a.eval x = .agg xs.toArray) (hy : a.eval y = .agg ys.toArray) (hq : TEq P T xs ys p) (hb : p = b)
    (h : wpList P ops Q rest (a.put d (.bool (!b))) w) : wpList P ops Q (⟨d, .binOp .neq T x y T', ty, pos, af, gd⟩ :: rest) a w :=
  wpNeq hw hx hy hq (by rw [hb]; exact h)
end
class TArr (P : Program) (T : TypeId) (len e size : outParam Nat) : Prop where
  und : P.underlying T = some (.array len e)
  size : (P.info? e).map (·.size) = some size
section
variable {P : Program} {a : Act} {ops : Array Oper} {rest : List Oper} {Q : Exit → Act → World → Prop} {d : Option Tmp} {ty : TypeId} {pos : String} {af : Array Edge} {gd : Option (Nat × Bool)} {w : World} {o : Oper}
theorem run_idx {T len e size : Nat} [hT : TArr P T len e size] {cs : List Value} {k : IntKind} {n : Int} (h0 : 0 ≤ n) (h1 : n < len) {v : Value} (hp : (part e cs.toArray (n.toNat * size)).run P w = .ok v w) : (Instr.index T (.agg cs.toArray) (.int k n)).run P w = .ok v w := by
  obtain ⟨j, hj, hjs⟩ := Option.map_eq_some_iff.1 hT.size
  subst hjs
  simp only [Instr.index, asIntOf, Sem.run_bind, Sem.run_pure, Result.andThen_ok, run_underlying hT.und, if_pos (show 0 ≤ n ∧ n < (len : Int) from ⟨h0, h1⟩), sizeOf, typeInfo]
  simp [hj, hp]
theorem xIdxR {T len e size : Nat} [hT : TArr P T len e size] [hr : TRow P e size] {x i : Operand} {cs out : List Value} {k : IntKind} {n : Int} {off : Nat} (ho : o.op = .index T x i) (hx : a.eval x = .agg cs.toArray) (hi : a.eval i = .int k n) (hb : 0 ≤ n ∧ n < len) (hn : n.toNat * size = off) [h : RowAt cs off size out] :
    (execOp a.eval o).run P w = .ok (.value (.agg out.toArray)) w := by
  obtain ⟨d, hu, hd⟩ := hr.und
  have hp := part_row (w := w) hu hd hr.size cs.toArray (n.toNat * size)
  have he : cs.toArray.extract (n.toNat * size) (n.toNat * size + size) = out.toArray := by
    subst hn
    apply Array.ext'
    simp only [List.extract_toArray, List.extract_eq_drop_take']
    apply List.ext_getElem?
    intro j
    rw [List.getElem?_drop, List.getElem?_take]
    by_cases hj : j < size
    · rw [if_pos (by omega)]
      have hjo : j < out.length := by rw [h.len]; exact hj
      rw [h.at_ j out[j] (by simp [hjo])]
      simp [hjo]
    · rw [if_neg (by omega), List.getElem?_eq_none (by rw [h.len]; omega)]
  rw [he] at hp
  unfold execOp
  simp only [ho, hx, hi, Sem.run_bind, run_idx hb.1 hb.2 hp, Result.andThen_ok]
  rfl
theorem wpIdxR {T len e size : Nat} [hT : TArr P T len e size] [hr : TRow P e size] {x i : Operand} {cs out : List Value} {k : IntKind} {n : Int} {off : Nat} (hw : Region.wanted ⟨d, .index T x i, ty, pos, af, gd⟩ (yielded ops a.tmps) = true) (hx : a.eval x = .agg cs.toArray) (hi : a.eval i = .int k n) (hb : 0 ≤ n ∧ n < len) (hn : n.toNat * size = off) (h : RowAt cs off size out)
    (hk : wpList P ops Q rest (a.put d (.agg out.toArray)) w) : wpList P ops Q (⟨d, .index T x i, ty, pos, af, gd⟩ :: rest) a w :=
  wpl_runG hw (xIdxR rfl hx hi hb hn) hk
end
/-! ### results that lie in blocks -/
section
variable {P : Program} {X : List Nat} {w0 w : World} {L : List Fc} {fn : Func} {R : Ending → World → Prop} {a : Act}
theorem run_row {T T' : TypeId} {n g off : Nat} {cs out : List Value} [hT : TRow P T n] (hS : St X w0 w L) [hm : HasB g L cs T'] [hr : RowAt cs off n out] : (loadVar T ⟨g, off, none⟩).run P w = .ok (.agg out.toArray) w := by
  obtain ⟨d, hu, hd⟩ := hT.und
  refine run_loadVar_mid w g off T out d (fun j v hv => ?_) hu hd (by rw [hr.len]; exact hT.size)
  rw [cell_of_row w g (off + j) cs.toArray T' (0, 0) (hS.blk hm.mem)]
  simpa using hr.at_ j v hv
theorem run_cell {T T' : TypeId} {g off : Nat} {cs : List Value} {v : Value} [hT : TOne P T] (hS : St X w0 w L) [hm : HasB g L cs T'] [hr : CellAt cs off v] : (loadVar T ⟨g, off, none⟩).run P w = .ok v w := by
  obtain ⟨d, hu, hd⟩ := hT.und
  have hagg : (isAgg T).run P w = .ok false w := by
    unfold isAgg
    rw [Sem.run_bind, run_underlying hu w]
    cases d <;> simp_all
  have hc : w.cell? ⟨g, off, none⟩ = some v := by
    rw [cell_of_row w g off cs.toArray T' (0, 0) (hS.blk hm.mem)]
    simpa using hr.at_
  simp only [loadVar, Sem.run_bind, hagg, Result.andThen_ok]
  simp [load, Sem.run, hc]
theorem retC {p : Tmp} {T T' : TypeId} {n g : Nat} {cs out : List Value} (hS : St X w0 w L) (hf : fn.results = #[.cell p T]) (hp : a.tmps.getD p undef = .pointer (some ⟨g, 0, none⟩)) [TRow P T n] [HasB g L cs T'] [RowAt cs 0 n out] (hds : a.defers = []) (hR : R (.returned (.agg out.toArray)) w) : bodyPost P fn R .ret a w :=
  bodyPost_ret (by have := run_row (P := P) (T := T) (off := 0) (g := g) (out := out) hS; have hp' := hp; rw [Array.getD_eq_getD_getElem?] at hp'; simp only [results, hf]; simp [hp', asAddr, this]) hds hR
theorem retC1 {p : Tmp} {T T' : TypeId} {g : Nat} {cs : List Value} {v : Value} (hS : St X w0 w L) (hf : fn.results = #[.cell p T]) (hp : a.tmps.getD p undef = .pointer (some ⟨g, 0, none⟩)) [TOne P T] [HasB g L cs T'] [CellAt cs 0 v] (hds : a.defers = []) (hR : R (.returned v) w) : bodyPost P fn R .ret a w :=
  bodyPost_ret (by have := run_cell (P := P) (T := T) (off := 0) (g := g) (v := v) hS; have hp' := hp; rw [Array.getD_eq_getD_getElem?] at hp'; simp only [results, hf]; simp [hp', asAddr, this]) hds hR
theorem retCT {p q : Tmp} {T T' : TypeId} {n g : Nat} {cs out : List Value} (hS : St X w0 w L) (hf : fn.results = #[.cell p T, .tmp q]) (hp : a.tmps.getD p undef = .pointer (some ⟨g, 0, none⟩)) [TRow P T n] [HasB g L cs T'] [RowAt cs 0 n out] (hds : a.defers = []) (hR : R (.returned (.tuple #[.agg out.toArray, a.tmps.getD q undef])) w) : bodyPost P fn R .ret a w :=
  bodyPost_ret (by have := run_row (P := P) (T := T) (off := 0) (g := g) (out := out) hS; have hp' := hp; rw [Array.getD_eq_getD_getElem?] at hp'; simp only [results, hf]; simp [hp', asAddr, this]) hds hR
end
end Go.Proofs.YtgfkbeipckbkiaaDoor
/- S5 -/
namespace Go.Proofs.YtgfkbeipckbkiaaDoor
set_option linter.unusedSimpArgs false
set_option linter.unusedVariables false
open Go.RowKit
/-- a row of one's own, and the other facts -/
class DropO (v : Value) (e : TypeId) (L : List Fc) (n size : outParam Nat) (xs : outParam (List Value)) (M : outParam (List Fc)) : Prop where
  perm : L.Perm (.own v n e size xs :: M)
instance (priority := 100) (v : Value) (e : TypeId) (f : Fc) (L : List Fc) (n size : Nat) (xs : List Value) (M : List Fc) [h : DropO v e L n size xs M] : DropO v e (f :: L) n size xs (f :: M) := ⟨(h.perm.cons f).trans (List.Perm.swap _ _ _)⟩
instance (v : Value) (e : TypeId) (L : List Fc) (n size : Nat) (xs : List Value) : DropO v e (.own v n e size xs :: L) n size xs L := ⟨List.Perm.refl _⟩
instance (priority := 90) (b O : Nat) (f : Fc) (L : List Fc) (off : Nat) (cs : List Value) [h : HasC b O L off cs] : HasC b O (f :: L) off cs := ⟨fun hS => h.cell (hS.tail rfl)⟩
theorem own_cell {w : World} {B g n c : Nat} {e : TypeId} {size : Nat} {xs : List Value} (h : w.ownsRow B e size (.slice (some ⟨g, 0, none⟩) n c) n xs) {j : Nat} {v : Value} (hv : xs[j]? = some v) : w.cell? ⟨g, j, none⟩ = some v := by
  have := h.cells (g := g) rfl j v hv
  rwa [Addr.add_mid, Nat.zero_add] at this
instance (b O : Nat) (L : List Fc) (n c e size : Nat) (xs : List Value) : HasC b O (.own (.slice (some ⟨b, 0, none⟩) n c) n e size xs :: L) O xs :=
  ⟨fun hS j v hv => own_cell (hS.ok _ (List.mem_cons_self ..)) hv⟩
section
variable {P : Program} {X : List Nat} {w0 w : World} {L M : List Fc} {a : Act} {ops : Array Oper} {rest : List Oper} {Q : Exit → Act → World → Prop} {d : Option Tmp} {ty : TypeId} {pos : String} {af : Array Edge} {gd : Option (Nat × Bool)}
/-- a nil slice is a row of one's own -/
theorem St.ownNil (h : St X w0 w L) (e : TypeId) (size : Nat) : St X w0 w (.own (.slice none 0 0) 0 e size [] :: L) :=
  h.cons (World.ownsRow_nil w _ e size) (fun g _ _ k hk _ => by cases hk) (fun _ k hk => by cases hk)
theorem St.own_form (h : St X w0 w L) {v : Value} {e n size : Nat} {xs : List Value} [hd : DropO v e L n size xs M] : ∃ A c, v = .slice A n c ∧ n ≤ c ∧ (A = none → n = 0 ∧ c = 0) ∧ xs.length = n * size := by
  have ho : w.ownsRow w0.heap.size e size v n xs := h.ok _ (hd.perm.mem_iff.2 (List.mem_cons_self ..))
  refine ?_
  rcases ho.2 with ⟨rfl, rfl⟩ | ⟨g, cap, cur, rfl, _, _, hn, _⟩
  · exact ⟨none, 0, rfl, Nat.le_refl _, fun _ => ⟨rfl, rfl⟩, ho.1⟩
  · exact ⟨_, cap, rfl, hn, by simp, ho.1⟩
/-- a row of one's own is read from here on -/
theorem St.own_rd (h : St X w0 w L) {A : Option Addr} {c : Nat} {e n size : Nat} {xs : List Value} [hd : DropO (.slice A n c) e L n size xs M] : St X w0 w (.rd A xs :: M) := by
  have h2 := h.perm hd.perm.symm
  have ho : w.ownsRow w0.heap.size e size (.slice A n c) n xs := h2.ok _ (List.mem_cons_self ..)
  obtain ⟨h3, h4⟩ := List.pairwise_cons.1 h2.sep
  refine (h2.tail rfl).cons ?_ ?_ (by intro hw; cases hw)
  · obtain ⟨A', c', e', _, hr⟩ := own_Rd ho
    injection e' with e1 _ _
    subst e1
    exact hr
  · intro g hg hw k hk hk'
    obtain ⟨_, o, rfl⟩ := hk
    exact h3 g hg rfl k rfl hk'
/-- append, its source a stretch of what is known -/
theorem wpAppend {t e : TypeId} {size bytes : Nat} {z : Value} [E : TS P t e size bytes z] {s x : Operand} {n m c b O off k : Nat} {v : Value} {xs cs out : List Value} (hS : St X w0 w L) (hx : a.eval x = .slice (some ⟨b, O, none⟩) m c) (hs : a.eval s = v)
    (hd : DropO v e L n size xs M) (hc : HasC b O L off cs) (hk : m * size = k) (hr : RowAt cs off k out) (h1 : Row out k) (hb : (n + m) * bytes ≤ 140737488355328)
    (h : ∀ v' w', St X w0 w' (.own v' (n + m) e size (xs ++ out) :: M) → wpList P ops Q rest (a.put d v') w') : wpList P ops Q (⟨d, .call { callee := .builtin .append, args := #[s, x], argTypes := #[t, t] }, ty, pos, af, none⟩ :: rest) a w := by
  have h2 := hS.perm hd.perm.symm
  have hrd : Rd w (some ⟨b, O, none⟩) out := fun j u hu => ⟨b, O, rfl, hc.cell hS j u (hr.at_ j u hu)⟩
  obtain ⟨v', w', hrun, h3, h4, h5⟩ := xAppend (o := ⟨d, .call { callee := .builtin .append, args := #[s, x], argTypes := #[t, t] }, ty, pos, af, none⟩) rfl E.el hs (h2.own (List.mem_cons_self ..)) hx (by simp) (by rw [hr.len, hk]) hrd h1.one hb hS.size
  exact wpl_run rfl hrun (h v' w' (h2.grow .head h3 h4 h5))
/-- append of a slice that is read, nil or not -/
theorem wpAppendA {t e : TypeId} {size bytes : Nat} {z : Value} [E : TS P t e size bytes z] {s x : Operand} {n m c : Nat} {A : Option Addr} {v : Value} {xs cs : List Value} (hS : St X w0 w L) (hx : a.eval x = .slice A m c) (hs : a.eval s = v)
    (hd : DropO v e L n size xs M) (hc : HasA A L cs) (hA : A = none → m = 0 ∧ c = 0) (hl : cs.length = m * size) (h1 : ∀ u ∈ cs, u.oneCell' = true) (hb : (n + m) * bytes ≤ 140737488355328)
    (h : ∀ v' w', St X w0 w' (.own v' (n + m) e size (xs ++ cs) :: M) → wpList P ops Q rest (a.put d v') w') : wpList P ops Q (⟨d, .call { callee := .builtin .append, args := #[s, x], argTypes := #[t, t] }, ty, pos, af, none⟩ :: rest) a w := by
  have h2 := hS.perm hd.perm.symm
  obtain ⟨v', w', hrun, h3, h4, h5⟩ := xAppend (o := ⟨d, .call { callee := .builtin .append, args := #[s, x], argTypes := #[t, t] }, ty, pos, af, none⟩) rfl E.el hs (h2.own (List.mem_cons_self ..)) hx hA hl (hS.rd hc.mem) h1 hb hS.size
  exact wpl_run rfl hrun (h v' w' (h2.grow .head h3 h4 h5))
end
/-! ### a slice built of its parts -/
class Parts (n k : Nat) (ps : List (Nat × Value)) (out : outParam (List Value)) : Prop where
  fill : ∀ pre Z : List Value, pre.length = k * n → Z.length = ps.length * n → Instr.fill (fun i => some (i * n, n)) (pre ++ Z).toArray ps = some (pre ++ out).toArray
instance (n k : Nat) : Parts n k [] [] := ⟨fun pre Z _ hZ => by
  obtain rfl : Z = [] := List.eq_nil_of_length_eq_zero (by simpa using hZ)
  simp [Instr.fill]⟩
theorem Parts.cons {n k : Nat} {v : Value} {ps : List (Nat × Value)} {new out : List Value} (hv : VCells v new) (hn : Row new n) (hp : Parts n (k + 1) ps out) : Parts n k ((k, v) :: ps) (new ++ out) := ⟨fun pre Z hpre hZ => by
  have hl := hn.len
  rw [fill_one _ _ k v ps (k * n) n rfl (by rw [hv.eq]; simpa using hl) (by simp [hpre, hZ, Nat.succ_mul])]
  have e1 : List.take (k * n) (pre ++ Z).toArray.toList = pre := by simp [← hpre]
  have e2 : List.drop (k * n + n) (pre ++ Z).toArray.toList = Z.drop n := by simp [← hpre]
  have ih := hp.fill (pre ++ new) (Z.drop n) (by simp [hpre, hl, Nat.succ_mul]) (by simp [hZ, Nat.succ_mul])
  rw [e1, e2, hv.eq, ← List.append_assoc]
  exact ih⟩
instance (n k : Nat) (v : Value) (ps : List (Nat × Value)) (new out : List Value) [hv : VCells v new] [hn : Row new n] [hp : Parts n (k + 1) ps out] : Parts n k ((k, v) :: ps) (new ++ out) := .cons hv hn hp
instance (n k : Nat) (v : Value) (new : List Value) [hv : VCells v new] [hn : Row new n] : Parts n k [(k, v)] new := by
  have h := Parts.cons (k := k) hv hn (inferInstance : Parts n (k + 1) [] [])
  rwa [List.append_nil] at h
section
variable {P : Program} {X : List Nat} {w0 w : World} {L : List Fc} {a : Act} {ops : Array Oper} {rest : List Oper} {Q : Exit → Act → World → Prop} {d : Option Tmp} {ty : TypeId} {pos : String} {af : Array Edge}
theorem wpBSl {t e : TypeId} {m n bytes : Nat} {z : Value} [E : TS P t e n bytes z] {l : List (Nat × Operand)} {ps : List (Nat × Value)} {out : List Value} (hS : St X w0 w L) (hp : (l.map fun p => (p.1, a.eval p.2)) = ps) (hf : Parts n 0 ps out) (hl : ps.length = m) (h0 : 0 < m ∧ m * n ≤ 16777216)
    (h : ∀ g w', St X w0 w' (.blk g out e :: L) → wpList P ops Q rest (a.put d (.slice (some ⟨g, 0, none⟩) m m)) w') : wpList P ops Q (⟨d, .buildSlice t m l.toArray, ty, pos, af, none⟩ :: rest) a w := by
  obtain ⟨i, hi, hz, hsz, hby⟩ := info_parts E.el.hi
  subst hl
  refine wpList_buildSlice rfl t e ps.length l.toArray rfl out.toArray i z E.el.ht hi hz (by rw [hsz]; omega) (by rw [hsz]; have := E.el.h0; have := Nat.mul_pos h0.1 this; omega) ?_ (h _ _ (hS.alloc out e))
  have e1 : (l.toArray.map fun (x : Nat × Operand) => match x with | (i, x) => (i, a.eval x)).toList = ps := by
    rw [← hp]; simp
  rw [e1, hsz]
  have := hf.fill [] ((Array.range (ps.length * n)).map (z.cells[· % z.cells.size]!)).toList (by simp) (by simp)
  rw [List.nil_append, Array.toArray_toList, List.nil_append] at this
  exact this
end
section
variable {P : Program} {X : List Nat} {w0 w w' : World} {L M : List Fc} {a : Act} {o : Oper}
theorem St.ret1 (h : St X w0 w L) {f : Fc} (hr : Res [] w w' [f]) : St X w0 w' (f :: L) := h.ret hr
theorem St.ret2 (h : St X w0 w L) {f g : Fc} (hr : Res [] w w' [f, g]) : St X w0 w' (f :: g :: L) := h.ret hr
theorem xIndexS {T e size bytes : Nat} {z : Value} [E : TS P T e size bytes z] {x i : Operand} {b off n c : Nat} {k : IntKind} {I : Int} (ho : o.op = .indexAddr T x i) (hx : a.eval x = .slice (some ⟨b, off, none⟩) n c) (hi : a.eval i = .int k I) (h : 0 ≤ I ∧ I < n) :
    (execOp a.eval o).run P w = .ok (.value (.pointer (some ⟨b, off + I.toNat * size, none⟩))) w := by
  obtain ⟨i, h1, _, h2, _⟩ := info_parts E.el.hi
  exact ex_index ho E.el.ht (by rw [h1, Option.map_some, h2]) hx hi h.1 h.2
theorem xEqlB {T T' : TypeId} {x y : Operand} {xs ys : List Value} {p b : Bool} (ho : o.op = .binOp .eql T x y T') (hx : a.eval x = .agg xs.toArray) (hy : a.eval y = .agg ys.toArray) [h : TEq P T xs ys p] (hb : p = b) :
    (execOp a.eval o).run P w = .ok (.value (.bool b)) w := by subst hb; exact xEql ho hx hy
theorem xNeqB {T T' : TypeId} {x y : Operand} {xs ys : List Value} {p b : Bool} (ho : o.op = .binOp .neq T x y T') (hx : a.eval x = .agg xs.toArray) (hy : a.eval y = .agg ys.toArray) [h : TEq P T xs ys p] (hb : p = b) :
    (execOp a.eval o).run P w = .ok (.value (.bool (!b))) w := by subst hb; exact xNeq ho hx hy
/-- one of many cells or rows -/
theorem xNthC {T : TypeId} {x : Operand} [hT : TOne P T] {b O O' off k : Nat} {cs : List Value} {v : Value} (hS : St X w0 w L) (ho : o.op = .load T x) (hx : a.eval x = .pointer (some ⟨b, O', none⟩)) [hm : HasC b O L off cs] (hO : O' = O + k) (hc : cs[off + k]? = some v) :
    (execOp a.eval o).run P w = .ok (.value v) w := by
  obtain ⟨d, hu, hd⟩ := hT.und
  subst hO
  exact ex_load_cell ho hx (hm.cell hS k v hc) hu hd
theorem xNthRow {T : TypeId} {n : Nat} {x : Operand} [hT : TRow P T n] {b O O' off k : Nat} {cs out : List Value} (hS : St X w0 w L) (ho : o.op = .load T x) (hx : a.eval x = .pointer (some ⟨b, O', none⟩)) [hm : HasC b O L off cs] (hO : O' = O + k) (hl : out.length = n) (hc : ∀ j v, out[j]? = some v → cs[off + (k + j)]? = some v) :
    (execOp a.eval o).run P w = .ok (.value (.agg out.toArray)) w := by
  obtain ⟨d, hu, hd⟩ := hT.und
  subst hO
  exact ex_load_row ho hx (cs := out) (fun j v hv => by rw [Nat.add_assoc]; exact hm.cell hS (k + j) v (hc j v hv)) hu hd (by rw [hl]; exact hT.size)
end
/-! ### append of zeros to nil -/
section
variable {P : Program} {X : List Nat} {w0 w : World} {L M : List Fc} {a : Act} {o : Oper}
theorem xAppendZ {s x : Operand} {t e xt : TypeId} {size bytes : Nat} {z : Value} {n : Nat} [E : TS P t e size bytes z] {k : IntKind} (hxt : P.underlying xt = some (.int k)) (ho : o.op = .call { callee := .builtin .append, args := #[s, x], argTypes := #[t, xt] }) (hs : a.eval s = .slice none 0 0) (hx : a.eval x = .int .i64 n)
    (h0 : 0 < n) (hb : n * bytes ≤ 140737488355328) {base : Nat} (hbase : base ≤ w.heap.size) :
    ∃ v' w', (execOp a.eval o).run P w = .ok (.value v') w' ∧ w'.ownsRow base e size v' n ((List.range (n * size)).map fun i => z.cells[i % size]!) ∧ w.grownBy w' none ∧ v'.ownBlock = some w.heap.size := by
  obtain ⟨i, hi, hz, hsz, hby⟩ := info_parts E.el.hi
  have hzs := E.el.hz
  have hpos := E.el.h0
  have hbp := E.el.hb
  subst hsz hby
  have hn : n ≤ n * i.bytes := Nat.le_mul_of_pos_right _ hbp
  have hn0 : n ≠ 0 := by omega
  have hw : IntKind.i64.wrap (n : Int) = n := IntWalk.i64_in _ (by omega)
  have h48 : ¬ (281474976710656 < Builtin.nextslicecap n 0 * i.bytes) := by rw [nextslicecap_zero h0]; omega
  have h48' : ¬ (281474976710656 : Int) < (n : Int) * (i.bytes : Int) := by
    have : ((n * i.bytes : Nat) : Int) ≤ 140737488355328 := by omega
    rw [Int.natCast_mul] at this
    omega
  have h63 : ¬ (9223372036854775807 < (n : Int)) := by omega
  have hs0 : ¬ (n = 0 ∨ i.size = 0) := by omega
  have hneg : ¬ ((n : Int) < 0) := by omega
  have hns : ¬ n * i.size = 0 := Nat.mul_ne_zero hn0 (by omega)
  refine ⟨.slice (some ⟨w.heap.size, 0, none⟩) n (grownCap w n 0 e), w.drew.alloc (.cells (Builtin.zeroCells z.cells n ++ Builtin.zeroCells z.cells (grownCap w n 0 e - n)) e), ?_, ⟨by simp, .inr ⟨w.heap.size, _, _, rfl, hbase, heap_alloc_new w.drew _, grownCap_ge w n 0 e, grownCap_le_maxLen w n 0 e (by unfold maxLen; omega), ?_, ?_⟩⟩, ⟨rfl, rfl, rfl, by simp, fun k hk _ => Below.heap_alloc w.drew _ k hk⟩, rfl⟩
  · unfold execOp
    simp only [ho, resolve, invoke, builtin, Sem.run_bind, Sem.run_pure, Result.andThen_ok, List.map_toArray, List.map_cons, List.map_nil, hs, hx]
    simp [Builtin.append_, run_underlying E.el.ht, run_underlying hxt, sizeOf, typeInfo, zeroValue, hi, hz, asInt, asIntOf, hw, hneg, h48, h48', h63, hs0, hn0, hns, Question.forced, run_firstCells_none, Builtin.firstCells, newRow, grownCap]
  · simp only [Array.size_append, size_zeroCells, hzs, ← Nat.add_mul]
    congr 1
    have := grownCap_ge w n 0 e
    omega
  · rw [Array.toList_append, List.take_append_of_le_length (by simp [size_zeroCells, hzs]), List.take_of_length_le (by simp [size_zeroCells, hzs])]
    simp [Builtin.zeroCells, hzs]
/-- less of a row of one's own -/
theorem St.shrink (h : St X w0 w L) {A : Option Addr} {c e n m size : Nat} {xs : List Value} [hd : DropO (.slice A n c) e L n size xs M] (hm : m ≤ n) (hA : A ≠ none) : St X w0 w (.own (.slice A m c) m e size (xs.take (m * size)) :: M) := by
  have h2 := h.perm hd.perm.symm
  have ho : w.ownsRow w0.heap.size e size (.slice A n c) n xs := h2.ok _ (List.mem_cons_self ..)
  obtain ⟨h3, h4⟩ := List.pairwise_cons.1 h2.sep
  have hfr := h2.fresh _ (List.mem_cons_self ..) rfl
  have hbk : (Value.slice A m c).ownBlock = (Value.slice A n c).ownBlock := by cases A <;> rfl
  refine (h2.tail rfl).cons ?_ ?_ fun _ k hk => hfr k (by show (Value.slice A n c).ownBlock = some k; rw [← hbk]; exact hk)
  · refine ⟨by rw [List.length_take, ho.1]; exact Nat.min_eq_left (Nat.mul_le_mul_right _ hm), ?_⟩
    rcases ho.2 with ⟨h5, _⟩ | ⟨g, cap, cur, h5, hg, hh, hn, hmx, hcs, ht⟩
    · injection h5 with h5; exact (hA h5).elim
    · injection h5 with h5 _ h6
      subst h5 h6
      refine .inr ⟨g, c, cur, rfl, hg, hh, by omega, hmx, hcs, ?_⟩
      rw [← ht, List.take_take, Nat.min_eq_left (Nat.mul_le_mul_right _ hm)]
  · intro g hg _ k hk hk'
    exact h3 g hg rfl k (by show (Value.slice A n c).ownBlock = some k; rw [← hbk]; exact hk) hk'
theorem St.newOwn (h : St X w0 w L) {w' : World} {v : Value} {e n size : Nat} {xs : List Value} (ho : w'.ownsRow w0.heap.size e size v n xs) (hg : w.grownBy w' none) (hv : v.ownBlock = some w.heap.size) : St X w0 w' (.own v n e size xs :: L) := by
  have hb : Below w.heap.size w w' := ⟨hg.os, hg.tape, hg.output, hg.size, fun k hk => hg.block k hk (by simp)⟩
  refine (h.call hb).cons ho ?_ ?_
  · intro g hg' _ k hk hk'
    have hk2 : v.ownBlock = some k := hk
    rw [hv] at hk2
    injection hk2 with hk2
    have := Fc.bound (h.ok g hg') hk'
    omega
  · intro _ k hk
    have hk2 : v.ownBlock = some k := hk
    rw [hv] at hk2
    injection hk2 with hk2
    exact .inl (by have := h.size; omega)
end
section
variable {P : Program} {X : List Nat} {w0 w : World} {L M : List Fc} {a : Act} {ops : Array Oper} {rest : List Oper} {Q : Exit → Act → World → Prop} {d : Option Tmp} {ty : TypeId} {pos : String} {af : Array Edge} {gd : Option (Nat × Bool)}
theorem wpAppendZ {s x : Operand} {t e xt : TypeId} {size bytes : Nat} {z : Value} {n : Nat} [E : TS P t e size bytes z] {k : IntKind} (hxt : P.underlying xt = some (.int k)) (hS : St X w0 w L) (hs : a.eval s = .slice none 0 0) (hx : a.eval x = .int .i64 n) (h0 : 0 < n) (hb : n * bytes ≤ 140737488355328)
    (h : ∀ g c w', St X w0 w' (.own (.slice (some ⟨g, 0, none⟩) n c) n e size ((List.range (n * size)).map fun i => z.cells[i % size]!) :: L) → wpList P ops Q rest (a.put d (.slice (some ⟨g, 0, none⟩) n c)) w') : wpList P ops Q (⟨d, .call { callee := .builtin .append, args := #[s, x], argTypes := #[t, xt] }, ty, pos, af, none⟩ :: rest) a w := by
  obtain ⟨v', w', hrun, h2, h3, h4⟩ := xAppendZ (o := ⟨d, .call { callee := .builtin .append, args := #[s, x], argTypes := #[t, xt] }, ty, pos, af, none⟩) hxt rfl hs hx h0 hb (base := w0.heap.size) hS.size
  have hS' := hS.newOwn h2 h3 h4
  rcases h2.2 with ⟨rfl, h5⟩ | ⟨g, cap, cur, rfl, _⟩
  · omega
  · exact wpl_run rfl hrun (h g cap w' hS')
end
end Go.Proofs.YtgfkbeipckbkiaaDoor
/- S6 -/
namespace Go.Proofs.YtgfkbeipckbkiaaDoor
set_option linter.unusedSimpArgs false
set_option linter.unusedVariables false
open Go.RowKit
instance (priority := 2000) (k : Nat) (v : Value) (ps : List (Nat × Value)) (out : List Value) [hv : VCells v [v]] [hn : Row [v] 1] [hp : Parts 1 (k + 1) ps out] : Parts 1 k ((k, v) :: ps) (v :: out) := .cons hv hn hp
instance (priority := 30) (xs ys : List Value) (n m : Nat) [h : Row xs n] [k : Row ys m] : Row (xs ++ ys) (n + m) := ⟨by rw [List.length_append, h.len, k.len], fun v hv => (List.mem_append.1 hv).elim (h.one v) (k.one v)⟩
section
variable {P : Program} {X : List Nat} {w0 w : World} {L M : List Fc} {a : Act} {ops : Array Oper} {rest : List Oper} {Q : Exit → Act → World → Prop} {d : Option Tmp} {ty : TypeId} {pos : String} {af : Array Edge} {gd : Option (Nat × Bool)}
/-- make with length 0 -/
theorem wpMake0 {T e size bytes : Nat} {z : Value} [E : TS P T e size bytes z] {x y : Operand} {c : Nat} (hS : St X w0 w L) (hx : a.eval x = .int .i64 0) (hy : a.eval y = .int .i64 c) (hb : c * bytes ≤ 281474976710656)
    (h : ∀ g w', St X w0 w' (.own (.slice (some ⟨g, 0, none⟩) 0 c) 0 e size [] :: L) → wpList P ops Q rest (a.put d (.slice (some ⟨g, 0, none⟩) 0 c)) w') : wpList P ops Q (⟨d, .makeSlice T x y, ty, pos, af, none⟩ :: rest) a w := by
  obtain ⟨i, hi, hz, hsz, hby⟩ := info_parts E.el.hi
  have hbp := E.el.hb
  subst hby
  have hc : c ≤ c * i.bytes := Nat.le_mul_of_pos_right _ hbp
  obtain ⟨w', hrun, h2, h3⟩ := run_make_own (P := P) w w0.heap.size T e i z size E.el.ht hi hz hsz .i64 .i64 c (by rw [Nat.mul_comm]; exact hb) (by unfold maxLen; omega) hS.size
  refine wpl_run (v := .slice (some ⟨w.heap.size, 0, none⟩) 0 c) (w' := w') rfl ?_ (h _ _ (hS.newOwn h2 h3 rfl))
  unfold execOp
  simp only [hx, hy]
  rw [Sem.run_bind, hrun]
  rfl
/-- make: a block of zeros -/
theorem wpMakeN {T e size bytes : Nat} {z : Value} [E : TS P T e size bytes z] {x y : Operand} {c : Nat} (hS : St X w0 w L) (hx : a.eval x = .int .i64 c) (hy : a.eval y = .int .i64 c) (hb : c * bytes ≤ 281474976710656)
    (h : ∀ g w', St X w0 w' (.blk g (madeCells z.cells (c * size)).toList e :: L) → wpList P ops Q rest (a.put d (.slice (some ⟨g, 0, none⟩) c c)) w') : wpList P ops Q (⟨d, .makeSlice T x y, ty, pos, af, none⟩ :: rest) a w := by
  obtain ⟨i, hi, hz, hsz, hby⟩ := info_parts E.el.hi
  have hbp := E.el.hb
  subst hby hsz
  have hc : c ≤ c * i.bytes := Nat.le_mul_of_pos_right _ hbp
  have hb' : (i.bytes : Int) * (c : Int) ≤ 281474976710656 := by
    have : ((i.bytes * c : Nat) : Int) ≤ 281474976710656 := by rw [Nat.mul_comm]; omega
    rwa [Int.natCast_mul] at this
  have hrun := run_make (P := P) w T e i z E.el.ht hi hz .i64 .i64 c c (by omega) (Int.le_refl _) hb' (by omega)
  simp only [Int.toNat_natCast] at hrun
  have hS' := hS.alloc (madeCells z.cells (c * i.size)).toList e
  rw [Array.toArray_toList] at hS'
  refine wpl_run (v := .slice (some ⟨w.heap.size, 0, none⟩) c c) rfl ?_ (h _ _ hS')
  unfold execOp
  simp only [hx, hy]
  rw [Sem.run_bind, hrun]
  rfl
theorem wpStore1 {T T' : TypeId} {p x : Operand} [hT : TOne P T] {g off : Nat} {cs cs' : List Value} {v : Value} {L' : List Fc} (hS : St X w0 w L) (hp : a.eval p = .pointer (some ⟨g, off, none⟩)) (hx : a.eval x = v) (hv : v.oneCell' = true) (hm : HasB g L cs T') (hs : SetAt cs off [v] cs') (hr : RepB g cs cs' T' L L')
    (h : ∀ w', St X w0 w' L' → wpList P ops Q rest (a.put d undef) w') : wpList P ops Q (⟨d, .store T p x, ty, pos, af, none⟩ :: rest) a w := sStore1 hS hp hx hv h
theorem St.blkOwn {g n e size : Nat} {cs : List Value} (h : St X w0 w (.blk g cs e :: L)) (hX : X = []) (hl : cs.length = n * size) (hn : n ≤ 9223372036854775807) : St X w0 w (.own (.slice (some ⟨g, 0, none⟩) n n) n e size cs :: L) := by
  obtain ⟨h3, h4⟩ := List.pairwise_cons.1 h.sep
  have hb := h.blk (List.mem_cons_self ..)
  have hfr := h.fresh _ (List.mem_cons_self ..) rfl g rfl
  subst hX
  have hg : w0.heap.size ≤ g := hfr.elim id (fun h => by simp at h)
  refine (h.tail rfl).cons ⟨hl, .inr ⟨g, n, cs.toArray, rfl, hg, hb, Nat.le_refl _, by unfold maxLen; omega, by simpa using hl, by rw [← hl]; simp⟩⟩ (fun f hf _ k hk hk' => ?_) (fun _ k hk => .inl ?_)
  · have hk2 : some g = some k := hk
    injection hk2 with hk2
    exact h3 f hf rfl k hk2.symm hk'
  · have hk2 : some g = some k := hk
    injection hk2 with hk2
    omega
theorem wpBSlO {t e : TypeId} {m n bytes : Nat} {z : Value} [E : TS P t e n bytes z] {l : List (Nat × Operand)} {ps : List (Nat × Value)} {out : List Value} (hS : St [] w0 w L) (hp : (l.map fun p => (p.1, a.eval p.2)) = ps) (hf : Parts n 0 ps out) (hl : ps.length = m) (h0 : 0 < m ∧ m * n ≤ 16777216) (hr : Row out (m * n))
    (h : ∀ g w', St [] w0 w' (.own (.slice (some ⟨g, 0, none⟩) m m) m e n out :: L) → wpList P ops Q rest (a.put d (.slice (some ⟨g, 0, none⟩) m m)) w') : wpList P ops Q (⟨d, .buildSlice t m l.toArray, ty, pos, af, none⟩ :: rest) a w :=
  wpBSl hS hp hf hl h0 fun g w' hS' => h g w' (hS'.blkOwn rfl hr.len (by have := E.el.h0; have : m ≤ m * n := Nat.le_mul_of_pos_right _ this; omega))
theorem madeBytes (n : Nat) : (madeCells (Value.int .u8 0).cells (n * 1)).toList = bc (List.replicate n 0) := by
  rw [Nat.mul_one]
  apply List.ext_getElem?
  intro j
  by_cases h : j < n <;> simp [madeCells, bc, h, Value.cells, Nat.mod_one, List.getElem?_replicate]
end
theorem Res.mk_own {w w' : World} {v : Value} {n e size : Nat} {xs : List Value} (h : w'.ownsRow w.heap.size e size v n xs) (hb : Below w.heap.size w w') : Res [] w w' [.own v n e size xs] :=
  ⟨Bel.of hb, fun f hf => by rw [List.mem_singleton.1 hf]; exact h, List.pairwise_singleton _ _, fun f hf k hk => by
    rw [List.mem_singleton.1 hf] at hk
    exact .inl (h.lt k hk).1⟩
theorem Res.own {w w' : World} {v : Value} {n e size : Nat} {xs : List Value} (h : Res [] w w' [.own v n e size xs]) : w'.ownsRow w.heap.size e size v n xs := h.ok _ (List.mem_singleton.2 rfl)
section
variable {P : Program} {X : List Nat} {w0 w : World} {L M : List Fc} {a : Act} {o : Oper}
theorem St.cast (h : St X w0 w L) {L' : List Fc} (e : L = L') : St X w0 w L' := e ▸ h
theorem St.ownCast {v : Value} {n n' e size : Nat} {xs xs' : List Value} (h : St X w0 w (.own v n e size xs :: L)) (hn : n = n') (hx : xs = xs') : St X w0 w (.own v n' e size xs' :: L) := by subst hn; subst hx; exact h
theorem St.rdCast {A : Option Addr} {cs cs' : List Value} (h : St X w0 w (.rd A cs :: L)) (hx : cs = cs') : St X w0 w (.rd A cs' :: L) := by subst hx; exact h
theorem St.elem {b o k : Nat} {cs out : List Value} (h : St X w0 w L) [hm : HasA (some ⟨b, o, none⟩) L cs] (hc : ∀ j v, out[j]? = some v → cs[0 + (k + j)]? = some v) : St X w0 w (.rd (some ⟨b, o + k, none⟩) out :: L) := by
  refine h.part hm.mem (fun j v hv => ⟨b, o + k, rfl, ?_⟩) ?_
  · have := (h.rd hm.mem).range _ v (hc j v hv)
    rw [Nat.zero_add] at this
    rwa [Nat.add_assoc]
  · rintro g ⟨hne, o', e⟩
    injection e with e
    injection e with e1 _
    subst e1
    refine ⟨fun hcs => ?_, o, rfl⟩
    cases out with
    | nil => exact hne rfl
    | cons x out => have := hc 0 x rfl; rw [hcs] at this; simp at this
theorem St.blkCast {g T : Nat} {cs cs' : List Value} (h : St X w0 w (.blk g cs T :: L)) (hx : cs = cs') : St X w0 w (.blk g cs' T :: L) := by subst hx; exact h
/-- a block that came in and may be written -/
theorem St.startX {g T : Nat} {cs : List Value} (h : w.heap[g]? = some (.cells cs.toArray T (0, 0))) : St [g] w w [.blk g cs T] :=
  (St.start [g] w).cons h (fun _ h => (List.not_mem_nil h).elim) (fun _ k hk => .inr (by rw [show k = g from hk]; exact List.mem_cons_self ..))
/-- behind a call that turned one block -/
theorem St.retX {g T : Nat} {cs cs' : List Value} {w' : World} {L' : List Fc} (h : St X w0 w L) [hm : HasB g L cs T] [hr : RepB g cs cs' T L L'] (hx : Res [g] w w' [.blk g cs' T]) : St X w0 w' L' :=
  h.turn hr.rep rfl (fun k hk => hk) (hx.ok _ (List.mem_singleton.2 rfl)) hx.bel.os hx.bel.tape hx.bel.output hx.bel.size fun k hk hne => hx.bel.block k hk (fun he => hne (show k = g by simpa using he))
theorem St.own_Rd (h : St X w0 w L) {A : Option Addr} {c e n size : Nat} {xs : List Value} [hd : DropO (.slice A n c) e L n size xs M] : Rd w A xs := by
  have ho : w.ownsRow w0.heap.size e size (.slice A n c) n xs := h.ok _ (hd.perm.mem_iff.2 (List.mem_cons_self ..))
  obtain ⟨A', c', e', _, hr⟩ := Go.Proofs.YtgfkbeipckbkiaaDoor.own_Rd ho
  injection e' with e1 _ _
  subst e1
  exact hr
theorem St.rdC (h : St X w0 w L) {b O off n : Nat} {cs out : List Value} [hm : HasC b O L off cs] [hr : RowAt cs off n out] : Rd w (some ⟨b, O, none⟩) out := fun j u hu => ⟨b, O, rfl, hm.cell h j u (hr.at_ j u hu)⟩
theorem xNil {x : Operand} {p : Addr} (ho : o.op = .nilCheck x) (hx : a.eval x = .pointer (some p)) : (execOp a.eval o).run P w = .ok (.value (.pointer (some p))) w := by
  unfold execOp
  simp only [ho, hx]
  rfl
theorem xConvB {T T' : TypeId} {x : Operand} {n : Int} (hT : P.underlying T = some (.int .u8)) (hT' : P.underlying T' = some (.int .i64)) (ho : o.op = .convert T T' x) (hx : a.eval x = .int .u8 n) (h0 : 0 ≤ n ∧ n < 256) : (execOp a.eval o).run P w = .ok (.value (.int .i64 n)) w := by
  unfold execOp
  simp only [ho, hx, convert, Sem.run_bind, run_underlying hT, run_underlying hT', Result.andThen_ok, Conv.intToInt]
  rw [IntWalk.i64_in n (by omega)]
  rfl
theorem xMul {T T' : TypeId} {x y : Operand} {m n : Int} (ho : o.op = .binOp .mul T x y T') (hx : a.eval x = .int .i64 m) (hy : a.eval y = .int .i64 n) (h : -9223372036854775808 ≤ m * n ∧ m * n ≤ 9223372036854775807) :
    (execOp a.eval o).run P w = .ok (.value (.int .i64 (m * n))) w := by
  unfold execOp
  simp only [ho, hx, hy]
  have e : (binOp .mul T (.int .i64 m) (.int .i64 n)).run P w = .ok (.int .i64 (m * n)) w := by
    rw [← IntWalk.i64_in (m * n) h]
    rfl
  rw [Sem.run_bind, Sem.run_bind]
  have g : (eqGuard .mul T x y (.int .i64 m) (.int .i64 n)).run P w = .ok () w := rfl
  rw [g, Result.andThen_ok, e]
  rfl
theorem xSlA {T len e size : Nat} [hT : TArr P T len e size] {x : Operand} {b off : Nat} (ho : o.op = .slice T x none none none) (hx : a.eval x = .pointer (some ⟨b, off, none⟩)) (hn : 0 < len) : (execOp a.eval o).run P w = .ok (.value (.slice (some ⟨b, off, none⟩) len len)) w :=
  ex_slice_array ho hx hT.und hT.size hn
end
section
variable {P : Program} {Q : Exit → Act → World → Prop} {md : Region.Mode} {S : World → Prop} {fuel : Nat} {listed : Array Bool} {a : Act} {w w0 : World} {X : List Nat} {L : List Fc}
theorem heldMoreSt {L' : List Fc} {ops : Array Oper} (_hS : St X w0 w L') (hs : ∀ w, St X w0 w L' → S w) (h : wpAnyH P md ops Q (fun w' => St X w0 w' L') fuel listed a w) : wpAnyH P md ops Q S fuel listed a w := heldMore hs _ _ _ _ h
theorem heldBSl (i : Nat) {l : List Oper} {dd : Option Tmp} {ty : TypeId} {pos : String} {af : Array Edge} {gd : Option (Nat × Bool)} {t e : TypeId} {m n bytes : Nat} {z : Value} [E : TS P t e n bytes z] {ls : List (Nat × Operand)} {ps : List (Nat × Value)} {out : List Value} (hS : St X w0 w L) (ho : l[i]? = some ⟨dd, .buildSlice t m ls.toArray, ty, pos, af, gd⟩) (hr : Region.ready md l.toArray listed = [i])
    (hw : Region.wanted ⟨dd, .buildSlice t m ls.toArray, ty, pos, af, gd⟩ (yielded l.toArray a.tmps) = true) (hp : (ls.map fun p => (p.1, a.eval p.2)) = ps) (hf : Parts n 0 ps out) (hl : ps.length = m) (h0 : 0 < m ∧ m * n ≤ 16777216)
    (h : ∀ g w', St X w0 w' (.blk g out e :: L) → S w' ∧ wpAnyH P md l.toArray Q S fuel (listed.setIfInBounds i true) (a.put dd (.slice (some ⟨g, 0, none⟩) m m)) w') : wpAnyH P md l.toArray Q S (fuel + 1) listed a w := by
  obtain ⟨j, hi, hz, hsz, hby⟩ := info_parts E.el.hi
  subst hl
  have h2 := h _ _ (hS.alloc out e)
  have hcells : Instr.fill (fun i => some (i * j.size, j.size)) ((Array.range (ps.length * j.size)).map (z.cells[· % z.cells.size]!)) (ls.toArray.map fun (x : Nat × Operand) => match x with | (i, x) => (i, a.eval x)).toList = some out.toArray := by
    have e1 : (ls.toArray.map fun (x : Nat × Operand) => match x with | (i, x) => (i, a.eval x)).toList = ps := by rw [← hp]; simp
    rw [e1, hsz]
    have := hf.fill [] ((Array.range (ps.length * n)).map (z.cells[· % z.cells.size]!)).toList (by simp) (by simp)
    rw [List.nil_append, Array.toArray_toList, List.nil_append] at this
    exact this
  have hrun := run_buildSlice (P := P) w t e ps.length (ls.toArray.map fun (x : Nat × Operand) => match x with | (i, x) => (i, a.eval x)) out.toArray j z E.el.ht hi hz (by rw [hsz]; omega) (by rw [hsz]; have := E.el.h0; have := Nat.mul_pos h0.1 this; omega) hcells
  refine heldNew i (v := .slice (some ⟨w.heap.size, 0, none⟩) ps.length ps.length) (w' := w.alloc (.cells out.toArray e)) ho hr hw ?_ h2.1 h2.2
  unfold execOp
  simp only [Sem.run_bind, hrun, Result.andThen_ok]
  rfl
end
/-! ### two operations that make memory, in either order -/
section
variable {P : Program} {Q : Exit → Act → World → Prop} {md : Region.Mode} {S : World → Prop} {fuel : Nat} {listed : Array Bool} {a : Act} {w w0 : World} {X : List Nat} {L : List Fc} {K : Act → World → Prop}
theorem opCall (i : Nat) {l : List Oper} {o : Oper} {f : FuncId} {args args' : Array Value} {R : Ending → World → Prop} (ho : l[i]? = some o) (hw : Region.wanted o (yielded l.toArray a.tmps) = true) (hrun : (execOp a.eval o).run P w = .ok (.enter f args') w)
    (hc : Calls P f args w R) (hargs : args' = args) (h : ∀ e w', R e w' → ∃ v, e = .returned v ∧ K (a.put o.dst v) w') : wpOp P l.toArray Q i K a w := by
  have ho' : l.toArray[i]? = some o := by simpa using ho
  unfold wpOp
  simp only [ho', hw, if_true]
  refine .inl ?_
  unfold Oper.wp
  rw [hrun, hargs]
  refine hc.mono fun e w' hR => ?_
  obtain ⟨v, rfl, h1⟩ := h e w' hR
  exact h1
theorem opAlloc (i : Nat) {l : List Oper} {dd : Option Tmp} {T : TypeId} {ty : TypeId} {pos : String} {af : Array Edge} {cs : List Value} [TZ P T cs] (hS : St X w0 w L) (ho : l[i]? = some ⟨dd, .alloc T, ty, pos, af, none⟩)
    (h : ∀ g w', St X w0 w' (.blk g cs T :: L) → K (a.put dd (.pointer (some ⟨g, 0, none⟩))) w') : wpOp P l.toArray Q i K a w := by
  have ho' : l.toArray[i]? = some ⟨dd, .alloc T, ty, pos, af, none⟩ := by simpa using ho
  unfold wpOp
  simp only [ho', Region.wanted, if_true]
  refine .inl ?_
  unfold Oper.wp
  rw [xAlloc (cs := cs) rfl]
  exact h _ _ (hS.alloc cs T)
theorem heldOf (i : Nat) {ops : Array Oper} (hr : Region.ready md ops listed = [i]) (h : wpOp P ops Q i (fun a' w' => S w' ∧ wpAnyH P md ops Q S fuel (listed.setIfInBounds i true) a' w') a w) : wpAnyH P md ops Q S (fuel + 1) listed a w :=
  wpAnyH_all hr (by simp) fun j hj => by
    obtain rfl : j = i := by simpa using hj
    exact h
theorem heldOf2 (i j : Nat) {ops : Array Oper} (hr : Region.ready md ops listed = [i, j]) (hi : wpOp P ops Q i (fun a' w' => S w' ∧ wpAnyH P md ops Q S fuel (listed.setIfInBounds i true) a' w') a w) (hj : wpOp P ops Q j (fun a' w' => S w' ∧ wpAnyH P md ops Q S fuel (listed.setIfInBounds j true) a' w') a w) : wpAnyH P md ops Q S (fuel + 1) listed a w :=
  wpAnyH_all hr (by simp) fun k hk => by
    rcases (by simpa using hk : k = i ∨ k = j) with rfl | rfl
    · exact hi
    · exact hj
/-- what stands behind the region is walked once -/
theorem heldFork {Lf : Nat → List Fc} {ACT : Nat → Act} {ops : Array Oper} (f : (∀ g w', St X w0 w' (Lf g) → Q .normal (ACT g) w') → wpAnyH P md ops Q S fuel listed a w) (h : ∀ g w', St X w0 w' (Lf g) → Q .normal (ACT g) w') : wpAnyH P md ops Q S fuel listed a w := f h
/-- a store, last of all -/
theorem opStore (i : Nat) {l : List Oper} {dd : Option Tmp} {T T' : TypeId} {n : Nat} {p x : Operand} {ty : TypeId} {pos : String} {af : Array Edge} [hT : TRow P T n] {g off : Nat} {cs new cs' : List Value} {L' : List Fc} (hS : St X w0 w L) (ho : l[i]? = some ⟨dd, .store T p x, ty, pos, af, none⟩) (hp : a.eval p = .pointer (some ⟨g, off, none⟩)) (hx : a.eval x = .agg new.toArray) [hm : HasB g L cs T'] [hn : Row new n] [hs : SetAt cs off new cs'] [hr : RepB g cs cs' T' L L']
    (h : ∀ w', St X w0 w' L' → K (a.put dd undef) w') : wpOp P l.toArray Q i K a w := by
  have ho' : l.toArray[i]? = some ⟨dd, .store T p x, ty, pos, af, none⟩ := by simpa using ho
  have hb := hS.blk hm.mem
  have hrun := ex_store_mid (P := P) (a := a) (o := ⟨dd, .store T p x, ty, pos, af, none⟩) rfl hp hx hb (by rw [hn.len]; exact hT.size) (by simpa using hs.fit) hn.one
  unfold wpOp
  simp only [ho', Region.wanted, if_true]
  refine .inl ?_
  unfold Oper.wp
  rw [hrun]
  refine h _ (hS.put hr.rep ?_ (fun B w0 hB hg => below_setRow hB hg _) (by simp) (fun k hk => setRow_other w g k _ hk))
  rw [setRow_heap w g _ _ T' _ hb, hs.eq]
theorem opStore1 (i : Nat) {l : List Oper} {dd : Option Tmp} {T T' : TypeId} {p x : Operand} {ty : TypeId} {pos : String} {af : Array Edge} [hT : TOne P T] {g off : Nat} {cs cs' : List Value} {v : Value} {L' : List Fc} (hS : St X w0 w L) (ho : l[i]? = some ⟨dd, .store T p x, ty, pos, af, none⟩) (hp : a.eval p = .pointer (some ⟨g, off, none⟩)) (hx : a.eval x = v) (hv : v.oneCell' = true) [hm : HasB g L cs T'] [hs : SetAt cs off [v] cs'] [hr : RepB g cs cs' T' L L']
    (h : ∀ w', St X w0 w' L' → K (a.put dd undef) w') : wpOp P l.toArray Q i K a w := by
  have ho' : l.toArray[i]? = some ⟨dd, .store T p x, ty, pos, af, none⟩ := by simpa using ho
  have hb := hS.blk hm.mem
  have hf := hs.fit
  simp only [List.length_singleton] at hf
  obtain ⟨hcell, hfz⟩ := blk_cells hb
  obtain ⟨j, hj, hjs⟩ := Option.map_eq_some_iff.1 hT.size
  have hone : v.cells = #[v] := by cases v <;> first | rfl | simp [Value.oneCell'] at hv
  have hst : (store (⟨g, off, none⟩ : Addr) v).run P w = .ok () (w.setCell ⟨g, off, none⟩ v) := by
    have hcl : w.cell? ⟨g, off, none⟩ = some (cs[off]'(Nat.lt_of_succ_le hf)) := by rw [hcell]; simp [Nat.lt_of_succ_le hf]
    cases v <;> first | (simp [Value.oneCell'] at hv; done) | simp [store, Sem.run, hcl, hfz]
  have hrun : (storeVar T ⟨g, off, none⟩ v).run P w = .ok () (w.setCell ⟨g, off, none⟩ v) := by
    simp [storeVar, hone, sizeOf, typeInfo, hj, hjs, storeCells, Addr.add, hst]
  unfold wpOp
  simp only [ho', Region.wanted, if_true]
  refine .inl ?_
  unfold Oper.wp execOp
  simp only [hp, hx, Instr.storeAt, Instr.sureAddr, Sem.run_bind, Sem.run_pure, Result.andThen_ok, hrun]
  refine h _ (hS.put hr.rep ?_ (fun B w0 hB hg => hB.setCell hg v) (by simp) (fun k hk => heap_setCell_other w _ k v hk))
  rw [heap_setCell_same w g off _ T' v hb, hs.eq, List.setIfInBounds_toArray, List.length_singleton, List.set_eq_take_append_cons_drop, if_pos (by omega)]
  simp
theorem opBSl (i : Nat) {l : List Oper} {dd : Option Tmp} {ty : TypeId} {pos : String} {af : Array Edge} {t e : TypeId} {m n bytes : Nat} {z : Value} [E : TS P t e n bytes z] {ls : List (Nat × Operand)} {ps : List (Nat × Value)} {out : List Value} (hS : St X w0 w L) (ho : l[i]? = some ⟨dd, .buildSlice t m ls.toArray, ty, pos, af, none⟩)
    (hp : (ls.map fun p => (p.1, a.eval p.2)) = ps) (hf : Parts n 0 ps out) (hl : ps.length = m) (h0 : 0 < m ∧ m * n ≤ 16777216) (h : ∀ g w', St X w0 w' (.blk g out e :: L) → K (a.put dd (.slice (some ⟨g, 0, none⟩) m m)) w') : wpOp P l.toArray Q i K a w := by
  have ho' : l.toArray[i]? = some ⟨dd, .buildSlice t m ls.toArray, ty, pos, af, none⟩ := by simpa using ho
  obtain ⟨j, hi, hz, hsz, hby⟩ := info_parts E.el.hi
  subst hl
  have h2 := h _ _ (hS.alloc out e)
  have hcells : Instr.fill (fun i => some (i * j.size, j.size)) ((Array.range (ps.length * j.size)).map (z.cells[· % z.cells.size]!)) (ls.toArray.map fun (x : Nat × Operand) => match x with | (i, x) => (i, a.eval x)).toList = some out.toArray := by
    have e1 : (ls.toArray.map fun (x : Nat × Operand) => match x with | (i, x) => (i, a.eval x)).toList = ps := by rw [← hp]; simp
    rw [e1, hsz]
    have := hf.fill [] ((Array.range (ps.length * n)).map (z.cells[· % z.cells.size]!)).toList (by simp) (by simp)
    rw [List.nil_append, Array.toArray_toList, List.nil_append] at this
    exact this
  have hrun := run_buildSlice (P := P) w t e ps.length (ls.toArray.map fun (x : Nat × Operand) => match x with | (i, x) => (i, a.eval x)) out.toArray j z E.el.ht hi hz (by rw [hsz]; omega) (by rw [hsz]; have := E.el.h0; have := Nat.mul_pos h0.1 this; omega) hcells
  unfold wpOp
  simp only [ho', Region.wanted, if_true]
  refine .inl ?_
  unfold Oper.wp execOp
  simp only [Sem.run_bind, hrun, Result.andThen_ok]
  exact h2
theorem opAppend (i : Nat) {l : List Oper} {dd : Option Tmp} {ty : TypeId} {pos : String} {af : Array Edge} {t e : TypeId} {size bytes : Nat} {z : Value} [E : TS P t e size bytes z] {s x : Operand} {n m c b O off k : Nat} {v : Value} {xs cs out : List Value} {M : List Fc} (hS : St X w0 w L) (ho : l[i]? = some ⟨dd, .call { callee := .builtin .append, args := #[s, x], argTypes := #[t, t] }, ty, pos, af, none⟩) (hx : a.eval x = .slice (some ⟨b, O, none⟩) m c) (hs : a.eval s = v)
    (hd : DropO v e L n size xs M) (hc : HasC b O L off cs) (hk : m * size = k) (hr : RowAt cs off k out) (h1 : Row out k) (hb : (n + m) * bytes ≤ 140737488355328)
    (h : ∀ v' w', St X w0 w' (.own v' (n + m) e size (xs ++ out) :: M) → K (a.put dd v') w') : wpOp P l.toArray Q i K a w := by
  have ho' : l.toArray[i]? = some ⟨dd, .call { callee := .builtin .append, args := #[s, x], argTypes := #[t, t] }, ty, pos, af, none⟩ := by simpa using ho
  have h2 := hS.perm hd.perm.symm
  have hrd : Rd w (some ⟨b, O, none⟩) out := fun j u hu => ⟨b, O, rfl, hc.cell hS j u (hr.at_ j u hu)⟩
  obtain ⟨v', w', hrun, h3, h4, h5⟩ := xAppend (o := ⟨dd, .call { callee := .builtin .append, args := #[s, x], argTypes := #[t, t] }, ty, pos, af, none⟩) rfl E.el hs (h2.own (List.mem_cons_self ..)) hx (by simp) (by rw [hr.len, hk]) hrd h1.one hb hS.size
  unfold wpOp
  simp only [ho', Region.wanted, if_true]
  refine .inl ?_
  unfold Oper.wp
  rw [hrun]
  exact h v' w' (h2.grow .head h3 h4 h5)
end
end Go.Proofs.YtgfkbeipckbkiaaDoor
/- S7 -/
namespace Go.Proofs.YtgfkbeipckbkiaaDoor
set_option linter.unusedSimpArgs false
set_option linter.unusedVariables false
open Go.RowKit
section
variable {P : Program} {X : List Nat} {w0 w : World} {L M : List Fc} {a : Act} {o : Oper}
theorem xShl8 {T T' : TypeId} {x y : Operand} {n : Int} (ho : o.op = .binOp .shl T x y T') (hx : a.eval x = .int .i64 n) (hy : a.eval y = .int .u64 8) (h : 0 ≤ n ∧ n < 256) :
    (execOp a.eval o).run P w = .ok (.value (.int .i64 (n * 256))) w := by
  unfold execOp
  simp only [ho, hx, hy]
  have e : (binOp .shl T (.int .i64 n) (.int .u64 8)).run P w = .ok (.int .i64 (n * 256)) w := by
    rw [← IntWalk.i64_in (n * 256) (by omega)]
    rfl
  rw [Sem.run_bind, Sem.run_bind]
  have g : (eqGuard .shl T x y (.int .i64 n) (.int .u64 8)).run P w = .ok () w := rfl
  rw [g, Result.andThen_ok, e]
  rfl
theorem or_byte (n m : Nat) (hn : n < 256) (hm : m < 256) : ((BitVec.ofInt 64 ((n : Int) * 256) ||| BitVec.ofInt 64 (m : Int)).toNat : Int) = (n : Int) * 256 + m := by
  have e1 : BitVec.ofInt 64 ((n : Int) * 256) = BitVec.ofNat 64 (n * 256) := by rw [← BitVec.ofInt_natCast]; congr 1
  have e2 : BitVec.ofInt 64 (m : Int) = BitVec.ofNat 64 m := by rw [← BitVec.ofInt_natCast]
  rw [e1, e2, BitVec.toNat_or, BitVec.toNat_ofNat, BitVec.toNat_ofNat, Nat.mod_eq_of_lt (by omega), Nat.mod_eq_of_lt (by omega)]
  have h := Nat.shiftLeft_add_eq_or_of_lt (i := 8) (show m < 2 ^ 8 by omega) n
  rw [Nat.shiftLeft_eq] at h
  rw [show n * 256 = n * 2 ^ 8 from rfl, ← h]
  rw [Int.natCast_add, Int.natCast_mul]
  rfl
theorem xOr8 {T T' : TypeId} {x y : Operand} {n m : Int} (ho : o.op = .binOp .or T x y T') (hx : a.eval x = .int .i64 (n * 256)) (hy : a.eval y = .int .i64 m) (h : 0 ≤ n ∧ n < 256) (h' : 0 ≤ m ∧ m < 256) :
    (execOp a.eval o).run P w = .ok (.value (.int .i64 (n * 256 + m))) w := by
  obtain ⟨n, rfl⟩ := Int.eq_ofNat_of_zero_le h.1
  obtain ⟨m, rfl⟩ := Int.eq_ofNat_of_zero_le h'.1
  unfold execOp
  simp only [ho, hx, hy]
  have e : (binOp .or T (.int .i64 ((n : Int) * 256)) (.int .i64 (m : Int))).run P w = .ok (.int .i64 ((n : Int) * 256 + m)) w := by
    rw [← IntWalk.i64_in ((n : Int) * 256 + m) (by omega), ← or_byte n m (by omega) (by omega)]
    rfl
  rw [Sem.run_bind, Sem.run_bind]
  have g : (eqGuard .or T x y (.int .i64 ((n : Int) * 256)) (.int .i64 (m : Int))).run P w = .ok () w := rfl
  rw [g, Result.andThen_ok, e]
  rfl
theorem run_mkFunc (fn : Fn) (first cap : Array Value) (w : World) : (Instr.makeFunc fn first cap).run P w = .ok (.func fn first cap) w := rfl
/-- a block that may be written stands apart from what is read -/
theorem St.rdNe (h : St X w0 w L) {A : Option Addr} {g T : Nat} {cs cs' : List Value} [hm : HasA A L cs] [hb : HasB g L cs' T] : ∀ k, (Fc.rd A cs).foot k → k ≠ g := fun k hk e =>
  pw_mem h.sep hm.mem hb.mem (fun e => by cases e) rfl k hk e
/-- the length of the slice in cell k of a block -/
def lenAt (w : World) (g k : Nat) : Nat := match w.heap[g]? with | some (.cells cs _ _) => (match cs[k]? with | some (.slice _ n _) => n | _ => 0) | _ => 0
theorem St.lenAt (h : St X w0 w L) (g k : Nat) {T : Nat} {cs : List Value} {A : Option Addr} {n c : Nat} [hb : HasB g L cs T] [hc : CellAt cs k (.slice A n c)] : Go.Proofs.YtgfkbeipckbkiaaDoor.lenAt w g k = n := by
  unfold Go.Proofs.YtgfkbeipckbkiaaDoor.lenAt
  rw [h.blk hb.mem]
  simp [hc.at_]
end
section
variable {P : Program} {ops : Array Oper} {Q : Exit → Act → World → Prop} {a : Act} {w w0 : World} {X : List Nat} {L : List Fc}
/-- a region that draws its order: L' stays throughout -/
theorem heldStW {id : Nat} (L' : List Fc) (hS : St X w0 w L) (hm : P.follows .mixedOrders = true) (hQ : HQ Q) (h : HQ Q → ∀ w', St X w0 w' L → wpAnyH P .any ops Q (fun w' => St X w0 w' L') ops.size (Array.replicate ops.size false) a w') : (Code.region id ops true).wp P Q a w :=
  heldQ hm hQ fun hQ => h hQ _ hS.drew
theorem heldForkA {md : Region.Mode} {S : World → Prop} {fuel : Nat} {listed : Array Bool} {Lf : Nat → Option Addr → Nat → List Fc} {ACT : Nat → Option Addr → Nat → Act} (f : (∀ g A c w', St X w0 w' (Lf g A c) → Q .normal (ACT g A c) w') → wpAnyH P md ops Q S fuel listed a w) (h : ∀ g A c w', St X w0 w' (Lf g A c) → Q .normal (ACT g A c) w') : wpAnyH P md ops Q S fuel listed a w := f h
theorem opVal {K : Act → World → Prop} (i : Nat) {l : List Oper} {o : Oper} {v : Value} (ho : l[i]? = some o) (hw : Region.wanted o (yielded l.toArray a.tmps) = true) (hrun : (execOp a.eval o).run P w = .ok (.value v) w) (h : K (a.put o.dst v) w) : wpOp P l.toArray Q i K a w := by
  have ho' : l.toArray[i]? = some o := by simpa using ho
  unfold wpOp
  simp only [ho', hw, if_true]
  refine .inl ?_
  unfold Oper.wp
  rw [hrun]
  exact h
theorem opStore1E {K : Act → World → Prop} (i : Nat) {l : List Oper} {dd : Option Tmp} {T T' : TypeId} {p x : Operand} {ty : TypeId} {pos : String} {af : Array Edge} [hT : TOne P T] {g off : Nat} {cs cs' : List Value} {v : Value} {L' : List Fc} (hS : St X w0 w L) (ho : l[i]? = some ⟨dd, .store T p x, ty, pos, af, none⟩) (hp : a.eval p = .pointer (some ⟨g, off, none⟩)) (hx : a.eval x = v) (hv : v.oneCell' = true) (hm : HasB g L cs T') (hs : SetAt cs off [v] cs') (hr : RepB g cs cs' T' L L')
    (h : ∀ w', St X w0 w' L' → K (a.put dd undef) w') : wpOp P l.toArray Q i K a w := opStore1 i hS ho hp hx hv h
end
end Go.Proofs.YtgfkbeipckbkiaaDoor
/- N1 -/
namespace Go.Proofs.YtgfkbeipckbkiaaDoor
set_option linter.unusedSimpArgs false
set_option linter.unusedVariables false
open Go.RowKit
inductive Fa where
  | blk (g : Nat) (cs : List Value) (T : TypeId)
  | rd (A : Option Addr) (cs : List Value)
  | own (v : Value) (n : Nat) (e : TypeId) (size : Nat) (xs : List Value)
  | obj (g : Nat) (o : Obj)
  | inv (φ : World → Prop) (F : Nat → Prop)
  | zone (b : Bool) (h : Nat → Option Obj)
def Fa.wr : Fa → Bool
  | .blk .. => true
  | .own .. => true
  | .obj .. => true
  | .zone b _ => b
  | _ => false
def Fa.foot : Fa → Nat → Prop
  | .blk g _ _, k => k = g
  | .rd A cs, k => cs ≠ [] ∧ ∃ o, A = some ⟨k, o, none⟩
  | .own v _ _ _ _, k => v.ownBlock = some k
  | .obj g _, k => k = g
  | .inv _ F, k => F k
  | .zone _ h, k => ∃ o, h k = some o
def Fa.holds (w : World) : Fa → Prop
  | .blk g cs T => w.heap[g]? = some (.cells cs.toArray T (0, 0))
  | .rd A cs => Rd w A cs
  | .own v n e size xs => w.ownsRow 0 e size v n xs
  | .obj g o => w.heap[g]? = some o
  | .inv φ F => φ w ∧ (∀ k, F k → k < w.heap.size) ∧ ∀ w', (∀ k, F k → w'.heap[k]? = w.heap[k]?) → φ w'
  | .zone _ h => ∀ k o, h k = some o → w.heap[k]? = some o
def Fa.sep (f g : Fa) : Prop := (f.wr || g.wr) = true → ∀ k, f.foot k → g.foot k → False
theorem Fa.bound {w : World} {f : Fa} (h : f.holds w) {k : Nat} (hk : f.foot k) : k < w.heap.size := by
  cases f with
  | blk g cs T => obtain rfl : k = g := hk; exact (Array.getElem?_eq_some_iff.1 h).1
  | rd A cs => exact Fc.bound (B := 0) (f := .rd A cs) h hk
  | own v n e size xs => exact (World.ownsRow.lt h k hk).2
  | obj g o => obtain rfl : k = g := hk; exact (Array.getElem?_eq_some_iff.1 h).1
  | inv φ F => exact h.2.1 k hk
  | zone b z => obtain ⟨o, ho⟩ := hk; exact (Array.getElem?_eq_some_iff.1 (h k o ho)).1
theorem Fa.kept {w w' : World} {f : Fa} (h : f.holds w) (hsz : w.heap.size ≤ w'.heap.size) (hk : ∀ k, f.foot k → w'.heap[k]? = w.heap[k]?) : f.holds w' := by
  cases f with
  | blk g cs T => exact (hk g rfl).trans h
  | rd A cs => exact rd_heap h hk
  | own v n e size xs => exact own_heap h hk
  | obj g o => exact (hk g rfl).trans h
  | inv φ F => exact ⟨h.2.2 w' hk, fun k hF => Nat.lt_of_lt_of_le (h.2.1 k hF) hsz, fun w'' h'' => h.2.2 w'' fun k hF => (h'' k hF).trans (hk k hF)⟩
  | zone b z => exact fun k o ho => (hk k ⟨o, ho⟩).trans (h k o ho)
theorem Fa.sep_symm {f g : Fa} (h : f.sep g) : g.sep f := fun hw k a b => h (by rw [Bool.or_comm]; exact hw) k b a
theorem Fa.sep_rd {f g : Fa} (hf : f.wr = false) (hg : g.wr = false) : f.sep g := fun hw => by rw [hf, hg] at hw; cases hw
theorem apart_mem : ∀ {L : List Fa}, L.Pairwise Fa.sep → ∀ {f g : Fa}, f ∈ L → g ∈ L → f ≠ g → f.sep g
  | [], _, _, _, hf, _, _ => (List.not_mem_nil hf).elim
  | x :: l, hp, f, g, hf, hg, hne => by
    obtain ⟨h1, h2⟩ := List.pairwise_cons.1 hp
    rcases List.mem_cons.1 hf with h2f | h2f
    · rcases List.mem_cons.1 hg with h2g | h2g
      · exact (hne (h2f.trans h2g.symm)).elim
      · exact h2f ▸ h1 g h2g
    · rcases List.mem_cons.1 hg with h2g | h2g
      · exact Fa.sep_symm (h2g ▸ h1 f h2f)
      · exact apart_mem h2 h2f h2g hne
/-- the blocks that may be turned -/
def wf (A : List Fa) (k : Nat) : Prop := ∃ f ∈ A, f.wr = true ∧ f.foot k
structure Fx (w : World) (L : List Fa) : Prop where
  ok : ∀ f ∈ L, f.holds w
  sep : L.Pairwise Fa.sep
structure Sx (A : List Fa) (W w : World) (L : List Fa) : Prop extends Fx w L where
  os : w.os = W.os
  tape : w.tape = W.tape
  output : w.output = W.output
  size : W.heap.size ≤ w.heap.size
  block : ∀ k, k < W.heap.size → ¬ wf A k → w.heap[k]? = W.heap[k]?
  fresh : ∀ f ∈ L, f.wr = true → ∀ k, f.foot k → W.heap.size ≤ k ∨ wf A k
/-- what a call leaves: each fact on new blocks, or on those that it might turn -/
structure Rx (A : List Fa) (W w : World) (N : List Fa) : Prop extends Sx A W w N where
  all : ∀ f ∈ N, ∀ k, f.foot k → W.heap.size ≤ k ∨ wf A k
/-- what is read, apart from what is turned -/
def Reads (w : World) (A R : List Fa) : Prop := ∀ r ∈ R, r.wr = false ∧ r.holds w ∧ ∀ a ∈ A, a.sep r
/-- **a function's contract**: A is turned into N x, R is read -/
def Spec (P : Program) (f : FuncId) (args : Array Value) (R A : List Fa) {τ : Type} (v : τ → Value) (N : τ → List Fa) : Prop :=
  ∀ w, Fx w A → Reads w A R → Calls P f args w fun e w' => ∃ x, e = .returned (v x) ∧ Rx A w w' (N x)
section
variable {A : List Fa} {W w w' : World} {L M N : List Fa}
theorem Fx.sub (h : Fx w L) (hs : M.Sublist L) : Fx w M := ⟨fun f hf => h.ok f (hs.subset hf), h.sep.sublist hs⟩
theorem Fx.perm (h : Fx w L) (hp : L.Perm M) : Fx w M := ⟨fun f hf => h.ok f (hp.mem_iff.2 hf), (hp.pairwise_iff fun hab => Fa.sep_symm hab).1 h.sep⟩
theorem Fx.nil (w : World) : Fx w [] := ⟨fun _ h => (List.not_mem_nil h).elim, .nil⟩
theorem Sx.sub (h : Sx A W w L) (hs : M.Sublist L) : Sx A W w M := ⟨h.toFx.sub hs, h.os, h.tape, h.output, h.size, h.block, fun f hf => h.fresh f (hs.subset hf)⟩
theorem Sx.perm (h : Sx A W w L) (hp : L.Perm M) : Sx A W w M := ⟨h.toFx.perm hp, h.os, h.tape, h.output, h.size, h.block, fun f hf => h.fresh f (hp.mem_iff.2 hf)⟩
theorem Sx.cast (h : Sx A W w L) (e : L = M) : Sx A W w M := e ▸ h
theorem Sx.start (hA : Fx W A) {R : List Fa} (hR : Reads W A R) : Sx A W W (A ++ R) :=
  ⟨⟨fun f hf => (List.mem_append.1 hf).elim (hA.ok f) fun h => (hR f h).2.1, List.pairwise_append.2 ⟨hA.sep, List.pairwise_of_forall_mem_list fun a ha b hb => Fa.sep_rd (hR a ha).1 (hR b hb).1, fun a ha b hb => (hR b hb).2.2 a ha⟩⟩,
   rfl, rfl, rfl, Nat.le_refl _, fun _ _ _ => rfl, fun f hf hw k hk => (List.mem_append.1 hf).elim (fun h => .inr ⟨f, h, hw, hk⟩) fun h => by rw [(hR f h).1] at hw; cases hw⟩
theorem Sx.res (h : Sx A W w L) (hs : N.Sublist L) (hw : ∀ f ∈ N, f.wr = true) : Rx A W w N :=
  ⟨h.sub hs, fun f hf k hk => h.fresh f (hs.subset hf) (hw f hf) k hk⟩
/-- all that stands stays -/
theorem Sx.call (h : Sx A W w L) (hb : Below w.heap.size w w') : Sx A W w' L :=
  ⟨⟨fun f hf => Fa.kept (h.ok f hf) hb.size fun k hk => hb.block k (Fa.bound (h.ok f hf) hk), h.sep⟩, hb.os.trans h.os, hb.tape.trans h.tape, hb.output.trans h.output, Nat.le_trans h.size hb.size,
   fun k hk hn => (hb.block k (Nat.lt_of_lt_of_le hk h.size)).trans (h.block k hk hn), h.fresh⟩
theorem Sx.drew (h : Sx A W w L) : Sx A W w.drew L := h.call ((Below.refl _ _).drew)
theorem Sx.cons (h : Sx A W w L) {f : Fa} (hf : f.holds w) (hs : ∀ g ∈ L, f.sep g) (hfr : f.wr = true → ∀ k, f.foot k → W.heap.size ≤ k ∨ wf A k) : Sx A W w (f :: L) :=
  ⟨⟨fun g hg => (List.mem_cons.1 hg).elim (fun e => e ▸ hf) (h.ok g), List.pairwise_cons.2 ⟨hs, h.sep⟩⟩, h.os, h.tape, h.output, h.size, h.block, fun g hg => (List.mem_cons.1 hg).elim (fun e => e ▸ hfr) (h.fresh g)⟩
theorem Sx.tail {f : Fa} (h : Sx A W w (f :: L)) : Sx A W w L := h.sub (List.sublist_cons_self _ _)
/-- a new block -/
theorem Sx.alloc (h : Sx A W w L) (cs : List Value) (T : TypeId) : Sx A W (w.alloc (.cells cs.toArray T)) (.blk w.heap.size cs T :: L) := by
  have hb : Below w.heap.size w (w.alloc (.cells cs.toArray T)) := (Below.refl _ _).alloc (Nat.le_refl _) _
  refine (h.call hb).cons ?_ ?_ ?_
  · show (w.heap.push _)[w.heap.size]? = _
    simp
  · intro g hg _ k hk hk'
    obtain rfl : k = w.heap.size := hk
    have := Fa.bound (h.ok g hg) hk'
    omega
  · rintro _ k hk
    obtain rfl : k = w.heap.size := hk
    exact .inl h.size
/-- behind a call: its facts turned, the others as they were -/
theorem Sx.ret {A' N : List Fa} (h : Sx A W w (A' ++ M)) (hr : Rx A' w w' N) : Sx A W w' (N ++ M) := by
  have hap : ∀ f ∈ A', f.wr = true → ∀ g ∈ M, ∀ k, f.foot k → g.foot k → False := fun f hf hw g hg k h1 h2 =>
    (List.pairwise_append.1 h.sep).2.2 f hf g hg (by rw [Bool.or_eq_true]; exact .inl hw) k h1 h2
  have hM : ∀ g ∈ M, ∀ k, g.foot k → ¬ wf A' k := fun g hg k hk ⟨f, hf, hw, hfk⟩ => hap f hf hw g hg k hfk hk
  refine ⟨⟨fun f hf => ?_, List.pairwise_append.2 ⟨hr.sep, (List.pairwise_append.1 h.sep).2.1, fun f hf g hg _ k a b => ?_⟩⟩, hr.os.trans h.os, hr.tape.trans h.tape, hr.output.trans h.output, Nat.le_trans h.size hr.size, fun k hk hn => ?_, fun f hf hw k hk => ?_⟩
  · rcases List.mem_append.1 hf with hf | hf
    · exact hr.ok f hf
    · have ho := h.ok f (List.mem_append_right _ hf)
      exact Fa.kept ho hr.size fun k hk => hr.block k (Fa.bound ho hk) (hM f hf k hk)
  · have hb := Fa.bound (h.ok g (List.mem_append_right _ hg)) b
    rcases hr.all f hf k a with h1 | h1
    · omega
    · exact hM g hg k b h1
  · refine (hr.block k (Nat.lt_of_lt_of_le hk h.size) ?_).trans (h.block k hk hn)
    rintro ⟨f, hf, hw, hfk⟩
    rcases h.fresh f (List.mem_append_left _ hf) hw k hfk with h1 | h1
    · omega
    · exact hn h1
  · rcases List.mem_append.1 hf with hf | hf
    · rcases hr.all f hf k hk with h1 | ⟨g, hg, hgw, hgk⟩
      · exact .inl (Nat.le_trans h.size h1)
      · exact h.fresh g (List.mem_append_left _ hg) hgw k hgk
    · exact h.fresh f (List.mem_append_right _ hf) hw k hk
theorem Rx.of_below (h : Below W.heap.size W w) : Rx [] W w [] :=
  ⟨⟨Fx.nil _, h.os, h.tape, h.output, h.size, fun k hk _ => h.block k hk, fun _ h => (List.not_mem_nil h).elim⟩, fun _ h => (List.not_mem_nil h).elim⟩
theorem Rx.below (h : Rx [] W w N) : Below W.heap.size W w := ⟨h.os, h.tape, h.output, h.size, fun k hk => h.block k hk fun ⟨_, hf, _⟩ => (List.not_mem_nil hf).elim⟩
/-- a writing step -/
theorem Sx.turn {f f' : Fa} (h : Sx A W w (f :: L)) (hfw : f.wr = true) (hft : ∀ k, f'.foot k → f.foot k ∨ w.heap.size ≤ k) (hw : f'.holds w')
    (hos : w'.os = w.os) (htp : w'.tape = w.tape) (hout : w'.output = w.output) (hsz : w.heap.size ≤ w'.heap.size) (hk : ∀ k, k < w.heap.size → ¬ f.foot k → w'.heap[k]? = w.heap[k]?) : Sx A W w' (f' :: L) := by
  have hr : Rx [f] w w' [f'] := ⟨⟨⟨fun g hg => by rw [List.mem_singleton.1 hg]; exact hw, List.pairwise_singleton _ _⟩, hos, htp, hout, hsz,
    fun k hk' hn => hk k hk' fun hf => hn ⟨f, List.mem_singleton.2 rfl, hfw, hf⟩, fun g hg _ k hgk => ?_⟩, fun g hg k hgk => ?_⟩
  · exact Sx.ret (A' := [f]) (N := [f']) h hr
  all_goals
    rw [List.mem_singleton.1 hg] at hgk
    exact (hft k hgk).elim (fun h1 => .inr ⟨f, List.mem_singleton.2 rfl, hfw, h1⟩) .inl
end
/-! ### how facts are found -/
/-- the facts A, and the others -/
class Take (A L : List Fa) (M : outParam (List Fa)) : Prop where
  perm : L.Perm (A ++ M)
class Take1 (f : Fa) (L : List Fa) (M : outParam (List Fa)) : Prop where
  perm : L.Perm (f :: M)
instance (f : Fa) (L : List Fa) : Take1 f (f :: L) L := ⟨List.Perm.refl _⟩
instance (priority := 100) (f g : Fa) (L M : List Fa) [h : Take1 f L M] : Take1 f (g :: L) (g :: M) := ⟨(h.perm.cons g).trans (.swap ..)⟩
instance (L : List Fa) : Take [] L L := ⟨List.Perm.refl _⟩
instance (f : Fa) (A L M M' : List Fa) [h : Take1 f L M] [k : Take A M M'] : Take (f :: A) L M' := ⟨h.perm.trans (k.perm.cons f)⟩
/-- a block of one's own, by its name -/
class TakeB (g : Nat) (L : List Fa) (cs : outParam (List Value)) (T : outParam TypeId) (M : outParam (List Fa)) : Prop where
  perm : L.Perm (.blk g cs T :: M)
instance (g : Nat) (cs : List Value) (T : TypeId) (L : List Fa) : TakeB g (.blk g cs T :: L) cs T L := ⟨List.Perm.refl _⟩
instance (priority := 100) (g : Nat) (f : Fa) (cs : List Value) (T : TypeId) (L M : List Fa) [h : TakeB g L cs T M] : TakeB g (f :: L) cs T (f :: M) := ⟨(h.perm.cons f).trans (.swap ..)⟩
class TakeO (v : Value) (L : List Fa) (n : outParam Nat) (e : outParam TypeId) (size : outParam Nat) (xs : outParam (List Value)) (M : outParam (List Fa)) : Prop where
  perm : L.Perm (.own v n e size xs :: M)
instance (v : Value) (n : Nat) (e : TypeId) (size : Nat) (xs : List Value) (L : List Fa) : TakeO v (.own v n e size xs :: L) n e size xs L := ⟨List.Perm.refl _⟩
instance (priority := 100) (v : Value) (f : Fa) (n : Nat) (e : TypeId) (size : Nat) (xs : List Value) (L M : List Fa) [h : TakeO v L n e size xs M] : TakeO v (f :: L) n e size xs (f :: M) := ⟨(h.perm.cons f).trans (.swap ..)⟩
/-- by its block -/
class TakeG (g : Nat) (L : List Fa) (n c : outParam Nat) (e : outParam TypeId) (size : outParam Nat) (xs : outParam (List Value)) (M : outParam (List Fa)) : Prop where
  perm : L.Perm (.own (.slice (some ⟨g, 0, none⟩) n c) n e size xs :: M)
instance (g n c : Nat) (e : TypeId) (size : Nat) (xs : List Value) (L : List Fa) : TakeG g (.own (.slice (some ⟨g, 0, none⟩) n c) n e size xs :: L) n c e size xs L := ⟨List.Perm.refl _⟩
instance (priority := 100) (g : Nat) (f : Fa) (n c : Nat) (e : TypeId) (size : Nat) (xs : List Value) (L M : List Fa) [h : TakeG g L n c e size xs M] : TakeG g (f :: L) n c e size xs (f :: M) := ⟨(h.perm.cons f).trans (.swap ..)⟩
/-- a cell that is known: in a block, in what is read, in a row of one's own -/
class Cells (b O : Nat) (L : List Fa) (off : outParam Nat) (cs : outParam (List Value)) : Prop where
  cell : ∀ {w : World}, Fx w L → ∀ j v, cs[off + j]? = some v → w.cell? ⟨b, O + j, none⟩ = some v
theorem Fx.tail {w : World} {f : Fa} {L : List Fa} (h : Fx w (f :: L)) : Fx w L := h.sub (List.sublist_cons_self _ _)
instance (priority := 50) (b O : Nat) (f : Fa) (L : List Fa) (off : Nat) (cs : List Value) [h : Cells b O L off cs] : Cells b O (f :: L) off cs := ⟨fun hS => h.cell hS.tail⟩
instance (b O : Nat) (L : List Fa) (cs : List Value) (T : TypeId) : Cells b O (.blk b cs T :: L) O cs :=
  ⟨fun hS j v hv => by rw [cell_of_row _ b (O + j) cs.toArray T (0, 0) (hS.ok _ (List.mem_cons_self ..))]; simpa using hv⟩
instance (b o off : Nat) (L : List Fa) (cs : List Value) : Cells b (o + off) (.rd (some ⟨b, o, none⟩) cs :: L) off cs :=
  ⟨fun hS j v hv => by have := Rd.range (hS.ok (.rd (some ⟨b, o, none⟩) cs) (List.mem_cons_self ..)) _ v hv; rwa [← Nat.add_assoc] at this⟩
instance (b o : Nat) (L : List Fa) (cs : List Value) : Cells b o (.rd (some ⟨b, o, none⟩) cs :: L) 0 cs :=
  ⟨fun hS j v hv => by have := Rd.range (hS.ok (.rd (some ⟨b, o, none⟩) cs) (List.mem_cons_self ..)) _ v hv; rwa [Nat.zero_add] at this⟩
instance (priority := 900) (b O : Nat) (L : List Fa) (cs : List Value) : Cells b O (.rd (some ⟨b, 0, none⟩) cs :: L) O cs :=
  ⟨fun hS j v hv => by have := Rd.range (hS.ok (.rd (some ⟨b, 0, none⟩) cs) (List.mem_cons_self ..)) _ v hv; rwa [Nat.zero_add] at this⟩
instance (b O : Nat) (L : List Fa) (n c e size : Nat) (xs : List Value) : Cells b O (.own (.slice (some ⟨b, 0, none⟩) n c) n e size xs :: L) O xs :=
  ⟨fun hS j v hv => own_cell (hS.ok (.own _ _ _ _ _) (List.mem_cons_self ..)) hv⟩
/-- facts that a callee reads -/
class Rds (L R : List Fa) : Prop where
  ok : ∀ {w : World}, Fx w L → ∀ r ∈ R, r.wr = false ∧ r.holds w ∧ ∀ k, r.foot k → ∃ f ∈ L, f.foot k
class Rd1 (L : List Fa) (r : Fa) : Prop where
  ok : ∀ {w : World}, Fx w L → r.wr = false ∧ r.holds w ∧ ∀ k, r.foot k → ∃ f ∈ L, f.foot k
instance (L : List Fa) : Rds L [] := ⟨fun _ _ h => (List.not_mem_nil h).elim⟩
instance (L R : List Fa) (r : Fa) [h : Rd1 L r] [k : Rds L R] : Rds L (r :: R) := ⟨fun hw s hs => (List.mem_cons.1 hs).elim (fun e => e ▸ h.ok hw) (k.ok hw s)⟩
instance (priority := 20) (f r : Fa) (L : List Fa) [h : Rd1 L r] : Rd1 (f :: L) r := ⟨fun hw => by
  obtain ⟨h1, h2, h3⟩ := h.ok hw.tail
  exact ⟨h1, h2, fun k hk => let ⟨g, hg, hgk⟩ := h3 k hk; ⟨g, List.mem_cons_of_mem _ hg, hgk⟩⟩⟩
instance (priority := 2000) (L : List Fa) (A : Option Addr) : Rd1 L (.rd A []) := ⟨fun _ => ⟨rfl, Rd.nil _ _, fun _ hk => (hk.1 rfl).elim⟩⟩
instance (priority := 1500) (A : Option Addr) (cs : List Value) (L : List Fa) : Rd1 (.rd A cs :: L) (.rd A cs) := ⟨fun hw => ⟨rfl, hw.ok _ (List.mem_cons_self ..), fun k hk => ⟨_, List.mem_cons_self .., hk⟩⟩⟩
instance (priority := 1500) (φ : World → Prop) (F : Nat → Prop) (L : List Fa) : Rd1 (.inv φ F :: L) (.inv φ F) := ⟨fun hw => ⟨rfl, hw.ok _ (List.mem_cons_self ..), fun k hk => ⟨_, List.mem_cons_self .., hk⟩⟩⟩
theorem rd_foot {A : Option Addr} {cs : List Value} {b o k : Nat} (h : (Fa.rd (some ⟨b, o, none⟩) cs).foot k) : k = b := by
  obtain ⟨_, o', e⟩ := h
  injection e with e
  injection e with e1 _
  exact e1.symm
instance (priority := 1400) (g off T n : Nat) (cs out : List Value) (L : List Fa) [hn : Row out n] [hr : RowAt cs off n out] : Rd1 (.blk g cs T :: L) (.rd (some ⟨g, off, none⟩) out) := ⟨fun hw =>
  ⟨rfl, fun j v hv => ⟨g, off, rfl, by rw [cell_of_row _ g (off + j) cs.toArray T (0, 0) (hw.ok _ (List.mem_cons_self ..))]; simpa using hr.at_ j v hv⟩, fun k hk => ⟨_, List.mem_cons_self .., by rw [rd_foot (A := none) hk]; rfl⟩⟩⟩
instance (priority := 1400) (b o off n : Nat) (cs out : List Value) (L : List Fa) [hn : Row out n] [hr : RowAt cs off n out] : Rd1 (.rd (some ⟨b, o, none⟩) cs :: L) (.rd (some ⟨b, o + off, none⟩) out) := ⟨fun hw =>
  ⟨rfl, fun j v hv => ⟨b, o + off, rfl, by rw [Nat.add_assoc]; exact Rd.range (hw.ok (.rd (some ⟨b, o, none⟩) cs) (List.mem_cons_self ..)) _ v (hr.at_ j v hv)⟩, fun k hk => ⟨_, List.mem_cons_self .., by
    rw [rd_foot (A := none) hk]
    refine ⟨fun hc => ?_, o, rfl⟩
    obtain ⟨hne, _⟩ := hk
    cases out with
    | nil => exact hne rfl
    | cons x out => have := hr.at_ 0 x rfl; rw [hc] at this; simp at this⟩⟩⟩
theorem own_form' {w : World} {e size n : Nat} {v : Value} {xs : List Value} (ho : w.ownsRow 0 e size v n xs) : ∃ A c, v = .slice A n c ∧ n ≤ c ∧ (A = none → n = 0 ∧ c = 0) ∧ xs.length = n * size := by
  rcases ho.2 with ⟨rfl, rfl⟩ | ⟨g, cap, cur, rfl, _, _, hn, _⟩
  · exact ⟨none, 0, rfl, Nat.le_refl _, fun _ => ⟨rfl, rfl⟩, ho.1⟩
  · exact ⟨_, cap, rfl, hn, by simp, ho.1⟩
theorem own_rd' {w : World} {e size n c : Nat} {A : Option Addr} {xs : List Value} (ho : w.ownsRow 0 e size (.slice A n c) n xs) : Rd w A xs := by
  obtain ⟨A', c', e', _, hr⟩ := own_Rd ho
  injection e' with e1 _ _
  subst e1
  exact hr
instance (priority := 1400) (A : Option Addr) (n c e size : Nat) (xs : List Value) (L : List Fa) : Rd1 (.own (.slice A n c) n e size xs :: L) (.rd A xs) := ⟨fun hw => by
  have ho : _root_.Go.World.ownsRow _ 0 e size (.slice A n c) n xs := hw.ok (.own _ _ _ _ _) (List.mem_cons_self ..)
  refine ⟨rfl, own_rd' ho, fun k hk => ⟨_, List.mem_cons_self .., ?_⟩⟩
  obtain ⟨_, o, rfl⟩ := hk
  rfl⟩
/-- a callee's facts out of the caller's -/
theorem Sx.reads {A W w} {L A' M R : List Fa} (h : Sx A W w L) (hp : L.Perm (A' ++ M)) (hr : Rds M R) : Reads w A' R := fun r hrm => by
  have h2 := h.perm hp
  have hM : Fx w M := h2.toFx.sub (List.sublist_append_right _ _)
  obtain ⟨h3, h4, h5⟩ := hr.ok hM r hrm
  refine ⟨h3, h4, fun a ha hw k hak hrk => ?_⟩
  obtain ⟨f, hf, hfk⟩ := h5 k hrk
  have haw : a.wr = true := by simpa [h3] using hw
  exact (List.pairwise_append.1 h2.sep).2.2 a ha f hf (by rw [Bool.or_eq_true]; exact .inl haw) k hak hfk
end Go.Proofs.YtgfkbeipckbkiaaDoor
