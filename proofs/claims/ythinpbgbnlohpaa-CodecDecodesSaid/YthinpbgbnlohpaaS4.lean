/- Regions that draw their order, over what is known of the world; single pure operations. -/
import Derived.Test.YthinpbgbnlohpaaS3
import Derived.IntWalk
namespace Go.Proofs.Ythinpbgbnlohpaa
set_option linter.unusedSimpArgs false
set_option linter.unusedVariables false
open Go.RowKit
/-! where a cell stands, in a block of one's own or in what is read -/
class HasC (b O : Nat) (L : List Fc) (off : outParam Nat) (cs : outParam (List Value)) : Prop where
  cell : ∀ {X : List Nat} {w0 w : World}, St X w0 w L → ∀ j v, cs[off + j]? = some v → w.cell? ⟨b, O + j, none⟩ = some v
instance (priority := 100) (b O : Nat) (L : List Fc) (cs : List Value) (T : TypeId) [h : HasB b L cs T] : HasC b O L O cs :=
  ⟨fun hS j v hv => by rw [cell_of_row _ b (O + j) cs.toArray T (0, 0) (hS.blk h.mem)]; simpa using hv⟩
instance (b O : Nat) (L : List Fc) (o off : Nat) (cs : List Value) [h : HasR b O L o off cs] : HasC b O L off cs :=
  ⟨fun hS j v hv => by have := (hS.rd h.mem).range _ v hv; rwa [← Nat.add_assoc, ← h.off] at this⟩
/-- field i of a struct type: where it stands -/
class TFA (P : Program) (T : TypeId) (i : Nat) (off : outParam Nat) : Prop where
  fld : ∃ (fs : Array Field) (f : Field) (s : Nat), P.underlying T = some (.struct fs) ∧ fs[i]? = some f ∧ f.offset = off ∧ (P.info? f.type).map (·.size) = some (s + 1)
section
variable {P : Program} {X : List Nat} {w0 w : World} {L : List Fc} {a : Act} {o : Oper}
theorem xRowC {T : TypeId} {n : Nat} {x : Operand} [hT : TRow P T n] {b O off : Nat} {cs out : List Value} (hS : St X w0 w L) (ho : o.op = .load T x) (hx : a.eval x = .pointer (some ⟨b, O, none⟩)) [hm : HasC b O L off cs] [hr : RowAt cs off n out] :
    (execOp a.eval o).run P w = .ok (.value (.agg out.toArray)) w := by
  obtain ⟨d, hu, hd⟩ := hT.und
  exact ex_load_row ho hx (cs := out) (fun j v hv => hm.cell hS j v (hr.at_ j v hv)) hu hd (by rw [hr.len]; exact hT.size)
theorem xCellC {T : TypeId} {x : Operand} [hT : TOne P T] {b O off : Nat} {cs : List Value} {v : Value} (hS : St X w0 w L) (ho : o.op = .load T x) (hx : a.eval x = .pointer (some ⟨b, O, none⟩)) [hm : HasC b O L off cs] [hr : CellAt cs off v] :
    (execOp a.eval o).run P w = .ok (.value v) w := by
  obtain ⟨d, hu, hd⟩ := hT.und
  exact ex_load_cell ho hx (by have := hm.cell hS 0 v (by simpa using hr.at_); simpa using this) hu hd
theorem xField {T : TypeId} {x : Operand} {i off : Nat} [h : TFA P T i off] {b O : Nat} (ho : o.op = .fieldAddr T x i) (hx : a.eval x = .pointer (some ⟨b, O, none⟩)) :
    (execOp a.eval o).run P w = .ok (.value (.pointer (some ⟨b, O + off, none⟩))) w := by
  obtain ⟨fs, f, s, h1, h2, h3, h4⟩ := h.fld
  exact ex_fieldAt ho hx h1 h2 h4 (by rw [h3])
theorem xMove {x : Operand} (ho : o.op = .move x) : (execOp a.eval o).run P w = .ok (.value (a.eval x)) w := ex_move ho rfl
theorem xAssign {x : Operand} (ho : o.op = .assign x) : (execOp a.eval o).run P w = .ok (.value (a.eval x)) w := ex_assign ho rfl
theorem xInt {op : BinOp} {T T' : TypeId} {x y : Operand} {k : IntKind} {m n : Int} {v : Value} (ho : o.op = .binOp op T x y T') (hx : a.eval x = .int k m) (hy : a.eval y = .int k n) (hg : (eqGuard op T x y (.int k m) (.int k n)).run P w = .ok () w) (hv : (binOp op T (.int k m) (.int k n)).run P w = .ok v w) :
    (execOp a.eval o).run P w = .ok (.value v) w := by
  unfold execOp
  simp only [ho, hx, hy, Sem.run_bind, hg, Result.andThen_ok, hv]
  rfl
theorem xAdd {T T' : TypeId} {x y : Operand} {m n : Int} (ho : o.op = .binOp .add T x y T') (hx : a.eval x = .int .i64 m) (hy : a.eval y = .int .i64 n) (h : -9223372036854775808 ≤ m + n ∧ m + n ≤ 9223372036854775807) :
    (execOp a.eval o).run P w = .ok (.value (.int .i64 (m + n))) w := by
  unfold execOp
  simp only [ho, hx, hy]
  have e : (binOp .add T (.int .i64 m) (.int .i64 n)).run P w = .ok (.int .i64 (m + n)) w := by
    rw [← IntWalk.i64_in (m + n) h]
    rfl
  rw [Sem.run_bind, Sem.run_bind]
  have g : (eqGuard .add T x y (.int .i64 m) (.int .i64 n)).run P w = .ok () w := rfl
  rw [g, Result.andThen_ok, e]
  rfl
theorem xSub {T T' : TypeId} {x y : Operand} {m n : Int} (ho : o.op = .binOp .sub T x y T') (hx : a.eval x = .int .i64 m) (hy : a.eval y = .int .i64 n) (h : -9223372036854775808 ≤ m - n ∧ m - n ≤ 9223372036854775807) :
    (execOp a.eval o).run P w = .ok (.value (.int .i64 (m - n))) w := by
  unfold execOp
  simp only [ho, hx, hy]
  have e : (binOp .sub T (.int .i64 m) (.int .i64 n)).run P w = .ok (.int .i64 (m - n)) w := by
    rw [← IntWalk.i64_in (m - n) h]
    rfl
  rw [Sem.run_bind, Sem.run_bind]
  have g : (eqGuard .sub T x y (.int .i64 m) (.int .i64 n)).run P w = .ok () w := rfl
  rw [g, Result.andThen_ok, e]
  rfl
theorem xEqI {T T' : TypeId} {x y : Operand} {k : IntKind} {m n : Int} (ho : o.op = .binOp .eql T x y T') (hx : a.eval x = .int k m) (hy : a.eval y = .int k n) : (execOp a.eval o).run P w = .ok (.value (.bool (m == n))) w := ex_eqlI ho hx hy rfl
theorem xNeI {T T' : TypeId} {x y : Operand} {k : IntKind} {m n : Int} (ho : o.op = .binOp .neq T x y T') (hx : a.eval x = .int k m) (hy : a.eval y = .int k n) : (execOp a.eval o).run P w = .ok (.value (.bool (m != n))) w := ex_neqI ho hx hy rfl
theorem xCmp {op : BinOp} {T T' : TypeId} {x y : Operand} {k : IntKind} {m n : Int} {p : Bool} (ho : o.op = .binOp op T x y T') (hx : a.eval x = .int k m) (hy : a.eval y = .int k n) (hp : (binOp op T (.int k m) (.int k n)).run P w = .ok (.bool p) w) (hg : (eqGuard op T x y (.int k m) (.int k n)).run P w = .ok () w) :
    (execOp a.eval o).run P w = .ok (.value (.bool p)) w := xInt ho hx hy hg hp
theorem xLss {T T' : TypeId} {x y : Operand} {k : IntKind} {m n : Int} (ho : o.op = .binOp .lss T x y T') (hx : a.eval x = .int k m) (hy : a.eval y = .int k n) : (execOp a.eval o).run P w = .ok (.value (.bool (decide (m < n)))) w := xCmp ho hx hy (by cases k <;> rfl) rfl
theorem xLeq {T T' : TypeId} {x y : Operand} {k : IntKind} {m n : Int} (ho : o.op = .binOp .leq T x y T') (hx : a.eval x = .int k m) (hy : a.eval y = .int k n) : (execOp a.eval o).run P w = .ok (.value (.bool (decide (m ≤ n)))) w := xCmp ho hx hy (by cases k <;> rfl) rfl
theorem xGtr {T T' : TypeId} {x y : Operand} {k : IntKind} {m n : Int} (ho : o.op = .binOp .gtr T x y T') (hx : a.eval x = .int k m) (hy : a.eval y = .int k n) : (execOp a.eval o).run P w = .ok (.value (.bool (decide (m > n)))) w := xCmp ho hx hy (by cases k <;> rfl) rfl
theorem xGeq {T T' : TypeId} {x y : Operand} {k : IntKind} {m n : Int} (ho : o.op = .binOp .geq T x y T') (hx : a.eval x = .int k m) (hy : a.eval y = .int k n) : (execOp a.eval o).run P w = .ok (.value (.bool (decide (m ≥ n)))) w := xCmp ho hx hy (by cases k <;> rfl) rfl
theorem xEqV {T T' : TypeId} {x y : Operand} {k : IntKind} {m n : Int} {t : Bool} (ho : o.op = .binOp .eql T x y T') (hx : a.eval x = .int k m) (hy : a.eval y = .int k n) (ht : (m == n) = t) : (execOp a.eval o).run P w = .ok (.value (.bool t)) w := by subst ht; exact xEqI ho hx hy
theorem xNeV {T T' : TypeId} {x y : Operand} {k : IntKind} {m n : Int} {t : Bool} (ho : o.op = .binOp .neq T x y T') (hx : a.eval x = .int k m) (hy : a.eval y = .int k n) (ht : (m != n) = t) : (execOp a.eval o).run P w = .ok (.value (.bool t)) w := by subst ht; exact xNeI ho hx hy
theorem xLssV {T T' : TypeId} {x y : Operand} {k : IntKind} {m n : Int} {t : Bool} (ho : o.op = .binOp .lss T x y T') (hx : a.eval x = .int k m) (hy : a.eval y = .int k n) (ht : decide (m < n) = t) : (execOp a.eval o).run P w = .ok (.value (.bool t)) w := by subst ht; exact xLss ho hx hy
theorem xLeqV {T T' : TypeId} {x y : Operand} {k : IntKind} {m n : Int} {t : Bool} (ho : o.op = .binOp .leq T x y T') (hx : a.eval x = .int k m) (hy : a.eval y = .int k n) (ht : decide (m ≤ n) = t) : (execOp a.eval o).run P w = .ok (.value (.bool t)) w := by subst ht; exact xLeq ho hx hy
theorem xGtrV {T T' : TypeId} {x y : Operand} {k : IntKind} {m n : Int} {t : Bool} (ho : o.op = .binOp .gtr T x y T') (hx : a.eval x = .int k m) (hy : a.eval y = .int k n) (ht : decide (m > n) = t) : (execOp a.eval o).run P w = .ok (.value (.bool t)) w := by subst ht; exact xGtr ho hx hy
theorem xGeqV {T T' : TypeId} {x y : Operand} {k : IntKind} {m n : Int} {t : Bool} (ho : o.op = .binOp .geq T x y T') (hx : a.eval x = .int k m) (hy : a.eval y = .int k n) (ht : decide (m ≥ n) = t) : (execOp a.eval o).run P w = .ok (.value (.bool t)) w := by subst ht; exact xGeq ho hx hy
theorem xNot {T : TypeId} {x : Operand} {b : Bool} (ho : o.op = .unOp .not T x) (hx : a.eval x = .bool b) : (execOp a.eval o).run P w = .ok (.value (.bool (!b))) w := by
  unfold execOp
  simp only [ho, hx]
  rfl
theorem xPick {c x y : Operand} {t : Bool} (ho : o.op = .pick c x y) (hc : a.eval c = .bool t) : (execOp a.eval o).run P w = .ok (.value (if t = true then a.eval x else a.eval y)) w := ex_pick ho hc rfl
theorem xLen {T e size bytes : Nat} {z : Value} [E : TS P T e size bytes z] {x : Operand} {A : Option Addr} {n c : Nat} (ho : o.op = .call { callee := .builtin .len, args := #[x], argTypes := #[T] }) (hx : a.eval x = .slice A n c) : (execOp a.eval o).run P w = .ok (.value (.int .i64 n)) w := by
  unfold execOp
  simp only [ho, resolve, invoke, builtin, Sem.run_bind, Sem.run_pure, Result.andThen_ok, List.map_toArray, List.map_cons, List.map_nil, hx]
  simp [Builtin.len_, goInt, run_underlying E.el.ht]
theorem xExtract {x : Operand} {i : Nat} {vs : List Value} {v : Value} (ho : o.op = .extract x i) (hx : a.eval x = .tuple vs.toArray) (hv : vs[i]? = some v) : (execOp a.eval o).run P w = .ok (.value v) w := by
  unfold execOp
  simp only [ho, hx, Instr.extract]
  simp [hv]
end
/-! ### a region that draws its order -/
section
variable {P : Program} {ops : Array Oper} {Q : Exit → Act → World → Prop} {md : Region.Mode} {S : World → Prop} {fuel : Nat} {listed : Array Bool} {a : Act} {w w0 : World} {X : List Nat} {L : List Fc}
theorem heldSt {id : Nat} (hS : St X w0 w L) (hm : P.follows .mixedOrders = true) (hQ : HQ Q) (h : HQ Q → ∀ w', St X w0 w' L → wpAnyH P .any ops Q (fun w' => St X w0 w' L) ops.size (Array.replicate ops.size false) a w') : (Code.region id ops true).wp P Q a w :=
  heldQ hm hQ fun hQ => h hQ _ hS.drew
/-- more may be known from here on -/
theorem heldMore {S' : World → Prop} (hS' : ∀ w, S' w → S w) : ∀ (fuel : Nat) (listed : Array Bool) (a : Act) (w : World), wpAnyH P md ops Q S' fuel listed a w → wpAnyH P md ops Q S fuel listed a w
  | 0, _, _, _, h => h
  | fuel + 1, _, _, _, h => ⟨h.1, fun i hi => wpOp_mono (fun a' w' h' => ⟨hS' _ h'.1, heldMore hS' fuel _ a' w' h'.2⟩) (h.2 i hi)⟩
theorem yieldsG {o : Oper} {v : Value} (hw : Region.wanted o (yielded ops a.tmps) = true) (h : ∀ w, S w → (execOp a.eval o).run P w = .ok (.value v) w) : YieldsIf P ops S o v a := .inl ⟨hw, h⟩
theorem yieldsNo {o : Oper} (hw : Region.wanted o (yielded ops a.tmps) = false) : YieldsIf P ops S o undef a := .inr ⟨hw, rfl⟩
theorem heldCall (i : Nat) {l : List Oper} {o : Oper} {f : FuncId} {args args' : Array Value} {R : Ending → World → Prop} (ho : l[i]? = some o) (hr : Region.ready md l.toArray listed = [i]) (hw : Region.wanted o (yielded l.toArray a.tmps) = true) (hrun : (execOp a.eval o).run P w = .ok (.enter f args') w)
    (hc : Calls P f args w R) (hargs : args' = args) (h : ∀ e w', R e w' → ∃ v, e = .returned v ∧ S w' ∧ wpAnyH P md l.toArray Q S fuel (listed.setIfInBounds i true) (a.put o.dst v) w') : wpAnyH P md l.toArray Q S (fuel + 1) listed a w := by
  refine wpAnyH_all hr (by simp) fun j hj => ?_
  obtain rfl : j = i := by simpa using hj
  have ho' : l.toArray[j]? = some o := by simpa using ho
  unfold wpOp
  simp only [ho', hw, if_true]
  refine .inl ?_
  unfold Oper.wp
  rw [hrun, hargs]
  refine hc.mono fun e w' hR => ?_
  obtain ⟨v, rfl, h1, h2⟩ := h e w' hR
  exact ⟨h1, h2⟩
/-- a new block: one alone may come up -/
theorem heldNew (i : Nat) {l : List Oper} {o : Oper} {v : Value} {w' : World} (ho : l[i]? = some o) (hr : Region.ready md l.toArray listed = [i]) (hw : Region.wanted o (yielded l.toArray a.tmps) = true) (hrun : (execOp a.eval o).run P w = .ok (.value v) w') (hS : S w')
    (h : wpAnyH P md l.toArray Q S fuel (listed.setIfInBounds i true) (a.put o.dst v) w') : wpAnyH P md l.toArray Q S (fuel + 1) listed a w := by
  refine wpAnyH_all hr (by simp) fun j hj => ?_
  obtain rfl : j = i := by simpa using hj
  have ho' : l.toArray[j]? = some o := by simpa using ho
  unfold wpOp
  simp only [ho', hw, if_true]
  refine .inl ?_
  unfold Oper.wp
  rw [hrun]
  exact ⟨hS, h⟩
end
theorem wantedNone {d : Option Tmp} {op : Op} {ty : TypeId} {pos : String} {af : Array Edge} {y : Nat → Option Bool} : Region.wanted ⟨d, op, ty, pos, af, none⟩ y = true := rfl
/-! ### steps that leave their side conditions as goals, one after the other -/
section
variable {P : Program} {X : List Nat} {w0 w : World} {L L' : List Fc} {a : Act} {ops : Array Oper} {rest : List Oper} {Q : Exit → Act → World → Prop} {d : Option Tmp} {ty : TypeId} {pos : String} {af : Array Edge} {gd : Option (Nat × Bool)}
theorem wpBuild {T : TypeId} {z out : List Value} {pl : Nat → Option (Nat × Nat)} [hT : TB P T z pl] {l : List (Nat × Operand)} {ps : List (Nat × Value)} (hw : Region.wanted ⟨d, .build T l.toArray, ty, pos, af, gd⟩ (yielded ops a.tmps) = true)
    (hp : (l.map fun p => (p.1, a.eval p.2)) = ps) (hf : Fills pl z ps out) (h : wpList P ops Q rest (a.put d (.agg out.toArray)) w) : wpList P ops Q (⟨d, .build T l.toArray, ty, pos, af, gd⟩ :: rest) a w :=
  wpl_runG hw (xBuild rfl hp) h
theorem wpRow {T : TypeId} {n : Nat} {x : Operand} [hT : TRow P T n] {b O off : Nat} {cs out : List Value} (hS : St X w0 w L) (hw : Region.wanted ⟨d, .load T x, ty, pos, af, gd⟩ (yielded ops a.tmps) = true) (hx : a.eval x = .pointer (some ⟨b, O, none⟩)) (hm : HasC b O L off cs) (hr : RowAt cs off n out)
    (h : wpList P ops Q rest (a.put d (.agg out.toArray)) w) : wpList P ops Q (⟨d, .load T x, ty, pos, af, gd⟩ :: rest) a w :=
  wpl_runG hw (xRowC hS rfl hx) h
theorem wpCell {T : TypeId} {x : Operand} [hT : TOne P T] {b O off : Nat} {cs : List Value} {v : Value} (hS : St X w0 w L) (hw : Region.wanted ⟨d, .load T x, ty, pos, af, gd⟩ (yielded ops a.tmps) = true) (hx : a.eval x = .pointer (some ⟨b, O, none⟩)) (hm : HasC b O L off cs) (hr : CellAt cs off v)
    (h : wpList P ops Q rest (a.put d v) w) : wpList P ops Q (⟨d, .load T x, ty, pos, af, gd⟩ :: rest) a w :=
  wpl_runG hw (xCellC hS rfl hx) h
theorem wpEql {T T' : TypeId} {x y : Operand} {xs ys : List Value} {p : Bool} (hw : Region.wanted ⟨d, .binOp .eql T x y T', ty, pos, af, gd⟩ (yielded ops a.tmps) = true) (hx : a.eval x = .agg xs.toArray) (hy : a.eval y = .agg ys.toArray) (hq : TEq P T xs ys p)
    (h : wpList P ops Q rest (a.put d (.bool p)) w) : wpList P ops Q (⟨d, .binOp .eql T x y T', ty, pos, af, gd⟩ :: rest) a w :=
  wpl_runG hw (xEql rfl hx hy) h
theorem wpNeq {T T' : TypeId} {x y : Operand} {xs ys : List Value} {p : Bool} (hw : Region.wanted ⟨d, .binOp .neq T x y T', ty, pos, af, gd⟩ (yielded ops a.tmps) = true) (hx : a.eval x = .agg xs.toArray) (hy : a.eval y = .agg ys.toArray) (hq : TEq P T xs ys p)
    (h : wpList P ops Q rest (a.put d (.bool (!p))) w) : wpList P ops Q (⟨d, .binOp .neq T x y T', ty, pos, af, gd⟩ :: rest) a w :=
  wpl_runG hw (xNeq rfl hx hy) h
theorem wpEqlB {T T' : TypeId} {x y : Operand} {xs ys : List Value} {p b : Bool} (hw : Region.wanted ⟨d, .binOp .eql T x y T', ty, pos, af, gd⟩ (yielded ops a.tmps) = true) (hx : a.eval x = .agg xs.toArray) (hy : a.eval y = .agg ys.toArray) (hq : TEq P T xs ys p) (hb : p = b)
    (h : wpList P ops Q rest (a.put d (.bool b)) w) : wpList P ops Q (⟨d, .binOp .eql T x y T', ty, pos, af, gd⟩ :: rest) a w :=
  wpEql hw hx hy hq (by rw [hb]; exact h)
theorem wpNeqB {T T' : TypeId} {x y : Operand} {xs ys : List Value} {p b : Bool} (hw : Region.wanted ⟨d, .binOp .neq T x y T', ty, pos, af, gd⟩ (yielded ops a.tmps) = true) (hx : a.eval x = .agg xs.toArray) (hy : a.eval y = .agg ys.toArray) (hq : TEq P T xs ys p) (hb : p = b)
    (h : wpList P ops Q rest (a.put d (.bool (!b))) w) : wpList P ops Q (⟨d, .binOp .neq T x y T', ty, pos, af, gd⟩ :: rest) a w :=
  wpNeq hw hx hy hq (by rw [hb]; exact h)
end
class TArr (P : Program) (T : TypeId) (len e size : outParam Nat) : Prop where
  und : P.underlying T = some (.array len e)
  size : (P.info? e).map (·.size) = some size
section
variable {P : Program} {a : Act} {ops : Array Oper} {rest : List Oper} {Q : Exit → Act → World → Prop} {d : Option Tmp} {ty : TypeId} {pos : String} {af : Array Edge} {gd : Option (Nat × Bool)} {w : World} {o : Oper}
theorem run_idx {T len e size : Nat} [hT : TArr P T len e size] {cs : List Value} {k : IntKind} {n : Int} (h0 : 0 ≤ n) (h1 : n < len) {v : Value} (hp : (part e cs.toArray (n.toNat * size)).run P w = .ok v w) : (Instr.index T (.agg cs.toArray) (.int k n)).run P w = .ok v w := by
  obtain ⟨j, hj, hjs⟩ := Option.map_eq_some_iff.1 hT.size
  subst hjs
  simp only [Instr.index, asIntOf, Sem.run_bind, Sem.run_pure, Result.andThen_ok, run_underlying hT.und, if_pos (show 0 ≤ n ∧ n < (len : Int) from ⟨h0, h1⟩), sizeOf, typeInfo]
  simp [hj, hp]
theorem xIdxR {T len e size : Nat} [hT : TArr P T len e size] [hr : TRow P e size] {x i : Operand} {cs out : List Value} {k : IntKind} {n : Int} {off : Nat} (ho : o.op = .index T x i) (hx : a.eval x = .agg cs.toArray) (hi : a.eval i = .int k n) (hb : 0 ≤ n ∧ n < len) (hn : n.toNat * size = off) [h : RowAt cs off size out] :
    (execOp a.eval o).run P w = .ok (.value (.agg out.toArray)) w := by
  obtain ⟨d, hu, hd⟩ := hr.und
  have hp := part_row (w := w) hu hd hr.size cs.toArray (n.toNat * size)
  have he : cs.toArray.extract (n.toNat * size) (n.toNat * size + size) = out.toArray := by
    subst hn
    apply Array.ext'
    simp only [List.extract_toArray, List.extract_eq_drop_take']
    apply List.ext_getElem?
    intro j
    rw [List.getElem?_drop, List.getElem?_take]
    by_cases hj : j < size
    · rw [if_pos (by omega)]
      have hjo : j < out.length := by rw [h.len]; exact hj
      rw [h.at_ j out[j] (by simp [hjo])]
      simp [hjo]
    · rw [if_neg (by omega), List.getElem?_eq_none (by rw [h.len]; omega)]
  rw [he] at hp
  unfold execOp
  simp only [ho, hx, hi, Sem.run_bind, run_idx hb.1 hb.2 hp, Result.andThen_ok]
  rfl
theorem wpIdxR {T len e size : Nat} [hT : TArr P T len e size] [hr : TRow P e size] {x i : Operand} {cs out : List Value} {k : IntKind} {n : Int} {off : Nat} (hw : Region.wanted ⟨d, .index T x i, ty, pos, af, gd⟩ (yielded ops a.tmps) = true) (hx : a.eval x = .agg cs.toArray) (hi : a.eval i = .int k n) (hb : 0 ≤ n ∧ n < len) (hn : n.toNat * size = off) (h : RowAt cs off size out)
    (hk : wpList P ops Q rest (a.put d (.agg out.toArray)) w) : wpList P ops Q (⟨d, .index T x i, ty, pos, af, gd⟩ :: rest) a w :=
  wpl_runG hw (xIdxR rfl hx hi hb hn) hk
end
/-! ### results that lie in blocks -/
section
variable {P : Program} {X : List Nat} {w0 w : World} {L : List Fc} {fn : Func} {R : Ending → World → Prop} {a : Act}
theorem run_row {T T' : TypeId} {n g off : Nat} {cs out : List Value} [hT : TRow P T n] (hS : St X w0 w L) [hm : HasB g L cs T'] [hr : RowAt cs off n out] : (loadVar T ⟨g, off, none⟩).run P w = .ok (.agg out.toArray) w := by
  obtain ⟨d, hu, hd⟩ := hT.und
  refine run_loadVar_mid w g off T out d (fun j v hv => ?_) hu hd (by rw [hr.len]; exact hT.size)
  rw [cell_of_row w g (off + j) cs.toArray T' (0, 0) (hS.blk hm.mem)]
  simpa using hr.at_ j v hv
theorem run_cell {T T' : TypeId} {g off : Nat} {cs : List Value} {v : Value} [hT : TOne P T] (hS : St X w0 w L) [hm : HasB g L cs T'] [hr : CellAt cs off v] : (loadVar T ⟨g, off, none⟩).run P w = .ok v w := by
  obtain ⟨d, hu, hd⟩ := hT.und
  have hagg : (isAgg T).run P w = .ok false w := by
    unfold isAgg
    rw [Sem.run_bind, run_underlying hu w]
    cases d <;> simp_all
  have hc : w.cell? ⟨g, off, none⟩ = some v := by
    rw [cell_of_row w g off cs.toArray T' (0, 0) (hS.blk hm.mem)]
    simpa using hr.at_
  simp only [loadVar, Sem.run_bind, hagg, Result.andThen_ok]
  simp [load, Sem.run, hc]
theorem retC {p : Tmp} {T T' : TypeId} {n g : Nat} {cs out : List Value} (hS : St X w0 w L) (hf : fn.results = #[.cell p T]) (hp : a.tmps.getD p undef = .pointer (some ⟨g, 0, none⟩)) [TRow P T n] [HasB g L cs T'] [RowAt cs 0 n out] (hds : a.defers = []) (hR : R (.returned (.agg out.toArray)) w) : bodyPost P fn R .ret a w :=
  bodyPost_ret (by have := run_row (P := P) (T := T) (off := 0) (g := g) (out := out) hS; have hp' := hp; rw [Array.getD_eq_getD_getElem?] at hp'; simp only [results, hf]; simp [hp', asAddr, this]) hds hR
theorem retC1 {p : Tmp} {T T' : TypeId} {g : Nat} {cs : List Value} {v : Value} (hS : St X w0 w L) (hf : fn.results = #[.cell p T]) (hp : a.tmps.getD p undef = .pointer (some ⟨g, 0, none⟩)) [TOne P T] [HasB g L cs T'] [CellAt cs 0 v] (hds : a.defers = []) (hR : R (.returned v) w) : bodyPost P fn R .ret a w :=
  bodyPost_ret (by have := run_cell (P := P) (T := T) (off := 0) (g := g) (v := v) hS; have hp' := hp; rw [Array.getD_eq_getD_getElem?] at hp'; simp only [results, hf]; simp [hp', asAddr, this]) hds hR
theorem retCT {p q : Tmp} {T T' : TypeId} {n g : Nat} {cs out : List Value} (hS : St X w0 w L) (hf : fn.results = #[.cell p T, .tmp q]) (hp : a.tmps.getD p undef = .pointer (some ⟨g, 0, none⟩)) [TRow P T n] [HasB g L cs T'] [RowAt cs 0 n out] (hds : a.defers = []) (hR : R (.returned (.tuple #[.agg out.toArray, a.tmps.getD q undef])) w) : bodyPost P fn R .ret a w :=
  bodyPost_ret (by have := run_row (P := P) (T := T) (off := 0) (g := g) (out := out) hS; have hp' := hp; rw [Array.getD_eq_getD_getElem?] at hp'; simp only [results, hf]; simp [hp', asAddr, this]) hds hR
end
end Go.Proofs.Ythinpbgbnlohpaa
