/- Slices that are built of parts, that grow, that are read: over what is known of the world. -/
import Derived.Test.YthinpbgbnlohpaaS4
namespace Go.Proofs.Ythinpbgbnlohpaa
set_option linter.unusedSimpArgs false
set_option linter.unusedVariables false
open Go.RowKit
/-- a row of one's own, and the other facts -/
class DropO (v : Value) (e : TypeId) (L : List Fc) (n size : outParam Nat) (xs : outParam (List Value)) (M : outParam (List Fc)) : Prop where
  perm : L.Perm (.own v n e size xs :: M)
instance (priority := 100) (v : Value) (e : TypeId) (f : Fc) (L : List Fc) (n size : Nat) (xs : List Value) (M : List Fc) [h : DropO v e L n size xs M] : DropO v e (f :: L) n size xs (f :: M) := ⟨(h.perm.cons f).trans (List.Perm.swap _ _ _)⟩
instance (v : Value) (e : TypeId) (L : List Fc) (n size : Nat) (xs : List Value) : DropO v e (.own v n e size xs :: L) n size xs L := ⟨List.Perm.refl _⟩
instance (priority := 90) (b O : Nat) (f : Fc) (L : List Fc) (off : Nat) (cs : List Value) [h : HasC b O L off cs] : HasC b O (f :: L) off cs := ⟨fun hS => h.cell (hS.tail rfl)⟩
theorem own_cell {w : World} {B g n c : Nat} {e : TypeId} {size : Nat} {xs : List Value} (h : w.ownsRow B e size (.slice (some ⟨g, 0, none⟩) n c) n xs) {j : Nat} {v : Value} (hv : xs[j]? = some v) : w.cell? ⟨g, j, none⟩ = some v := by
  have := h.cells (g := g) rfl j v hv
  rwa [Addr.add_mid, Nat.zero_add] at this
instance (b O : Nat) (L : List Fc) (n c e size : Nat) (xs : List Value) : HasC b O (.own (.slice (some ⟨b, 0, none⟩) n c) n e size xs :: L) O xs :=
  ⟨fun hS j v hv => own_cell (hS.ok _ (List.mem_cons_self ..)) hv⟩
section
variable {P : Program} {X : List Nat} {w0 w : World} {L M : List Fc} {a : Act} {ops : Array Oper} {rest : List Oper} {Q : Exit → Act → World → Prop} {d : Option Tmp} {ty : TypeId} {pos : String} {af : Array Edge} {gd : Option (Nat × Bool)}
/-- a nil slice is a row of one's own -/
theorem St.ownNil (h : St X w0 w L) (e : TypeId) (size : Nat) : St X w0 w (.own (.slice none 0 0) 0 e size [] :: L) :=
  h.cons (World.ownsRow_nil w _ e size) (fun g _ _ k hk _ => by cases hk) (fun _ k hk => by cases hk)
theorem St.own_form (h : St X w0 w L) {v : Value} {e n size : Nat} {xs : List Value} [hd : DropO v e L n size xs M] : ∃ A c, v = .slice A n c ∧ n ≤ c ∧ (A = none → n = 0 ∧ c = 0) ∧ xs.length = n * size := by
  have ho : w.ownsRow w0.heap.size e size v n xs := h.ok _ (hd.perm.mem_iff.2 (List.mem_cons_self ..))
  refine ?_
  rcases ho.2 with ⟨rfl, rfl⟩ | ⟨g, cap, cur, rfl, _, _, hn, _⟩
  · exact ⟨none, 0, rfl, Nat.le_refl _, fun _ => ⟨rfl, rfl⟩, ho.1⟩
  · exact ⟨_, cap, rfl, hn, by simp, ho.1⟩
/-- a row of one's own is read from here on -/
theorem St.own_rd (h : St X w0 w L) {A : Option Addr} {c : Nat} {e n size : Nat} {xs : List Value} [hd : DropO (.slice A n c) e L n size xs M] : St X w0 w (.rd A xs :: M) := by
  have h2 := h.perm hd.perm.symm
  have ho : w.ownsRow w0.heap.size e size (.slice A n c) n xs := h2.ok _ (List.mem_cons_self ..)
  obtain ⟨h3, h4⟩ := List.pairwise_cons.1 h2.sep
  refine (h2.tail rfl).cons ?_ ?_ (by intro hw; cases hw)
  · obtain ⟨A', c', e', _, hr⟩ := own_Rd ho
    injection e' with e1 _ _
    subst e1
    exact hr
  · intro g hg hw k hk hk'
    obtain ⟨_, o, rfl⟩ := hk
    exact h3 g hg rfl k rfl hk'
/-- append, its source a stretch of what is known -/
theorem wpAppend {t e : TypeId} {size bytes : Nat} {z : Value} [E : TS P t e size bytes z] {s x : Operand} {n m c b O off k : Nat} {v : Value} {xs cs out : List Value} (hS : St X w0 w L) (hx : a.eval x = .slice (some ⟨b, O, none⟩) m c) (hs : a.eval s = v)
    (hd : DropO v e L n size xs M) (hc : HasC b O L off cs) (hk : m * size = k) (hr : RowAt cs off k out) (h1 : Row out k) (hb : (n + m) * bytes ≤ 140737488355328)
    (h : ∀ v' w', St X w0 w' (.own v' (n + m) e size (xs ++ out) :: M) → wpList P ops Q rest (a.put d v') w') : wpList P ops Q (⟨d, .call { callee := .builtin .append, args := #[s, x], argTypes := #[t, t] }, ty, pos, af, none⟩ :: rest) a w := by
  have h2 := hS.perm hd.perm.symm
  have hrd : Rd w (some ⟨b, O, none⟩) out := fun j u hu => ⟨b, O, rfl, hc.cell hS j u (hr.at_ j u hu)⟩
  obtain ⟨v', w', hrun, h3, h4, h5⟩ := xAppend (o := ⟨d, .call { callee := .builtin .append, args := #[s, x], argTypes := #[t, t] }, ty, pos, af, none⟩) rfl E.el hs (h2.own (List.mem_cons_self ..)) hx (by simp) (by rw [hr.len, hk]) hrd h1.one hb hS.size
  exact wpl_run rfl hrun (h v' w' (h2.grow .head h3 h4 h5))
/-- append of a slice that is read, nil or not -/
theorem wpAppendA {t e : TypeId} {size bytes : Nat} {z : Value} [E : TS P t e size bytes z] {s x : Operand} {n m c : Nat} {A : Option Addr} {v : Value} {xs cs : List Value} (hS : St X w0 w L) (hx : a.eval x = .slice A m c) (hs : a.eval s = v)
    (hd : DropO v e L n size xs M) (hc : HasA A L cs) (hA : A = none → m = 0 ∧ c = 0) (hl : cs.length = m * size) (h1 : ∀ u ∈ cs, u.oneCell' = true) (hb : (n + m) * bytes ≤ 140737488355328)
    (h : ∀ v' w', St X w0 w' (.own v' (n + m) e size (xs ++ cs) :: M) → wpList P ops Q rest (a.put d v') w') : wpList P ops Q (⟨d, .call { callee := .builtin .append, args := #[s, x], argTypes := #[t, t] }, ty, pos, af, none⟩ :: rest) a w := by
  have h2 := hS.perm hd.perm.symm
  obtain ⟨v', w', hrun, h3, h4, h5⟩ := xAppend (o := ⟨d, .call { callee := .builtin .append, args := #[s, x], argTypes := #[t, t] }, ty, pos, af, none⟩) rfl E.el hs (h2.own (List.mem_cons_self ..)) hx hA hl (hS.rd hc.mem) h1 hb hS.size
  exact wpl_run rfl hrun (h v' w' (h2.grow .head h3 h4 h5))
end
/-! ### a slice built of its parts -/
class Parts (n k : Nat) (ps : List (Nat × Value)) (out : outParam (List Value)) : Prop where
  fill : ∀ pre Z : List Value, pre.length = k * n → Z.length = ps.length * n → Instr.fill (fun i => some (i * n, n)) (pre ++ Z).toArray ps = some (pre ++ out).toArray
instance (n k : Nat) : Parts n k [] [] := ⟨fun pre Z _ hZ => by
  obtain rfl : Z = [] := List.eq_nil_of_length_eq_zero (by simpa using hZ)
  simp [Instr.fill]⟩
theorem Parts.cons {n k : Nat} {v : Value} {ps : List (Nat × Value)} {new out : List Value} (hv : VCells v new) (hn : Row new n) (hp : Parts n (k + 1) ps out) : Parts n k ((k, v) :: ps) (new ++ out) := ⟨fun pre Z hpre hZ => by
  have hl := hn.len
  rw [fill_one _ _ k v ps (k * n) n rfl (by rw [hv.eq]; simpa using hl) (by simp [hpre, hZ, Nat.succ_mul])]
  have e1 : List.take (k * n) (pre ++ Z).toArray.toList = pre := by simp [← hpre]
  have e2 : List.drop (k * n + n) (pre ++ Z).toArray.toList = Z.drop n := by simp [← hpre]
  have ih := hp.fill (pre ++ new) (Z.drop n) (by simp [hpre, hl, Nat.succ_mul]) (by simp [hZ, Nat.succ_mul])
  rw [e1, e2, hv.eq, ← List.append_assoc]
  exact ih⟩
instance (n k : Nat) (v : Value) (ps : List (Nat × Value)) (new out : List Value) [hv : VCells v new] [hn : Row new n] [hp : Parts n (k + 1) ps out] : Parts n k ((k, v) :: ps) (new ++ out) := .cons hv hn hp
instance (n k : Nat) (v : Value) (new : List Value) [hv : VCells v new] [hn : Row new n] : Parts n k [(k, v)] new := by
  have h := Parts.cons (k := k) hv hn (inferInstance : Parts n (k + 1) [] [])
  rwa [List.append_nil] at h
section
variable {P : Program} {X : List Nat} {w0 w : World} {L : List Fc} {a : Act} {ops : Array Oper} {rest : List Oper} {Q : Exit → Act → World → Prop} {d : Option Tmp} {ty : TypeId} {pos : String} {af : Array Edge}
theorem wpBSl {t e : TypeId} {m n bytes : Nat} {z : Value} [E : TS P t e n bytes z] {l : List (Nat × Operand)} {ps : List (Nat × Value)} {out : List Value} (hS : St X w0 w L) (hp : (l.map fun p => (p.1, a.eval p.2)) = ps) (hf : Parts n 0 ps out) (hl : ps.length = m) (h0 : 0 < m ∧ m * n ≤ 16777216)
    (h : ∀ g w', St X w0 w' (.blk g out e :: L) → wpList P ops Q rest (a.put d (.slice (some ⟨g, 0, none⟩) m m)) w') : wpList P ops Q (⟨d, .buildSlice t m l.toArray, ty, pos, af, none⟩ :: rest) a w := by
  obtain ⟨i, hi, hz, hsz, hby⟩ := info_parts E.el.hi
  subst hl
  refine wpList_buildSlice rfl t e ps.length l.toArray rfl out.toArray i z E.el.ht hi hz (by rw [hsz]; omega) (by rw [hsz]; have := E.el.h0; have := Nat.mul_pos h0.1 this; omega) ?_ (h _ _ (hS.alloc out e))
  have e1 : (l.toArray.map fun (x : Nat × Operand) => match x with | (i, x) => (i, a.eval x)).toList = ps := by
    rw [← hp]; simp
  rw [e1, hsz]
  have := hf.fill [] ((Array.range (ps.length * n)).map (z.cells[· % z.cells.size]!)).toList (by simp) (by simp)
  rw [List.nil_append, Array.toArray_toList, List.nil_append] at this
  exact this
end
section
variable {P : Program} {X : List Nat} {w0 w w' : World} {L M : List Fc} {a : Act} {o : Oper}
theorem St.ret1 (h : St X w0 w L) {f : Fc} (hr : Res [] w w' [f]) : St X w0 w' (f :: L) := h.ret hr
theorem St.ret2 (h : St X w0 w L) {f g : Fc} (hr : Res [] w w' [f, g]) : St X w0 w' (f :: g :: L) := h.ret hr
theorem xIndexS {T e size bytes : Nat} {z : Value} [E : TS P T e size bytes z] {x i : Operand} {b off n c : Nat} {k : IntKind} {I : Int} (ho : o.op = .indexAddr T x i) (hx : a.eval x = .slice (some ⟨b, off, none⟩) n c) (hi : a.eval i = .int k I) (h : 0 ≤ I ∧ I < n) :
    (execOp a.eval o).run P w = .ok (.value (.pointer (some ⟨b, off + I.toNat * size, none⟩))) w := by
  obtain ⟨i, h1, _, h2, _⟩ := info_parts E.el.hi
  exact ex_index ho E.el.ht (by rw [h1, Option.map_some, h2]) hx hi h.1 h.2
theorem xEqlB {T T' : TypeId} {x y : Operand} {xs ys : List Value} {p b : Bool} (ho : o.op = .binOp .eql T x y T') (hx : a.eval x = .agg xs.toArray) (hy : a.eval y = .agg ys.toArray) [h : TEq P T xs ys p] (hb : p = b) :
    (execOp a.eval o).run P w = .ok (.value (.bool b)) w := by subst hb; exact xEql ho hx hy
theorem xNeqB {T T' : TypeId} {x y : Operand} {xs ys : List Value} {p b : Bool} (ho : o.op = .binOp .neq T x y T') (hx : a.eval x = .agg xs.toArray) (hy : a.eval y = .agg ys.toArray) [h : TEq P T xs ys p] (hb : p = b) :
    (execOp a.eval o).run P w = .ok (.value (.bool (!b))) w := by subst hb; exact xNeq ho hx hy
/-- one of many cells or rows -/
theorem xNthC {T : TypeId} {x : Operand} [hT : TOne P T] {b O O' off k : Nat} {cs : List Value} {v : Value} (hS : St X w0 w L) (ho : o.op = .load T x) (hx : a.eval x = .pointer (some ⟨b, O', none⟩)) [hm : HasC b O L off cs] (hO : O' = O + k) (hc : cs[off + k]? = some v) :
    (execOp a.eval o).run P w = .ok (.value v) w := by
  obtain ⟨d, hu, hd⟩ := hT.und
  subst hO
  exact ex_load_cell ho hx (hm.cell hS k v hc) hu hd
theorem xNthRow {T : TypeId} {n : Nat} {x : Operand} [hT : TRow P T n] {b O O' off k : Nat} {cs out : List Value} (hS : St X w0 w L) (ho : o.op = .load T x) (hx : a.eval x = .pointer (some ⟨b, O', none⟩)) [hm : HasC b O L off cs] (hO : O' = O + k) (hl : out.length = n) (hc : ∀ j v, out[j]? = some v → cs[off + (k + j)]? = some v) :
    (execOp a.eval o).run P w = .ok (.value (.agg out.toArray)) w := by
  obtain ⟨d, hu, hd⟩ := hT.und
  subst hO
  exact ex_load_row ho hx (cs := out) (fun j v hv => by rw [Nat.add_assoc]; exact hm.cell hS (k + j) v (hc j v hv)) hu hd (by rw [hl]; exact hT.size)
end
/-! ### append of zeros to nil -/
section
variable {P : Program} {X : List Nat} {w0 w : World} {L M : List Fc} {a : Act} {o : Oper}
theorem xAppendZ {s x : Operand} {t e xt : TypeId} {size bytes : Nat} {z : Value} {n : Nat} [E : TS P t e size bytes z] {k : IntKind} (hxt : P.underlying xt = some (.int k)) (ho : o.op = .call { callee := .builtin .append, args := #[s, x], argTypes := #[t, xt] }) (hs : a.eval s = .slice none 0 0) (hx : a.eval x = .int .i64 n)
    (h0 : 0 < n) (hb : n * bytes ≤ 140737488355328) {base : Nat} (hbase : base ≤ w.heap.size) :
    ∃ v' w', (execOp a.eval o).run P w = .ok (.value v') w' ∧ w'.ownsRow base e size v' n ((List.range (n * size)).map fun i => z.cells[i % size]!) ∧ w.grownBy w' none ∧ v'.ownBlock = some w.heap.size := by
  obtain ⟨i, hi, hz, hsz, hby⟩ := info_parts E.el.hi
  have hzs := E.el.hz
  have hpos := E.el.h0
  have hbp := E.el.hb
  subst hsz hby
  have hn : n ≤ n * i.bytes := Nat.le_mul_of_pos_right _ hbp
  have hn0 : n ≠ 0 := by omega
  have hw : IntKind.i64.wrap (n : Int) = n := IntWalk.i64_in _ (by omega)
  have h48 : ¬ (281474976710656 < Builtin.nextslicecap n 0 * i.bytes) := by rw [nextslicecap_zero h0]; omega
  have h48' : ¬ (281474976710656 : Int) < (n : Int) * (i.bytes : Int) := by
    have : ((n * i.bytes : Nat) : Int) ≤ 140737488355328 := by omega
    rw [Int.natCast_mul] at this
    omega
  have h63 : ¬ (9223372036854775807 < (n : Int)) := by omega
  have hs0 : ¬ (n = 0 ∨ i.size = 0) := by omega
  have hneg : ¬ ((n : Int) < 0) := by omega
  have hns : ¬ n * i.size = 0 := Nat.mul_ne_zero hn0 (by omega)
  refine ⟨.slice (some ⟨w.heap.size, 0, none⟩) n (grownCap w n 0 e), w.drew.alloc (.cells (Builtin.zeroCells z.cells n ++ Builtin.zeroCells z.cells (grownCap w n 0 e - n)) e), ?_, ⟨by simp, .inr ⟨w.heap.size, _, _, rfl, hbase, heap_alloc_new w.drew _, grownCap_ge w n 0 e, grownCap_le_maxLen w n 0 e (by unfold maxLen; omega), ?_, ?_⟩⟩, ⟨rfl, rfl, rfl, by simp, fun k hk _ => Below.heap_alloc w.drew _ k hk⟩, rfl⟩
  · unfold execOp
    simp only [ho, resolve, invoke, builtin, Sem.run_bind, Sem.run_pure, Result.andThen_ok, List.map_toArray, List.map_cons, List.map_nil, hs, hx]
    simp [Builtin.append_, run_underlying E.el.ht, run_underlying hxt, sizeOf, typeInfo, zeroValue, hi, hz, asInt, asIntOf, hw, hneg, h48, h48', h63, hs0, hn0, hns, Question.forced, run_firstCells_none, Builtin.firstCells, newRow, grownCap]
  · simp only [Array.size_append, size_zeroCells, hzs, ← Nat.add_mul]
    congr 1
    have := grownCap_ge w n 0 e
    omega
  · rw [Array.toList_append, List.take_append_of_le_length (by simp [size_zeroCells, hzs]), List.take_of_length_le (by simp [size_zeroCells, hzs])]
    simp [Builtin.zeroCells, hzs]
/-- less of a row of one's own -/
theorem St.shrink (h : St X w0 w L) {A : Option Addr} {c e n m size : Nat} {xs : List Value} [hd : DropO (.slice A n c) e L n size xs M] (hm : m ≤ n) (hA : A ≠ none) : St X w0 w (.own (.slice A m c) m e size (xs.take (m * size)) :: M) := by
  have h2 := h.perm hd.perm.symm
  have ho : w.ownsRow w0.heap.size e size (.slice A n c) n xs := h2.ok _ (List.mem_cons_self ..)
  obtain ⟨h3, h4⟩ := List.pairwise_cons.1 h2.sep
  have hfr := h2.fresh _ (List.mem_cons_self ..) rfl
  have hbk : (Value.slice A m c).ownBlock = (Value.slice A n c).ownBlock := by cases A <;> rfl
  refine (h2.tail rfl).cons ?_ ?_ fun _ k hk => hfr k (by show (Value.slice A n c).ownBlock = some k; rw [← hbk]; exact hk)
  · refine ⟨by rw [List.length_take, ho.1]; exact Nat.min_eq_left (Nat.mul_le_mul_right _ hm), ?_⟩
    rcases ho.2 with ⟨h5, _⟩ | ⟨g, cap, cur, h5, hg, hh, hn, hmx, hcs, ht⟩
    · injection h5 with h5; exact (hA h5).elim
    · injection h5 with h5 _ h6
      subst h5 h6
      refine .inr ⟨g, c, cur, rfl, hg, hh, by omega, hmx, hcs, ?_⟩
      rw [← ht, List.take_take, Nat.min_eq_left (Nat.mul_le_mul_right _ hm)]
  · intro g hg _ k hk hk'
    exact h3 g hg rfl k (by show (Value.slice A n c).ownBlock = some k; rw [← hbk]; exact hk) hk'
theorem St.newOwn (h : St X w0 w L) {w' : World} {v : Value} {e n size : Nat} {xs : List Value} (ho : w'.ownsRow w0.heap.size e size v n xs) (hg : w.grownBy w' none) (hv : v.ownBlock = some w.heap.size) : St X w0 w' (.own v n e size xs :: L) := by
  have hb : Below w.heap.size w w' := ⟨hg.os, hg.tape, hg.output, hg.size, fun k hk => hg.block k hk (by simp)⟩
  refine (h.call hb).cons ho ?_ ?_
  · intro g hg' _ k hk hk'
    have hk2 : v.ownBlock = some k := hk
    rw [hv] at hk2
    injection hk2 with hk2
    have := Fc.bound (h.ok g hg') hk'
    omega
  · intro _ k hk
    have hk2 : v.ownBlock = some k := hk
    rw [hv] at hk2
    injection hk2 with hk2
    exact .inl (by have := h.size; omega)
end
section
variable {P : Program} {X : List Nat} {w0 w : World} {L M : List Fc} {a : Act} {ops : Array Oper} {rest : List Oper} {Q : Exit → Act → World → Prop} {d : Option Tmp} {ty : TypeId} {pos : String} {af : Array Edge} {gd : Option (Nat × Bool)}
theorem wpAppendZ {s x : Operand} {t e xt : TypeId} {size bytes : Nat} {z : Value} {n : Nat} [E : TS P t e size bytes z] {k : IntKind} (hxt : P.underlying xt = some (.int k)) (hS : St X w0 w L) (hs : a.eval s = .slice none 0 0) (hx : a.eval x = .int .i64 n) (h0 : 0 < n) (hb : n * bytes ≤ 140737488355328)
    (h : ∀ g c w', St X w0 w' (.own (.slice (some ⟨g, 0, none⟩) n c) n e size ((List.range (n * size)).map fun i => z.cells[i % size]!) :: L) → wpList P ops Q rest (a.put d (.slice (some ⟨g, 0, none⟩) n c)) w') : wpList P ops Q (⟨d, .call { callee := .builtin .append, args := #[s, x], argTypes := #[t, xt] }, ty, pos, af, none⟩ :: rest) a w := by
  obtain ⟨v', w', hrun, h2, h3, h4⟩ := xAppendZ (o := ⟨d, .call { callee := .builtin .append, args := #[s, x], argTypes := #[t, xt] }, ty, pos, af, none⟩) hxt rfl hs hx h0 hb (base := w0.heap.size) hS.size
  have hS' := hS.newOwn h2 h3 h4
  rcases h2.2 with ⟨rfl, h5⟩ | ⟨g, cap, cur, rfl, _⟩
  · omega
  · exact wpl_run rfl hrun (h g cap w' hS')
end
end Go.Proofs.Ythinpbgbnlohpaa
