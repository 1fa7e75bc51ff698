/- Slices that are made; what session 1's contracts leave. -/
import Derived.Test.YthinpbgbnlohpaaS5
import Derived.Laws.MakeOwn
namespace Go.Proofs.Ythinpbgbnlohpaa
set_option linter.unusedSimpArgs false
set_option linter.unusedVariables false
open Go.RowKit
instance (priority := 2000) (k : Nat) (v : Value) (ps : List (Nat × Value)) (out : List Value) [hv : VCells v [v]] [hn : Row [v] 1] [hp : Parts 1 (k + 1) ps out] : Parts 1 k ((k, v) :: ps) (v :: out) := .cons hv hn hp
instance (priority := 30) (xs ys : List Value) (n m : Nat) [h : Row xs n] [k : Row ys m] : Row (xs ++ ys) (n + m) := ⟨by rw [List.length_append, h.len, k.len], fun v hv => (List.mem_append.1 hv).elim (h.one v) (k.one v)⟩
section
variable {P : Program} {X : List Nat} {w0 w : World} {L M : List Fc} {a : Act} {ops : Array Oper} {rest : List Oper} {Q : Exit → Act → World → Prop} {d : Option Tmp} {ty : TypeId} {pos : String} {af : Array Edge} {gd : Option (Nat × Bool)}
/-- make with length 0 -/
theorem wpMake0 {T e size bytes : Nat} {z : Value} [E : TS P T e size bytes z] {x y : Operand} {c : Nat} (hS : St X w0 w L) (hx : a.eval x = .int .i64 0) (hy : a.eval y = .int .i64 c) (hb : c * bytes ≤ 281474976710656)
    (h : ∀ g w', St X w0 w' (.own (.slice (some ⟨g, 0, none⟩) 0 c) 0 e size [] :: L) → wpList P ops Q rest (a.put d (.slice (some ⟨g, 0, none⟩) 0 c)) w') : wpList P ops Q (⟨d, .makeSlice T x y, ty, pos, af, none⟩ :: rest) a w := by
  obtain ⟨i, hi, hz, hsz, hby⟩ := info_parts E.el.hi
  have hbp := E.el.hb
  subst hby
  have hc : c ≤ c * i.bytes := Nat.le_mul_of_pos_right _ hbp
  obtain ⟨w', hrun, h2, h3⟩ := run_make_own (P := P) w w0.heap.size T e i z size E.el.ht hi hz hsz .i64 .i64 c (by rw [Nat.mul_comm]; exact hb) (by unfold maxLen; omega) hS.size
  refine wpl_run (v := .slice (some ⟨w.heap.size, 0, none⟩) 0 c) (w' := w') rfl ?_ (h _ _ (hS.newOwn h2 h3 rfl))
  unfold execOp
  simp only [hx, hy]
  rw [Sem.run_bind, hrun]
  rfl
/-- make: a block of zeros -/
theorem wpMakeN {T e size bytes : Nat} {z : Value} [E : TS P T e size bytes z] {x y : Operand} {c : Nat} (hS : St X w0 w L) (hx : a.eval x = .int .i64 c) (hy : a.eval y = .int .i64 c) (hb : c * bytes ≤ 281474976710656)
    (h : ∀ g w', St X w0 w' (.blk g (madeCells z.cells (c * size)).toList e :: L) → wpList P ops Q rest (a.put d (.slice (some ⟨g, 0, none⟩) c c)) w') : wpList P ops Q (⟨d, .makeSlice T x y, ty, pos, af, none⟩ :: rest) a w := by
  obtain ⟨i, hi, hz, hsz, hby⟩ := info_parts E.el.hi
  have hbp := E.el.hb
  subst hby hsz
  have hc : c ≤ c * i.bytes := Nat.le_mul_of_pos_right _ hbp
  have hb' : (i.bytes : Int) * (c : Int) ≤ 281474976710656 := by
    have : ((i.bytes * c : Nat) : Int) ≤ 281474976710656 := by rw [Nat.mul_comm]; omega
    rwa [Int.natCast_mul] at this
  have hrun := run_make (P := P) w T e i z E.el.ht hi hz .i64 .i64 c c (by omega) (Int.le_refl _) hb' (by omega)
  simp only [Int.toNat_natCast] at hrun
  have hS' := hS.alloc (madeCells z.cells (c * i.size)).toList e
  rw [Array.toArray_toList] at hS'
  refine wpl_run (v := .slice (some ⟨w.heap.size, 0, none⟩) c c) rfl ?_ (h _ _ hS')
  unfold execOp
  simp only [hx, hy]
  rw [Sem.run_bind, hrun]
  rfl
theorem wpStore1 {T T' : TypeId} {p x : Operand} [hT : TOne P T] {g off : Nat} {cs cs' : List Value} {v : Value} {L' : List Fc} (hS : St X w0 w L) (hp : a.eval p = .pointer (some ⟨g, off, none⟩)) (hx : a.eval x = v) (hv : v.oneCell' = true) (hm : HasB g L cs T') (hs : SetAt cs off [v] cs') (hr : RepB g cs cs' T' L L')
    (h : ∀ w', St X w0 w' L' → wpList P ops Q rest (a.put d undef) w') : wpList P ops Q (⟨d, .store T p x, ty, pos, af, none⟩ :: rest) a w := sStore1 hS hp hx hv h
theorem St.blkOwn {g n e size : Nat} {cs : List Value} (h : St X w0 w (.blk g cs e :: L)) (hX : X = []) (hl : cs.length = n * size) (hn : n ≤ 9223372036854775807) : St X w0 w (.own (.slice (some ⟨g, 0, none⟩) n n) n e size cs :: L) := by
  obtain ⟨h3, h4⟩ := List.pairwise_cons.1 h.sep
  have hb := h.blk (List.mem_cons_self ..)
  have hfr := h.fresh _ (List.mem_cons_self ..) rfl g rfl
  subst hX
  have hg : w0.heap.size ≤ g := hfr.elim id (fun h => by simp at h)
  refine (h.tail rfl).cons ⟨hl, .inr ⟨g, n, cs.toArray, rfl, hg, hb, Nat.le_refl _, by unfold maxLen; omega, by simpa using hl, by rw [← hl]; simp⟩⟩ (fun f hf _ k hk hk' => ?_) (fun _ k hk => .inl ?_)
  · have hk2 : some g = some k := hk
    injection hk2 with hk2
    exact h3 f hf rfl k hk2.symm hk'
  · have hk2 : some g = some k := hk
    injection hk2 with hk2
    omega
theorem wpBSlO {t e : TypeId} {m n bytes : Nat} {z : Value} [E : TS P t e n bytes z] {l : List (Nat × Operand)} {ps : List (Nat × Value)} {out : List Value} (hS : St [] w0 w L) (hp : (l.map fun p => (p.1, a.eval p.2)) = ps) (hf : Parts n 0 ps out) (hl : ps.length = m) (h0 : 0 < m ∧ m * n ≤ 16777216) (hr : Row out (m * n))
    (h : ∀ g w', St [] w0 w' (.own (.slice (some ⟨g, 0, none⟩) m m) m e n out :: L) → wpList P ops Q rest (a.put d (.slice (some ⟨g, 0, none⟩) m m)) w') : wpList P ops Q (⟨d, .buildSlice t m l.toArray, ty, pos, af, none⟩ :: rest) a w :=
  wpBSl hS hp hf hl h0 fun g w' hS' => h g w' (hS'.blkOwn rfl hr.len (by have := E.el.h0; have : m ≤ m * n := Nat.le_mul_of_pos_right _ this; omega))
theorem madeBytes (n : Nat) : (madeCells (Value.int .u8 0).cells (n * 1)).toList = bc (List.replicate n 0) := by
  rw [Nat.mul_one]
  apply List.ext_getElem?
  intro j
  by_cases h : j < n <;> simp [madeCells, bc, h, Value.cells, Nat.mod_one, List.getElem?_replicate]
end
theorem Res.mk_own {w w' : World} {v : Value} {n e size : Nat} {xs : List Value} (h : w'.ownsRow w.heap.size e size v n xs) (hb : Below w.heap.size w w') : Res [] w w' [.own v n e size xs] :=
  ⟨Bel.of hb, fun f hf => by rw [List.mem_singleton.1 hf]; exact h, List.pairwise_singleton _ _, fun f hf k hk => by
    rw [List.mem_singleton.1 hf] at hk
    exact .inl (h.lt k hk).1⟩
theorem Res.own {w w' : World} {v : Value} {n e size : Nat} {xs : List Value} (h : Res [] w w' [.own v n e size xs]) : w'.ownsRow w.heap.size e size v n xs := h.ok _ (List.mem_singleton.2 rfl)
section
variable {P : Program} {X : List Nat} {w0 w : World} {L M : List Fc} {a : Act} {o : Oper}
theorem St.cast (h : St X w0 w L) {L' : List Fc} (e : L = L') : St X w0 w L' := e ▸ h
theorem St.ownCast {v : Value} {n n' e size : Nat} {xs xs' : List Value} (h : St X w0 w (.own v n e size xs :: L)) (hn : n = n') (hx : xs = xs') : St X w0 w (.own v n' e size xs' :: L) := by subst hn; subst hx; exact h
theorem St.rdCast {A : Option Addr} {cs cs' : List Value} (h : St X w0 w (.rd A cs :: L)) (hx : cs = cs') : St X w0 w (.rd A cs' :: L) := by subst hx; exact h
theorem St.elem {b o k : Nat} {cs out : List Value} (h : St X w0 w L) [hm : HasA (some ⟨b, o, none⟩) L cs] (hc : ∀ j v, out[j]? = some v → cs[0 + (k + j)]? = some v) : St X w0 w (.rd (some ⟨b, o + k, none⟩) out :: L) := by
  refine h.part hm.mem (fun j v hv => ⟨b, o + k, rfl, ?_⟩) ?_
  · have := (h.rd hm.mem).range _ v (hc j v hv)
    rw [Nat.zero_add] at this
    rwa [Nat.add_assoc]
  · rintro g ⟨hne, o', e⟩
    injection e with e
    injection e with e1 _
    subst e1
    refine ⟨fun hcs => ?_, o, rfl⟩
    cases out with
    | nil => exact hne rfl
    | cons x out => have := hc 0 x rfl; rw [hcs] at this; simp at this
theorem St.blkCast {g T : Nat} {cs cs' : List Value} (h : St X w0 w (.blk g cs T :: L)) (hx : cs = cs') : St X w0 w (.blk g cs' T :: L) := by subst hx; exact h
/-- a block that came in and may be written -/
theorem St.startX {g T : Nat} {cs : List Value} (h : w.heap[g]? = some (.cells cs.toArray T (0, 0))) : St [g] w w [.blk g cs T] :=
  (St.start [g] w).cons h (fun _ h => (List.not_mem_nil h).elim) (fun _ k hk => .inr (by rw [show k = g from hk]; exact List.mem_cons_self ..))
/-- behind a call that turned one block -/
theorem St.retX {g T : Nat} {cs cs' : List Value} {w' : World} {L' : List Fc} (h : St X w0 w L) [hm : HasB g L cs T] [hr : RepB g cs cs' T L L'] (hx : Res [g] w w' [.blk g cs' T]) : St X w0 w' L' :=
  h.turn hr.rep rfl (fun k hk => hk) (hx.ok _ (List.mem_singleton.2 rfl)) hx.bel.os hx.bel.tape hx.bel.output hx.bel.size fun k hk hne => hx.bel.block k hk (fun he => hne (show k = g by simpa using he))
theorem St.own_Rd (h : St X w0 w L) {A : Option Addr} {c e n size : Nat} {xs : List Value} [hd : DropO (.slice A n c) e L n size xs M] : Rd w A xs := by
  have ho : w.ownsRow w0.heap.size e size (.slice A n c) n xs := h.ok _ (hd.perm.mem_iff.2 (List.mem_cons_self ..))
  obtain ⟨A', c', e', _, hr⟩ := Go.Proofs.Ythinpbgbnlohpaa.own_Rd ho
  injection e' with e1 _ _
  subst e1
  exact hr
theorem St.rdC (h : St X w0 w L) {b O off n : Nat} {cs out : List Value} [hm : HasC b O L off cs] [hr : RowAt cs off n out] : Rd w (some ⟨b, O, none⟩) out := fun j u hu => ⟨b, O, rfl, hm.cell h j u (hr.at_ j u hu)⟩
theorem xNil {x : Operand} {p : Addr} (ho : o.op = .nilCheck x) (hx : a.eval x = .pointer (some p)) : (execOp a.eval o).run P w = .ok (.value (.pointer (some p))) w := by
  unfold execOp
  simp only [ho, hx]
  rfl
theorem xConvB {T T' : TypeId} {x : Operand} {n : Int} (hT : P.underlying T = some (.int .u8)) (hT' : P.underlying T' = some (.int .i64)) (ho : o.op = .convert T T' x) (hx : a.eval x = .int .u8 n) (h0 : 0 ≤ n ∧ n < 256) : (execOp a.eval o).run P w = .ok (.value (.int .i64 n)) w := by
  unfold execOp
  simp only [ho, hx, convert, Sem.run_bind, run_underlying hT, run_underlying hT', Result.andThen_ok, Conv.intToInt]
  rw [IntWalk.i64_in n (by omega)]
  rfl
theorem xMul {T T' : TypeId} {x y : Operand} {m n : Int} (ho : o.op = .binOp .mul T x y T') (hx : a.eval x = .int .i64 m) (hy : a.eval y = .int .i64 n) (h : -9223372036854775808 ≤ m * n ∧ m * n ≤ 9223372036854775807) :
    (execOp a.eval o).run P w = .ok (.value (.int .i64 (m * n))) w := by
  unfold execOp
  simp only [ho, hx, hy]
  have e : (binOp .mul T (.int .i64 m) (.int .i64 n)).run P w = .ok (.int .i64 (m * n)) w := by
    rw [← IntWalk.i64_in (m * n) h]
    rfl
  rw [Sem.run_bind, Sem.run_bind]
  have g : (eqGuard .mul T x y (.int .i64 m) (.int .i64 n)).run P w = .ok () w := rfl
  rw [g, Result.andThen_ok, e]
  rfl
theorem xSlA {T len e size : Nat} [hT : TArr P T len e size] {x : Operand} {b off : Nat} (ho : o.op = .slice T x none none none) (hx : a.eval x = .pointer (some ⟨b, off, none⟩)) (hn : 0 < len) : (execOp a.eval o).run P w = .ok (.value (.slice (some ⟨b, off, none⟩) len len)) w :=
  ex_slice_array ho hx hT.und hT.size hn
end
section
variable {P : Program} {Q : Exit → Act → World → Prop} {md : Region.Mode} {S : World → Prop} {fuel : Nat} {listed : Array Bool} {a : Act} {w w0 : World} {X : List Nat} {L : List Fc}
theorem heldMoreSt {L' : List Fc} {ops : Array Oper} (_hS : St X w0 w L') (hs : ∀ w, St X w0 w L' → S w) (h : wpAnyH P md ops Q (fun w' => St X w0 w' L') fuel listed a w) : wpAnyH P md ops Q S fuel listed a w := heldMore hs _ _ _ _ h
theorem heldBSl (i : Nat) {l : List Oper} {dd : Option Tmp} {ty : TypeId} {pos : String} {af : Array Edge} {gd : Option (Nat × Bool)} {t e : TypeId} {m n bytes : Nat} {z : Value} [E : TS P t e n bytes z] {ls : List (Nat × Operand)} {ps : List (Nat × Value)} {out : List Value} (hS : St X w0 w L) (ho : l[i]? = some ⟨dd, .buildSlice t m ls.toArray, ty, pos, af, gd⟩) (hr : Region.ready md l.toArray listed = [i])
    (hw : Region.wanted ⟨dd, .buildSlice t m ls.toArray, ty, pos, af, gd⟩ (yielded l.toArray a.tmps) = true) (hp : (ls.map fun p => (p.1, a.eval p.2)) = ps) (hf : Parts n 0 ps out) (hl : ps.length = m) (h0 : 0 < m ∧ m * n ≤ 16777216)
    (h : ∀ g w', St X w0 w' (.blk g out e :: L) → S w' ∧ wpAnyH P md l.toArray Q S fuel (listed.setIfInBounds i true) (a.put dd (.slice (some ⟨g, 0, none⟩) m m)) w') : wpAnyH P md l.toArray Q S (fuel + 1) listed a w := by
  obtain ⟨j, hi, hz, hsz, hby⟩ := info_parts E.el.hi
  subst hl
  have h2 := h _ _ (hS.alloc out e)
  have hcells : Instr.fill (fun i => some (i * j.size, j.size)) ((Array.range (ps.length * j.size)).map (z.cells[· % z.cells.size]!)) (ls.toArray.map fun (x : Nat × Operand) => match x with | (i, x) => (i, a.eval x)).toList = some out.toArray := by
    have e1 : (ls.toArray.map fun (x : Nat × Operand) => match x with | (i, x) => (i, a.eval x)).toList = ps := by rw [← hp]; simp
    rw [e1, hsz]
    have := hf.fill [] ((Array.range (ps.length * n)).map (z.cells[· % z.cells.size]!)).toList (by simp) (by simp)
    rw [List.nil_append, Array.toArray_toList, List.nil_append] at this
    exact this
  have hrun := run_buildSlice (P := P) w t e ps.length (ls.toArray.map fun (x : Nat × Operand) => match x with | (i, x) => (i, a.eval x)) out.toArray j z E.el.ht hi hz (by rw [hsz]; omega) (by rw [hsz]; have := E.el.h0; have := Nat.mul_pos h0.1 this; omega) hcells
  refine heldNew i (v := .slice (some ⟨w.heap.size, 0, none⟩) ps.length ps.length) (w' := w.alloc (.cells out.toArray e)) ho hr hw ?_ h2.1 h2.2
  unfold execOp
  simp only [Sem.run_bind, hrun, Result.andThen_ok]
  rfl
end
/-! ### two operations that make memory, in either order -/
section
variable {P : Program} {Q : Exit → Act → World → Prop} {md : Region.Mode} {S : World → Prop} {fuel : Nat} {listed : Array Bool} {a : Act} {w w0 : World} {X : List Nat} {L : List Fc} {K : Act → World → Prop}
theorem opCall (i : Nat) {l : List Oper} {o : Oper} {f : FuncId} {args args' : Array Value} {R : Ending → World → Prop} (ho : l[i]? = some o) (hw : Region.wanted o (yielded l.toArray a.tmps) = true) (hrun : (execOp a.eval o).run P w = .ok (.enter f args') w)
    (hc : Calls P f args w R) (hargs : args' = args) (h : ∀ e w', R e w' → ∃ v, e = .returned v ∧ K (a.put o.dst v) w') : wpOp P l.toArray Q i K a w := by
  have ho' : l.toArray[i]? = some o := by simpa using ho
  unfold wpOp
  simp only [ho', hw, if_true]
  refine .inl ?_
  unfold Oper.wp
  rw [hrun, hargs]
  refine hc.mono fun e w' hR => ?_
  obtain ⟨v, rfl, h1⟩ := h e w' hR
  exact h1
theorem opAlloc (i : Nat) {l : List Oper} {dd : Option Tmp} {T : TypeId} {ty : TypeId} {pos : String} {af : Array Edge} {cs : List Value} [TZ P T cs] (hS : St X w0 w L) (ho : l[i]? = some ⟨dd, .alloc T, ty, pos, af, none⟩)
    (h : ∀ g w', St X w0 w' (.blk g cs T :: L) → K (a.put dd (.pointer (some ⟨g, 0, none⟩))) w') : wpOp P l.toArray Q i K a w := by
  have ho' : l.toArray[i]? = some ⟨dd, .alloc T, ty, pos, af, none⟩ := by simpa using ho
  unfold wpOp
  simp only [ho', Region.wanted, if_true]
  refine .inl ?_
  unfold Oper.wp
  rw [xAlloc (cs := cs) rfl]
  exact h _ _ (hS.alloc cs T)
theorem heldOf (i : Nat) {ops : Array Oper} (hr : Region.ready md ops listed = [i]) (h : wpOp P ops Q i (fun a' w' => S w' ∧ wpAnyH P md ops Q S fuel (listed.setIfInBounds i true) a' w') a w) : wpAnyH P md ops Q S (fuel + 1) listed a w :=
  wpAnyH_all hr (by simp) fun j hj => by
    obtain rfl : j = i := by simpa using hj
    exact h
theorem heldOf2 (i j : Nat) {ops : Array Oper} (hr : Region.ready md ops listed = [i, j]) (hi : wpOp P ops Q i (fun a' w' => S w' ∧ wpAnyH P md ops Q S fuel (listed.setIfInBounds i true) a' w') a w) (hj : wpOp P ops Q j (fun a' w' => S w' ∧ wpAnyH P md ops Q S fuel (listed.setIfInBounds j true) a' w') a w) : wpAnyH P md ops Q S (fuel + 1) listed a w :=
  wpAnyH_all hr (by simp) fun k hk => by
    rcases (by simpa using hk : k = i ∨ k = j) with rfl | rfl
    · exact hi
    · exact hj
/-- what stands behind the region is walked once -/
theorem heldFork {Lf : Nat → List Fc} {ACT : Nat → Act} {ops : Array Oper} (f : (∀ g w', St X w0 w' (Lf g) → Q .normal (ACT g) w') → wpAnyH P md ops Q S fuel listed a w) (h : ∀ g w', St X w0 w' (Lf g) → Q .normal (ACT g) w') : wpAnyH P md ops Q S fuel listed a w := f h
/-- a store, last of all -/
theorem opStore (i : Nat) {l : List Oper} {dd : Option Tmp} {T T' : TypeId} {n : Nat} {p x : Operand} {ty : TypeId} {pos : String} {af : Array Edge} [hT : TRow P T n] {g off : Nat} {cs new cs' : List Value} {L' : List Fc} (hS : St X w0 w L) (ho : l[i]? = some ⟨dd, .store T p x, ty, pos, af, none⟩) (hp : a.eval p = .pointer (some ⟨g, off, none⟩)) (hx : a.eval x = .agg new.toArray) [hm : HasB g L cs T'] [hn : Row new n] [hs : SetAt cs off new cs'] [hr : RepB g cs cs' T' L L']
    (h : ∀ w', St X w0 w' L' → K (a.put dd undef) w') : wpOp P l.toArray Q i K a w := by
  have ho' : l.toArray[i]? = some ⟨dd, .store T p x, ty, pos, af, none⟩ := by simpa using ho
  have hb := hS.blk hm.mem
  have hrun := ex_store_mid (P := P) (a := a) (o := ⟨dd, .store T p x, ty, pos, af, none⟩) rfl hp hx hb (by rw [hn.len]; exact hT.size) (by simpa using hs.fit) hn.one
  unfold wpOp
  simp only [ho', Region.wanted, if_true]
  refine .inl ?_
  unfold Oper.wp
  rw [hrun]
  refine h _ (hS.put hr.rep ?_ (fun B w0 hB hg => below_setRow hB hg _) (by simp) (fun k hk => setRow_other w g k _ hk))
  rw [setRow_heap w g _ _ T' _ hb, hs.eq]
theorem opStore1 (i : Nat) {l : List Oper} {dd : Option Tmp} {T T' : TypeId} {p x : Operand} {ty : TypeId} {pos : String} {af : Array Edge} [hT : TOne P T] {g off : Nat} {cs cs' : List Value} {v : Value} {L' : List Fc} (hS : St X w0 w L) (ho : l[i]? = some ⟨dd, .store T p x, ty, pos, af, none⟩) (hp : a.eval p = .pointer (some ⟨g, off, none⟩)) (hx : a.eval x = v) (hv : v.oneCell' = true) [hm : HasB g L cs T'] [hs : SetAt cs off [v] cs'] [hr : RepB g cs cs' T' L L']
    (h : ∀ w', St X w0 w' L' → K (a.put dd undef) w') : wpOp P l.toArray Q i K a w := by
  have ho' : l.toArray[i]? = some ⟨dd, .store T p x, ty, pos, af, none⟩ := by simpa using ho
  have hb := hS.blk hm.mem
  have hf := hs.fit
  simp only [List.length_singleton] at hf
  obtain ⟨hcell, hfz⟩ := blk_cells hb
  obtain ⟨j, hj, hjs⟩ := Option.map_eq_some_iff.1 hT.size
  have hone : v.cells = #[v] := by cases v <;> first | rfl | simp [Value.oneCell'] at hv
  have hst : (store (⟨g, off, none⟩ : Addr) v).run P w = .ok () (w.setCell ⟨g, off, none⟩ v) := by
    have hcl : w.cell? ⟨g, off, none⟩ = some (cs[off]'(Nat.lt_of_succ_le hf)) := by rw [hcell]; simp [Nat.lt_of_succ_le hf]
    cases v <;> first | (simp [Value.oneCell'] at hv; done) | simp [store, Sem.run, hcl, hfz]
  have hrun : (storeVar T ⟨g, off, none⟩ v).run P w = .ok () (w.setCell ⟨g, off, none⟩ v) := by
    simp [storeVar, hone, sizeOf, typeInfo, hj, hjs, storeCells, Addr.add, hst]
  unfold wpOp
  simp only [ho', Region.wanted, if_true]
  refine .inl ?_
  unfold Oper.wp execOp
  simp only [hp, hx, Instr.storeAt, Instr.sureAddr, Sem.run_bind, Sem.run_pure, Result.andThen_ok, hrun]
  refine h _ (hS.put hr.rep ?_ (fun B w0 hB hg => hB.setCell hg v) (by simp) (fun k hk => heap_setCell_other w _ k v hk))
  rw [heap_setCell_same w g off _ T' v hb, hs.eq, List.setIfInBounds_toArray, List.length_singleton, List.set_eq_take_append_cons_drop, if_pos (by omega)]
  simp
theorem opBSl (i : Nat) {l : List Oper} {dd : Option Tmp} {ty : TypeId} {pos : String} {af : Array Edge} {t e : TypeId} {m n bytes : Nat} {z : Value} [E : TS P t e n bytes z] {ls : List (Nat × Operand)} {ps : List (Nat × Value)} {out : List Value} (hS : St X w0 w L) (ho : l[i]? = some ⟨dd, .buildSlice t m ls.toArray, ty, pos, af, none⟩)
    (hp : (ls.map fun p => (p.1, a.eval p.2)) = ps) (hf : Parts n 0 ps out) (hl : ps.length = m) (h0 : 0 < m ∧ m * n ≤ 16777216) (h : ∀ g w', St X w0 w' (.blk g out e :: L) → K (a.put dd (.slice (some ⟨g, 0, none⟩) m m)) w') : wpOp P l.toArray Q i K a w := by
  have ho' : l.toArray[i]? = some ⟨dd, .buildSlice t m ls.toArray, ty, pos, af, none⟩ := by simpa using ho
  obtain ⟨j, hi, hz, hsz, hby⟩ := info_parts E.el.hi
  subst hl
  have h2 := h _ _ (hS.alloc out e)
  have hcells : Instr.fill (fun i => some (i * j.size, j.size)) ((Array.range (ps.length * j.size)).map (z.cells[· % z.cells.size]!)) (ls.toArray.map fun (x : Nat × Operand) => match x with | (i, x) => (i, a.eval x)).toList = some out.toArray := by
    have e1 : (ls.toArray.map fun (x : Nat × Operand) => match x with | (i, x) => (i, a.eval x)).toList = ps := by rw [← hp]; simp
    rw [e1, hsz]
    have := hf.fill [] ((Array.range (ps.length * n)).map (z.cells[· % z.cells.size]!)).toList (by simp) (by simp)
    rw [List.nil_append, Array.toArray_toList, List.nil_append] at this
    exact this
  have hrun := run_buildSlice (P := P) w t e ps.length (ls.toArray.map fun (x : Nat × Operand) => match x with | (i, x) => (i, a.eval x)) out.toArray j z E.el.ht hi hz (by rw [hsz]; omega) (by rw [hsz]; have := E.el.h0; have := Nat.mul_pos h0.1 this; omega) hcells
  unfold wpOp
  simp only [ho', Region.wanted, if_true]
  refine .inl ?_
  unfold Oper.wp execOp
  simp only [Sem.run_bind, hrun, Result.andThen_ok]
  exact h2
theorem opAppend (i : Nat) {l : List Oper} {dd : Option Tmp} {ty : TypeId} {pos : String} {af : Array Edge} {t e : TypeId} {size bytes : Nat} {z : Value} [E : TS P t e size bytes z] {s x : Operand} {n m c b O off k : Nat} {v : Value} {xs cs out : List Value} {M : List Fc} (hS : St X w0 w L) (ho : l[i]? = some ⟨dd, .call { callee := .builtin .append, args := #[s, x], argTypes := #[t, t] }, ty, pos, af, none⟩) (hx : a.eval x = .slice (some ⟨b, O, none⟩) m c) (hs : a.eval s = v)
    (hd : DropO v e L n size xs M) (hc : HasC b O L off cs) (hk : m * size = k) (hr : RowAt cs off k out) (h1 : Row out k) (hb : (n + m) * bytes ≤ 140737488355328)
    (h : ∀ v' w', St X w0 w' (.own v' (n + m) e size (xs ++ out) :: M) → K (a.put dd v') w') : wpOp P l.toArray Q i K a w := by
  have ho' : l.toArray[i]? = some ⟨dd, .call { callee := .builtin .append, args := #[s, x], argTypes := #[t, t] }, ty, pos, af, none⟩ := by simpa using ho
  have h2 := hS.perm hd.perm.symm
  have hrd : Rd w (some ⟨b, O, none⟩) out := fun j u hu => ⟨b, O, rfl, hc.cell hS j u (hr.at_ j u hu)⟩
  obtain ⟨v', w', hrun, h3, h4, h5⟩ := xAppend (o := ⟨dd, .call { callee := .builtin .append, args := #[s, x], argTypes := #[t, t] }, ty, pos, af, none⟩) rfl E.el hs (h2.own (List.mem_cons_self ..)) hx (by simp) (by rw [hr.len, hk]) hrd h1.one hb hS.size
  unfold wpOp
  simp only [ho', Region.wanted, if_true]
  refine .inl ?_
  unfold Oper.wp
  rw [hrun]
  exact h v' w' (h2.grow .head h3 h4 h5)
end
end Go.Proofs.Ythinpbgbnlohpaa
