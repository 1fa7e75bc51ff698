/- Laws of my own, part 3: appends to a row of the call's own, fields, arrays. -/
import Derived.Test.YthinpbgbnlohpaaB2
import Derived.Laws.CopyOwn
namespace Go.Proofs.Ythinpbgbnlohpaa
set_option linter.unusedSimpArgs false
set_option linter.unusedVariables false
open Go.RowKit

structure ElT (P : Program) (t e : TypeId) (size bytes : Nat) (z : Value) : Prop where
  ht : P.underlying t = some (.slice e)
  hi : (P.info? e).map (fun i => (i.zero, i.size, i.bytes)) = some (some z, size, bytes)
  hz : z.cells.size = size
  h0 : 0 < size
  hb : 0 < bytes
theorem Rd_lit (w : World) (cs : List Value) (T : TypeId) : Rd (w.alloc (.cells cs.toArray T)) (some ⟨w.heap.size, 0, none⟩) cs := Rd.mk (rangeAt_new' w cs T)
theorem Rd_at (w : World) (g : Nat) (cs : List Value) (T : TypeId) (h : w.heap.size = g) : Rd (w.alloc (.cells cs.toArray T)) (some ⟨g, 0, none⟩) cs := by subst h; exact Rd_lit w cs T
theorem own_lit (w : World) (base : Nat) (e : TypeId) (size n : Nat) (cs : List Value) (hb : base ≤ w.heap.size) (hn : n ≤ 9223372036854775807) (hs : cs.length = n * size) :
    (w.alloc (.cells cs.toArray e)).ownsRow base e size (.slice (some ⟨w.heap.size, 0, none⟩) n n) n cs := by
  have := World.ownsRow_lit (e := e) (size := size) (base := base) w cs.toArray n hb hn (by simpa using hs)
  simpa using this
theorem own_alloc {w : World} {base : Nat} {e : TypeId} {size n : Nat} {v : Value} {xs : List Value} (h : w.ownsRow base e size v n xs) (o : Obj) : (w.alloc o).ownsRow base e size v n xs := h.alloc o
theorem own_base {w : World} {base base' : Nat} {e : TypeId} {size n : Nat} {v : Value} {xs : List Value} (h : w.ownsRow base e size v n xs) (hb : base' ≤ base) : w.ownsRow base' e size v n xs := by
  obtain ⟨h1, h2⟩ := h
  refine ⟨h1, ?_⟩
  rcases h2 with h2 | ⟨g, cap, cur, rfl, hg, r⟩
  · exact .inl h2
  · exact .inr ⟨g, cap, cur, rfl, by omega, r⟩
theorem own_below {w w1 : World} {base : Nat} {e : TypeId} {size n : Nat} {v : Value} {xs : List Value} (h : w.ownsRow base e size v n xs) (hb : Below w.heap.size w w1) : w1.ownsRow base e size v n xs :=
  h.kept (row := none) ⟨hb.os, hb.tape, hb.output, hb.size, fun i hi _ => hb.block i hi⟩ (by cases v.ownBlock <;> simp)
theorem own_setCell {w : World} {base : Nat} {e : TypeId} {size n : Nat} {v : Value} {xs : List Value} (h : w.ownsRow base e size v n xs) {p : Addr} (hp : p.block < base) (u : Value) : (w.setCell p u).ownsRow base e size v n xs := ownsRow_setCell_below h hp u
theorem grow_below {w W w1 : World} {B : Nat} {base : Nat} {e : TypeId} {size n : Nat} {v : Value} {xs : List Value} (h : Below B w W) (hown : W.ownsRow base e size v n xs) (hg : W.grownBy w1 v.ownBlock) (hB : B ≤ base) (hB2 : B ≤ W.heap.size) : Below B w w1 :=
  h.grown hg hB2 (fun k hk => Nat.le_trans hB (hown.lt k hk).1)
/-- a range that is no part of the row that grows -/
theorem grow_range {W w1 : World} {b o : Nat} {cs : List Value} {v : Value} (h : W.rangeAt b o cs) (hg : W.grownBy w1 v.ownBlock) (hne : some b ≠ v.ownBlock) : w1.rangeAt b o cs := fun j u hu =>
  hg.cell (h j u hu) hne
theorem own_ne {w : World} {base : Nat} {e : TypeId} {size n : Nat} {v : Value} {xs : List Value} (h : w.ownsRow base e size v n xs) {b : Nat} (hb : b < base ∨ w.heap.size ≤ b) : some b ≠ v.ownBlock := fun e => by
  have := h.lt b e.symm
  omega

theorem own_ne_type {w : World} {base : Nat} {e : TypeId} {size n : Nat} {v : Value} {xs : List Value} (h : w.ownsRow base e size v n xs) {b : Nat} {C : Array Value} {T : TypeId} {fr : Nat × Nat} (hb : w.heap[b]? = some (.cells C T fr)) (hT : T ≠ e) : some b ≠ v.ownBlock := fun hbv => by
  rcases h.2 with ⟨rfl, _⟩ | ⟨g, cap, cur, rfl, hg, hh, r⟩
  · simp [Value.ownBlock] at hbv
  · simp only [Value.ownBlock, Option.some.injEq] at hbv
    subst hbv
    rw [hh] at hb
    injection hb with hb
    injection hb with _ h2 _
    exact hT h2.symm
theorem grow_blk {W w1 : World} {b : Nat} {v : Value} {o : Obj} (h : W.heap[b]? = some o) (hg : W.grownBy w1 v.ownBlock) (hne : some b ≠ v.ownBlock) : w1.heap[b]? = some o :=
  (hg.block b (Array.getElem?_eq_some_iff.1 h).1 hne).trans h
theorem alloc_blk {W : World} {b : Nat} {o : Obj} (h : W.heap[b]? = some o) (o' : Obj) : (W.alloc o').heap[b]? = some o := by
  rw [Below.heap_alloc W o' b (Array.getElem?_eq_some_iff.1 h).1]; exact h
theorem blk_range {W : World} {b : Nat} {cs : List Value} {T : TypeId} {fr : Nat × Nat} (h : W.heap[b]? = some (.cells cs.toArray T fr)) : W.rangeAt b 0 cs := fun j v hv => by
  rw [cell_of_row W b (0 + j) cs.toArray T fr h]; simpa using hv
section
variable {P : Program} {a : Act} {w : World} {o : Oper}
theorem ex_append {s x : Operand} {t e : TypeId} {size bytes : Nat} {z : Value} (ho : o.op = .call { callee := .builtin .append, args := #[s, x], argTypes := #[t, t] }) (E : ElT P t e size bytes z)
    {base n : Nat} {v : Value} {xs : List Value} (hs : a.eval s = v) (hown : w.ownsRow base e size v n xs) {A : Option Addr} {m c : Nat} {news : List Value} (hx : a.eval x = .slice A m c) (hA : A = none → m = 0 ∧ c = 0) (hl : news.length = m * size) (hr : Rd w A news)
    (h1 : ∀ u ∈ news, u.oneCell' = true) (hb : (n + m) * bytes ≤ 140737488355328) (hbase : base ≤ w.heap.size) :
    ∃ v' w', (execOp a.eval o).run P w = .ok (.value v') w' ∧ w'.ownsRow base e size v' (n + m) (xs ++ news) ∧ w.grownBy w' v.ownBlock := by
  obtain ⟨i, hi, hz, hsz, hby⟩ := info_parts E.hi
  have hnm : n + m ≤ maxLen := by
    have : n + m ≤ (n + m) * bytes := Nat.le_mul_of_pos_right _ E.hb
    unfold maxLen
    omega
  cases A with
  | none =>
    obtain ⟨rfl, rfl⟩ := hA rfl
    have hn0 : news = [] := List.eq_nil_of_length_eq_zero (by simpa using hl)
    subst hn0
    have hrun := run_append_owned_none (P := P) w base t o.type e i size E.ht hi v n xs hown
    refine ⟨v, w, ?_, by simpa using hown, World.grownBy.refl _ _⟩
    unfold execOp
    simp only [ho, resolve, invoke, builtin, Sem.run_bind, Sem.run_pure, Result.andThen_ok, List.map_toArray, List.map_cons, List.map_nil, hs, hx, hrun]
  | some ad =>
    have hnews : ∀ j u, news[j]? = some u → w.cell? (ad.add j) = some u := fun j u hu => by
      obtain ⟨b, o', e, hc⟩ := hr j u hu
      obtain rfl := Option.some.inj e
      rw [Addr.add_mid]
      exact hc
    obtain ⟨v', w', hrun, h2, h3, _⟩ := run_append_own (P := P) w base t o.type e i z size bytes E.ht hi hz hsz hby E.hz E.h0 v n xs hown ad m c news hl hnews h1 hnm hb hbase
    refine ⟨v', w', ?_, h2, h3⟩
    unfold execOp
    simp only [ho, resolve, invoke, builtin, Sem.run_bind, Sem.run_pure, Result.andThen_ok, List.map_toArray, List.map_cons, List.map_nil, hs, hx, hrun]
/-- the address of a field -/
theorem ex_field {T : TypeId} {x : Operand} {i : Nat} (ho : o.op = .fieldAddr T x i) {b off : Nat} (hx : a.eval x = .pointer (some ⟨b, off, none⟩)) {fs : Array Field} (hT : P.underlying T = some (.struct fs)) {f : Field} (hf : fs[i]? = some f) {s : Nat} (hs : (P.info? f.type).map (·.size) = some (s + 1)) {k : Nat} (hk : off + f.offset = k) :
    (execOp a.eval o).run P w = .ok (.value (.pointer (some ⟨b, k, none⟩))) w := by
  obtain ⟨j, hj, hjs⟩ := Option.map_eq_some_iff.1 hs
  subst hk
  unfold execOp
  simp only [ho, hx]
  simp [Instr.fieldAt, run_underlying hT, hf, Instr.sureAddr, fieldPlace, sizeOf, typeInfo, hj, hjs, Addr.add_mid]
/-- a slice of all of an array -/
theorem ex_slice_array {T e n size : Nat} {x : Operand} (ho : o.op = .slice T x none none none) {b off : Nat} (hx : a.eval x = .pointer (some ⟨b, off, none⟩)) (hT : P.underlying T = some (.array n e)) (hs : (P.info? e).map (·.size) = some size) (hn : 0 < n) :
    (execOp a.eval o).run P w = .ok (.value (.slice (some ⟨b, off, none⟩) n n)) w := by
  obtain ⟨j, hj, hjs⟩ := Option.map_eq_some_iff.1 hs
  unfold execOp
  simp only [ho, hx, Option.map_none]
  simp [Instr.sliceAt, run_underlying hT, Instr.sureAddr, Instr.sliceBounds, sizeOf, typeInfo, hj, Addr.add_mid]
end
section
variable {P : Program} {ops : Array Oper} {rest : List Oper} {a : Act} {w : World} {Q : Exit → Act → World → Prop}
theorem wplAppend {o : Oper} (hg : o.guard = none) (s x : Operand) {t e : TypeId} {size bytes : Nat} {z : Value} (ho : o.op = .call { callee := .builtin .append, args := #[s, x], argTypes := #[t, t] }) (E : ElT P t e size bytes z)
    {base n : Nat} {v : Value} {xs : List Value} (hs : a.eval s = v) (hown : w.ownsRow base e size v n xs) {A : Option Addr} {m c : Nat} {news : List Value} (hx : a.eval x = .slice A m c) (hA : A = none → m = 0 ∧ c = 0) (hl : news.length = m * size) (hr : Rd w A news)
    (h1 : ∀ u ∈ news, u.oneCell' = true) (hb : (n + m) * bytes ≤ 140737488355328) (hbase : base ≤ w.heap.size)
    (h : ∀ v' w', w'.ownsRow base e size v' (n + m) (xs ++ news) → w.grownBy w' v.ownBlock → wpList P ops Q rest (a.put o.dst v') w') : wpList P ops Q (o :: rest) a w := by
  obtain ⟨v', w', hrun, h2, h3⟩ := ex_append ho E hs hown hx hA hl hr h1 hb hbase
  exact wpl_run hg hrun (h v' w' h2 h3)
theorem wplAllocZ {o : Oper} (hg : o.guard = none) {T : TypeId} (ho : o.op = .alloc T) {z : Array Value} {n : Nat} (hz : (P.info? T).map (fun i => (i.zero, i.size)) = some (some (.agg z), n))
    (h : wpList P ops Q rest (a.put o.dst (.pointer (some ⟨w.heap.size, 0, none⟩))) (w.alloc (.cells z T))) : wpList P ops Q (o :: rest) a w := by
  obtain ⟨hz1, _⟩ := zero_of_info hz
  refine wpl_run hg ?_ h
  unfold execOp
  simp only [ho, Instr.alloc, newVar, newRow, newObj, Sem.run_bind, hz1, Result.andThen_ok, Sem.run_pure]
  rfl
theorem wplStoreRow {o : Oper} (hg : o.guard = none) {T : TypeId} {p x : Operand} (ho : o.op = .store T p x) {g : Nat} {c : Array Value} {cs : List Value} (hp : a.eval p = .pointer (some ⟨g, 0, none⟩)) (hx : a.eval x = .agg cs.toArray) (hb : w.heap[g]? = some (.cells c T (0, 0)))
    (hi : (P.info? T).map (·.size) = some cs.length) (hc : c.size = cs.length) (h1 : ∀ v ∈ cs, v.oneCell' = true)
    (h : ∀ w', w'.heap[g]? = some (.cells cs.toArray T (0, 0)) → w'.heap.size = w.heap.size → (∀ k, k ≠ g → w'.heap[k]? = w.heap[k]?) → (∀ B w0, Below B w0 w → B ≤ g → Below B w0 w') → wpList P ops Q rest (a.put o.dst undef) w') : wpList P ops Q (o :: rest) a w := by
  refine wpList_plain hg fun K hK => ?_
  unfold Oper.wp execOp
  have hrun := run_storeVar_row (P := P) w g T T c cs.toArray hb (by simpa using hi) (by simpa using hc) (all_oneCell_toArray h1)
  simp only [ho, hp, hx, Instr.storeAt, Instr.sureAddr, Sem.run_bind, Sem.run_pure, Result.andThen_ok, hrun]
  exact hK _ _ (h _ (setRow_heap w g c _ T _ hb) (by simp) (fun k hk => setRow_other w g k _ hk) (fun B w0 hB hg => below_setRow hB hg _))
/-- one cell of a block of one's own -/
theorem wplStoreCell {o : Oper} (hg : o.guard = none) {T T' : TypeId} {p x : Operand} (ho : o.op = .store T p x) {g i : Nat} {c : Array Value} {v : Value} (hp : a.eval p = .pointer (some ⟨g, i, none⟩)) (hx : a.eval x = v) (hb : w.heap[g]? = some (.cells c T' (0, 0)))
    (hi : (P.info? T).map (·.size) = some 1) (hc : i < c.size) (h1 : v.oneCell' = true)
    (h : ∀ w', w'.heap[g]? = some (.cells (c.setIfInBounds i v) T' (0, 0)) → w'.heap.size = w.heap.size → (∀ k, k ≠ g → w'.heap[k]? = w.heap[k]?) → (∀ B w0, Below B w0 w → B ≤ g → Below B w0 w') → wpList P ops Q rest (a.put o.dst undef) w') : wpList P ops Q (o :: rest) a w := by
  refine wpList_plain hg fun K hK => ?_
  obtain ⟨j, hj, hjs⟩ := Option.map_eq_some_iff.1 hi
  obtain ⟨hcell, hfz⟩ := blk_cells hb
  have hone : v.cells = #[v] := by cases v <;> first | rfl | simp [Value.oneCell'] at h1
  have hst : (store (⟨g, i, none⟩ : Addr) v).run P w = .ok () (w.setCell ⟨g, i, none⟩ v) := by
    have hcl : w.cell? ⟨g, i, none⟩ = some c[i] := by rw [hcell]; simp [hc]
    cases v <;> first | (simp [Value.oneCell'] at h1; done) | simp [store, Sem.run, hcl, hfz]
  have hrun : (storeVar T ⟨g, i, none⟩ v).run P w = .ok () (w.setCell ⟨g, i, none⟩ v) := by
    simp [storeVar, hone, sizeOf, typeInfo, hj, hjs, storeCells, Addr.add, hst]
  unfold Oper.wp execOp
  simp only [ho, hp, hx, Instr.storeAt, Instr.sureAddr, Sem.run_bind, Sem.run_pure, Result.andThen_ok, hrun]
  exact hK _ _ (h _ (heap_setCell_same w g i c T' v hb) (by simp) (fun k hk => heap_setCell_other w _ k v hk) (fun B w0 hB hg => hB.setCell hg v))
end
theorem ret_row {P : Program} {fn : Func} {R : Ending → World → Prop} {a : Act} {w : World} {p : Tmp} {ty T : TypeId} (hf : fn.results = #[.cell p ty]) {g : Nat} {cs : List Value} (hp : a.tmps.getD p undef = .pointer (some ⟨g, 0, none⟩)) (hb : w.heap[g]? = some (.cells cs.toArray T (0, 0)))
    {d : TypeDesc} (hu : P.underlying ty = some d) (hd : d.isRow = true) (hi : (P.info? ty).map (·.size) = some cs.length) (hds : a.defers = []) (hR : R (.returned (.agg cs.toArray)) w) : bodyPost P fn R .ret a w :=
  bodyPost_ret (results_cell_row hf a.tmps w g T cs.toArray (0, 0) d hp hb hu (by cases d <;> simp_all) (by simpa using hi)) hds hR
section
variable {P : Program} {Q : Exit → Act → World → Prop} {md : Region.Mode} {S : World → Prop} {fuel : Nat} {listed : Array Bool} {a : Act} {w : World}
theorem heldAppend (i : Nat) {l : List Oper} {o : Oper} (hi : l[i]? = some o) (hr : Region.ready md l.toArray listed = [i]) (hg : o.guard = none) (s x : Operand) {t e : TypeId} {size bytes : Nat} {z : Value} (ho : o.op = .call { callee := .builtin .append, args := #[s, x], argTypes := #[t, t] }) (E : ElT P t e size bytes z)
    {base n : Nat} {v : Value} {xs : List Value} (hs : a.eval s = v) (hown : w.ownsRow base e size v n xs) {A : Option Addr} {m c : Nat} {news : List Value} (hx : a.eval x = .slice A m c) (hA : A = none → m = 0 ∧ c = 0) (hl : news.length = m * size) (hrd : Rd w A news)
    (h1 : ∀ u ∈ news, u.oneCell' = true) (hb : (n + m) * bytes ≤ 140737488355328) (hbase : base ≤ w.heap.size) (hS : ∀ w', w.grownBy w' v.ownBlock → S w')
    (h : ∀ v' w', w'.ownsRow base e size v' (n + m) (xs ++ news) → w.grownBy w' v.ownBlock → wpAnyH P md l.toArray Q S fuel (listed.setIfInBounds i true) (a.put o.dst v') w') : wpAnyH P md l.toArray Q S (fuel + 1) listed a w := by
  obtain ⟨v', w', hrun, h2, h3⟩ := ex_append ho E hs hown hx hA hl hrd h1 hb hbase
  exact heldOne i hi hr hg hrun (hS w' h3) (h v' w' h2 h3)
end
end Go.Proofs.Ythinpbgbnlohpaa
