/- Builds, comparisons, appends, made slices, results: over what is known of the world. -/
import Derived.Test.YthinpbgbnlohpaaV1
import Derived.Laws.MakeOwn
namespace Go.Proofs.Ythinpbgbnlohpaa
set_option linter.unusedSimpArgs false
set_option linter.unusedVariables false
open Go.RowKit
/-! ### builds -/
class TB (P : Program) (T : TypeId) (z : outParam (List Value)) (pl : outParam (Nat → Option (Nat × Nat))) : Prop where
  run : ∀ (w : World) (ps : List (Nat × Value)) (cells : Array Value), Instr.fill pl z.toArray ps = some cells → (Instr.build T ps.toArray).run P w = .ok (.agg cells) w
class Place (pl : Nat → Option (Nat × Nat)) (i : Nat) (off n : outParam Nat) : Prop where
  eq : pl i = some (off, n)
def plArr (n : Nat) : Nat → Option (Nat × Nat) := fun i => some (i * n, n)
instance (n i : Nat) : Place (plArr n) i (i * n) n := ⟨rfl⟩
class Fills (pl : Nat → Option (Nat × Nat)) (cs : List Value) (ps : List (Nat × Value)) (out : outParam (List Value)) : Prop where
  eq : Instr.fill pl cs.toArray ps = some out.toArray
instance (pl : Nat → Option (Nat × Nat)) (cs : List Value) : Fills pl cs [] cs := ⟨rfl⟩
instance (pl : Nat → Option (Nat × Nat)) (cs cs' out new : List Value) (i off n : Nat) (v : Value) (ps : List (Nat × Value)) [hp : Place pl i off n] [hv : VCells v new] [hn : Row new n] [hs : SetAt cs off new cs'] [hf : Fills pl cs' ps out] : Fills pl cs ((i, v) :: ps) out := by
  have hl := hn.len
  have hfit := hs.fit
  refine ⟨?_⟩
  rw [fill_one pl _ i v ps off n hp.eq (by rw [hv.eq]; simpa using hl) (by simp; omega), ← hf.eq, hs.eq, hv.eq]
  simp [hl]
theorem row_one {v : Value} (h : v.oneCell' = true) : Row [v] 1 := ⟨rfl, by simpa using h⟩
instance (k : IntKind) (n : Int) : Row [.int k n] 1 := row_one rfl
instance (b : Bool) : Row [.bool b] 1 := row_one rfl
instance (s : ByteArray) : Row [.string s] 1 := row_one rfl
instance (p : Option Addr) : Row [.pointer p] 1 := row_one rfl
instance (A : Option Addr) (n c : Nat) : Row [.slice A n c] 1 := row_one rfl
instance : Row [.nilIface] 1 := row_one rfl
instance (t : TypeId) (v : Value) : Row [.iface t v] 1 := row_one rfl
instance : Row [.nilFunc] 1 := row_one rfl
instance (f : Fn) (c d : Array Value) : Row [.func f c d] 1 := row_one rfl
instance : Row [] 0 := ⟨rfl, by simp⟩
instance (priority := 50) (v : Value) (l : List Value) (n : Nat) [h : Row [v] 1] [k : Row l n] : Row (v :: l) (n + 1) := ⟨by simp [k.len], fun u hu => (List.mem_cons.1 hu).elim (fun e => h.one u (by simp [e])) (k.one u)⟩
instance (priority := 50) (cs new : List Value) (n : Nat) [h : Row cs n] [k : Row new n] : SetAt cs 0 new new := .whole (by rw [h.len, k.len])
instance (priority := 50) (cs : List Value) (n : Nat) [h : Row cs n] : RowAt cs 0 n cs := .whole h.len
instance (priority := 40) (cs : List Value) : RowAt cs 0 0 [] := ⟨fun j v hv => by simp at hv, rfl⟩
instance (priority := 40) (v : Value) (cs out : List Value) (n : Nat) [h : RowAt cs 0 n out] : RowAt (v :: cs) 0 (n + 1) (v :: out) := ⟨fun j u hu => by
  cases j with
  | zero => simpa using hu
  | succ j => have := h.at_ j u (by simpa using hu); rw [Nat.zero_add] at this ⊢; simpa using this, by simp [h.len]⟩
instance (priority := 40) (v : Value) (cs out : List Value) (off n : Nat) [h : RowAt cs off n out] : RowAt (v :: cs) (off + 1) n out := ⟨fun j u hu => by
  have := h.at_ j u hu
  rw [Nat.add_right_comm]; simpa using this, h.len⟩
/-- equality of two values of many cells -/
class TEq (P : Program) (T : TypeId) (xs ys : List Value) (p : outParam Bool) : Prop where
  eq : ∀ (w : World) (d : Nat), (Op.equalIn (d + 6) T (.agg xs.toArray) (.agg ys.toArray)).run P w = .ok p w
  guard : P.eqGuardType P.depth T = false
section
variable {P : Program} {a : Act} {w : World} {o : Oper}
theorem xBuild {T : TypeId} {z out : List Value} {pl : Nat → Option (Nat × Nat)} [hT : TB P T z pl] {l : List (Nat × Operand)} {ps : List (Nat × Value)} (ho : o.op = .build T l.toArray) (hp : (l.map fun p => (p.1, a.eval p.2)) = ps) [hf : Fills pl z ps out] :
    (execOp a.eval o).run P w = .ok (.value (.agg out.toArray)) w := ex_build ho ps hp (hT.run w ps _ hf.eq)
theorem xEql {T T' : TypeId} {x y : Operand} {xs ys : List Value} {p : Bool} (ho : o.op = .binOp .eql T x y T') (hx : a.eval x = .agg xs.toArray) (hy : a.eval y = .agg ys.toArray) [h : TEq P T xs ys p] :
    (execOp a.eval o).run P w = .ok (.value (.bool p)) w := ex_eql ho hx hy h.guard (by rw [run_eql_struct, h.eq w 9994]; rfl)
theorem xNeq {T T' : TypeId} {x y : Operand} {xs ys : List Value} {p : Bool} (ho : o.op = .binOp .neq T x y T') (hx : a.eval x = .agg xs.toArray) (hy : a.eval y = .agg ys.toArray) [h : TEq P T xs ys p] :
    (execOp a.eval o).run P w = .ok (.value (.bool (!p))) w := ex_neq ho hx hy h.guard (by rw [run_neq_struct, h.eq w 9994]; rfl)
end
section
variable {P : Program} {a : Act} {w : World} {o : Oper}
theorem xEqlP {T T' : TypeId} {x y : Operand} {xs ys : List Value} {q : Prop} [Decidable q] (ho : o.op = .binOp .eql T x y T') (hx : a.eval x = .agg xs.toArray) (hy : a.eval y = .agg ys.toArray) [h : TEq P T xs ys (decide q)] (hq : q) :
    (execOp a.eval o).run P w = .ok (.value (.bool true)) w := by have := xEql (w := w) ho hx hy (h := h); simpa [hq] using this
theorem xEqlN {T T' : TypeId} {x y : Operand} {xs ys : List Value} {q : Prop} [Decidable q] (ho : o.op = .binOp .eql T x y T') (hx : a.eval x = .agg xs.toArray) (hy : a.eval y = .agg ys.toArray) [h : TEq P T xs ys (decide q)] (hq : ¬ q) :
    (execOp a.eval o).run P w = .ok (.value (.bool false)) w := by have := xEql (w := w) ho hx hy (h := h); simpa [hq] using this
theorem xNeqP {T T' : TypeId} {x y : Operand} {xs ys : List Value} {q : Prop} [Decidable q] (ho : o.op = .binOp .neq T x y T') (hx : a.eval x = .agg xs.toArray) (hy : a.eval y = .agg ys.toArray) [h : TEq P T xs ys (decide q)] (hq : q) :
    (execOp a.eval o).run P w = .ok (.value (.bool false)) w := by have := xNeq (w := w) ho hx hy (h := h); simpa [hq] using this
theorem xNeqN {T T' : TypeId} {x y : Operand} {xs ys : List Value} {q : Prop} [Decidable q] (ho : o.op = .binOp .neq T x y T') (hx : a.eval x = .agg xs.toArray) (hy : a.eval y = .agg ys.toArray) [h : TEq P T xs ys (decide q)] (hq : ¬ q) :
    (execOp a.eval o).run P w = .ok (.value (.bool true)) w := by have := xNeq (w := w) ho hx hy (h := h); simpa [hq] using this
end
/-! ### slices that are made and grow -/
section
variable {P : Program} {X : List Nat} {w0 w : World} {L L' : List Fc} {a : Act} {ops : Array Oper} {rest : List Oper} {Q : Exit → Act → World → Prop} {d : Option Tmp} {ty : TypeId} {pos : String} {af : Array Edge}
theorem append_where {base : Nat} {t ty e : TypeId} {i : TypeInfo} {z : Value} {size bytes : Nat} (ht : P.underlying t = some (.slice e)) (hi : P.info? e = some i) (hz : i.zero = some z)
    (hsize : i.size = size) (hby : i.bytes = bytes) {v : Value} {n : Nat} {xs : List Value} (hown : w.ownsRow base e size v n xs)
    {a : Addr} {m c : Nat} {news : List Value} (hl : news.length = m * size) (hnews : ∀ j u, news[j]? = some u → w.cell? (a.add j) = some u) (h1 : ∀ u ∈ news, u.oneCell' = true)
    (h63 : n + m ≤ maxLen) (hbytes : (n + m) * bytes ≤ 140737488355328) {v' : Value} {w' : World} (hr : (Builtin.append_ #[t, t] ty #[v, .slice (some a) m c]).run P w = .ok v' w') (hnil : v' = .slice none 0 0 ↔ v = .slice none 0 0 ∧ m = 0) :
    v'.ownBlock = v.ownBlock ∨ v'.ownBlock = some w.heap.size := by
  subst hsize hby
  have hsmall : n + m ≤ 9223372036854775807 := by simp only [maxLen] at h63; omega
  rcases hown.2 with ⟨rfl, rfl⟩ | ⟨g, cap, cur, rfl, hbg, hg, hnc, hcm, hcs, htake⟩
  · by_cases hm : m = 0
    · rw [hnil.2 ⟨rfl, hm⟩]; exact .inl rfl
    · have hr2 := run_append_nil (P := P) w t ty e i z ht hi hz a m c news hl hnews (by omega) (by omega) (by have hb := hbytes; simp only [Nat.zero_add] at hb; omega)
      rw [hr2] at hr
      injection hr with hr _
      rw [← hr]
      exact .inr rfl
  · by_cases hroom : n + m ≤ cap
    · have hfit : n * i.size + news.length ≤ cur.size := by rw [hl, hcs, ← Nat.add_mul]; exact Nat.mul_le_mul_right _ hroom
      have hr2 := run_append_room (P := P) w t ty e i ht hi g n cap cur hg a m c news hl hnews h1 hroom hfit
      rw [hr2] at hr
      injection hr with hr _
      rw [← hr]
      exact .inl rfl
    · have holds : ∀ j u, xs[j]? = some u → w.cell? ((⟨g, 0, none⟩ : Addr).add j) = some u := hown.cells (g := g) rfl
      have hr2 := run_append_grow (P := P) w t ty e i z ht hi hz ⟨g, 0, none⟩ n cap xs hown.1 holds a m c news hl hnews (by omega) (by omega) (growslice_fits (by omega) hbytes)
      rw [hr2] at hr
      injection hr with hr _
      rw [← hr]
      exact .inr rfl
theorem xAppend {o : Oper} {s x : Operand} {t e : TypeId} {size bytes : Nat} {z : Value} (ho : o.op = .call { callee := .builtin .append, args := #[s, x], argTypes := #[t, t] }) (E : ElT P t e size bytes z)
    {base n : Nat} {v : Value} {xs : List Value} (hs : a.eval s = v) (hown : w.ownsRow base e size v n xs) {A : Option Addr} {m c : Nat} {news : List Value} (hx : a.eval x = .slice A m c) (hA : A = none → m = 0 ∧ c = 0) (hl : news.length = m * size) (hr : Rd w A news)
    (h1 : ∀ u ∈ news, u.oneCell' = true) (hb : (n + m) * bytes ≤ 140737488355328) (hbase : base ≤ w.heap.size) :
    ∃ v' w', (execOp a.eval o).run P w = .ok (.value v') w' ∧ w'.ownsRow base e size v' (n + m) (xs ++ news) ∧ w.grownBy w' v.ownBlock ∧ (v'.ownBlock = v.ownBlock ∨ v'.ownBlock = some w.heap.size) := by
  obtain ⟨i, hi, hz, hsz, hby⟩ := info_parts E.hi
  have hnm : n + m ≤ maxLen := by
    have : n + m ≤ (n + m) * bytes := Nat.le_mul_of_pos_right _ E.hb
    unfold maxLen
    omega
  cases A with
  | none =>
    obtain ⟨rfl, rfl⟩ := hA rfl
    have hn0 : news = [] := List.eq_nil_of_length_eq_zero (by simpa using hl)
    subst hn0
    have hrun := run_append_owned_none (P := P) w base t o.type e i size E.ht hi v n xs hown
    refine ⟨v, w, ?_, by simpa using hown, World.grownBy.refl _ _, .inl rfl⟩
    unfold execOp
    simp only [ho, resolve, invoke, builtin, Sem.run_bind, Sem.run_pure, Result.andThen_ok, List.map_toArray, List.map_cons, List.map_nil, hs, hx, hrun]
  | some ad =>
    have hnews : ∀ j u, news[j]? = some u → w.cell? (ad.add j) = some u := fun j u hu => by
      obtain ⟨b, o', e, hc⟩ := hr j u hu
      obtain rfl := Option.some.inj e
      rw [Addr.add_mid]
      exact hc
    obtain ⟨v', w', hrun, h2, h3, h4⟩ := run_append_own (P := P) w base t o.type e i z size bytes E.ht hi hz hsz hby E.hz E.h0 v n xs hown ad m c news hl hnews h1 hnm hb hbase
    refine ⟨v', w', ?_, h2, h3, append_where E.ht hi hz hsz hby hown hl hnews h1 hnm hb hrun h4⟩
    unfold execOp
    simp only [ho, resolve, invoke, builtin, Sem.run_bind, Sem.run_pure, Result.andThen_ok, List.map_toArray, List.map_cons, List.map_nil, hs, hx, hrun]
theorem St.grow (h : St X w0 w L) {w' : World} {v v' : Value} {n n' : Nat} {e : TypeId} {size : Nat} {xs xs' : List Value} (hr : Repl (.own v n e size xs) (.own v' n' e size xs') L L') (hw : w'.ownsRow w0.heap.size e size v' n' xs') (hg : w.grownBy w' v.ownBlock)
    (hwh : v'.ownBlock = v.ownBlock ∨ v'.ownBlock = some w.heap.size) : St X w0 w' L' := by
  -- where v' stands in a block of its own, that block is new: every fact stands apart from it
  rcases hwh with h1 | h1
  · refine h.turn hr rfl (fun k hk => by show v.ownBlock = some k; rw [← h1]; exact hk) hw hg.os hg.tape hg.output hg.size fun k hk hne => hg.block k hk fun e => hne e.symm
  · have hsep : ∀ {M M' : List Fc}, Repl (.own v n e size xs) (.own v' n' e size xs') M M' → (∀ f ∈ M, f ∈ L) → M.Pairwise Fc.sep → M'.Pairwise Fc.sep := by
      intro M M' hM
      induction hM with
      | head =>
        intro hL hp
        obtain ⟨h2, h3⟩ := List.pairwise_cons.1 hp
        refine List.pairwise_cons.2 ⟨fun g hg' _ k a b => ?_, h3⟩
        have a' : v'.ownBlock = some k := a
        rw [h1] at a'
        have hlt := Fc.bound (h.ok g (hL g (List.mem_cons_of_mem _ hg'))) b
        injection a' with a'
        omega
      | tail hM ih =>
        intro hL hp
        obtain ⟨h2, h3⟩ := List.pairwise_cons.1 hp
        refine List.pairwise_cons.2 ⟨fun g hg' => ?_, ih (fun f hf => hL f (List.mem_cons_of_mem _ hf)) h3⟩
        rcases hM.old g hg' with rfl | ⟨h5, _⟩
        · intro _ k a b
          have b' : v'.ownBlock = some k := b
          rw [h1] at b'
          have hlt := Fc.bound (h.ok _ (hL _ (List.mem_cons_self ..))) a
          injection b' with b'
          omega
        · exact h2 g h5
    have hfr := h.fresh _ hr.mem rfl
    refine ⟨⟨hg.os.trans h.bel.os, hg.tape.trans h.bel.tape, hg.output.trans h.bel.output, Nat.le_trans h.size hg.size, fun k hlt hX => ?_⟩, fun f hf => ?_, hsep hr (fun _ h => h) h.sep, fun f hf hfw k hk => ?_⟩
    · refine (hg.block k (Nat.lt_of_lt_of_le hlt h.size) fun e => ?_).trans (h.bel.block k hlt hX)
      rcases hfr k e.symm with h2 | h2
      · omega
      · exact hX h2
    · rcases hr.old f hf with rfl | ⟨h3, h4⟩
      · exact hw
      · refine Fc.kept (h.ok f h3) hg.size fun k hk => hg.block k (Fc.bound (h.ok f h3) hk) fun e => ?_
        rcases h4 h.sep with h5 | h5
        · exact h5 (by rw [Bool.or_eq_true]; exact .inr rfl) k hk e.symm
        · exact h5
    · rcases hr.old f hf with rfl | ⟨h3, _⟩
      · have hk' : v'.ownBlock = some k := hk
        rw [h1] at hk'
        injection hk' with hk'
        exact .inl (by have := h.size; omega)
      · exact h.fresh f h3 hfw k hk
/-- append to a row of one's own -/
theorem sAppend {L' : Value → List Fc} {t e : TypeId} {size bytes : Nat} {z : Value} [E : TS P t e size bytes z] {s x : Operand} {n m c : Nat} {v : Value} {xs news : List Value} {A : Option Addr} (hS : St X w0 w L) (hx : a.eval x = .slice A m c) (hs : a.eval s = v)
    [hm : HasO v L n e size xs] (hrd : Rd w A news) [hr : ∀ v', RepO v v' n (n + m) e size xs (xs ++ news) L (L' v')] (hA : A = none → m = 0 ∧ c = 0) (hl : news.length = m * size) (h1 : ∀ u ∈ news, u.oneCell' = true) (hb : (n + m) * bytes ≤ 140737488355328)
    (h : ∀ v' w', St X w0 w' (L' v') → wpList P ops Q rest (a.put d v') w') : wpList P ops Q (⟨d, .call { callee := .builtin .append, args := #[s, x], argTypes := #[t, t] }, ty, pos, af, none⟩ :: rest) a w := by
  obtain ⟨v', w', hrun, h2, h3, h4⟩ := xAppend (o := ⟨d, .call { callee := .builtin .append, args := #[s, x], argTypes := #[t, t] }, ty, pos, af, none⟩) rfl E.el hs (hS.own hm.mem) hx hA hl hrd h1 hb hS.size
  exact wpl_run rfl hrun (h v' w' (hS.grow (hr v').rep h2 h3 h4))
end
end Go.Proofs.Ythinpbgbnlohpaa
