/- joined texts -/
import Derived.Test.YtjhlbbgikccclaaGreatDoorF2
import Derived.ProofKit
import Derived.OrdersHeld
set_option linter.all false
namespace Go.Proofs.YtjhlbbgikccclaaGreatDoor
section
open Go.RowKit Go.ChangeShapes Go.WideShapes
section
variable {H : Type} {enc : TypeId × Value → H} {P : Program} {w : World} {base : Nat} {spare : Nat → Bool} {held : Bool} {v : Value} {d : DataW H} {ps : List MemPlace} {r : Reach} {b0 : Nat} {t e : TypeId}
theorem Qjv {k : IntKind} (ht : P.underlying t = some (.int k)) (hval : Value.okWide P w r b0 t v) (hd : DataW.Trod enc P w base spare held t v d ps) : ∃ n : Int, v = .int k n ∧ (Lit.int k n).wf = true := by
 obtain ⟨n, h1, _, _, h2⟩ := open_int ht hval hd
 exact ⟨n, h1, h2⟩
end
theorem QmO {P : Program} {w : World} {fuel T e : Nat} {n : Nat} {cs : List Value} {l : List Nat} {ps : List MemPlace} (ht : P.underlying T = some (.array n e)) (he : P.underlying e = some (.int .u32)) (hce : P.cellsOf e = 1) (hcT : P.cellsOf T = n)
  {base : Nat} {spare : Nat → Bool} {held : Bool} {enc : TypeId × Value → Unit} (h : DataW.trod enc P w base spare held fuel T cs = some (.agg (l.map fun k : Nat => DataW.lit (.int .u32 (k : Int))), ps)) : cs = l.map fun k : Nat => Value.int .u32 (k : Int) := by
 obtain ⟨xs, m, -, hx1, hl, hxl, hx⟩ := DataW.trod_array ht h
 rw [hcT] at hl
 injection hx1 with hx1 _
 injection hx1 with hx1
 apply List.ext_getElem?
 intro i
 by_cases hi : i < n
 ·have h1 := hx i hi
  rw [hce, Nat.mul_one, List.getElem?_eq_getElem (by omega)] at h1
  obtain ⟨k, e1, e2, _⟩ := DataW.trod_int he h1
  have h2 := congrArg (fun z => z[i]?) hx1
  simp only [List.getElem?_map] at h2
  rw [List.getElem?_eq_getElem (l := xs) (by omega), e2] at h2
  have h3 := congrArg (fun z => z[0]?) e1
  simp only [List.getElem?_take, List.getElem?_drop] at h3
  simp only [List.getElem?_map]
  cases hli : l[i]? with
  | none => rw [hli] at h2; cases h2
  | some q =>
   rw [hli] at h2
   simp only [Option.map_some, Option.some.injEq, DataW.lit.injEq, Lit.int.injEq, true_and] at h2
   have h4 : cs[i]? = some (.int .u32 k) := by simpa using h3
   rw [h4, ← h2]
   rfl
 have hlx : l.length = xs.length := by simpa using (congrArg List.length hx1)
 rw [List.getElem?_eq_none (by omega), List.getElem?_eq_none (by simp; omega)]
end
section
open Go.RowKit
section
variable {P : Program} {A : List Fa} {W : World} {n : Nat} {D : List Deferred} {E : Env} {L M : List Fa} {T : TypeId} {x y : Operand}
theorem Q0 {cs : List Value} [TZ P T cs] : JO P A W n D E L (.alloc T) (fun g : Nat => .pointer (some ⟨g, 0, none⟩)) (fun g => .blk g cs T :: L) := fun a w ka s o ho => ⟨_, _, Qq9 ho, s.alloc cs T⟩
theorem Q9 {cs : List Value} (hx : ev E x = some (.agg cs.toArray)) : JO P A W n D E L (.box T x) (fun g : Nat => .pointer (some ⟨g, 0, none⟩)) (fun g => .blk g cs T :: L) := fun a w ka s o ho => ⟨_, _, QqA ho (ka.ev hx) rfl, s.alloc cs T⟩
theorem JW {v : Value} (hx : ev E x = some v) (hv : v.cells = #[v] := by rfl) : JO P A W n D E L (.box T x) (fun g : Nat => .pointer (some ⟨g, 0, none⟩)) (fun g => .blk g [v] T :: L) := fun a w ka s o ho => ⟨_, _, QqA (cs := [v]) ho (ka.ev hx) hv, s.alloc [v] T⟩
theorem qC {w : World} {g e size m c : Nat} {cs xs : List Value} (hb : w.heap[g]? = some (.cells cs.toArray e (0, 0))) (hx : xs.length = m * size) (hm : m ≤ c) (hc : c ≤ maxLen) (hl : cs.length = c * size) (ht : cs.take (m * size) = xs) : w.ownsRow 0 e size (.slice (some ⟨g, 0, none⟩) m c) m xs :=
 ⟨hx, .inr ⟨g, c, cs.toArray, rfl, Nat.zero_le _, hb, hm, hc, by simpa using hl, by simpa using ht⟩⟩
theorem Sx.blkOwn {w : World} {g e size m c : Nat} {cs xs : List Value} (h : Sx A W w (.blk g cs e :: L)) (hx : xs.length = m * size) (hm : m ≤ c) (hc : c ≤ maxLen) (hl : cs.length = c * size) (ht : cs.take (m * size) = xs) : Sx A W w (.own (.slice (some ⟨g, 0, none⟩) m c) m e size xs :: L) := by
 have hb : w.heap[g]? = some (.cells cs.toArray e (0, 0)) := h.ok (.blk _ _ _) (List.mem_cons_self ..)
 exact h.turn rfl (fun k hk => .inl (show k = g by have : some g = some k := hk; injection this with this; exact this.symm)) (qC hb hx hm hc hl ht) rfl rfl rfl (Nat.le_refl _) (fun _ _ _ => rfl)
theorem J8 {t e m sz bytes : Nat} {z : Value} [E' : TS P t e sz bytes z] {l : List (Nat × Operand)} {ps : List (Nat × Value)} {out : List Value} {q : Nat} (hv : evp E l = some ps) (hl : ps.length = m) [hf : Parts sz 0 ps out] [ho : Row out q] (hq : m * sz = q := by rfl) (h0 : 0 < m ∧ m * sz ≤ 16777216 := by decide) :
  JO P A W n D E L (.buildSlice t m l.toArray) (fun g : Nat => .slice (some ⟨g, 0, none⟩) m m) (fun g => .own (.slice (some ⟨g, 0, none⟩) m m) m e sz out :: L) := fun a w ka s o hop => by
 obtain ⟨j, hi', hz, hsz, hby⟩ := info_parts E'.el.hi
 have hp : (l.toArray.map fun (x : Nat × Operand) => match x with | (i, x) => (i, a.eval x)).toList = ps := by
  rw [← ka.evp hv]
  simp
 have hs0 := E'.el.h0
 have hpos := Nat.mul_pos h0.1 hs0
 have hmm : m ≤ m * sz := Nat.le_mul_of_pos_right _ hs0
 have hcells : Instr.fill (fun i => some (i * j.size, j.size)) ((Array.range (m * j.size)).map (z.cells[· % z.cells.size]!)) (l.toArray.map fun (x : Nat × Operand) => match x with | (i, x) => (i, a.eval x)).toList = some out.toArray := by
  rw [hp, hsz]
  have := hf.fill [] ((Array.range (m * sz)).map (z.cells[· % z.cells.size]!)).toList (by simp) (by simp [hl])
  rw [List.nil_append, Array.toArray_toList, List.nil_append] at this
  exact this
 have hrun := run_buildSlice (P := P) w t e m (l.toArray.map fun (x : Nat × Operand) => match x with | (i, x) => (i, a.eval x)) out.toArray j z E'.el.ht hi' hz (by rw [hsz]; omega) (by rw [hsz]; omega) hcells
 refine ⟨w.heap.size, _, ?_, (s.alloc out e).blkOwn (ho.len.trans hq.symm) (Nat.le_refl _) (by unfold maxLen; omega) (ho.len.trans hq.symm) (by rw [hq, ← ho.len, List.take_length])⟩
 unfold execOp
 simp only [hop, Sem.run_bind, hrun, Result.andThen_ok]
 rfl
theorem Qhr {t e sz bytes : Nat} {z : Value} [E' : TS P t e sz bytes z] {xs : List Value} (hxs : xs = [] := by exact rfl) : JO P A W n D E L (.buildSlice t 0 #[]) (fun g : Nat => .slice (some ⟨g, 0, none⟩) 0 0) (fun g => .own (.slice (some ⟨g, 0, none⟩) 0 0) 0 e sz xs :: L) := fun a w ka s o hop => by
 subst hxs
 obtain ⟨j, hi', hz, hsz, hby⟩ := info_parts E'.el.hi
 refine ⟨w.heap.size, _, ?_, (s.alloc [] e).blkOwn (by simp) (Nat.le_refl _) (by unfold maxLen; omega) (by simp) (by simp)⟩
 unfold execOp
 simp [hop, Instr.buildSlice, run_underlying E'.el.ht, sizeOf, typeInfo, hi', Instr.fill, newRow, show Array.range 0 = #[] from by decide]
theorem Sx.grow {w w' : World} {v v' : Value} {N N' e size : Nat} {xs xs' : List Value} (h : Sx A W w (.own v N e size xs :: L)) (hw : w'.ownsRow 0 e size v' N' xs') (hg : w.grownBy w' v.ownBlock) (hwh : v'.ownBlock = v.ownBlock ∨ v'.ownBlock = some w.heap.size) : Sx A W w' (.own v' N' e size xs' :: L) := by
 refine h.turn rfl (fun k hk => ?_) hw hg.os hg.tape hg.output hg.size fun k hk hn => hg.block k hk fun e => hn e.symm
 have hk' : v'.ownBlock = some k := hk
 rcases hwh with h1 | h1
 ·exact .inl (show v.ownBlock = some k by rw [← h1]; exact hk')
 rw [h1] at hk'
 injection hk' with hk'
 exact .inr (by omega)
theorem Ju {K : Act → World → Prop} (e size : Nat) {xs : List Value} (hx : xs = []) (h : H A W n D E (.own (.slice none 0 0) 0 e size xs :: L) K) : H A W n D E L K := by
 subst hx
 exact h_L (fun w s => s.cons (f := .own (.slice none 0 0) 0 e size []) (World.ownsRow_nil w _ e size) (fun g _ _ k hk _ => by cases hk) (fun _ k hk => by cases hk)) h
theorem Qhs {e size bytes : Nat} {z : Value} [E' : TS P T e size bytes z] {c : Nat} {i j : Int} (hx : ev E x = some (.int .i64 i)) (hy : ev E y = some (.int .i64 j)) [h1 : NatOf i c] [h2 : NatOf j c] (hb : c * bytes ≤ 281474976710656 := by omega) :
  JO P A W n D E L (.makeSlice T x y) (fun g : Nat => .slice (some ⟨g, 0, none⟩) c c) (fun g => .own (.slice (some ⟨g, 0, none⟩) c c) c e size (madeCells z.cells (c * size)).toList :: L) := fun a w ka s o hop => by
 obtain ⟨t, hi, hz, hsz, hby⟩ := info_parts E'.el.hi
 have hbp := E'.el.hb
 have hz1 := E'.el.hz
 obtain rfl := h1.eq
 obtain rfl := h2.eq
 subst hby hsz
 have hc : c ≤ c * t.bytes := Nat.le_mul_of_pos_right _ hbp
 have hb' : (t.bytes : Int) * (c : Int) ≤ 281474976710656 := by
  have : ((t.bytes * c : Nat) : Int) ≤ 281474976710656 := by rw [Nat.mul_comm]; omega
  rwa [Int.natCast_mul] at this
 have hrun := run_make (P := P) w T e t z E'.el.ht hi hz .i64 .i64 c c (by omega) (Int.le_refl _) hb' (by omega)
 simp only [Int.toNat_natCast] at hrun
 have hS' := s.alloc (madeCells z.cells (c * t.size)).toList e
 rw [Array.toArray_toList] at hS'
 have hlen : (madeCells z.cells (c * t.size)).toList.length = c * t.size := by simp [madeCells]
 refine ⟨w.heap.size, _, ?_, hS'.blkOwn hlen (Nat.le_refl _) (by unfold maxLen; omega) hlen (List.take_of_length_le (by rw [hlen]; exact Nat.le_refl _))⟩
 unfold execOp
 simp only [hop, ka.ev hx, ka.ev hy]
 rw [Sem.run_bind, hrun]
 rfl
theorem QoZ {e size bytes : Nat} {z : Value} [E' : TS P T e size bytes z] {c : Nat} {j : Int} (hx : ev E x = some (.int .i64 0)) (hy : ev E y = some (.int .i64 j)) [h2 : NatOf j c] (hb : c * bytes ≤ 281474976710656 := by omega) :
  JO P A W n D E L (.makeSlice T x y) (fun g : Nat => .slice (some ⟨g, 0, none⟩) 0 c) (fun g => .own (.slice (some ⟨g, 0, none⟩) 0 c) 0 e size [] :: L) := fun a w ka s o hop => by
 obtain ⟨t, hi, hz, hsz, hby⟩ := info_parts E'.el.hi
 have hbp := E'.el.hb
 obtain rfl := h2.eq
 subst hby
 have hc : c ≤ c * t.bytes := Nat.le_mul_of_pos_right _ hbp
 obtain ⟨w', hrun, h2, h3⟩ := run_make_own (P := P) w 0 T e t z size E'.el.ht hi hz hsz .i64 .i64 c (by rw [Nat.mul_comm]; exact hb) (by unfold maxLen; omega) (Nat.zero_le _)
 have hb2 : Below w.heap.size w w' := ⟨h3.os, h3.tape, h3.output, h3.size, fun k hk => h3.block k hk (by simp)⟩
 refine ⟨w.heap.size, w', ?_, (s.call hb2).cons h2 ?_ ?_⟩
 ·unfold execOp
  simp only [hop, ka.ev hx, ka.ev hy]
  rw [Sem.run_bind, hrun]
  rfl
 ·intro g hg _ k hk hk'
  have hk2 : some w.heap.size = some k := hk
  injection hk2 with hk2
  have := Fa.bound (s.ok g hg) hk'
  omega
 intro _ k hk
 have hk2 : some w.heap.size = some k := hk
 injection hk2 with hk2
 exact .inl (by have := s.size; omega)
theorem Qgt (c : Nat) : (madeCells (Value.int .u8 0).cells (c * 1)).toList = bc (List.replicate c 0) := Qjt c
theorem Sx.put {w w' : World} {g : Nat} {cs cs' : List Value} {T : TypeId} (h : Sx A W w (.blk g cs T :: L)) (hb : w'.heap[g]? = some (.cells cs'.toArray T (0, 0))) (hbel : ∀ B w0, Below B w0 w → B ≤ g → Below B w0 w')
  (hsz : w'.heap.size = w.heap.size) (hk : ∀ k, k ≠ g → w'.heap[k]? = w.heap[k]?) : Sx A W w' (.blk g cs' T :: L) := by
 have h0 := hbel 0 w (Below.refl _ _) (Nat.zero_le _)
 exact h.turn rfl (fun k hk => .inl hk) hb h0.os h0.tape h0.output (by omega) fun k _ hne => hk k hne
theorem Qac {o : Oper} {a : Act} {w : World} {T T' : TypeId} [hT : TOne P T] {g off : Nat} {cs : List Value} {v : Value} (hop : o.op = .store T x y) (hp : a.eval x = .pointer (some ⟨g, off, none⟩)) (hx : a.eval y = v) (hv : v.oneCell' = true) (hb : w.heap[g]? = some (.cells cs.toArray T' (0, 0))) (hf : off < cs.length) :
  (execOp a.eval o).run P w = .ok .skip (w.setCell ⟨g, off, none⟩ v) := by
 obtain ⟨hcell, hfz⟩ := QaR hb
 obtain ⟨j, hj, hjs⟩ := Option.map_eq_some_iff.1 hT.size
 have hone : v.cells = #[v] := by cases v <;> first | rfl | simp [Value.oneCell'] at hv
 have hst : (store (⟨g, off, none⟩ : Addr) v).run P w = .ok () (w.setCell ⟨g, off, none⟩ v) := by
  have hcl : w.cell? ⟨g, off, none⟩ = some (cs[off]'hf) := by rw [hcell]; simp [hf]
  cases v <;> first | (simp [Value.oneCell'] at hv; done) | simp [store, Sem.run, hcl, hfz]
 have hrun : (storeVar T ⟨g, off, none⟩ v).run P w = .ok () (w.setCell ⟨g, off, none⟩ v) := by
  simp [storeVar, hone, sizeOf, typeInfo, hj, hjs, storeCells, Addr.add, hst]
 unfold execOp
 simp only [hop, hp, hx, Instr.storeAt, Instr.sureAddr, Sem.run_bind, Sem.run_pure, Result.andThen_ok, hrun]
theorem QV {T' g off : Nat} [hT : TOne P T] {cs cs' : List Value} {v : Value} (hp : ev E x = some (.pointer (some ⟨g, off, none⟩))) (hx : ev E y = some v) (hv : v.oneCell' = true) [hm : TakeB g L cs T' M] [hs : SetAt cs off [v] cs'] : Vj P A W n D E L (.store T x y) (.blk g cs' T' :: M) := fun a w ka s o hop => by
 have h2 := s.perm hm.perm
 have hb : w.heap[g]? = some (.cells cs.toArray T' (0, 0)) := h2.ok (.blk _ _ _) (List.mem_cons_self ..)
 have hf := hs.fit
 simp only [List.length_singleton] at hf
 refine ⟨_, Qac hop (ka.ev hp) (ka.ev hx) hv hb (by omega), h2.put ?_ (fun B w0 hB hg => hB.setCell hg v) (by simp) (fun k hk => heap_setCell_other w _ k v hk)⟩
 rw [heap_setCell_same w g off _ T' v hb, hs.eq, List.setIfInBounds_toArray, List.length_singleton, List.set_eq_take_append_cons_drop, if_pos (by omega)]
 simp
theorem Qpm {T' g off : Nat} [hT : TOne P T] {cs cs' : List Value} {v : Value} (hp : ev E x = some (.pointer (some ⟨g, off, none⟩))) (hx : ev E y = some v) (hv : v.oneCell' = true) [hm : TakeB g L cs T' M] (hf : off < cs.length) (hs : cs.set off v = cs') : Vj P A W n D E L (.store T x y) (.blk g cs' T' :: M) := fun a w ka s o hop => by
 have h2 := s.perm hm.perm
 have hb : w.heap[g]? = some (.cells cs.toArray T' (0, 0)) := h2.ok (.blk _ _ _) (List.mem_cons_self ..)
 refine ⟨_, Qac hop (ka.ev hp) (ka.ev hx) hv hb hf, h2.put ?_ (fun B w0 hB hg => hB.setCell hg v) (by simp) (fun k hk => heap_setCell_other w _ k v hk)⟩
 rw [heap_setCell_same w g off _ T' v hb, List.setIfInBounds_toArray, hs]
theorem Qw {T' g off m : Nat} [hT : TRow P T m] {cs new cs' : List Value} (hp : ev E x = some (.pointer (some ⟨g, off, none⟩))) (hx : ev E y = some (.agg new.toArray)) [hm : TakeB g L cs T' M] [hn : Row new m] [hs : SetAt cs off new cs'] : Vj P A W n D E L (.store T x y) (.blk g cs' T' :: M) := fun a w ka s o hop => by
 have h2 := s.perm hm.perm
 have hb : w.heap[g]? = some (.cells cs.toArray T' (0, 0)) := h2.ok (.blk _ _ _) (List.mem_cons_self ..)
 have hrun := Qau (P := P) (a := a) (o := o) hop (ka.ev hp) (ka.ev hx) hb (by rw [hn.len]; exact hT.size) (by simpa using hs.fit) hn.one
 refine ⟨_, hrun, h2.put ?_ (fun B w0 hB hg => below_setRow hB hg _) (by simp) (fun k hk => setRow_other w g k _ hk)⟩
 rw [setRow_heap w g _ _ T' _ hb, hs.eq]
theorem JT {w : World} {g N c e size : Nat} {xs : List Value} (h : w.ownsRow 0 e size (.slice (some ⟨g, 0, none⟩) N c) N xs) : ∃ cur : List Value, w.heap[g]? = some (.cells cur.toArray e (0, 0)) ∧ N ≤ c ∧ c ≤ maxLen ∧ cur.length = c * size ∧ cur.take (N * size) = xs := by
 obtain ⟨hl, h | ⟨g', cap, cur, e1, _, hb, h1, h2, h3, h4⟩⟩ := h
 ·cases h.1
 injection e1 with e1 _ e2
 injection e1 with e1
 injection e1 with e1 _
 subst e1 e2
 exact ⟨cur.toList, by simpa using hb, h1, h2, by simpa using h3, h4⟩
theorem Qhg {g N c e size off : Nat} [hT : TOne P T] {xs xs' : List Value} {v : Value} (hp : ev E x = some (.pointer (some ⟨g, off, none⟩))) (hx : ev E y = some v) (hv : v.oneCell' = true) [hm : TakeG g L N c e size xs M] (hf : off < xs.length) (hs : xs.set off v = xs') : Vj P A W n D E L (.store T x y) (.own (.slice (some ⟨g, 0, none⟩) N c) N e size xs' :: M) := fun a w ka s o hop => by
 have h2 := s.perm hm.perm
 have ho : w.ownsRow 0 e size (.slice (some ⟨g, 0, none⟩) N c) N xs := h2.ok (.own _ _ _ _ _) (List.mem_cons_self ..)
 obtain ⟨cur, hb, h3, h4, h5, h6⟩ := JT ho
 have hoff : off < cur.length := by rw [← h6, List.length_take] at hf; omega
 have hb' : (w.setCell ⟨g, off, none⟩ v).heap[g]? = some (.cells (cur.set off v).toArray e (0, 0)) := by
  rw [heap_setCell_same w g off _ e v hb, List.setIfInBounds_toArray]
 have hbl : Below 0 w (w.setCell ⟨g, off, none⟩ v) := (Below.refl 0 w).setCell (Nat.zero_le _) v
 refine ⟨_, Qac hop (ka.ev hp) (ka.ev hx) hv hb hoff, h2.turn rfl (fun k hk => .inl hk) (qC hb' (by rw [← hs, List.length_set]; exact ho.1) h3 h4 (by rw [List.length_set]; exact h5) (by rw [List.take_set, h6, hs])) hbl.os hbl.tape hbl.output hbl.size fun k _ hne => heap_setCell_other w _ k v fun e => hne (show some g = some k by rw [e])⟩
theorem Qe2 {g N c e size off m : Nat} [hT : TRow P T m] {xs new xs' : List Value} (hp : ev E x = some (.pointer (some ⟨g, off, none⟩))) (hx : ev E y = some (.agg new.toArray)) [hm : TakeG g L N c e size xs M] [hn : Row new m] (hf : off + m ≤ xs.length) (hs : xs.take off ++ new ++ xs.drop (off + m) = xs') : Vj P A W n D E L (.store T x y) (.own (.slice (some ⟨g, 0, none⟩) N c) N e size xs' :: M) := fun a w ka s o hop => by
 have h2 := s.perm hm.perm
 have ho : w.ownsRow 0 e size (.slice (some ⟨g, 0, none⟩) N c) N xs := h2.ok (.own _ _ _ _ _) (List.mem_cons_self ..)
 obtain ⟨cur, hb, h3, h4, h5, h6⟩ := JT ho
 have hxl : xs.length ≤ cur.length := by rw [← h6, List.length_take]; omega
 have hrun := Qau (P := P) (a := a) (o := o) hop (ka.ev hp) (ka.ev hx) hb (by rw [hn.len]; exact hT.size) (by rw [hn.len]; simp; omega) hn.one
 have hcut : ∀ k, k ≤ xs.length → cur.take k = xs.take k := fun k hk => by
  rw [← h6, List.take_take, Nat.min_eq_left (by rw [ho.1] at hk; exact hk)]
 have hl2 : (cur.take off ++ new ++ cur.drop (off + new.length)).length = cur.length := by simp [hn.len]; omega
 have hbl : Below 0 w (w.setRow g (cur.toArray.toList.take off ++ new ++ cur.toArray.toList.drop (off + new.length)).toArray) := below_setRow (Below.refl 0 w) (Nat.zero_le _) _
 have htk : (cur.take off ++ new ++ cur.drop (off + new.length)).take (N * size) = xs' := by
  rw [← hs, hn.len]
  have hlen := ho.1
  have e1 : N * size = (cur.take off ++ new).length + (xs.length - (off + m)) := by
   simp only [List.length_append, List.length_take, hn.len]
   omega
  rw [e1, List.take_length_add_append, hcut off (by omega)]
  congr 1
  rw [← List.drop_take, hcut _ (Nat.le_refl _), List.take_length]
 refine ⟨_, hrun, h2.turn rfl (fun k hk => .inl hk) (qC (setRow_heap w g _ _ e _ hb) (by rw [← hs]; simp [hn.len, ← ho.1]; omega) h3 h4 (by simpa [h5] using hl2) (by simpa using htk)) hbl.os hbl.tape hbl.output hbl.size fun k _ hne => setRow_other w g k _ fun e => hne (show some g = some k by rw [e])⟩
end
section
variable {P : Program} {n : Nat} {D : List Deferred} {E : Env} {L : List Fa} {T : TypeId} {x : Operand} {A : Option Addr} {N c l h : Nat} {i j : Int} {k k' : IntKind} {p q : Operand} {e size bytes : Nat} {z : Value}
theorem ZB [E' : TS P T e size bytes z] : (P.info? e).map (·.size) = some size := by
 obtain ⟨t, hi, _, hsz, _⟩ := info_parts E'.el.hi
 rw [hi, Option.map_some, hsz]
theorem Qan {b o : Nat} (hl : l < c) : cutA (some ⟨b, o, none⟩) c l size = some ⟨b, o + l * size, none⟩ := by
 unfold cutA
 rw [if_neg (by omega), Option.map_some, Addr.add_mid]
theorem Qb5 [E' : TS P T e size bytes z] (hx : ev E x = some (.slice A N c)) (hp : ev E p = some (.int k i)) [hi : NatOf i l] (hl : l ≤ N := by omega) : QM P n D E L (.slice T x (some p) none none) (.slice (cutA A c l size) (N - l) (c - l)) := fun a w ka s o ho => by
 obtain rfl := hi.eq
 have := Qrd (P := P) (w := w) ho E'.el.ht (ZB (E' := E')) (ka.ev hx) (ka.ev hp) (by omega) (by omega)
 simpa using this
theorem Qia [E' : TS P T e size bytes z] (hx : ev E x = some (.slice A N c)) (hq : ev E q = some (.int k j)) [hj : NatOf j h] (hl : h ≤ c := by omega) : QM P n D E L (.slice T x none (some q) none) (.slice (cutA A c 0 size) h c) := fun a w ka s o ho => by
 obtain rfl := hj.eq
 have := Qrc (P := P) (w := w) ho E'.el.ht (ZB (E' := E')) (ka.ev hx) (ka.ev hq) (by omega) (by omega)
 simpa using this
theorem Qqh [E' : TS P T e size bytes z] (hx : ev E x = some (.slice A N c)) (hp : ev E p = some (.int k i)) (hq : ev E q = some (.int k' j)) [hi : NatOf i l] [hj : NatOf j h] (hl : l ≤ h := by omega) (hh : h ≤ c := by omega) : QM P n D E L (.slice T x (some p) (some q) none) (.slice (cutA A c l size) (h - l) (c - l)) := fun a w ka s o ho => by
 obtain rfl := hi.eq
 obtain rfl := hj.eq
 have := QpD (P := P) (w := w) ho E'.el.ht (ZB (E' := E')) (ka.ev hx) (ka.ev hp) (ka.ev hq) (by omega) (by omega) (by omega)
 simpa using this
theorem Qez [E' : TS P T e size bytes z] {b O O' m c' : Nat} (hx : ev E x = some (.slice (some ⟨b, O, none⟩) N c)) (hp : ev E p = some (.int k i)) (hq : ev E q = some (.int k' j)) [hi : NatOf i l] [hj : NatOf j h] (hm : l + m = h := by omega) (hh : h ≤ c := by omega) (hlt : l < c := by omega) (hO : O + l * size = O' := by first | (simp only [Nat.zero_add, Nat.add_zero, Nat.mul_one, Nat.reduceMul, Nat.reduceAdd]; exact rfl) | exact rfl) (hc : c - l = c' := by rfl) :
  QM P n D E L (.slice T x (some p) (some q) none) (.slice (some ⟨b, O', none⟩) m c') := fun a w ka s o ho => by
 have hr := Qqh (P := P) (n := n) (D := D) (L := L) (T := T) hx hp hq (by omega) hh a w ka s o ho
 rw [Qan hlt, hO, hc, show h - l = m by omega] at hr
 exact hr
theorem QjF [E' : TS P T e size bytes z] {b O : Nat} {i1 i2 i3 : Int} {k1 k2 k3 : IntKind} {m : Nat} (w : World) (h1 : NatOf i1 l) (h2 : NatOf i2 h) (h3 : NatOf i3 m) (a1 : l ≤ h) (a2 : h ≤ m) (a3 : m ≤ c) (a4 : l < m) :
  (Instr.sliceAt T (.slice (some ⟨b, O, none⟩) N c) (some (.int k1 i1)) (some (.int k2 i2)) (some (.int k3 i3))).run P w = .ok (.slice (some ⟨b, O + l * size, none⟩) (h - l) (m - l)) w := by
 obtain rfl := h1.eq
 obtain rfl := h2.eq
 obtain rfl := h3.eq
 obtain ⟨t, hi, _, hsz, _⟩ := info_parts E'.el.hi
 have c1 : (0 : Int) ≤ (m : Int) ∧ (m : Int) ≤ (c : Int) := ⟨by omega, by omega⟩
 have c2 : (0 : Int) ≤ (h : Int) ∧ (h : Int) ≤ (m : Int) := ⟨by omega, by omega⟩
 have c3 : (0 : Int) ≤ (l : Int) ∧ (l : Int) ≤ (h : Int) := ⟨by omega, by omega⟩
 have hne : ¬ m = l := by omega
 unfold Instr.sliceAt
 simp only [Sem.run_bind, run_underlying E'.el.ht, Result.andThen_ok, Instr.slice, Instr.sliceBounds, Instr.sliceBound, asIntOf, Sem.run_pure, if_pos c1, if_pos c2, if_pos c3, Int.toNat_natCast, sizeOf, typeInfo, Option.isSome_some]
 simp [hi, hsz, hne, Addr.add_mid]
theorem Qom [E' : TS P T e size bytes z] {b O O' m N' c' : Nat} {r : Operand} {i3 : Int} {k3 : IntKind} (hx : ev E x = some (.slice (some ⟨b, O, none⟩) N c)) (hp : ev E p = some (.int k i)) (hq : ev E q = some (.int k' j)) (hr : ev E r = some (.int k3 i3)) [hi : NatOf i l] [hj : NatOf j h] [h3 : NatOf i3 m] (a1 : l ≤ h := by omega) (a2 : h ≤ m := by omega) (a3 : m ≤ c := by omega) (a4 : l < m := by omega)
  (hO : O + l * size = O' := by first | (simp only [Nat.zero_add, Nat.add_zero, Nat.mul_one, Nat.reduceMul, Nat.reduceAdd]; exact rfl) | exact rfl) (hN : h - l = N' := by first | (simp only [Nat.add_sub_cancel_left]; exact rfl) | exact rfl) (hc : m - l = c' := by first | (simp only [Nat.add_sub_cancel_left]; exact rfl) | exact rfl) : QM P n D E L (.slice T x (some p) (some q) (some r)) (.slice (some ⟨b, O', none⟩) N' c') := fun a w ka s o ho => by
 subst hO hN hc
 have := QjF (P := P) (T := T) (N := N) (b := b) (O := O) (k1 := k) (k2 := k') (k3 := k3) w hi hj h3 a1 a2 a3 a4
 unfold execOp
 simp only [ho, ka.ev hx, Option.map_some, ka.ev hp, ka.ev hq, ka.ev hr]
 rw [Sem.run_bind, this]
 rfl
end
end
section
open Go.RowKit
def noP (Q : Exit → Act → World → Prop) : Exit → Act → World → Prop
 | .panic _, _, _ => False
 | e, a, w => Q e a w
section
variable {P : Program} {ops : Array Oper} {Q : Exit → Act → World → Prop} {S : World → Prop} {ro : Option Nat}
def Qc9 (ops : Array Oper) : Nat → Nat → Nat → Bool
 | 0, _, _ => false
 | f + 1, j, i => match ops[j]? with
  | some o => o.after.any fun e => Region.binds .any e && (e.on == i || Qc9 ops f e.on i)
  | none => false
def Qcu (ops : Array Oper) (i : Nat) : Bool := match ops[i]? with
 | some o => match o.op with | .load .. => true | _ => false
 | none => false
def V2 (ops : Array Oper) (j : Nat) : Bool := (List.range ops.size).all fun i => !(Qcu ops i) || i == j || Qc9 ops 5 j i || Qc9 ops 5 i j
def qB (ops : Array Oper) (listed : Array Bool) : Prop := ∀ (k : Nat) (o : Oper), ops[k]? = some o → listed.getD k false = true → ∀ e ∈ o.after, Region.binds .any e = true → listed.getD e.on false = true
def Zv (ops : Array Oper) (listed : Array Bool) : Bool := (List.range ops.size).all fun k => !(listed.getD k false) || match ops[k]? with | some o => o.after.all fun e => !(Region.binds .any e) || listed.getD e.on false | none => true
theorem YL {listed : Array Bool} (h : Zv ops listed = true) : qB ops listed := fun k o ho hl e he hb => by
 have h1 := (List.all_eq_true.1 h) k (List.mem_range.2 (Array.getElem?_eq_some_iff.1 ho).1)
 rw [hl, ho] at h1
 simp only [Bool.not_true, Bool.false_or] at h1
 obtain ⟨q, hq, rfl⟩ := Array.mem_iff_getElem.1 he
 have h2 := (Array.all_eq_true.1 h1) q hq
 rw [hb] at h2
 simpa using h2
theorem Qfb {listed : Array Bool} {j : Nat} (h : qB ops listed) (hj : j ∈ Region.ready .any ops listed) : qB ops (listed.setIfInBounds j true) := fun k o ho hl e he hb => by
 have up : ∀ x, listed.getD x false = true → (listed.setIfInBounds j true).getD x false = true := fun x hx => by
  by_cases e2 : j = x
  ·subst e2
   rcases Nat.lt_or_ge j listed.size with h' | h'
   ·simp [h']
   simp [Array.getElem?_eq_none h'] at hx
  rw [getD_set_ne false e2]; exact hx
 refine up _ ?_
 by_cases e2 : j = k
 ·subst e2
  obtain ⟨_, oj, hoj, hall⟩ := mem_ready.1 hj
  obtain rfl := Option.some.inj (ho.symm.trans hoj)
  exact hall e he hb
 rw [getD_set_ne false e2] at hl
 exact h k o ho hl e he hb
theorem QaC {listed : Array Bool} (hcl : qB ops listed) : ∀ (f j i : Nat), listed.getD j false = true → Qc9 ops f j i = true → listed.getD i false = true
 | 0, _, _, _, h => by cases h
 | f + 1, j, i, hl, h => by
  unfold Qc9 at h
  cases ho : ops[j]? with
  | none => rw [ho] at h; cases h
  | some o =>
   rw [ho] at h
   obtain ⟨q, hq, h2⟩ := Array.any_eq_true.1 h
   simp only [Bool.and_eq_true, Bool.or_eq_true, beq_iff_eq] at h2
   have h3 := hcl j o ho hl _ (Array.getElem_mem hq) h2.1
   rcases h2.2 with h4 | h4
   ·rw [← h4]; exact h3
   exact QaC hcl f _ i h3 h4
theorem Qb6 {listed : Array Bool} (hcl : qB ops listed) {f j i : Nat} (hj : j ∈ Region.ready .any ops listed) (h : Qc9 ops f j i = true) : listed.getD i false = true := by
 obtain ⟨_, o, ho, hall⟩ := mem_ready.1 hj
 cases f with
 | zero => cases h
 | succ f =>
  unfold Qc9 at h
  rw [ho] at h
  obtain ⟨q, hq, h2⟩ := Array.any_eq_true.1 h
  simp only [Bool.and_eq_true, Bool.or_eq_true, beq_iff_eq] at h2
  have h3 := hall _ (Array.getElem_mem hq) h2.1
  rcases h2.2 with h4 | h4
  ·rw [← h4]; exact h3
  exact QaC hcl f _ i h3 h4
theorem Qc2 {listed : Array Bool} {i : Nat} (hi : i ∈ Region.ready .any ops listed) (h1 : listed.getD i false = true) : False := by
 have hi0 := (mem_ready.1 hi).1
 rcases Nat.lt_or_ge i listed.size with h' | h'
 ·simp [h'] at hi0 h1
  rw [hi0] at h1
  cases h1
 simp [Array.getElem?_eq_none h'] at h1
theorem Qf9 {listed : Array Bool} {i j : Nat} (hld : Qcu ops i = true) (hcl : qB ops listed) (hr : i ∈ Region.ready .any ops listed) (hj : j ∈ Region.ready .any ops listed) (hne : j ≠ i) : V2 ops j = false := by
 cases h : V2 ops j with
 | false => rfl
 | true =>
  obtain ⟨_, oi, hoi, _⟩ := mem_ready.1 hr
  have := (List.all_eq_true.1 h) i (List.mem_range.2 (Array.getElem?_eq_some_iff.1 hoi).1)
  rw [hld] at this
  simp only [Bool.not_true, Bool.false_or, Bool.or_eq_true, beq_iff_eq] at this
  rcases this with (h1 | h1) | h1
  ·exact (hne h1.symm).elim
  ·exact (Qc2 hr (Qb6 hcl hj h1)).elim
  exact (Qc2 hj (Qb6 hcl hr h1)).elim
def QeP (ro : Option Nat) (P : Program) (ops : Array Oper) (Q : Exit → Act → World → Prop) (S : World → Prop) : Nat → Array Bool → Act → World → Prop
 | 0, listed, a, w => Region.ready .any ops listed = [] ∧ Q .normal a w
 | fuel + 1, listed, a, w => (Region.ready .any ops listed = [] → Q .normal a w) ∧ ∀ i ∈ Region.ready .any ops listed, wpOpIn (FR ro) 0 P ops Q i (fun a' w' => (V2 ops i = false → S w → S w') ∧ QeP ro P ops Q S fuel (listed.setIfInBounds i true) a' w') a w
theorem VS : ∀ (fuel : Nat) (listed : Array Bool) (a : Act) (w : World), QeP ro P ops Q S fuel listed a w → wpAnyIn (FR ro) 0 P .any ops Q fuel listed a w
 | 0, _, _, _, h => h
 | fuel + 1, _, _, _, h => ⟨h.1, fun i hi => wpOpIn_mono (fun a' w' h' => VS fuel _ a' w' h'.2) (h.2 i hi)⟩
theorem ZM {i : Nat} {o : Oper} {v : Value} {a : Act} (hi : ops[i]? = some o) (hy : YieldsIf P ops S o v a) {K : Act → World → Prop} {w : World} (hS : S w) (h : K (a.put o.dst v) w) : wpOpIn (FR ro) 0 P ops Q i K a w := by
 unfold wpOpIn
 simp only [hi]
 rcases hy with ⟨hw, hv⟩ | ⟨hw, rfl⟩
 ·rw [hw, if_pos rfl]
  exact qu (hv w hS) h
 simp only [hw, Bool.false_eq_true, if_false]
 exact ⟨Vx, h⟩
theorem Qgi {o : Oper} {ρ : Operand → Value} (hnd : ∀ c, o.op ≠ .defer c) : o.semAt ro ρ = execOp ρ o := by
 cases ro with
 | none => rfl
 | some l => exact Oper.semAt_some l ρ o hnd
theorem QeA {j : Nat} {oi oj : Oper} {v : Value} (hj : ops[j]? = some oj) (hap : oi.apart ops oj = true) (hnd : ∀ c, oj.op ≠ .defer c)
  (hsi : ∀ cs b, oi.op ≠ .select cs b) (hsj : ∀ cs b, oj.op ≠ .select cs b) (hQ : ∀ c a w, ¬ Q (.panic c) a w) {K : Act → World → Prop} {a : Act} {w : World}
  (hy : YieldsIf P ops S oi v a) (h : wpOpIn (FR ro) 0 P ops Q j K (a.put oi.dst v) w) :
  wpOpIn (FR ro) 0 P ops Q j (fun a' w' => YieldsIf P ops S oi v a' ∧ K (a'.put oi.dst v) w') a w := by
 obtain ⟨h1, h2, h3⟩ := Oper.apart_spec hap
 have keep : ∀ (a : Act), YieldsIf P ops S oi v a → ∀ u, YieldsIf P ops S oi v (a.put oj.dst u) := fun a hy u =>
  hy.of_same (execOp_put oi hsi a oj.dst u h3) (wanted_put oi a oj.dst u h3)
 have keepD : ∀ d, YieldsIf P ops S oi v { a with defers := d :: a.defers } := fun d => hy.of_same rfl rfl
 unfold wpOpIn at *
 simp only [hj] at *
 rw [wanted_put oj a oi.dst v h1] at h
 split
 ·rename_i hw
  simp only [hw, if_true] at h
  unfold Oper.wpIn at *
  refine ⟨Vx, ?_⟩
  have h := h.2
  rw [Qgi hnd, execOp_put oj hsj a oi.dst v h1] at h
  rw [Qgi hnd]
  generalize (execOp a.eval oj).run P w = r at *
  cases r with
  | ok x w' =>
   cases x <;> simp only [Oper.uponIn] at h ⊢
   case value u => exact ⟨keep a hy u, by rw [← Act.put_comm a v u h2]; exact h⟩
   case skip => exact ⟨keep a hy _, by rw [← Act.put_comm a v undef h2]; exact h⟩
   case defer d =>
    refine ⟨keep _ (keepD d) _, ?_⟩
    rw [← Act.put_comm _ v undef h2, ← Act.put_defers]
    exact h
   case enter f args =>
    refine ⟨h.1, CallsIn.mono h.2 fun e w'' he => ?_⟩
    cases e with
    | returned u => exact ⟨keep a hy u, by rw [← Act.put_comm a v u h2]; exact he⟩
    | panicked c => exact (hQ _ _ _ he).elim
    | outgrown => exact he
   case row row args => exact ⟨h.1, RowsIn.mono h.2 fun u w'' he => ⟨keep a hy u, by rw [← Act.put_comm a v u h2]; exact he⟩⟩
   case round l f tmps assign body =>
    refine ⟨h.1, RoundIn.mono h.2 fun e w'' he => ?_⟩
    cases e with
    | returned u => exact ⟨keep a hy u, by rw [← Act.put_comm a v u h2]; exact he⟩
    | panicked c => exact (hQ _ _ _ he).elim
    | outgrown => exact he
  | halt x w' =>
   cases x <;> simp only [Oper.uponIn] at h ⊢
   case panic u => exact (hQ _ _ _ h).elim
 rename_i hw
 simp only [hw] at h
 exact ⟨Vx, keep a hy _, by rw [← Act.put_comm a v undef h2]; exact h.2⟩
def V5 (ops : Array Oper) : Bool := ops.all fun o => match o.op with | .defer .. => false | _ => true
theorem Qek (h : V5 ops = true) {j : Nat} {o : Oper} (ho : ops[j]? = some o) : ∀ c, o.op ≠ .defer c := by
 intro c hc
 obtain ⟨hlt, rfl⟩ := Array.getElem?_eq_some_iff.1 ho
 have := (Array.all_eq_true.1 h) j hlt
 rw [hc] at this
 cases this
theorem qH {Si : World → Prop} {i : Nat} {oi : Oper} {v : Value} (hSi : ∀ (listed : Array Bool) (j : Nat), qB ops listed → i ∈ Region.ready .any ops listed → j ∈ Region.ready .any ops listed → j ≠ i → ∀ w w', Si w → (V2 ops j = false → S w → S w') → Si w') (hi : ops[i]? = some oi) (hsel : ∀ (j : Nat) (o : Oper) cs b, ops[j]? = some o → o.op ≠ .select cs b) (hnd : V5 ops = true) (hQ : ∀ c a w, ¬ Q (.panic c) a w) :
  ∀ (fuel : Nat) (listed : Array Bool) (a : Act) (w : World), qB ops listed →
   (∀ j oj, ops[j]? = some oj → j ≠ i → listed.getD j true = false → (∀ e ∈ oj.after, Region.binds .any e = true → e.on ≠ i) → oi.apart ops oj = true) →
   i ∈ Region.ready .any ops listed → YieldsIf P ops Si oi v a → Si w →
   QeP ro P ops Q S fuel (listed.setIfInBounds i true) (a.put oi.dst v) w → QeP ro P ops Q S (fuel + 1) listed a w := by
 intro fuel
 induction fuel with
 | zero =>
  intro listed a w hcl _ hr hy hS H
  refine ⟨fun h => (by rw [h] at hr; cases hr), fun j hj => ?_⟩
  by_cases hji : j = i
  ·subst hji; exact ZM hi hy hS ⟨fun _ h => h, H⟩
  have := ready_mono hj hji
  rw [H.1] at this
  cases this
 | succ fuel ih =>
  intro listed a w hcl hfree hr hy hS H
  refine ⟨fun h => (by rw [h] at hr; cases hr), fun j hj => ?_⟩
  by_cases hji : j = i
  ·subst hji; exact ZM hi hy hS ⟨fun _ h => h, H⟩
  have h1 := H.2 j (ready_mono hj hji)
  obtain ⟨hjun, oj, hoj, hall⟩ := mem_ready.1 hj
  have hnot : ∀ e ∈ oj.after, Region.binds .any e = true → e.on ≠ i := fun e he hb heq => by
   have h1 := hall e he hb
   have h0 := (mem_ready.1 hr).1
   rw [heq] at h1
   rcases Nat.lt_or_ge i listed.size with h' | h'
   ·simp [h'] at h0 h1; rw [h0] at h1; cases h1
   simp [Array.getElem?_eq_none h'] at h1
  have h2 := QeA hoj (hfree j oj hoj hji hjun hnot) (Qek hnd hoj) (fun cs b => hsel i oi cs b hi) (fun cs b => hsel j oj cs b hoj) hQ hy h1
  have hfree' : ∀ k ok, ops[k]? = some ok → k ≠ i → (listed.setIfInBounds j true).getD k true = false →
    (∀ e ∈ ok.after, Region.binds .any e = true → e.on ≠ i) → oi.apart ops ok = true := fun k ok hk hki hun hno => by
   refine hfree k ok hk hki ?_ hno
   by_cases hjk : j = k
   ·subst hjk; exact hjun
   rw [getD_set_ne true hjk] at hun; exact hun
  refine wpOpIn_mono (fun a' w' h3 => ⟨h3.2.1, ih (listed.setIfInBounds j true) a' w' (Qfb hcl hj) hfree' (ready_mono hr (Ne.symm hji)) h3.1 (hSi listed j hcl hr hj hji w w' hS h3.2.1) ?_⟩) h2
  rw [Array.setIfInBounds_comm _ _ hji]
  exact h3.2.2
end
def HA (A : List Fa) (W : World) (n : Nat) (D : List Deferred) (ro : Option Nat) (P : Program) (ops : List Oper) (Q : Exit → Act → World → Prop) (Lb Lr : List Fa) (fuel : Nat) (listed : Array Bool) (E : Env) (L : List Fa) : Prop :=
 ∀ a w, Kn n D E a → Sx A W w L → (Sx A W w Lb ∧ Fx w Lr) → QeP ro P ops.toArray (noP Q) (fun w => Sx A W w Lb ∧ Fx w Lr) fuel listed a w
def HO (A : List Fa) (W : World) (n : Nat) (D : List Deferred) (ro : Option Nat) (P : Program) (ops : List Oper) (Q : Exit → Act → World → Prop) (Lb Lr : List Fa) (fuel : Nat) (listed : Array Bool) (E : Env) (L : List Fa) (i : Nat) : Prop :=
 ∀ a w, Kn n D E a → Sx A W w L → Fx w Lr → wpOpIn (FR ro) 0 P ops.toArray (noP Q) i (fun a' w' => (V2 ops.toArray i = false → (Sx A W w Lb ∧ Fx w Lr) → Sx A W w' Lb ∧ Fx w' Lr) ∧ QeP ro P ops.toArray (noP Q) (fun w => Sx A W w Lb ∧ Fx w Lr) fuel (listed.setIfInBounds i true) a' w') a w
section
variable {A : List Fa} {W : World} {n : Nat} {D : List Deferred} {ro : Option Nat} {P : Program} {ops : List Oper} {Q : Exit → Act → World → Prop} {Lb Lr L : List Fa} {fuel : Nat} {listed : Array Bool} {E : Env}
theorem Fx.rds {w : World} {L R : List Fa} (h : Fx w L) [hr : Rds L R] : Fx w R := ⟨fun f hf => (hr.ok h f hf).2.1, List.pairwise_of_forall_mem_list fun f hf g hg => Fa.sep_rd (hr.ok h f hf).1 (hr.ok h g hg).1⟩
theorem Q1 {id : Nat} (Lb Lr : List Fa) (hm : P.follows .mixedOrders = true) (hb : ∀ w, Sx A W w L → Sx A W w Lb) [hl : Rds L Lr] (h : HA A W n D ro P ops Q Lb Lr ops.length (Array.replicate ops.length false) E L) : H A W n D E L ((Code.region id ops.toArray true).wpIn (FR ro) 0 P Q) := fun a w k s => by
 refine Go.wpIn_mono (wpIn_region_any hm (VS _ _ _ _ (h a _ k s.drew ⟨(hb _ s).drew, s.drew.toFx.rds⟩))) ?_
 intro e a' w' hq
 cases e <;> first | exact hq | exact hq.elim
theorem QB (hr : Region.ready .any ops.toArray listed = []) (h : H A W n D E L (Q .normal)) : HA A W n D ro P ops Q Lb Lr fuel listed E L := fun a w k s _ => by
 cases fuel with
 | zero => exact ⟨hr, h a w k s⟩
 | succ f => exact ⟨fun _ => h a w k s, by rw [hr]; simp⟩
variable {op : Op} {d : Nat} {ty : TypeId} {pos : String} {af : Array Edge} {g : Option (Nat × Bool)}
theorem QfA {S : World → Prop} {ops : Array Oper} {i : Nat} (hld : Qcu ops i = true) : ∀ (listed : Array Bool) (j : Nat), qB ops listed → i ∈ Region.ready .any ops listed → j ∈ Region.ready .any ops listed → j ≠ i → ∀ w w', S w → (V2 ops j = false → S w → S w') → S w' := fun listed j hcl hr hj hne w w' hS h => h (Qf9 hld hcl hr hj hne) hS
theorem Qp (i : Nat) {v : Value} (hi : ops[i]? = some ⟨some d, op, ty, pos, af, g⟩) (hr : QM P n D E Lb op v) (k : HA A W n D ro P ops Q Lb Lr fuel (listed.setIfInBounds i true) ((d, v) :: E) L) (hld : Qcu ops.toArray i = true := by kernel_rfl)
  (hs : Region.noSelect ops.toArray = true := by kernel_rfl) (hn : V5 ops.toArray = true := by kernel_rfl) (hc : Zv ops.toArray listed = true := by kernel_rfl) (hf : Region.free .any ops.toArray listed i = true := by kernel_rfl) (hrd : (Region.ready .any ops.toArray listed).contains i = true := by kernel_rfl) (hd : Nat.blt d n = true := by exact rfl) (hg : wn ops.toArray E g = some true := by exact rfl) : HA A W n D ro P ops Q Lb Lr (fuel + 1) listed E L := fun a w ka s sb => by
 have hi' : ops.toArray[i]? = some ⟨some d, op, ty, pos, af, g⟩ := by simpa using hi
 exact qH (Si := fun w => Sx A W w Lb ∧ Fx w Lr) (v := v) (QfA hld) hi' (Region.noSelect_spec hs) hn (fun _ _ _ h => h) fuel listed a w (YL hc) (Region.free_spec hi' hf) (by simpa using hrd) (.inl ⟨JE ka hg, fun w' hS => hr a w' ka hS.1.toFx _ rfl⟩) sb (k _ _ (ka.put hd v) s sb)
theorem Qf6 (i : Nat) {v : Value} (hi : ops[i]? = some ⟨some d, op, ty, pos, af, g⟩) (hr : QM P n D E Lr op v) (k : HA A W n D ro P ops Q Lb Lr fuel (listed.setIfInBounds i true) ((d, v) :: E) L) (hld : Qcu ops.toArray i = true := by kernel_rfl)
  (hs : Region.noSelect ops.toArray = true := by kernel_rfl) (hn : V5 ops.toArray = true := by kernel_rfl) (hc : Zv ops.toArray listed = true := by kernel_rfl) (hf : Region.free .any ops.toArray listed i = true := by kernel_rfl) (hrd : (Region.ready .any ops.toArray listed).contains i = true := by kernel_rfl) (hd : Nat.blt d n = true := by exact rfl) (hg : wn ops.toArray E g = some true := by exact rfl) : HA A W n D ro P ops Q Lb Lr (fuel + 1) listed E L := fun a w ka s sb => by
 have hi' : ops.toArray[i]? = some ⟨some d, op, ty, pos, af, g⟩ := by simpa using hi
 exact qH (Si := fun w => Sx A W w Lb ∧ Fx w Lr) (v := v) (QfA hld) hi' (Region.noSelect_spec hs) hn (fun _ _ _ h => h) fuel listed a w (YL hc) (Region.free_spec hi' hf) (by simpa using hrd) (.inl ⟨JE ka hg, fun w' hS => hr a w' ka hS.2 _ rfl⟩) sb (k _ _ (ka.put hd v) s sb)
theorem Qa (i : Nat) {v : Value} (hi : ops[i]? = some ⟨some d, op, ty, pos, af, g⟩) (hr : QM P n D E [] op v) (k : HA A W n D ro P ops Q Lb Lr fuel (listed.setIfInBounds i true) ((d, v) :: E) L)
  (hs : Region.noSelect ops.toArray = true := by kernel_rfl) (hn : V5 ops.toArray = true := by kernel_rfl) (hc : Zv ops.toArray listed = true := by kernel_rfl) (hf : Region.free .any ops.toArray listed i = true := by kernel_rfl) (hrd : (Region.ready .any ops.toArray listed).contains i = true := by kernel_rfl) (hd : Nat.blt d n = true := by exact rfl) (hg : wn ops.toArray E g = some true := by exact rfl) : HA A W n D ro P ops Q Lb Lr (fuel + 1) listed E L := fun a w ka s sb => by
 have hi' : ops.toArray[i]? = some ⟨some d, op, ty, pos, af, g⟩ := by simpa using hi
 exact qH (Si := fun _ => True) (v := v) (fun _ _ _ _ _ _ _ _ _ _ => trivial) hi' (Region.noSelect_spec hs) hn (fun _ _ _ h => h) fuel listed a w (YL hc) (Region.free_spec hi' hf) (by simpa using hrd) (.inl ⟨JE ka hg, fun w' _ => hr a w' ka (Fx.nil w') _ rfl⟩) trivial (k _ _ (ka.put hd v) s sb)
theorem QW (i : Nat) (hi : ops[i]? = some ⟨some d, op, ty, pos, af, g⟩) (k : HA A W n D ro P ops Q Lb Lr fuel (listed.setIfInBounds i true) ((d, undef) :: E) L)
  (hs : Region.noSelect ops.toArray = true := by kernel_rfl) (hn : V5 ops.toArray = true := by kernel_rfl) (hc : Zv ops.toArray listed = true := by kernel_rfl) (hf : Region.free .any ops.toArray listed i = true := by kernel_rfl) (hrd : (Region.ready .any ops.toArray listed).contains i = true := by kernel_rfl) (hd : Nat.blt d n = true := by exact rfl) (hg : wn ops.toArray E g = some false := by exact rfl) : HA A W n D ro P ops Q Lb Lr (fuel + 1) listed E L := fun a w ka s sb => by
 have hi' : ops.toArray[i]? = some ⟨some d, op, ty, pos, af, g⟩ := by simpa using hi
 exact qH (Si := fun _ => True) (v := undef) (fun _ _ _ _ _ _ _ _ _ _ => trivial) hi' (Region.noSelect_spec hs) hn (fun _ _ _ h => h) fuel listed a w (YL hc) (Region.free_spec hi' hf) (by simpa using hrd) (.inr ⟨JE ka hg, rfl⟩) trivial (k _ _ (ka.put hd undef) s sb)
theorem Qv (i : Nat) (h : HO A W n D ro P ops Q Lb Lr fuel listed E L i) (hr : Region.ready .any ops.toArray listed = [i] := by kernel_rfl) : HA A W n D ro P ops Q Lb Lr (fuel + 1) listed E L := fun a w ka s sb =>
 ⟨(fun h0 => by rw [hr] at h0; cases h0), fun j hj => by rw [hr] at hj; obtain rfl : j = i := (by simpa using hj); exact h a w ka s sb.2⟩
theorem V1 (i j : Nat) (h1 : HO A W n D ro P ops Q Lb Lr fuel listed E L i) (h2 : HO A W n D ro P ops Q Lb Lr fuel listed E L j) (hr : Region.ready .any ops.toArray listed = [i, j] := by kernel_rfl) : HA A W n D ro P ops Q Lb Lr (fuel + 1) listed E L := fun a w ka s sb =>
 ⟨(fun h0 => by rw [hr] at h0; cases h0), fun q hq => by
  rw [hr] at hq
  rcases (by simpa using hq : q = i ∨ q = j) with rfl | rfl
  ·exact h1 a w ka s sb.2
  exact h2 a w ka s sb.2⟩
theorem Qlo (i j l : Nat) (h1 : HO A W n D ro P ops Q Lb Lr fuel listed E L i) (h2 : HO A W n D ro P ops Q Lb Lr fuel listed E L j) (h3 : HO A W n D ro P ops Q Lb Lr fuel listed E L l) (hr : Region.ready .any ops.toArray listed = [i, j, l] := by kernel_rfl) : HA A W n D ro P ops Q Lb Lr (fuel + 1) listed E L := fun a w ka s sb =>
 ⟨(fun h0 => by rw [hr] at h0; cases h0), fun q hq => by
  rw [hr] at hq
  rcases (by simpa using hq : q = i ∨ q = j ∨ q = l) with rfl | rfl | rfl
  ·exact h1 a w ka s sb.2
  ·exact h2 a w ka s sb.2
  exact h3 a w ka s sb.2⟩
theorem Qbx {i : Nat} {o : Oper} (hi : ops[i]? = some o) {K : Act → World → Prop} {a : Act} {w : World} (hw : Region.wanted o (yielded ops.toArray a.tmps) = true) (h : o.wpIn (FR ro) 0 P a w K (noP Q)) : wpOpIn (FR ro) 0 P ops.toArray (noP Q) i K a w := by
 have hi' : ops.toArray[i]? = some o := by simpa using hi
 unfold wpOpIn
 rw [hi']
 simp only [hw, if_true]
 exact h
def Qhx (P : Program) (A : List Fa) (W : World) (n : Nat) (D : List Deferred) (E : Env) (L Lr : List Fa) (op : Op) {τ : Type} (v : τ → Value) (L' : τ → List Fa) : Prop :=
 ∀ a w, Kn n D E a → Sx A W w L → Fx w Lr → ∀ o : Oper, o.op = op → ∃ x w', (execOp a.eval o).run P w = .ok (.value (v x)) w' ∧ Sx A W w' (L' x) ∧ Fx w' Lr
theorem rk {op : Op} {τ : Type} {v : τ → Value} {L' : τ → List Fa} (h : JO P A W n D E L op v L') [hr : ∀ x, Rds (L' x) Lr] : Qhx P A W n D E L Lr op v L' := fun a w ka s _ o ho => by
 obtain ⟨x, w', h1, h2⟩ := h a w ka s o ho
 exact ⟨x, w', h1, h2, Fx.rds h2.toFx (hr := hr x)⟩
theorem JB (i : Nat) {τ : Type} {v : τ → Value} {L' : τ → List Fa} (hi : ops[i]? = some ⟨some d, op, ty, pos, af, g⟩) (hr : Qhx P A W n D E L Lr op v L') (hb : ∀ x w, Sx A W w (L' x) → Sx A W w Lb) (k : ∀ x, HA A W n D ro P ops Q Lb Lr fuel (listed.setIfInBounds i true) ((d, v x) :: E) (L' x)) (hd : Nat.blt d n = true := by exact rfl) (hg : wn ops.toArray E g = some true := by exact rfl) : HO A W n D ro P ops Q Lb Lr fuel listed E L i := fun a w ka s sr => by
 obtain ⟨x, w', h1, h2, h3⟩ := hr a w ka s sr ⟨some d, op, ty, pos, af, g⟩ rfl
 exact Qbx hi (JE ka hg) (qu h1 ⟨fun _ _ => ⟨hb x _ h2, h3⟩, k x _ _ (ka.put hd _) h2 ⟨hb x _ h2, h3⟩⟩)
theorem Qay (i : Nat) {L' : List Fa} (hi : ops[i]? = some ⟨none, op, ty, pos, af, g⟩) (hr : Vj P A W n D E L op L') [hl : Rds L' Lr] (hb : ∀ w, Sx A W w L' → Sx A W w Lb) (k : HA A W n D ro P ops Q Lb Lr fuel (listed.setIfInBounds i true) E L') (hg : wn ops.toArray E g = some true := by exact rfl) : HO A W n D ro P ops Q Lb Lr fuel listed E L i := fun a w ka s sr => by
 obtain ⟨w', h1, h2⟩ := hr a w ka s ⟨none, op, ty, pos, af, g⟩ rfl
 exact Qbx hi (JE ka hg) (QaI h1 ⟨fun _ _ => ⟨hb _ h2, h2.toFx.rds⟩, k _ _ (ka.putNone _) h2 ⟨hb _ h2, h2.toFx.rds⟩⟩)
theorem QR (i : Nat) {x : Operand} {l : List Operand} {ts : Array TypeId} {f : FuncId} {fi cap argv args : List Value} [Ent P f] {τ : Type} {v : τ → Value} {L' : τ → List Fa} (hi : ops[i]? = some ⟨some d, .call ⟨.value x, l.toArray, ts⟩, ty, pos, af, g⟩) (hc : JN P A W L f args.toArray v L') (hx : ev E x = some (.func (.func f) fi.toArray cap.toArray)) (ha : evs E l = some argv) (he : fi ++ (argv ++ cap) = args) [hl : ∀ x, Rds (L' x) Lr]
  (hb : ∀ x w, Sx A W w (L' x) → Sx A W w Lb) (k : ∀ x, HA A W n D ro P ops Q Lb Lr fuel (listed.setIfInBounds i true) ((d, v x) :: E) (L' x)) (hd : Nat.blt d n = true := by exact rfl) (hg : wn ops.toArray E g = some true := by exact rfl) : HO A W n D ro P ops Q Lb Lr fuel listed E L i := fun a w ka s sr => by
 refine Qbx hi (JE ka hg) (Zq (QeC ka rfl hx ha) (he ▸ hc w s) ?_)
 rintro e w' ⟨y, rfl, hy⟩
 have h3 : Fx w' Lr := Fx.rds hy.toFx (hr := hl y)
 exact ⟨_, rfl, fun _ _ => ⟨hb y _ hy, h3⟩, k y _ _ (ka.put hd _) hy ⟨hb y _ hy, h3⟩⟩
theorem J4 (i : Nat) {L' : List Fa} (hi : ops[i]? = some ⟨none, op, ty, pos, af, g⟩) (hr : Vj P A W n D E L op L') (k : H A W n D E L' (Q .normal)) (hl : V2 ops.toArray i = true := by kernel_rfl) (hd : Region.ready .any ops.toArray (listed.setIfInBounds i true) = [] := by kernel_rfl) (hg : wn ops.toArray E g = some true := by exact rfl) : HO A W n D ro P ops Q Lb Lr fuel listed E L i := fun a w ka s sr => by
 obtain ⟨w', h1, h2⟩ := hr a w ka s ⟨none, op, ty, pos, af, g⟩ rfl
 refine Qbx hi (JE ka hg) (QaI h1 ⟨(fun h => by rw [hl] at h; cases h), ?_⟩)
 have h3 : noP Q .normal (a.put none undef) w' := k _ _ (ka.putNone _) h2
 cases fuel with
 | zero => exact ⟨hd, h3⟩
 | succ f => exact ⟨fun _ => h3, by rw [hd]; simp⟩
def HL (A : List Fa) (W : World) (n : Nat) (D : List Deferred) (ro : Option Nat) (P : Program) (ops : List Oper) (Q : Exit → Act → World → Prop) (Lb Lr : List Fa) (fuel : Nat) (listed : Array Bool) (E : Env) (L : List Fa) : Prop :=
 ∀ a w, Kn n D E a → Sx A W w L → QeP ro P ops.toArray (noP Q) (fun w => Sx A W w Lb ∧ Fx w Lr) fuel listed a w
theorem Qrf (h : HL A W n D ro P ops Q Lb Lr fuel listed E L) : HA A W n D ro P ops Q Lb Lr fuel listed E L := fun a w k s _ => h a w k s
theorem QnM (hr : Region.ready .any ops.toArray listed = []) (h : H A W n D E L (Q .normal)) : HL A W n D ro P ops Q Lb Lr fuel listed E L := fun a w k s => by
 cases fuel with
 | zero => exact ⟨hr, h a w k s⟩
 | succ f => exact ⟨fun _ => h a w k s, by rw [hr]; simp⟩
theorem Qrh (i : Nat) {L' : List Fa} (hi : ops[i]? = some ⟨none, op, ty, pos, af, g⟩) (hr : Vj P A W n D E L op L') (k : HL A W n D ro P ops Q Lb Lr fuel (listed.setIfInBounds i true) E L') (hl : V2 ops.toArray i = true := by kernel_rfl) (hrd : Region.ready .any ops.toArray listed = [i] := by kernel_rfl) (hg : wn ops.toArray E g = some true := by exact rfl) : HL A W n D ro P ops Q Lb Lr (fuel + 1) listed E L := fun a w ka s => by
 refine ⟨(fun h0 => by rw [hrd] at h0; cases h0), fun j hj => ?_⟩
 rw [hrd] at hj
 obtain rfl : j = i := by simpa using hj
 obtain ⟨w', h1, h2⟩ := hr a w ka s ⟨none, op, ty, pos, af, g⟩ rfl
 exact Qbx hi (JE ka hg) (QaI h1 ⟨(fun h => by rw [hl] at h; cases h), k _ _ (ka.putNone _) h2⟩)
theorem QrA (i : Nat) {v : Value} (hi : ops[i]? = some ⟨some d, op, ty, pos, af, g⟩) (hr : QM P n D E L op v) (k : HL A W n D ro P ops Q Lb Lr fuel (listed.setIfInBounds i true) ((d, v) :: E) L) (hl : V2 ops.toArray i = true := by kernel_rfl) (hrd : Region.ready .any ops.toArray listed = [i] := by kernel_rfl) (hd : Nat.blt d n = true := by exact rfl) (hg : wn ops.toArray E g = some true := by exact rfl) : HL A W n D ro P ops Q Lb Lr (fuel + 1) listed E L := fun a w ka s => by
 refine ⟨(fun h0 => by rw [hrd] at h0; cases h0), fun j hj => ?_⟩
 rw [hrd] at hj
 obtain rfl : j = i := by simpa using hj
 exact Qbx hi (JE ka hg) (qu (hr a w ka s.toFx _ rfl) ⟨(fun h => by rw [hl] at h; cases h), k _ _ (ka.put hd v) s⟩)
theorem h_K {E' : Env} {L' : List Fa} {K : Act → World → Prop} (h : H A W n D E' L' K) (hE : agree E' E) (hL : ∀ w, Sx A W w L → Sx A W w L') : H A W n D E L K := h_E hE (h_L hL h)
theorem QaY {id : Nat} {os : Array Oper} {τ : Type} (Es : τ → Env) (Ls : τ → List Fa) (h : (∀ x, H A W n D (Es x) (Ls x) (Q .normal)) → H A W n D E L ((Code.region id os true).wpIn (FR ro) 0 P Q)) (k : ∀ x, H A W n D (Es x) (Ls x) (Q .normal)) : H A W n D E L ((Code.region id os true).wpIn (FR ro) 0 P Q) := h k
end
section
variable {P : Program} {w : World} {a : Act}
theorem QcQ {base : Nat} {t ty e : TypeId} {i : TypeInfo} {z : Value} {size bytes : Nat} (ht : P.underlying t = some (.slice e)) (hi : P.info? e = some i) (hz : i.zero = some z)
  (hsize : i.size = size) (hby : i.bytes = bytes) {v : Value} {n : Nat} {xs : List Value} (hown : w.ownsRow base e size v n xs)
  {a : Addr} {m c : Nat} {news : List Value} (hl : news.length = m * size) (hnews : ∀ j u, news[j]? = some u → w.cell? (a.add j) = some u) (h1 : ∀ u ∈ news, u.oneCell' = true)
  (h63 : n + m ≤ maxLen) (hbytes : (n + m) * bytes ≤ 140737488355328) {v' : Value} {w' : World} (hr : (Builtin.append_ #[t, t] ty #[v, .slice (some a) m c]).run P w = .ok v' w') (hnil : v' = .slice none 0 0 ↔ v = .slice none 0 0 ∧ m = 0) :
  v'.ownBlock = v.ownBlock ∨ (v'.ownBlock = some w.heap.size ∧ Below w.heap.size w w') := by
 subst hsize hby
 have hsmall : n + m ≤ 9223372036854775807 := by simp only [maxLen] at h63; omega
 rcases hown.2 with ⟨rfl, rfl⟩ | ⟨g, cap, cur, rfl, hbg, hg, hnc, hcm, hcs, htake⟩
 ·by_cases hm : m = 0
  ·rw [hnil.2 ⟨rfl, hm⟩]; exact .inl rfl
  have hr2 := run_append_nil (P := P) w t ty e i z ht hi hz a m c news hl hnews (by omega) (by omega) (by have hb := hbytes; simp only [Nat.zero_add] at hb; omega)
  rw [hr2] at hr
  injection hr with hr hw
  rw [← hr, ← hw]
  exact .inr ⟨rfl, (Below.refl _ w).drew.alloc (by simp) _⟩
 by_cases hroom : n + m ≤ cap
 ·have hfit : n * i.size + news.length ≤ cur.size := by rw [hl, hcs, ← Nat.add_mul]; exact Nat.mul_le_mul_right _ hroom
  have hr2 := run_append_room (P := P) w t ty e i ht hi g n cap cur hg a m c news hl hnews h1 hroom hfit
  rw [hr2] at hr
  injection hr with hr _
  rw [← hr]
  exact .inl rfl
 have holds : ∀ j u, xs[j]? = some u → w.cell? ((⟨g, 0, none⟩ : Addr).add j) = some u := hown.cells (g := g) rfl
 have hr2 := run_append_grow (P := P) w t ty e i z ht hi hz ⟨g, 0, none⟩ n cap xs hown.1 holds a m c news hl hnews (by omega) (by omega) (growslice_fits (by omega) hbytes)
 rw [hr2] at hr
 injection hr with hr hw
 rw [← hr, ← hw]
 exact .inr ⟨rfl, (Below.refl _ w).drew.alloc (by simp) _⟩
theorem QmQ {o : Oper} {s x : Operand} {t e : TypeId} {size bytes : Nat} {z : Value} (ho : o.op = .call { callee := .builtin .append, args := #[s, x], argTypes := #[t, t] }) (E : ElT P t e size bytes z)
  {base n : Nat} {v : Value} {xs : List Value} (hs : a.eval s = v) (hown : w.ownsRow base e size v n xs) {A : Option Addr} {m c : Nat} {news : List Value} (hx : a.eval x = .slice A m c) (hA : A = none → m = 0 ∧ c = 0) (hl : news.length = m * size) (hr : Rd w A news)
  (h1 : ∀ u ∈ news, u.oneCell' = true) (hb : (n + m) * bytes ≤ 140737488355328) (hbase : base ≤ w.heap.size) :
  ∃ v' w', (execOp a.eval o).run P w = .ok (.value v') w' ∧ w'.ownsRow base e size v' (n + m) (xs ++ news) ∧ w.grownBy w' v.ownBlock ∧ (v'.ownBlock = v.ownBlock ∨ (v'.ownBlock = some w.heap.size ∧ Below w.heap.size w w')) := by
 obtain ⟨i, hi, hz, hsz, hby⟩ := info_parts E.hi
 have hnm : n + m ≤ maxLen := by
  have : n + m ≤ (n + m) * bytes := Nat.le_mul_of_pos_right _ E.hb
  unfold maxLen
  omega
 cases A with
 | none =>
  obtain ⟨rfl, rfl⟩ := hA rfl
  have hn0 : news = [] := List.eq_nil_of_length_eq_zero (by simpa using hl)
  subst hn0
  have hrun := run_append_owned_none (P := P) w base t o.type e i size E.ht hi v n xs hown
  refine ⟨v, w, ?_, by simpa using hown, World.grownBy.refl _ _, .inl rfl⟩
  unfold execOp
  simp only [ho, resolve, invoke, builtin, Sem.run_bind, Sem.run_pure, Result.andThen_ok, List.map_toArray, List.map_cons, List.map_nil, hs, hx, hrun]
 | some ad =>
  have hnews : ∀ j u, news[j]? = some u → w.cell? (ad.add j) = some u := fun j u hu => by
   obtain ⟨b, o', e, hc⟩ := hr j u hu
   obtain rfl := Option.some.inj e
   rw [Addr.add_mid]
   exact hc
  obtain ⟨v', w', hrun, h2, h3, h4⟩ := run_append_own (P := P) w base t o.type e i z size bytes E.ht hi hz hsz hby E.hz E.h0 v n xs hown ad m c news hl hnews h1 hnm hb hbase
  refine ⟨v', w', ?_, h2, h3, QcQ E.ht hi hz hsz hby hown hl hnews h1 hnm hb hrun h4⟩
  unfold execOp
  simp only [ho, resolve, invoke, builtin, Sem.run_bind, Sem.run_pure, Result.andThen_ok, List.map_toArray, List.map_cons, List.map_nil, hs, hx, hrun]
end
end
section
open Go.RowKit
instance (priority := 2000) (L0 L M : List Fa) [h : Take L0 L M] : Take ([] ++ L0) L M := ⟨h.perm⟩
instance (priority := 2000) (f : Fa) (A L0 L M : List Fa) [h : Take (f :: (A ++ L0)) L M] : Take ((f :: A) ++ L0) L M := ⟨h.perm⟩
instance (priority := 2000) (L R R' : List Fa) [h : Rds L R] [k : Rds L R'] : Rds L (R ++ R') := ⟨fun hw r hr => (List.mem_append.1 hr).elim (h.ok hw r) (k.ok hw r)⟩
def Qnc (P : Program) (gf : FuncId) (lb : List Value) (R A : List Fa) {α : Type} (xs : List α) (enc : α → List Value) (A' : List Fa) : Prop :=
 ∀ (l : Nat) (J : List α → List Fa → Prop) (Rm m0 : List Fa) (w : World), (∀ pre m, J pre m → ∀ f ∈ m, f.wr = true) →
  (∀ pre x post m, xs = pre ++ x :: post → J pre m → ∀ w, Fx w m → qw w m Rm → YieldAt Fence.wide 0 P l (enc x).toArray w fun e w' => e = .returned (.bool true) ∧ ∃ m', J (pre ++ [x]) m' ∧ Rx m w w' m') →
  J [] m0 → Fx w (A ++ m0) → qw w (A ++ m0) (R ++ Rm) →
  Calls P gf (.func (.yield l) #[] #[] :: lb).toArray w fun e w' => ∃ v m', e = .returned v ∧ J xs m' ∧ Rx (A ++ m0) w w' (A' ++ m')
def Zc : List Nat → List Value → Env → Env
 | p :: ps, v :: vs, E => Zc ps vs ((p, v) :: E)
 | _, _, E => E
theorem Kn.par {n : Nat} {D : List Deferred} : ∀ (ps : List Nat) (vs : List Value) (E : Env) (t : Array Value), (ps.all fun p => Nat.blt p n) = true → Kn n D E { tmps := t, defers := D } → Kn n D (Zc ps vs E) { tmps := (ps.zip vs).foldl (fun t (x : Nat × Value) => match x with | (p, v) => t.setIfInBounds p v) t, defers := D }
 | [], vs, E, t, _, h => by simpa [Zc] using h
 | p :: ps, [], E, t, _, h => by simpa [Zc] using h
 | p :: ps, v :: vs, E, t, hp, h => by
  simp only [List.all_cons, Bool.and_eq_true] at hp
  exact Kn.par ps vs _ _ hp.2 (h.put (d := p) hp.1 v)
section
variable {A : List Fa} {W w w' : World} {L M : List Fa}
theorem Sx.allocObj (h : Sx A W w L) (o : Obj) : Sx A W (w.alloc o) (.obj w.heap.size o :: L) := by
 have hb : Below w.heap.size w (w.alloc o) := (Below.refl _ _).alloc (Nat.le_refl _) _
 refine (h.call hb).cons ?_ ?_ ?_
 ·exact World.alloc_heap_new w o
 ·intro g hg _ k hk hk'
  obtain rfl : k = w.heap.size := hk
  have := Fa.bound (h.ok g hg) hk'
  omega
 rintro _ k hk
 obtain rfl : k = w.heap.size := hk
 exact .inl h.size
theorem Sx.putObj {l : Nat} {o : Obj} (h : Sx A W w (.obj l o :: L)) (o' : Obj) : Sx A W (w.putObj l o') (.obj l o' :: L) := by
 have ho : w.heap[l]? = some o := h.ok (.obj _ _) (List.mem_cons_self ..)
 exact h.turn rfl (fun k hk => .inl hk) (World.putObj_heap_same (Array.getElem?_eq_some_iff.1 ho).1) rfl rfl rfl (by simp [World.putObj]) fun k _ hk => World.putObj_heap_other hk
end
section
variable {A : List Fa} {W : World} {n : Nat} {D : List Deferred} {E : Env} {L M : List Fa} {P : Program} {Q : Exit → Act → World → Prop}
def Vw (l : Nat) (r : Loop) (J : List Fa → Prop) (m : List Fa) (W1 : World) (e : Ending) (w' : World) : Prop := e = .returned (.bool true) ∧ ∃ m', J m' ∧ Rx (.obj l (.loop r) :: m) W1 w' (.obj l (.loop r) :: m')
theorem YN {l : Nat} {r : Loop} {K : Act → World → Prop} [ht : Take1 (.obj l (.loop r)) L M] (hr : r.state = .ready) (h : H A W n D E (.obj l (.loop { r with state := .busy }) :: M) K) : H A W n D E L (fun a w => ∃ w₂, (Instr.beginRound l).run P w = .ok () w₂ ∧ K a w₂) := fun a w ka s => by
 have s2 := s.perm ht.perm
 have ho : w.heap[l]? = some (.loop r) := s2.ok (.obj _ _) (List.mem_cons_self ..)
 exact ⟨_, run_beginRound ho hr, h a _ ka (s2.putObj _)⟩
theorem JH {l : Nat} {r : Loop} {J : List Fa → Prop} {m : List Fa} (m' : List Fa) (hr : r.state = .ready) (hp : r.pending = none) (hJ : J m') (hw : ∀ f ∈ m', f.wr = true) [ht : Take (.obj l (.loop { r with state := .busy }) :: m') L M] : H (.obj l (.loop r) :: m) W n D E L (roundPost P l (Vw l r J m W) .normal) := fun a w ka s => by
 have s2 := (s.perm ht.perm).sub (List.sublist_append_left (.obj l (.loop { r with state := .busy }) :: m') M)
 have ho : w.heap[l]? = some (.loop { r with state := .busy }) := s2.ok (.obj _ _) (List.mem_cons_self ..)
 refine ⟨_, _, run_endRound none ho, rfl, m', hJ, ?_⟩
 have s3 := s2.putObj (.loop { { r with state := .busy } with state := if (none : Option Code).isNone then .ready else .done, pending := none })
 have e : ({ { r with state := .busy } with state := if (none : Option Code).isNone then .ready else .done, pending := none } : Loop) = r := by
  cases r
  simp only at hr hp
  subst hr hp
  rfl
 rw [e] at s3 ⊢
 exact s3.res (List.Sublist.refl _) fun f hf => (List.mem_cons.1 hf).elim (fun h => by rw [h]; rfl) (hw f)
theorem Sx.zag {A' m0 : List Fa} {w : World} {f g : Fa} (h : Sx A W w (f :: g :: L)) (hp : L.Perm (A' ++ m0 ++ M)) : Sx A W w ((A' ++ f :: m0) ++ (g :: M)) := by
 refine h.perm ?_
 refine ((hp.cons g).cons f).trans ?_
 refine (List.Perm.swap g f _).trans ?_
 refine (List.Perm.cons g (?_ : List.Perm (f :: (A' ++ m0 ++ M)) (A' ++ f :: m0 ++ M))).trans ?_
 ·simp only [List.append_assoc, List.cons_append]
  exact List.perm_middle.symm
 exact List.perm_middle.symm
theorem QbH {α : Type} {g : Operand} {ps : List Nat} {assign body : Code} {gf : FuncId} {lb : List Value} {R Ai Ai' : List Fa} {xs : List α} {enc : α → List Value} (it : Qnc P gf lb R Ai xs enc Ai') (hg : ev E g = some (.func (.func gf) #[] lb.toArray)) [eg : Ent P gf]
  (J : List α → List Fa → Prop) (m0 Rm : List Fa) [ht : Take (Ai ++ m0) L M] [hr : Rds M (R ++ Rm)] (hJw : ∀ pre m, J pre m → ∀ f ∈ m, f.wr = true) (h0 : J [] m0) (hps : (ps.all fun p => Nat.blt p n) = true) (hen : ∀ x, (enc x).length = ps.length)
  (hround : ∀ (l : Nat) (r : Loop) (pre : List α) (x : α) (post : List α) (m : List Fa) (W1 : World), r.state = .ready → r.pending = none → xs = pre ++ x :: post → J pre m →
   H (.obj l (.loop r) :: m) W1 n [] (Zc ps (enc x) E) (.obj l (.loop r) :: (m ++ Rm)) (assign.wpIn (FR (some l)) 0 P (Exit.then (fun a₁ w₁ => ∃ w₂, (Instr.beginRound l).run P w₁ = .ok () w₂ ∧ body.wpIn (FR (some l)) 0 P (roundPost P l (Vw l r (J (pre ++ [x])) m W1)) a₁ w₂) (fun _ _ _ => False))))
  (hdone : ∀ (b : Nat) (m : List Fa), J xs m → H A W n ({ target := .collected b, args := #[] } :: D) E ((Ai' ++ m) ++ (.obj b (.deferred (some [])) :: M)) (Q .normal)) :
  H A W n D E L ((Code.rangeFunc g ps.toArray assign body).wpIn (FR none) 0 P Q) := fun a w ka s => by
 refine wpIn_rangeFunc ?_
 intro fn hfn
 obtain ⟨rec, hrec⟩ : ∃ rec : Loop, rec = { state := .ready, pending := none, fn, tmps := a.tmps, params := ps.toArray, assign, body, defers := w.heap.size } := ⟨_, rfl⟩
 have s1 := (s.allocObj (.deferred (some []))).allocObj (.loop rec)
 rw [World.size_alloc] at s1
 generalize hW1 : (w.alloc (.deferred (some []))).alloc (.loop rec) = W1 at s1
 have s2 := s1.zag ht.perm
 have hev : a.eval g = .func (.func gf) #[] lb.toArray := ka.ev hg
 refine ⟨w.heap.size + 1, [{ target := .collected w.heap.size, args := #[] }], W1, { target := .fn (.func gf) lb.toArray, args := #[.func (.yield (w.heap.size + 1)) #[] #[]] }, W1, gf, #[.func (.yield (w.heap.size + 1)) #[] #[]] ++ lb.toArray, W1, ?_, ?_, ?_, ?_, (fun h => by cases h), ?_⟩
 ·rw [← hW1, hrec]
  exact run_enterLoop_outer _ _ _ _ _
 ·simp only [resolve, hev]
  simp [go_sem]
 ·intro f' _
  trivial
 ·simp only [invoke]
  exact eg.ok _ _
 have hcall := it (w.heap.size + 1) (fun pre m => ∃ m1, m = .obj (w.heap.size + 1) (.loop rec) :: m1 ∧ J pre m1) Rm (.obj (w.heap.size + 1) (.loop rec) :: m0) W1 (by rintro pre m ⟨m1, rfl, hm⟩ f hf; exact (List.mem_cons.1 hf).elim (fun h => by rw [h]; rfl) (hJw pre m1 hm f)) ?_ ⟨m0, rfl, h0⟩ (s2.toFx.sub (List.sublist_append_left _ _)) ?_
 ·rw [show (#[.func (.yield (w.heap.size + 1)) #[] #[]] ++ lb.toArray : Array Value) = (.func (.yield (w.heap.size + 1)) #[] #[] :: lb).toArray by simp]
  refine (Qal hcall).mono ?_
  rintro e w3 ⟨v, m', rfl, ⟨m1, rfl, hJ⟩, hx⟩
  have s3 := s2.ret hx
  have s4 := s3.perm (M := .obj (w.heap.size + 1) (.loop rec) :: ((Ai' ++ m1) ++ (.obj w.heap.size (.deferred (some [])) :: M))) (by
   simp only [List.append_assoc, List.cons_append]
   exact List.perm_middle)
  have ho : w3.heap[w.heap.size + 1]? = some (.loop rec) := s4.ok (.obj _ _) (List.mem_cons_self ..)
  refine ⟨none, w3.putObj (w.heap.size + 1) (.loop { rec with state := .exhausted }), ?_, ?_⟩
  ·have := run_endLoop (P := P) ho (by rw [hrec]; simp)
   have hpn : rec.pending = none := by rw [hrec]
   rw [this, hpn]
  exact hdone _ m1 hJ _ _ ⟨ka.size, by show [_] ++ a.defers = _; rw [ka.defers]; rfl, ka.val⟩ (s4.putObj _).tail
 ·rintro pre x post m hxs ⟨m1, rfl, hJ⟩ w4 hf hR
  have ho : w4.heap[w.heap.size + 1]? = some (.loop rec) := hf.ok (.obj _ _) (List.mem_cons_self ..)
  have hy := run_yield (P := P) (args := (enc x).toArray) ho (by rw [hrec]; simpa using hen x)
  refine ⟨_, _, _, _, hy, ?_⟩
  have hk : Kn n [] E { tmps := a.tmps, defers := [] } := ⟨ka.size, rfl, ka.val⟩
  have hk2 := Kn.par ps (enc x) E a.tmps hps hk
  have hh := hround (w.heap.size + 1) rec pre x post m1 w4 (by rw [hrec]) (by rw [hrec]) hxs hJ _ w4 hk2 (Sx.start hf hR)
  rw [hrec] at hh ⊢
  refine (roundIn_of_wpIn (F := Fence.wide) trivial (R := Vw (w.heap.size + 1) rec (J (pre ++ [x])) m1 w4) ?_).mono ?_
  ·rw [hrec]
   simp only [List.zip_toArray, List.foldl_toArray]
   exact hh
  rintro e w5 ⟨rfl, m', hJ', hx⟩
  rw [← hrec]
  exact ⟨rfl, _, ⟨m', rfl, hJ'⟩, hx⟩
 refine s2.reads (M := .obj w.heap.size (.deferred (some [])) :: M) (List.Perm.refl _) ⟨fun hw r hrm => ?_⟩
 obtain ⟨h1, h2, h3⟩ := hr.ok hw.tail r hrm
 exact ⟨h1, h2, fun k hk => let ⟨f, hf, hfk⟩ := h3 k hk; ⟨f, List.mem_cons_of_mem _ hf, hfk⟩⟩
end
end
section
open Go.RowKit
def YA (P : Program) (l : Nat) (args : List Value) (Rm m : List Fa) (J' : List Fa → Prop) : Prop := ∀ w, Fx w m → qw w m Rm → YieldAt Fence.wide 0 P l args.toArray w fun e w' => e = .returned (.bool true) ∧ ∃ m', J' m' ∧ Rx m w w' m'
class TakeT (m Rm L : List Fa) (M : outParam (List Fa)) : Prop where
 perm : L.Perm (m ++ (Rm ++ M))
instance (m Rm : List Fa) : TakeT m Rm (m ++ Rm) [] := ⟨by simp⟩
instance (priority := 100) (m Rm : List Fa) (f : Fa) (L M : List Fa) [h : TakeT m Rm L M] : TakeT m Rm (f :: L) (f :: M) := ⟨by
 refine (h.perm.cons f).trans ?_
 rw [← List.append_assoc, ← List.append_assoc]
 exact List.perm_middle.symm⟩
section
variable {A : List Fa} {W : World} {n : Nat} {D : List Deferred} {E : Env} {L M : List Fa} {P : Program} {Q : Exit → Act → World → Prop} {ro : Option Nat} {ops : Array Oper} {rest : List Oper} {d : Nat} {ty : TypeId} {pos : String} {af : Array Edge} {g : Option (Nat × Bool)}
theorem Zz {x : Operand} {as : List Operand} {ts : Array TypeId} {l : Nat} {args : List Value} {m Rm : List Fa} {J' : List Fa → Prop} {L' : List Fa → List Fa} (hy : YA P l args Rm m J') (hRm : ∀ r ∈ Rm, r.wr = false) [ht : TakeT m Rm L M] [hN : ∀ m', App M (m' ++ Rm) (L' m')] (hx : ev E x = some (.func (.yield l) #[] #[])) (ha : evs E as = some args)
  (k : ∀ m', J' m' → H A W n D ((d, .bool true) :: E) (L' m') (wpListIn (FR ro) 0 P ops Q rest)) (hd : Nat.blt d n = true := by exact rfl) (hg : wn ops E g = some true := by exact rfl) : H A W n D E L (wpListIn (FR ro) 0 P ops Q (⟨some d, .call ⟨.value x, as.toArray, ts⟩, ty, pos, af, g⟩ :: rest)) := fun a w ka s => by
 unfold wpListIn
 rw [JE ka hg, if_pos rfl]
 have s2 := s.perm ht.perm
 have hR : qw w m Rm := fun r hr => ⟨hRm r hr, s2.ok r (by simp [hr]), fun b hb => (List.pairwise_append.1 s2.sep).2.2 b hb r (by simp [hr])⟩
 obtain ⟨fn, tmps, assign, body, hrun, hround⟩ := hy w (s2.toFx.sub (List.sublist_append_left _ _)) hR
 have hex : (execOp a.eval ⟨some d, .call ⟨.value x, as.toArray, ts⟩, ty, pos, af, g⟩).run P w = .ok (.round l fn tmps assign body) w := by
  unfold execOp
  simp only [resolve, ka.ev hx, Deferred.ofValue, Sem.run_bind, Sem.run_pure, Result.andThen_ok, invoke]
  rw [List.map_toArray, ka.evs ha, show (#[] ++ args.toArray : Array Value) = args.toArray by simp]
  exact hrun
 refine ⟨fun _ _ => trivial, ?_⟩
 rw [show (FR ro).round = ro from rfl, Zo (by simp) hex]
 refine ⟨(fun hd => by cases hd), RoundIn.mono (F := FR ro) hround ?_⟩
 rintro e w' ⟨rfl, m', hJ, hx⟩
 have s3 := (s2.ret hx).perm (M := L' m') (by rw [← (hN m').eq, ← List.append_assoc]; exact List.perm_append_comm)
 exact k m' hJ _ _ (ka.put hd _) s3
theorem QhN {L1 LL : List Fa → List Fa → List Fa} {gf n : Nat} {fn : Func} {c : Code} {lb : List Value} {R Ai Ai' : List Fa} {α : Type} {xs : List α} {enc : α → List Value} (hf : P.funcs[gf]? = some fn) (hb : fn.body = some c) (hn : fn.ntmps = n) (hl : Nat.ble (lb.length + 1) n = true) [hL1 : ∀ m0 Rm, App R (m0 ++ Rm) (L1 m0 Rm)] [hL2 : ∀ m0 Rm, App Ai (L1 m0 Rm) (LL m0 Rm)]
  (h : ∀ (l : Nat) (J : List α → List Fa → Prop) (Rm m0 : List Fa) (W : World), (∀ pre m, J pre m → ∀ f ∈ m, f.wr = true) → (∀ r ∈ Rm, r.wr = false) → (∀ pre x post m, xs = pre ++ x :: post → J pre m → YA P l (enc x) Rm m (J (pre ++ [x]))) → J [] m0 →
   H (Ai ++ m0) W n [] (Y7 0 (.func (.yield l) #[] #[] :: lb)) (LL m0 Rm) (c.wpIn (FR none) 0 P (bodyPostM (FR none) 0 P fn fun e w' => ∃ v m', e = .returned v ∧ J xs m' ∧ Rx (Ai ++ m0) W w' (Ai' ++ m')))) : Qnc P gf lb R Ai xs enc Ai' := fun l J Rm m0 w hJw hy h0 hA hR => by
 have hl' : (Value.func (.yield l) #[] #[] :: lb).length ≤ n := by simpa using hl
 have hp : (Ai ++ m0 ++ (R ++ Rm)).Perm (Ai ++ (R ++ (m0 ++ Rm))) := by
  rw [List.append_assoc]
  refine List.Perm.append_left _ ?_
  rw [← List.append_assoc, ← List.append_assoc]
  exact List.Perm.append_right _ List.perm_append_comm
 have s := (Sx.start hA hR).perm hp
 rw [(hL1 m0 Rm).eq, (hL2 m0 Rm).eq] at s
 refine (callsIn_wide (n := 0)).1 (callsIn_of_wp_marks hf hb trivial (h l J Rm m0 w hJw (fun r hr => (hR r (List.mem_append_right _ hr)).1) hy h0 _ w ⟨?_, rfl, fun t u ht => ?_⟩ s))
 ·simp only [hn, Array.size_append, List.size_toArray, Array.size_replicate]
  omega
 obtain ⟨_, h2⟩ := JZ (.func (.yield l) #[] #[] :: lb) 0 t u ht
 have hlt : t < (Value.func (.yield l) #[] #[] :: lb).length := by
  obtain ⟨h3, _⟩ := List.getElem?_eq_some_iff.1 h2
  simpa using h3
 rw [Array.getElem?_append_left (by simpa using hlt)]
 simpa using h2
end
class TInt (P : Program) (T : TypeId) (k : outParam IntKind) : Prop where
 und : P.underlying T = some (.int k)
section
variable {P : Program} {n : Nat} {D : List Deferred} {E : Env} {L : List Fa} {T T' : TypeId} {x : Operand} {k k' : IntKind} {i : Int}
theorem QlX [h1 : TInt P T k] [h2 : TInt P T' k'] (hx : ev E x = some (.int k i)) (h : k'.wrap i = i) : QM P n D E L (.convert T T' x) (.int k' i) := Qoj h1.und h2.und hx h
theorem Qew {m m' : Nat} {a : BitVec m} [h1 : TInt P T k] [h2 : TInt P T' k'] [UK k m] [UK k' m'] (hx : ev E x = some (.int k i)) [Wd m i a] : QM P n D E L (.convert T T' x) (.int k' ((a.setWidth m').toNat : Int)) := Qok h1.und h2.und hx
end
end
end Go.Proofs.YtjhlbbgikccclaaGreatDoor
