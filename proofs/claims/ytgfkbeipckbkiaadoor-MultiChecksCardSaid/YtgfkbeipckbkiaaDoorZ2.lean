/- What is known of the world, in one fact: a list of blocks, ranges and rows that stand apart; Single operations over what is known of the world; The program's structs: their cells, and what stands where. Printed by gens.py; Builds, comparisons, appends, made slices, results: over what is known of the world (joined texts: S1 S2 V1 S3) -/
import Derived.Test.YtgfkbeipckbkiaaDoorZ1
import Derived.Laws.MakeOwn
set_option linter.all false
/- S1 -/
namespace Go.Proofs.YtgfkbeipckbkiaaDoor
set_option linter.unusedSimpArgs false
set_option linter.unusedVariables false
open Go.RowKit

/-! short names of laws that the walks name often -/
theorem zA {α : Type} (xs : Array α) (i : Nat) (d : α) : xs.getD i d = xs[i]?.getD d := Array.getD_eq_getD_getElem? ..
theorem zB {α : Type} {l : List α} {i : Nat} : l.toArray[i]? = l[i]? := List.getElem?_toArray
theorem zC {α : Type} {a : α} {l : List α} : (a :: l)[0]? = some a := List.getElem?_cons_zero
theorem zD {α : Type} {a : α} {l : List α} {i : Nat} : (a :: l)[i + 1]? = l[i]? := List.getElem?_cons_succ
theorem zE {α : Type} {a d : α} : (some a).getD d = a := Option.getD_some
theorem zF {α : Type} (l : List α) (i : Nat) (a : α) : l.toArray.setIfInBounds i a = (l.set i a).toArray := List.setIfInBounds_toArray ..
theorem zG {α : Type} {x a : α} {l : List α} : (x :: l).set 0 a = a :: l := List.set_cons_zero
theorem zH {α : Type} {x a : α} {l : List α} {n : Nat} : (x :: l).set (n + 1) a = x :: l.set n a := List.set_cons_succ
theorem zI {α β : Type} (f : α → β) (l : List α) : l.toArray.map f = (l.map f).toArray := List.map_toArray ..
theorem zJ {α : Type} (l m : List α) : l.toArray ++ m.toArray = (l ++ m).toArray := List.append_toArray ..
/-- what stood in w stands in w' as it did, but for the blocks X -/
structure Bel (X : List Nat) (w w' : World) : Prop where
  os : w'.os = w.os
  tape : w'.tape = w.tape
  output : w'.output = w.output
  size : w.heap.size ≤ w'.heap.size
  block : ∀ k, k < w.heap.size → k ∉ X → w'.heap[k]? = w.heap[k]?
theorem Bel.refl (X : List Nat) (w : World) : Bel X w w := ⟨rfl, rfl, rfl, Nat.le_refl _, fun _ _ _ => rfl⟩
theorem Bel.of {w w' : World} (h : Below w.heap.size w w') : Bel [] w w' := ⟨h.os, h.tape, h.output, h.size, fun k hk _ => h.block k hk⟩
theorem Bel.below {w w' : World} (h : Bel [] w w') : Below w.heap.size w w' := ⟨h.os, h.tape, h.output, h.size, fun k hk => h.block k hk (by simp)⟩
theorem Bel.trans {X Y : List Nat} {a b c : World} (h : Bel X a b) (k : Bel Y b c) (hY : ∀ y ∈ Y, y ∈ X ∨ a.heap.size ≤ y) : Bel X a c :=
  ⟨k.os.trans h.os, k.tape.trans h.tape, k.output.trans h.output, Nat.le_trans h.size k.size, fun i hi hx =>
    (k.block i (Nat.lt_of_lt_of_le hi h.size) fun hy => (hY i hy).elim hx fun h' => by omega).trans (h.block i hi hx)⟩
theorem Bel.mono {X Y : List Nat} {a b : World} (h : Bel X a b) (hX : ∀ x ∈ X, x ∈ Y ∨ a.heap.size ≤ x) : Bel Y a b :=
  ⟨h.os, h.tape, h.output, h.size, fun i hi hx => h.block i hi fun hy => (hX i hy).elim hx fun h' => by omega⟩

inductive Fc where
  | blk (g : Nat) (cs : List Value) (T : TypeId)
  | rd (A : Option Addr) (cs : List Value)
  | own (v : Value) (n : Nat) (e : TypeId) (size : Nat) (xs : List Value)
  | inv (φ : World → Prop) (F : Nat → Prop)
def Fc.wr : Fc → Bool
  | .blk .. => true
  | .own .. => true
  | _ => false
def Fc.foot : Fc → Nat → Prop
  | .blk g _ _, k => k = g
  | .rd A cs, k => cs ≠ [] ∧ ∃ o, A = some ⟨k, o, none⟩
  | .own v _ _ _ _, k => v.ownBlock = some k
  | .inv _ F, k => F k
def Fc.holds (B : Nat) (w : World) : Fc → Prop
  | .blk g cs T => w.heap[g]? = some (.cells cs.toArray T (0, 0))
  | .rd A cs => Rd w A cs
  | .own v n e size xs => w.ownsRow B e size v n xs
  | .inv φ F => φ w ∧ (∀ k, F k → k < w.heap.size) ∧ ∀ w', (∀ k, F k → w'.heap[k]? = w.heap[k]?) → φ w'
theorem Fc.bound {B : Nat} {w : World} {f : Fc} (h : f.holds B w) {k : Nat} (hk : f.foot k) : k < w.heap.size := by
  cases f with
  | blk g cs T => obtain rfl : k = g := hk; exact (Array.getElem?_eq_some_iff.1 h).1
  | rd A cs =>
    obtain ⟨hc, o, rfl⟩ := hk
    have hc' : 0 < cs.length := List.length_pos_iff.2 hc
    obtain ⟨b, o', e, hlt, _⟩ := Rd.open_ h hc'
    injection e with e
    injection e with e1
    omega
  | own v n e size xs => exact (World.ownsRow.lt h k hk).2
  | inv φ F => exact h.2.1 k hk
theorem rd_heap {w w' : World} {A : Option Addr} {cs : List Value} (h : Rd w A cs) (hk : ∀ k, (cs ≠ [] ∧ ∃ o, A = some ⟨k, o, none⟩) → w'.heap[k]? = w.heap[k]?) : Rd w' A cs := fun j v hv => by
  obtain ⟨b, o, hA, hc⟩ := h j v hv
  refine ⟨b, o, hA, ?_⟩
  have := hk b ⟨fun e => by simp [e] at hv, o, hA⟩
  rw [World.cell?_of_block (w := w) (w' := w') (a := ⟨b, o + j, none⟩) this]
  exact hc
theorem own_heap {w w' : World} {B : Nat} {e : TypeId} {size n : Nat} {v : Value} {xs : List Value} (h : w.ownsRow B e size v n xs) (hk : ∀ k, v.ownBlock = some k → w'.heap[k]? = w.heap[k]?) : w'.ownsRow B e size v n xs := by
  refine ⟨h.1, ?_⟩
  rcases h.2 with h2 | ⟨g, cap, cur, rfl, hg, hh, r⟩
  · exact .inl h2
  · exact .inr ⟨g, cap, cur, rfl, hg, (hk g rfl).trans hh, r⟩
theorem Fc.kept {B : Nat} {w w' : World} {f : Fc} (h : f.holds B w) (hsz : w.heap.size ≤ w'.heap.size) (hk : ∀ k, f.foot k → w'.heap[k]? = w.heap[k]?) : f.holds B w' := by
  cases f with
  | blk g cs T => exact (hk g rfl).trans h
  | rd A cs => exact rd_heap h hk
  | own v n e size xs => exact own_heap h hk
  | inv φ F => exact ⟨h.2.2 w' hk, fun k hF => Nat.lt_of_lt_of_le (h.2.1 k hF) hsz, fun w'' h'' => h.2.2 w'' fun k hF => (h'' k hF).trans (hk k hF)⟩
def Fc.sep (f g : Fc) : Prop := (f.wr || g.wr) = true → ∀ k, f.foot k → g.foot k → False

structure St (X : List Nat) (w0 w : World) (L : List Fc) : Prop where
  bel : Bel X w0 w
  ok : ∀ f ∈ L, f.holds w0.heap.size w
  sep : L.Pairwise Fc.sep
  fresh : ∀ f ∈ L, f.wr = true → ∀ k, f.foot k → w0.heap.size ≤ k ∨ k ∈ X
theorem Fc.base {B B' : Nat} {w : World} {f : Fc} (h : f.holds B w) (hB : B' ≤ B) : f.holds B' w := by
  cases f with
  | own v n e size xs => exact own_base h hB
  | _ => exact h

section
variable {X : List Nat} {w0 w w' : World} {L : List Fc}
theorem St.start (X : List Nat) (w : World) : St X w w [] := ⟨Bel.refl _ _, fun _ h => (List.not_mem_nil h).elim, .nil, fun _ h => (List.not_mem_nil h).elim⟩
theorem St.below (h : St [] w0 w L) : Below w0.heap.size w0 w := h.bel.below
theorem St.size (h : St X w0 w L) : w0.heap.size ≤ w.heap.size := h.bel.size
/-- all that stands stays -/
theorem St.call (h : St X w0 w L) (hb : Below w.heap.size w w') : St X w0 w' L :=
  ⟨h.bel.trans (Bel.of hb) (by simp), fun f hf => Fc.kept (h.ok f hf) hb.size fun k hk => hb.block k (Fc.bound (h.ok f hf) hk), h.sep, h.fresh⟩
theorem St.drew (h : St X w0 w L) : St X w0 w.drew L := h.call ((Below.refl _ _).drew)
theorem St.drewN (h : St X w0 w L) (n : Nat) : St X w0 (w.drewN n) L := h.call ⟨rfl, rfl, rfl, Nat.le_refl _, fun _ _ => rfl⟩
theorem St.cons (h : St X w0 w L) {f : Fc} (hf : f.holds w0.heap.size w) (hs : ∀ g ∈ L, f.sep g) (hfr : f.wr = true → ∀ k, f.foot k → w0.heap.size ≤ k ∨ k ∈ X) : St X w0 w (f :: L) :=
  ⟨h.bel, fun g hg => (List.mem_cons.1 hg).elim (fun e => e ▸ hf) (h.ok g), List.pairwise_cons.2 ⟨hs, h.sep⟩,
   fun g hg => (List.mem_cons.1 hg).elim (fun e => e ▸ hfr) (h.fresh g)⟩
theorem St.sub (h : St X w0 w L) {L' : List Fc} (hs : L'.Sublist L) : St X w0 w L' :=
  ⟨h.bel, fun f hf => h.ok f (hs.subset hf), h.sep.sublist hs, fun f hf => h.fresh f (hs.subset hf)⟩
theorem St.nil (h : St X w0 w L) : St X w0 w [] := h.sub (List.nil_sublist _)
theorem St.tail (h : St X w0 w L) {f : Fc} {L' : List Fc} (e : L = f :: L') : St X w0 w L' := by subst e; exact h.sub (List.sublist_cons_self _ _)
theorem Fc.sep_symm {f g : Fc} (h : f.sep g) : g.sep f := fun hw k a b => h (by rw [Bool.or_comm]; exact hw) k b a
theorem pw_mem : ∀ {L : List Fc}, L.Pairwise Fc.sep → ∀ {f g : Fc}, f ∈ L → g ∈ L → f ≠ g → f.sep g
  | [], _, _, _, hf, _, _ => (List.not_mem_nil hf).elim
  | x :: l, hp, f, g, hf, hg, hne => by
    obtain ⟨h1, h2⟩ := List.pairwise_cons.1 hp
    rcases List.mem_cons.1 hf with h2f | h2f
    · rcases List.mem_cons.1 hg with h2g | h2g
      · exact (hne (h2f.trans h2g.symm)).elim
      · exact h2f ▸ h1 g h2g
    · rcases List.mem_cons.1 hg with h2g | h2g
      · exact Fc.sep_symm (h2g ▸ h1 f h2f)
      · exact pw_mem h2 h2f h2g hne
/-- the order does not matter -/
theorem St.perm (h : St X w0 w L) {L' : List Fc} (hp : L'.Perm L) : St X w0 w L' :=
  ⟨h.bel, fun f hf => h.ok f (hp.mem_iff.1 hf), (hp.symm.pairwise_iff fun hab => Fc.sep_symm hab).1 h.sep, fun f hf => h.fresh f (hp.mem_iff.1 hf)⟩
/-- a block of the call's own -/
theorem St.alloc (h : St X w0 w L) (cs : List Value) (T : TypeId) : St X w0 (w.alloc (.cells cs.toArray T)) (.blk w.heap.size cs T :: L) := by
  have hb : Below w.heap.size w (w.alloc (.cells cs.toArray T)) := (Below.refl _ _).alloc (Nat.le_refl _) _
  refine (h.call hb).cons ?_ ?_ ?_
  · show (w.heap.push _)[w.heap.size]? = _
    simp
  · intro g hg _ k hk hk'
    obtain rfl : k = w.heap.size := hk
    have := Fc.bound (h.ok g hg) hk'
    omega
  · rintro _ k hk
    obtain rfl : k = w.heap.size := hk
    exact .inl h.size
/-- a range that stood when the call began -/
theorem St.arg (h : St X w0 w L) {A : Option Addr} {cs : List Value} (hr : Rd w0 A cs) (hX : ∀ k, (Fc.rd A cs).foot k → k ∉ X) : St X w0 w (.rd A cs :: L) := by
  have hb := fun k (hk : (Fc.rd A cs).foot k) => Fc.bound (B := 0) (f := .rd A cs) hr hk
  refine h.cons (rd_heap hr fun k hk => h.bel.block k (hb k hk) (hX k hk)) ?_ (by intro hw; cases hw)
  intro g hg hw k hk hk'
  have hgw : g.wr = true := by simpa [Fc.wr] using hw
  rcases h.fresh g hg hgw k hk' with h1 | h1
  · have := hb k hk; omega
  · exact hX k hk h1
theorem St.arg0 (h : St [] w0 w L) {A : Option Addr} {cs : List Value} (hr : Rd w0 A cs) : St [] w0 w (.rd A cs :: L) := h.arg hr (by simp)
/-- a part of what is read -/
theorem St.part (h : St X w0 w L) {A A' : Option Addr} {cs cs' : List Value} (hm : Fc.rd A cs ∈ L) (hr : Rd w A' cs') (hf : ∀ k, (Fc.rd A' cs').foot k → (Fc.rd A cs).foot k) : St X w0 w (.rd A' cs' :: L) := by
  refine h.cons hr ?_ (by intro hw; cases hw)
  intro g hg hw k hk hk'
  have hgw : g.wr = true := by simpa [Fc.wr] using hw
  have hs : (Fc.rd A cs).sep g := pw_mem h.sep hm hg (fun e => by rw [← e] at hgw; cases hgw)
  exact hs (by rw [Bool.or_eq_true]; exact .inr hgw) k (hf k hk) hk'
/-- one fact in the place of another -/
inductive Repl (f f' : Fc) : List Fc → List Fc → Prop where
  | head {L : List Fc} : Repl f f' (f :: L) (f' :: L)
  | tail {g : Fc} {L L' : List Fc} (h : Repl f f' L L') : Repl f f' (g :: L) (g :: L')
theorem Repl.mem {f f' : Fc} : ∀ {L L' : List Fc}, Repl f f' L L' → f ∈ L
  | _, _, .head => List.mem_cons_self ..
  | _, _, .tail h => List.mem_cons_of_mem _ h.mem
theorem Repl.old {f f' : Fc} : ∀ {L L' : List Fc}, Repl f f' L L' → ∀ g ∈ L', g = f' ∨ (g ∈ L ∧ (L.Pairwise Fc.sep → g.sep f ∨ False))
  | _, _, .head, g, hg => by
    rcases List.mem_cons.1 hg with h | h
    · exact .inl h
    · exact .inr ⟨List.mem_cons_of_mem _ h, fun hp => .inl (Fc.sep_symm ((List.pairwise_cons.1 hp).1 g h))⟩
  | _, _, .tail (g := x) h, g, hg => by
    rcases List.mem_cons.1 hg with h2 | h2
    · exact .inr ⟨h2 ▸ List.mem_cons_self .., fun hp => .inl (h2 ▸ (List.pairwise_cons.1 hp).1 f h.mem)⟩
    · rcases h.old g h2 with h3 | ⟨h3, h4⟩
      · exact .inl h3
      · exact .inr ⟨List.mem_cons_of_mem _ h3, fun hp => h4 (List.pairwise_cons.1 hp).2⟩
theorem Repl.sep {f f' : Fc} (hw : f'.wr = true → f.wr = true) (hft : ∀ k, f'.foot k → f.foot k) : ∀ {L L' : List Fc}, Repl f f' L L' → L.Pairwise Fc.sep → L'.Pairwise Fc.sep
  | _, _, .head, hp => by
    obtain ⟨h1, h2⟩ := List.pairwise_cons.1 hp
    refine List.pairwise_cons.2 ⟨fun g hg hwr k a b => h1 g hg ?_ k (hft k a) b, h2⟩
    rw [Bool.or_eq_true] at hwr ⊢
    exact hwr.imp hw id
  | _, _, .tail (g := x) h, hp => by
    obtain ⟨h1, h2⟩ := List.pairwise_cons.1 hp
    refine List.pairwise_cons.2 ⟨fun g hg => ?_, h.sep hw hft h2⟩
    rcases h.old g hg with rfl | ⟨h3, _⟩
    · intro hwr k a b
      refine h1 f h.mem ?_ k a (hft k b)
      rw [Bool.or_eq_true] at hwr ⊢
      exact hwr.imp id hw
    · exact h1 g h3
/-- a writing step: one fact turns, what is apart from it stays -/
theorem St.turn (h : St X w0 w L) {f f' : Fc} {L' : List Fc} (hr : Repl f f' L L') (hfw : f.wr = true) (hft : ∀ k, f'.foot k → f.foot k) (hw : f'.holds w0.heap.size w')
    (hos : w'.os = w.os) (htp : w'.tape = w.tape) (hout : w'.output = w.output) (hsz : w.heap.size ≤ w'.heap.size) (hk : ∀ k, k < w.heap.size → ¬ f.foot k → w'.heap[k]? = w.heap[k]?) : St X w0 w' L' := by
  refine ⟨⟨hos.trans h.bel.os, htp.trans h.bel.tape, hout.trans h.bel.output, Nat.le_trans h.size hsz, fun k hlt hX => ?_⟩, fun g hg => ?_, hr.sep (fun _ => hfw) hft h.sep, fun g hg hgw k hgk => ?_⟩
  · refine (hk k (Nat.lt_of_lt_of_le hlt h.size) fun hf => ?_).trans (h.bel.block k hlt hX)
    rcases h.fresh f hr.mem hfw k hf with h1 | h1
    · omega
    · exact hX h1
  · rcases hr.old g hg with rfl | ⟨h3, h4⟩
    · exact hw
    · refine Fc.kept (h.ok g h3) hsz fun k hgk => hk k (Fc.bound (h.ok g h3) hgk) fun hf => ?_
      rcases h4 h.sep with h5 | h5
      · exact h5 (by rw [Bool.or_eq_true]; exact .inr hfw) k hgk hf
      · exact h5
  · rcases hr.old g hg with rfl | ⟨h3, _⟩
    · exact h.fresh f hr.mem hfw k (hft k hgk)
    · exact h.fresh g h3 hgw k hgk
/-- what a call leaves: facts of its own -/
structure Res (X : List Nat) (w w' : World) (N : List Fc) : Prop where
  bel : Bel X w w'
  ok : ∀ f ∈ N, f.holds w.heap.size w'
  sep : N.Pairwise Fc.sep
  fresh : ∀ f ∈ N, ∀ k, f.foot k → w.heap.size ≤ k ∨ k ∈ X
theorem Res.of_below (h : Below w.heap.size w w') : Res [] w w' [] := ⟨Bel.of h, fun _ h => (List.not_mem_nil h).elim, .nil, fun _ h => (List.not_mem_nil h).elim⟩
/-- facts that can be written alone are left -/
theorem St.res (h : St X w0 w L) {N : List Fc} (hN : N.Sublist L) (hw : ∀ f ∈ N, f.wr = true) : Res X w0 w N :=
  ⟨h.bel, fun f hf => h.ok f (hN.subset hf), h.sep.sublist hN, fun f hf => h.fresh f (hN.subset hf) (hw f hf)⟩
/-- behind a call that leaves facts of its own -/
theorem St.ret (h : St X w0 w L) {N : List Fc} (hr : Res [] w w' N) : St X w0 w' (N ++ L) := by
  have hb := hr.bel.below
  have h1 := h.call hb
  refine ⟨h1.bel, fun f hf => ?_, List.pairwise_append.2 ⟨hr.sep, h1.sep, fun f hf g hg _ k a b => ?_⟩, fun f hf hw k hk => ?_⟩
  · rcases List.mem_append.1 hf with hf | hf
    · exact Fc.base (hr.ok f hf) h.size
    · exact h1.ok f hf
  · rcases hr.fresh f hf k a with h2 | h2
    · have := Fc.bound (h.ok g hg) b
      omega
    · simp at h2
  · rcases List.mem_append.1 hf with hf | hf
    · rcases hr.fresh f hf k hk with h2 | h2
      · exact .inl (Nat.le_trans h.size h2)
      · simp at h2
    · exact h1.fresh f hf hw k hk
end
end Go.Proofs.YtgfkbeipckbkiaaDoor
/- S2 -/
namespace Go.Proofs.YtgfkbeipckbkiaaDoor
set_option linter.unusedSimpArgs false
set_option linter.unusedVariables false
open Go.RowKit

class TRow (P : Program) (T : TypeId) (n : outParam Nat) : Prop where
  und : ∃ d, P.underlying T = some d ∧ d.isRow = true
  size : (P.info? T).map (·.size) = some n
class TOne (P : Program) (T : TypeId) : Prop where
  und : ∃ d, P.underlying T = some d ∧ d.isRow = false
  size : (P.info? T).map (·.size) = some 1
class TZ (P : Program) (T : TypeId) (cs : outParam (List Value)) : Prop where
  zero : ∃ z, (P.info? T).map (fun i => (i.zero, i.size)) = some (some z, z.cells.size) ∧ z.cells = cs.toArray
class TS (P : Program) (T : TypeId) (e size bytes : outParam Nat) (z : outParam Value) : Prop where
  el : ElT P T e size bytes z
/-- so many cells, each one by itself -/
class Row (cs : List Value) (n : outParam Nat) : Prop where
  len : cs.length = n
  one : ∀ v ∈ cs, v.oneCell' = true
class CellAt (cs : List Value) (off : Nat) (v : outParam Value) : Prop where
  at_ : cs[off]? = some v
class RowAt (cs : List Value) (off n : Nat) (out : outParam (List Value)) : Prop where
  at_ : ∀ j v, out[j]? = some v → cs[off + j]? = some v
  len : out.length = n
class SetAt (cs : List Value) (off : Nat) (new : List Value) (out : outParam (List Value)) : Prop where
  eq : out = cs.take off ++ new ++ cs.drop (off + new.length)
  fit : off + new.length ≤ cs.length

instance (v : Value) (l : List Value) : CellAt (v :: l) 0 v := ⟨rfl⟩
instance (u v : Value) (l : List Value) (n : Nat) [h : CellAt l n v] : CellAt (u :: l) (n + 1) v := ⟨h.at_⟩
theorem RowAt.whole {cs : List Value} {n : Nat} (h : cs.length = n) : RowAt cs 0 n cs := ⟨fun j v hv => by rw [Nat.zero_add]; exact hv, h⟩
theorem SetAt.whole {cs new : List Value} (h : cs.length = new.length) : SetAt cs 0 new new :=
  ⟨by rw [Nat.zero_add, ← h, List.drop_length, List.append_nil, List.take_zero, List.nil_append], by omega⟩
instance (b : B32) : Row b.cells 32 := ⟨B32.cells_length b, B32.cells_one b⟩
instance (b : B32) : RowAt b.cells 0 32 b.cells := .whole (B32.cells_length b)
instance (b c : B32) : SetAt b.cells 0 c.cells c.cells := .whole (by rw [B32.cells_length, B32.cells_length])
instance (u v : Value) (l : List Value) : SetAt (u :: l) 0 [v] (v :: l) := ⟨by simp, by simp⟩
instance (u v : Value) (l out : List Value) (n : Nat) [h : SetAt l n [v] out] : SetAt (u :: l) (n + 1) [v] (u :: out) := ⟨by rw [h.eq]; simp [Nat.add_right_comm], by have := h.fit; simp at this ⊢; omega⟩

/-! facts that are found by their block -/
class HasB (g : Nat) (L : List Fc) (cs : outParam (List Value)) (T : outParam TypeId) : Prop where
  mem : Fc.blk g cs T ∈ L
instance (priority := 100) (g : Nat) (f : Fc) (L : List Fc) (cs : List Value) (T : TypeId) [h : HasB g L cs T] : HasB g (f :: L) cs T := ⟨List.mem_cons_of_mem _ h.mem⟩
instance (g : Nat) (L : List Fc) (cs : List Value) (T : TypeId) : HasB g (.blk g cs T :: L) cs T := ⟨List.mem_cons_self ..⟩
class HasR (b O : Nat) (L : List Fc) (o off : outParam Nat) (cs : outParam (List Value)) : Prop where
  mem : Fc.rd (some ⟨b, o, none⟩) cs ∈ L
  off : O = o + off
instance (priority := 100) (b O : Nat) (f : Fc) (L : List Fc) (o off : Nat) (cs : List Value) [h : HasR b O L o off cs] : HasR b O (f :: L) o off cs := ⟨List.mem_cons_of_mem _ h.mem, h.off⟩
instance (b o off : Nat) (L : List Fc) (cs : List Value) : HasR b (o + off) (.rd (some ⟨b, o, none⟩) cs :: L) o off cs := ⟨List.mem_cons_self .., rfl⟩
instance (b o : Nat) (L : List Fc) (cs : List Value) : HasR b o (.rd (some ⟨b, o, none⟩) cs :: L) o 0 cs := ⟨List.mem_cons_self .., rfl⟩
/-- a slice: its cells -/
class HasA (A : Option Addr) (L : List Fc) (cs : outParam (List Value)) : Prop where
  mem : Fc.rd A cs ∈ L
instance (priority := 100) (A : Option Addr) (f : Fc) (L : List Fc) (cs : List Value) [h : HasA A L cs] : HasA A (f :: L) cs := ⟨List.mem_cons_of_mem _ h.mem⟩
instance (A : Option Addr) (L : List Fc) (cs : List Value) : HasA A (.rd A cs :: L) cs := ⟨List.mem_cons_self ..⟩
/-- a row of one's own -/
class HasO (v : Value) (L : List Fc) (n : outParam Nat) (e : outParam TypeId) (size : outParam Nat) (xs : outParam (List Value)) : Prop where
  mem : Fc.own v n e size xs ∈ L
instance (priority := 100) (v : Value) (f : Fc) (L : List Fc) (n e size : Nat) (xs : List Value) [h : HasO v L n e size xs] : HasO v (f :: L) n e size xs := ⟨List.mem_cons_of_mem _ h.mem⟩
instance (v : Value) (L : List Fc) (n e size : Nat) (xs : List Value) : HasO v (.own v n e size xs :: L) n e size xs := ⟨List.mem_cons_self ..⟩
class RepB (g : Nat) (cs cs' : List Value) (T : TypeId) (L : List Fc) (L' : outParam (List Fc)) : Prop where
  rep : Repl (.blk g cs T) (.blk g cs' T) L L'
instance (priority := 100) (g : Nat) (cs cs' : List Value) (T : TypeId) (f : Fc) (L L' : List Fc) [h : RepB g cs cs' T L L'] : RepB g cs cs' T (f :: L) (f :: L') := ⟨.tail h.rep⟩
instance (g : Nat) (cs cs' : List Value) (T : TypeId) (L : List Fc) : RepB g cs cs' T (.blk g cs T :: L) (.blk g cs' T :: L) := ⟨.head⟩
class RepO (v v' : Value) (n n' : Nat) (e : TypeId) (size : Nat) (xs xs' : List Value) (L : List Fc) (L' : outParam (List Fc)) : Prop where
  rep : Repl (.own v n e size xs) (.own v' n' e size xs') L L'
instance (priority := 100) (v v' : Value) (n n' : Nat) (e : TypeId) (size : Nat) (xs xs' : List Value) (f : Fc) (L L' : List Fc) [h : RepO v v' n n' e size xs xs' L L'] : RepO v v' n n' e size xs xs' (f :: L) (f :: L') := ⟨.tail h.rep⟩
instance (v v' : Value) (n n' : Nat) (e : TypeId) (size : Nat) (xs xs' : List Value) (L : List Fc) : RepO v v' n n' e size xs xs' (.own v n e size xs :: L) (.own v' n' e size xs' :: L) := ⟨.head⟩

section
variable {P : Program} {X : List Nat} {w0 w : World} {L : List Fc} {a : Act} {o : Oper}
theorem St.blk (h : St X w0 w L) {g : Nat} {cs : List Value} {T : TypeId} (hm : Fc.blk g cs T ∈ L) : w.heap[g]? = some (.cells cs.toArray T (0, 0)) := h.ok _ hm
theorem St.rd (h : St X w0 w L) {A : Option Addr} {cs : List Value} (hm : Fc.rd A cs ∈ L) : Rd w A cs := h.ok _ hm
theorem St.own (h : St X w0 w L) {v : Value} {n : Nat} {e : TypeId} {size : Nat} {xs : List Value} (hm : Fc.own v n e size xs ∈ L) : w.ownsRow w0.heap.size e size v n xs := h.ok _ hm
theorem ex_row {T T' : TypeId} {n : Nat} {x : Operand} [hT : TRow P T n] {g off : Nat} {cs out : List Value} [hr : RowAt cs off n out] (ho : o.op = .load T x) (hx : a.eval x = .pointer (some ⟨g, off, none⟩)) (hb : w.heap[g]? = some (.cells cs.toArray T' (0, 0))) :
    (execOp a.eval o).run P w = .ok (.value (.agg out.toArray)) w := by
  obtain ⟨d, hu, hd⟩ := hT.und
  refine ex_load_row ho hx (cs := out) (fun j v hv => ?_) hu hd (by rw [hr.len]; exact hT.size)
  rw [cell_of_row w g (off + j) cs.toArray T' (0, 0) hb]
  simpa using hr.at_ j v hv
theorem ex_cell {T T' : TypeId} {x : Operand} [hT : TOne P T] {g off : Nat} {cs : List Value} {v : Value} [hr : CellAt cs off v] (ho : o.op = .load T x) (hx : a.eval x = .pointer (some ⟨g, off, none⟩)) (hb : w.heap[g]? = some (.cells cs.toArray T' (0, 0))) :
    (execOp a.eval o).run P w = .ok (.value v) w := by
  obtain ⟨d, hu, hd⟩ := hT.und
  refine ex_load_cell ho hx ?_ hu hd
  rw [cell_of_row w g off cs.toArray T' (0, 0) hb]
  simpa using hr.at_
theorem ex_rowR {T : TypeId} {n : Nat} {x : Operand} [hT : TRow P T n] {b o1 off : Nat} {cs out : List Value} [hr : RowAt cs off n out] (ho : o.op = .load T x) (hx : a.eval x = .pointer (some ⟨b, o1 + off, none⟩)) (hb : Rd w (some ⟨b, o1, none⟩) cs) :
    (execOp a.eval o).run P w = .ok (.value (.agg out.toArray)) w := by
  obtain ⟨d, hu, hd⟩ := hT.und
  refine ex_load_row ho hx (cs := out) (fun j v hv => ?_) hu hd (by rw [hr.len]; exact hT.size)
  have := hb.range _ v (hr.at_ j v hv)
  rwa [← Nat.add_assoc] at this
theorem ex_cellR {T : TypeId} {x : Operand} [hT : TOne P T] {b o1 off : Nat} {cs : List Value} {v : Value} [hr : CellAt cs off v] (ho : o.op = .load T x) (hx : a.eval x = .pointer (some ⟨b, o1 + off, none⟩)) (hb : Rd w (some ⟨b, o1, none⟩) cs) :
    (execOp a.eval o).run P w = .ok (.value v) w := by
  obtain ⟨d, hu, hd⟩ := hT.und
  exact ex_load_cell ho hx (hb.range _ v hr.at_) hu hd
/-! the same, out of St -/
theorem xRow {T T' : TypeId} {n : Nat} {x : Operand} [TRow P T n] {g off : Nat} {cs out : List Value} (hS : St X w0 w L) (ho : o.op = .load T x) (hx : a.eval x = .pointer (some ⟨g, off, none⟩)) [hm : HasB g L cs T'] [RowAt cs off n out] :
    (execOp a.eval o).run P w = .ok (.value (.agg out.toArray)) w := ex_row ho hx (hS.blk hm.mem)
theorem xCell {T T' : TypeId} {x : Operand} [TOne P T] {g off : Nat} {cs : List Value} {v : Value} (hS : St X w0 w L) (ho : o.op = .load T x) (hx : a.eval x = .pointer (some ⟨g, off, none⟩)) [hm : HasB g L cs T'] [CellAt cs off v] :
    (execOp a.eval o).run P w = .ok (.value v) w := ex_cell ho hx (hS.blk hm.mem)
theorem xRowR {T : TypeId} {n : Nat} {x : Operand} [TRow P T n] {b O o1 off : Nat} {cs out : List Value} (hS : St X w0 w L) (ho : o.op = .load T x) (hx : a.eval x = .pointer (some ⟨b, O, none⟩)) [hm : HasR b O L o1 off cs] [RowAt cs off n out] :
    (execOp a.eval o).run P w = .ok (.value (.agg out.toArray)) w := ex_rowR ho (hm.off ▸ hx) (hS.rd hm.mem)
theorem xCellR {T : TypeId} {x : Operand} [TOne P T] {b O o1 off : Nat} {cs : List Value} {v : Value} (hS : St X w0 w L) (ho : o.op = .load T x) (hx : a.eval x = .pointer (some ⟨b, O, none⟩)) [hm : HasR b O L o1 off cs] [CellAt cs off v] :
    (execOp a.eval o).run P w = .ok (.value v) w := ex_cellR ho (hm.off ▸ hx) (hS.rd hm.mem)
/-- one cell of a row of cells that have one form -/
theorem xNth {T T' : TypeId} {x : Operand} [TOne P T] {g off : Nat} {cs : List Value} {v : Value} (hS : St X w0 w L) (ho : o.op = .load T x) (hx : a.eval x = .pointer (some ⟨g, off, none⟩)) [hm : HasB g L cs T'] (hc : cs[off]? = some v) :
    (execOp a.eval o).run P w = .ok (.value v) w := @ex_cell P w a o T T' x _ g off cs v ⟨hc⟩ ho hx (hS.blk hm.mem)
theorem xNthR {T : TypeId} {x : Operand} [TOne P T] {b o1 off O : Nat} {cs : List Value} {v : Value} (hS : St X w0 w L) (ho : o.op = .load T x) (hx : a.eval x = .pointer (some ⟨b, O, none⟩)) [hm : HasR b O L o1 off cs] (hc : cs[off]? = some v) :
    (execOp a.eval o).run P w = .ok (.value v) w := @ex_cellR P w a o T x _ b o1 off cs v ⟨hc⟩ ho (hm.off ▸ hx) (hS.rd hm.mem)
theorem xBox {T : TypeId} {x : Operand} {v : Value} {cs : List Value} (ho : o.op = .box T x) (hx : a.eval x = v) (hv : v.cells = cs.toArray) : (execOp a.eval o).run P w = .ok (.value (.pointer (some ⟨w.heap.size, 0, none⟩))) (w.alloc (.cells cs.toArray T)) := by
  unfold execOp
  simp only [ho, hx, Instr.box, newVar, newRow, newObj, Sem.run_bind, Sem.run_pure, hv]
  rfl
theorem xAlloc {T : TypeId} {cs : List Value} [hz : TZ P T cs] (ho : o.op = .alloc T) : (execOp a.eval o).run P w = .ok (.value (.pointer (some ⟨w.heap.size, 0, none⟩))) (w.alloc (.cells cs.toArray T)) := by
  obtain ⟨z, h1, h2⟩ := hz.zero
  rw [← h2]
  exact ex_alloc ho h1
end
section
variable {P : Program} {X : List Nat} {w0 w : World} {L L' : List Fc} {a : Act} {ops : Array Oper} {rest : List Oper} {Q : Exit → Act → World → Prop} {d : Option Tmp} {ty : TypeId} {pos : String} {af : Array Edge}
theorem sBox {T : TypeId} {x : Operand} {cs : List Value} (hS : St X w0 w L) (hx : a.eval x = .agg cs.toArray)
    (h : ∀ g w', St X w0 w' (.blk g cs T :: L) → wpList P ops Q rest (a.put d (.pointer (some ⟨g, 0, none⟩))) w') : wpList P ops Q (⟨d, .box T x, ty, pos, af, none⟩ :: rest) a w :=
  wpl_run rfl (xBox rfl hx rfl) (h _ _ (hS.alloc cs T))
theorem sBox1 {T : TypeId} {x : Operand} {v : Value} (hS : St X w0 w L) (hx : a.eval x = v) (hv : v.cells = #[v])
    (h : ∀ g w', St X w0 w' (.blk g [v] T :: L) → wpList P ops Q rest (a.put d (.pointer (some ⟨g, 0, none⟩))) w') : wpList P ops Q (⟨d, .box T x, ty, pos, af, none⟩ :: rest) a w :=
  wpl_run rfl (xBox (cs := [v]) rfl hx hv) (h _ _ (hS.alloc [v] T))
theorem sAlloc {T : TypeId} {cs : List Value} [TZ P T cs] (hS : St X w0 w L)
    (h : ∀ g w', St X w0 w' (.blk g cs T :: L) → wpList P ops Q rest (a.put d (.pointer (some ⟨g, 0, none⟩))) w') : wpList P ops Q (⟨d, .alloc T, ty, pos, af, none⟩ :: rest) a w :=
  wpl_run rfl (xAlloc rfl) (h _ _ (hS.alloc cs T))
theorem St.put (h : St X w0 w L) {w' : World} {g : Nat} {cs cs' : List Value} {T : TypeId} (hr : Repl (.blk g cs T) (.blk g cs' T) L L') (hb : w'.heap[g]? = some (.cells cs'.toArray T (0, 0))) (hbel : ∀ B w0, Below B w0 w → B ≤ g → Below B w0 w')
    (hsz : w'.heap.size = w.heap.size) (hk : ∀ k, k ≠ g → w'.heap[k]? = w.heap[k]?) : St X w0 w' L' := by
  have h0 := hbel 0 w (Below.refl _ _) (Nat.zero_le _)
  exact h.turn hr rfl (fun k hk => hk) hb h0.os h0.tape h0.output (by omega) fun k _ hne => hk k hne
/-- a value of many cells into a block of one's own, from its head on or in its midst -/
theorem sStore {T T' : TypeId} {n : Nat} {p x : Operand} [hT : TRow P T n] {g off : Nat} {cs new cs' : List Value} (hS : St X w0 w L) (hp : a.eval p = .pointer (some ⟨g, off, none⟩)) (hx : a.eval x = .agg new.toArray) [hm : HasB g L cs T'] [hn : Row new n] [hs : SetAt cs off new cs'] [hr : RepB g cs cs' T' L L']
    (h : ∀ w', St X w0 w' L' → wpList P ops Q rest (a.put d undef) w') : wpList P ops Q (⟨d, .store T p x, ty, pos, af, none⟩ :: rest) a w := by
  refine wplStoreMid rfl rfl hp hx (hS.blk hm.mem) (by rw [hn.len]; exact hT.size) (by simpa using hs.fit) hn.one ?_
  intro w' h1 h2 h3 h4
  refine h w' (hS.put hr.rep ?_ h4 h2 h3)
  rw [hs.eq]
  simpa using h1
theorem sStore1 {T T' : TypeId} {p x : Operand} [hT : TOne P T] {g off : Nat} {cs cs' : List Value} {v : Value} (hS : St X w0 w L) (hp : a.eval p = .pointer (some ⟨g, off, none⟩)) (hx : a.eval x = v) (hv : v.oneCell' = true) [hm : HasB g L cs T'] [hs : SetAt cs off [v] cs'] [hr : RepB g cs cs' T' L L']
    (h : ∀ w', St X w0 w' L' → wpList P ops Q rest (a.put d undef) w') : wpList P ops Q (⟨d, .store T p x, ty, pos, af, none⟩ :: rest) a w := by
  have hf := hs.fit
  simp only [List.length_singleton] at hf
  refine wplStoreCell rfl rfl hp hx (hS.blk hm.mem) hT.size (by simpa using Nat.lt_of_succ_le hf) hv ?_
  intro w' h1 h2 h3 h4
  refine h w' (hS.put hr.rep ?_ h4 h2 h3)
  rw [hs.eq]
  rw [List.setIfInBounds_toArray] at h1
  rw [h1, List.length_singleton, List.set_eq_take_append_cons_drop, if_pos (by omega)]
  simp
end
end Go.Proofs.YtgfkbeipckbkiaaDoor
/- V1 -/
namespace Go.Proofs.YtgfkbeipckbkiaaDoor
set_option linter.unusedSimpArgs false
set_option linter.unusedVariables false
open Go.RowKit
structure Sl where
  A : Option Addr
  n : Nat
  c : Nat
theorem RowAt.mk' {cs pre out post : List Value} {off n : Nat} (h : cs = pre ++ (out ++ post)) (hp : pre.length = off) (ho : out.length = n) : RowAt cs off n out := by
  subst h; subst hp
  refine ⟨fun j v hv => ?_, ho⟩
  rw [List.getElem?_append_right (by omega), Nat.add_sub_cancel_left, List.getElem?_append_left (by have := (List.getElem?_eq_some_iff.1 hv).1; exact this)]
  exact hv
theorem CellAt.mk' {cs pre post : List Value} {off : Nat} {v : Value} (h : cs = pre ++ (v :: post)) (hp : pre.length = off) : CellAt cs off v := by
  subst h; subst hp
  exact ⟨by simp⟩
theorem SetAt.mk' {cs pre old new post out : List Value} {off : Nat} (h : cs = pre ++ (old ++ post)) (h' : out = pre ++ (new ++ post)) (hp : pre.length = off) (hl : old.length = new.length) : SetAt cs off new out := by
  subst h; subst hp; subst h'
  refine ⟨?_, by simp [hl]⟩
  rw [List.take_left, ← hl, List.drop_append, List.drop_of_length_le (by omega), Nat.add_sub_cancel_left, List.drop_left]
  simp
/-- a value of one cell -/
class OneC (v : Value) : Prop where
  one : v.oneCell' = true
instance (t : TypeId) (v : Value) : OneC (.iface t v) := ⟨rfl⟩
instance : OneC .nilIface := ⟨rfl⟩
/-- the cells of one value -/
class VCells (v : Value) (cs : outParam (List Value)) : Prop where
  eq : v.cells = cs.toArray
instance (cs : List Value) : VCells (.agg cs.toArray) cs := ⟨rfl⟩
instance (k : IntKind) (n : Int) : VCells (.int k n) [.int k n] := ⟨rfl⟩
instance (b : Bool) : VCells (.bool b) [.bool b] := ⟨rfl⟩
instance (s : ByteArray) : VCells (.string s) [.string s] := ⟨rfl⟩
instance (p : Option Addr) : VCells (.pointer p) [.pointer p] := ⟨rfl⟩
instance (A : Option Addr) (n c : Nat) : VCells (.slice A n c) [.slice A n c] := ⟨rfl⟩
instance : VCells .nilIface [.nilIface] := ⟨rfl⟩
instance (t : TypeId) (v : Value) : VCells (.iface t v) [.iface t v] := ⟨rfl⟩
instance : VCells .nilFunc [.nilFunc] := ⟨rfl⟩
instance (f : Fn) (c d : Array Value) : VCells (.func f c d) [.func f c d] := ⟨rfl⟩
/-- part i of a struct or an array: where it stands, how many cells it has -/
class TF (P : Program) (T : TypeId) (i : Nat) (off n : outParam Nat) : Prop where
  off : ∃ d, P.underlying T = some d ∧ ((∃ fs f, d = .struct fs ∧ fs[i]? = some f ∧ f.offset = off ∧ (P.info? f.type).map (·.size) = some n) ∨ ∃ m e, d = .array m e ∧ (P.info? e).map (·.size) = some n ∧ off = i * n)
class Builds (P : Program) (T : TypeId) (cs : List Value) (ps : List (Nat × Value)) (out : outParam (List Value)) : Prop where
  eq : True

instance (x : Leaf) : Row x.cells 64 := ⟨Leaf.cells_length x, Leaf.cells_one x⟩
instance (x : Leaf) : RowAt x.cells 0 64 x.cells := .whole (Leaf.cells_length x)
instance (x y : Leaf) : SetAt x.cells 0 y.cells y.cells := .whole (by rw [Leaf.cells_length, Leaf.cells_length])
instance (x : Leaf) : RowAt x.cells 0 32 x.key.cells := .mk' (pre := []) (post := (x.value.cells)) (by simp [Leaf.cells]) (by rfl) (B32.cells_length _)
instance (x : Leaf) (y : B32) : SetAt x.cells 0 y.cells ({ x with key := y } : Leaf).cells := .mk' (pre := []) (old := x.key.cells) (post := (x.value.cells)) (by simp [Leaf.cells]) (by simp [Leaf.cells]) (by rfl) (by rw [B32.cells_length, B32.cells_length])
instance (x : Leaf) : RowAt x.cells 32 32 x.value.cells := .mk' (pre := (x.key.cells)) (post := []) (by simp [Leaf.cells]) (by simp [B32.cells_length, Leaf.cells_length, Item.cells_length]) (B32.cells_length _)
instance (x : Leaf) (y : B32) : SetAt x.cells 32 y.cells ({ x with value := y } : Leaf).cells := .mk' (pre := (x.key.cells)) (old := x.value.cells) (post := []) (by simp [Leaf.cells]) (by simp [Leaf.cells]) (by simp [B32.cells_length, Leaf.cells_length, Item.cells_length]) (by rw [B32.cells_length, B32.cells_length])
instance (x : Item) : Row x.cells 97 := ⟨Item.cells_length x, Item.cells_one x⟩
instance (x : Item) : RowAt x.cells 0 97 x.cells := .whole (Item.cells_length x)
instance (x y : Item) : SetAt x.cells 0 y.cells y.cells := .whole (by rw [Item.cells_length, Item.cells_length])
instance (x : Item) : CellAt x.cells 0 (.int .i64 x.kind) := .mk' (pre := []) (post := (x.digest.cells ++ x.leaf.cells)) (by simp [Leaf.cells, Item.cells]) (by rfl)
instance (x : Item) (y : Int) : SetAt x.cells 0 [.int .i64 y] ({ x with kind := y } : Item).cells := .mk' (pre := []) (old := [.int .i64 x.kind]) (post := (x.digest.cells ++ x.leaf.cells)) (by simp [Leaf.cells, Item.cells]) (by simp [Leaf.cells, Item.cells]) (by rfl) rfl
instance (x : Item) : RowAt x.cells 1 32 x.digest.cells := .mk' (pre := ([.int .i64 x.kind])) (post := (x.leaf.cells)) (by simp [Leaf.cells, Item.cells]) (by simp [B32.cells_length, Leaf.cells_length, Item.cells_length]) (B32.cells_length _)
instance (x : Item) (y : B32) : SetAt x.cells 1 y.cells ({ x with digest := y } : Item).cells := .mk' (pre := ([.int .i64 x.kind])) (old := x.digest.cells) (post := (x.leaf.cells)) (by simp [Leaf.cells, Item.cells]) (by simp [Leaf.cells, Item.cells]) (by simp [B32.cells_length, Leaf.cells_length, Item.cells_length]) (by rw [B32.cells_length, B32.cells_length])
instance (x : Item) : RowAt x.cells 33 64 x.leaf.cells := .mk' (pre := ([.int .i64 x.kind] ++ x.digest.cells)) (post := []) (by simp [Item.cells]) (by simp [B32.cells_length, Leaf.cells_length, Item.cells_length]) (Leaf.cells_length _)
instance (x : Item) (y : Leaf) : SetAt x.cells 33 y.cells ({ x with leaf := y } : Item).cells := .mk' (pre := ([.int .i64 x.kind] ++ x.digest.cells)) (old := x.leaf.cells) (post := []) (by simp [Item.cells]) (by simp [Item.cells]) (by simp [B32.cells_length, Leaf.cells_length, Item.cells_length]) (by rw [Leaf.cells_length, Leaf.cells_length])
instance (x : Item) : RowAt x.cells 33 32 x.leaf.key.cells := .mk' (pre := ([.int .i64 x.kind] ++ x.digest.cells)) (post := (x.leaf.value.cells)) (by simp [Leaf.cells, Item.cells]) (by simp [B32.cells_length, Leaf.cells_length, Item.cells_length]) (B32.cells_length _)
instance (x : Item) (y : B32) : SetAt x.cells 33 y.cells ({ x with leaf.key := y } : Item).cells := .mk' (pre := ([.int .i64 x.kind] ++ x.digest.cells)) (old := x.leaf.key.cells) (post := (x.leaf.value.cells)) (by simp [Leaf.cells, Item.cells]) (by simp [Leaf.cells, Item.cells]) (by simp [B32.cells_length, Leaf.cells_length, Item.cells_length]) (by rw [B32.cells_length, B32.cells_length])
instance (x : Item) : RowAt x.cells 65 32 x.leaf.value.cells := .mk' (pre := ([.int .i64 x.kind] ++ x.digest.cells ++ x.leaf.key.cells)) (post := []) (by simp [Leaf.cells, Item.cells]) (by simp [B32.cells_length, Leaf.cells_length, Item.cells_length]) (B32.cells_length _)
instance (x : Item) (y : B32) : SetAt x.cells 65 y.cells ({ x with leaf.value := y } : Item).cells := .mk' (pre := ([.int .i64 x.kind] ++ x.digest.cells ++ x.leaf.key.cells)) (old := x.leaf.value.cells) (post := []) (by simp [Leaf.cells, Item.cells]) (by simp [Leaf.cells, Item.cells]) (by simp [B32.cells_length, Leaf.cells_length, Item.cells_length]) (by rw [B32.cells_length, B32.cells_length])
structure Proof where
  kind : Int
  depth : Int
  leaf : Leaf
  bitmap : B32
  sibs : Sl
def Proof.cells (x : Proof) : List Value := [.int .i64 x.kind] ++ ([.int .i64 x.depth] ++ (x.leaf.cells ++ (x.bitmap.cells ++ ([.slice x.sibs.A x.sibs.n x.sibs.c] ++ []))))
def zProof : Proof := ⟨0, 0, zLeaf, zB32, ⟨none, 0, 0⟩⟩
theorem Proof.cells_length (x : Proof) : x.cells.length = 99 := by simp [Proof.cells, B32.cells_length, Leaf.cells_length, Item.cells_length]
theorem Proof.cells_one (x : Proof) : ∀ v ∈ x.cells, v.oneCell' = true := by
  intro v hv
  simp only [Proof.cells, List.mem_append, List.mem_singleton, List.not_mem_nil, or_false] at hv
  rcases hv with rfl | rfl | h | h | rfl
  · exact rfl
  · exact rfl
  · exact Leaf.cells_one _ v h
  · exact B32.cells_one _ v h
  · exact rfl
instance (x : Proof) : Row x.cells 99 := ⟨Proof.cells_length x, Proof.cells_one x⟩
instance (x : Proof) : RowAt x.cells 0 99 x.cells := .whole (Proof.cells_length x)
instance (x y : Proof) : SetAt x.cells 0 y.cells y.cells := .whole (by rw [Proof.cells_length, Proof.cells_length])
instance (x : Proof) : CellAt x.cells 0 (.int .i64 x.kind) := .mk' (pre := []) (post := ([.int .i64 x.depth] ++ x.leaf.cells ++ x.bitmap.cells ++ [.slice x.sibs.A x.sibs.n x.sibs.c])) (by simp [Leaf.cells, Proof.cells]) (by rfl)
instance (x : Proof) (y : Int) : SetAt x.cells 0 [.int .i64 y] ({ x with kind := y } : Proof).cells := .mk' (pre := []) (old := [.int .i64 x.kind]) (post := ([.int .i64 x.depth] ++ x.leaf.cells ++ x.bitmap.cells ++ [.slice x.sibs.A x.sibs.n x.sibs.c])) (by simp [Leaf.cells, Proof.cells]) (by simp [Leaf.cells, Proof.cells]) (by rfl) rfl
instance (x : Proof) : CellAt x.cells 1 (.int .i64 x.depth) := .mk' (pre := ([.int .i64 x.kind])) (post := (x.leaf.cells ++ x.bitmap.cells ++ [.slice x.sibs.A x.sibs.n x.sibs.c])) (by simp [Leaf.cells, Proof.cells]) (by simp [B32.cells_length, Leaf.cells_length, Item.cells_length])
instance (x : Proof) (y : Int) : SetAt x.cells 1 [.int .i64 y] ({ x with depth := y } : Proof).cells := .mk' (pre := ([.int .i64 x.kind])) (old := [.int .i64 x.depth]) (post := (x.leaf.cells ++ x.bitmap.cells ++ [.slice x.sibs.A x.sibs.n x.sibs.c])) (by simp [Leaf.cells, Proof.cells]) (by simp [Leaf.cells, Proof.cells]) (by simp [B32.cells_length, Leaf.cells_length, Item.cells_length]) rfl
instance (x : Proof) : RowAt x.cells 2 64 x.leaf.cells := .mk' (pre := ([.int .i64 x.kind] ++ [.int .i64 x.depth])) (post := (x.bitmap.cells ++ [.slice x.sibs.A x.sibs.n x.sibs.c])) (by simp [Proof.cells]) (by simp [B32.cells_length, Leaf.cells_length, Item.cells_length]) (Leaf.cells_length _)
instance (x : Proof) (y : Leaf) : SetAt x.cells 2 y.cells ({ x with leaf := y } : Proof).cells := .mk' (pre := ([.int .i64 x.kind] ++ [.int .i64 x.depth])) (old := x.leaf.cells) (post := (x.bitmap.cells ++ [.slice x.sibs.A x.sibs.n x.sibs.c])) (by simp [Proof.cells]) (by simp [Proof.cells]) (by simp [B32.cells_length, Leaf.cells_length, Item.cells_length]) (by rw [Leaf.cells_length, Leaf.cells_length])
instance (x : Proof) : RowAt x.cells 2 32 x.leaf.key.cells := .mk' (pre := ([.int .i64 x.kind] ++ [.int .i64 x.depth])) (post := (x.leaf.value.cells ++ x.bitmap.cells ++ [.slice x.sibs.A x.sibs.n x.sibs.c])) (by simp [Leaf.cells, Proof.cells]) (by simp [B32.cells_length, Leaf.cells_length, Item.cells_length]) (B32.cells_length _)
instance (x : Proof) (y : B32) : SetAt x.cells 2 y.cells ({ x with leaf.key := y } : Proof).cells := .mk' (pre := ([.int .i64 x.kind] ++ [.int .i64 x.depth])) (old := x.leaf.key.cells) (post := (x.leaf.value.cells ++ x.bitmap.cells ++ [.slice x.sibs.A x.sibs.n x.sibs.c])) (by simp [Leaf.cells, Proof.cells]) (by simp [Leaf.cells, Proof.cells]) (by simp [B32.cells_length, Leaf.cells_length, Item.cells_length]) (by rw [B32.cells_length, B32.cells_length])
instance (x : Proof) : RowAt x.cells 34 32 x.leaf.value.cells := .mk' (pre := ([.int .i64 x.kind] ++ [.int .i64 x.depth] ++ x.leaf.key.cells)) (post := (x.bitmap.cells ++ [.slice x.sibs.A x.sibs.n x.sibs.c])) (by simp [Leaf.cells, Proof.cells]) (by simp [B32.cells_length, Leaf.cells_length, Item.cells_length]) (B32.cells_length _)
instance (x : Proof) (y : B32) : SetAt x.cells 34 y.cells ({ x with leaf.value := y } : Proof).cells := .mk' (pre := ([.int .i64 x.kind] ++ [.int .i64 x.depth] ++ x.leaf.key.cells)) (old := x.leaf.value.cells) (post := (x.bitmap.cells ++ [.slice x.sibs.A x.sibs.n x.sibs.c])) (by simp [Leaf.cells, Proof.cells]) (by simp [Leaf.cells, Proof.cells]) (by simp [B32.cells_length, Leaf.cells_length, Item.cells_length]) (by rw [B32.cells_length, B32.cells_length])
instance (x : Proof) : RowAt x.cells 66 32 x.bitmap.cells := .mk' (pre := ([.int .i64 x.kind] ++ [.int .i64 x.depth] ++ x.leaf.cells)) (post := ([.slice x.sibs.A x.sibs.n x.sibs.c])) (by simp [Leaf.cells, Proof.cells]) (by simp [B32.cells_length, Leaf.cells_length, Item.cells_length]) (B32.cells_length _)
instance (x : Proof) (y : B32) : SetAt x.cells 66 y.cells ({ x with bitmap := y } : Proof).cells := .mk' (pre := ([.int .i64 x.kind] ++ [.int .i64 x.depth] ++ x.leaf.cells)) (old := x.bitmap.cells) (post := ([.slice x.sibs.A x.sibs.n x.sibs.c])) (by simp [Leaf.cells, Proof.cells]) (by simp [Leaf.cells, Proof.cells]) (by simp [B32.cells_length, Leaf.cells_length, Item.cells_length]) (by rw [B32.cells_length, B32.cells_length])
instance (x : Proof) : CellAt x.cells 98 (.slice x.sibs.A x.sibs.n x.sibs.c) := .mk' (pre := ([.int .i64 x.kind] ++ [.int .i64 x.depth] ++ x.leaf.cells ++ x.bitmap.cells)) (post := []) (by simp [Leaf.cells, Proof.cells]) (by simp [B32.cells_length, Leaf.cells_length, Item.cells_length])
instance (x : Proof) (A : Option Addr) (m c : Nat) : SetAt x.cells 98 [.slice A m c] ({ x with sibs := ⟨A, m, c⟩ } : Proof).cells := .mk' (pre := ([.int .i64 x.kind] ++ [.int .i64 x.depth] ++ x.leaf.cells ++ x.bitmap.cells)) (old := [.slice x.sibs.A x.sibs.n x.sibs.c]) (post := []) (by simp [Leaf.cells, Proof.cells]) (by simp [Leaf.cells, Proof.cells]) (by simp [B32.cells_length, Leaf.cells_length, Item.cells_length]) rfl
instance (x : Proof) (y : Sl) : SetAt x.cells 98 [.slice y.A y.n y.c] ({ x with sibs := y } : Proof).cells := .mk' (pre := ([.int .i64 x.kind] ++ [.int .i64 x.depth] ++ x.leaf.cells ++ x.bitmap.cells)) (old := [.slice x.sibs.A x.sibs.n x.sibs.c]) (post := []) (by simp [Leaf.cells, Proof.cells]) (by simp [Leaf.cells, Proof.cells]) (by simp [B32.cells_length, Leaf.cells_length, Item.cells_length]) rfl
structure Entry where
  key : B32
  value : Sl
def Entry.cells (x : Entry) : List Value := x.key.cells ++ ([.slice x.value.A x.value.n x.value.c] ++ [])
def zEntry : Entry := ⟨zB32, ⟨none, 0, 0⟩⟩
theorem Entry.cells_length (x : Entry) : x.cells.length = 33 := by simp [Entry.cells, B32.cells_length, Leaf.cells_length, Item.cells_length]
theorem Entry.cells_one (x : Entry) : ∀ v ∈ x.cells, v.oneCell' = true := by
  intro v hv
  simp only [Entry.cells, List.mem_append, List.mem_singleton, List.not_mem_nil, or_false] at hv
  rcases hv with h | rfl
  · exact B32.cells_one _ v h
  · exact rfl
instance (x : Entry) : Row x.cells 33 := ⟨Entry.cells_length x, Entry.cells_one x⟩
instance (x : Entry) : RowAt x.cells 0 33 x.cells := .whole (Entry.cells_length x)
instance (x y : Entry) : SetAt x.cells 0 y.cells y.cells := .whole (by rw [Entry.cells_length, Entry.cells_length])
instance (x : Entry) : RowAt x.cells 0 32 x.key.cells := .mk' (pre := []) (post := ([.slice x.value.A x.value.n x.value.c])) (by simp [Entry.cells]) (by rfl) (B32.cells_length _)
instance (x : Entry) (y : B32) : SetAt x.cells 0 y.cells ({ x with key := y } : Entry).cells := .mk' (pre := []) (old := x.key.cells) (post := ([.slice x.value.A x.value.n x.value.c])) (by simp [Entry.cells]) (by simp [Entry.cells]) (by rfl) (by rw [B32.cells_length, B32.cells_length])
instance (x : Entry) : CellAt x.cells 32 (.slice x.value.A x.value.n x.value.c) := .mk' (pre := (x.key.cells)) (post := []) (by simp [Entry.cells]) (by simp [B32.cells_length, Leaf.cells_length, Item.cells_length])
instance (x : Entry) (A : Option Addr) (m c : Nat) : SetAt x.cells 32 [.slice A m c] ({ x with value := ⟨A, m, c⟩ } : Entry).cells := .mk' (pre := (x.key.cells)) (old := [.slice x.value.A x.value.n x.value.c]) (post := []) (by simp [Entry.cells]) (by simp [Entry.cells]) (by simp [B32.cells_length, Leaf.cells_length, Item.cells_length]) rfl
instance (x : Entry) (y : Sl) : SetAt x.cells 32 [.slice y.A y.n y.c] ({ x with value := y } : Entry).cells := .mk' (pre := (x.key.cells)) (old := [.slice x.value.A x.value.n x.value.c]) (post := []) (by simp [Entry.cells]) (by simp [Entry.cells]) (by simp [B32.cells_length, Leaf.cells_length, Item.cells_length]) rfl
structure Claim where
  key : Sl
  value : Sl
  present : Bool
def Claim.cells (x : Claim) : List Value := [.slice x.key.A x.key.n x.key.c] ++ ([.slice x.value.A x.value.n x.value.c] ++ ([.bool x.present] ++ []))
def zClaim : Claim := ⟨⟨none, 0, 0⟩, ⟨none, 0, 0⟩, false⟩
theorem Claim.cells_length (x : Claim) : x.cells.length = 3 := by simp [Claim.cells, B32.cells_length, Leaf.cells_length, Item.cells_length]
theorem Claim.cells_one (x : Claim) : ∀ v ∈ x.cells, v.oneCell' = true := by
  intro v hv
  simp only [Claim.cells, List.mem_append, List.mem_singleton, List.not_mem_nil, or_false] at hv
  rcases hv with rfl | rfl | rfl
  · exact rfl
  · exact rfl
  · exact rfl
instance (x : Claim) : Row x.cells 3 := ⟨Claim.cells_length x, Claim.cells_one x⟩
instance (x : Claim) : RowAt x.cells 0 3 x.cells := .whole (Claim.cells_length x)
instance (x y : Claim) : SetAt x.cells 0 y.cells y.cells := .whole (by rw [Claim.cells_length, Claim.cells_length])
instance (x : Claim) : CellAt x.cells 0 (.slice x.key.A x.key.n x.key.c) := .mk' (pre := []) (post := ([.slice x.value.A x.value.n x.value.c] ++ [.bool x.present])) (by simp [Claim.cells]) (by rfl)
instance (x : Claim) (A : Option Addr) (m c : Nat) : SetAt x.cells 0 [.slice A m c] ({ x with key := ⟨A, m, c⟩ } : Claim).cells := .mk' (pre := []) (old := [.slice x.key.A x.key.n x.key.c]) (post := ([.slice x.value.A x.value.n x.value.c] ++ [.bool x.present])) (by simp [Claim.cells]) (by simp [Claim.cells]) (by rfl) rfl
instance (x : Claim) (y : Sl) : SetAt x.cells 0 [.slice y.A y.n y.c] ({ x with key := y } : Claim).cells := .mk' (pre := []) (old := [.slice x.key.A x.key.n x.key.c]) (post := ([.slice x.value.A x.value.n x.value.c] ++ [.bool x.present])) (by simp [Claim.cells]) (by simp [Claim.cells]) (by rfl) rfl
instance (x : Claim) : CellAt x.cells 1 (.slice x.value.A x.value.n x.value.c) := .mk' (pre := ([.slice x.key.A x.key.n x.key.c])) (post := ([.bool x.present])) (by simp [Claim.cells]) (by simp [B32.cells_length, Leaf.cells_length, Item.cells_length])
instance (x : Claim) (A : Option Addr) (m c : Nat) : SetAt x.cells 1 [.slice A m c] ({ x with value := ⟨A, m, c⟩ } : Claim).cells := .mk' (pre := ([.slice x.key.A x.key.n x.key.c])) (old := [.slice x.value.A x.value.n x.value.c]) (post := ([.bool x.present])) (by simp [Claim.cells]) (by simp [Claim.cells]) (by simp [B32.cells_length, Leaf.cells_length, Item.cells_length]) rfl
instance (x : Claim) (y : Sl) : SetAt x.cells 1 [.slice y.A y.n y.c] ({ x with value := y } : Claim).cells := .mk' (pre := ([.slice x.key.A x.key.n x.key.c])) (old := [.slice x.value.A x.value.n x.value.c]) (post := ([.bool x.present])) (by simp [Claim.cells]) (by simp [Claim.cells]) (by simp [B32.cells_length, Leaf.cells_length, Item.cells_length]) rfl
instance (x : Claim) : CellAt x.cells 2 (.bool x.present) := .mk' (pre := ([.slice x.key.A x.key.n x.key.c] ++ [.slice x.value.A x.value.n x.value.c])) (post := []) (by simp [Claim.cells]) (by simp [B32.cells_length, Leaf.cells_length, Item.cells_length])
instance (x : Claim) (y : Bool) : SetAt x.cells 2 [.bool y] ({ x with present := y } : Claim).cells := .mk' (pre := ([.slice x.key.A x.key.n x.key.c] ++ [.slice x.value.A x.value.n x.value.c])) (old := [.bool x.present]) (post := []) (by simp [Claim.cells]) (by simp [Claim.cells]) (by simp [B32.cells_length, Leaf.cells_length, Item.cells_length]) rfl
structure End where
  item : Item
  depth : Int
def End.cells (x : End) : List Value := x.item.cells ++ ([.int .i64 x.depth] ++ [])
def zEnd : End := ⟨zItem, 0⟩
theorem End.cells_length (x : End) : x.cells.length = 98 := by simp [End.cells, B32.cells_length, Leaf.cells_length, Item.cells_length]
theorem End.cells_one (x : End) : ∀ v ∈ x.cells, v.oneCell' = true := by
  intro v hv
  simp only [End.cells, List.mem_append, List.mem_singleton, List.not_mem_nil, or_false] at hv
  rcases hv with h | rfl
  · exact Item.cells_one _ v h
  · exact rfl
instance (x : End) : Row x.cells 98 := ⟨End.cells_length x, End.cells_one x⟩
instance (x : End) : RowAt x.cells 0 98 x.cells := .whole (End.cells_length x)
instance (x y : End) : SetAt x.cells 0 y.cells y.cells := .whole (by rw [End.cells_length, End.cells_length])
instance (x : End) : RowAt x.cells 0 97 x.item.cells := .mk' (pre := []) (post := ([.int .i64 x.depth])) (by simp [Leaf.cells, End.cells]) (by rfl) (Item.cells_length _)
instance (x : End) (y : Item) : SetAt x.cells 0 y.cells ({ x with item := y } : End).cells := .mk' (pre := []) (old := x.item.cells) (post := ([.int .i64 x.depth])) (by simp [Leaf.cells, End.cells]) (by simp [Leaf.cells, End.cells]) (by rfl) (by rw [Item.cells_length, Item.cells_length])
instance (x : End) : CellAt x.cells 0 (.int .i64 x.item.kind) := .mk' (pre := []) (post := (x.item.digest.cells ++ x.item.leaf.cells ++ [.int .i64 x.depth])) (by simp [Leaf.cells, Item.cells, End.cells]) (by rfl)
instance (x : End) (y : Int) : SetAt x.cells 0 [.int .i64 y] ({ x with item.kind := y } : End).cells := .mk' (pre := []) (old := [.int .i64 x.item.kind]) (post := (x.item.digest.cells ++ x.item.leaf.cells ++ [.int .i64 x.depth])) (by simp [Leaf.cells, Item.cells, End.cells]) (by simp [Leaf.cells, Item.cells, End.cells]) (by rfl) rfl
instance (x : End) : RowAt x.cells 1 32 x.item.digest.cells := .mk' (pre := ([.int .i64 x.item.kind])) (post := (x.item.leaf.cells ++ [.int .i64 x.depth])) (by simp [Leaf.cells, Item.cells, End.cells]) (by simp [B32.cells_length, Leaf.cells_length, Item.cells_length]) (B32.cells_length _)
instance (x : End) (y : B32) : SetAt x.cells 1 y.cells ({ x with item.digest := y } : End).cells := .mk' (pre := ([.int .i64 x.item.kind])) (old := x.item.digest.cells) (post := (x.item.leaf.cells ++ [.int .i64 x.depth])) (by simp [Leaf.cells, Item.cells, End.cells]) (by simp [Leaf.cells, Item.cells, End.cells]) (by simp [B32.cells_length, Leaf.cells_length, Item.cells_length]) (by rw [B32.cells_length, B32.cells_length])
instance (x : End) : RowAt x.cells 33 64 x.item.leaf.cells := .mk' (pre := ([.int .i64 x.item.kind] ++ x.item.digest.cells)) (post := ([.int .i64 x.depth])) (by simp [Item.cells, End.cells]) (by simp [B32.cells_length, Leaf.cells_length, Item.cells_length]) (Leaf.cells_length _)
instance (x : End) (y : Leaf) : SetAt x.cells 33 y.cells ({ x with item.leaf := y } : End).cells := .mk' (pre := ([.int .i64 x.item.kind] ++ x.item.digest.cells)) (old := x.item.leaf.cells) (post := ([.int .i64 x.depth])) (by simp [Item.cells, End.cells]) (by simp [Item.cells, End.cells]) (by simp [B32.cells_length, Leaf.cells_length, Item.cells_length]) (by rw [Leaf.cells_length, Leaf.cells_length])
instance (x : End) : RowAt x.cells 33 32 x.item.leaf.key.cells := .mk' (pre := ([.int .i64 x.item.kind] ++ x.item.digest.cells)) (post := (x.item.leaf.value.cells ++ [.int .i64 x.depth])) (by simp [Leaf.cells, Item.cells, End.cells]) (by simp [B32.cells_length, Leaf.cells_length, Item.cells_length]) (B32.cells_length _)
instance (x : End) (y : B32) : SetAt x.cells 33 y.cells ({ x with item.leaf.key := y } : End).cells := .mk' (pre := ([.int .i64 x.item.kind] ++ x.item.digest.cells)) (old := x.item.leaf.key.cells) (post := (x.item.leaf.value.cells ++ [.int .i64 x.depth])) (by simp [Leaf.cells, Item.cells, End.cells]) (by simp [Leaf.cells, Item.cells, End.cells]) (by simp [B32.cells_length, Leaf.cells_length, Item.cells_length]) (by rw [B32.cells_length, B32.cells_length])
instance (x : End) : RowAt x.cells 65 32 x.item.leaf.value.cells := .mk' (pre := ([.int .i64 x.item.kind] ++ x.item.digest.cells ++ x.item.leaf.key.cells)) (post := ([.int .i64 x.depth])) (by simp [Leaf.cells, Item.cells, End.cells]) (by simp [B32.cells_length, Leaf.cells_length, Item.cells_length]) (B32.cells_length _)
instance (x : End) (y : B32) : SetAt x.cells 65 y.cells ({ x with item.leaf.value := y } : End).cells := .mk' (pre := ([.int .i64 x.item.kind] ++ x.item.digest.cells ++ x.item.leaf.key.cells)) (old := x.item.leaf.value.cells) (post := ([.int .i64 x.depth])) (by simp [Leaf.cells, Item.cells, End.cells]) (by simp [Leaf.cells, Item.cells, End.cells]) (by simp [B32.cells_length, Leaf.cells_length, Item.cells_length]) (by rw [B32.cells_length, B32.cells_length])
instance (x : End) : CellAt x.cells 97 (.int .i64 x.depth) := .mk' (pre := (x.item.cells)) (post := []) (by simp [Leaf.cells, Item.cells, End.cells]) (by simp [B32.cells_length, Leaf.cells_length, Item.cells_length])
instance (x : End) (y : Int) : SetAt x.cells 97 [.int .i64 y] ({ x with depth := y } : End).cells := .mk' (pre := (x.item.cells)) (old := [.int .i64 x.depth]) (post := []) (by simp [Leaf.cells, Item.cells, End.cells]) (by simp [Leaf.cells, Item.cells, End.cells]) (by simp [B32.cells_length, Leaf.cells_length, Item.cells_length]) rfl
structure Update where
  key : Sl
  value : Sl
  del : Bool
def Update.cells (x : Update) : List Value := [.slice x.key.A x.key.n x.key.c] ++ ([.slice x.value.A x.value.n x.value.c] ++ ([.bool x.del] ++ []))
def zUpdate : Update := ⟨⟨none, 0, 0⟩, ⟨none, 0, 0⟩, false⟩
theorem Update.cells_length (x : Update) : x.cells.length = 3 := by simp [Update.cells, B32.cells_length, Leaf.cells_length, Item.cells_length]
theorem Update.cells_one (x : Update) : ∀ v ∈ x.cells, v.oneCell' = true := by
  intro v hv
  simp only [Update.cells, List.mem_append, List.mem_singleton, List.not_mem_nil, or_false] at hv
  rcases hv with rfl | rfl | rfl
  · exact rfl
  · exact rfl
  · exact rfl
instance (x : Update) : Row x.cells 3 := ⟨Update.cells_length x, Update.cells_one x⟩
instance (x : Update) : RowAt x.cells 0 3 x.cells := .whole (Update.cells_length x)
instance (x y : Update) : SetAt x.cells 0 y.cells y.cells := .whole (by rw [Update.cells_length, Update.cells_length])
instance (x : Update) : CellAt x.cells 0 (.slice x.key.A x.key.n x.key.c) := .mk' (pre := []) (post := ([.slice x.value.A x.value.n x.value.c] ++ [.bool x.del])) (by simp [Update.cells]) (by rfl)
instance (x : Update) (A : Option Addr) (m c : Nat) : SetAt x.cells 0 [.slice A m c] ({ x with key := ⟨A, m, c⟩ } : Update).cells := .mk' (pre := []) (old := [.slice x.key.A x.key.n x.key.c]) (post := ([.slice x.value.A x.value.n x.value.c] ++ [.bool x.del])) (by simp [Update.cells]) (by simp [Update.cells]) (by rfl) rfl
instance (x : Update) (y : Sl) : SetAt x.cells 0 [.slice y.A y.n y.c] ({ x with key := y } : Update).cells := .mk' (pre := []) (old := [.slice x.key.A x.key.n x.key.c]) (post := ([.slice x.value.A x.value.n x.value.c] ++ [.bool x.del])) (by simp [Update.cells]) (by simp [Update.cells]) (by rfl) rfl
instance (x : Update) : CellAt x.cells 1 (.slice x.value.A x.value.n x.value.c) := .mk' (pre := ([.slice x.key.A x.key.n x.key.c])) (post := ([.bool x.del])) (by simp [Update.cells]) (by simp [B32.cells_length, Leaf.cells_length, Item.cells_length])
instance (x : Update) (A : Option Addr) (m c : Nat) : SetAt x.cells 1 [.slice A m c] ({ x with value := ⟨A, m, c⟩ } : Update).cells := .mk' (pre := ([.slice x.key.A x.key.n x.key.c])) (old := [.slice x.value.A x.value.n x.value.c]) (post := ([.bool x.del])) (by simp [Update.cells]) (by simp [Update.cells]) (by simp [B32.cells_length, Leaf.cells_length, Item.cells_length]) rfl
instance (x : Update) (y : Sl) : SetAt x.cells 1 [.slice y.A y.n y.c] ({ x with value := y } : Update).cells := .mk' (pre := ([.slice x.key.A x.key.n x.key.c])) (old := [.slice x.value.A x.value.n x.value.c]) (post := ([.bool x.del])) (by simp [Update.cells]) (by simp [Update.cells]) (by simp [B32.cells_length, Leaf.cells_length, Item.cells_length]) rfl
instance (x : Update) : CellAt x.cells 2 (.bool x.del) := .mk' (pre := ([.slice x.key.A x.key.n x.key.c] ++ [.slice x.value.A x.value.n x.value.c])) (post := []) (by simp [Update.cells]) (by simp [B32.cells_length, Leaf.cells_length, Item.cells_length])
instance (x : Update) (y : Bool) : SetAt x.cells 2 [.bool y] ({ x with del := y } : Update).cells := .mk' (pre := ([.slice x.key.A x.key.n x.key.c] ++ [.slice x.value.A x.value.n x.value.c])) (old := [.bool x.del]) (post := []) (by simp [Update.cells]) (by simp [Update.cells]) (by simp [B32.cells_length, Leaf.cells_length, Item.cells_length]) rfl
structure Change where
  key : B32
  value : Sl
  del : Bool
def Change.cells (x : Change) : List Value := x.key.cells ++ ([.slice x.value.A x.value.n x.value.c] ++ ([.bool x.del] ++ []))
def zChange : Change := ⟨zB32, ⟨none, 0, 0⟩, false⟩
theorem Change.cells_length (x : Change) : x.cells.length = 34 := by simp [Change.cells, B32.cells_length, Leaf.cells_length, Item.cells_length]
theorem Change.cells_one (x : Change) : ∀ v ∈ x.cells, v.oneCell' = true := by
  intro v hv
  simp only [Change.cells, List.mem_append, List.mem_singleton, List.not_mem_nil, or_false] at hv
  rcases hv with h | rfl | rfl
  · exact B32.cells_one _ v h
  · exact rfl
  · exact rfl
instance (x : Change) : Row x.cells 34 := ⟨Change.cells_length x, Change.cells_one x⟩
instance (x : Change) : RowAt x.cells 0 34 x.cells := .whole (Change.cells_length x)
instance (x y : Change) : SetAt x.cells 0 y.cells y.cells := .whole (by rw [Change.cells_length, Change.cells_length])
instance (x : Change) : RowAt x.cells 0 32 x.key.cells := .mk' (pre := []) (post := ([.slice x.value.A x.value.n x.value.c] ++ [.bool x.del])) (by simp [Change.cells]) (by rfl) (B32.cells_length _)
instance (x : Change) (y : B32) : SetAt x.cells 0 y.cells ({ x with key := y } : Change).cells := .mk' (pre := []) (old := x.key.cells) (post := ([.slice x.value.A x.value.n x.value.c] ++ [.bool x.del])) (by simp [Change.cells]) (by simp [Change.cells]) (by rfl) (by rw [B32.cells_length, B32.cells_length])
instance (x : Change) : CellAt x.cells 32 (.slice x.value.A x.value.n x.value.c) := .mk' (pre := (x.key.cells)) (post := ([.bool x.del])) (by simp [Change.cells]) (by simp [B32.cells_length, Leaf.cells_length, Item.cells_length])
instance (x : Change) (A : Option Addr) (m c : Nat) : SetAt x.cells 32 [.slice A m c] ({ x with value := ⟨A, m, c⟩ } : Change).cells := .mk' (pre := (x.key.cells)) (old := [.slice x.value.A x.value.n x.value.c]) (post := ([.bool x.del])) (by simp [Change.cells]) (by simp [Change.cells]) (by simp [B32.cells_length, Leaf.cells_length, Item.cells_length]) rfl
instance (x : Change) (y : Sl) : SetAt x.cells 32 [.slice y.A y.n y.c] ({ x with value := y } : Change).cells := .mk' (pre := (x.key.cells)) (old := [.slice x.value.A x.value.n x.value.c]) (post := ([.bool x.del])) (by simp [Change.cells]) (by simp [Change.cells]) (by simp [B32.cells_length, Leaf.cells_length, Item.cells_length]) rfl
instance (x : Change) : CellAt x.cells 33 (.bool x.del) := .mk' (pre := (x.key.cells ++ [.slice x.value.A x.value.n x.value.c])) (post := []) (by simp [Change.cells]) (by simp [B32.cells_length, Leaf.cells_length, Item.cells_length])
instance (x : Change) (y : Bool) : SetAt x.cells 33 [.bool y] ({ x with del := y } : Change).cells := .mk' (pre := (x.key.cells ++ [.slice x.value.A x.value.n x.value.c])) (old := [.bool x.del]) (post := []) (by simp [Change.cells]) (by simp [Change.cells]) (by simp [B32.cells_length, Leaf.cells_length, Item.cells_length]) rfl
structure Nd where
  c : Value
  dg : B32
def Nd.cells (x : Nd) : List Value := [x.c] ++ (x.dg.cells ++ [])
def zNd : Nd := ⟨.nilIface, zB32⟩
theorem Nd.cells_length (x : Nd) : x.cells.length = 33 := by simp [Nd.cells, B32.cells_length, Leaf.cells_length, Item.cells_length]
theorem Nd.cells_one (x : Nd) [hc : OneC x.c] : ∀ v ∈ x.cells, v.oneCell' = true := by
  intro v hv
  simp only [Nd.cells, List.mem_append, List.mem_singleton, List.not_mem_nil, or_false] at hv
  rcases hv with rfl | h
  · exact hc.one
  · exact B32.cells_one _ v h
instance (x : Nd) [OneC x.c] : Row x.cells 33 := ⟨Nd.cells_length x, Nd.cells_one x⟩
instance (x : Nd) : RowAt x.cells 0 33 x.cells := .whole (Nd.cells_length x)
instance (x y : Nd) : SetAt x.cells 0 y.cells y.cells := .whole (by rw [Nd.cells_length, Nd.cells_length])
instance (x : Nd) : CellAt x.cells 0 (x.c) := .mk' (pre := []) (post := (x.dg.cells)) (by simp [Nd.cells]) (by rfl)
instance (x : Nd) (y : Value) : SetAt x.cells 0 [y] ({ x with c := y } : Nd).cells := .mk' (pre := []) (old := [x.c]) (post := (x.dg.cells)) (by simp [Nd.cells]) (by simp [Nd.cells]) (by rfl) rfl
instance (x : Nd) : RowAt x.cells 1 32 x.dg.cells := .mk' (pre := ([x.c])) (post := []) (by simp [Nd.cells]) (by simp [B32.cells_length, Leaf.cells_length, Item.cells_length]) (B32.cells_length _)
instance (x : Nd) (y : B32) : SetAt x.cells 1 y.cells ({ x with dg := y } : Nd).cells := .mk' (pre := ([x.c])) (old := x.dg.cells) (post := []) (by simp [Nd.cells]) (by simp [Nd.cells]) (by simp [B32.cells_length, Leaf.cells_length, Item.cells_length]) (by rw [B32.cells_length, B32.cells_length])
structure NLeaf where
  leaf : Leaf
  value : Sl
def NLeaf.cells (x : NLeaf) : List Value := x.leaf.cells ++ ([.slice x.value.A x.value.n x.value.c] ++ [])
def zNLeaf : NLeaf := ⟨zLeaf, ⟨none, 0, 0⟩⟩
theorem NLeaf.cells_length (x : NLeaf) : x.cells.length = 65 := by simp [NLeaf.cells, B32.cells_length, Leaf.cells_length, Item.cells_length]
theorem NLeaf.cells_one (x : NLeaf) : ∀ v ∈ x.cells, v.oneCell' = true := by
  intro v hv
  simp only [NLeaf.cells, List.mem_append, List.mem_singleton, List.not_mem_nil, or_false] at hv
  rcases hv with h | rfl
  · exact Leaf.cells_one _ v h
  · exact rfl
instance (x : NLeaf) : Row x.cells 65 := ⟨NLeaf.cells_length x, NLeaf.cells_one x⟩
instance (x : NLeaf) : RowAt x.cells 0 65 x.cells := .whole (NLeaf.cells_length x)
instance (x y : NLeaf) : SetAt x.cells 0 y.cells y.cells := .whole (by rw [NLeaf.cells_length, NLeaf.cells_length])
instance (x : NLeaf) : RowAt x.cells 0 64 x.leaf.cells := .mk' (pre := []) (post := ([.slice x.value.A x.value.n x.value.c])) (by simp [NLeaf.cells]) (by rfl) (Leaf.cells_length _)
instance (x : NLeaf) (y : Leaf) : SetAt x.cells 0 y.cells ({ x with leaf := y } : NLeaf).cells := .mk' (pre := []) (old := x.leaf.cells) (post := ([.slice x.value.A x.value.n x.value.c])) (by simp [NLeaf.cells]) (by simp [NLeaf.cells]) (by rfl) (by rw [Leaf.cells_length, Leaf.cells_length])
instance (x : NLeaf) : RowAt x.cells 0 32 x.leaf.key.cells := .mk' (pre := []) (post := (x.leaf.value.cells ++ [.slice x.value.A x.value.n x.value.c])) (by simp [Leaf.cells, NLeaf.cells]) (by rfl) (B32.cells_length _)
instance (x : NLeaf) (y : B32) : SetAt x.cells 0 y.cells ({ x with leaf.key := y } : NLeaf).cells := .mk' (pre := []) (old := x.leaf.key.cells) (post := (x.leaf.value.cells ++ [.slice x.value.A x.value.n x.value.c])) (by simp [Leaf.cells, NLeaf.cells]) (by simp [Leaf.cells, NLeaf.cells]) (by rfl) (by rw [B32.cells_length, B32.cells_length])
instance (x : NLeaf) : RowAt x.cells 32 32 x.leaf.value.cells := .mk' (pre := (x.leaf.key.cells)) (post := ([.slice x.value.A x.value.n x.value.c])) (by simp [Leaf.cells, NLeaf.cells]) (by simp [B32.cells_length, Leaf.cells_length, Item.cells_length]) (B32.cells_length _)
instance (x : NLeaf) (y : B32) : SetAt x.cells 32 y.cells ({ x with leaf.value := y } : NLeaf).cells := .mk' (pre := (x.leaf.key.cells)) (old := x.leaf.value.cells) (post := ([.slice x.value.A x.value.n x.value.c])) (by simp [Leaf.cells, NLeaf.cells]) (by simp [Leaf.cells, NLeaf.cells]) (by simp [B32.cells_length, Leaf.cells_length, Item.cells_length]) (by rw [B32.cells_length, B32.cells_length])
instance (x : NLeaf) : CellAt x.cells 64 (.slice x.value.A x.value.n x.value.c) := .mk' (pre := (x.leaf.cells)) (post := []) (by simp [Leaf.cells, NLeaf.cells]) (by simp [B32.cells_length, Leaf.cells_length, Item.cells_length])
instance (x : NLeaf) (A : Option Addr) (m c : Nat) : SetAt x.cells 64 [.slice A m c] ({ x with value := ⟨A, m, c⟩ } : NLeaf).cells := .mk' (pre := (x.leaf.cells)) (old := [.slice x.value.A x.value.n x.value.c]) (post := []) (by simp [Leaf.cells, NLeaf.cells]) (by simp [Leaf.cells, NLeaf.cells]) (by simp [B32.cells_length, Leaf.cells_length, Item.cells_length]) rfl
instance (x : NLeaf) (y : Sl) : SetAt x.cells 64 [.slice y.A y.n y.c] ({ x with value := y } : NLeaf).cells := .mk' (pre := (x.leaf.cells)) (old := [.slice x.value.A x.value.n x.value.c]) (post := []) (by simp [Leaf.cells, NLeaf.cells]) (by simp [Leaf.cells, NLeaf.cells]) (by simp [B32.cells_length, Leaf.cells_length, Item.cells_length]) rfl
structure NInner where
  l : Option Addr
  r : Option Addr
  dl : B32
  dr : B32
  n : Int
def NInner.cells (x : NInner) : List Value := [.pointer x.l] ++ ([.pointer x.r] ++ (x.dl.cells ++ (x.dr.cells ++ ([.int .i64 x.n] ++ []))))
def zNInner : NInner := ⟨none, none, zB32, zB32, 0⟩
theorem NInner.cells_length (x : NInner) : x.cells.length = 67 := by simp [NInner.cells, B32.cells_length, Leaf.cells_length, Item.cells_length]
theorem NInner.cells_one (x : NInner) : ∀ v ∈ x.cells, v.oneCell' = true := by
  intro v hv
  simp only [NInner.cells, List.mem_append, List.mem_singleton, List.not_mem_nil, or_false] at hv
  rcases hv with rfl | rfl | h | h | rfl
  · exact rfl
  · exact rfl
  · exact B32.cells_one _ v h
  · exact B32.cells_one _ v h
  · exact rfl
instance (x : NInner) : Row x.cells 67 := ⟨NInner.cells_length x, NInner.cells_one x⟩
instance (x : NInner) : RowAt x.cells 0 67 x.cells := .whole (NInner.cells_length x)
instance (x y : NInner) : SetAt x.cells 0 y.cells y.cells := .whole (by rw [NInner.cells_length, NInner.cells_length])
instance (x : NInner) : CellAt x.cells 0 (.pointer x.l) := .mk' (pre := []) (post := ([.pointer x.r] ++ x.dl.cells ++ x.dr.cells ++ [.int .i64 x.n])) (by simp [NInner.cells]) (by rfl)
instance (x : NInner) (y : Option Addr) : SetAt x.cells 0 [.pointer y] ({ x with l := y } : NInner).cells := .mk' (pre := []) (old := [.pointer x.l]) (post := ([.pointer x.r] ++ x.dl.cells ++ x.dr.cells ++ [.int .i64 x.n])) (by simp [NInner.cells]) (by simp [NInner.cells]) (by rfl) rfl
instance (x : NInner) : CellAt x.cells 1 (.pointer x.r) := .mk' (pre := ([.pointer x.l])) (post := (x.dl.cells ++ x.dr.cells ++ [.int .i64 x.n])) (by simp [NInner.cells]) (by simp [B32.cells_length, Leaf.cells_length, Item.cells_length])
instance (x : NInner) (y : Option Addr) : SetAt x.cells 1 [.pointer y] ({ x with r := y } : NInner).cells := .mk' (pre := ([.pointer x.l])) (old := [.pointer x.r]) (post := (x.dl.cells ++ x.dr.cells ++ [.int .i64 x.n])) (by simp [NInner.cells]) (by simp [NInner.cells]) (by simp [B32.cells_length, Leaf.cells_length, Item.cells_length]) rfl
instance (x : NInner) : RowAt x.cells 2 32 x.dl.cells := .mk' (pre := ([.pointer x.l] ++ [.pointer x.r])) (post := (x.dr.cells ++ [.int .i64 x.n])) (by simp [NInner.cells]) (by simp [B32.cells_length, Leaf.cells_length, Item.cells_length]) (B32.cells_length _)
instance (x : NInner) (y : B32) : SetAt x.cells 2 y.cells ({ x with dl := y } : NInner).cells := .mk' (pre := ([.pointer x.l] ++ [.pointer x.r])) (old := x.dl.cells) (post := (x.dr.cells ++ [.int .i64 x.n])) (by simp [NInner.cells]) (by simp [NInner.cells]) (by simp [B32.cells_length, Leaf.cells_length, Item.cells_length]) (by rw [B32.cells_length, B32.cells_length])
instance (x : NInner) : RowAt x.cells 34 32 x.dr.cells := .mk' (pre := ([.pointer x.l] ++ [.pointer x.r] ++ x.dl.cells)) (post := ([.int .i64 x.n])) (by simp [NInner.cells]) (by simp [B32.cells_length, Leaf.cells_length, Item.cells_length]) (B32.cells_length _)
instance (x : NInner) (y : B32) : SetAt x.cells 34 y.cells ({ x with dr := y } : NInner).cells := .mk' (pre := ([.pointer x.l] ++ [.pointer x.r] ++ x.dl.cells)) (old := x.dr.cells) (post := ([.int .i64 x.n])) (by simp [NInner.cells]) (by simp [NInner.cells]) (by simp [B32.cells_length, Leaf.cells_length, Item.cells_length]) (by rw [B32.cells_length, B32.cells_length])
instance (x : NInner) : CellAt x.cells 66 (.int .i64 x.n) := .mk' (pre := ([.pointer x.l] ++ [.pointer x.r] ++ x.dl.cells ++ x.dr.cells)) (post := []) (by simp [NInner.cells]) (by simp [B32.cells_length, Leaf.cells_length, Item.cells_length])
instance (x : NInner) (y : Int) : SetAt x.cells 66 [.int .i64 y] ({ x with n := y } : NInner).cells := .mk' (pre := ([.pointer x.l] ++ [.pointer x.r] ++ x.dl.cells ++ x.dr.cells)) (old := [.int .i64 x.n]) (post := []) (by simp [NInner.cells]) (by simp [NInner.cells]) (by simp [B32.cells_length, Leaf.cells_length, Item.cells_length]) rfl
end Go.Proofs.YtgfkbeipckbkiaaDoor
/- S3 -/
namespace Go.Proofs.YtgfkbeipckbkiaaDoor
set_option linter.unusedSimpArgs false
set_option linter.unusedVariables false
open Go.RowKit
/-! ### builds -/
class TB (P : Program) (T : TypeId) (z : outParam (List Value)) (pl : outParam (Nat → Option (Nat × Nat))) : Prop where
  run : ∀ (w : World) (ps : List (Nat × Value)) (cells : Array Value), Instr.fill pl z.toArray ps = some cells → (Instr.build T ps.toArray).run P w = .ok (.agg cells) w
class Place (pl : Nat → Option (Nat × Nat)) (i : Nat) (off n : outParam Nat) : Prop where
  eq : pl i = some (off, n)
def plArr (n : Nat) : Nat → Option (Nat × Nat) := fun i => some (i * n, n)
instance (n i : Nat) : Place (plArr n) i (i * n) n := ⟨rfl⟩
class Fills (pl : Nat → Option (Nat × Nat)) (cs : List Value) (ps : List (Nat × Value)) (out : outParam (List Value)) : Prop where
  eq : Instr.fill pl cs.toArray ps = some out.toArray
instance (pl : Nat → Option (Nat × Nat)) (cs : List Value) : Fills pl cs [] cs := ⟨rfl⟩
instance (pl : Nat → Option (Nat × Nat)) (cs cs' out new : List Value) (i off n : Nat) (v : Value) (ps : List (Nat × Value)) [hp : Place pl i off n] [hv : VCells v new] [hn : Row new n] [hs : SetAt cs off new cs'] [hf : Fills pl cs' ps out] : Fills pl cs ((i, v) :: ps) out := by
  have hl := hn.len
  have hfit := hs.fit
  refine ⟨?_⟩
  rw [fill_one pl _ i v ps off n hp.eq (by rw [hv.eq]; simpa using hl) (by simp; omega), ← hf.eq, hs.eq, hv.eq]
  simp [hl]
theorem row_one {v : Value} (h : v.oneCell' = true) : Row [v] 1 := ⟨rfl, by simpa using h⟩
instance (k : IntKind) (n : Int) : Row [.int k n] 1 := row_one rfl
instance (b : Bool) : Row [.bool b] 1 := row_one rfl
instance (s : ByteArray) : Row [.string s] 1 := row_one rfl
instance (p : Option Addr) : Row [.pointer p] 1 := row_one rfl
instance (A : Option Addr) (n c : Nat) : Row [.slice A n c] 1 := row_one rfl
instance : Row [.nilIface] 1 := row_one rfl
instance (t : TypeId) (v : Value) : Row [.iface t v] 1 := row_one rfl
instance : Row [.nilFunc] 1 := row_one rfl
instance (f : Fn) (c d : Array Value) : Row [.func f c d] 1 := row_one rfl
instance : Row [] 0 := ⟨rfl, by simp⟩
instance (priority := 50) (v : Value) (l : List Value) (n : Nat) [h : Row [v] 1] [k : Row l n] : Row (v :: l) (n + 1) := ⟨by simp [k.len], fun u hu => (List.mem_cons.1 hu).elim (fun e => h.one u (by simp [e])) (k.one u)⟩
instance (priority := 50) (cs new : List Value) (n : Nat) [h : Row cs n] [k : Row new n] : SetAt cs 0 new new := .whole (by rw [h.len, k.len])
instance (priority := 50) (cs : List Value) (n : Nat) [h : Row cs n] : RowAt cs 0 n cs := .whole h.len
instance (priority := 40) (cs : List Value) : RowAt cs 0 0 [] := ⟨fun j v hv => by simp at hv, rfl⟩
instance (priority := 40) (v : Value) (cs out : List Value) (n : Nat) [h : RowAt cs 0 n out] : RowAt (v :: cs) 0 (n + 1) (v :: out) := ⟨fun j u hu => by
  cases j with
  | zero => simpa using hu
  | succ j => have := h.at_ j u (by simpa using hu); rw [Nat.zero_add] at this ⊢; simpa using this, by simp [h.len]⟩
instance (priority := 40) (v : Value) (cs out : List Value) (off n : Nat) [h : RowAt cs off n out] : RowAt (v :: cs) (off + 1) n out := ⟨fun j u hu => by
  have := h.at_ j u hu
  rw [Nat.add_right_comm]; simpa using this, h.len⟩
/-- equality of two values of many cells -/
class TEq (P : Program) (T : TypeId) (xs ys : List Value) (p : outParam Bool) : Prop where
  eq : ∀ (w : World) (d : Nat), (Op.equalIn (d + 6) T (.agg xs.toArray) (.agg ys.toArray)).run P w = .ok p w
  guard : P.eqGuardType P.depth T = false
section
variable {P : Program} {a : Act} {w : World} {o : Oper}
theorem xBuild {T : TypeId} {z out : List Value} {pl : Nat → Option (Nat × Nat)} [hT : TB P T z pl] {l : List (Nat × Operand)} {ps : List (Nat × Value)} (ho : o.op = .build T l.toArray) (hp : (l.map fun p => (p.1, a.eval p.2)) = ps) [hf : Fills pl z ps out] :
    (execOp a.eval o).run P w = .ok (.value (.agg out.toArray)) w := ex_build ho ps hp (hT.run w ps _ hf.eq)
theorem xEql {T T' : TypeId} {x y : Operand} {xs ys : List Value} {p : Bool} (ho : o.op = .binOp .eql T x y T') (hx : a.eval x = .agg xs.toArray) (hy : a.eval y = .agg ys.toArray) [h : TEq P T xs ys p] :
    (execOp a.eval o).run P w = .ok (.value (.bool p)) w := ex_eql ho hx hy h.guard (by rw [run_eql_struct, h.eq w 9994]; rfl)
theorem xNeq {T T' : TypeId} {x y : Operand} {xs ys : List Value} {p : Bool} (ho : o.op = .binOp .neq T x y T') (hx : a.eval x = .agg xs.toArray) (hy : a.eval y = .agg ys.toArray) [h : TEq P T xs ys p] :
    (execOp a.eval o).run P w = .ok (.value (.bool (!p))) w := ex_neq ho hx hy h.guard (by rw [run_neq_struct, h.eq w 9994]; rfl)
end
section
variable {P : Program} {a : Act} {w : World} {o : Oper}
theorem xEqlP {T T' : TypeId} {x y : Operand} {xs ys : List Value} {q : Prop} [Decidable q] (ho : o.op = .binOp .eql T x y T') (hx : a.eval x = .agg xs.toArray) (hy : a.eval y = .agg ys.toArray) [h : TEq P T xs ys (decide q)] (hq : q) :
    (execOp a.eval o).run P w = .ok (.value (.bool true)) w := by have := xEql (w := w) ho hx hy (h := h); simpa [hq] using this
theorem xEqlN {T T' : TypeId} {x y : Operand} {xs ys : List Value} {q : Prop} [Decidable q] (ho : o.op = .binOp .eql T x y T') (hx : a.eval x = .agg xs.toArray) (hy : a.eval y = .agg ys.toArray) [h : TEq P T xs ys (decide q)] (hq : ¬ q) :
    (execOp a.eval o).run P w = .ok (.value (.bool false)) w := by have := xEql (w := w) ho hx hy (h := h); simpa [hq] using this
theorem xNeqP {T T' : TypeId} {x y : Operand} {xs ys : List Value} {q : Prop} [Decidable q] (ho : o.op = .binOp .neq T x y T') (hx : a.eval x = .agg xs.toArray) (hy : a.eval y = .agg ys.toArray) [h : TEq P T xs ys (decide q)] (hq : q) :
    (execOp a.eval o).run P w = .ok (.value (.bool false)) w := by have := xNeq (w := w) ho hx hy (h := h); simpa [hq] using this
theorem xNeqN {T T' : TypeId} {x y : Operand} {xs ys : List Value} {q : Prop} [Decidable q] (ho : o.op = .binOp .neq T x y T') (hx : a.eval x = .agg xs.toArray) (hy : a.eval y = .agg ys.toArray) [h : TEq P T xs ys (decide q)] (hq : ¬ q) :
    (execOp a.eval o).run P w = .ok (.value (.bool true)) w := by have := xNeq (w := w) ho hx hy (h := h); simpa [hq] using this
end
/-! ### slices that are made and grow -/
section
variable {P : Program} {X : List Nat} {w0 w : World} {L L' : List Fc} {a : Act} {ops : Array Oper} {rest : List Oper} {Q : Exit → Act → World → Prop} {d : Option Tmp} {ty : TypeId} {pos : String} {af : Array Edge}
theorem append_where {base : Nat} {t ty e : TypeId} {i : TypeInfo} {z : Value} {size bytes : Nat} (ht : P.underlying t = some (.slice e)) (hi : P.info? e = some i) (hz : i.zero = some z)
    (hsize : i.size = size) (hby : i.bytes = bytes) {v : Value} {n : Nat} {xs : List Value} (hown : w.ownsRow base e size v n xs)
    {a : Addr} {m c : Nat} {news : List Value} (hl : news.length = m * size) (hnews : ∀ j u, news[j]? = some u → w.cell? (a.add j) = some u) (h1 : ∀ u ∈ news, u.oneCell' = true)
    (h63 : n + m ≤ maxLen) (hbytes : (n + m) * bytes ≤ 140737488355328) {v' : Value} {w' : World} (hr : (Builtin.append_ #[t, t] ty #[v, .slice (some a) m c]).run P w = .ok v' w') (hnil : v' = .slice none 0 0 ↔ v = .slice none 0 0 ∧ m = 0) :
    v'.ownBlock = v.ownBlock ∨ v'.ownBlock = some w.heap.size := by
  subst hsize hby
  have hsmall : n + m ≤ 9223372036854775807 := by simp only [maxLen] at h63; omega
  rcases hown.2 with ⟨rfl, rfl⟩ | ⟨g, cap, cur, rfl, hbg, hg, hnc, hcm, hcs, htake⟩
  · by_cases hm : m = 0
    · rw [hnil.2 ⟨rfl, hm⟩]; exact .inl rfl
    · have hr2 := run_append_nil (P := P) w t ty e i z ht hi hz a m c news hl hnews (by omega) (by omega) (by have hb := hbytes; simp only [Nat.zero_add] at hb; omega)
      rw [hr2] at hr
      injection hr with hr _
      rw [← hr]
      exact .inr rfl
  · by_cases hroom : n + m ≤ cap
    · have hfit : n * i.size + news.length ≤ cur.size := by rw [hl, hcs, ← Nat.add_mul]; exact Nat.mul_le_mul_right _ hroom
      have hr2 := run_append_room (P := P) w t ty e i ht hi g n cap cur hg a m c news hl hnews h1 hroom hfit
      rw [hr2] at hr
      injection hr with hr _
      rw [← hr]
      exact .inl rfl
    · have holds : ∀ j u, xs[j]? = some u → w.cell? ((⟨g, 0, none⟩ : Addr).add j) = some u := hown.cells (g := g) rfl
      have hr2 := run_append_grow (P := P) w t ty e i z ht hi hz ⟨g, 0, none⟩ n cap xs hown.1 holds a m c news hl hnews (by omega) (by omega) (growslice_fits (by omega) hbytes)
      rw [hr2] at hr
      injection hr with hr _
      rw [← hr]
      exact .inr rfl
theorem xAppend {o : Oper} {s x : Operand} {t e : TypeId} {size bytes : Nat} {z : Value} (ho : o.op = .call { callee := .builtin .append, args := #[s, x], argTypes := #[t, t] }) (E : ElT P t e size bytes z)
    {base n : Nat} {v : Value} {xs : List Value} (hs : a.eval s = v) (hown : w.ownsRow base e size v n xs) {A : Option Addr} {m c : Nat} {news : List Value} (hx : a.eval x = .slice A m c) (hA : A = none → m = 0 ∧ c = 0) (hl : news.length = m * size) (hr : Rd w A news)
    (h1 : ∀ u ∈ news, u.oneCell' = true) (hb : (n + m) * bytes ≤ 140737488355328) (hbase : base ≤ w.heap.size) :
    ∃ v' w', (execOp a.eval o).run P w = .ok (.value v') w' ∧ w'.ownsRow base e size v' (n + m) (xs ++ news) ∧ w.grownBy w' v.ownBlock ∧ (v'.ownBlock = v.ownBlock ∨ v'.ownBlock = some w.heap.size) := by
  obtain ⟨i, hi, hz, hsz, hby⟩ := info_parts E.hi
  have hnm : n + m ≤ maxLen := by
    have : n + m ≤ (n + m) * bytes := Nat.le_mul_of_pos_right _ E.hb
    unfold maxLen
    omega
  cases A with
  | none =>
    obtain ⟨rfl, rfl⟩ := hA rfl
    have hn0 : news = [] := List.eq_nil_of_length_eq_zero (by simpa using hl)
    subst hn0
    have hrun := run_append_owned_none (P := P) w base t o.type e i size E.ht hi v n xs hown
    refine ⟨v, w, ?_, by simpa using hown, World.grownBy.refl _ _, .inl rfl⟩
    unfold execOp
    simp only [ho, resolve, invoke, builtin, Sem.run_bind, Sem.run_pure, Result.andThen_ok, List.map_toArray, List.map_cons, List.map_nil, hs, hx, hrun]
  | some ad =>
    have hnews : ∀ j u, news[j]? = some u → w.cell? (ad.add j) = some u := fun j u hu => by
      obtain ⟨b, o', e, hc⟩ := hr j u hu
      obtain rfl := Option.some.inj e
      rw [Addr.add_mid]
      exact hc
    obtain ⟨v', w', hrun, h2, h3, h4⟩ := run_append_own (P := P) w base t o.type e i z size bytes E.ht hi hz hsz hby E.hz E.h0 v n xs hown ad m c news hl hnews h1 hnm hb hbase
    refine ⟨v', w', ?_, h2, h3, append_where E.ht hi hz hsz hby hown hl hnews h1 hnm hb hrun h4⟩
    unfold execOp
    simp only [ho, resolve, invoke, builtin, Sem.run_bind, Sem.run_pure, Result.andThen_ok, List.map_toArray, List.map_cons, List.map_nil, hs, hx, hrun]
theorem St.grow (h : St X w0 w L) {w' : World} {v v' : Value} {n n' : Nat} {e : TypeId} {size : Nat} {xs xs' : List Value} (hr : Repl (.own v n e size xs) (.own v' n' e size xs') L L') (hw : w'.ownsRow w0.heap.size e size v' n' xs') (hg : w.grownBy w' v.ownBlock)
    (hwh : v'.ownBlock = v.ownBlock ∨ v'.ownBlock = some w.heap.size) : St X w0 w' L' := by
  -- where v' stands in a block of its own, that block is new: every fact stands apart from it
  rcases hwh with h1 | h1
  · refine h.turn hr rfl (fun k hk => by show v.ownBlock = some k; rw [← h1]; exact hk) hw hg.os hg.tape hg.output hg.size fun k hk hne => hg.block k hk fun e => hne e.symm
  · have hsep : ∀ {M M' : List Fc}, Repl (.own v n e size xs) (.own v' n' e size xs') M M' → (∀ f ∈ M, f ∈ L) → M.Pairwise Fc.sep → M'.Pairwise Fc.sep := by
      intro M M' hM
      induction hM with
      | head =>
        intro hL hp
        obtain ⟨h2, h3⟩ := List.pairwise_cons.1 hp
        refine List.pairwise_cons.2 ⟨fun g hg' _ k a b => ?_, h3⟩
        have a' : v'.ownBlock = some k := a
        rw [h1] at a'
        have hlt := Fc.bound (h.ok g (hL g (List.mem_cons_of_mem _ hg'))) b
        injection a' with a'
        omega
      | tail hM ih =>
        intro hL hp
        obtain ⟨h2, h3⟩ := List.pairwise_cons.1 hp
        refine List.pairwise_cons.2 ⟨fun g hg' => ?_, ih (fun f hf => hL f (List.mem_cons_of_mem _ hf)) h3⟩
        rcases hM.old g hg' with rfl | ⟨h5, _⟩
        · intro _ k a b
          have b' : v'.ownBlock = some k := b
          rw [h1] at b'
          have hlt := Fc.bound (h.ok _ (hL _ (List.mem_cons_self ..))) a
          injection b' with b'
          omega
        · exact h2 g h5
    have hfr := h.fresh _ hr.mem rfl
    refine ⟨⟨hg.os.trans h.bel.os, hg.tape.trans h.bel.tape, hg.output.trans h.bel.output, Nat.le_trans h.size hg.size, fun k hlt hX => ?_⟩, fun f hf => ?_, hsep hr (fun _ h => h) h.sep, fun f hf hfw k hk => ?_⟩
    · refine (hg.block k (Nat.lt_of_lt_of_le hlt h.size) fun e => ?_).trans (h.bel.block k hlt hX)
      rcases hfr k e.symm with h2 | h2
      · omega
      · exact hX h2
    · rcases hr.old f hf with rfl | ⟨h3, h4⟩
      · exact hw
      · refine Fc.kept (h.ok f h3) hg.size fun k hk => hg.block k (Fc.bound (h.ok f h3) hk) fun e => ?_
        rcases h4 h.sep with h5 | h5
        · exact h5 (by rw [Bool.or_eq_true]; exact .inr rfl) k hk e.symm
        · exact h5
    · rcases hr.old f hf with rfl | ⟨h3, _⟩
      · have hk' : v'.ownBlock = some k := hk
        rw [h1] at hk'
        injection hk' with hk'
        exact .inl (by have := h.size; omega)
      · exact h.fresh f h3 hfw k hk
/-- append to a row of one's own -/
theorem sAppend {L' : Value → List Fc} {t e : TypeId} {size bytes : Nat} {z : Value} [E : TS P t e size bytes z] {s x : Operand} {n m c : Nat} {v : Value} {xs news : List Value} {A : Option Addr} (hS : St X w0 w L) (hx : a.eval x = .slice A m c) (hs : a.eval s = v)
    [hm : HasO v L n e size xs] (hrd : Rd w A news) [hr : ∀ v', RepO v v' n (n + m) e size xs (xs ++ news) L (L' v')] (hA : A = none → m = 0 ∧ c = 0) (hl : news.length = m * size) (h1 : ∀ u ∈ news, u.oneCell' = true) (hb : (n + m) * bytes ≤ 140737488355328)
    (h : ∀ v' w', St X w0 w' (L' v') → wpList P ops Q rest (a.put d v') w') : wpList P ops Q (⟨d, .call { callee := .builtin .append, args := #[s, x], argTypes := #[t, t] }, ty, pos, af, none⟩ :: rest) a w := by
  obtain ⟨v', w', hrun, h2, h3, h4⟩ := xAppend (o := ⟨d, .call { callee := .builtin .append, args := #[s, x], argTypes := #[t, t] }, ty, pos, af, none⟩) rfl E.el hs (hS.own hm.mem) hx hA hl hrd h1 hb hS.size
  exact wpl_run rfl hrun (h v' w' (hS.grow (hr v').rep h2 h3 h4))
end
end Go.Proofs.YtgfkbeipckbkiaaDoor
