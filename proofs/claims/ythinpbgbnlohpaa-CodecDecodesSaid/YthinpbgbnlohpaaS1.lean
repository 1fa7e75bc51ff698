/- What is known of the world, in one fact: a list of blocks, ranges and rows that stand apart. -/
import Derived.Test.YthinpbgbnlohpaaB4
namespace Go.Proofs.Ythinpbgbnlohpaa
set_option linter.unusedSimpArgs false
set_option linter.unusedVariables false
open Go.RowKit

/-! short names of laws that the walks name often -/
theorem zA {α : Type} (xs : Array α) (i : Nat) (d : α) : xs.getD i d = xs[i]?.getD d := Array.getD_eq_getD_getElem? ..
theorem zB {α : Type} {l : List α} {i : Nat} : l.toArray[i]? = l[i]? := List.getElem?_toArray
theorem zC {α : Type} {a : α} {l : List α} : (a :: l)[0]? = some a := List.getElem?_cons_zero
theorem zD {α : Type} {a : α} {l : List α} {i : Nat} : (a :: l)[i + 1]? = l[i]? := List.getElem?_cons_succ
theorem zE {α : Type} {a d : α} : (some a).getD d = a := Option.getD_some
theorem zF {α : Type} (l : List α) (i : Nat) (a : α) : l.toArray.setIfInBounds i a = (l.set i a).toArray := List.setIfInBounds_toArray ..
theorem zG {α : Type} {x a : α} {l : List α} : (x :: l).set 0 a = a :: l := List.set_cons_zero
theorem zH {α : Type} {x a : α} {l : List α} {n : Nat} : (x :: l).set (n + 1) a = x :: l.set n a := List.set_cons_succ
theorem zI {α β : Type} (f : α → β) (l : List α) : l.toArray.map f = (l.map f).toArray := List.map_toArray ..
theorem zJ {α : Type} (l m : List α) : l.toArray ++ m.toArray = (l ++ m).toArray := List.append_toArray ..
/-- what stood in w stands in w' as it did, but for the blocks X -/
structure Bel (X : List Nat) (w w' : World) : Prop where
  os : w'.os = w.os
  tape : w'.tape = w.tape
  output : w'.output = w.output
  size : w.heap.size ≤ w'.heap.size
  block : ∀ k, k < w.heap.size → k ∉ X → w'.heap[k]? = w.heap[k]?
theorem Bel.refl (X : List Nat) (w : World) : Bel X w w := ⟨rfl, rfl, rfl, Nat.le_refl _, fun _ _ _ => rfl⟩
theorem Bel.of {w w' : World} (h : Below w.heap.size w w') : Bel [] w w' := ⟨h.os, h.tape, h.output, h.size, fun k hk _ => h.block k hk⟩
theorem Bel.below {w w' : World} (h : Bel [] w w') : Below w.heap.size w w' := ⟨h.os, h.tape, h.output, h.size, fun k hk => h.block k hk (by simp)⟩
theorem Bel.trans {X Y : List Nat} {a b c : World} (h : Bel X a b) (k : Bel Y b c) (hY : ∀ y ∈ Y, y ∈ X ∨ a.heap.size ≤ y) : Bel X a c :=
  ⟨k.os.trans h.os, k.tape.trans h.tape, k.output.trans h.output, Nat.le_trans h.size k.size, fun i hi hx =>
    (k.block i (Nat.lt_of_lt_of_le hi h.size) fun hy => (hY i hy).elim hx fun h' => by omega).trans (h.block i hi hx)⟩
theorem Bel.mono {X Y : List Nat} {a b : World} (h : Bel X a b) (hX : ∀ x ∈ X, x ∈ Y ∨ a.heap.size ≤ x) : Bel Y a b :=
  ⟨h.os, h.tape, h.output, h.size, fun i hi hx => h.block i hi fun hy => (hX i hy).elim hx fun h' => by omega⟩

inductive Fc where
  | blk (g : Nat) (cs : List Value) (T : TypeId)
  | rd (A : Option Addr) (cs : List Value)
  | own (v : Value) (n : Nat) (e : TypeId) (size : Nat) (xs : List Value)
  | inv (φ : World → Prop) (F : Nat → Prop)
def Fc.wr : Fc → Bool
  | .blk .. => true
  | .own .. => true
  | _ => false
def Fc.foot : Fc → Nat → Prop
  | .blk g _ _, k => k = g
  | .rd A cs, k => cs ≠ [] ∧ ∃ o, A = some ⟨k, o, none⟩
  | .own v _ _ _ _, k => v.ownBlock = some k
  | .inv _ F, k => F k
def Fc.holds (B : Nat) (w : World) : Fc → Prop
  | .blk g cs T => w.heap[g]? = some (.cells cs.toArray T (0, 0))
  | .rd A cs => Rd w A cs
  | .own v n e size xs => w.ownsRow B e size v n xs
  | .inv φ F => φ w ∧ (∀ k, F k → k < w.heap.size) ∧ ∀ w', (∀ k, F k → w'.heap[k]? = w.heap[k]?) → φ w'
theorem Fc.bound {B : Nat} {w : World} {f : Fc} (h : f.holds B w) {k : Nat} (hk : f.foot k) : k < w.heap.size := by
  cases f with
  | blk g cs T => obtain rfl : k = g := hk; exact (Array.getElem?_eq_some_iff.1 h).1
  | rd A cs =>
    obtain ⟨hc, o, rfl⟩ := hk
    have hc' : 0 < cs.length := List.length_pos_iff.2 hc
    obtain ⟨b, o', e, hlt, _⟩ := Rd.open_ h hc'
    injection e with e
    injection e with e1
    omega
  | own v n e size xs => exact (World.ownsRow.lt h k hk).2
  | inv φ F => exact h.2.1 k hk
theorem rd_heap {w w' : World} {A : Option Addr} {cs : List Value} (h : Rd w A cs) (hk : ∀ k, (cs ≠ [] ∧ ∃ o, A = some ⟨k, o, none⟩) → w'.heap[k]? = w.heap[k]?) : Rd w' A cs := fun j v hv => by
  obtain ⟨b, o, hA, hc⟩ := h j v hv
  refine ⟨b, o, hA, ?_⟩
  have := hk b ⟨fun e => by simp [e] at hv, o, hA⟩
  rw [World.cell?_of_block (w := w) (w' := w') (a := ⟨b, o + j, none⟩) this]
  exact hc
theorem own_heap {w w' : World} {B : Nat} {e : TypeId} {size n : Nat} {v : Value} {xs : List Value} (h : w.ownsRow B e size v n xs) (hk : ∀ k, v.ownBlock = some k → w'.heap[k]? = w.heap[k]?) : w'.ownsRow B e size v n xs := by
  refine ⟨h.1, ?_⟩
  rcases h.2 with h2 | ⟨g, cap, cur, rfl, hg, hh, r⟩
  · exact .inl h2
  · exact .inr ⟨g, cap, cur, rfl, hg, (hk g rfl).trans hh, r⟩
theorem Fc.kept {B : Nat} {w w' : World} {f : Fc} (h : f.holds B w) (hsz : w.heap.size ≤ w'.heap.size) (hk : ∀ k, f.foot k → w'.heap[k]? = w.heap[k]?) : f.holds B w' := by
  cases f with
  | blk g cs T => exact (hk g rfl).trans h
  | rd A cs => exact rd_heap h hk
  | own v n e size xs => exact own_heap h hk
  | inv φ F => exact ⟨h.2.2 w' hk, fun k hF => Nat.lt_of_lt_of_le (h.2.1 k hF) hsz, fun w'' h'' => h.2.2 w'' fun k hF => (h'' k hF).trans (hk k hF)⟩
def Fc.sep (f g : Fc) : Prop := (f.wr || g.wr) = true → ∀ k, f.foot k → g.foot k → False

structure St (X : List Nat) (w0 w : World) (L : List Fc) : Prop where
  bel : Bel X w0 w
  ok : ∀ f ∈ L, f.holds w0.heap.size w
  sep : L.Pairwise Fc.sep
  fresh : ∀ f ∈ L, f.wr = true → ∀ k, f.foot k → w0.heap.size ≤ k ∨ k ∈ X
theorem Fc.base {B B' : Nat} {w : World} {f : Fc} (h : f.holds B w) (hB : B' ≤ B) : f.holds B' w := by
  cases f with
  | own v n e size xs => exact own_base h hB
  | _ => exact h

section
variable {X : List Nat} {w0 w w' : World} {L : List Fc}
theorem St.start (X : List Nat) (w : World) : St X w w [] := ⟨Bel.refl _ _, fun _ h => (List.not_mem_nil h).elim, .nil, fun _ h => (List.not_mem_nil h).elim⟩
theorem St.below (h : St [] w0 w L) : Below w0.heap.size w0 w := h.bel.below
theorem St.size (h : St X w0 w L) : w0.heap.size ≤ w.heap.size := h.bel.size
/-- all that stands stays -/
theorem St.call (h : St X w0 w L) (hb : Below w.heap.size w w') : St X w0 w' L :=
  ⟨h.bel.trans (Bel.of hb) (by simp), fun f hf => Fc.kept (h.ok f hf) hb.size fun k hk => hb.block k (Fc.bound (h.ok f hf) hk), h.sep, h.fresh⟩
theorem St.drew (h : St X w0 w L) : St X w0 w.drew L := h.call ((Below.refl _ _).drew)
theorem St.drewN (h : St X w0 w L) (n : Nat) : St X w0 (w.drewN n) L := h.call ⟨rfl, rfl, rfl, Nat.le_refl _, fun _ _ => rfl⟩
theorem St.cons (h : St X w0 w L) {f : Fc} (hf : f.holds w0.heap.size w) (hs : ∀ g ∈ L, f.sep g) (hfr : f.wr = true → ∀ k, f.foot k → w0.heap.size ≤ k ∨ k ∈ X) : St X w0 w (f :: L) :=
  ⟨h.bel, fun g hg => (List.mem_cons.1 hg).elim (fun e => e ▸ hf) (h.ok g), List.pairwise_cons.2 ⟨hs, h.sep⟩,
   fun g hg => (List.mem_cons.1 hg).elim (fun e => e ▸ hfr) (h.fresh g)⟩
theorem St.sub (h : St X w0 w L) {L' : List Fc} (hs : L'.Sublist L) : St X w0 w L' :=
  ⟨h.bel, fun f hf => h.ok f (hs.subset hf), h.sep.sublist hs, fun f hf => h.fresh f (hs.subset hf)⟩
theorem St.nil (h : St X w0 w L) : St X w0 w [] := h.sub (List.nil_sublist _)
theorem St.tail (h : St X w0 w L) {f : Fc} {L' : List Fc} (e : L = f :: L') : St X w0 w L' := by subst e; exact h.sub (List.sublist_cons_self _ _)
theorem Fc.sep_symm {f g : Fc} (h : f.sep g) : g.sep f := fun hw k a b => h (by rw [Bool.or_comm]; exact hw) k b a
theorem pw_mem : ∀ {L : List Fc}, L.Pairwise Fc.sep → ∀ {f g : Fc}, f ∈ L → g ∈ L → f ≠ g → f.sep g
  | [], _, _, _, hf, _, _ => (List.not_mem_nil hf).elim
  | x :: l, hp, f, g, hf, hg, hne => by
    obtain ⟨h1, h2⟩ := List.pairwise_cons.1 hp
    rcases List.mem_cons.1 hf with h2f | h2f
    · rcases List.mem_cons.1 hg with h2g | h2g
      · exact (hne (h2f.trans h2g.symm)).elim
      · exact h2f ▸ h1 g h2g
    · rcases List.mem_cons.1 hg with h2g | h2g
      · exact Fc.sep_symm (h2g ▸ h1 f h2f)
      · exact pw_mem h2 h2f h2g hne
/-- the order does not matter -/
theorem St.perm (h : St X w0 w L) {L' : List Fc} (hp : L'.Perm L) : St X w0 w L' :=
  ⟨h.bel, fun f hf => h.ok f (hp.mem_iff.1 hf), (hp.symm.pairwise_iff fun hab => Fc.sep_symm hab).1 h.sep, fun f hf => h.fresh f (hp.mem_iff.1 hf)⟩
/-- a block of the call's own -/
theorem St.alloc (h : St X w0 w L) (cs : List Value) (T : TypeId) : St X w0 (w.alloc (.cells cs.toArray T)) (.blk w.heap.size cs T :: L) := by
  have hb : Below w.heap.size w (w.alloc (.cells cs.toArray T)) := (Below.refl _ _).alloc (Nat.le_refl _) _
  refine (h.call hb).cons ?_ ?_ ?_
  · show (w.heap.push _)[w.heap.size]? = _
    simp
  · intro g hg _ k hk hk'
    obtain rfl : k = w.heap.size := hk
    have := Fc.bound (h.ok g hg) hk'
    omega
  · rintro _ k hk
    obtain rfl : k = w.heap.size := hk
    exact .inl h.size
/-- a range that stood when the call began -/
theorem St.arg (h : St X w0 w L) {A : Option Addr} {cs : List Value} (hr : Rd w0 A cs) (hX : ∀ k, (Fc.rd A cs).foot k → k ∉ X) : St X w0 w (.rd A cs :: L) := by
  have hb := fun k (hk : (Fc.rd A cs).foot k) => Fc.bound (B := 0) (f := .rd A cs) hr hk
  refine h.cons (rd_heap hr fun k hk => h.bel.block k (hb k hk) (hX k hk)) ?_ (by intro hw; cases hw)
  intro g hg hw k hk hk'
  have hgw : g.wr = true := by simpa [Fc.wr] using hw
  rcases h.fresh g hg hgw k hk' with h1 | h1
  · have := hb k hk; omega
  · exact hX k hk h1
theorem St.arg0 (h : St [] w0 w L) {A : Option Addr} {cs : List Value} (hr : Rd w0 A cs) : St [] w0 w (.rd A cs :: L) := h.arg hr (by simp)
/-- a part of what is read -/
theorem St.part (h : St X w0 w L) {A A' : Option Addr} {cs cs' : List Value} (hm : Fc.rd A cs ∈ L) (hr : Rd w A' cs') (hf : ∀ k, (Fc.rd A' cs').foot k → (Fc.rd A cs).foot k) : St X w0 w (.rd A' cs' :: L) := by
  refine h.cons hr ?_ (by intro hw; cases hw)
  intro g hg hw k hk hk'
  have hgw : g.wr = true := by simpa [Fc.wr] using hw
  have hs : (Fc.rd A cs).sep g := pw_mem h.sep hm hg (fun e => by rw [← e] at hgw; cases hgw)
  exact hs (by rw [Bool.or_eq_true]; exact .inr hgw) k (hf k hk) hk'
/-- one fact in the place of another -/
inductive Repl (f f' : Fc) : List Fc → List Fc → Prop where
  | head {L : List Fc} : Repl f f' (f :: L) (f' :: L)
  | tail {g : Fc} {L L' : List Fc} (h : Repl f f' L L') : Repl f f' (g :: L) (g :: L')
theorem Repl.mem {f f' : Fc} : ∀ {L L' : List Fc}, Repl f f' L L' → f ∈ L
  | _, _, .head => List.mem_cons_self ..
  | _, _, .tail h => List.mem_cons_of_mem _ h.mem
theorem Repl.old {f f' : Fc} : ∀ {L L' : List Fc}, Repl f f' L L' → ∀ g ∈ L', g = f' ∨ (g ∈ L ∧ (L.Pairwise Fc.sep → g.sep f ∨ False))
  | _, _, .head, g, hg => by
    rcases List.mem_cons.1 hg with h | h
    · exact .inl h
    · exact .inr ⟨List.mem_cons_of_mem _ h, fun hp => .inl (Fc.sep_symm ((List.pairwise_cons.1 hp).1 g h))⟩
  | _, _, .tail (g := x) h, g, hg => by
    rcases List.mem_cons.1 hg with h2 | h2
    · exact .inr ⟨h2 ▸ List.mem_cons_self .., fun hp => .inl (h2 ▸ (List.pairwise_cons.1 hp).1 f h.mem)⟩
    · rcases h.old g h2 with h3 | ⟨h3, h4⟩
      · exact .inl h3
      · exact .inr ⟨List.mem_cons_of_mem _ h3, fun hp => h4 (List.pairwise_cons.1 hp).2⟩
theorem Repl.sep {f f' : Fc} (hw : f'.wr = true → f.wr = true) (hft : ∀ k, f'.foot k → f.foot k) : ∀ {L L' : List Fc}, Repl f f' L L' → L.Pairwise Fc.sep → L'.Pairwise Fc.sep
  | _, _, .head, hp => by
    obtain ⟨h1, h2⟩ := List.pairwise_cons.1 hp
    refine List.pairwise_cons.2 ⟨fun g hg hwr k a b => h1 g hg ?_ k (hft k a) b, h2⟩
    rw [Bool.or_eq_true] at hwr ⊢
    exact hwr.imp hw id
  | _, _, .tail (g := x) h, hp => by
    obtain ⟨h1, h2⟩ := List.pairwise_cons.1 hp
    refine List.pairwise_cons.2 ⟨fun g hg => ?_, h.sep hw hft h2⟩
    rcases h.old g hg with rfl | ⟨h3, _⟩
    · intro hwr k a b
      refine h1 f h.mem ?_ k a (hft k b)
      rw [Bool.or_eq_true] at hwr ⊢
      exact hwr.imp id hw
    · exact h1 g h3
/-- a writing step: one fact turns, what is apart from it stays -/
theorem St.turn (h : St X w0 w L) {f f' : Fc} {L' : List Fc} (hr : Repl f f' L L') (hfw : f.wr = true) (hft : ∀ k, f'.foot k → f.foot k) (hw : f'.holds w0.heap.size w')
    (hos : w'.os = w.os) (htp : w'.tape = w.tape) (hout : w'.output = w.output) (hsz : w.heap.size ≤ w'.heap.size) (hk : ∀ k, k < w.heap.size → ¬ f.foot k → w'.heap[k]? = w.heap[k]?) : St X w0 w' L' := by
  refine ⟨⟨hos.trans h.bel.os, htp.trans h.bel.tape, hout.trans h.bel.output, Nat.le_trans h.size hsz, fun k hlt hX => ?_⟩, fun g hg => ?_, hr.sep (fun _ => hfw) hft h.sep, fun g hg hgw k hgk => ?_⟩
  · refine (hk k (Nat.lt_of_lt_of_le hlt h.size) fun hf => ?_).trans (h.bel.block k hlt hX)
    rcases h.fresh f hr.mem hfw k hf with h1 | h1
    · omega
    · exact hX h1
  · rcases hr.old g hg with rfl | ⟨h3, h4⟩
    · exact hw
    · refine Fc.kept (h.ok g h3) hsz fun k hgk => hk k (Fc.bound (h.ok g h3) hgk) fun hf => ?_
      rcases h4 h.sep with h5 | h5
      · exact h5 (by rw [Bool.or_eq_true]; exact .inr hfw) k hgk hf
      · exact h5
  · rcases hr.old g hg with rfl | ⟨h3, _⟩
    · exact h.fresh f hr.mem hfw k (hft k hgk)
    · exact h.fresh g h3 hgw k hgk
/-- what a call leaves: facts of its own -/
structure Res (X : List Nat) (w w' : World) (N : List Fc) : Prop where
  bel : Bel X w w'
  ok : ∀ f ∈ N, f.holds w.heap.size w'
  sep : N.Pairwise Fc.sep
  fresh : ∀ f ∈ N, ∀ k, f.foot k → w.heap.size ≤ k ∨ k ∈ X
theorem Res.of_below (h : Below w.heap.size w w') : Res [] w w' [] := ⟨Bel.of h, fun _ h => (List.not_mem_nil h).elim, .nil, fun _ h => (List.not_mem_nil h).elim⟩
/-- facts that can be written alone are left -/
theorem St.res (h : St X w0 w L) {N : List Fc} (hN : N.Sublist L) (hw : ∀ f ∈ N, f.wr = true) : Res X w0 w N :=
  ⟨h.bel, fun f hf => h.ok f (hN.subset hf), h.sep.sublist hN, fun f hf => h.fresh f (hN.subset hf) (hw f hf)⟩
/-- behind a call that leaves facts of its own -/
theorem St.ret (h : St X w0 w L) {N : List Fc} (hr : Res [] w w' N) : St X w0 w' (N ++ L) := by
  have hb := hr.bel.below
  have h1 := h.call hb
  refine ⟨h1.bel, fun f hf => ?_, List.pairwise_append.2 ⟨hr.sep, h1.sep, fun f hf g hg _ k a b => ?_⟩, fun f hf hw k hk => ?_⟩
  · rcases List.mem_append.1 hf with hf | hf
    · exact Fc.base (hr.ok f hf) h.size
    · exact h1.ok f hf
  · rcases hr.fresh f hf k a with h2 | h2
    · have := Fc.bound (h.ok g hg) b
      omega
    · simp at h2
  · rcases List.mem_append.1 hf with hf | hf
    · rcases hr.fresh f hf k hk with h2 | h2
      · exact .inl (Nat.le_trans h.size h2)
      · simp at h2
    · exact h1.fresh f hf hw k hk
end
end Go.Proofs.Ythinpbgbnlohpaa
