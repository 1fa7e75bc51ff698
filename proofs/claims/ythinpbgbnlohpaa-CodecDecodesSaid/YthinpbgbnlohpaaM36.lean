/- The reader's state; what Decode of a proof computes. -/
import Derived.Test.YthinpbgbnlohpaaM33
import Derived.Test.YthinpbgbnlohpaaM35
import Derived.Test.YthinpbgbnlohpaaS7
namespace Go.Proofs.Ythinpbgbnlohpaa
set_option linter.unusedSimpArgs false
set_option linter.unusedVariables false
open Go.RowKit
structure RS where
  A : Option Addr
  l : List UInt8
  c : Nat
  bad : Bool
def RS.cells (s : RS) : List Value := [.slice s.A s.l.length s.c, .bool s.bad]
instance (s : RS) : CellAt s.cells 0 (.slice s.A s.l.length s.c) := ⟨rfl⟩
instance (s : RS) : CellAt s.cells 1 (.bool s.bad) := ⟨rfl⟩
def cutR : Option Addr → Nat → Option Addr
  | some ⟨b, o, _⟩, c => cut32 b o c
  | none, _ => none
def RS.out (s : RS) : B32 := if s.l.length < 32 then zB32 else part32 s.l 0
def RS.next (s : RS) : RS := if s.l.length < 32 then ⟨s.A, s.l, s.c, true⟩ else ⟨cutR s.A s.c, s.l.drop 32, s.c - 32, s.bad⟩
theorem out_eq {s : RS} (h : ¬ s.l.length < 32) : s.out = part32 s.l 0 := if_neg h
theorem head_part (l : List UInt8) : headB32 l = part32 l 0 := by unfold headB32 part32; simp
theorem part_drop (l : List UInt8) (a b : Nat) : part32 (l.drop a) b = part32 l (a + b) := by unfold part32; simp
section
variable {X : List Nat} {w0 w : World} {L : List Fc}
theorem part_st {s : RS} {r : Nat} (hS : St X w0 w L) [hb : HasB r L s.cells 75] [ha : HasA s.A L (bc s.l)] (hl : s.l.length ≤ 1000000000) (hc : s.l.length ≤ s.c) :
    Calls Try.prog 41 #[.pointer (some ⟨r, 0, none⟩)] w fun e w' => e = .returned (.agg s.out.cells.toArray) ∧ Res [r] w w' [.blk r s.next.cells 75] := by
  have h1 := hS.blk hb.mem
  have h2 := hS.rd ha.mem
  have h3 := hS.rdNe (A := s.A) (g := r)
  clear hS hb ha
  obtain ⟨A, l, c, bad⟩ := s
  simp only at hl hc h1 h2 h3
  by_cases h : l.length < 32
  · have e1 : (RS.mk A l c bad).out = zB32 := if_pos h
    have e2 : (RS.mk A l c bad).next = ⟨A, l, c, true⟩ := if_pos h
    rw [e1, e2]
    exact part_bad A l.length c r bad h w h1
  · have e1 : (RS.mk A l c bad).out = headB32 l := by rw [head_part]; exact if_neg h
    have e2 : (RS.mk A l c bad).next = ⟨cutR A c, l.drop 32, c - 32, bad⟩ := if_neg h
    obtain ⟨b, o, rfl, -, -⟩ := h2.open_ (by rw [bc_length]; omega)
    rw [e1, e2]
    have h4 : b ≠ r := h3 b ⟨fun e => by have := congrArg List.length e; rw [bc_length] at this; simp at this; subst this; simp at h, o, rfl⟩
    have h5 := part_good l b o c r bad (by omega) hl hc w h1 h2 h4
    unfold RS.cells
    simp only [List.length_drop]
    exact h5
theorem next_rd {s : RS} (hS : St X w0 w L) [ha : HasA s.A L (bc s.l)] (hc : s.l.length ≤ s.c) : St X w0 w (.rd s.next.A (bc s.next.l) :: L) := by
  have h2 := hS.rd ha.mem
  by_cases h : s.l.length < 32
  · have e2 : s.next = ⟨s.A, s.l, s.c, true⟩ := if_pos h
    rw [e2]
    exact hS.part ha.mem h2 (fun k hk => hk)
  · have e2 : s.next = ⟨cutR s.A s.c, s.l.drop 32, s.c - 32, s.bad⟩ := if_neg h
    rw [e2]
    obtain ⟨b, o, e, -, -⟩ := h2.open_ (by rw [bc_length]; omega)
    have hm := ha.mem
    rw [e] at h2 hm ⊢
    refine hS.part hm (cut32_Rd h2 (by omega) hc) ?_
    rintro k ⟨-, o', he⟩
    refine ⟨fun e => by have := congrArg List.length e; rw [bc_length] at this; simp at this; rw [this] at h; simp at h, o, ?_⟩
    have he' : cut32 b o s.c = some ⟨k, o', none⟩ := he
    unfold cut32 at he'
    by_cases h0 : s.c = 32
    · rw [if_pos h0] at he'
      injection he' with he'; injection he' with he1 _; rw [he1]
    · rw [if_neg h0] at he'
      injection he' with he'; injection he' with he1 _; rw [he1]
end
theorem next_cap {s : RS} (hc : s.l.length ≤ s.c) : s.next.l.length ≤ s.next.c := by
  unfold RS.next
  split
  · exact hc
  · simp only [List.length_drop]; omega
theorem next_len (s : RS) : s.next.l.length ≤ s.l.length := by
  unfold RS.next
  split
  · exact Nat.le_refl _
  · simp
/-! what Decode computes -/
def hdrN (l : List UInt8) : Nat := if (l.getD 1 0).toNat = 1 then 100 else 36
def chunks (l : List UInt8) (h n : Nat) : List B32 := (List.range n).map fun i => part32 l (h + 32 * i)
theorem chunks_length (l : List UInt8) (h n : Nat) : (chunks l h n).length = n := by simp [chunks]
theorem chunks_succ (l : List UInt8) (h n : Nat) : chunks l h (n + 1) = chunks l h n ++ [part32 l (h + 32 * n)] := by simp [chunks, List.range_succ]
def decP (l : List UInt8) (s : Sl) : Proof := ⟨((l.getD 1 0).toNat : Int), ((l.getD 2 0).toNat : Int) * 256 + ((l.getD 3 0).toNat : Int), if (l.getD 1 0).toNat = 1 then ⟨part32 l 36, part32 l 68⟩ else zLeaf, part32 l 4, s⟩
def decN (l : List UInt8) : Nat := (l.length - hdrN l) / 32
def decErr (l : List UInt8) : Int := if l.length < 36 then 5 else if l.getD 0 0 ≠ 1 then 6 else if 1 < (l.getD 1 0).toNat then 7 else
  if l.length < hdrN l ∨ (l.length - hdrN l) % 32 ≠ 0 ∨ 257 < decN l ∨ checkP (decP l ⟨none, decN l, 0⟩) ≠ 0 then 5 else 0
def DecPostP (l : List UInt8) (W : World) (e : Ending) (w' : World) : Prop :=
  (decErr l ≠ 0 ∧ e = .returned (.tuple #[.agg zProof.cells.toArray, .int .i64 (decErr l)]) ∧ Below W.heap.size W w') ∨
  (decErr l = 0 ∧ ∃ A c, e = .returned (.tuple #[.agg (decP l ⟨A, decN l, c⟩).cells.toArray, .int .i64 0]) ∧ Res [] W w' [.own (.slice A (decN l) c) (decN l) 43 32 (dc (chunks l (hdrN l) (decN l)))])
theorem checkP_sl (k d : Int) (f : Leaf) (b : B32) (s t : Sl) (h : s.n = t.n) : checkP ⟨k, d, f, b, s⟩ = checkP ⟨k, d, f, b, t⟩ := by simp only [checkP, h]
theorem checkP_decP (l : List UInt8) (A : Option Addr) (n c : Nat) : checkP (decP l ⟨A, n, c⟩) = checkP (decP l ⟨none, n, 0⟩) := checkP_sl _ _ _ _ _ _ rfl
theorem DecPostP.bad {l : List UInt8} {W w' : World} {e : Ending} {n : Int} (h : decErr l = n) (hn : n ≠ 0) (he : e = .returned (.tuple #[.agg zProof.cells.toArray, .int .i64 n])) (hb : Below W.heap.size W w') : DecPostP l W e w' := by
  subst h
  exact .inl ⟨hn, he, hb⟩
theorem DecPostP.good {l : List UInt8} {W w' : World} {e : Ending} {A : Option Addr} {k c : Nat} {q : List B32} {p : Proof} (h : decErr l = 0) (hn : decN l = k) (hq : q = chunks l (hdrN l) (decN l)) (hp : decP l ⟨A, k, c⟩ = p) (he : e = .returned (.tuple #[.agg p.cells.toArray, .int .i64 0]))
    (hR : Res [] W w' [.own (.slice A k c) k 43 32 (dc q)]) : DecPostP l W e w' := by
  subst hn; subst hp; subst hq
  exact .inr ⟨h, A, c, he, hR⟩
/-- what both readers hold to in their loop -/
structure DI (l : List UInt8) (h k : Nat) (s : RS) (q : List B32) : Prop where
  len : q.length = k
  le : k ≤ 257
  cap : s.l.length ≤ s.c
  small : s.l.length ≤ l.length
  good : s.bad = false → h + 32 * k ≤ l.length ∧ s.l = l.drop (h + 32 * k) ∧ q = chunks l h k
  bad : s.bad = true → l.length < h ∨ (l.length - h) % 32 ≠ 0
theorem DI.step {l : List UInt8} {h k : Nat} {s : RS} {q : List B32} (i : DI l h k s q) (hb : s.bad = false) (hk : k ≤ 256) (h0 : 0 < s.l.length) : DI l h (k + 1) s.next (q ++ [s.out]) := by
  obtain ⟨g1, g2, g3⟩ := i.good hb
  have hlen : s.l.length = l.length - (h + 32 * k) := by rw [g2, List.length_drop]
  refine ⟨by simp [i.len], by omega, next_cap i.cap, ?_, ?_, ?_⟩
  · unfold RS.next
    split
    · exact i.small
    · simp only [List.length_drop]; have := i.small; omega
  · intro hn
    unfold RS.next at hn ⊢
    unfold RS.out
    by_cases hs : s.l.length < 32
    · rw [if_pos hs] at hn; cases hn
    · rw [if_neg hs, if_neg hs]
      refine ⟨by omega, ?_, ?_⟩
      · show s.l.drop 32 = _
        rw [g2, List.drop_drop]
        exact congrArg (fun i => l.drop i) (by omega)
      · rw [chunks_succ, g3, g2, part_drop]
        rfl
  · intro hn
    unfold RS.next at hn
    by_cases hs : s.l.length < 32
    · exact .inr (by omega)
    · rw [if_neg hs] at hn
      rw [show s.bad = true from hn] at hb
      cases hb
theorem DI.end_bad {l : List UInt8} {k : Nat} {s : RS} {q : List B32} (i : DI l (hdrN l) k s q) (h36 : ¬ l.length < 36) (h0 : l.getD 0 0 = 1) (h1 : ¬ 1 < (l.getD 1 0).toNat) (hb : s.bad = true) : decErr l = 5 := by
  unfold decErr
  rw [if_neg h36, if_neg (by simpa using h0), if_neg h1, if_pos]
  rcases i.bad hb with h | h
  · exact .inl h
  · exact .inr (.inl h)
theorem DI.end_long {l : List UInt8} {k : Nat} {s : RS} {q : List B32} (i : DI l (hdrN l) k s q) (h36 : ¬ l.length < 36) (h0 : l.getD 0 0 = 1) (h1 : ¬ 1 < (l.getD 1 0).toNat) (hb : s.bad = false) (hk : 256 < k) (hs : 0 < s.l.length) : decErr l = 5 := by
  obtain ⟨g1, g2, g3⟩ := i.good hb
  have hlen : s.l.length = l.length - (hdrN l + 32 * k) := by rw [g2, List.length_drop]
  unfold decErr
  rw [if_neg h36, if_neg (by simpa using h0), if_neg h1, if_pos]
  have := i.le
  unfold decN
  omega
theorem DI.end_n {l : List UInt8} {k : Nat} {s : RS} {q : List B32} (i : DI l (hdrN l) k s q) (hb : s.bad = false) (hs : s.l.length = 0) : decN l = k ∧ q = chunks l (hdrN l) (decN l) ∧ hdrN l ≤ l.length ∧ (l.length - hdrN l) % 32 = 0 := by
  obtain ⟨g1, g2, g3⟩ := i.good hb
  have hlen : s.l.length = l.length - (hdrN l + 32 * k) := by rw [g2, List.length_drop]
  have e : decN l = k := by unfold decN; omega
  exact ⟨e, by rw [e]; exact g3, by omega, by omega⟩
theorem DI.end_check {l : List UInt8} {k : Nat} {s : RS} {q : List B32} (i : DI l (hdrN l) k s q) (h36 : ¬ l.length < 36) (h0 : l.getD 0 0 = 1) (h1 : ¬ 1 < (l.getD 1 0).toNat) (hb : s.bad = false) (hs : s.l.length = 0) (A : Option Addr) (c : Nat) :
    decErr l = if checkP (decP l ⟨A, k, c⟩) ≠ 0 then 5 else 0 := by
  obtain ⟨e, -, e2, e3⟩ := i.end_n hb hs
  have := i.le
  rw [checkP_decP, ← e]
  unfold decErr
  rw [if_neg h36, if_neg (by simpa using h0), if_neg h1]
  by_cases hc : checkP (decP l ⟨none, decN l, 0⟩) = 0
  · rw [if_neg (by omega), if_neg (by simpa using hc)]
  · rw [if_pos (by omega), if_pos hc]
def s0 (l : List UInt8) (A : Option Addr) (c : Nat) : RS := ⟨A, l.drop 4, c, false⟩
theorem DI.start0 {l : List UInt8} {A : Option Addr} {c : Nat} (h36 : ¬ l.length < 36) (hc : (l.drop 4).length ≤ c) (hk : (l.getD 1 0).toNat = 0) : DI l (hdrN l) 0 (s0 l A c).next [] ∧ (s0 l A c).out = part32 l 4 := by
  have hh : hdrN l = 36 := if_neg (by omega)
  have hn : ¬ (l.drop 4).length < 32 := by rw [List.length_drop]; omega
  have e1 : (s0 l A c).next = ⟨cutR A c, (l.drop 4).drop 32, c - 32, false⟩ := if_neg hn
  rw [hh]
  refine ⟨⟨rfl, by omega, next_cap hc, ?_, fun _ => ?_, fun h => ?_⟩, ?_⟩
  · rw [e1]; simp
  · rw [e1]
    exact ⟨by omega, by simp, rfl⟩
  · rw [e1] at h; cases h
  · exact (out_eq hn).trans (part_drop l 4 0)
theorem DI.start1 {l : List UInt8} {A : Option Addr} {c : Nat} (h36 : ¬ l.length < 36) (hc : (l.drop 4).length ≤ c) (hk : (l.getD 1 0).toNat = 1) :
    DI l (hdrN l) 0 (s0 l A c).next.next.next [] ∧ (s0 l A c).out = part32 l 4 ∧ (100 ≤ l.length → (s0 l A c).next.out = part32 l 36 ∧ (s0 l A c).next.next.out = part32 l 68) := by
  have hh : hdrN l = 100 := if_pos hk
  have hn : ¬ (l.drop 4).length < 32 := by rw [List.length_drop]; omega
  have e1 : (s0 l A c).next = ⟨cutR A c, (l.drop 4).drop 32, c - 32, false⟩ := if_neg hn
  have c1 := next_cap (s := s0 l A c) hc
  have c2 := next_cap c1
  have c3 := next_cap c2
  have eo : (s0 l A c).out = part32 l 4 := (out_eq hn).trans (part_drop l 4 0)
  rw [hh]
  rw [e1] at c3 ⊢
  rw [show (l.drop 4).drop 32 = l.drop 36 by rw [List.drop_drop]] at c3 ⊢
  by_cases h1 : l.length < 68
  · have hn1 : (l.drop 36).length < 32 := by rw [List.length_drop]; omega
    have e2 : (RS.mk (cutR A c) (l.drop 36) (c - 32) false).next = ⟨cutR A c, l.drop 36, c - 32, true⟩ := if_pos hn1
    have e3 : (RS.mk (cutR A c) (l.drop 36) (c - 32) true).next = ⟨cutR A c, l.drop 36, c - 32, true⟩ := if_pos hn1
    rw [e2, e3] at c3 ⊢
    exact ⟨⟨rfl, by omega, c3, (by simp), (fun h => by cases h), fun _ => by omega⟩, eo, fun h => by omega⟩
  · have hn1 : ¬ (l.drop 36).length < 32 := by rw [List.length_drop]; omega
    have e2 : (RS.mk (cutR A c) (l.drop 36) (c - 32) false).next = ⟨cutR (cutR A c) (c - 32), (l.drop 36).drop 32, c - 32 - 32, false⟩ := if_neg hn1
    rw [e2] at c3 ⊢
    rw [show (l.drop 36).drop 32 = l.drop 68 by rw [List.drop_drop]] at c3 ⊢
    have eo1 : (RS.mk (cutR A c) (l.drop 36) (c - 32) false).out = part32 l 36 := (out_eq hn1).trans (part_drop l 36 0)
    by_cases h2 : l.length < 100
    · have hn2 : (l.drop 68).length < 32 := by rw [List.length_drop]; omega
      have e3 : (RS.mk (cutR (cutR A c) (c - 32)) (l.drop 68) (c - 32 - 32) false).next = ⟨cutR (cutR A c) (c - 32), l.drop 68, c - 32 - 32, true⟩ := if_pos hn2
      rw [e3] at c3 ⊢
      exact ⟨⟨rfl, by omega, c3, (by simp), (fun h => by cases h), fun _ => by omega⟩, eo, fun h => by omega⟩
    · have hn2 : ¬ (l.drop 68).length < 32 := by rw [List.length_drop]; omega
      have e3 : (RS.mk (cutR (cutR A c) (c - 32)) (l.drop 68) (c - 32 - 32) false).next = ⟨cutR (cutR (cutR A c) (c - 32)) (c - 32 - 32), (l.drop 68).drop 32, c - 32 - 32 - 32, false⟩ := if_neg hn2
      rw [e3] at c3 ⊢
      have eo2 : (RS.mk (cutR (cutR A c) (c - 32)) (l.drop 68) (c - 32 - 32) false).out = part32 l 68 := (out_eq hn2).trans (part_drop l 68 0)
      exact ⟨⟨rfl, by omega, c3, (by simp), (fun _ => ⟨by omega, by simp, rfl⟩), fun h => by cases h⟩, eo, fun _ => ⟨eo1, eo2⟩⟩
end Go.Proofs.Ythinpbgbnlohpaa
