/- joined texts -/
import Derived.Test.YtjhlbbgikccclaaGreatDoorF5
set_option linter.all false
namespace Go.Proofs.YtjhlbbgikccclaaGreatDoor
section
open Go.RowKit
theorem Qfy {α : Type} (f : Nat → α) (z : α) (n i : Nat) (h : i < n) : ((List.range i).map f ++ List.replicate (n - i) z).set i (f i) = (List.range (i + 1)).map f ++ List.replicate (n - (i + 1)) z := by
 obtain ⟨q, hq⟩ : ∃ q, n - i = q + 1 := ⟨n - i - 1, by omega⟩
 rw [List.set_append_right _ _ (by simp), hq, show n - (i + 1) = q by omega, List.replicate_succ, List.range_succ, List.map_append]
 simp
theorem Qfw {α : Type} (f : Nat → α) (z : α) (n i : Nat) (h : i ≤ n) : ((List.range i).map f ++ List.replicate (n - i) z).length = n := by simp; omega
theorem Qfv {α : Type} (f : Nat → α) (z : α) (n : Nat) : (List.range n).map f ++ List.replicate (n - n) z = (List.range n).map f := by simp
theorem Sx.ownRd {A : List Fa} {W w : World} {L M : List Fa} {B : Option Addr} {N c e size : Nat} {xs : List Value} (s : Sx A W w L) [hd : TakeO (.slice B N c) L N e size xs M] : Sx A W w (.rd B xs :: M) := by
 have s2 := s.perm hd.perm
 have ho : w.ownsRow 0 e size (.slice B N c) N xs := s2.ok (.own _ _ _ _ _) (List.mem_cons_self ..)
 refine s2.tail.cons (QhX ho) (fun g hg hw k h1 h2 => ?_) (fun h => by cases h)
 obtain ⟨_, o, rfl⟩ := h1
 exact (List.pairwise_cons.1 s2.sep).1 g hg rfl k rfl h2
theorem Qib {L : List Fa} {b o o' off : Nat} {cs out : List Value} [h : Rd1 L (.rd (some ⟨b, o, none⟩) cs)] (ho : o' = o + off) (hr : ∀ j v, out[j]? = some v → cs[off + j]? = some v) : Rd1 L (.rd (some ⟨b, o', none⟩) out) := ⟨fun hw => by
 obtain ⟨_, h1, h2⟩ := h.ok hw
 subst ho
 refine ⟨rfl, fun j v hv => ⟨b, o + off, rfl, by rw [Nat.add_assoc]; exact Rd.range h1 _ v (hr j v hv)⟩, fun k hk => h2 k ?_⟩
 obtain rfl := Qic (A := none) hk
 refine ⟨fun hc => ?_, o, rfl⟩
 obtain ⟨hne, _⟩ := hk
 cases out with
 | nil => exact hne rfl
 | cons x out => have := hr 0 x rfl; rw [hc] at this; simp at this⟩
theorem Qkx (l : List UInt8) (a m : Nat) : ∀ j v, (bc ((l.drop a).take m))[j]? = some v → (bc l)[a + j]? = some v := fun j v hv => by
 rw [Qno, Qh2, List.getElem?_take] at hv
 split at hv
 ·rwa [List.getElem?_drop] at hv
 cases hv
abbrev S8.cs (s : S8) : List Value := [.int .u32 (s.a.toNat : Int), .int .u32 (s.b.toNat : Int), .int .u32 (s.c.toNat : Int), .int .u32 (s.d.toNat : Int), .int .u32 (s.e.toNat : Int), .int .u32 (s.f.toNat : Int), .int .u32 (s.g.toNat : Int), .int .u32 (s.h.toNat : Int)]
theorem S8.cs_eq (s : S8) : s.cs = wc .u32 s.l := rfl
theorem S8.cs_at (s : S8) {i : Nat} (h : i < 8) : s.cs[i]? = some (.int .u32 ((s.l.getD i 0).toNat : Int)) := YT (l := s.l) h
instance rowOutL (s : S8) : Row (bc (QfL s)) 32 := ⟨by rw [Jt]; simp [QfL], YZ _⟩
instance rowS8 (s : S8) : Row (wc .u32 s.l) 8 := ⟨rfl, Qho _ _⟩
instance (s : S8) (a b c d e f g h : Value) : SetAt [a, b, c, d, e, f, g, h] 0 (wc .u32 s.l) (wc .u32 s.l) := .whole rfl
def QaP (s t : S8) (i : Nat) : List W32 := (List.range 8).map fun j => if j < i then s.l.getD j 0 + t.l.getD j 0 else s.l.getD j 0
theorem Qkt (s t : S8) : QaP s t 0 = s.l := rfl
theorem Qku (s t : S8) : QaP s t 8 = (s.add t).l := rfl
theorem QbW (s t : S8) (i : Nat) : (QaP s t i).length = 8 := by simp [QaP]
theorem QeN (s t : S8) (i : Nat) (h : i < 8) : (QaP s t i).getD i 0 = s.l.getD i 0 := by
 unfold QaP
 rw [List.getD, List.getElem?_map, List.getElem?_range h]
 simp
theorem QeO (s t : S8) (i : Nat) (h : i < 8) : (QaP s t i).set i (s.l.getD i 0 + t.l.getD i 0) = QaP s t (i + 1) := by
 apply List.ext_getElem?
 intro j
 rw [List.getElem?_set, QbW]
 unfold QaP
 by_cases e : i = j
 ·subst e
  rw [if_pos rfl, if_pos h, List.getElem?_map, List.getElem?_range h]
  simp
 rw [if_neg e, List.getElem?_map, List.getElem?_map]
 by_cases hj : j < 8
 ·rw [List.getElem?_range hj]
  simp only [Option.map_some]
  by_cases h1 : j < i
  ·rw [if_pos h1, if_pos (by omega)]
  rw [if_neg h1, if_neg (by omega)]
 rw [List.getElem?_eq_none (by simpa using hj)]
 rfl
theorem QhW (s : S8) (i : Nat) : UInt8.ofBitVec ((s.l.getD (i / 4) 0 >>> (24 - 8 * (i % 4))).setWidth 8) = QcS s i := rfl
theorem Qk1 (l : List UInt8) (i : Nat) (h : i < l.length / 64) : (VT l).take (i + 1) = (VT l).take i ++ [Y3 l i] := by
 unfold VT
 rw [List.take_succ_eq_append_getElem (by simpa using h)]
 simp
theorem Qm0 (b : List UInt8) (s : S8) (n : Nat) : Vr b s (n + 1) = rnd (K64.getD n 0) (wat b n) (Vr b s n) := rfl
theorem Qmg (l : List UInt8) (B : Option Addr) (c : Nat) (hB : B = none → l.length = 0 ∧ c = 0) (hn : l.length ≤ 100000000000) : QC Tryz.prog 70 [.slice B l.length c].toArray [.rd B (bc l)] [] (fun _ : Unit => .agg (bc (sha l).1).toArray) (fun _ => []) := by
 have hp := Qeq l
 have hp64 : Yg l.length = 64 * (Yg l.length / 64) := by unfold Yg; omega
 have hpl : Yg l.length ≤ l.length + 72 := by unfold Yg; omega
 have hbl : (VT (pad l)).length = Yg l.length / 64 := by unfold VT; rw [List.length_map, List.length_range, hp]
 have hsha : bc (sha l).1 = bc (QfL (YE (VT (pad l)) H0)) := rfl
 rw [hsha]
 have hK := Qhw
 have hPad := Qmf l B c hB hn
 generalize Yg l.length = p at *
 generalize pad l = q at *
 subst hp
 obtain ⟨m, hm⟩ : ∃ m, m = q.length / 64 := ⟨_, rfl⟩
 rw [← hm] at hp64 hbl
 refine Qk Tryz.func70 rfl (n := 152) rfl rfl ?_
 intro W
 refine yR ?_
 refine Qo (Q0) fun g2 => ?_
 refine yN ?_
 refine yR ?_
 refine Qb (QD rfl) ?_
 refine Qo (Q0) fun g3 => ?_
 refine Q7 (Qw rfl rfl) ?_
 refine yN ?_
 refine yR ?_
 change H _ _ _ _ _ (.blk g3 (wc .u32 (YE ((VT q).take 0) H0).l) _ :: _) _
 refine Qh (QlM.comes) rfl rfl rfl fun g4 => ?_
 refine yS rfl ?_
 refine yN ?_
 refine yR ?_
 refine yM rfl ?_
 refine Qh (hPad.comes) rfl rfl rfl fun ⟨g5, c5⟩ => ?_
 dsimp only
 refine Jq (φ := q.length ≤ c5) (fun w s => (s.ownLe (B := some ⟨g5, 0, none⟩) (N := q.length) (c := c5)).1) fun hcap => ?_
 refine h_L (fun w s => s.ownRd (B := some ⟨g5, 0, none⟩) (N := q.length) (c := c5)) ?_
 refine yS rfl ?_
 refine yN ?_
 refine Qd ?_
 refine yR ?_
 refine yS rfl ?_
 refine yN ?_
 refine Qq ?_
 refine QS (fun (i : Nat) => i ≤ m) (fun (i : Nat) => [(6, .int .i64 ((64 * i : Nat) : Int)), (5, .slice (some ⟨g5, 0, none⟩) q.length c5), (4, .slice (some ⟨g4, 0, none⟩) 64 64), (3, .pointer (some ⟨g3, 0, none⟩)), (2, .pointer (some ⟨g2, 0, none⟩))]) (fun (i : Nat) => [.rd (some ⟨g5, 0, none⟩) (bc q), .own (.slice (some ⟨g4, 0, none⟩) 64 64) 64 251 1 (wc .u32 K64), .blk g3 (wc .u32 (YE ((VT q).take i) H0).l) 252, .blk g2 QN.cells 45]) (fun (i : Nat) => m - i) 0 (by omega) ⟨rfl, rfl, rfl, rfl, rfl, trivial⟩ (same) ?_
 intro i hi
 refine Qd ?_
 refine yR ?_
 refine yM rfl ?_
 refine yM rfl ?_
 refine Qb (QF rfl) ?_
 refine Qb (QT rfl rfl) ?_
 refine yN ?_
 refine QU rfl (fun h => ?_) (fun h => ?_)
 ·have hi2 : i < m := by omega
  have hcmp : YE ((VT q).take (i + 1)) H0 = Qfe (Y3 q i) (YE ((VT q).take i) H0) := by rw [Qk1 q i (by omega), Qce]
  have hb64 : (Y3 q i).length = 64 := by unfold Y3; rw [List.length_take, List.length_drop]; omega
  obtain ⟨b, hb⟩ : ∃ b, b = Y3 q i := ⟨_, rfl⟩
  have hcut := Qib (L := [.rd (some ⟨g5, 0, none⟩) (bc q), .own (.slice (some ⟨g4, 0, none⟩) 64 64) 64 251 1 (wc .u32 K64), .blk g3 (wc .u32 (YE ((VT q).take i) H0).l) 252, .blk g2 QN.cells 45]) (b := g5) (o' := 64 * i) (Nat.zero_add _).symm (Qkx q (64 * i) 64)
  change Rd1 _ (.rd _ (bc (Y3 q i))) at hcut
  rw [← hb] at hcmp hb64 hcut
  have hS := VE b
  generalize YE ((VT q).take i) H0 = s0 at *
  refine Qn ?_
  refine Qc ?_
  refine Qd ?_
  refine Qq ?_
  refine yR ?_
  refine yM rfl ?_
  refine yM rfl ?_
  refine yM rfl ?_
  refine Qb (QI rfl rfl) ?_
  refine Qb (Qez rfl rfl rfl (m := 64)) ?_
  refine Qh ((Qhh b g5 (64 * i) (c5 - 64 * i) hb64).comes) rfl rfl rfl fun ⟨g7, c7⟩ => ?_
  dsimp only
  refine yS rfl ?_
  refine yN ?_
  refine yR ?_
  refine Qb (Qm rfl) ?_
  refine Qo (Q0) fun g8 => ?_
  refine Q7 (Qw rfl rfl) ?_
  refine yN ?_
  refine Qd ?_
  refine Qd ?_
  change H _ _ _ _ _ (.blk g8 (S8.cs (Vr b s0 0)) _ :: _) _
  refine Q5 ?_
  refine yS rfl ?_
  refine yN ?_
  refine Qq ?_
  refine QS (fun (s : Nat × S8) => s.1 ≤ 64 ∧ s.2 = Vr b s0 s.1) (fun (s : Nat × S8) => [(9, .int .i64 (s.1 : Int)), (8, .pointer (some ⟨g8, 0, none⟩)), (7, .slice (some ⟨g7, 0, none⟩) 64 c7), (6, .int .i64 ((64 * i : Nat) : Int)), (5, .slice (some ⟨g5, 0, none⟩) q.length c5), (4, .slice (some ⟨g4, 0, none⟩) 64 64), (3, .pointer (some ⟨g3, 0, none⟩)), (2, .pointer (some ⟨g2, 0, none⟩))]) (fun (s : Nat × S8) => [.blk g8 (S8.cs s.2) 252, .own (.slice (some ⟨g7, 0, none⟩) 64 c7) 64 251 1 (wc .u32 (sch b 64)), .rd (some ⟨g5, 0, none⟩) (bc q), .own (.slice (some ⟨g4, 0, none⟩) 64 64) 64 251 1 (wc .u32 K64), .blk g3 (wc .u32 s0.l) 252, .blk g2 QN.cells 45]) (fun (s : Nat × S8) => 64 - s.1) (0, Vr b s0 0) ((show 0 ≤ 64 ∧ Vr b s0 0 = Vr b s0 0 from ⟨by decide, rfl⟩)) ⟨rfl, rfl, rfl, rfl, rfl, rfl, rfl, rfl, trivial⟩ (same) ?_
  rintro ⟨k, v⟩ ⟨hk, hv⟩
  dsimp only at hk hv ⊢
  have hr1 := Qm0 b s0 k
  rw [← hv] at hr1
  have hS64 := hS 64
  refine Qd ?_
  refine yR ?_
  refine yM rfl ?_
  refine Qb (QT rfl rfl) ?_
  refine yN ?_
  refine QU rfl (fun h => ?_) (fun h => ?_)
  ·refine Qn ?_
   refine Qc ?_
   refine Qd ?_
   refine Qq ?_
   refine Qd ?_
   refine Q1 [.blk g8 (S8.cs v) 252, .own (.slice (some ⟨g7, 0, none⟩) 64 c7) 64 251 1 (wc .u32 (sch b 64)), .own (.slice (some ⟨g4, 0, none⟩) 64 64) 64 251 1 (wc .u32 K64)] [] QJ (same) ?_
   refine Qa 0 rfl (QP rfl rfl) ?_
   refine Qp 1 rfl (Qf rfl) ?_
   refine Qa 2 rfl (QP rfl rfl) ?_
   refine Qp 3 rfl (Qf rfl) ?_
   refine Qa 5 rfl (QP rfl rfl) ?_
   refine Qp 6 rfl (Qf rfl) ?_
   refine Qa 9 rfl (QP rfl rfl) ?_
   refine Qp 10 rfl (Qf rfl) ?_
   refine Qa 14 rfl (QP rfl rfl) ?_
   refine Qp 15 rfl (Qf rfl) ?_
   refine Qa 16 rfl (QP rfl rfl) ?_
   refine Qp 17 rfl (Qf rfl) ?_
   refine Qa 18 rfl (qp rfl rfl) ?_
   refine Qa 19 rfl (QP rfl rfl) ?_
   refine Qp 20 rfl (Qf rfl) ?_
   refine Qa 21 rfl (Qqe rfl) ?_
   refine Qa 22 rfl (QP rfl rfl) ?_
   refine Qp 23 rfl (Qf rfl) ?_
   refine Qa 24 rfl (qp rfl rfl) ?_
   refine Qa 25 rfl (Ym rfl rfl) ?_
   refine Qa 27 rfl (Qi rfl) ?_
   refine Qa 28 rfl (Qi rfl) ?_
   refine Qa 29 rfl (QQ rfl rfl) ?_
   refine Qp 30 rfl (QX rfl (YT (by omega))) ?_
   refine Qa 32 rfl (Qi rfl) ?_
   refine Qa 33 rfl (Qi rfl) ?_
   refine Qa 34 rfl (QQ rfl rfl) ?_
   refine Qp 35 rfl (QX rfl (YT (by omega))) ?_
   refine Qv 4 ?_
   refine QR 4 rfl ((Vi _ 6 (by decide)).comes) rfl rfl rfl (fun xx => same) fun _ => ?_
   refine Qv 7 ?_
   refine QR 7 rfl ((Vi _ 11 (by decide)).comes) rfl rfl rfl (fun xx => same) fun _ => ?_
   refine Qa 8 rfl (Ym rfl rfl) ?_
   refine Qv 11 ?_
   refine QR 11 rfl ((Vi _ 25 (by decide)).comes) rfl rfl rfl (fun xx => same) fun _ => ?_
   refine Qa 12 rfl (Ym rfl rfl) ?_
   refine Qa 13 rfl (Jn rfl rfl) ?_
   refine Qa 26 rfl (Jn rfl rfl) ?_
   refine Qa 31 rfl (Jn rfl rfl) ?_
   refine Qa 36 rfl (Jn rfl rfl) ?_
   refine Qa 37 rfl (Q6 rfl) ?_
   refine QB (by kernel_rfl) ?_
   refine Qc ?_
   refine Qd ?_
   refine Q1 [.blk g8 (S8.cs v) 252] [] QJ (same) ?_
   refine Qa 0 rfl (QP rfl rfl) ?_
   refine Qp 1 rfl (Qf rfl) ?_
   refine Qa 3 rfl (QP rfl rfl) ?_
   refine Qp 4 rfl (Qf rfl) ?_
   refine Qa 7 rfl (QP rfl rfl) ?_
   refine Qp 8 rfl (Qf rfl) ?_
   refine Qa 11 rfl (QP rfl rfl) ?_
   refine Qp 12 rfl (Qf rfl) ?_
   refine Qa 13 rfl (QP rfl rfl) ?_
   refine Qp 14 rfl (Qf rfl) ?_
   refine Qa 15 rfl (qp rfl rfl) ?_
   refine Qa 16 rfl (QP rfl rfl) ?_
   refine Qp 17 rfl (Qf rfl) ?_
   refine Qa 18 rfl (QP rfl rfl) ?_
   refine Qp 19 rfl (Qf rfl) ?_
   refine Qa 20 rfl (qp rfl rfl) ?_
   refine Qa 21 rfl (Ym rfl rfl) ?_
   refine Qa 22 rfl (QP rfl rfl) ?_
   refine Qp 23 rfl (Qf rfl) ?_
   refine Qa 24 rfl (QP rfl rfl) ?_
   refine Qp 25 rfl (Qf rfl) ?_
   refine Qa 26 rfl (qp rfl rfl) ?_
   refine Qa 27 rfl (Ym rfl rfl) ?_
   refine Qv 2 ?_
   refine QR 2 rfl ((Vi _ 2 (by decide)).comes) rfl rfl rfl (fun xx => same) fun _ => ?_
   refine Qv 5 ?_
   refine QR 5 rfl ((Vi _ 13 (by decide)).comes) rfl rfl rfl (fun xx => same) fun _ => ?_
   refine Qa 6 rfl (Ym rfl rfl) ?_
   refine Qv 9 ?_
   refine QR 9 rfl ((Vi _ 22 (by decide)).comes) rfl rfl rfl (fun xx => same) fun _ => ?_
   refine Qa 10 rfl (Ym rfl rfl) ?_
   refine Qa 28 rfl (Jn rfl rfl) ?_
   refine Qa 29 rfl (Q6 rfl) ?_
   refine QB (by kernel_rfl) ?_
   refine Qc ?_
   refine Q5 ?_
   refine yM rfl ?_
   refine yM rfl ?_
   refine Qb (Jn rfl rfl) ?_
   refine Qb (QP rfl rfl) ?_
   refine Qb (Qf rfl) ?_
   refine Qb (QP rfl rfl) ?_
   refine Qb (Qf rfl) ?_
   refine Qb (QP rfl rfl) ?_
   refine Qb (Qf rfl) ?_
   refine Qb (QP rfl rfl) ?_
   refine Qb (Qf rfl) ?_
   refine yM rfl ?_
   refine Qb (Jn rfl rfl) ?_
   refine Qb (QP rfl rfl) ?_
   refine Qb (Qf rfl) ?_
   refine Qb (QP rfl rfl) ?_
   refine Qb (Qf rfl) ?_
   refine Qb (QP rfl rfl) ?_
   refine Qb (Qf rfl) ?_
   refine Qb (QD rfl) ?_
   refine Q7 (Qw rfl rfl) ?_
   refine QE ?_
   refine Q2 ?_
   refine Qc ?_
   change H _ _ _ _ _ (.blk g8 (S8.cs (rnd (K64.getD k 0) (wat b k) v)) _ :: _) _
   rw [← hr1]
   refine Q5 ?_
   refine yM rfl ?_
   refine Qb (QI rfl rfl) ?_
   refine yS rfl ?_
   refine QE ?_
   exact QH (k + 1, Vr b s0 (k + 1)) ((show k + 1 ≤ 64 ∧ Vr b s0 (k + 1) = Vr b s0 (k + 1) from ⟨by omega, rfl⟩)) ((show 64 - (k + 1) < 64 - k by omega)) ⟨rfl, rfl, rfl, rfl, rfl, rfl, rfl, rfl, trivial⟩ (same)
  obtain rfl : k = 64 := by omega
  refine QK ?_
  refine Qx ?_
  refine Qx ?_
  refine Q8 ?_
  refine Qc ?_
  refine Qd ?_
  rw [S8.cs_eq, ← Qkt s0 v]
  refine Q5 ?_
  refine yS rfl ?_
  refine yN ?_
  refine Qq ?_
  refine QS (fun (j : Nat) => j ≤ 8) (fun (j : Nat) => [(12, .int .i64 (j : Int)), (8, .pointer (some ⟨g8, 0, none⟩)), (6, .int .i64 ((64 * i : Nat) : Int)), (5, .slice (some ⟨g5, 0, none⟩) q.length c5), (4, .slice (some ⟨g4, 0, none⟩) 64 64), (3, .pointer (some ⟨g3, 0, none⟩)), (2, .pointer (some ⟨g2, 0, none⟩))]) (fun (j : Nat) => [.blk g8 (wc .u32 v.l) 252, .rd (some ⟨g5, 0, none⟩) (bc q), .own (.slice (some ⟨g4, 0, none⟩) 64 64) 64 251 1 (wc .u32 K64), .blk g3 (wc .u32 (QaP s0 v j)) 252, .blk g2 QN.cells 45]) (fun (j : Nat) => 8 - j) 0 (by omega) ⟨rfl, rfl, rfl, rfl, rfl, rfl, rfl, trivial⟩ (same) ?_
  intro j hj
  have hal := QbW s0 v j
  have hvl : v.l.length = 8 := rfl
  refine Qd ?_
  refine yR ?_
  refine yM rfl ?_
  refine Qb (QT rfl rfl) ?_
  refine yN ?_
  refine QU rfl (fun h => ?_) (fun h => ?_)
  ·have hst := QeO s0 v j (by omega)
   have hg := QeN s0 v j (by omega)
   refine Qn ?_
   refine Qc ?_
   refine Qd ?_
   refine Qq ?_
   refine Q1 [.blk g8 (wc .u32 v.l) 252, .blk g3 (wc .u32 (QaP s0 v j)) 252] [] QJ (same) ?_
   refine Qa 0 rfl (Qi rfl) ?_
   refine Qa 1 rfl (QP rfl rfl) ?_
   refine Qp 2 rfl (QX rfl (YT (by omega))) ?_
   refine Qa 3 rfl (Qi rfl) ?_
   refine Qa 4 rfl (QP rfl rfl) ?_
   refine Qp 5 rfl (QX rfl (YT (by omega))) ?_
   refine Qa 6 rfl (Jn rfl rfl) ?_
   refine Qa 7 rfl (QP rfl rfl) ?_
   refine Qv 8 ?_
   refine J4 8 rfl (Qbg rfl rfl) ?_
   refine Q2 ?_
   refine Qc ?_
   rw [hg, hst]
   refine Q5 ?_
   refine yM rfl ?_
   refine Qb (QI rfl rfl) ?_
   refine yS rfl ?_
   refine QE ?_
   exact QH (j + 1) (by omega) (by omega) ⟨rfl, rfl, rfl, rfl, rfl, rfl, rfl, trivial⟩ (same)
  obtain rfl : j = 8 := by omega
  rw [Qku, hv, show S8.add s0 (Vr b s0 64) = Qfe b s0 from rfl, ← hcmp]
  refine QK ?_
  refine Qx ?_
  refine Qx ?_
  refine Q8 ?_
  refine Q2 ?_
  refine Qc ?_
  refine Q5 ?_
  refine yM rfl ?_
  refine Qb (QI rfl rfl) ?_
  refine yS rfl ?_
  refine QE ?_
  exact QH (i + 1) (by omega) (by omega) ⟨aI rfl (by omega), rfl, rfl, rfl, rfl, trivial⟩ (same)
 refine QK ?_
 refine Qx ?_
 refine Qx ?_
 refine Q8 ?_
 refine Qc ?_
 refine yR ?_
 refine Qo (Q0) fun g13 => ?_
 refine yN ?_
 refine Qd ?_
 refine yR ?_
 refine yS rfl ?_
 refine yN ?_
 refine Qq ?_
 obtain rfl : i = m := by omega
 rw [← hbl, List.take_length]
 generalize YE (VT q) H0 = s0 at *
 change H _ _ _ _ _ (.blk g13 (bc ((List.range 0).map (QcS s0) ++ List.replicate (32 - 0) 0)) _ :: _) _
 refine QS (fun (j : Nat) => j ≤ 32) (fun (j : Nat) => [(14, .int .i64 (j : Int)), (13, .pointer (some ⟨g13, 0, none⟩)), (3, .pointer (some ⟨g3, 0, none⟩)), (2, .pointer (some ⟨g2, 0, none⟩))]) (fun (j : Nat) => [.blk g13 (bc ((List.range j).map (QcS s0) ++ List.replicate (32 - j) 0)) 45, .blk g3 (wc .u32 s0.l) 252, .blk g2 QN.cells 45]) (fun (j : Nat) => 32 - j) 0 (by omega) ⟨rfl, rfl, rfl, rfl, trivial⟩ (same) ?_
 intro j hj
 have hfl := Qfw (QcS s0) 0 32 j hj
 have hsl : s0.l.length = 8 := rfl
 refine Qd ?_
 refine yR ?_
 refine yM rfl ?_
 refine Qb (QT rfl rfl) ?_
 refine yN ?_
 refine QU rfl (fun h => ?_) (fun h => ?_)
 ·have hst := Qfy (QcS s0) 0 32 j (by omega)
  refine Qn ?_
  refine Qc ?_
  refine Qd ?_
  refine Qq ?_
  refine Q5 ?_
  refine yM rfl ?_
  refine yM rfl ?_
  refine Qb (Zk rfl rfl) ?_
  refine Qb (QP rfl rfl) ?_
  refine Qb (QX rfl (YT (by omega))) ?_
  refine yM rfl ?_
  refine Qb (VL rfl rfl) ?_
  refine Qb (qR rfl rfl) ?_
  refine Qb (YQ rfl rfl) ?_
  refine Qb (Qro (q := 24 - 8 * (j % 4)) rfl (by omega) (by omega)) ?_
  refine Qb (YW rfl rfl) ?_
  refine Qb (Qew rfl) ?_
  refine Qb (QP rfl rfl) ?_
  refine Q7 (Qad rfl rfl) ?_
  refine QE ?_
  refine Q2 ?_
  refine Qc ?_
  rw [QhW, hst]
  refine Q5 ?_
  refine yM rfl ?_
  refine Qb (QI rfl rfl) ?_
  refine yS rfl ?_
  refine QE ?_
  exact QH (j + 1) (by omega) (by omega) ⟨rfl, rfl, rfl, rfl, trivial⟩ (same)
 obtain rfl : j = 32 := by omega
 rw [Qfv]
 change H _ _ _ _ _ (.blk g13 (bc (QfL s0)) _ :: _) _
 refine QK ?_
 refine Qx ?_
 refine Qx ?_
 refine Q8 ?_
 refine Qc ?_
 refine yR ?_
 refine Qb (Qm rfl) ?_
 refine Q7 (Qw rfl rfl) ?_
 refine yN ?_
 refine Qs ?_
 exact Qu rfl (QZ rfl) fun w s => ⟨(), rfl, s.res (List.nil_sublist _) (by simp)⟩
end
section
open Go.RowKit
theorem Qlq (l : List Nat) : ∀ v ∈ ic l, v.oneCell' = true := by
 intro v hv
 obtain ⟨x, _, rfl⟩ := List.mem_map.1 hv
 rfl
theorem Qcp : ∀ (l : List Value) (k : Nat), (Qf7 k l).length = l.length
 | [], _ => rfl
 | _ :: l, k => by rw [Qf7, List.length_cons, List.length_cons, Qcp l]
theorem VG {P : Program} {A : List Fa} {W : World} {n : Nat} {D : List Deferred} {E : Env} {L : List Fa} {t e m bytes : Nat} {z : Value} [E' : TS P t e 1 bytes z] {l : List (Nat × Operand)} (xs : List Nat) (hv : evp E l = some (Qf7 0 (ic xs))) (hm : xs.length = m := by rfl) (h0 : 0 < m ∧ m * 1 ≤ 16777216 := by decide) :
  JO P A W n D E L (.buildSlice t m l.toArray) (fun g : Nat => .slice (some ⟨g, 0, none⟩) m m) (fun g => .own (.slice (some ⟨g, 0, none⟩) m m) m e 1 (ic xs) :: L) :=
 J8 (E' := E') hv (by rw [Qcp, Qlp, hm]) (hf := V8 _ 0 (Qlq _)) (ho := ⟨by rw [Qlp, hm], Qlq _⟩) (Nat.mul_one _) h0
def acc (l : List UInt8) (i : Nat) : Nat → W32
 | 0 => 0
 | j + 1 => (acc l i j <<< 8) ||| (l.getD (4 * i + j) 0).toBitVec.setWidth 32
theorem QqV (l : List UInt8) (i : Nat) : acc l i 4 = wrd l i := by
 unfold wrd
 simp only [acc, BitVec.ofNat_eq_ofNat, BitVec.zero_shiftLeft, BitVec.zero_or, BitVec.shiftLeft_or_distrib, ← BitVec.shiftLeft_add, Nat.reduceAdd, Nat.add_zero]
def QcO (l : List UInt8) (i : Nat) : List W32 := (List.range i).map (wrd l) ++ List.replicate (16 - i) 0
def QbE (l : List UInt8) (i j : Nat) : List W32 := (List.range i).map (wrd l) ++ acc l i j :: List.replicate (15 - i) 0
theorem Qq5 (l : List UInt8) (i : Nat) (h : i < 16) : QcO l i = QbE l i 0 := by
 unfold QcO QbE
 rw [show 16 - i = (15 - i) + 1 by omega, List.replicate_succ]
 rfl
theorem Qq6 (l : List UInt8) (i : Nat) (h : i < 16) : QbE l i 4 = QcO l (i + 1) := by
 unfold QcO QbE
 rw [QqV, List.range_succ, List.map_append, List.append_assoc, show 16 - (i + 1) = 15 - i by omega]
 rfl
theorem QmL (l : List UInt8) (i j : Nat) (h : i < 16) : (QbE l i j).length = 16 := by simp [QbE]; omega
theorem QmK (l : List UInt8) (i j : Nat) : (QbE l i j).getD i 0 = acc l i j := by
 unfold QbE
 rw [List.getD, List.getElem?_append_right (by simp)]
 simp
theorem QmM (l : List UInt8) (i j : Nat) : (QbE l i j).set i ((acc l i j <<< 8) ||| (l.getD (4 * i + j) 0).toBitVec.setWidth 32) = QbE l i (j + 1) := by
 unfold QbE
 rw [List.set_append_right _ _ (by simp)]
 simp [acc]
def Win (l : List UInt8) (r : Nat) (w : List W32) : Prop := w.length = 16 ∧ ∀ t, t < max r 16 → max r 16 ≤ t + 16 → w.getD (t % 16) 0 = wat l t
theorem Qrx (l : List UInt8) : Win l 0 (QcO l 16) := by
 refine ⟨by simp [QcO], fun t h1 _ => ?_⟩
 have h3 : t < 16 := by simpa using h1
 rw [Nat.mod_eq_of_lt h3, Qq2 h3]
 unfold QcO
 rw [List.getD, List.getElem?_append_left (by simpa using h3), List.getElem?_map, List.getElem?_range h3]
 rfl
def Qc1 (w : List W32) (r : Nat) : W32 := w.getD (r % 16) 0 + (((Qag (w.getD ((r + 1) % 16) 0) [7, 18] ^^^ (w.getD ((r + 1) % 16) 0 >>> 3)) + w.getD ((r + 9) % 16) 0) + (Qag (w.getD ((r + 14) % 16) 0) [17, 19] ^^^ (w.getD ((r + 14) % 16) 0 >>> 10)))
theorem Ql5 {l : List UInt8} {w : List W32} {r : Nat} (h : Win l r w) (h1 : 16 ≤ r) (h2 : r < 64) : Qc1 w r = wat l r := by
 unfold Qc1
 rw [Qps, Qps, show r % 16 = (r - 16) % 16 by omega, show (r + 1) % 16 = (r - 15) % 16 by omega, show (r + 9) % 16 = (r - 7) % 16 by omega, show (r + 14) % 16 = (r - 2) % 16 by omega,
  h.2 (r - 16) (by omega) (by omega), h.2 (r - 15) (by omega) (by omega), h.2 (r - 7) (by omega) (by omega), h.2 (r - 2) (by omega) (by omega), Qq1 h1 h2]
 unfold sg0 sg1
 generalize wat l (r - 16) = a
 generalize (qD (wat l (r - 15)) 7 ^^^ qD (wat l (r - 15)) 18) ^^^ wat l (r - 15) >>> 3 = b
 generalize (qD (wat l (r - 2)) 17 ^^^ qD (wat l (r - 2)) 19) ^^^ wat l (r - 2) >>> 10 = c
 rw [BitVec.add_assoc, BitVec.add_assoc, BitVec.add_assoc]
theorem Qq7 {l : List UInt8} {w : List W32} {r : Nat} (h : Win l r w) (h1 : 16 ≤ r) (h2 : r < 64) : Win l (r + 1) (w.set (r % 16) (Qc1 w r)) := by
 refine ⟨by rw [List.length_set]; exact h.1, fun t h3 h4 => ?_⟩
 have hl := h.1
 by_cases e : t = r
 ·subst e
  rw [List.getD, List.getElem?_set, if_pos rfl, if_pos (by omega), Ql5 h h1 h2, Option.getD_some]
 rw [List.getD, List.getElem?_set, if_neg (by omega)]
 exact h.2 t (by omega) (by omega)
theorem Qq8 {l : List UInt8} {w : List W32} {r : Nat} (h : Win l r w) (h1 : r < 16) : Win l (r + 1) w := ⟨h.1, fun t h3 h4 => h.2 t (by omega) (by omega)⟩
theorem QmN {l : List UInt8} {w : List W32} {r : Nat} (h : Win l (r + 1) w) : w.getD (r % 16) 0 = wat l r := h.2 r (by omega) (by omega)
theorem Qpp (k w : W32) (v : S8) : (((v.h + Qag v.e [6, 11, 25]) + (v.g ^^^ (v.e &&& (v.f ^^^ v.g)))) + k) + w = t1 k w v := by
 rw [Qpt, Qra]; rfl
theorem Qpq (t : W32) (v : S8) : (t + Qag v.a [2, 13, 22]) + ((v.a &&& v.b) ||| (v.c &&& (v.a ||| v.b))) = t + t2 v := by
 rw [Qpt, QpT, BitVec.add_assoc]; rfl
theorem Qqz (l : List UInt8) (s : S8) (gs b o c : Nat) (hl : l.length = 64) (hc : 64 ≤ c) : QC Tryz.prog 222 [.pointer (some ⟨gs, 0, none⟩), .slice (some ⟨b, o, none⟩) 64 c].toArray [.rd (some ⟨b, o, none⟩) (bc l), .rd (some ⟨1, 0, none⟩) (wc .u32 K64)] [.blk gs (S8.cs s) 358] (fun _ : Unit => .tuple #[]) (fun _ => [.blk gs (S8.cs (Qfe l s)) 358]) := by
 have hK := Qhw
 refine Qk Tryz.func222 rfl (n := 192) rfl rfl ?_
 intro W
 refine yR ?_
 refine Qo (Q0) fun g4 => ?_
 refine yN ?_
 refine Qd ?_
 refine yR ?_
 refine yM rfl ?_
 refine yN ?_
 refine Qq ?_
 change H _ _ _ _ _ (.blk g4 (wc .u32 (QcO l 0)) _ :: _) _
 refine QS (fun (i : Nat) => i ≤ 16) (fun (i : Nat) => [(24, .int .i64 (i : Int)), (4, .pointer (some ⟨g4, 0, none⟩)), (1, .slice (some ⟨b, o, none⟩) 64 c), (0, .pointer (some ⟨gs, 0, none⟩))]) (fun (i : Nat) => [.blk g4 (wc .u32 (QcO l i)) 390, .blk gs (S8.cs s) 358, .rd (some ⟨b, o, none⟩) (bc l), .rd (some ⟨1, 0, none⟩) (wc .u32 K64)]) (fun (i : Nat) => 16 - i) 0 (by omega) ⟨rfl, rfl, rfl, rfl, trivial⟩ (same) ?_
 intro i hi
 refine yR ?_
 refine Qb (QT rfl rfl) ?_
 refine yN ?_
 refine Qd ?_
 refine QU rfl (fun h => ?_) (fun h => ?_)
 ·refine Qn ?_
  refine Qc ?_
  refine Qd ?_
  refine Qq ?_
  refine yR ?_
  refine yM rfl ?_
  refine yS rfl ?_
  refine yN ?_
  refine yR ?_
  refine yM rfl ?_
  refine yM rfl ?_
  refine Qb (qR rfl rfl) ?_
  refine yM rfl ?_
  refine Qb (qR rfl rfl) ?_
  refine Qb (QI rfl rfl) ?_
  refine Qb (Qez rfl rfl rfl (m := 4)) ?_
  refine Qb (QF rfl) ?_
  refine yM rfl ?_
  refine yN ?_
  refine Qq ?_
  rw [Qq5 l i (by omega)]
  refine QS (fun (j : Nat) => j ≤ 4) (fun (j : Nat) => [(35, .int .i64 (j : Int)), (34, .int .i64 4), (33, .slice (some ⟨b, o + 4 * i, none⟩) 4 (c - 4 * i)), (5, .int .i64 (i : Int)), (24, .int .i64 (i : Int)), (4, .pointer (some ⟨g4, 0, none⟩)), (1, .slice (some ⟨b, o, none⟩) 64 c), (0, .pointer (some ⟨gs, 0, none⟩))]) (fun (j : Nat) => [.blk g4 (wc .u32 (QbE l i j)) 390, .blk gs (S8.cs s) 358, .rd (some ⟨b, o, none⟩) (bc l), .rd (some ⟨1, 0, none⟩) (wc .u32 K64)]) (fun (j : Nat) => 4 - j) 0 (by omega) ⟨rfl, rfl, rfl, rfl, rfl, rfl, rfl, rfl, trivial⟩ (same) ?_
  intro j hj
  have hwl := QmL l i j (by omega)
  refine yR ?_
  refine Qb (QT rfl rfl) ?_
  refine yN ?_
  refine Qd ?_
  refine QU rfl (fun h => ?_) (fun h => ?_)
  ·refine Qn ?_
   refine Qc ?_
   refine Qd ?_
   refine Qq ?_
   refine yR ?_
   refine Qb (QQ rfl rfl (O' := o + (4 * i + j)) (hO := by omega)) ?_
   refine Qb (QX rfl (J1 (by omega))) ?_
   refine yS rfl ?_
   refine yN ?_
   refine Q5 ?_
   refine yM rfl ?_
   refine yM rfl ?_
   refine Qb (QP rfl rfl) ?_
   refine Qb (QX rfl (YT (by omega))) ?_
   refine Qb (Qb4 rfl rfl) ?_
   refine yM rfl ?_
   refine Qb (Qew rfl) ?_
   refine Qb (QcT rfl rfl) ?_
   refine Qb (QP rfl rfl) ?_
   refine Q7 (Qbg rfl rfl) ?_
   refine QE ?_
   refine Q2 ?_
   refine Qc ?_
   rw [QmK, QmM]
   refine Q5 ?_
   refine Qb (QI rfl rfl) ?_
   refine yM rfl ?_
   refine QE ?_
   exact QH (j + 1) (by omega) (by omega) ⟨rfl, rfl, rfl, rfl, rfl, rfl, rfl, rfl, trivial⟩ (same)
  obtain rfl : j = 4 := by omega
  rw [Qq6 l i (by omega)]
  refine QK ?_
  refine Qx ?_
  refine Qx ?_
  refine Q8 ?_
  refine Q2 ?_
  refine Qc ?_
  refine Q5 ?_
  refine Qb (QI rfl rfl) ?_
  refine yM rfl ?_
  refine QE ?_
  exact QH (i + 1) (by omega) (by omega) ⟨rfl, rfl, rfl, rfl, trivial⟩ (same)
 obtain rfl : i = 16 := by omega
 refine QK ?_
 refine Qx ?_
 refine Qx ?_
 refine Q8 ?_
 refine Qc ?_
 refine Qd ?_
 refine Q1 [.blk gs (S8.cs s) 358] [] QJ (same) ?_
 refine Qa 0 rfl (Qi rfl) ?_
 refine Qa 1 rfl (QA rfl) ?_
 refine Qa 2 rfl (QP rfl rfl) ?_
 refine Qp 3 rfl (Qf rfl) ?_
 refine Qa 4 rfl (Qi rfl) ?_
 refine Qa 5 rfl (QA rfl) ?_
 refine Qa 6 rfl (QP rfl rfl) ?_
 refine Qp 7 rfl (Qf rfl) ?_
 refine Qa 8 rfl (Qi rfl) ?_
 refine Qa 9 rfl (QA rfl) ?_
 refine Qa 10 rfl (QP rfl rfl) ?_
 refine Qp 11 rfl (Qf rfl) ?_
 refine Qa 12 rfl (Qi rfl) ?_
 refine Qa 13 rfl (QA rfl) ?_
 refine Qa 14 rfl (QP rfl rfl) ?_
 refine Qp 15 rfl (Qf rfl) ?_
 refine Qa 16 rfl (Qi rfl) ?_
 refine Qa 17 rfl (QA rfl) ?_
 refine Qa 18 rfl (QP rfl rfl) ?_
 refine Qp 19 rfl (Qf rfl) ?_
 refine Qa 20 rfl (Qi rfl) ?_
 refine Qa 21 rfl (QA rfl) ?_
 refine Qa 22 rfl (QP rfl rfl) ?_
 refine Qp 23 rfl (Qf rfl) ?_
 refine Qa 24 rfl (Qi rfl) ?_
 refine Qa 25 rfl (QA rfl) ?_
 refine Qa 26 rfl (QP rfl rfl) ?_
 refine Qp 27 rfl (Qf rfl) ?_
 refine Qa 28 rfl (Qi rfl) ?_
 refine Qa 29 rfl (QA rfl) ?_
 refine Qa 30 rfl (QP rfl rfl) ?_
 refine Qp 31 rfl (Qf rfl) ?_
 refine Qa 32 rfl (Q6 rfl) ?_
 refine Qa 33 rfl (Q6 rfl) ?_
 refine Qa 34 rfl (Q6 rfl) ?_
 refine Qa 35 rfl (Q6 rfl) ?_
 refine Qa 36 rfl (Q6 rfl) ?_
 refine Qa 37 rfl (Q6 rfl) ?_
 refine Qa 38 rfl (Q6 rfl) ?_
 refine Qa 39 rfl (Q6 rfl) ?_
 refine QB (by kernel_rfl) ?_
 refine Qc ?_
 refine Qd ?_
 refine yR ?_
 refine Qb (Qm rfl) ?_
 refine yM rfl ?_
 refine yN ?_
 refine Qq ?_
 refine QS (fun (u : Nat × List W32 × S8) => u.1 ≤ 64 ∧ Win l u.1 u.2.1 ∧ u.2.2 = Vr l s u.1) (fun (u : Nat × List W32 × S8) => [(83, .int .i64 (u.1 : Int)), (82, .agg (wc .u32 K64).toArray), (8, .int .u32 (u.2.2.a.toNat : Int)), (9, .int .u32 (u.2.2.b.toNat : Int)), (10, .int .u32 (u.2.2.c.toNat : Int)), (11, .int .u32 (u.2.2.d.toNat : Int)), (12, .int .u32 (u.2.2.e.toNat : Int)), (13, .int .u32 (u.2.2.f.toNat : Int)), (14, .int .u32 (u.2.2.g.toNat : Int)), (15, .int .u32 (u.2.2.h.toNat : Int)), (4, .pointer (some ⟨g4, 0, none⟩)), (0, .pointer (some ⟨gs, 0, none⟩))]) (fun (u : Nat × List W32 × S8) => [.blk g4 (wc .u32 u.2.1) 390, .blk gs (S8.cs s) 358, .rd (some ⟨1, 0, none⟩) (wc .u32 K64)]) (fun (u : Nat × List W32 × S8) => 64 - u.1) (0, QcO l 16, Vr l s 0) ((show 0 ≤ 64 ∧ Win l 0 (QcO l 16) ∧ Vr l s 0 = Vr l s 0 from ⟨by decide, Qrx l, rfl⟩)) ⟨rfl, rfl, rfl, rfl, rfl, rfl, rfl, rfl, rfl, rfl, rfl, rfl, trivial⟩ (same) ?_
 rintro ⟨r, w, v⟩ ⟨hr, hw, hv⟩
 dsimp only at hr hw hv ⊢
 have hwl := hw.1
 have hr1 := Qm0 l s r
 rw [← hv] at hr1
 refine yR ?_
 refine Qb (QT rfl rfl) ?_
 refine yN ?_
 refine Qd ?_
 refine QU rfl (fun h => ?_) (fun h => ?_)
 ·refine Qn ?_
  refine Qc ?_
  refine Qd ?_
  refine Qq ?_
  refine yR ?_
  refine yM rfl ?_
  refine Qb (Qc8 rfl rfl (YT (by omega))) ?_
  refine yS rfl ?_
  refine yS rfl ?_
  refine yN ?_
  refine yR ?_
  refine yM rfl ?_
  refine Qb (VL rfl rfl) ?_
  refine yS rfl ?_
  refine yN ?_
  refine Qd ?_
  refine yR ?_
  refine yM rfl ?_
  refine Qb (Vb rfl rfl) ?_
  refine yN ?_
  refine QU rfl (fun h2 => ?_) (fun h2 => ?_)
  ·refine Qd ?_
   refine Q1 [.blk g4 (wc .u32 w) 390] [] QJ (same) ?_
   refine Qa 0 rfl (Qi rfl) ?_
   refine Qa 1 rfl (QI rfl rfl) ?_
   refine Qa 2 rfl (VL rfl rfl) ?_
   refine Qa 3 rfl (QP rfl rfl) ?_
   refine Qp 4 rfl (QX rfl (YT (by omega))) ?_
   refine Qa 5 rfl (Qi rfl) ?_
   refine Qa 6 rfl (QI rfl rfl) ?_
   refine Qa 7 rfl (VL rfl rfl) ?_
   refine Qa 8 rfl (QP rfl rfl) ?_
   refine Qp 9 rfl (QX rfl (YT (by omega))) ?_
   refine Qa 10 rfl (Q6 rfl) ?_
   refine Qa 11 rfl (Q6 rfl) ?_
   refine QB (by kernel_rfl) ?_
   refine Qc ?_
   refine QaY (fun (_ : Unit) => [(83, .int .i64 (r : Int)), (82, .agg (wc .u32 K64).toArray), (16, .int .i64 (r : Int)), (17, .int .u32 ((K64.getD r 0).toNat : Int)), (18, .int .i64 ((r : Int) % 16)), (8, .int .u32 (v.a.toNat : Int)), (9, .int .u32 (v.b.toNat : Int)), (10, .int .u32 (v.c.toNat : Int)), (11, .int .u32 (v.d.toNat : Int)), (12, .int .u32 (v.e.toNat : Int)), (13, .int .u32 (v.f.toNat : Int)), (14, .int .u32 (v.g.toNat : Int)), (15, .int .u32 (v.h.toNat : Int)), (4, .pointer (some ⟨g4, 0, none⟩)), (0, .pointer (some ⟨gs, 0, none⟩))]) (fun (_ : Unit) => [.blk g4 (wc .u32 (w.set (r % 16) (w.getD (r % 16) 0 + (((Qag (w.getD ((r + 1) % 16) 0) [7, 18] ^^^ (w.getD ((r + 1) % 16) 0 >>> 3)) + w.getD ((r + 9) % 16) 0) + (Qag (w.getD ((r + 14) % 16) 0) [17, 19] ^^^ (w.getD ((r + 14) % 16) 0 >>> 10)))))) 390, .blk gs (S8.cs s) 358, .rd (some ⟨1, 0, none⟩) (wc .u32 K64)]) (fun kk => ?_) ?_
   ·refine Q1 [.blk g4 (wc .u32 w) 390] [] QJ (same) ?_
    refine Qa 0 rfl (Qi rfl) ?_
    refine Qa 1 rfl (QP rfl rfl) ?_
    refine Qp 2 rfl (QX rfl (YT (by omega))) ?_
    refine Qa 3 rfl (Qi rfl) ?_
    refine Qa 6 rfl (Qi rfl) ?_
    refine Qa 7 rfl (YW rfl rfl) ?_
    refine Qa 9 rfl (Qi rfl) ?_
    refine Qa 10 rfl (QI rfl rfl) ?_
    refine Qa 11 rfl (VL rfl rfl) ?_
    refine Qa 12 rfl (QP rfl rfl) ?_
    refine Qp 13 rfl (QX rfl (YT (by omega))) ?_
    refine Qa 15 rfl (Qi rfl) ?_
    refine Qa 18 rfl (Qi rfl) ?_
    refine Qa 19 rfl (YW rfl rfl) ?_
    refine V1 4 16 ?_ ?_
    ·refine JB 4 rfl (rk (VG [7, 18] rfl)) (fun _ => same) fun g105 => ?_
     refine V1 5 16 ?_ ?_
     ·refine QR 5 rfl ((qg _ [7, 18] (by decide) g105 0 2 (by decide)).comes) rfl rfl rfl (fun xx => same) fun _ => ?_
      refine Qa 8 rfl (Ym rfl rfl) ?_
      refine Qa 14 rfl (Jn rfl rfl) ?_
      refine Qv 16 ?_
      refine JB 16 rfl (rk (VG [17, 19] rfl)) (fun _ => same) fun g117 => ?_
      refine Qv 17 ?_
      refine QR 17 rfl ((qg _ [17, 19] (by decide) g117 0 2 (by decide)).comes) rfl rfl rfl (fun xx => same) fun _ => ?_
      refine Qa 20 rfl (Ym rfl rfl) ?_
      refine Qa 21 rfl (Jn rfl rfl) ?_
      refine Qa 22 rfl (Jn rfl rfl) ?_
      refine Qa 23 rfl (QP rfl rfl) ?_
      refine Qv 24 ?_
      refine J4 24 rfl (Qbg rfl rfl) ?_
      exact h_K (kk ()) (⟨rfl, rfl, rfl, rfl, rfl, rfl, rfl, rfl, rfl, rfl, rfl, rfl, rfl, rfl, rfl, trivial⟩) same
     refine JB 16 rfl (rk (VG [17, 19] rfl)) (fun _ => same) fun g117 => ?_
     refine Qv 5 ?_
     refine QR 5 rfl ((qg _ [7, 18] (by decide) g105 0 2 (by decide)).comes) rfl rfl rfl (fun xx => same) fun _ => ?_
     refine Qa 8 rfl (Ym rfl rfl) ?_
     refine Qa 14 rfl (Jn rfl rfl) ?_
     refine Qv 17 ?_
     refine QR 17 rfl ((qg _ [17, 19] (by decide) g117 0 2 (by decide)).comes) rfl rfl rfl (fun xx => same) fun _ => ?_
     refine Qa 20 rfl (Ym rfl rfl) ?_
     refine Qa 21 rfl (Jn rfl rfl) ?_
     refine Qa 22 rfl (Jn rfl rfl) ?_
     refine Qa 23 rfl (QP rfl rfl) ?_
     refine Qv 24 ?_
     refine J4 24 rfl (Qbg rfl rfl) ?_
     exact h_K (kk ()) (⟨rfl, rfl, rfl, rfl, rfl, rfl, rfl, rfl, rfl, rfl, rfl, rfl, rfl, rfl, rfl, trivial⟩) same
    refine JB 16 rfl (rk (VG [17, 19] rfl)) (fun _ => same) fun g117 => ?_
    refine Qv 4 ?_
    refine JB 4 rfl (rk (VG [7, 18] rfl)) (fun _ => same) fun g105 => ?_
    refine Qv 5 ?_
    refine QR 5 rfl ((qg _ [7, 18] (by decide) g105 0 2 (by decide)).comes) rfl rfl rfl (fun xx => same) fun _ => ?_
    refine Qa 8 rfl (Ym rfl rfl) ?_
    refine Qa 14 rfl (Jn rfl rfl) ?_
    refine Qv 17 ?_
    refine QR 17 rfl ((qg _ [17, 19] (by decide) g117 0 2 (by decide)).comes) rfl rfl rfl (fun xx => same) fun _ => ?_
    refine Qa 20 rfl (Ym rfl rfl) ?_
    refine Qa 21 rfl (Jn rfl rfl) ?_
    refine Qa 22 rfl (Jn rfl rfl) ?_
    refine Qa 23 rfl (QP rfl rfl) ?_
    refine Qv 24 ?_
    refine J4 24 rfl (Qbg rfl rfl) ?_
    exact h_K (kk ()) (⟨rfl, rfl, rfl, rfl, rfl, rfl, rfl, rfl, rfl, rfl, rfl, rfl, rfl, rfl, rfl, trivial⟩) same
   rintro _
   refine Qc ?_
   refine Qd ?_
   change H _ _ _ _ _ (.blk g4 (wc .u32 (w.set (r % 16) (Qc1 w r))) _ :: _) _
   have hw2 := Qq7 hw (by omega) (by omega)
   have hwe := QmN hw2
   have hwl2 := hw2.1
   have h18 := Qpp (K64.getD r 0) (wat l r) v
   have h20 := Qpq (t1 (K64.getD r 0) (wat l r) v) v
   refine Q1 [.blk g4 (wc .u32 (w.set (r % 16) (Qc1 w r))) 390] [] QJ (same) ?_
   refine Qa 0 rfl (Qi rfl) ?_
   refine Qa 1 rfl (Qi rfl) ?_
   refine Qa 5 rfl (Qi rfl) ?_
   refine Qa 6 rfl (Qi rfl) ?_
   refine Qa 7 rfl (Qi rfl) ?_
   refine Qa 8 rfl (Qi rfl) ?_
   refine Qa 9 rfl (Ym rfl rfl) ?_
   refine Qa 10 rfl (qp rfl rfl) ?_
   refine Qa 11 rfl (Ym rfl rfl) ?_
   refine Qa 13 rfl (Qi rfl) ?_
   refine Qa 15 rfl (Qi rfl) ?_
   refine Qa 16 rfl (QP rfl rfl) ?_
   refine Qp 17 rfl (QX rfl (YT (by omega))) ?_
   refine Qv 2 ?_
   refine JB 2 rfl (rk (VG [6, 11, 25] rfl)) (fun _ => same) fun g127 => ?_
   refine Qv 3 ?_
   refine QR 3 rfl ((qg _ [6, 11, 25] (by decide) g127 0 3 (by decide)).comes) rfl rfl rfl (fun xx => same) fun _ => ?_
   refine Qa 4 rfl (Jn rfl rfl) ?_
   refine Qa 12 rfl (Jn rfl rfl) ?_
   refine Qa 14 rfl (Jn rfl rfl) ?_
   refine Qa 18 rfl (Jn rfl rfl) ?_
   refine Qa 19 rfl (Q6 rfl) ?_
   refine QB (by kernel_rfl) ?_
   refine Qc ?_
   rw [hwe, h18]
   refine yR ?_
   refine yM rfl ?_
   refine yM rfl ?_
   refine yM rfl ?_
   refine yM rfl ?_
   refine yM rfl ?_
   refine Qb (Jn rfl rfl) ?_
   refine yS rfl ?_
   refine yS rfl ?_
   refine yS rfl ?_
   refine yS rfl ?_
   refine yN ?_
   refine Q5 ?_
   refine yM rfl ?_
   refine yM rfl ?_
   refine yM rfl ?_
   refine yM rfl ?_
   refine yM rfl ?_
   refine Qo (VG [2, 13, 22] rfl) fun g155 => ?_
   refine Qh ((qg _ [2, 13, 22] (by decide) g155 0 3 (by decide)).comes) rfl rfl rfl fun _ => ?_
   refine Qb (Jn rfl rfl) ?_
   refine yM rfl ?_
   refine yM rfl ?_
   refine Qb (qp rfl rfl) ?_
   refine yM rfl ?_
   refine yM rfl ?_
   refine yM rfl ?_
   refine Qb (QcT rfl rfl) ?_
   refine Qb (qp rfl rfl) ?_
   refine Qb (QcT rfl rfl) ?_
   refine Qb (Jn rfl rfl) ?_
   refine yS rfl ?_
   refine yS rfl ?_
   refine yS rfl ?_
   refine yS rfl ?_
   refine QE ?_
   refine Q2 ?_
   refine Qc ?_
   rw [h20]
   refine Q5 ?_
   refine Qb (QI rfl rfl) ?_
   refine yM rfl ?_
   refine QE ?_
   exact QH (r + 1, (w.set (r % 16) (Qc1 w r)), rnd (K64.getD r 0) (wat l r) v) ((show r + 1 ≤ 64 ∧ Win l (r + 1) (w.set (r % 16) (Qc1 w r)) ∧ rnd (K64.getD r 0) (wat l r) v = Vr l s (r + 1) from ⟨by omega, hw2, hr1.symm⟩)) ((show 64 - (r + 1) < 64 - r by omega)) ⟨rfl, rfl, rfl, rfl, rfl, rfl, rfl, rfl, rfl, rfl, rfl, rfl, trivial⟩ (same)
  refine Qn ?_
  refine Qc ?_
  refine Qd ?_
  have hw2 := Qq8 hw (by omega)
  have hwe := QmN hw2
  have h18 := Qpp (K64.getD r 0) (wat l r) v
  have h20 := Qpq (t1 (K64.getD r 0) (wat l r) v) v
  refine Q1 [.blk g4 (wc .u32 w) 390] [] QJ (same) ?_
  refine Qa 0 rfl (Qi rfl) ?_
  refine Qa 1 rfl (Qi rfl) ?_
  refine Qa 5 rfl (Qi rfl) ?_
  refine Qa 6 rfl (Qi rfl) ?_
  refine Qa 7 rfl (Qi rfl) ?_
  refine Qa 8 rfl (Qi rfl) ?_
  refine Qa 9 rfl (Ym rfl rfl) ?_
  refine Qa 10 rfl (qp rfl rfl) ?_
  refine Qa 11 rfl (Ym rfl rfl) ?_
  refine Qa 13 rfl (Qi rfl) ?_
  refine Qa 15 rfl (Qi rfl) ?_
  refine Qa 16 rfl (QP rfl rfl) ?_
  refine Qp 17 rfl (QX rfl (YT (by omega))) ?_
  refine Qv 2 ?_
  refine JB 2 rfl (rk (VG [6, 11, 25] rfl)) (fun _ => same) fun g127 => ?_
  refine Qv 3 ?_
  refine QR 3 rfl ((qg _ [6, 11, 25] (by decide) g127 0 3 (by decide)).comes) rfl rfl rfl (fun xx => same) fun _ => ?_
  refine Qa 4 rfl (Jn rfl rfl) ?_
  refine Qa 12 rfl (Jn rfl rfl) ?_
  refine Qa 14 rfl (Jn rfl rfl) ?_
  refine Qa 18 rfl (Jn rfl rfl) ?_
  refine Qa 19 rfl (Q6 rfl) ?_
  refine QB (by kernel_rfl) ?_
  refine Qc ?_
  rw [hwe, h18]
  refine yR ?_
  refine yM rfl ?_
  refine yM rfl ?_
  refine yM rfl ?_
  refine yM rfl ?_
  refine yM rfl ?_
  refine Qb (Jn rfl rfl) ?_
  refine yS rfl ?_
  refine yS rfl ?_
  refine yS rfl ?_
  refine yS rfl ?_
  refine yN ?_
  refine Q5 ?_
  refine yM rfl ?_
  refine yM rfl ?_
  refine yM rfl ?_
  refine yM rfl ?_
  refine yM rfl ?_
  refine Qo (VG [2, 13, 22] rfl) fun g155 => ?_
  refine Qh ((qg _ [2, 13, 22] (by decide) g155 0 3 (by decide)).comes) rfl rfl rfl fun _ => ?_
  refine Qb (Jn rfl rfl) ?_
  refine yM rfl ?_
  refine yM rfl ?_
  refine Qb (qp rfl rfl) ?_
  refine yM rfl ?_
  refine yM rfl ?_
  refine yM rfl ?_
  refine Qb (QcT rfl rfl) ?_
  refine Qb (qp rfl rfl) ?_
  refine Qb (QcT rfl rfl) ?_
  refine Qb (Jn rfl rfl) ?_
  refine yS rfl ?_
  refine yS rfl ?_
  refine yS rfl ?_
  refine yS rfl ?_
  refine QE ?_
  refine Q2 ?_
  refine Qc ?_
  rw [h20]
  refine Q5 ?_
  refine Qb (QI rfl rfl) ?_
  refine yM rfl ?_
  refine QE ?_
  exact QH (r + 1, w, rnd (K64.getD r 0) (wat l r) v) ((show r + 1 ≤ 64 ∧ Win l (r + 1) (w) ∧ rnd (K64.getD r 0) (wat l r) v = Vr l s (r + 1) from ⟨by omega, hw2, hr1.symm⟩)) ((show 64 - (r + 1) < 64 - r by omega)) ⟨rfl, rfl, rfl, rfl, rfl, rfl, rfl, rfl, rfl, rfl, rfl, rfl, trivial⟩ (same)
 obtain rfl : r = 64 := by omega
 refine QK ?_
 refine Qx ?_
 refine Qx ?_
 refine Q8 ?_
 refine Qc ?_
 refine yR ?_
 refine yM rfl ?_
 refine yM rfl ?_
 refine yM rfl ?_
 refine yM rfl ?_
 refine yM rfl ?_
 refine yM rfl ?_
 refine yM rfl ?_
 refine yM rfl ?_
 refine Qb (QD rfl) ?_
 refine yM rfl ?_
 refine yN ?_
 refine Qq ?_
 rw [S8.cs_eq s, ← Qkt s v]
 refine QS (fun (j : Nat) => j ≤ 8) (fun (j : Nat) => [(178, .int .i64 (j : Int)), (177, .agg (S8.cs v).toArray), (0, .pointer (some ⟨gs, 0, none⟩))]) (fun (j : Nat) => [.blk gs (wc .u32 (QaP s v j)) 358]) (fun (j : Nat) => 8 - j) 0 (by omega) ⟨rfl, rfl, rfl, trivial⟩ (same) ?_
 intro j hj
 have hal := QbW s v j
 refine yR ?_
 refine Qb (QT rfl rfl) ?_
 refine yN ?_
 refine Qd ?_
 refine QU rfl (fun h => ?_) (fun h => ?_)
 ·have hst := QeO s v j (by omega)
  have hg := QeN s v j (by omega)
  refine Qn ?_
  refine Qc ?_
  refine Qd ?_
  refine Qq ?_
  refine yR ?_
  refine yM rfl ?_
  refine Qb (Qc8 rfl rfl (S8.cs_at v (by omega))) ?_
  refine yS rfl ?_
  refine yS rfl ?_
  refine yN ?_
  refine Q1 [.blk gs (wc .u32 (QaP s v j)) 358] [] QJ (same) ?_
  refine Qa 0 rfl (Qi rfl) ?_
  refine Qa 1 rfl (Qi rfl) ?_
  refine Qa 2 rfl (QA rfl) ?_
  refine Qa 3 rfl (QP rfl rfl) ?_
  refine Qp 4 rfl (QX rfl (YT (by omega))) ?_
  refine Qa 5 rfl (Qi rfl) ?_
  refine Qa 6 rfl (Jn rfl rfl) ?_
  refine Qa 7 rfl (QA rfl) ?_
  refine Qa 8 rfl (QP rfl rfl) ?_
  refine Qv 9 ?_
  refine J4 9 rfl (Qbg rfl rfl) ?_
  refine Q2 ?_
  refine Qc ?_
  rw [hg, hst]
  refine Q5 ?_
  refine Qb (QI rfl rfl) ?_
  refine yM rfl ?_
  refine QE ?_
  exact QH (j + 1) (by omega) (by omega) ⟨rfl, rfl, rfl, trivial⟩ (same)
 obtain rfl : j = 8 := by omega
 rw [Qku, hv, show S8.add s (Vr l s 64) = Qfe l s from rfl, ← S8.cs_eq]
 refine QK ?_
 refine Qx ?_
 refine Qx ?_
 refine Q8 ?_
 refine ZJ ?_
 exact Vg rfl fun w s => ⟨(), rfl, s.res (List.Sublist.refl _) (by simp [Fa.wr])⟩
end
section
open Go.RowKit
theorem QoD : QC Tryz.prog 221 ([] : List Value).toArray [] [] (fun _ : Unit => .agg (wc .u32 H0.l).toArray) (fun _ => []) := by
 refine Qk Tryz.func221 rfl (n := 2) rfl rfl ?_
 intro W
 refine yR ?_
 refine Qo (Q0) fun g0 => ?_
 refine yN ?_
 refine yR ?_
 refine Qb (QD rfl) ?_
 refine Q7 (Qw rfl rfl) ?_
 refine yN ?_
 refine Qs ?_
 change H _ _ _ _ _ [.blk g0 (wc .u32 H0.l) _] _
 exact Qu rfl (QZ rfl) fun w s => ⟨(), rfl, s.res (List.nil_sublist _) (by simp)⟩
theorem QdE {m i : Nat} (h : i < m) : List.range m = List.range i ++ i :: (List.range m).drop (i + 1) := by
 have h1 := (List.take_append_drop i (List.range m)).symm
 rwa [List.take_range, Nat.min_eq_left (by omega), List.drop_eq_getElem_cons (by simpa using h), List.getElem_range] at h1
theorem Qrt {A : List Fa} {W w : World} {r1 r2 : Fa} {L : List Fa} (s : Sx A W w (r1 :: r2 :: L)) : Sx A W w [r1, r2] := s.sub (((List.nil_sublist L).cons_cons r2).cons_cons r1)
theorem QmW (A : Option Addr) (N c : Nat) : QC Tryz.prog 223 [.slice A N c, .int .i64 64].toArray [] [] (fun u : Nat × Nat => .func (.func 259) #[] [.pointer (some ⟨u.1, 0, none⟩), .pointer (some ⟨u.2, 0, none⟩)].toArray) (fun u => [.blk u.1 [.slice A N c] 35, .blk u.2 [.int .i64 64] 3]) := by
 refine Qk Tryz.func223 rfl (n := 9) rfl rfl ?_
 intro W
 refine yR ?_
 refine Qo (JW rfl) fun g2 => ?_
 refine Qo (JW rfl) fun g3 => ?_
 refine yS rfl ?_
 refine yN ?_
 refine Qd ?_
 refine yR ?_
 refine Qb (Qf rfl) ?_
 refine Qb (QT rfl rfl) ?_
 refine yN ?_
 refine Qt rfl ?_
 refine Qn ?_
 refine Qc ?_
 refine yR ?_
 refine Qb (Y1 rfl rfl) ?_
 refine yS rfl ?_
 refine yN ?_
 refine Qs ?_
 exact Qu rfl rfl fun w s => ⟨(g2, g3), rfl, (same w s).res (List.Sublist.refl _) (by simp [Fa.wr])⟩
theorem Qka (b o c m g1 g2 : Nat) (hc : 64 * m ≤ c) (hm : m ≤ 1000000000000) : Qnc Tryz.prog 259 [.pointer (some ⟨g1, 0, none⟩), .pointer (some ⟨g2, 0, none⟩)] [.rd (some ⟨g1, 0, none⟩) [.slice (some ⟨b, o, none⟩) (64 * m) c], .rd (some ⟨g2, 0, none⟩) [.int .i64 64]] [] (List.range m) (fun i => [.slice (some ⟨b, o + 64 * i, none⟩) 64 64]) [] := by
 refine QhN Tryz.func259 rfl (n := 31) rfl rfl ?_
 intro l J Rm m0 W hJw hRm hy h0
 refine yR ?_
 refine yS rfl ?_
 refine yN ?_
 refine Qq ?_
 refine QS (fun (s : Nat × List Fa) => s.1 ≤ m ∧ J (List.range s.1) s.2) (fun (s : Nat × List Fa) => [(4, .int .i64 ((64 * s.1 : Nat) : Int)), (0, .func (.yield l) #[] #[]), (1, .pointer (some ⟨g1, 0, none⟩)), (2, .pointer (some ⟨g2, 0, none⟩))]) (fun (s : Nat × List Fa) => .rd (some ⟨g1, 0, none⟩) [.slice (some ⟨b, o, none⟩) (64 * m) c] :: .rd (some ⟨g2, 0, none⟩) [.int .i64 64] :: (s.2 ++ Rm)) (fun (s : Nat × List Fa) => m - s.1) (0, m0) ((show 0 ≤ m ∧ J (List.range 0) m0 from ⟨by omega, h0⟩)) ⟨rfl, rfl, rfl, rfl, trivial⟩ (fun _ s => s) ?_
 rintro ⟨i, mm⟩ ⟨hi, hJ⟩
 dsimp only at hi hJ ⊢
 refine Qd ?_
 refine yR ?_
 refine yM rfl ?_
 refine Qb (Qf rfl) ?_
 refine Qb (QF rfl) ?_
 refine Qb (QT rfl rfl) ?_
 refine yN ?_
 refine QU rfl (fun h => ?_) (fun h => ?_)
 ·have hi2 : i < m := by omega
  refine Qn ?_
  refine Qc ?_
  refine Qd ?_
  refine Qq ?_
  refine Qd ?_
  refine Q1 [.rd (some ⟨g1, 0, none⟩) [.slice (some ⟨b, o, none⟩) (64 * m) c], .rd (some ⟨g2, 0, none⟩) [.int .i64 64]] [] QJ (fun _ s => Qrt s) ?_
  refine Qp 0 rfl (Qf rfl) ?_
  refine Qp 1 rfl (Qf rfl) ?_
  refine Qa 2 rfl (Qi rfl) ?_
  refine Qa 3 rfl (Qb5 rfl rfl) ?_
  refine Qa 4 rfl (QF rfl) ?_
  refine Qa 5 rfl (Jv (Qma rfl rfl) (show _ = (64 : Int) by rw [if_neg (by omega)])) ?_
  refine Qa 6 rfl (Q6 rfl) ?_
  refine QB (by kernel_rfl) ?_
  refine Qc ?_
  refine yR ?_
  refine yM rfl ?_
  refine Qb (Qf rfl) ?_
  refine yM rfl ?_
  refine yM rfl ?_
  refine yM rfl ?_
  refine Qb (QI rfl rfl) ?_
  refine yM rfl ?_
  refine yM rfl ?_
  refine Qb (QI rfl rfl) ?_
  refine Qb (Qom rfl rfl rfl rfl (N' := 64) (c' := 64) (hN := by omega) (hc := by omega)) ?_
  refine Zz (hy _ _ _ _ (QdE hi2) hJ) hRm rfl rfl fun m' hJ' => ?_
  refine Qb (Ji rfl) ?_
  refine yN ?_
  refine Qt rfl ?_
  refine Qn ?_
  refine Q2 ?_
  refine Qc ?_
  refine Q5 ?_
  refine yM rfl ?_
  refine Qb (Qf rfl) ?_
  refine Qb (QI rfl rfl) ?_
  refine yS rfl ?_
  refine QE ?_
  exact QH (i + 1, m') ((show i + 1 ≤ m ∧ J (List.range (i + 1)) m' from ⟨by omega, by rw [List.range_succ]; exact hJ'⟩)) ((show m - (i + 1) < m - i by omega)) ⟨aI rfl (by omega), rfl, rfl, rfl, trivial⟩ (fun _ s => s)
 obtain rfl : i = m := by omega
 refine QK ?_
 refine Qx ?_
 refine Qx ?_
 refine Q8 ?_
 refine ZJ ?_
 exact Vg rfl fun w s => ⟨_, mm, rfl, hJ, s.res (((List.sublist_append_left _ _).cons _).cons _) (hJw _ _ hJ)⟩
end
section
open Go.RowKit
theorem Qff (q : List UInt8) (i : Nat) : YE ((List.range (i + 1)).map (Y3 q)) H0 = Qfe (Y3 q i) (YE ((List.range i).map (Y3 q)) H0) := by
 rw [List.range_succ, List.map_append, List.map_singleton, Qce]
theorem Z5 {m i : Nat} {pre post : List Nat} (h : List.range m = pre ++ i :: post) : pre = List.range i ∧ i < m := by
 have hl : pre.length < m := by have := congrArg List.length h; simp at this; omega
 have h2 : (List.range m)[pre.length]? = some i := by rw [h]; simp
 rw [List.getElem?_range hl] at h2
 obtain rfl := Option.some.inj h2
 refine ⟨?_, hl⟩
 have h3 := congrArg (List.take pre.length) h
 rw [List.take_range, Nat.min_eq_left (by omega)] at h3
 simpa using h3.symm
theorem QqU (l : List UInt8) (B : Option Addr) (c : Nat) (hB : B = none → l.length = 0 ∧ c = 0) (hn : l.length ≤ 100000000000) : QC Tryz.prog 149 [.slice B l.length c].toArray [.rd B (bc l), .rd (some ⟨1, 0, none⟩) (wc .u32 K64)] [] (fun _ : Unit => .agg (bc (sha l).1).toArray) (fun _ => []) := by
 have hp := Qeq l
 have hp64 : Yg l.length = 64 * (Yg l.length / 64) := by unfold Yg; omega
 have hpl : Yg l.length ≤ l.length + 72 := by unfold Yg; omega
 have hsha : bc (sha l).1 = bc (QfL (YE (VT (pad l)) H0)) := rfl
 rw [hsha]
 have hPad := QqQ l B c hB hn
 generalize Yg l.length = p at *
 generalize pad l = q at *
 subst hp
 obtain ⟨m, hm⟩ : ∃ m, m = q.length / 64 := ⟨_, rfl⟩
 rw [← hm] at hp64
 have hblks : VT q = (List.range m).map (Y3 q) := by unfold VT; rw [hm]
 rw [hp64] at hPad
 rw [hblks]
 refine Qk Tryz.func149 rfl (n := 34) rfl rfl ?_
 intro W
 refine yR ?_
 refine Qo (Q0) fun g2 => ?_
 refine yN ?_
 refine yR ?_
 refine Qh (QoD.comes) rfl rfl rfl fun _ => ?_
 refine Qo (Q0) fun g3 => ?_
 refine Q7 (Qw rfl rfl) ?_
 refine yN ?_
 refine yR ?_
 refine Qb (Y1 rfl rfl) ?_
 refine Qo (Q0) fun g4 => ?_
 refine Q7 (QV rfl rfl rfl) ?_
 refine yN ?_
 refine Qd ?_
 refine yR ?_
 refine yM rfl ?_
 refine Qh (hPad.comes) rfl rfl rfl fun ⟨g5, c5⟩ => ?_
 dsimp only
 refine Jq (φ := 64 * m ≤ c5) (fun w s => (s.ownLe (B := some ⟨g5, 0, none⟩) (N := 64 * m) (c := c5)).1) fun hcap => ?_
 refine h_L (fun w s => s.ownRd (B := some ⟨g5, 0, none⟩) (N := 64 * m) (c := c5)) ?_
 refine Qh ((QmW (some ⟨g5, 0, none⟩) (64 * m) c5).comes) rfl rfl rfl fun ⟨g66, g7⟩ => ?_
 dsimp only
 refine yN ?_
 refine Qq ?_
 change H _ _ _ _ _ (_ :: _ :: _ :: _ :: .blk g3 (S8.cs (YE ((List.range 0).map (Y3 q)) H0)) _ :: _) _
 refine QbH (Qka g5 0 c5 m g66 g7 hcap (by omega)) rfl (fun pre mm => mm = [.blk g3 (S8.cs (YE (pre.map (Y3 q)) H0)) 358]) [.blk g3 (S8.cs (YE ((List.range 0).map (Y3 q)) H0)) 358] [.rd (some ⟨g4, 0, none⟩) [.func (.func 222) #[Value.pointer (some ⟨g3, 0, none⟩)] #[]], .rd (some ⟨g5, 0, none⟩) (bc q), .rd (some ⟨1, 0, none⟩) (wc .u32 K64)] (by rintro pre mm rfl f hf; rw [List.mem_singleton.1 hf]; rfl) rfl rfl (fun _ => rfl) ?_ ?_
 ·intro ll rr pre i post mm W1 hr hrp hxs hJ
  subst hJ
  have hpre : pre = List.range i ∧ i < m := Z5 hxs
  obtain ⟨rfl, hi⟩ := hpre
  have hcut : Rd1 [Fa.obj ll (.loop { rr with state := .busy }), .rd (some ⟨g4, 0, none⟩) [.func (.func 222) #[Value.pointer (some ⟨g3, 0, none⟩)] #[]], .rd (some ⟨g5, 0, none⟩) (bc q), .rd (some ⟨1, 0, none⟩) (wc .u32 K64)] (.rd (some ⟨g5, 0 + 64 * i, none⟩) (bc (Y3 q i))) := Qib (L := _) (b := g5) (o := 0) (cs := bc q) rfl (Qkx q (64 * i) 64)
  have hbl : (Y3 q i).length = 64 := by unfold Y3; rw [List.length_take, List.length_drop]; omega
  have hc1 := Qff q i
  rw [List.range_succ] at hc1
  generalize YE ((List.range i).map (Y3 q)) H0 = s0 at *
  refine h_L (L' := [.obj ll (.loop rr), .blk g3 (S8.cs s0) 358, .rd (some ⟨g4, 0, none⟩) [.func (.func 222) #[Value.pointer (some ⟨g3, 0, none⟩)] #[]], .rd (some ⟨g5, 0, none⟩) (bc q), .rd (some ⟨1, 0, none⟩) (wc .u32 K64)]) (fun _ s => s) ?_
  refine Q5 ?_
  refine yS rfl ?_
  refine yN ?_
  refine YN hr ?_
  refine Qq ?_
  refine Q5 ?_
  refine Qb (Qf rfl) ?_
  refine yM rfl ?_
  refine Qh ((Qqz (Y3 q i) s0 g3 g5 (0 + 64 * i) 64 hbl (by decide)).comes) rfl rfl rfl fun _ => ?_
  refine QE ?_
  refine Q2 ?_
  exact JH [.blk g3 (S8.cs (Qfe (Y3 q i) s0)) 358] hr hrp (by rw [hc1]) (by intro f hf; rw [List.mem_singleton.1 hf]; rfl)
 intro bb mm hJ
 subst hJ
 refine Q2 ?_
 refine Qc ?_
 simp only [List.nil_append, List.cons_append]
 generalize YE ((List.range m).map (Y3 q)) H0 = s0 at *
 refine yR ?_
 refine Qo (Q0) fun g6 => ?_
 refine yN ?_
 refine Qd ?_
 refine yR ?_
 refine yM rfl ?_
 refine yN ?_
 refine Qq ?_
 change H _ _ _ _ _ (.blk g6 (bc ((List.range 0).map (QcS s0) ++ List.replicate (32 - 0) 0)) _ :: _) _
 refine QS (fun (j : Nat) => j ≤ 32) (fun (j : Nat) => [(17, .int .i64 (j : Int)), (6, .pointer (some ⟨g6, 0, none⟩)), (3, .pointer (some ⟨g3, 0, none⟩)), (2, .pointer (some ⟨g2, 0, none⟩))]) (fun (j : Nat) => [.blk g6 (bc ((List.range j).map (QcS s0) ++ List.replicate (32 - j) 0)) 45, .blk g3 (S8.cs s0) 358, .obj bb (.deferred (some [])), .blk g2 QN.cells 45]) (fun (j : Nat) => 32 - j) 0 (by omega) ⟨rfl, rfl, rfl, rfl, trivial⟩ (same) ?_
 intro j hj
 have hfl := Qfw (QcS s0) 0 32 j hj
 refine yR ?_
 refine Qb (QT rfl rfl) ?_
 refine yN ?_
 refine Qd ?_
 refine QU rfl (fun h => ?_) (fun h => ?_)
 ·have hst := Qfy (QcS s0) 0 32 j (by omega)
  refine Qn ?_
  refine Qc ?_
  refine Qd ?_
  refine Qq ?_
  refine yR ?_
  refine yM rfl ?_
  refine yS rfl ?_
  refine yN ?_
  refine Q5 ?_
  refine yM rfl ?_
  refine yM rfl ?_
  refine Qb (Zk rfl rfl) ?_
  refine Qb (QP rfl rfl) ?_
  refine Qb (QX rfl (S8.cs_at s0 (by omega))) ?_
  refine yM rfl ?_
  refine Qb (VL rfl rfl) ?_
  refine Qb (qR rfl rfl) ?_
  refine Qb (YR rfl rfl) ?_
  refine Qb (YW rfl rfl) ?_
  refine Qb (Qew rfl) ?_
  refine Qb (QP rfl rfl) ?_
  refine Q7 (Qad rfl rfl) ?_
  refine QE ?_
  refine Q2 ?_
  refine Qc ?_
  rw [QhW, hst]
  refine Q5 ?_
  refine Qb (QI rfl rfl) ?_
  refine yM rfl ?_
  refine QE ?_
  exact QH (j + 1) (by omega) (by omega) ⟨rfl, rfl, rfl, rfl, trivial⟩ (same)
 obtain rfl : j = 32 := by omega
 rw [Qfv]
 change H _ _ _ _ _ (.blk g6 (bc (QfL s0)) _ :: _) _
 refine QK ?_
 refine Qx ?_
 refine Qx ?_
 refine Q8 ?_
 refine Qc ?_
 refine yR ?_
 refine Qb (Qm rfl) ?_
 refine Q7 (Qw rfl rfl) ?_
 refine yN ?_
 refine Qs ?_
 refine Vf ?_
 exact Qu rfl (QZ rfl) fun w s => ⟨(), rfl, s.res (List.nil_sublist _) (by simp)⟩
end
section
open Go.RowKit
def J6 (x : UInt8) (j : Nat) : Bool := (x.toNat / 2 ^ (7 - j)) % 2 == 1
def Q4 (b : B32) (i : Nat) : Bool := J6 (b.1.getD (i / 8) 0) (i % 8)
def QfP (x : UInt8) : Nat := ((List.range 8).filter (J6 x)).length
def lz8 (x : UInt8) : Nat := ((List.range 8).find? (J6 x)).getD 8
def Qle (x : UInt8) (j : Nat) : Nat := if J6 x j then x.toNat - 2 ^ (7 - j) else x.toNat + 2 ^ (7 - j)
theorem YD {p : UInt8 → Prop} (h : ∀ n : Fin 256, p (UInt8.ofNat n.val)) (x : UInt8) : p x := by
 have := h ⟨x.toNat, x.toNat_lt⟩
 rwa [UInt8.ofNat_toNat] at this
theorem Qet (x : UInt8) : QfP x ≤ 8 := by
 unfold QfP
 exact Nat.le_trans (List.length_filter_le _ _) (by simp)
theorem Qi4 (j : Nat) : J6 0 j = false := by
 unfold J6
 simp
theorem Qdg : ∀ x : UInt8, (∀ j, j < 8 → J6 x j = false) → x = 0 := by
 intro x h
 have key : ∀ n : Fin 256, ((List.range 8).all fun j => !J6 (UInt8.ofNat n.val) j) = true → UInt8.ofNat n.val = 0 := by decide +kernel
 have := YD (p := fun x => ((List.range 8).all fun j => !J6 x j) = true → x = 0) key x
 exact this (by simpa using h)
theorem Ql3 : ∀ x : UInt8, x ≠ 0 → lz8 x < 8 ∧ J6 x (lz8 x) = true ∧ ∀ j, j < lz8 x → J6 x j = false := by
 intro x hx
 have key : ∀ n : Fin 256, UInt8.ofNat n.val ≠ 0 → (decide (lz8 (UInt8.ofNat n.val) < 8) && J6 (UInt8.ofNat n.val) (lz8 (UInt8.ofNat n.val)) && (List.range (lz8 (UInt8.ofNat n.val))).all fun j => !J6 (UInt8.ofNat n.val) j) = true := by decide +kernel
 have := YD (p := fun x => x ≠ 0 → (decide (lz8 x < 8) && J6 x (lz8 x) && (List.range (lz8 x)).all fun j => !J6 x j) = true) key x hx
 simp only [Bool.and_eq_true, decide_eq_true_eq, List.all_eq_true, List.mem_range, Bool.not_eq_true'] at this
 exact ⟨this.1.1, this.1.2, this.2⟩
def qK (x : UInt8) (j : Nat) : UInt8 := UInt8.ofNat (Qle x j)
theorem Qje : ∀ (x : UInt8) (j k : Nat), j < 8 → k < 8 → J6 (qK x j) k = if k = j then !J6 x j else J6 x k := by
 intro x j k hj hk
 have key : ∀ n : Fin 256, ∀ j k : Fin 8, J6 (qK (UInt8.ofNat n.val) j.val) k.val = if k.val = j.val then !J6 (UInt8.ofNat n.val) j.val else J6 (UInt8.ofNat n.val) k.val := by decide +kernel
 exact YD (p := fun x => ∀ j k : Fin 8, J6 (qK x j.val) k.val = if k.val = j.val then !J6 x j.val else J6 x k.val) key x ⟨j, hj⟩ ⟨k, hk⟩
def Jl (b : B32) : List Nat := (List.range 256).filter (Q4 b)
def JJ (b : B32) (i : Nat) : B32 := ⟨b.1.set (i / 8) (qK (b.1.getD (i / 8) 0) (i % 8)), by rw [List.length_set]; exact b.2⟩
theorem qJ (b : B32) (i k : Nat) (hi : i < 256) (hk : k < 256) : Q4 (JJ b i) k = if k = i then !Q4 b i else Q4 b k := by
 have hb := b.2
 unfold Q4 JJ
 simp only
 by_cases h : k / 8 = i / 8
 ·have e : (b.1.set (i / 8) (qK (b.1.getD (i / 8) 0) (i % 8))).getD (k / 8) 0 = qK (b.1.getD (i / 8) 0) (i % 8) := by
   rw [h]
   have : i / 8 < b.1.length := by omega
   simp [List.getD, this]
  rw [e, Qje _ _ _ (by omega) (by omega), h]
  by_cases hk2 : k = i
  ·subst hk2; simp
  have : ¬ k % 8 = i % 8 := by omega
  rw [if_neg this, if_neg hk2]
 have e : (b.1.set (i / 8) (qK (b.1.getD (i / 8) 0) (i % 8))).getD (k / 8) 0 = b.1.getD (k / 8) 0 := by
  simp [List.getD, List.getElem?_set, Ne.symm h]
 have hk2 : ¬ k = i := fun hh => h (by rw [hh])
 rw [e, if_neg hk2]
theorem Qdf (b : B32) (h : ∀ i, i < 256 → Q4 b i = false) : b = QN := by
 apply Subtype.ext
 apply List.ext_getElem
 ·rw [b.2]; rfl
 intro i h1 h2
 have hi : i < 32 := by rw [← b.2]; exact h1
 have : b.1[i] = 0 := Qdg _ (fun j hj => by
  have := h (8 * i + j) (by omega)
  unfold Q4 at this
  rw [show (8 * i + j) / 8 = i by omega, show (8 * i + j) % 8 = j by omega] at this
  simpa [List.getD, h1] using this)
 rw [this]
 exact (List.getElem_replicate (a := (0 : UInt8)) (n := 32) h2).symm
theorem qa (i : Nat) : Q4 QN i = false := by
 unfold Q4 QN
 have : (List.replicate 32 (0 : UInt8)).getD (i / 8) 0 = 0 := by
  rw [List.getD_eq_getElem?_getD, List.getElem?_replicate]
  split <;> rfl
 rw [this, Qi4]
end
section
open Go.RowKit
theorem QaQ (x : UInt8) (j : Nat) : J6 x j = x.toNat.testBit (7 - j) := by
 unfold J6
 rw [Nat.testBit_eq_decide_div_mod_eq]
 rfl
theorem QeR (x y : UInt8) (j : Nat) : J6 (x ^^^ y) j = (J6 x j ^^ J6 y j) := by
 rw [QaQ, QaQ, QaQ, UInt8.toNat_xor, Nat.testBit_xor]
def Jc (a b : B32) : Nat := ((List.range 256).find? fun i => Q4 a i ^^ Q4 b i).getD 256
theorem Qfd (a : B32) : Jc a a = 256 := by
 unfold Jc
 have : (List.range 256).find? (fun i => Q4 a i ^^ Q4 a i) = none := by
  rw [List.find?_eq_none]
  intro i _
  simp
 rw [this]
 rfl
theorem Qck {p : Nat → Bool} {n m : Nat} (hm : m < n) (h1 : p m = true) (h2 : ∀ j, j < m → p j = false) : (List.range n).find? p = some m := by
 rw [List.find?_range_eq_some]
 exact ⟨h1, by simpa using hm, fun j hj => by simp [h2 j hj]⟩
theorem QiE (a b : B32) (k : Nat) (hk : k < 32) (h : ∀ j, j < k → a.1.getD j 0 = b.1.getD j 0) (hne : a.1.getD k 0 ^^^ b.1.getD k 0 ≠ 0) : Jc a b = 8 * k + lz8 (a.1.getD k 0 ^^^ b.1.getD k 0) := by
 obtain ⟨h1, h2, h3⟩ := Ql3 _ hne
 generalize hd : a.1.getD k 0 ^^^ b.1.getD k 0 = d at *
 have hbit : ∀ j, j < 8 → (Q4 a (8 * k + j) ^^ Q4 b (8 * k + j)) = J6 d j := fun j hj => by
  unfold Q4
  rw [show (8 * k + j) / 8 = k by omega, show (8 * k + j) % 8 = j by omega, ← QeR, hd]
 unfold Jc
 rw [Qck (m := 8 * k + lz8 d) (by omega) (by rw [hbit _ h1]; exact h2) (fun j hj => by
  by_cases hjk : j / 8 < k
  ·unfold Q4
   rw [h (j / 8) hjk]
   simp
  obtain ⟨r, rfl⟩ : ∃ r, j = 8 * k + r := ⟨j - 8 * k, by omega⟩
  rw [hbit r (by omega)]
  exact h3 r (by omega))]
 rfl
theorem Qfn {a b : B32} (h : ∀ j, j < 32 → a.1.getD j 0 = b.1.getD j 0) : a = b := by
 have ha := a.2
 have hb := b.2
 apply Subtype.ext
 apply List.ext_getElem
 ·omega
 intro i h1 h2
 have := h i (by omega)
 simpa [List.getD, h1, h2] using this
end
section
open Go.RowKit
def Qeu (b : B32) (k : Nat) : Nat := ((b.1.take k).map QfP).sum
theorem Qoh (b : B32) (k : Nat) : Qeu b k ≤ 256 := by
 unfold Qeu
 have h : ∀ l : List UInt8, (l.map QfP).sum ≤ 8 * l.length := by
  intro l
  induction l with
  | nil => simp
  | cons x l ih => have := Qet x; simp only [List.map_cons, List.sum_cons, List.length_cons]; omega
 have h1 := h (b.1.take k)
 have h2 : (b.1.take k).length ≤ 32 := by rw [List.length_take, b.2]; omega
 omega
theorem Qd5 (b : B32) (k : Nat) (hk : k < 32) : Qeu b (k + 1) = Qeu b k + QfP (b.1.getD k 0) := by
 unfold Qeu
 rw [QdL (d := 0) (l := b.1) (by rw [b.2]; exact hk), List.map_append, List.sum_append]
 simp
theorem ZR (b : B32) (k j : Nat) (hj : j < 8) : Q4 b (8 * k + j) = J6 (b.1.getD k 0) j := by
 unfold Q4
 rw [show (8 * k + j) / 8 = k by omega, show (8 * k + j) % 8 = j by omega]
theorem Qbs (b : B32) : ∀ k, k ≤ 32 → ((List.range (8 * k)).filter (Q4 b)).length = Qeu b k
 | 0, _ => by simp [Qeu]
 | k + 1, h => by
  rw [Qd5 b k (by omega), ← Qbs b k (by omega), Nat.mul_succ, List.range_add, List.filter_append, List.length_append, List.filter_map, List.length_map]
  congr 1
  unfold QfP
  congr 1
  apply List.filter_congr
  intro j hj
  exact ZR b k j (by simpa using hj)
theorem QgC (b : B32) : (Jl b).length = Qeu b 32 := Qbs b 32 (Nat.le_refl _)
def Yl (b : B32) (n : Nat) : Int := match ((List.range n).filter (Q4 b)).getLast? with | some i => i | none => -1
theorem qN (b : B32) (n : Nat) : Yl b (n + 1) = if Q4 b n then (n : Int) else Yl b n := by
 unfold Yl
 rw [List.range_succ, List.filter_append]
 by_cases h : Q4 b n
 ·simp [h]
 simp [h]
theorem Qbr (r : B32) (h : r ≠ QN) : Jc r QN < 256 ∧ Q4 r (Jc r QN) = true ∧ ∀ j, j < Jc r QN → Q4 r j = false := by
 unfold Jc
 cases hf : (List.range 256).find? (fun i => Q4 r i ^^ Q4 QN i) with
 | none =>
  refine (h (Qdf r fun i hi => ?_)).elim
  have := List.find?_eq_none.1 hf i (by simpa using hi)
  simpa [qa] using this
 | some m =>
  rw [List.find?_range_eq_some] at hf
  obtain ⟨h1, h2, h3⟩ := hf
  simp only [Option.getD_some]
  refine ⟨by simpa using h2, by simpa [qa] using h1, fun j hj => ?_⟩
  have := h3 j hj
  simpa [qa] using this
theorem V3 (b : B32) : ∀ n, (∀ j, j < n → Q4 b j = false) → Yl b n = -1
 | 0, _ => rfl
 | n + 1, h => by rw [qN, h n (by omega), if_neg (by simp)]; exact V3 b n fun j hj => h j (by omega)
theorem QfE (b : B32) : ∀ n, (Yl b n = -1 ∧ ∀ j, j < n → Q4 b j = false) ∨ (∃ m : Nat, m < n ∧ Yl b n = m ∧ Q4 b m = true)
 | 0 => .inl ⟨rfl, fun j hj => by omega⟩
 | n + 1 => by
  rw [qN]
  by_cases h : Q4 b n = true
  ·rw [if_pos h]; exact .inr ⟨n, by omega, rfl, h⟩
  rw [if_neg h]
  rcases QfE b n with ⟨h1, h2⟩ | ⟨m, h1, h2, h3⟩
  ·refine .inl ⟨h1, fun j hj => ?_⟩
   by_cases e : j = n
   ·subst e; simpa using h
   exact h2 j (by omega)
  exact .inr ⟨m, by omega, h2, h3⟩
theorem Qcy (r : B32) (i : Nat) (hi : i < 256) (hb : Q4 r i = true) (hl : ∀ j, j < i → Q4 r j = false) : ∀ n, n ≤ 256 → Yl r n = if Yl (JJ r i) n = -1 then (if i < n then (i : Int) else -1) else Yl (JJ r i) n
 | 0, _ => rfl
 | n + 1, hn => by
  have ih := Qcy r i hi hb hl n (by omega)
  rw [qN, qN, qJ r i n hi (by omega)]
  by_cases e : n = i
  ·subst e
   have h1 : Yl (JJ r n) n = -1 := V3 _ n fun j hj => by rw [qJ r n j hi (by omega), if_neg (by omega)]; exact hl j hj
   rw [if_pos hb, if_pos rfl, hb, if_neg (by simp : ¬ (!true) = true), h1, if_pos rfl, if_pos (by omega)]
  rw [if_neg e]
  by_cases h : Q4 r n = true
  ·rw [if_pos h, if_pos h, if_neg (by omega)]
  rw [if_neg h, if_neg h, ih]
  by_cases h2 : Yl (JJ r i) n = -1
  ·rw [if_pos h2, if_pos h2]
   by_cases h3 : i < n
   ·rw [if_pos h3, if_pos (by omega)]
   rw [if_neg h3, if_neg (by omega)]
  rw [if_neg h2, if_neg h2]
theorem Qjr (r : B32) (h : r ≠ QN) : Yl r 256 = if JJ r (Jc r QN) = QN then (Jc r QN : Int) else Yl (JJ r (Jc r QN)) 256 := by
 obtain ⟨h1, h2, h3⟩ := Qbr r h
 generalize Jc r QN = i at *
 rw [Qcy r i h1 h2 h3 256 (Nat.le_refl _)]
 by_cases e : JJ r i = QN
 ·rw [if_pos e, e, V3 QN 256 (fun j _ => qa j), if_pos rfl, if_pos h1]
 rw [if_neg e, if_neg]
 intro h4
 rcases QfE (JJ r i) 256 with ⟨_, h5⟩ | ⟨m, _, h5, _⟩
 ·exact e (Qdf _ h5)
 omega
theorem YJ {a b : B32} (h : ∀ i, i < 256 → Q4 a i = Q4 b i) : a = b := by
 refine Qfn fun j hj => ?_
 have key : ∀ x y : UInt8, (∀ i, i < 8 → J6 x i = J6 y i) → x = y := fun x y hxy => by
  have : x ^^^ y = 0 := Qdg _ fun i hi => by rw [QeR, hxy i hi]; simp
  simpa using this
 refine key _ _ fun i hi => ?_
 rw [← ZR a j i hi, ← ZR b j i hi]
 exact h _ (by omega)
def Y2 (b : B32) (i : Nat) : Nat := if Q4 b i then 1 else 0
theorem Qh3 (b : B32) (i : Nat) : Y2 b i ≤ 1 := by unfold Y2; split <;> omega
theorem QeT (b : B32) (i : Nat) : decide (((Y2 b i : Nat) : Int) = 1) = Q4 b i := by unfold Y2; cases Q4 b i <;> rfl
theorem Qp9 (x : UInt8) (j : Nat) : ((((x.toBitVec >>> (7 - j)) &&& 1).toNat : Nat) : Int) = ((if J6 x j then 1 else 0 : Nat) : Int) := by
 have h : ((x.toBitVec >>> (7 - j)) &&& 1).toNat = x.toNat / 2 ^ (7 - j) % 2 := by
  rw [BitVec.toNat_and, BitVec.toNat_ushiftRight]
  show (x.toNat >>> (7 - j)) &&& 1 = _
  rw [Nat.and_one_is_mod, Nat.shiftRight_eq_div_pow]
 rw [h]
 unfold J6
 have h3 : x.toNat / 2 ^ (7 - j) % 2 < 2 := Nat.mod_lt _ (by omega)
 generalize x.toNat / 2 ^ (7 - j) % 2 = y at *
 rcases (show y = 0 ∨ y = 1 by omega) with rfl | rfl <;> rfl
theorem QgR (x : UInt8) : lz8 x ≤ 8 := by
 revert x
 refine YD ?_
 decide +kernel
def dep (b : B32) (k : Nat) : List Nat := (List.range k).filter (Q4 b)
theorem QhA (b : B32) (k : Nat) : (dep b k).length ≤ k := by
 unfold dep
 exact Nat.le_trans (List.length_filter_le _ _) (by simp)
theorem Qny {b : B32} {k : Nat} (h : Q4 b k = true) : dep b (k + 1) = dep b k ++ [k] := by
 unfold dep
 rw [List.range_succ, List.filter_append, List.filter_cons, if_pos h]
 rfl
theorem QpI {b : B32} {k : Nat} (h : ¬ Q4 b k = true) : dep b (k + 1) = dep b k := by
 unfold dep
 rw [List.range_succ, List.filter_append, List.filter_cons, if_neg h]
 simp
theorem QnG (x : UInt8) (j : Nat) (hj : j < 8) : UInt8.ofBitVec (x.toBitVec ^^^ ((1 : BitVec 8) <<< (7 - j))) = qK x j := by
 have key : ∀ n : Fin 256, ∀ m : Fin 8, UInt8.ofBitVec ((UInt8.ofNat n.val).toBitVec ^^^ ((1 : BitVec 8) <<< (7 - m.val))) = qK (UInt8.ofNat n.val) m.val := by decide +kernel
 exact YD (p := fun x => ∀ m : Fin 8, UInt8.ofBitVec (x.toBitVec ^^^ ((1 : BitVec 8) <<< (7 - m.val))) = qK x m.val) key x ⟨j, hj⟩
end
end Go.Proofs.YtjhlbbgikccclaaGreatDoor
