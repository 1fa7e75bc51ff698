/- joined texts -/
import Derived.Test.YtjhlbbgikccclaaGreatDoorF8
set_option linter.all false
namespace Go.Proofs.YtjhlbbgikccclaaGreatDoor
section
open Go.RowKit
def QhP {α : Type} (f : Nat → α) (z : α) : Nat → α
 | 0 => z
 | k + 1 => f k
theorem QeK (n : Nat) (h : Zh) (t : Tr) (p : Option Addr) [ht : TrZ n h t p] (key : B32) (D : Nat) (hD : WayTo key t D) : QC Tryz.prog 98 [.pointer p, .agg key.cells.toArray].toArray [.zone false h] [] (fun _ : Unit => .tuple #[.pointer (JY h key p D), .int .i64 (D : Int)]) (fun _ => []) := by
 have hle := hD.le
 refine Qk Tryz.func98 rfl (n := 17) rfl rfl ?_
 intro W
 refine yR ?_
 refine Qo (Q9 rfl) fun g3 => ?_
 refine Qo (Q0) fun g4 => ?_
 refine Qo (Q0) fun g5 => ?_
 refine yN ?_
 refine Qd ?_
 refine yR ?_
 refine yM rfl ?_
 refine Qb (Qm rfl) ?_
 refine Qh ((QmI p key).comes) rfl rfl rfl fun ⟨g1, g2⟩ => ?_
 dsimp only
 refine yN ?_
 refine Qq ?_
 change H _ _ _ _ _ (_ :: _ :: .blk g5 [.int .i64 ((0 - 1 : Nat) : Int)] _ :: .blk g4 [.pointer (QhP (JY h key p) none 0)] _ :: _) _
 refine QbH (Qhn n h t p key D hD g1 g2) rfl (fun pre mm => mm = [.blk g4 [.pointer (QhP (JY h key p) none pre.length)] 31, .blk g5 [.int .i64 ((pre.length - 1 : Nat) : Int)] 3]) [.blk g4 [.pointer (QhP (JY h key p) none 0)] 31, .blk g5 [.int .i64 ((0 - 1 : Nat) : Int)] 3] [] (by rintro pre mm rfl f hf; simp only [List.mem_cons, List.not_mem_nil, or_false] at hf; rcases hf with rfl | rfl <;> rfl) rfl rfl (fun _ => rfl) ?_ ?_
 ·intro ll rr pre i post mm W1 hr hrp hxs hJ
  subst hJ
  have hpre : pre = List.range i ∧ i < D + 1 := Z5 hxs
  obtain ⟨rfl, hi⟩ := hpre
  rw [List.length_range]
  simp only [List.nil_append, List.cons_append]
  refine yR ?_
  refine yS rfl ?_
  refine yN ?_
  refine Q5 ?_
  refine yS rfl ?_
  refine yN ?_
  refine YN hr ?_
  refine Qq ?_
  refine Q5 ?_
  refine yM rfl ?_
  refine yM rfl ?_
  refine Q7 (QV rfl rfl rfl) ?_
  refine Q7 (QV rfl rfl rfl) ?_
  refine QE ?_
  refine Q2 ?_
  exact JH [.blk g4 [.pointer (JY h key p i)] 31, .blk g5 [.int .i64 (i : Int)] 3] hr hrp (by simp [QhP]) (by intro f hf; simp only [List.mem_cons, List.not_mem_nil, or_false] at hf; rcases hf with rfl | rfl <;> rfl)
 intro bb mm hJ
 subst hJ
 rw [List.length_range]
 refine Q2 ?_
 refine Qc ?_
 simp only [List.nil_append, List.cons_append]
 change H _ _ _ _ _ (_ :: .blk g4 [.pointer (JY h key p D)] _ :: .blk g5 [.int .i64 (D : Int)] _ :: _) _
 refine Qd ?_
 refine Q1 [.blk g4 [.pointer (JY h key p D)] 31, .blk g5 [.int .i64 (D : Int)] 3] [] QJ (same) ?_
 refine Qp 0 rfl (Qf rfl) ?_
 refine Qp 1 rfl (Qf rfl) ?_
 refine Qv 2 ?_
 refine Qay 2 rfl (QV rfl rfl rfl) (same) ?_
 refine Qv 3 ?_
 refine J4 3 rfl (QV rfl rfl rfl) ?_
 refine Qc ?_
 refine Qs ?_
 refine Vf ?_
 exact QO rfl (J5 rfl) (J5 rfl) fun w s => ⟨(), rfl, s.res (List.nil_sublist _) (by simp)⟩
def Y6 (key : B32) (t : Tr) (i : Nat) : Tr := (Jg key t i).sub (!Q4 key i)
def QcI (h : Zh) (key : B32) (p : Option Addr) (i : Nat) : Option Addr := YS h (!Q4 key i) (JY h key p i)
instance (n : Nat) (h : Zh) (t : Tr) (p : Option Addr) (key : B32) (k : Nat) [x : TrZ n h t p] : TrZ n h (Y6 key t k) (QcI h key p k) := ⟨(QaH x.ok key k).sub _⟩
def qo (l : List (Option Addr)) : List Value := l.map Value.pointer
theorem Qc6 {l : List (Option Addr)} {k : Nat} {p : Option Addr} (h : l[k]? = some p) : (qo l)[k]? = some (.pointer p) := by simp [qo, h]
def VF (h : Zh) (key : B32) (p : Option Addr) (D : Nat) : List (Option Addr) := (List.range D).map (QcI h key p)
theorem Qm7 (h : Zh) (key : B32) (p : Option Addr) (D : Nat) : (VF h key p D).length = D := by simp [VF]
theorem Qij (h : Zh) (key : B32) (p : Option Addr) {D i : Nat} (hi : i < D) : (VF h key p D)[i]? = some (QcI h key p i) := by unfold VF; rw [List.getElem?_map, List.getElem?_range hi]; rfl
theorem QdJ (h : Zh) (key : B32) (p : Option Addr) (i : Nat) : qo (VF h key p i) ++ [.pointer (QcI h key p i)] = qo (VF h key p (i + 1)) := by unfold VF qo; rw [List.range_succ, List.map_append, List.map_append]; rfl
theorem Qgz (n : Nat) (h : Zh) (t : Tr) (p : Option Addr) [ht : TrZ n h t p] (key : B32) (D : Nat) (hD : WayTo key t D) : QC Tryz.prog 100 [.pointer p, .agg key.cells.toArray].toArray [.zone false h] [] (fun u : Option Addr × Nat => .slice u.1 D u.2) (fun u => [.own (.slice u.1 D u.2) D 31 1 (qo (VF h key p D))]) := by
 have hle := hD.le
 refine Qk Tryz.func100 rfl (n := 26) rfl rfl ?_
 intro W
 refine yR ?_
 refine Qo (Q9 rfl) fun g3 => ?_
 refine yS rfl ?_
 refine yN ?_
 refine yR ?_
 refine Qo (Q0) fun g5 => ?_
 refine yN ?_
 refine Qd ?_
 refine yR ?_
 refine yM rfl ?_
 refine Qb (Qm rfl) ?_
 refine Qh ((QmI p key).comes) rfl rfl rfl fun ⟨g1, g2⟩ => ?_
 dsimp only
 refine yN ?_
 refine Qq ?_
 refine Ju 31 1 (xs := qo (VF h key p 0)) rfl ?_
 refine QbH (Qhn n h t p key D hD g1 g2) rfl (fun pre mm => ∃ A c, mm = [.blk g5 [.slice A (min pre.length D) c] 195, .own (.slice A (min pre.length D) c) (min pre.length D) 31 1 (qo (VF h key p (min pre.length D)))]) [.blk g5 [.slice none 0 0] 195, .own (.slice none 0 0) 0 31 1 (qo (VF h key p 0))] [.rd (some ⟨g3, 0, none⟩) key.cells, .zone false h] (by rintro pre mm ⟨A, c, rfl⟩ f hf; simp only [List.mem_cons, List.not_mem_nil, or_false] at hf; rcases hf with rfl | rfl <;> rfl) ⟨none, 0, by rw [List.length_nil, Nat.zero_min]⟩ rfl (fun _ => rfl) ?_ ?_
 ·intro ll rr pre i post mm W1 hr hrp hxs hJ
  obtain ⟨A, c, rfl⟩ := hJ
  have hpre : pre = List.range i ∧ i < D + 1 := Z5 hxs
  obtain ⟨rfl, hi⟩ := hpre
  have hm : min i D = i := by omega
  rw [List.length_range, hm]
  simp only [List.nil_append, List.cons_append]
  by_cases hk : (Jg key t i).kind = 2
  ·have hiD : i < D := by
    rcases Nat.lt_or_ge i D with h1 | h1
    ·exact h1
    obtain rfl : i = D := by omega
    exact (hD.end_ hk).elim
   refine yR ?_
   refine yS rfl ?_
   refine yN ?_
   refine Q5 ?_
   refine yS rfl ?_
   refine yN ?_
   refine YN hr ?_
   refine Qq ?_
   refine yR ?_
   refine yM rfl ?_
   refine Qh ((J3 n h (Jg key t i) (JY h key p i)).comes) rfl rfl rfl fun _ => ?_
   refine Qb (Ql (QG rfl rfl) (decide_eq_true (by omega))) ?_
   refine yN ?_
   refine Qz rfl ?_
   refine Q1 [.blk g5 [.slice A i c] 195, .rd (some ⟨g3, 0, none⟩) key.cells] [] QJ (same) ?_
   refine Qp 0 rfl (Qf rfl) ?_
   refine Qa 1 rfl (Qi rfl) ?_
   refine Qp 2 rfl (Qm rfl) ?_
   refine Qa 3 rfl (Qi rfl) ?_
   refine Qv 4 ?_
   refine QR 4 rfl ((ZH key i (by omega)).comes) rfl rfl rfl (fun xx => same) fun _ => ?_
   refine Qa 5 rfl (YQ rfl rfl (by have := Qh3 key i; omega)) ?_
   refine Qv 6 ?_
   refine QR 6 rfl ((Zt n h (Jg key t i) (JY h key p i) _ (!Q4 key i) (QeS key i)).comes) rfl rfl rfl (fun xx => same) fun _ => ?_
   refine Qv 7 ?_
   refine JB 7 rfl (rk (J8 rfl rfl)) (fun _ => same) fun g23 => ?_
   refine Qv 8 ?_
   refine JB 8 rfl (rk (Yo rfl rfl)) (fun _ => same) fun ⟨g24, c24⟩ => ?_
   refine Qv 9 ?_
   refine J4 9 rfl (QV rfl rfl rfl) ?_
   refine Q2 ?_
   dsimp only
   have e := QdJ h key p i
   unfold QcI at e
   rw [e]
   exact JH [.blk g5 [.slice (some ⟨g24, 0, none⟩) (i + 1) c24] 195, .own (.slice (some ⟨g24, 0, none⟩) (i + 1) c24) (i + 1) 31 1 (qo (VF h key p (i + 1)))] hr hrp ⟨some ⟨g24, 0, none⟩, c24, by rw [List.length_append, List.length_range, List.length_singleton, Nat.min_eq_left (by omega)]⟩ (by intro f hf; simp only [List.mem_cons, List.not_mem_nil, or_false] at hf; rcases hf with rfl | rfl <;> rfl)
  have hiD : i = D := by
   rcases Nat.lt_or_ge i D with h1 | h1
   ·exact (hk (hD.on i h1)).elim
   omega
  refine yR ?_
  refine yS rfl ?_
  refine yN ?_
  refine Q5 ?_
  refine yS rfl ?_
  refine yN ?_
  refine YN hr ?_
  refine Qq ?_
  refine yR ?_
  refine yM rfl ?_
  refine Qh ((J3 n h (Jg key t i) (JY h key p i)).comes) rfl rfl rfl fun _ => ?_
  refine Qb (Ql (QG rfl rfl) (decide_eq_false (by omega))) ?_
  refine yN ?_
  refine Qt rfl ?_
  refine Qn ?_
  refine Q2 ?_
  exact JH [.blk g5 [.slice A i c] 195, .own (.slice A i c) i 31 1 (qo (VF h key p i))] hr hrp ⟨A, c, by rw [List.length_append, List.length_range, List.length_singleton, hiD, Nat.min_eq_right (by omega)]⟩ (by intro f hf; simp only [List.mem_cons, List.not_mem_nil, or_false] at hf; rcases hf with rfl | rfl <;> rfl)
 intro bb mm hJ
 obtain ⟨A, c, rfl⟩ := hJ
 rw [List.length_range, Nat.min_eq_right (by omega)]
 refine Q2 ?_
 refine Qc ?_
 simp only [List.nil_append, List.cons_append]
 refine yR ?_
 refine Qb (Qf rfl) ?_
 refine yS rfl ?_
 refine yN ?_
 refine Qs ?_
 refine Vf ?_
 exact Qu rfl rfl fun w s => ⟨(A, c), rfl, (same w s).res (List.Sublist.refl _) (by simp [Fa.wr])⟩
theorem Qp5 (b : B32) (i : Nat) (hi : i < 256) (hb : Q4 b i = false) : QC Tryz.prog 101 [.agg b.cells.toArray, .int .i64 (i : Int)].toArray [] [] (fun _ : Unit => .agg (JJ b i).cells.toArray) (fun _ => []) := by
 refine Qk Tryz.func101 rfl (n := 12) rfl rfl ?_
 intro W
 refine yR ?_
 refine Qo (Q9 rfl) fun g2 => ?_
 refine Qo (Q0) fun g4 => ?_
 refine yN ?_
 refine Qd ?_
 refine yR ?_
 refine Qb (Qm rfl) ?_
 refine yM rfl ?_
 refine Qh ((Qkf b i hi).comes) rfl rfl rfl fun _ => ?_
 refine yN ?_
 rw [hb]
 refine Qt rfl ?_
 refine Qn ?_
 refine Qc ?_
 refine yR ?_
 refine Qb (Qm rfl) ?_
 refine yM rfl ?_
 refine Qh ((Qkd b i hi).comes) rfl rfl rfl fun _ => ?_
 refine Q7 (Qw rfl rfl) ?_
 refine yN ?_
 refine Qs ?_
 exact Qu rfl (QZ rfl) fun w s => ⟨(), rfl, s.res (List.nil_sublist _) (by simp)⟩
def dsK (key : B32) (t : Tr) (D : Nat) : List Nat := (List.range D).filter fun i => decide ((Y6 key t i).kind ≠ 0)
def rsK (n : Nat) (key : B32) (t : Tr) (D : Nat) : List B32 := (dsK key t D).map fun i => dgT n (Y6 key t i)
theorem Zx {key : B32} {t : Tr} {D : Nat} (h : (Y6 key t D).kind ≠ 0) : dsK key t (D + 1) = dsK key t D ++ [D] := by
 unfold dsK
 rw [List.range_succ, List.filter_append, List.filter_cons_of_pos (by simpa using h)]
 rfl
theorem QgF {key : B32} {t : Tr} {D : Nat} (h : ¬ (Y6 key t D).kind ≠ 0) : dsK key t (D + 1) = dsK key t D := by
 unfold dsK
 rw [List.range_succ, List.filter_append, List.filter_cons_of_neg (by simpa using h), List.filter_nil, List.append_nil]
theorem QgE {key : B32} {t : Tr} {D i : Nat} (h : i ∈ dsK key t D) : i < D := List.mem_range.1 (List.mem_filter.1 h).1
theorem Qn3 (key : B32) (t : Tr) (D : Nat) : (dsK key t D).length ≤ D := by
 have := List.length_filter_le (fun i => decide ((Y6 key t i).kind ≠ 0)) (List.range D)
 rw [List.length_range] at this
 exact this
theorem Qo1 (n : Nat) {key : B32} {t : Tr} {D : Nat} (h : (Y6 key t D).kind ≠ 0) : dgs (rsK n key t (D + 1)) = dgs (rsK n key t D) ++ (dgT n (Y6 key t D)).cells := by
 unfold rsK
 rw [Zx h, List.map_append]
 unfold dgs
 rw [List.flatMap_append]
 simp
theorem Qqw (n : Nat) {key : B32} {t : Tr} {D : Nat} (h : ¬ (Y6 key t D).kind ≠ 0) : rsK n key t (D + 1) = rsK n key t D := by unfold rsK; rw [QgF h]
theorem Qk0 {key : B32} {t : Tr} {D : Nat} (hD : D < 256) : Q4 (Ve (dsK key t D)) D = false := by
 rw [qm _ _ hD]
 exact decide_eq_false fun h => by have := QgE h; omega
def VB (n : Nat) (key : B32) (t : Tr) (D : Nat) (A : Option Addr) (c : Nat) : Proof := ⟨(((Jg key t D).kind : Nat) : Int), (D : Int), qY n (Jg key t D), Ve (dsK key t D), ⟨A, (dsK key t D).length, c⟩⟩
theorem Qne (n : Nat) (hn : n ≤ 256) (gh gc k : Nat) (hk : k ≤ 1000000000) (h : Zh) [hT : RdZ h (some ⟨1, 0, none⟩) Jd] (t : Tr) (p : Option Addr) [ht : TrZ n h t p] (key : B32) (D : Nat) (hD : WayTo key t D) :
  QC Tryz.prog 50 [.pointer (some ⟨gh, 0, none⟩), .pointer p, .agg key.cells.toArray].toArray [HR gh gc n, .zone false h] [CN gc k] (fun u : Option Addr × Nat => .agg (VB n key t D u.1 u.2).cells.toArray) (fun u => [.own (.slice u.1 (dsK key t D).length u.2) (dsK key t D).length 45 32 (dgs (rsK n key t D)), CN gc k]) := by
 have hle := hD.le
 refine Qk Tryz.func50 rfl (n := 52) rfl rfl ?_
 intro W
 refine yR ?_
 refine Qo (Q9 rfl) fun g5 => ?_
 refine Qo (Q0) fun g6 => ?_
 refine yN ?_
 refine yR ?_
 refine yM rfl ?_
 refine Qb (Qm rfl) ?_
 refine Qh ((QeK n h t p key D hD).comes) rfl rfl rfl fun _ => ?_
 refine yM rfl ?_
 refine Qb (Qj rfl rfl) ?_
 refine Qb (Qj rfl rfl) ?_
 refine yS rfl ?_
 refine yS rfl ?_
 refine yN ?_
 refine yR ?_
 refine yM rfl ?_
 refine Qh ((J3 n h (Jg key t D) (JY h key p D)).comes) rfl rfl rfl fun _ => ?_
 refine yM rfl ?_
 refine yM rfl ?_
 refine Qh ((Vv n h (Jg key t D) (JY h key p D)).comes) rfl rfl rfl fun _ => ?_
 refine Qb (QD rfl) ?_
 refine Qo (Q0) fun g9 => ?_
 refine Q7 (Qw rfl rfl) ?_
 refine yN ?_
 refine yR ?_
 refine Qo (Q0) fun g10 => ?_
 refine yN ?_
 refine Qd ?_
 refine yR ?_
 refine yM rfl ?_
 refine Qb (Qm rfl) ?_
 refine Qh ((Qgz n h t p key D hD).comes) rfl rfl rfl fun ⟨A27, c27⟩ => ?_
 dsimp only
 refine Jq (φ := ∀ i, i < D → ∃ g, A27 = some ⟨g, 0, none⟩) (fun w s i hi => s.ownSome (N := D) (c := c27) (by omega)) fun hA27 => ?_
 refine Qb (QF rfl) ?_
 refine yM rfl ?_
 refine yN ?_
 refine Qq ?_
 refine Ju 45 32 (xs := dgs (rsK n key t 0)) rfl ?_
 change H _ _ _ _ _ (.own (.slice none (dsK key t 0).length 0) (dsK key t 0).length _ _ (dgs (rsK n key t 0)) :: _ :: .blk g10 (Ve (dsK key t 0)).cells _ :: .blk g9 (Proof.cells ⟨(((Jg key t D).kind : Nat) : Int), (D : Int), qY n (Jg key t D), QN, ⟨none, (dsK key t 0).length, 0⟩⟩) _ :: _) _
 refine QS (fun (s : Nat × Option Addr × Nat) => s.1 ≤ D) (fun (s : Nat × Option Addr × Nat) => [(29, .int .i64 (s.1 : Int)), (28, .int .i64 (D : Int)), (27, .slice A27 D c27), (9, .pointer (some ⟨g9, 0, none⟩)), (10, .pointer (some ⟨g10, 0, none⟩)), (0, .pointer (some ⟨gh, 0, none⟩)), (6, .pointer (some ⟨g6, 0, none⟩))]) (fun (s : Nat × Option Addr × Nat) => [.own (.slice s.2.1 (dsK key t s.1).length s.2.2) (dsK key t s.1).length 45 32 (dgs (rsK n key t s.1)), .own (.slice A27 D c27) D 31 1 (qo (VF h key p D)), .blk g10 (Ve (dsK key t s.1)).cells 194, .blk g9 (Proof.cells ⟨(((Jg key t D).kind : Nat) : Int), (D : Int), qY n (Jg key t D), QN, ⟨s.2.1, (dsK key t s.1).length, s.2.2⟩⟩) 63, .blk g6 Jr.cells 63, CN gc k, HR gh gc n, .zone false h]) (fun (s : Nat × Option Addr × Nat) => D - s.1) (0, none, 0) ((show 0 ≤ D from Nat.zero_le _)) ⟨rfl, rfl, rfl, rfl, rfl, rfl, rfl, trivial⟩ (same) ?_
 rintro ⟨i, A, c⟩ hi
 dsimp only at hi ⊢
 refine yR ?_
 refine Qb (QT rfl rfl) ?_
 refine yN ?_
 refine Qd ?_
 refine QU rfl (fun h1 => ?_) (fun h1 => ?_)
 ·have hiD : i < D := by omega
  obtain ⟨b, rfl⟩ := hA27 i hiD
  have hlen := Qn3 key t i
  refine Qn ?_
  refine Qc ?_
  refine Qd ?_
  refine Qq ?_
  refine yR ?_
  refine yM rfl ?_
  refine Qb (QQ rfl rfl) ?_
  refine Qb (QX rfl (Qc6 (Qij h key p hiD))) ?_
  refine yS rfl ?_
  refine yS rfl ?_
  refine yN ?_
  refine yR ?_
  refine yM rfl ?_
  refine Qh ((J3 n h (Y6 key t i) (QcI h key p i)).comes) rfl rfl rfl fun _ => ?_
  refine Qb (QL rfl rfl) ?_
  refine yN ?_
  by_cases h2 : (Y6 key t i).kind ≠ 0
  ·have hlen1 : (dsK key t (i + 1)).length = (dsK key t i).length + 1 := by rw [Zx h2, List.length_append]; rfl
   have hc1 : k + (if (Y6 key t i).kind = 0 then 1 else 0) = k := by rw [if_neg h2]; rfl
   refine Yz rfl ((by omega)) ?_
   refine yR ?_
   refine Qb (Qm rfl) ?_
   refine yM rfl ?_
   refine Qh ((Qp5 (Ve (dsK key t i)) i (by omega) (Qk0 (by omega))).comes) rfl rfl rfl fun _ => ?_
   rw [QiM _ _ (by omega) (fun hm => by have := QgE hm; omega), ← Zx h2]
   refine Q7 (Qw rfl rfl) ?_
   refine yN ?_
   refine Q1 [.blk g9 (Proof.cells ⟨(((Jg key t D).kind : Nat) : Int), (D : Int), qY n (Jg key t D), QN, ⟨A, (dsK key t i).length, c⟩⟩) 63] [] QJ (same) ?_
   refine Qa 0 rfl (Qe rfl) ?_
   refine Qp 1 rfl (Qf rfl) ?_
   refine Qa 2 rfl (Qi rfl) ?_
   refine Qa 3 rfl (Qi rfl) ?_
   refine Qv 4 ?_
   refine QR 4 rfl ((Yq n hn gh gc k (by omega) h (Y6 key t i) (QcI h key p i)).comes) rfl rfl rfl (fun xx => same) fun _ => ?_
   refine Qv 5 ?_
   refine JB 5 rfl (rk (J8 rfl rfl)) (fun _ => same) fun g45 => ?_
   refine Qv 6 ?_
   refine JB 6 rfl (rk (Yo rfl rfl (k := 32))) (fun _ => same) fun ⟨g46, c46⟩ => ?_
   refine Qa 7 rfl (Qe rfl) ?_
   refine Qv 8 ?_
   refine J4 8 rfl (QV rfl rfl rfl) ?_
   refine Q2 ?_
   refine Qc ?_
   rw [← Qo1 n h2, ← hlen1, hc1]
   refine Q5 ?_
   refine Qb (QI rfl rfl) ?_
   refine yM rfl ?_
   refine QE ?_
   exact QH (i + 1, some ⟨g46, 0, none⟩, c46) (by omega) (by omega) ⟨rfl, rfl, rfl, rfl, rfl, rfl, rfl, trivial⟩ (same)
  refine Ys rfl ((by omega)) ?_
  rw [← QgF h2, ← Qqw n h2]
  refine Qn ?_
  refine Q2 ?_
  refine Qc ?_
  refine Q5 ?_
  refine Qb (QI rfl rfl) ?_
  refine yM rfl ?_
  refine QE ?_
  exact QH (i + 1, A, c) (by omega) (by omega) ⟨rfl, rfl, rfl, rfl, rfl, rfl, rfl, trivial⟩ (same)
 obtain rfl : i = D := by omega
 refine QK ?_
 refine Qx ?_
 refine Qx ?_
 refine Q8 ?_
 refine Qc ?_
 refine yR ?_
 refine Qb (Qm rfl) ?_
 refine Qb (Qe rfl) ?_
 refine Q7 (Qw rfl rfl) ?_
 refine yN ?_
 refine yR ?_
 refine Qb (Qm rfl) ?_
 refine Q7 (Qw rfl rfl) ?_
 refine yN ?_
 refine Qs ?_
 exact Qu rfl (QZ rfl) fun w s => ⟨(A, c), rfl, (same w s).res (List.Sublist.refl _) (by simp [Fa.wr])⟩
end
section
open Go.RowKit
def Ye (l : List En) : List Value := l.flatMap fun e => e.e.cells
theorem Qfm (l : List En) : (Ye l).length = l.length * 33 := by
 induction l with
 | nil => rfl
 | cons e l ih =>
  show (e.e.cells ++ Ye l).length = _
  rw [List.length_append, ih, Entry.cells_length, List.length_cons]; omega
theorem qE (l : List En) (e : En) : Ye l ++ e.e.cells = Ye (l ++ [e]) := by unfold Ye; rw [List.flatMap_append]; simp
theorem Zy {l : List En} {k : Nat} {e : En} (h : l[k]? = some e) : ∀ j v, e.e.cells[j]? = some v → (Ye l)[k * 33 + j]? = some v := by
 induction l generalizing k with
 | nil => cases h
 | cons x l ih =>
  intro j v hv
  show (x.e.cells ++ Ye l)[k * 33 + j]? = some v
  cases k with
  | zero =>
   obtain rfl : x = e := by simpa using h
   rw [Nat.zero_mul, Nat.zero_add, List.getElem?_append_left (List.getElem?_eq_some_iff.1 hv).1]
   exact hv
  | succ k =>
   rw [List.getElem?_append_right (by rw [Entry.cells_length]; omega), Entry.cells_length, show (k + 1) * 33 + j - 33 = k * 33 + j by omega]
   exact ih (by simpa using h) j v hv
theorem Qar {l : List En} {k : Nat} {e : En} (h : l[k]? = some e) : ∀ j v, e.key.cells[j]? = some v → (Ye l)[k * 33 + j]? = some v := fun j v hv =>
 Zy h j v (by
  show (e.e.key.cells ++ ([.slice e.e.value.A e.e.value.n e.e.value.c] ++ []))[j]? = some v
  rw [List.getElem?_append_left (List.getElem?_eq_some_iff.1 hv).1]
  exact hv)
theorem QkS {l : List En} {k : Nat} {e : En} (h : l[k]? = some e) : (Ye l)[k * 33 + 32]? = some (.slice e.e.value.A e.e.value.n e.e.value.c) :=
 Zy h 32 _ (by
  show (e.e.key.cells ++ ([.slice e.e.value.A e.e.value.n e.e.value.c] ++ []))[32]? = _
  rw [List.getElem?_append_right (by rw [B32.cells_length]; omega), B32.cells_length]
  rfl)
theorem Qfz {α : Type} {p : α → Bool} {l : List α} {k : Nat} {x : α} (h : l[k]? = some x) (hp : p x = true) : (l.take (k + 1)).filter p = (l.take k).filter p ++ [x] := by
 rw [List.take_add_one, h, Option.toList_some, List.filter_append, List.filter_cons_of_pos hp, List.filter_nil]
theorem QhK {α : Type} {p : α → Bool} {l : List α} {k : Nat} {x : α} (h : l[k]? = some x) (hp : ¬ p x = true) : (l.take (k + 1)).filter p = (l.take k).filter p := by
 rw [List.take_add_one, h, Option.toList_some, List.filter_append, List.filter_cons_of_neg hp, List.filter_nil, List.append_nil]
theorem QpO {l : List En} {k : Nat} (h : k < l.length) : ∃ e, l[k]? = some e := ⟨_, List.getElem?_eq_getElem h⟩
theorem QaM (a b : B32) : QC Tryz.prog 106 [.agg a.cells.toArray, .agg b.cells.toArray].toArray [] [] (fun _ : Unit => .int .i64 (JS a b)) (fun _ => []) := by
 have ha := a.2
 have hb := b.2
 refine Qk Tryz.func106 rfl (n := 24) rfl rfl ?_
 intro W
 refine yR ?_
 refine Qo (Q9 rfl) fun g2 => ?_
 refine Qo (Q9 rfl) fun g3 => ?_
 refine yS rfl ?_
 refine yN ?_
 refine Qd ?_
 refine yR ?_
 refine yS rfl ?_
 refine yN ?_
 refine Qq ?_
 refine QS (fun (k : Nat) => k ≤ 32 ∧ VM (a.1.drop k) (b.1.drop k) = JS a b) (fun (k : Nat) => [(5, .int .i64 (k : Int)), (2, .pointer (some ⟨g2, 0, none⟩)), (3, .pointer (some ⟨g3, 0, none⟩))]) (fun (k : Nat) => [.blk g3 b.cells 34, .blk g2 a.cells 34]) (fun (k : Nat) => 32 - k) 0 (⟨Nat.zero_le _, rfl⟩) ⟨rfl, rfl, rfl, trivial⟩ (same) ?_
 rintro k ⟨hk, hc⟩
 refine Qd ?_
 refine yR ?_
 refine yM rfl ?_
 refine Qb (QT rfl rfl) ?_
 refine yN ?_
 refine QU rfl (fun h => ?_) (fun h => ?_)
 ·have hk32 : k < 32 := by omega
  have e1 : a.1.drop k = a.1.getD k 0 :: a.1.drop (k + 1) := by rw [List.drop_eq_getElem_cons (by omega), List.getD_eq_getElem?_getD, List.getElem?_eq_getElem (by omega), Option.getD_some]
  have e2 : b.1.drop k = b.1.getD k 0 :: b.1.drop (k + 1) := by rw [List.drop_eq_getElem_cons (by omega), List.getD_eq_getElem?_getD, List.getElem?_eq_getElem (by omega), Option.getD_some]
  rw [e1, e2, VM] at hc
  refine Qn ?_
  refine Qc ?_
  refine Qd ?_
  refine Qq ?_
  refine Qd ?_
  refine Qd ?_
  refine Q1 [.blk g3 b.cells 34, .blk g2 a.cells 34] [] QJ (same) ?_
  refine Qa 0 rfl (Qi rfl) ?_
  refine Qa 1 rfl (QP rfl rfl) ?_
  refine Qp 2 rfl (QX rfl (J1 (by omega))) ?_
  refine Qa 3 rfl (Qi rfl) ?_
  refine Qa 4 rfl (QP rfl rfl) ?_
  refine Qp 5 rfl (QX rfl (J1 (by omega))) ?_
  refine Qa 6 rfl (QT rfl rfl) ?_
  refine QB (by kernel_rfl) ?_
  refine Qc ?_
  refine QU rfl (fun h1 => ?_) (fun h1 => ?_)
  ·rw [if_pos (UInt8.lt_iff_toNat_lt.2 (by omega))] at hc
   rw [← hc]
   refine yR ?_
   refine yS rfl ?_
   refine yN ?_
   refine Qs ?_
   refine Qr ?_
   refine Q3 ?_
   refine Qr ?_
   refine Qr ?_
   refine Q3 ?_
   refine Qr ?_
   exact Qu rfl rfl fun w s => ⟨(), rfl, s.res (List.nil_sublist _) (by simp)⟩
  rw [if_neg (fun h => by have := UInt8.lt_iff_toNat_lt.1 h; omega)] at hc
  refine Qn ?_
  refine Qc ?_
  refine Qd ?_
  refine Q1 [.blk g3 b.cells 34, .blk g2 a.cells 34] [] QJ (same) ?_
  refine Qa 0 rfl (Qi rfl) ?_
  refine Qa 1 rfl (QP rfl rfl) ?_
  refine Qp 2 rfl (QX rfl (J1 (by omega))) ?_
  refine Qa 3 rfl (Qi rfl) ?_
  refine Qa 4 rfl (QP rfl rfl) ?_
  refine Qp 5 rfl (QX rfl (J1 (by omega))) ?_
  refine Qa 6 rfl (Jo rfl rfl) ?_
  refine QB (by kernel_rfl) ?_
  refine Qc ?_
  refine QU rfl (fun h2 => ?_) (fun h2 => ?_)
  ·rw [if_pos (UInt8.lt_iff_toNat_lt.2 (by omega))] at hc
   rw [← hc]
   refine yR ?_
   refine yS rfl ?_
   refine yN ?_
   refine Qs ?_
   refine Q3 ?_
   refine Qr ?_
   refine Qr ?_
   refine Q3 ?_
   refine Qr ?_
   exact Qu rfl rfl fun w s => ⟨(), rfl, s.res (List.nil_sublist _) (by simp)⟩
  rw [if_neg (fun h => by have := UInt8.lt_iff_toNat_lt.1 h; omega)] at hc
  refine Qn ?_
  refine Q2 ?_
  refine Qc ?_
  refine Q5 ?_
  refine yM rfl ?_
  refine Qb (QI rfl rfl) ?_
  refine yS rfl ?_
  refine QE ?_
  exact QH (k + 1) (⟨by omega, hc⟩) (by omega) ⟨rfl, rfl, rfl, trivial⟩ (same)
 obtain rfl : k = 32 := by omega
 have : JS a b = 0 := by rw [← hc, List.drop_eq_nil_of_le (by omega), List.drop_eq_nil_of_le (by omega)]; rfl
 rw [this]
 refine QK ?_
 refine Qx ?_
 refine Qx ?_
 refine Q8 ?_
 refine Qc ?_
 refine yR ?_
 refine yS rfl ?_
 refine yN ?_
 refine Qs ?_
 exact Qu rfl rfl fun w s => ⟨(), rfl, s.res (List.nil_sublist _) (by simp)⟩
theorem QbT (m : List En) (B : Option Addr) (c : Nat) (key : B32) (hm : m.length ≤ 100000000) : QC Tryz.prog 81 [.slice B m.length c, .agg key.cells.toArray].toArray [.rd B (Ye m)] [] (fun u : Option Addr × Nat => .slice u.1 (Js m key).length u.2) (fun u => [.own (.slice u.1 (Js m key).length u.2) (Js m key).length 89 33 (Ye (Js m key))]) := by
 refine Qk Tryz.func81 rfl (n := 28) rfl rfl ?_
 intro W
 refine yR ?_
 refine Qo (Q9 rfl) fun g3 => ?_
 refine yS rfl ?_
 refine yN ?_
 refine yR ?_
 refine yS rfl ?_
 refine yN ?_
 refine Qd ?_
 refine yR ?_
 refine yS rfl ?_
 refine yN ?_
 refine Qq ?_
 refine Ju 89 33 (xs := Ye (Js (m.take 0) key)) rfl ?_
 change H _ _ _ _ _ (.own (.slice none (Js (m.take 0) key).length 0) (Js (m.take 0) key).length _ _ _ :: _) _
 refine QS (fun (s : Nat × Option Addr × Nat) => s.1 ≤ m.length) (fun (s : Nat × Option Addr × Nat) => [(6, .int .i64 (s.1 : Int)), (5, .slice s.2.1 (Js (m.take s.1) key).length s.2.2), (0, .slice B m.length c), (3, .pointer (some ⟨g3, 0, none⟩))]) (fun (s : Nat × Option Addr × Nat) => [.own (.slice s.2.1 (Js (m.take s.1) key).length s.2.2) (Js (m.take s.1) key).length 89 33 (Ye (Js (m.take s.1) key)), .blk g3 key.cells 34, .rd B (Ye m)]) (fun (s : Nat × Option Addr × Nat) => m.length - s.1) (0, none, 0) ((show 0 ≤ m.length from Nat.zero_le _)) ⟨rfl, rfl, rfl, rfl, trivial⟩ (same) ?_
 rintro ⟨k, A, c'⟩ hk
 dsimp only at hk ⊢
 have hlen : (Js (m.take k) key).length ≤ m.length := Nat.le_trans (List.length_filter_le _ _) (by rw [List.length_take]; omega)
 refine Qd ?_
 refine yR ?_
 refine yM rfl ?_
 refine yM rfl ?_
 refine Qb (QF rfl) ?_
 refine Qb (QT rfl rfl) ?_
 refine yN ?_
 refine QU rfl (fun h => ?_) (fun h => ?_)
 ·obtain ⟨e, he⟩ := QpO (l := m) (k := k) (by omega)
  refine Jq (φ := ∃ b o, B = some ⟨b, o, none⟩) (fun w s => Rd.some (s.ok (.rd B (Ye m)) (by simp)) (by rw [Qfm]; omega)) ?_
  rintro ⟨bb, o, rfl⟩
  refine Qn ?_
  refine Qc ?_
  refine Qd ?_
  refine Qq ?_
  refine Qd ?_
  refine Q1 [.blk g3 key.cells 34, .rd (some ⟨bb, o, none⟩) (Ye m)] [] QJ (same) ?_
  refine Qa 0 rfl (Qi rfl) ?_
  refine Qa 1 rfl (Qi rfl) ?_
  refine Qa 2 rfl (QQ rfl rfl) ?_
  refine Qa 3 rfl (Qe rfl) ?_
  refine Qp 4 rfl (Jm rfl (out := e.key.cells) (B32.cells_length _) (Qar he)) ?_
  refine Qp 5 rfl (Qm rfl) ?_
  refine Qa 6 rfl (QdD rfl rfl) ?_
  refine QB (by kernel_rfl) ?_
  refine Qc ?_
  refine QU rfl (fun h2 => ?_) (fun h2 => ?_)
  ·have hf : Js (m.take (k + 1)) key = Js (m.take k) key ++ [e] := Qfz he (by simpa using h2)
   have hl : (Js (m.take k) key).length + 1 = (Js (m.take (k + 1)) key).length := by rw [hf, List.length_append]; rfl
   refine Q5 ?_
   refine yM rfl ?_
   refine yM rfl ?_
   refine yM rfl ?_
   refine Qb (QQ rfl rfl) ?_
   refine Qb (Jm rfl (out := e.e.cells) (Entry.cells_length _) (Zy he)) ?_
   refine Qo (J8 rfl rfl) fun g25 => ?_
   refine Qo (Yo rfl rfl (k := 33)) fun ⟨g26, c26⟩ => ?_
   refine yS rfl ?_
   refine QE ?_
   refine Q2 ?_
   refine Qc ?_
   refine Q5 ?_
   refine yM rfl ?_
   refine Qb (QI rfl rfl) ?_
   refine yS rfl ?_
   refine QE ?_
   rw [qE, ← hf, hl]
   exact QH (k + 1, some ⟨g26, 0, none⟩, c26) ((show k + 1 ≤ m.length by omega)) ((show m.length - (k + 1) < m.length - k by omega)) ⟨rfl, rfl, rfl, rfl, trivial⟩ (same)
  have hf : Js (m.take (k + 1)) key = Js (m.take k) key := QhK he (by simpa using h2)
  rw [← hf]
  refine Qn ?_
  refine Q2 ?_
  refine Qc ?_
  refine Q5 ?_
  refine yM rfl ?_
  refine Qb (QI rfl rfl) ?_
  refine yS rfl ?_
  refine QE ?_
  exact QH (k + 1, A, c') ((show k + 1 ≤ m.length by omega)) ((show m.length - (k + 1) < m.length - k by omega)) ⟨rfl, rfl, rfl, rfl, trivial⟩ (same)
 obtain rfl : k = m.length := by omega
 rw [List.take_length]
 refine QK ?_
 refine Qx ?_
 refine Qx ?_
 refine Q8 ?_
 refine Qc ?_
 refine yR ?_
 refine yM rfl ?_
 refine yS rfl ?_
 refine yN ?_
 refine Qs ?_
 exact Qu rfl rfl fun w s => ⟨(A, c'), rfl, (same w s).res (List.Sublist.refl _) (by simp [Fa.wr])⟩
end
section
open Go.RowKit Go.ChangeShapes Go.WideShapes
section
variable {H : Type} {enc : TypeId × Value → H} {w : World} {base : Nat} {spare : Nat → Bool} {held : Bool} {v : Value} {d : DataW H} {ps : List MemPlace} {r : Reach} {b0 : Nat}
theorem Vy : Tryz.prog.cellsOf 35 = 1 := by kernel_rfl
end
end
section
open Go.RowKit
def Jf (l : List UInt8) (o : Nat) : B32 := ⟨(List.range 32).map fun j => l.getD (o + j) 0, by simp⟩
theorem YY {l : List UInt8} {o : Nat} (h : o + 32 ≤ l.length) : l.drop o = (Jf l o).1 ++ l.drop (o + 32) := by
 have e : (Jf l o).1 = (l.drop o).take 32 := by
  apply List.ext_getElem?
  intro j
  show ((List.range 32).map fun j => l.getD (o + j) 0)[j]? = _
  by_cases hj : j < 32
  ·rw [List.getElem?_map, List.getElem?_range hj, List.getElem?_take, if_pos hj, List.getElem?_drop, List.getElem?_eq_getElem (show o + j < l.length by omega)]
   simp only [Option.map_some, List.getD_eq_getElem?_getD]
   rw [List.getElem?_eq_getElem (show o + j < l.length by omega)]
   rfl
  rw [List.getElem?_eq_none (by simp; omega), List.getElem?_take, if_neg hj]
 rw [e, ← List.drop_drop, List.take_append_drop]
structure DP where
 k : Nat
 d : Nat
 lf : Leaf
 bm : B32
 ss : List B32
def DP.pr (p : DP) (A : Option Addr) (c : Nat) : Proof := ⟨(p.k : Int), (p.d : Int), p.lf, p.bm, ⟨A, p.ss.length, c⟩⟩
def qe (l : List UInt8) (base N : Nat) : List B32 := (List.range N).map fun i => Jf l (base + 32 * i)
theorem QcJ (l : List UInt8) (base N : Nat) : (qe l base N).length = N := by simp [qe]
theorem Qb7 (l : List UInt8) (base N : Nat) : qe l base (N + 1) = qe l base N ++ [Jf l (base + 32 * N)] := by unfold qe; rw [List.range_succ, List.map_append]; rfl
abbrev dK (l : List UInt8) : Nat := (l.getD 1 0).toNat
abbrev JL (l : List UInt8) : Nat := 36 + 64 * dK l
def dLf (l : List UInt8) : Leaf := if dK l = 1 then ⟨Jf l 36, Jf l 68⟩ else Yi
def dDP (l : List UInt8) (N : Nat) : DP := ⟨dK l, (l.getD 2 0).toNat * 256 + (l.getD 3 0).toNat, dLf l, Jf l 4, qe l (JL l) N⟩
def Ya (l : List UInt8) : Except Int DP :=
 if l.length < 36 then .error 5 else if l.getD 0 0 ≠ 1 then .error 6 else if 1 < dK l then .error 7 else
 if l.length < JL l ∨ (l.length - JL l) % 32 ≠ 0 ∨ 257 < (l.length - JL l) / 32 then .error 5 else
 if Jk ((dDP l ((l.length - JL l) / 32)).pr none 0) = 0 then .ok (dDP l ((l.length - JL l) / 32)) else .error 5
section
variable {l : List UInt8} (h1 : 36 ≤ l.length) (h2 : l.getD 0 0 = 1) (h3 : dK l ≤ 1)
include h1 h2 h3
theorem Vn (h : l.length < JL l ∨ (l.length - JL l) % 32 ≠ 0 ∨ 257 < (l.length - JL l) / 32) : Ya l = .error 5 := by
 unfold Ya
 rw [if_neg (by omega), if_neg (fun h => h h2), if_neg (by omega), if_pos h]
theorem Qcf {N : Nat} (hN : l.length = JL l + 32 * N) (h7 : N ≤ 257) : Ya l = if Jk ((dDP l N).pr none 0) = 0 then .ok (dDP l N) else .error 5 := by
 have e : (l.length - JL l) / 32 = N := by omega
 unfold Ya
 rw [if_neg (by omega), if_neg (fun h => h h2), if_neg (by omega), if_neg (by omega), e]
end
def Qr7 : Except Int DP → Option Addr × Nat → Value
 | .error e, _ => .tuple #[.agg Jr.cells.toArray, .int .i64 e]
 | .ok p, u => .tuple #[.agg (p.pr u.1 u.2).cells.toArray, .int .i64 0]
def Qr6 : Except Int DP → Option Addr × Nat → List Fa
 | .error _, _ => []
 | .ok p, u => [.own (.slice u.1 p.ss.length u.2) p.ss.length 45 32 (dgs p.ss)]
end
section
open Go.RowKit
def YV (e : En) (r : List En) (k : Nat) (done : Bool) : List En := if done then qv e (r.take k) else r.take k
theorem QlO (e : En) (r : List En) (k : Nat) (done : Bool) : (YV e r k done).length ≤ r.length + 1 := by
 unfold YV
 split
 ·rw [Qcs, List.length_take]; omega
 rw [List.length_take]; omega
def ql (e : En) (r : List En) (k : Nat) (done : Bool) : Prop := if done = true then ∃ f ∈ r.take k, JS e.key f.key < 0 else ∀ f ∈ r.take k, ¬ JS e.key f.key < 0
theorem JD {α : Type} {l : List α} {k : Nat} {x : α} (h : l[k]? = some x) : l.take (k + 1) = l.take k ++ [x] := by rw [List.take_add_one, h]; rfl
theorem Qj4 {e x : En} {r : List En} {k : Nat} (h : r[k]? = some x) (hd : ql e r k true) : YV e r (k + 1) true = YV e r k true ++ [x] ∧ ql e r (k + 1) true := by
 unfold ql at hd ⊢
 rw [if_pos rfl] at hd ⊢
 unfold YV
 rw [if_pos rfl, if_pos rfl, JD h, Qaz hd]
 obtain ⟨f, hf, h2⟩ := hd
 exact ⟨rfl, f, List.mem_append_left _ hf, h2⟩
theorem QlQ {e x : En} {r : List En} {k : Nat} (h : r[k]? = some x) (hd : ql e r k false) (hc : JS e.key x.key < 0) : YV e r (k + 1) true = YV e r k false ++ [e] ++ [x] ∧ ql e r (k + 1) true := by
 unfold ql at hd ⊢
 rw [if_neg (by simp)] at hd
 rw [if_pos rfl]
 unfold YV
 rw [if_pos rfl, if_neg (by simp), JD h, ZK hd hc]
 exact ⟨by simp, x, by simp, hc⟩
theorem QlP {e x : En} {r : List En} {k : Nat} (h : r[k]? = some x) (hd : ql e r k false) (hc : ¬ JS e.key x.key < 0) : YV e r (k + 1) false = YV e r k false ++ [x] ∧ ql e r (k + 1) false := by
 unfold ql at hd ⊢
 rw [if_neg (by simp)] at hd ⊢
 unfold YV
 rw [if_neg (by simp), if_neg (by simp), JD h]
 refine ⟨rfl, fun f hf => ?_⟩
 rcases List.mem_append.1 hf with hf | hf
 ·exact hd f hf
 rw [List.mem_singleton.1 hf]; exact hc
theorem QlN {e : En} {r : List En} {done : Bool} (hd : ql e r r.length done) : qv e r = if done then YV e r r.length true else YV e r r.length false ++ [e] := by
 unfold ql at hd
 unfold YV
 cases done
 ·rw [if_neg (by simp), List.take_length] at hd
  rw [Qds hd]; simp
 simp
theorem Qmh (m : List En) (key : B32) : (Js m key).length ≤ m.length := List.length_filter_le _ _
theorem Qpb (m : List En) (B : Option Addr) (c : Nat) (e : En) (hm : m.length ≤ 10000000) : QC Tryz.prog 80 [.slice B m.length c, .agg e.key.cells.toArray, .slice e.e.value.A e.e.value.n e.e.value.c].toArray [.rd B (Ye m)] [] (fun u : Option Addr × Nat => .slice u.1 (qQ m e).length u.2) (fun u => [.own (.slice u.1 (qQ m e).length u.2) (qQ m e).length 89 33 (Ye (qQ m e))]) := by
 have hrl := Qmh m e.key
 unfold qQ
 refine Qk Tryz.func80 rfl (n := 54) rfl rfl ?_
 intro W
 refine yR ?_
 refine Qo (Q9 rfl) fun g4 => ?_
 refine yS rfl ?_
 refine yN ?_
 refine yR ?_
 refine yS rfl ?_
 refine yN ?_
 refine yR ?_
 refine yS rfl ?_
 refine yN ?_
 refine yR ?_
 refine yM rfl ?_
 refine Qb (Qm rfl) ?_
 refine Qh ((QbT m B c e.key (by omega)).comes) rfl rfl rfl fun ⟨A13, c13⟩ => ?_
 dsimp only
 have hR : QC Tryz.prog 106 [.agg e.key.cells.toArray, .agg e.key.cells.toArray].toArray [] [] (fun _ : Unit => .int .i64 (JS e.key e.key)) (fun _ => []) := QaM e.key e.key
 clear hR
 generalize Js m e.key = r at *
 refine Jq (φ := ∀ i, i < r.length → ∃ g, A13 = some ⟨g, 0, none⟩) (fun w s i hi => s.ownSome (N := r.length) (c := c13) (by omega)) fun hA13 => ?_
 refine yS rfl ?_
 refine yN ?_
 refine Qd ?_
 refine yR ?_
 refine yS rfl ?_
 refine yN ?_
 refine Qq ?_
 refine Ju 89 33 (xs := Ye (YV e r 0 false)) rfl ?_
 change H _ _ _ _ _ (.own (.slice none (YV e r 0 false).length 0) (YV e r 0 false).length _ _ _ :: _) _
 refine QS (fun (s : Nat × Bool × Option Addr × Nat) => s.1 ≤ r.length ∧ ql e r s.1 s.2.1) (fun (s : Nat × Bool × Option Addr × Nat) => [(10, .int .i64 (s.1 : Int)), (8, .bool s.2.1), (7, .slice s.2.2.1 (YV e r s.1 s.2.1).length s.2.2.2), (9, .slice A13 r.length c13), (4, .pointer (some ⟨g4, 0, none⟩)), (2, .slice e.e.value.A e.e.value.n e.e.value.c)]) (fun (s : Nat × Bool × Option Addr × Nat) => [.own (.slice s.2.2.1 (YV e r s.1 s.2.1).length s.2.2.2) (YV e r s.1 s.2.1).length 89 33 (Ye (YV e r s.1 s.2.1)), .own (.slice A13 r.length c13) r.length 89 33 (Ye r), .blk g4 e.key.cells 34]) (fun (s : Nat × Bool × Option Addr × Nat) => r.length - s.1) (0, false, none, 0) ((show 0 ≤ r.length ∧ ql e r 0 false from ⟨Nat.zero_le _, by unfold ql; rw [if_neg (by simp)]; intro f hf; simp at hf⟩)) ⟨rfl, rfl, rfl, rfl, rfl, rfl, trivial⟩ (same) ?_
 rintro ⟨k, done, A, c'⟩ ⟨hk, hd⟩
 dsimp only at hk hd ⊢
 have hlen := QlO e r k done
 refine Qd ?_
 refine yR ?_
 refine yM rfl ?_
 refine yM rfl ?_
 refine Qb (QF rfl) ?_
 refine Qb (QT rfl rfl) ?_
 refine yN ?_
 refine QU rfl (fun h => ?_) (fun h => ?_)
 ·obtain ⟨x, hx⟩ := QpO (l := r) (k := k) (by omega)
  obtain ⟨g, rfl⟩ := hA13 k (by omega)
  rcases done with _ | _
  ·by_cases hc : JS e.key x.key < 0
   ·obtain ⟨hp, hd2⟩ := QlQ hx hd hc
    have hl : (YV e r k false).length + 1 + 1 = (YV e r (k + 1) true).length := by rw [hp]; simp
    refine Qn ?_
    refine Qc ?_
    refine Qd ?_
    refine Qq ?_
    refine Qd ?_
    refine Qd ?_
    refine Q1 [.blk g4 e.key.cells 34, .own (.slice (some ⟨g, 0, none⟩) r.length c13) r.length 89 33 (Ye r)] [] QJ (same) ?_
    refine Qa 0 rfl (Qi rfl) ?_
    refine Qa 1 rfl (Ji rfl) ?_
    refine Qa 2 rfl (Qi rfl) ?_
    refine Qp 3 rfl (Qm rfl) ?_
    refine Qa 4 rfl (Qi rfl) ?_
    refine Qa 5 rfl (Qi rfl) ?_
    refine Qa 6 rfl (QQ rfl rfl) ?_
    refine Qa 7 rfl (Qe rfl) ?_
    refine Qp 8 rfl (Jm rfl (out := x.key.cells) (B32.cells_length _) (Qar hx)) ?_
    refine Qv 9 ?_
    refine QR 9 rfl ((QaM e.key x.key).comes) rfl rfl rfl (fun xx => same) fun _ => ?_
    refine Qa 10 rfl (Ql (QT rfl rfl) (decide_eq_true hc)) ?_
    refine Qa 11 rfl (Qy rfl rfl) ?_
    refine QB (by kernel_rfl) ?_
    refine Qc ?_
    refine Qz rfl ?_
    refine yR ?_
    refine yM rfl ?_
    refine Qb (Qm rfl) ?_
    refine yM rfl ?_
    refine Qb (QD rfl) ?_
    refine Qo (J8 rfl rfl) fun g36 => ?_
    refine Qo (Yo rfl rfl (k := 33)) fun ⟨g37, c37⟩ => ?_
    refine yS rfl ?_
    refine yN ?_
    refine Q5 ?_
    refine yS rfl ?_
    refine yN ?_
    refine Q5 ?_
    refine yM rfl ?_
    refine yM rfl ?_
    refine yM rfl ?_
    refine Qb (QQ rfl rfl) ?_
    refine Qb (Jm rfl (out := x.e.cells) (Entry.cells_length _) (Zy hx)) ?_
    refine Qo (J8 rfl rfl) fun g43 => ?_
    refine Qo (Yo rfl rfl (k := 33)) fun ⟨g44, c44⟩ => ?_
    refine yS rfl ?_
    refine QE ?_
    refine Q2 ?_
    refine Qc ?_
    refine Q5 ?_
    refine yM rfl ?_
    refine Qb (QI rfl rfl) ?_
    refine yS rfl ?_
    refine QE ?_
    rw [show Entry.cells _ = e.e.cells from rfl, qE, qE, ← hp, hl]
    exact QH (k + 1, true, some ⟨g44, 0, none⟩, c44) ((show k + 1 ≤ r.length ∧ ql e r (k + 1) true from ⟨by omega, hd2⟩)) ((show r.length - (k + 1) < r.length - k by omega)) ⟨rfl, rfl, rfl, rfl, rfl, rfl, trivial⟩ (same)
   obtain ⟨hp, hd2⟩ := QlP hx hd hc
   have hl : (YV e r k false).length + 1 = (YV e r (k + 1) false).length := by rw [hp]; simp
   refine Qn ?_
   refine Qc ?_
   refine Qd ?_
   refine Qq ?_
   refine Qd ?_
   refine Qd ?_
   refine Q1 [.blk g4 e.key.cells 34, .own (.slice (some ⟨g, 0, none⟩) r.length c13) r.length 89 33 (Ye r)] [] QJ (same) ?_
   refine Qa 0 rfl (Qi rfl) ?_
   refine Qa 1 rfl (Ji rfl) ?_
   refine Qa 2 rfl (Qi rfl) ?_
   refine Qp 3 rfl (Qm rfl) ?_
   refine Qa 4 rfl (Qi rfl) ?_
   refine Qa 5 rfl (Qi rfl) ?_
   refine Qa 6 rfl (QQ rfl rfl) ?_
   refine Qa 7 rfl (Qe rfl) ?_
   refine Qp 8 rfl (Jm rfl (out := x.key.cells) (B32.cells_length _) (Qar hx)) ?_
   refine Qv 9 ?_
   refine QR 9 rfl ((QaM e.key x.key).comes) rfl rfl rfl (fun xx => same) fun _ => ?_
   refine Qa 10 rfl (Ql (QT rfl rfl) (decide_eq_false hc)) ?_
   refine Qa 11 rfl (Qy rfl rfl) ?_
   refine QB (by kernel_rfl) ?_
   refine Qc ?_
   refine Qt rfl ?_
   refine Qn ?_
   refine Qc ?_
   refine Q5 ?_
   refine yM rfl ?_
   refine yM rfl ?_
   refine yM rfl ?_
   refine Qb (QQ rfl rfl) ?_
   refine Qb (Jm rfl (out := x.e.cells) (Entry.cells_length _) (Zy hx)) ?_
   refine Qo (J8 rfl rfl) fun g43 => ?_
   refine Qo (Yo rfl rfl (k := 33)) fun ⟨g44, c44⟩ => ?_
   refine yS rfl ?_
   refine QE ?_
   refine Q2 ?_
   refine Qc ?_
   refine Q5 ?_
   refine yM rfl ?_
   refine Qb (QI rfl rfl) ?_
   refine yS rfl ?_
   refine QE ?_
   rw [qE, ← hp, hl]
   exact QH (k + 1, false, some ⟨g44, 0, none⟩, c44) ((show k + 1 ≤ r.length ∧ ql e r (k + 1) false from ⟨by omega, hd2⟩)) ((show r.length - (k + 1) < r.length - k by omega)) ⟨rfl, rfl, rfl, rfl, rfl, rfl, trivial⟩ (same)
  obtain ⟨hp, hd2⟩ := Qj4 hx hd
  have hl : (YV e r k true).length + 1 = (YV e r (k + 1) true).length := by rw [hp]; simp
  refine Qn ?_
  refine Qc ?_
  refine Qd ?_
  refine Qq ?_
  refine Qd ?_
  refine Qd ?_
  refine Q1 [.blk g4 e.key.cells 34, .own (.slice (some ⟨g, 0, none⟩) r.length c13) r.length 89 33 (Ye r)] [] QJ (same) ?_
  refine Qa 0 rfl (Qi rfl) ?_
  refine Qa 1 rfl (Ji rfl) ?_
  refine Qa 2 rfl (Qi rfl) ?_
  refine QW 3 rfl ?_
  refine QW 4 rfl ?_
  refine QW 5 rfl ?_
  refine QW 6 rfl ?_
  refine QW 7 rfl ?_
  refine QW 8 rfl ?_
  refine QW 9 rfl ?_
  refine QW 10 rfl ?_
  refine Qa 11 rfl (Qy rfl rfl) ?_
  refine QB (by kernel_rfl) ?_
  refine Qc ?_
  refine Qt rfl ?_
  refine Qn ?_
  refine Qc ?_
  refine Q5 ?_
  refine yM rfl ?_
  refine yM rfl ?_
  refine yM rfl ?_
  refine Qb (QQ rfl rfl) ?_
  refine Qb (Jm rfl (out := x.e.cells) (Entry.cells_length _) (Zy hx)) ?_
  refine Qo (J8 rfl rfl) fun g43 => ?_
  refine Qo (Yo rfl rfl (k := 33)) fun ⟨g44, c44⟩ => ?_
  refine yS rfl ?_
  refine QE ?_
  refine Q2 ?_
  refine Qc ?_
  refine Q5 ?_
  refine yM rfl ?_
  refine Qb (QI rfl rfl) ?_
  refine yS rfl ?_
  refine QE ?_
  rw [qE, ← hp, hl]
  exact QH (k + 1, true, some ⟨g44, 0, none⟩, c44) ((show k + 1 ≤ r.length ∧ ql e r (k + 1) true from ⟨by omega, hd2⟩)) ((show r.length - (k + 1) < r.length - k by omega)) ⟨rfl, rfl, rfl, rfl, rfl, rfl, trivial⟩ (same)
 obtain rfl : k = r.length := by omega
 have hp := QlN hd
 rcases done with _ | _
 ·rw [if_neg (by simp)] at hp
  have hl : (YV e r r.length false).length + 1 = (qv e r).length := by rw [hp]; simp
  refine QK ?_
  refine Qx ?_
  refine Qx ?_
  refine Q8 ?_
  refine Qc ?_
  refine Qd ?_
  refine yR ?_
  refine yM rfl ?_
  refine Qb (Ji rfl) ?_
  refine yN ?_
  refine Qz rfl ?_
  refine Q5 ?_
  refine yM rfl ?_
  refine Qb (Qm rfl) ?_
  refine yM rfl ?_
  refine Qb (QD rfl) ?_
  refine Qo (J8 rfl rfl) fun g51 => ?_
  refine Qo (Yo rfl rfl (k := 33)) fun ⟨g52, c52⟩ => ?_
  refine yS rfl ?_
  refine yN ?_
  refine yR ?_
  refine yM rfl ?_
  refine yS rfl ?_
  refine yN ?_
  refine Qs ?_
  rw [show Entry.cells _ = e.e.cells from rfl, qE, ← hp, hl]
  exact Qu rfl rfl fun w s => ⟨(some ⟨g52, 0, none⟩, c52), rfl, (same w s).res (List.Sublist.refl _) (by simp [Fa.wr])⟩
 rw [if_pos rfl] at hp
 rw [hp]
 refine QK ?_
 refine Qx ?_
 refine Qx ?_
 refine Q8 ?_
 refine Qc ?_
 refine Qd ?_
 refine yR ?_
 refine yM rfl ?_
 refine Qb (Ji rfl) ?_
 refine yN ?_
 refine Qt rfl ?_
 refine Qn ?_
 refine Qc ?_
 refine yR ?_
 refine yM rfl ?_
 refine yS rfl ?_
 refine yN ?_
 refine Qs ?_
 exact Qu rfl rfl fun w s => ⟨(A, c'), rfl, (same w s).res (List.Sublist.refl _) (by simp [Fa.wr])⟩
end
section
open Go.RowKit
def Yr (h : Zh) (m : List En) : Prop := ∀ e ∈ m, SlZ h e.e.value e.val ∧ e.val.length ≤ 10000000
theorem Yr.part {h : Zh} {m : List En} (x : Yr h m) (d : Nat) (b : Bool) : Yr h (part m d b) := fun e he => x e (Yh.1 he).1
theorem Yr.mono {h h' : Zh} (hl : LeZ h h') {m : List En} (x : Yr h m) : Yr h' m := fun e he => ⟨(x e he).1.mono hl, (x e he).2⟩
end
section
open Go.RowKit
theorem Yr.of {h : Zh} {l : List En} (x : Yr h l) : Yr h (ofM l) := fun e he => x e (QnW he)
end
section
open Go.RowKit
def jnK (key : B32) (d : Nat) (x y : Tr) : Tr := if Q4 key d then YG y x else YG x y
def jnC (key : B32) (d : Nat) (x y : Tr) : Nat := if Q4 key d then YF y x else YF x y
theorem QgN (key : B32) (d : Nat) (x y : Tr) : jnC key d x y ≤ 3 := by
 unfold jnC
 split <;> exact Qa1 _ _
theorem Qdu (l r : Tr) : (YG l r).cnt = l.cnt + r.cnt := by
 have key : ∀ t : Tr, t.kind = 0 → t.cnt = 0 := fun t ht => by cases t <;> first | rfl | cases ht
 unfold YG
 split
 ·rename_i h; rw [key l h.1]; omega
 split
 ·rename_i h; rw [key r h.1]; omega
 rfl
theorem Qa0 (key : B32) (d : Nat) (x y : Tr) : (jnK key d x y).cnt = x.cnt + y.cnt := by
 unfold jnK
 split
 ·rw [Qdu]; omega
 rw [Qdu]
theorem Qes (n : Nat) (hn : n ≤ 256) (gh gc k : Nat) (hk : k ≤ 100000000000) (h : Zh) [hT : RdZ h (some ⟨1, 0, none⟩) Jd] (x y : Tr) (p q : Option Addr) [hx : TrZ n h x p] [hy : TrZ n h y q] (key : B32) (d : Nat) (hd : d < 256) (hct : x.cnt + y.cnt ≤ 1000000000000) :
  QC Tryz.prog 217 [.pointer (some ⟨gh, 0, none⟩), .pointer p, .pointer q, .agg key.cells.toArray, .int .i64 (d : Int)].toArray [HR gh gc n] [.zone true h, CN gc k] (fun u : {u : Zh × Option Addr // LeZ h u.1 ∧ TrZ n u.1 (jnK key d x y) u.2} => .pointer u.1.2) (fun u => [.zone true u.1.1, CN gc (k + jnC key d x y)]) := by
 unfold jnK jnC
 refine Qk Tryz.func217 rfl (n := 23) rfl rfl ?_
 intro W
 refine yR ?_
 refine Qo (Q9 rfl) fun g8 => ?_
 refine yS rfl ?_
 refine yN ?_
 refine Qd ?_
 refine yR ?_
 refine Qb (Qm rfl) ?_
 refine yM rfl ?_
 refine Qh ((ZH key d hd).comes) rfl rfl rfl fun _ => ?_
 refine Qb (Ql (QG rfl rfl) (show _ = !Q4 key d by unfold Y2; cases Q4 key d <;> rfl)) ?_
 refine yN ?_
 cases hb : Q4 key d
 ·rw [if_neg (by simp), if_neg (by simp)]
  refine Qz rfl ?_
  refine yR ?_
  refine yM rfl ?_
  refine yM rfl ?_
  refine yM rfl ?_
  refine Qh ((QbS n hn gh gc k hk h x y p q hct).comes) rfl rfl rfl fun ⟨⟨h1, r⟩, hle, ht⟩ => ?_
  dsimp only at hle ht ⊢
  refine yS rfl ?_
  refine yN ?_
  refine Qs ?_
  refine Qr ?_
  exact Qu rfl rfl fun w s => ⟨⟨(h1, r), hle, ht⟩, rfl, (same w s).res (List.Sublist.refl _) (by simp [Fa.wr])⟩
 rw [if_pos rfl, if_pos rfl]
 refine Qt rfl ?_
 refine Qn ?_
 refine Qc ?_
 refine yR ?_
 refine yM rfl ?_
 refine yM rfl ?_
 refine yM rfl ?_
 refine Qh ((QbS n hn gh gc k hk h y x q p (by omega)).comes) rfl rfl rfl fun ⟨⟨h1, r⟩, hle, ht⟩ => ?_
 dsimp only at hle ht ⊢
 refine yS rfl ?_
 refine yN ?_
 refine Qs ?_
 exact Qu rfl rfl fun w s => ⟨⟨(h1, r), hle, ht⟩, rfl, (same w s).res (List.Sublist.refl _) (by simp [Fa.wr])⟩
def upN (key : B32) (d : Nat) : Nat → Tr → Tr
 | 0, t => t
 | j + 1, t => upN key d j (jnK key (d + j) t .nil)
def qV : Tr → B32
 | .leaf k _ => k
 | _ => QN
def Qa9 (a b : Tr) (d : Nat) : Tr := upN (qV a) d (Jc (qV a) (qV b) - d) (jnK (qV a) (Jc (qV a) (qV b)) a b)
theorem Qdz (n : Nat) (t : Tr) : (qY n t).key = qV t := by cases t <;> rfl
theorem Qp2 (n : Nat) (hn : n ≤ 256) (gh gc k : Nat) (hk : k ≤ 10000000000) (h : Zh) [hT : RdZ h (some ⟨1, 0, none⟩) Jd] (a b : Tr) (p q : Option Addr) [ha : TrZ n h a p] [hb : TrZ n h b q] (d : Nat) (hd : d ≤ 256) (hc : Jc (qV a) (qV b) < 256) (hdc : d ≤ Jc (qV a) (qV b)) (hct : a.cnt + b.cnt ≤ 1000000000) :
  QC Tryz.prog 218 [.pointer (some ⟨gh, 0, none⟩), .pointer p, .pointer q, .int .i64 (d : Int)].toArray [HR gh gc n] [.zone true h, CN gc k] (fun u : {u : Zh × Option Addr × Nat // LeZ h u.1 ∧ TrZ n u.1 (Qa9 a b d) u.2.1 ∧ u.2.2 ≤ k + 771} => .pointer u.1.2.1) (fun u => [.zone true u.1.1, CN gc u.1.2.2]) := by
 unfold Qa9
 refine Qk Tryz.func218 rfl (n := 40) rfl rfl ?_
 intro W
 refine yR ?_
 refine yS rfl ?_
 refine yN ?_
 refine yR ?_
 refine yM rfl ?_
 refine Qh ((Vv n h a p).comes) rfl rfl rfl fun _ => ?_
 refine Qb (QbC (YC rfl) (show _ = Value.agg (qV a).cells.toArray by rw [← Qdz n a])) ?_
 refine Qo (Q0) fun g9 => ?_
 refine Q7 (Qw rfl rfl) ?_
 refine yN ?_
 refine Qd ?_
 refine Q1 [.blk g9 (qV a).cells 34] [] QJ (same) ?_
 refine Qp 0 rfl (Qm rfl) ?_
 refine Qa 1 rfl (Qi rfl) ?_
 refine Qv 2 ?_
 refine QR 2 rfl ((Vv n h b q).comes) rfl rfl rfl (fun xx => same) fun _ => ?_
 refine Qa 3 rfl (QbC (YC rfl) (show _ = Value.agg (qV b).cells.toArray by rw [← Qdz n b])) ?_
 refine Qv 4 ?_
 refine QR 4 rfl ((QbQ (qV a) (qV b)).comes) rfl rfl rfl (fun xx => same) fun _ => ?_
 refine Qa 5 rfl (Q6 rfl) ?_
 refine QB (by kernel_rfl) ?_
 refine Qc ?_
 generalize Jc (qV a) (qV b) = c at *
 generalize qV a = key at *
 refine yR ?_
 refine yM rfl ?_
 refine yM rfl ?_
 refine yM rfl ?_
 refine Qb (Qm rfl) ?_
 refine yM rfl ?_
 refine Qh ((Qes n hn gh gc k (by omega) h a b p q key c hc (by omega)).comes) rfl rfl rfl fun ⟨⟨h1, q1⟩, hle1, ht1⟩ => ?_
 dsimp only at hle1 ht1 ⊢
 have hc1 := QgN key c a b
 have hn1 := Qa0 key c a b
 generalize jnK key c a b = t1 at *
 have hk1 : k + jnC key c a b ≤ k + 3 := by omega
 generalize k + jnC key c a b = k1 at *
 refine yS rfl ?_
 refine yN ?_
 refine Qd ?_
 refine yR ?_
 refine yM rfl ?_
 refine Qb (YQ rfl rfl) ?_
 refine yS rfl ?_
 refine yN ?_
 refine Qq ?_
 obtain ⟨J, rfl⟩ : ∃ J, c = d + J := ⟨c - d, by omega⟩
 rw [show d + J - d = J by omega]
 refine QS (fun (s : Nat × Zh × Option Addr × Tr × Nat) => s.1 ≤ J ∧ LeZ h1 s.2.1 ∧ TrZ n s.2.1 s.2.2.2.1 s.2.2.1 ∧ upN key d s.1 s.2.2.2.1 = upN key d J t1 ∧ s.2.2.2.1.cnt ≤ 1000000000 ∧ s.2.2.2.2 ≤ k + 3 + 3 * (J - s.1)) (fun (s : Nat × Zh × Option Addr × Tr × Nat) => [(12, .int .i64 ((d + s.1 : Nat) - 1 : Int)), (11, .pointer s.2.2.1), (9, .pointer (some ⟨g9, 0, none⟩)), (3, .int .i64 (d : Int)), (0, .pointer (some ⟨gh, 0, none⟩))]) (fun (s : Nat × Zh × Option Addr × Tr × Nat) => [.zone true s.2.1, CN gc s.2.2.2.2, .blk g9 key.cells 34, HR gh gc n]) (fun (s : Nat × Zh × Option Addr × Tr × Nat) => s.1) (J, h1, q1, t1, k1) (⟨Nat.le_refl _, LeZ.refl h1, ht1, rfl, by dsimp only; omega, by dsimp only; omega⟩) ⟨rfl, rfl, rfl, rfl, rfl, trivial⟩ (same) ?_
 rintro ⟨j, h2, q2, t2, k2⟩ ⟨hj, hle2, ht2, hup, hcn, hk2⟩
 dsimp only at hj hle2 ht2 hup hcn hk2 ⊢
 refine Qd ?_
 refine yR ?_
 refine yM rfl ?_
 refine yM rfl ?_
 refine Qb (Vb rfl rfl) ?_
 refine yN ?_
 refine QU rfl (fun hlt => ?_) (fun hlt => ?_)
 ·obtain ⟨i, rfl⟩ : ∃ i, j = i + 1 := ⟨j - 1, by omega⟩
  have hT2 : RdZ h2 (some ⟨1, 0, none⟩) Jd := (hT.mono hle1).mono hle2
  refine h_E (E' := [(12, .int .i64 ((d + i : Nat) : Int)), (11, .pointer q2), (9, .pointer (some ⟨g9, 0, none⟩)), (3, .int .i64 (d : Int)), (0, .pointer (some ⟨gh, 0, none⟩))]) ⟨aI rfl (by omega), rfl, rfl, rfl, rfl, trivial⟩ ?_
  have hn3 := Qa0 key (d + i) t2 .nil
  have hc3 := QgN key (d + i) t2 .nil
  have hz : Tr.nil.cnt = 0 := rfl
  refine Qn ?_
  refine Qc ?_
  refine Qd ?_
  refine Qq ?_
  refine Q5 ?_
  refine yM rfl ?_
  refine yM rfl ?_
  refine Qb (Qm rfl) ?_
  refine yM rfl ?_
  refine Qh ((Qes n hn gh gc k2 (by omega) h2 t2 .nil q2 none key (d + i) (by omega) (by omega)).comes) rfl rfl rfl fun ⟨⟨h3, q3⟩, hle3, ht3⟩ => ?_
  dsimp only at hle3 ht3 ⊢
  refine yS rfl ?_
  refine QE ?_
  refine Q2 ?_
  refine Qc ?_
  refine Q5 ?_
  refine yM rfl ?_
  refine Qb (YQ rfl rfl) ?_
  refine yS rfl ?_
  refine QE ?_
  exact QH (i, h3, q3, jnK key (d + i) t2 .nil, k2 + jnC key (d + i) t2 .nil) (⟨by dsimp only; omega, hle2.trans hle3, ht3, hup, by dsimp only; omega, by dsimp only; omega⟩) ((show i < i + 1 by omega)) ⟨aI rfl (by omega), rfl, rfl, rfl, rfl, trivial⟩ (same)
 obtain rfl : j = 0 := by omega
 have hup' : t2 = upN key d J t1 := hup
 rw [← hup']
 refine QK ?_
 refine Qx ?_
 refine Qx ?_
 refine Q8 ?_
 refine Qc ?_
 refine yR ?_
 refine yM rfl ?_
 refine yS rfl ?_
 refine yN ?_
 refine Qs ?_
 exact Qu rfl rfl fun w s => ⟨⟨(h2, q2, k2), hle1.trans hle2, ht2, by dsimp only; omega⟩, rfl, (same (L' := [.zone true h2, CN gc k2]) w s).res (List.Sublist.refl _) (by simp [Fa.wr])⟩
theorem QeD (A : Option Addr) (N c : Nat) : QC Tryz.prog 216 [.slice A N c].toArray [] [] (fun g : Nat => .func (.func 257) #[] [.pointer (some ⟨g, 0, none⟩)].toArray) (fun g => [.blk g [.slice A N c] 195]) := by
 refine Qk Tryz.func216 rfl (n := 4) rfl rfl ?_
 intro W
 refine yR ?_
 refine Qo (JW rfl) fun g1 => ?_
 refine yS rfl ?_
 refine yN ?_
 refine yR ?_
 refine Qb (Y1 rfl rfl) ?_
 refine yS rfl ?_
 refine yN ?_
 refine Qs ?_
 exact Qu rfl rfl fun w s => ⟨g1, rfl, s.res (List.Sublist.refl _) (by simp [Fa.wr])⟩
theorem QdM (ps : List (Option Addr)) (A : Option Addr) (c g1 : Nat) (hA : ∀ i, i < ps.length → ∃ g, A = some ⟨g, 0, none⟩) (hl : ps.length ≤ 1000000) : QeJ Tryz.prog 257 [.pointer (some ⟨g1, 0, none⟩)] [.rd (some ⟨g1, 0, none⟩) [.slice A ps.length c], .rd A (qo ps)] [] ps.length (fun k (_ : Unit) => [.int .i64 ((ps.length - 1 - k : Nat) : Int), .pointer (ps.getD (ps.length - 1 - k) none)]) (fun _ _ => []) [] := by
 refine Qcv Tryz.func257 rfl (n := 19) rfl rfl ?_
 intro l J Rm m0 W hJw hRm hy h0
 refine yR ?_
 refine Qb (Qf rfl) ?_
 refine Qb (QF rfl) ?_
 refine Qb (YQ rfl rfl) ?_
 refine yS rfl ?_
 refine yN ?_
 refine Qq ?_
 refine QS (fun (s : Nat × List Fa) => s.1 ≤ ps.length ∧ J s.1 s.2) (fun (s : Nat × List Fa) => [(3, .int .i64 ((ps.length : Int) - 1 - (s.1 : Int))), (0, .func (.yield l) #[] #[]), (1, .pointer (some ⟨g1, 0, none⟩))]) (fun (s : Nat × List Fa) => .rd (some ⟨g1, 0, none⟩) [.slice A ps.length c] :: .rd A (qo ps) :: (s.2 ++ Rm)) (fun (s : Nat × List Fa) => ps.length - s.1) (0, m0) ((show 0 ≤ ps.length ∧ J 0 m0 from ⟨by omega, h0⟩)) ⟨aI rfl (by dsimp only; omega), rfl, rfl, trivial⟩ (fun _ s => s) ?_
 rintro ⟨k, mm⟩ ⟨hk, hJ⟩
 dsimp only at hk hJ ⊢
 refine Qd ?_
 refine yR ?_
 refine yM rfl ?_
 refine Qb (Vb rfl rfl) ?_
 refine yN ?_
 refine QU rfl (fun h => ?_) (fun h => ?_)
 ·have hk2 : k < ps.length := by omega
  obtain ⟨g, rfl⟩ := hA k hk2
  have hget : ps[ps.length - 1 - k]? = some (ps.getD (ps.length - 1 - k) none) := by rw [List.getD_eq_getElem?_getD, List.getElem?_eq_getElem (by omega), Option.getD_some]
  refine h_E (E' := [(3, .int .i64 ((ps.length - 1 - k : Nat) : Int)), (0, .func (.yield l) #[] #[]), (1, .pointer (some ⟨g1, 0, none⟩))]) ⟨aI rfl (by omega), rfl, rfl, trivial⟩ ?_
  refine Qn ?_
  refine Qc ?_
  refine Qd ?_
  refine Qq ?_
  refine yR ?_
  refine yM rfl ?_
  refine yM rfl ?_
  refine Qb (Qf rfl) ?_
  refine yM rfl ?_
  refine Qb (QQ rfl rfl) ?_
  refine Qb (QX rfl (Qc6 hget)) ?_
  refine Zz (hy k () mm hk2 hJ) hRm rfl rfl fun m' hJ' => ?_
  refine Qb (Ji rfl) ?_
  refine yN ?_
  refine Qt rfl ?_
  refine Qn ?_
  refine Q2 ?_
  refine Qc ?_
  refine Q5 ?_
  refine yM rfl ?_
  refine Qb (YQ rfl rfl) ?_
  refine yS rfl ?_
  refine QE ?_
  exact QH (k + 1, m') ((show k + 1 ≤ ps.length ∧ J (k + 1) m' from ⟨by omega, hJ'⟩)) ((show ps.length - (k + 1) < ps.length - k by omega)) ⟨aI rfl (by omega), rfl, rfl, trivial⟩ (fun _ s => s)
 obtain rfl : k = ps.length := by omega
 refine QK ?_
 refine Qx ?_
 refine Qx ?_
 refine Q8 ?_
 refine ZJ ?_
 exact Vg rfl fun w s => ⟨_, mm, rfl, hJ, s.res (((List.sublist_append_left _ _).cons _).cons _) (hJw _ _ hJ)⟩
def upD (key : B32) (t : Tr) : Nat → Tr → Tr
 | 0, x => x
 | D + 1, x => upD key t D (jnK key D x (Y6 key t D))
def Qc7 (key : B32) (v : List UInt8) (t : Tr) (D : Nat) : Tr :=
 upD key t D (match Jg key t D with
  | .leaf k' v' => if k' = key then .leaf key v else Qa9 (.leaf k' v') (.leaf key v) D
  | _ => .leaf key v)
theorem QcM (key : B32) (t : Tr) : ∀ i, (Jg key t i).cnt ≤ t.cnt
 | 0 => Nat.le_refl _
 | i + 1 => by
  refine Nat.le_trans ?_ (QcM key t i)
  show ((Jg key t i).sub _).cnt ≤ _
  generalize Jg key t i = x
  cases x <;> cases Q4 key i <;> simp [Tr.sub, Tr.cnt]
theorem QoB (key : B32) (t : Tr) (i : Nat) : (Jg key t (i + 1)).cnt + (Y6 key t i).cnt ≤ (Jg key t i).cnt := by
 show ((Jg key t i).sub _).cnt + ((Jg key t i).sub _).cnt ≤ _
 generalize Jg key t i = x
 cases x <;> cases Q4 key i <;> simp [Tr.sub, Tr.cnt] <;> omega
theorem Qq0 (n : Nat) (hn : n ≤ 256) (gh gc k : Nat) (hk : k ≤ 1000000000) (h h0 : Zh) [hle0 : LeZ h0 h] [hT : RdZ h (some ⟨1, 0, none⟩) Jd] (t : Tr) (p : Option Addr) [ht : TrZ n h0 t p] (key : B32) (sl : Sl) (D : Nat) (hD : WayTo key t D) (x : Tr) (q : Option Addr) [hx : TrZ n h x q] (hct : x.cnt ≤ 1000000 ∧ t.cnt ≤ 1000000) (A : Option Addr) (c g9 g4 g6 g7 : Nat) (hA : ∀ i, i < D → ∃ g, A = some ⟨g, 0, none⟩) :
  QC Tryz.prog 215 [.pointer q, .pointer (some ⟨g9, 0, none⟩), .pointer (some ⟨g4, 0, none⟩), .pointer (some ⟨g6, 0, none⟩), .pointer (some ⟨g7, 0, none⟩)].toArray [.rd (some ⟨g9, 0, none⟩) [.slice A D c], .rd A (qo (VF h0 key p D)), .rd (some ⟨g4, 0, none⟩) [.pointer (some ⟨gh, 0, none⟩)], .rd (some ⟨g6, 0, none⟩) (Entry.cells ⟨key, sl⟩), .rd (some ⟨g7, 0, none⟩) [.int .i64 0], HR gh gc n] [.zone true h, CN gc k]
   (fun u : {u : Zh × Option Addr × Nat // LeZ h u.1 ∧ TrZ n u.1 (upD key t D x) u.2.1 ∧ u.2.2 ≤ k + 768} => .pointer u.1.2.1) (fun u => [.zone true u.1.1, CN gc u.1.2.2]) := by
 have hle := hD.le
 have hsl := Qm7 h0 key p D
 refine Qk Tryz.func215 rfl (n := 23) rfl rfl ?_
 intro W
 refine yR ?_
 refine Qo (JW rfl) fun g5 => ?_
 refine yS rfl ?_
 refine yN ?_
 refine Qd ?_
 refine yR ?_
 refine Qb (Qf rfl) ?_
 refine Qh ((QeD A D c).comes) rfl rfl rfl fun g10 => ?_
 refine yN ?_
 refine Qq ?_
 have hit := QdM (VF h0 key p D) A c g10 (by rw [hsl]; exact hA) (by omega)
 rw [hsl] at hit
 refine Qax hit rfl (fun k' mm => ∃ (h1 : Zh) (q1 : Option Addr) (y : Tr) (kk : Nat), mm = [.zone true h1, CN gc kk, .blk g5 [.pointer q1] 31] ∧ LeZ h h1 ∧ TrZ n h1 y q1 ∧ upD key t (D - k') y = upD key t D x ∧ kk ≤ k + 3 * k' ∧ y.cnt ≤ 1000000 * (k' + 1)) [.zone true h, CN gc k, .blk g5 [.pointer q] 31] [.rd (some ⟨g4, 0, none⟩) [.pointer (some ⟨gh, 0, none⟩)], .rd (some ⟨g6, 0, none⟩) (Entry.cells ⟨key, sl⟩), .rd (some ⟨g7, 0, none⟩) [.int .i64 0], HR gh gc n] (by rintro k' mm ⟨h1, q1, y, kk, rfl, _⟩ f hf; simp only [List.mem_cons, List.not_mem_nil, or_false] at hf; rcases hf with rfl | rfl | rfl <;> rfl) ⟨h, q, x, k, rfl, LeZ.refl h, hx, rfl, by omega, by omega⟩ rfl (fun _ _ => rfl) ?_ ?_
 ·intro ll rr k' _ mm W1 hr hrp hkN hJ2
  obtain ⟨h1, q1, y, kk, rfl, hle1, hy1, hup, hkk, hcy⟩ := hJ2
  simp only [List.nil_append, List.cons_append]
  have hT1 : RdZ h1 (some ⟨1, 0, none⟩) Jd := hT.mono hle1
  have hle01 : LeZ h0 h1 := hle0.trans hle1
  obtain ⟨i, hi⟩ : ∃ i, D - k' = i + 1 := ⟨D - k' - 1, by omega⟩
  have hi2 : D - 1 - k' = i := by omega
  have hg : (VF h0 key p D).getD i none = QcI h0 key p i := by rw [List.getD_eq_getElem?_getD, Qij h0 key p (by omega), Option.getD_some]
  rw [hi2, hg]
  rw [hi, upD] at hup
  have hs1 := QoB key t i
  have hs2 := QcM key t i
  have hn1 := Qa0 key i y (Y6 key t i)
  have hc1 := QgN key i y (Y6 key t i)
  have hsz : TrZ n h1 (Y6 key t i) (QcI h0 key p i) := ⟨((QaH ht.ok key i).sub _).mono hle01⟩
  refine yR ?_
  refine yS rfl ?_
  refine yN ?_
  refine Q5 ?_
  refine yS rfl ?_
  refine yN ?_
  refine YN hr ?_
  refine Qq ?_
  refine Q5 ?_
  refine Qb (Qf rfl) ?_
  refine Qb (Qf rfl) ?_
  refine yM rfl ?_
  refine Qb (Qe rfl) ?_
  refine Qb (Qm rfl) ?_
  refine Qb (Qf rfl) ?_
  refine yM rfl ?_
  refine Qb (Jv (QI rfl rfl) (show _ = (i : Int) by omega)) ?_
  refine Qh ((Qes n hn gh gc kk (by omega) h1 y (Y6 key t i) q1 (QcI h0 key p i) key i (by omega) (by omega)).comes) rfl rfl rfl fun ⟨⟨h2, q2⟩, hle2, ht2⟩ => ?_
  dsimp only at hle2 ht2 ⊢
  refine Q7 (QV rfl rfl rfl) ?_
  refine QE ?_
  refine Q2 ?_
  exact JH [.zone true h2, CN gc (kk + jnC key i y (Y6 key t i)), .blk g5 [.pointer q2] 31] hr hrp ⟨h2, q2, jnK key i y (Y6 key t i), _, rfl, hle1.trans hle2, ht2, by rw [show D - (k' + 1) = i by omega]; exact hup, by omega, by omega⟩ (by intro f hf; simp only [List.mem_cons, List.not_mem_nil, or_false] at hf; rcases hf with rfl | rfl | rfl <;> rfl)
 intro bb mm hJ2
 obtain ⟨h1, q1, y, kk, rfl, hle1, hy1, hup, hkk, hcy⟩ := hJ2
 rw [Nat.sub_self] at hup
 refine Q2 ?_
 refine Qc ?_
 simp only [List.nil_append, List.cons_append]
 refine yR ?_
 refine Qb (Qf rfl) ?_
 refine yS rfl ?_
 refine yN ?_
 refine Qs ?_
 refine Vf ?_
 have hup' : y = upD key t D x := hup
 exact Qu rfl rfl fun w s => ⟨⟨(h1, q1, kk), hle1, by rw [← hup']; exact hy1, by dsimp only; omega⟩, rfl, (same (L' := [.zone true h1, CN gc kk]) w s).res (List.Sublist.refl _) (by simp [Fa.wr])⟩
end
section
open Go.RowKit
theorem QaU {a b : B32} (h : a ≠ b) : Jc a b < 256 := by
 rcases Nat.lt_or_ge (Jc a b) 256 with h1 | h1
 ·exact h1
 refine (h ?_).elim
 apply YJ
 intro i hi
 unfold Jc at h1
 cases hf : (List.range 256).find? (fun i => Q4 a i ^^ Q4 b i) with
 | none =>
  have := List.find?_eq_none.1 hf i (by simpa using hi)
  simpa using this
 | some m =>
  rw [hf] at h1
  have := List.mem_range.1 (List.mem_of_find?_eq_some hf)
  simp at h1
  omega
def Qkc (key : B32) (t : Tr) (D : Nat) : Prop := ∀ k' v', Jg key t D = .leaf k' v' → k' ≠ key → D ≤ Jc k' key
theorem Qiq (key : B32) (d : Nat) : ∀ (j : Nat) (x : Tr), (upN key d j x).cnt = x.cnt
 | 0, _ => rfl
 | j + 1, x => by rw [upN, Qiq key d j, Qa0]; rfl
theorem Ql0 (n : Nat) (t : Tr) (h : t.kind ≠ 1) : qY n t = Yi := by cases t <;> first | rfl | exact (h rfl).elim
theorem QqP (n : Nat) (hn : n ≤ 256) (gh gc k : Nat) (hk : k ≤ 100000000) (h : Zh) [hT : RdZ h (some ⟨1, 0, none⟩) Jd] (t : Tr) (p : Option Addr) [ht : TrZ n h t p] (key : B32) (s : Sl) (b : List UInt8) [hs : SlZ h s b] (hb : b.length ≤ 100000000) (D : Nat) (hD : WayTo key t D) (hE : Qkc key t D) (hct : t.cnt ≤ 100000) :
  QC Tryz.prog 142 [.pointer (some ⟨gh, 0, none⟩), .pointer p, .agg (Entry.cells ⟨key, s⟩).toArray, .int .i64 0].toArray [HR gh gc n] [.zone true h, CN gc k]
   (fun u : {u : Zh × Option Addr × Nat // LeZ h u.1 ∧ TrZ n u.1 (Qc7 key b t D) u.2.1 ∧ u.2.2 ≤ k + 1600} => .pointer u.1.2.1) (fun u => [.zone true u.1.1, CN gc u.1.2.2]) := by
 have hle := hD.le
 have hwc := QcM key t D
 refine Qk Tryz.func142 rfl (n := 59) rfl rfl ?_
 intro W
 refine yR ?_
 refine Qo (JW rfl) fun g4 => ?_
 refine Qo (Q9 rfl) fun g6 => ?_
 refine Qo (JW rfl) fun g7 => ?_
 refine yS rfl ?_
 refine yN ?_
 refine yR ?_
 refine Qo (Q0) fun g9 => ?_
 refine yN ?_
 refine yR ?_
 refine Qb (Qf rfl) ?_
 refine yS rfl ?_
 refine yN ?_
 refine Qd ?_
 refine Qq ?_
 refine Ju 31 1 (xs := qo (VF h key p 0)) rfl ?_
 refine QS (fun (s' : Nat × Option Addr × Nat) => s'.1 ≤ D) (fun (s' : Nat × Option Addr × Nat) => [(10, .int .i64 (s'.1 : Int)), (1, .pointer (JY h key p s'.1)), (9, .pointer (some ⟨g9, 0, none⟩)), (4, .pointer (some ⟨g4, 0, none⟩)), (6, .pointer (some ⟨g6, 0, none⟩)), (7, .pointer (some ⟨g7, 0, none⟩))]) (fun (s' : Nat × Option Addr × Nat) => [.own (.slice s'.2.1 s'.1 s'.2.2) s'.1 31 1 (qo (VF h key p s'.1)), .blk g9 [.slice s'.2.1 s'.1 s'.2.2] 195, .blk g6 (Entry.cells ⟨key, s⟩) 89, .blk g4 [.pointer (some ⟨gh, 0, none⟩)] 56, .blk g7 [.int .i64 0] 3, .zone true h, CN gc k, HR gh gc n]) (fun (s' : Nat × Option Addr × Nat) => D + 1 - s'.1) (0, none, 0) ((show 0 ≤ D from Nat.zero_le _)) ⟨rfl, rfl, rfl, rfl, rfl, rfl, trivial⟩ (same) ?_
 rintro ⟨i, A, c⟩ hi
 dsimp only at hi ⊢
 refine Qd ?_
 refine yR ?_
 refine yM rfl ?_
 refine Qh ((J3 n h (Jg key t i) (JY h key p i)).comes) rfl rfl rfl fun _ => ?_
 refine Qb (QG rfl rfl) ?_
 refine yN ?_
 by_cases hk2 : (Jg key t i).kind = 2
 ·have hiD : i < D := by
   rcases Nat.lt_or_ge i D with h1 | h1
   ·exact h1
   obtain rfl : i = D := by omega
   exact (hD.end_ hk2).elim
  refine Yz rfl ((by omega)) ?_
  refine Qn ?_
  refine Qc ?_
  refine Qd ?_
  refine Qq ?_
  refine yR ?_
  refine Qb (Qe rfl) ?_
  refine Qb (Qm rfl) ?_
  refine yM rfl ?_
  refine Qh ((ZH key i (by omega)).comes) rfl rfl rfl fun _ => ?_
  refine yS rfl ?_
  refine yN ?_
  refine Qd ?_
  refine Q1 [.blk g9 [.slice A i c] 195] [] QJ (same) ?_
  refine Qp 0 rfl (Qf rfl) ?_
  refine Qa 1 rfl (Qi rfl) ?_
  refine Qa 2 rfl (Qi rfl) ?_
  refine Qa 3 rfl (YQ rfl rfl (by have := Qh3 key i; omega)) ?_
  refine Qv 4 ?_
  refine QR 4 rfl ((Zt n h (Jg key t i) (JY h key p i) _ (!Q4 key i) (QeS key i)).comes) rfl rfl rfl (fun xx => same) fun _ => ?_
  refine Qv 5 ?_
  refine JB 5 rfl (rk (J8 rfl rfl)) (fun _ => same) fun g29 => ?_
  refine Qv 6 ?_
  refine JB 6 rfl (rk (Yo rfl rfl)) (fun _ => same) fun ⟨g30, c30⟩ => ?_
  refine Qv 7 ?_
  refine J4 7 rfl (QV rfl rfl rfl) ?_
  refine Qc ?_
  have e := QdJ h key p i
  unfold QcI at e
  rw [e]
  refine Q5 ?_
  refine yM rfl ?_
  refine yM rfl ?_
  refine Qh ((Zt n h (Jg key t i) (JY h key p i) _ (Q4 key i) (Qde key i)).comes) rfl rfl rfl fun _ => ?_
  refine yS rfl ?_
  refine QE ?_
  refine Q2 ?_
  refine Qc ?_
  refine Q5 ?_
  refine yM rfl ?_
  refine Qb (QI rfl rfl) ?_
  refine yS rfl ?_
  refine QE ?_
  exact QH (i + 1, some ⟨g30, 0, none⟩, c30) ((show i + 1 ≤ D by omega)) ((show D + 1 - (i + 1) < D + 1 - i by omega)) ⟨rfl, rfl, rfl, rfl, rfl, rfl, trivial⟩ (same)
 have hiD : i = D := by
  rcases Nat.lt_or_ge i D with h1 | h1
  ·exact (hk2 (hD.on i h1)).elim
  omega
 subst hiD
 refine Ys rfl ((by omega)) ?_
 refine Jq (φ := ∀ j, j < i → ∃ g, A = some ⟨g, 0, none⟩) (fun w s' j hj => s'.ownSome (N := i) (c := c) (by omega)) fun hA => ?_
 refine QK ?_
 refine Qx ?_
 refine Qx ?_
 refine Q8 ?_
 refine Qc ?_
 refine yR ?_
 refine Qb (Y1 rfl rfl) ?_
 refine yS rfl ?_
 refine yN ?_
 refine yR ?_
 refine Qb (Qf rfl) ?_
 refine Qb (Qm rfl) ?_
 refine Qh ((QcZ n hn gh gc k (by omega) h key s b (by omega)).comes) rfl rfl rfl fun ⟨⟨h1, p1⟩, hle1, ht1⟩ => ?_
 dsimp only at hle1 ht1 ⊢
 have hT1 : RdZ h1 (some ⟨1, 0, none⟩) Jd := hT.mono hle1
 have hlc : (Tr.leaf key b).cnt = 1 := rfl
 by_cases h0 : (Jg key t i).kind = 0
 ·have hput : Qc7 key b t i = upD key t i (.leaf key b) := by
   unfold Qc7
   cases hw : Jg key t i <;> rw [hw] at h0 <;> first | rfl | cases h0
  rw [hput]
  refine yS rfl ?_
  refine yN ?_
  refine Qd ?_
  refine Qd ?_
  refine Q1 [.blk g6 (Entry.cells ⟨key, s⟩) 89] [] QJ (same) ?_
  refine Qa 0 rfl (Qi rfl) ?_
  refine Qv 1 ?_
  refine QR 1 rfl ((J3 n h1 (Jg key t i) (JY h key p i)).comes) rfl rfl rfl (fun xx => same) fun _ => ?_
  refine Qa 2 rfl (Ql (QG rfl rfl) (decide_eq_true (by omega))) ?_
  refine Qa 3 rfl (Qi rfl) ?_
  refine QW 4 rfl ?_
  refine QW 5 rfl ?_
  refine QW 6 rfl ?_
  refine QW 7 rfl ?_
  refine QW 8 rfl ?_
  refine QW 9 rfl ?_
  refine Qa 10 rfl (Qy rfl rfl) ?_
  refine QB (by kernel_rfl) ?_
  refine Qc ?_
  refine Qz rfl ?_
  refine yR ?_
  refine yM rfl ?_
  refine yM rfl ?_
  refine Qh ((Qq0 n hn gh gc (k + 2) (by omega) h1 h t p key s i hD (.leaf key b) p1 ⟨by omega, by omega⟩ A c g9 g4 g6 g7 hA).comes) rfl rfl rfl fun ⟨⟨h2, q2, k2⟩, hle2, ht2, hk2'⟩ => ?_
  dsimp only at hle2 ht2 hk2' ⊢
  refine yS rfl ?_
  refine yN ?_
  refine Qs ?_
  refine Qr ?_
  exact Qu rfl rfl fun w s' => ⟨⟨(h2, q2, k2), hle1.trans hle2, ht2, by dsimp only; omega⟩, rfl, (same (L' := [.zone true h2, CN gc k2]) w s').res (List.Sublist.refl _) (by simp [Fa.wr])⟩
 obtain ⟨k', v', hw⟩ : ∃ k' v', Jg key t i = .leaf k' v' := by
  cases hw : Jg key t i with
  | nil => rw [hw] at h0; exact (h0 rfl).elim
  | leaf k' v' => exact ⟨k', v', rfl⟩
  | node l r => rw [hw] at hk2; exact (hk2 rfl).elim
 have hlf : qY n (Jg key t i) = Y0 n k' v' := by rw [hw]; rfl
 by_cases heq : k' = key
 ·have hput : Qc7 key b t i = upD key t i (.leaf key b) := by
   unfold Qc7
   rw [hw]
   simp only [if_pos heq]
  rw [hput]
  refine yS rfl ?_
  refine yN ?_
  refine Qd ?_
  refine Qd ?_
  refine Q1 [.blk g6 (Entry.cells ⟨key, s⟩) 89] [] QJ (same) ?_
  refine Qa 0 rfl (Qi rfl) ?_
  refine Qv 1 ?_
  refine QR 1 rfl ((J3 n h1 (Jg key t i) (JY h key p i)).comes) rfl rfl rfl (fun xx => same) fun _ => ?_
  refine Qa 2 rfl (Ql (QG rfl rfl) (decide_eq_false (by omega))) ?_
  refine Qa 3 rfl (Qi rfl) ?_
  refine Qa 4 rfl (Qi rfl) ?_
  refine Qa 7 rfl (Qe rfl) ?_
  refine Qp 8 rfl (Qm rfl) ?_
  refine Qv 5 ?_
  refine QR 5 rfl ((Vv n h1 (Jg key t i) (JY h key p i)).comes) rfl rfl rfl (fun xx => same) fun _ => ?_
  refine Qa 6 rfl (QbC (YC rfl) (show _ = Value.agg k'.cells.toArray by rw [hlf]; rfl)) ?_
  refine Qa 9 rfl (Ql (ZL rfl rfl) (decide_eq_true heq)) ?_
  refine Qa 10 rfl (Qy rfl rfl) ?_
  refine QB (by kernel_rfl) ?_
  refine Qc ?_
  refine Qz rfl ?_
  refine yR ?_
  refine yM rfl ?_
  refine yM rfl ?_
  refine Qh ((Qq0 n hn gh gc (k + 2) (by omega) h1 h t p key s i hD (.leaf key b) p1 ⟨by omega, by omega⟩ A c g9 g4 g6 g7 hA).comes) rfl rfl rfl fun ⟨⟨h2, q2, k2⟩, hle2, ht2, hk2'⟩ => ?_
  dsimp only at hle2 ht2 hk2' ⊢
  refine yS rfl ?_
  refine yN ?_
  refine Qs ?_
  refine Qr ?_
  exact Qu rfl rfl fun w s' => ⟨⟨(h2, q2, k2), hle1.trans hle2, ht2, by dsimp only; omega⟩, rfl, (same (L' := [.zone true h2, CN gc k2]) w s').res (List.Sublist.refl _) (by simp [Fa.wr])⟩
 have hput : Qc7 key b t i = upD key t i (Qa9 (Jg key t i) (.leaf key b) i) := by
  unfold Qc7
  rw [hw]
  simp only [if_neg heq]
 have hkt : qV (Jg key t i) = k' := by rw [hw]; rfl
 have hcm : Jc (qV (Jg key t i)) (qV (.leaf key b)) = Jc k' key := by rw [hkt]; rfl
 have hcl := QaU heq
 have hcd := hE k' v' hw heq
 have hpc : (Qa9 (Jg key t i) (.leaf key b) i).cnt ≤ 1000000 := by
  unfold Qa9
  rw [Qiq, Qa0]
  omega
 rw [hput]
 refine yS rfl ?_
 refine yN ?_
 refine Qd ?_
 refine Qd ?_
 refine Q1 [.blk g6 (Entry.cells ⟨key, s⟩) 89] [] QJ (same) ?_
 refine Qa 0 rfl (Qi rfl) ?_
 refine Qv 1 ?_
 refine QR 1 rfl ((J3 n h1 (Jg key t i) (JY h key p i)).comes) rfl rfl rfl (fun xx => same) fun _ => ?_
 refine Qa 2 rfl (Ql (QG rfl rfl) (decide_eq_false (by omega))) ?_
 refine Qa 3 rfl (Qi rfl) ?_
 refine Qa 4 rfl (Qi rfl) ?_
 refine Qa 7 rfl (Qe rfl) ?_
 refine Qp 8 rfl (Qm rfl) ?_
 refine Qv 5 ?_
 refine QR 5 rfl ((Vv n h1 (Jg key t i) (JY h key p i)).comes) rfl rfl rfl (fun xx => same) fun _ => ?_
 refine Qa 6 rfl (QbC (YC rfl) (show _ = Value.agg k'.cells.toArray by rw [hlf]; rfl)) ?_
 refine Qa 9 rfl (Ql (ZL rfl rfl) (decide_eq_false heq)) ?_
 refine Qa 10 rfl (Qy rfl rfl) ?_
 refine QB (by kernel_rfl) ?_
 refine Qc ?_
 refine Qt rfl ?_
 refine Qn ?_
 refine Qc ?_
 refine yR ?_
 refine yM rfl ?_
 refine Qb (Qf rfl) ?_
 refine yM rfl ?_
 refine yM rfl ?_
 refine yM rfl ?_
 refine Qh ((Qp2 n hn gh gc (k + 2) (by omega) h1 (Jg key t i) (.leaf key b) (JY h key p i) p1 i (by omega) (by omega) (by omega) (by omega)).comes) rfl rfl rfl fun ⟨⟨h2, q2, k2⟩, hle2, ht2, hk2'⟩ => ?_
 dsimp only at hle2 ht2 hk2' ⊢
 have hT2 : RdZ h2 (some ⟨1, 0, none⟩) Jd := hT1.mono hle2
 have hl02 : LeZ h h2 := hle1.trans hle2
 refine Qh ((Qq0 n hn gh gc k2 (by omega) h2 h t p key s i hD (Qa9 (Jg key t i) (.leaf key b) i) q2 ⟨hpc, by omega⟩ A c g9 g4 g6 g7 hA).comes) rfl rfl rfl fun ⟨⟨h3, q3, k3⟩, hle3, ht3, hk3'⟩ => ?_
 dsimp only at hle3 ht3 hk3' ⊢
 refine yS rfl ?_
 refine yN ?_
 refine Qs ?_
 exact Qu rfl rfl fun w s' => ⟨⟨(h3, q3, k3), hl02.trans hle3, ht3, by dsimp only; omega⟩, rfl, (same (L' := [.zone true h3, CN gc k3]) w s').res (List.Sublist.refl _) (by simp [Fa.wr])⟩
theorem Qp1 (n : Nat) (hn : n ≤ 256) (gh gc k : Nat) (hk : k ≤ 100000000) (h : Zh) [hT : RdZ h (some ⟨1, 0, none⟩) Jd] (t : Tr) (p : Option Addr) [ht : TrZ n h t p] (key : B32) (s : Sl) (b : List UInt8) [hs : SlZ h s b] (hb : b.length ≤ 100000000) (D : Nat) (hD : WayTo key t D) (hE : Qkc key t D) (hct : t.cnt ≤ 100000) :
  QC Tryz.prog 85 [.pointer (some ⟨gh, 0, none⟩), .pointer p, .agg (Entry.cells ⟨key, s⟩).toArray].toArray [HR gh gc n] [.zone true h, CN gc k]
   (fun u : {u : Zh × Option Addr × Nat // LeZ h u.1 ∧ TrZ n u.1 (Qc7 key b t D) u.2.1 ∧ u.2.2 ≤ k + 1600} => .pointer u.1.2.1) (fun u => [.zone true u.1.1, CN gc u.1.2.2]) := by
 refine Qk Tryz.func85 rfl (n := 11) rfl rfl ?_
 intro W
 refine yR ?_
 refine Qo (Q9 rfl) fun g5 => ?_
 refine yS rfl ?_
 refine yN ?_
 refine yR ?_
 refine yM rfl ?_
 refine yM rfl ?_
 refine Qb (Qm rfl) ?_
 refine Qh ((QqP n hn gh gc k hk h t p key s b hb D hD hE hct).comes) rfl rfl rfl fun ⟨⟨h1, q1, k1⟩, hle1, ht1, hk1⟩ => ?_
 dsimp only at hle1 ht1 hk1 ⊢
 refine yS rfl ?_
 refine yN ?_
 refine Qs ?_
 exact Qu rfl rfl fun w s => ⟨⟨(h1, q1, k1), hle1, ht1, hk1⟩, rfl, (same (L' := [.zone true h1, CN gc k1]) w s).res (List.Sublist.refl _) (by simp [Fa.wr])⟩
end
section
open Go.RowKit
end
section
open Go.RowKit
def qt (p : Proof) (key val : B32) (present : Bool) : Bool := if present = true then decide (p.kind = 1 ∧ p.leaf = ⟨key, val⟩) else if p.kind = 1 then decide (p.leaf.key ≠ key ∧ p.depth ≤ (Jc p.leaf.key key : Int)) else decide (p.kind = 0)
theorem QbU (p : Proof) (key val : B32) (present : Bool) : QC Tryz.prog 192 [.agg p.cells.toArray, .agg key.cells.toArray, .agg val.cells.toArray, .bool present].toArray [] [] (fun _ : Unit => .bool (qt p key val present)) (fun _ => []) := by
 unfold qt
 refine Qk Tryz.func192 rfl (n := 44) rfl rfl ?_
 intro W
 rcases present with _ | _
 ·rw [if_neg (by simp)]
  by_cases h1 : p.kind = 1
  ·rw [if_pos h1]
   by_cases h2 : p.leaf.key = key
   ·rw [decide_eq_false (show ¬ (p.leaf.key ≠ key ∧ p.depth ≤ (Jc p.leaf.key key : Int)) from fun e => e.1 h2)]
    refine yR ?_
    refine Qo (Q9 rfl) fun g4 => ?_
    refine Qo (Q9 rfl) fun g5 => ?_
    refine Qo (Q9 rfl) fun g6 => ?_
    refine yS rfl ?_
    refine yN ?_
    refine Qd ?_
    refine Qq ?_
    refine yR ?_
    refine yM rfl ?_
    refine yS rfl ?_
    refine yN ?_
    refine Qt rfl ?_
    refine yR ?_
    refine Qb (Qe rfl) ?_
    refine Qb (Qf rfl) ?_
    refine Qb (QG rfl rfl) ?_
    refine yS rfl ?_
    refine yN ?_
    refine Yz rfl (h1) ?_
    refine Qd ?_
    refine Q1 [.blk g4 p.cells 63, .blk g5 key.cells 34] [] QJ (same) ?_
    refine Qa 0 rfl (Qe rfl) ?_
    refine Qa 1 rfl (Qe rfl) ?_
    refine Qp 2 rfl (Qm rfl) ?_
    refine Qp 3 rfl (Qm rfl) ?_
    refine Qa 4 rfl (Ql (QdD rfl rfl) (decide_eq_false (fun e => e h2))) ?_
    refine Qa 5 rfl (Qi rfl) ?_
    refine QW 6 rfl ?_
    refine QW 7 rfl ?_
    refine QW 8 rfl ?_
    refine QW 9 rfl ?_
    refine QW 10 rfl ?_
    refine QW 11 rfl ?_
    refine QW 12 rfl ?_
    refine QW 13 rfl ?_
    refine Qa 14 rfl (Qy rfl rfl) ?_
    refine Qa 15 rfl (Q6 rfl) ?_
    refine QB (by kernel_rfl) ?_
    refine Qc ?_
    refine Qs ?_
    refine Q3 ?_
    refine Qr ?_
    exact Qu rfl rfl fun w s => ⟨(), rfl, s.res (List.nil_sublist _) (by simp)⟩
   refine Qd ?_
   refine Q5 ?_
   refine Qo (Q9 rfl) fun g4 => ?_
   refine Qo (Q9 rfl) fun g5 => ?_
   refine Qo (Q9 rfl) fun g6 => ?_
   refine yS rfl ?_
   refine yN ?_
   refine Qd ?_
   refine Qq ?_
   refine yR ?_
   refine yM rfl ?_
   refine yS rfl ?_
   refine yN ?_
   refine Qt rfl ?_
   refine yR ?_
   refine Qb (Qe rfl) ?_
   refine Qb (Qf rfl) ?_
   refine Qb (QG rfl rfl) ?_
   refine yS rfl ?_
   refine yN ?_
   refine Yz rfl (h1) ?_
   refine Qd ?_
   refine Q1 [.blk g4 p.cells 63, .blk g5 key.cells 34] [] QJ (same) ?_
   refine Qa 0 rfl (Qe rfl) ?_
   refine Qa 1 rfl (Qe rfl) ?_
   refine Qp 2 rfl (Qm rfl) ?_
   refine Qp 3 rfl (Qm rfl) ?_
   refine Qa 4 rfl (Ql (QdD rfl rfl) (decide_eq_true h2)) ?_
   refine Qa 5 rfl (Qi rfl) ?_
   refine Qa 6 rfl (Qe rfl) ?_
   refine Qa 7 rfl (Qe rfl) ?_
   refine Qp 8 rfl (Qm rfl) ?_
   refine Qp 9 rfl (Qm rfl) ?_
   refine Qa 11 rfl (Qe rfl) ?_
   refine Qp 12 rfl (Qf rfl) ?_
   refine Qv 10 ?_
   refine QR 10 rfl ((QbQ p.leaf.key key).comes) rfl rfl rfl (fun xx => same) fun _ => ?_
   refine Qa 13 rfl (Vb rfl rfl) ?_
   refine Qa 14 rfl (Qy rfl rfl) ?_
   refine Qa 15 rfl (Q6 rfl) ?_
   refine QB (by kernel_rfl) ?_
   refine Qc ?_
   refine Qs ?_
   refine Q3 ?_
   refine Qr ?_
   exact Qu rfl rfl fun w s => ⟨(), by simp [h2], s.res (List.nil_sublist _) (by simp)⟩
  rw [if_neg h1]
  refine yR ?_
  refine Qo (Q9 rfl) fun g4 => ?_
  refine Qo (Q9 rfl) fun g5 => ?_
  refine Qo (Q9 rfl) fun g6 => ?_
  refine yS rfl ?_
  refine yN ?_
  refine Qd ?_
  refine Qq ?_
  refine yR ?_
  refine yM rfl ?_
  refine yS rfl ?_
  refine yN ?_
  refine Qt rfl ?_
  refine yR ?_
  refine Qb (Qe rfl) ?_
  refine Qb (Qf rfl) ?_
  refine Qb (QG rfl rfl) ?_
  refine yS rfl ?_
  refine yN ?_
  refine Ys rfl (h1) ?_
  refine Qn ?_
  refine Q2 ?_
  refine Qc ?_
  refine yR ?_
  refine Qb (Qe rfl) ?_
  refine Qb (Qf rfl) ?_
  refine Qb (QG rfl rfl) ?_
  refine yS rfl ?_
  refine yN ?_
  refine Qs ?_
  exact Qu rfl rfl fun w s => ⟨(), rfl, s.res (List.nil_sublist _) (by simp)⟩
 rw [if_pos rfl]
 by_cases h1 : p.kind = 1
 ·refine Qd ?_
  refine Q5 ?_
  refine Qo (Q9 rfl) fun g4 => ?_
  refine Qo (Q9 rfl) fun g5 => ?_
  refine Qo (Q9 rfl) fun g6 => ?_
  refine yS rfl ?_
  refine yN ?_
  refine Qd ?_
  refine Qq ?_
  refine yR ?_
  refine yM rfl ?_
  refine yS rfl ?_
  refine yN ?_
  refine Qz rfl ?_
  refine yR ?_
  refine Qb (Qe rfl) ?_
  refine Qb (Qf rfl) ?_
  refine Qb (Ql (QG rfl rfl) (decide_eq_true h1)) ?_
  refine yM rfl ?_
  refine Qb (Qe rfl) ?_
  refine Qb (Qm rfl) ?_
  refine Qb (Qm rfl) ?_
  refine Qb (Qm rfl) ?_
  refine Qb (QD rfl) ?_
  refine Qb (ZL rfl rfl) ?_
  refine Qb (Qy rfl rfl) ?_
  refine yS rfl ?_
  refine yN ?_
  refine Qs ?_
  refine Q3 ?_
  refine Qr ?_
  exact Qu rfl rfl fun w s => ⟨(), by simp [h1], s.res (List.nil_sublist _) (by simp)⟩
 rw [decide_eq_false (show ¬ (p.kind = 1 ∧ p.leaf = ⟨key, val⟩) from fun e => h1 e.1)]
 refine yR ?_
 refine Qo (Q9 rfl) fun g4 => ?_
 refine Qo (Q9 rfl) fun g5 => ?_
 refine Qo (Q9 rfl) fun g6 => ?_
 refine yS rfl ?_
 refine yN ?_
 refine Qd ?_
 refine Qq ?_
 refine yR ?_
 refine yM rfl ?_
 refine yS rfl ?_
 refine yN ?_
 refine Qz rfl ?_
 refine yR ?_
 refine Qb (Qe rfl) ?_
 refine Qb (Qf rfl) ?_
 refine Qb (Ql (QG rfl rfl) (decide_eq_false h1)) ?_
 refine yM rfl ?_
 refine Qg ?_
 refine Qg ?_
 refine Qg ?_
 refine Qg ?_
 refine Qg ?_
 refine Qg ?_
 refine Qb (Qy rfl rfl) ?_
 refine yS rfl ?_
 refine yN ?_
 refine Qs ?_
 refine Q3 ?_
 refine Qr ?_
 exact Qu rfl rfl fun w s => ⟨(), rfl, s.res (List.nil_sublist _) (by simp)⟩
end
end Go.Proofs.YtjhlbbgikccclaaGreatDoor
