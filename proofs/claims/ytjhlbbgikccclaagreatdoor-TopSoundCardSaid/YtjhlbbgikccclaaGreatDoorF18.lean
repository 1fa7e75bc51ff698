/- joined texts -/
import Derived.Test.YtjhlbbgikccclaaGreatDoorF17
set_option linter.all false
namespace Go.Proofs.YtjhlbbgikccclaaGreatDoor
section
open Go.RowKit
theorem VC (a b : Sl) (han : a.n ≤ 1000000000) : QC Tryz.prog 37 [.slice a.A a.n a.c, .slice b.A b.n b.c].toArray [] [] (fun _ : Unit => .int .i64 (JP a.n b.n)) (fun _ => []) := by
 unfold JP
 by_cases h1 : a.n = 32
 ·rw [if_pos h1]
  by_cases h2 : 65535 < b.n
  ·rw [if_pos h2]
   refine Qk Tryz.func37 rfl (n := 11) rfl rfl ?_
   intro W
   refine yR ?_
   refine yS rfl ?_
   refine yN ?_
   refine Qd ?_
   refine yR ?_
   refine yM rfl ?_
   refine Qb (QF rfl) ?_
   refine Qb (Ql (QL rfl rfl) (decide_eq_false (show ¬ ¬ ((a.n : Nat) : Int) = 32 by omega))) ?_
   refine yN ?_
   refine Qt rfl ?_
   refine Qn ?_
   refine Qc ?_
   refine Qd ?_
   refine yR ?_
   refine yM rfl ?_
   refine Qb (QF rfl) ?_
   refine Qb (Ql (Jo rfl rfl) (decide_eq_true (by omega))) ?_
   refine yN ?_
   refine Qz rfl ?_
   refine yR ?_
   refine yS rfl ?_
   refine yN ?_
   refine Qs ?_
   refine Qr ?_
   exact Qu rfl rfl fun w s => ⟨(), rfl, s.res (List.nil_sublist _) (by simp)⟩
  rw [if_neg h2]
  refine Qk Tryz.func37 rfl (n := 11) rfl rfl ?_
  intro W
  refine yR ?_
  refine yS rfl ?_
  refine yN ?_
  refine Qd ?_
  refine yR ?_
  refine yM rfl ?_
  refine Qb (QF rfl) ?_
  refine Qb (Ql (QL rfl rfl) (decide_eq_false (show ¬ ¬ ((a.n : Nat) : Int) = 32 by omega))) ?_
  refine yN ?_
  refine Qt rfl ?_
  refine Qn ?_
  refine Qc ?_
  refine Qd ?_
  refine yR ?_
  refine yM rfl ?_
  refine Qb (QF rfl) ?_
  refine Qb (Ql (Jo rfl rfl) (decide_eq_false (by omega))) ?_
  refine yN ?_
  refine Qt rfl ?_
  refine Qn ?_
  refine Qc ?_
  refine yR ?_
  refine yS rfl ?_
  refine yN ?_
  refine Qs ?_
  exact Qu rfl rfl fun w s => ⟨(), rfl, s.res (List.nil_sublist _) (by simp)⟩
 rw [if_neg h1]
 refine Qk Tryz.func37 rfl (n := 11) rfl rfl ?_
 intro W
 refine yR ?_
 refine yS rfl ?_
 refine yN ?_
 refine Qd ?_
 refine yR ?_
 refine yM rfl ?_
 refine Qb (QF rfl) ?_
 refine Qb (Ql (QL rfl rfl) (decide_eq_true (show ¬ ((a.n : Nat) : Int) = 32 by omega))) ?_
 refine yN ?_
 refine Qz rfl ?_
 refine yR ?_
 refine yS rfl ?_
 refine yN ?_
 refine Qs ?_
 refine Qr ?_
 exact Qu rfl rfl fun w s => ⟨(), rfl, s.res (List.nil_sublist _) (by simp)⟩
def Qr4 : Option (Nat × Int) → Value
 | none => .tuple #[.int .i64 0, .int .i64 0]
 | some (i, e) => .tuple #[.int .i64 (i : Int), .int .i64 e]
theorem Qm2 {l : List CB} {i : Nat} (h : ∀ j, j < i → (l.getD j zCB).kb ≠ (l.getD i zCB).kb) (hi : i ≤ l.length) : (l.take i).any (fun y => decide (y.kb = (l.getD i zCB).kb)) = false := by
 rw [Bool.eq_false_iff]
 intro ht
 obtain ⟨y, hy, he⟩ := List.any_eq_true.1 ht
 obtain ⟨j, hj, hyj⟩ := List.getElem_of_mem hy
 rw [List.length_take] at hj
 refine h j (by omega) ?_
 rw [List.getElem_take] at hyj
 rw [List.getD_eq_getElem?_getD, List.getElem?_eq_getElem (by omega), Option.getD_some, hyj]
 exact of_decide_eq_true he
theorem QjI {l : List CB} {i j : Nat} (hj : j < i) (hi : i < l.length) (h : (l.getD j zCB).kb = (l.getD i zCB).kb) : (l.take i).any (fun y => decide (y.kb = (l.getD i zCB).kb)) = true := by
 refine List.any_eq_true.2 ⟨l.getD j zCB, ?_, decide_eq_true h⟩
 rw [List.getD_eq_getElem?_getD, List.getElem?_eq_getElem (by omega), Option.getD_some]
 exact List.mem_take_iff_getElem.2 ⟨j, by omega, rfl⟩
theorem QdB (h : Zh) (l : List CB) (A : Option Addr) (c : Nat) [hr : RdZ h A (cbs l)] (hz : ZN h l) (hl : l.length ≤ 1000000) (hkl : ∀ x ∈ l, x.kb.length ≤ 100000000) (r : Option (Nat × Int)) (hR : YK l = r) : QC Tryz.prog 82 [.slice A l.length c].toArray [.zone false h] [] (fun _ : Unit => Qr4 r) (fun _ => []) := by
 refine Qk Tryz.func82 rfl (n := 52) rfl rfl ?_
 intro W
 refine yR ?_
 refine yS rfl ?_
 refine yS rfl ?_
 refine yN ?_
 refine Qd ?_
 refine yR ?_
 refine yS rfl ?_
 refine yN ?_
 refine Qq ?_
 refine QS (fun (i : Nat) => i ≤ l.length ∧ ∀ j, j < i → YU l j = 0) (fun (i : Nat) => [(4, .int .i64 (i : Int)), (0, .slice A l.length c)]) (fun (i : Nat) => [.zone false h]) (fun (i : Nat) => l.length - i) 0 (⟨Nat.zero_le _, fun j hj => absurd hj (Nat.not_lt_zero j)⟩) ⟨rfl, rfl, trivial⟩ (same) ?_
 rintro i ⟨hi, hzz⟩
 refine Qd ?_
 refine yR ?_
 refine yM rfl ?_
 refine yM rfl ?_
 refine Qb (QF rfl) ?_
 refine Qb (QT rfl rfl) ?_
 refine yN ?_
 refine QU rfl (fun hlt => ?_) (fun hlt => ?_)
 ·have hi2 : i < l.length := by omega
  have hx := Jz zCB hi2
  obtain ⟨b, o, rfl, -⟩ := hr.at_ (i * 3) _ (JM hx 0 _ rfl)
  have hsome := JF (YU l) i
  have hz0 : ∀ j, 0 ≤ j → j < i → YU l j = 0 := fun j _ hj => hzz j hj
  have hR2 : YU l i ≠ 0 → YK l = some (i, YU l i) := fun hne => hsome hne l.length 0 (Nat.zero_le _) (by omega) hz0
  have hnx : YU l i = 0 → ∀ j, j < i + 1 → YU l j = 0 := fun he j hj => by
   rcases Nat.lt_or_ge j i with h9 | h9
   ·exact hzz j h9
   obtain rfl : j = i := by omega
   exact he
  have hE1 := fun h0 => Qfp (l := l) (i := i) h0
  have hE2 : qU (l.getD i zCB) = 0 → YU l i = if (l.take i).any (fun y => decide (y.kb = (l.getD i zCB).kb)) then 9 else 0 := fun h0 => by unfold YU; rw [if_pos h0]
  have hS0 := fun hh => Qm2 (l := l) (i := i) hh (by omega)
  have hS1 := fun (j : Nat) (hj : j < i) => QjI hj hi2
  have hzx := hz.get hi2
  have hkx := hkl (l.getD i zCB) (List.mem_of_getElem? hx)
  generalize l.getD i zCB = x at *
  have hzk : SlZ h x.c.key x.kb := hzx.1
  have hkn := hzk.len
  have hvn := Qpr hzx.2
  have hRi := VC x.c.key (vsU x) (by omega)
  have hen : JP x.c.key.n (vsU x).n = qU x := by unfold qU; rw [hvn, hkn]
  rw [hen] at hRi
  refine Qn ?_
  refine Qc ?_
  refine Qd ?_
  refine Qq ?_
  refine yR ?_
  refine yM rfl ?_
  refine yM rfl ?_
  refine Qb (QQ rfl rfl) ?_
  refine Qb (Qe rfl (O' := o + (i * 3 + 1)) (by omega)) ?_
  refine Qb (QX rfl (JM hx 1 _ rfl)) ?_
  refine yS rfl ?_
  refine yN ?_
  refine Qd ?_
  refine yR ?_
  refine yM rfl ?_
  refine yM rfl ?_
  refine Qb (QQ rfl rfl) ?_
  refine Qb (Qe rfl (O' := o + (i * 3 + 2)) (by omega)) ?_
  refine Qb (QX rfl (JM hx 2 _ rfl)) ?_
  refine yN ?_
  cases hp : x.c.present
  ·rw [show vsU x = x.c.value by unfold vsU; rw [hp]; rfl] at *
   refine Qt rfl ?_
   refine Qn ?_
   refine Qc ?_
   refine yR ?_
   refine yM rfl ?_
   refine yM rfl ?_
   refine Qb (QQ rfl rfl) ?_
   refine Qb (Qe rfl (O' := o + (i * 3 + 0)) (by omega)) ?_
   refine Qb (QX rfl (JM hx 0 _ rfl)) ?_
   refine yM rfl ?_
   refine Qh (hRi.comes) rfl rfl rfl fun _ => ?_
   by_cases h0 : qU x = 0
   ·rw [h0]
    have hE3 := hE2 h0
    refine yS rfl ?_
    refine yN ?_
    refine Qd ?_
    refine yR ?_
    refine yM rfl ?_
    refine Qb (QL rfl rfl) ?_
    refine yN ?_
    refine Qt rfl ?_
    refine Qn ?_
    refine Qc ?_
    refine yR ?_
    refine yS rfl ?_
    refine yN ?_
    refine Qq ?_
    refine QS (fun (j : Nat) => j ≤ i ∧ ∀ q, q < j → (l.getD q zCB).kb ≠ x.kb) (fun (j : Nat) => [(7, .int .i64 (j : Int)), (4, .int .i64 (i : Int)), (0, .slice (some ⟨b, o, none⟩) l.length c)]) (fun (j : Nat) => [.zone false h]) (fun (j : Nat) => i - j) 0 (⟨Nat.zero_le _, fun q hq => absurd hq (Nat.not_lt_zero q)⟩) ⟨rfl, rfl, rfl, trivial⟩ (same) ?_
    rintro j ⟨hj, hjj⟩
    refine Qd ?_
    refine yR ?_
    refine yM rfl ?_
    refine yM rfl ?_
    refine Qb (QT rfl rfl) ?_
    refine yN ?_
    refine QU rfl (fun hjl => ?_) (fun hjl => ?_)
    ·have hj2 : j < i := by omega
     have hy := Jz zCB (l := l) (k := j) (by omega)
     have hzy := hz.get (k := j) (by omega)
     have hky := hkl (l.getD j zCB) (List.mem_of_getElem? hy)
     have hS2 := hS1 j hj2
     have hnj : (l.getD j zCB).kb ≠ x.kb → ∀ q, q < j + 1 → (l.getD q zCB).kb ≠ x.kb := fun he q hq => by
      rcases Nat.lt_or_ge q j with h9 | h9
      ·exact hjj q h9
      obtain rfl : q = j := by omega
      exact he
     generalize l.getD j zCB = y at *
     have hyk : SlZ h y.c.key y.kb := hzy.1
     have hyn := hyk.len
     have hrx : RdZ h x.c.key.A (bc x.kb) := hzk.rd
     have hry : RdZ h y.c.key.A (bc y.kb) := hyk.rd
     have hSm := QbL x.kb y.kb x.c.key.A y.c.key.A x.c.key.c y.c.key.c (by omega)
     rw [← hkn, ← hyn] at hSm
     refine Qn ?_
     refine Qc ?_
     refine Qd ?_
     refine Qq ?_
     refine Qd ?_
     refine Q1 [.zone false h] [] QJ (same) ?_
     refine Qa 0 rfl (Qi rfl) ?_
     refine Qa 1 rfl (Qi rfl) ?_
     refine Qa 2 rfl (QQ rfl rfl) ?_
     refine Qa 3 rfl (Qe rfl (O' := o + (i * 3 + 0)) (by omega)) ?_
     refine Qp 4 rfl (QX rfl (JM hx 0 _ rfl)) ?_
     refine Qa 5 rfl (Qi rfl) ?_
     refine Qa 6 rfl (Qi rfl) ?_
     refine Qa 7 rfl (QQ rfl rfl) ?_
     refine Qa 8 rfl (Qe rfl (O' := o + (j * 3 + 0)) (by omega)) ?_
     refine Qp 9 rfl (QX rfl (JM hy 0 _ rfl)) ?_
     refine Qv 10 ?_
     refine QR 10 rfl (hSm.comes) rfl rfl rfl (fun xx => same) fun _ => ?_
     refine QB (by kernel_rfl) ?_
     refine Qc ?_
     by_cases he : x.kb = y.kb
     ·rw [decide_eq_true he]
      rw [if_pos (hS2 he.symm)] at hE3
      obtain rfl : some (i, (9 : Int)) = r := by rw [← hR, hR2 (by rw [hE3]; decide), hE3]
      refine Qz rfl ?_
      refine yR ?_
      refine yM rfl ?_
      refine yS rfl ?_
      refine yS rfl ?_
      refine yN ?_
      refine Qs ?_
      refine Q3 ?_
      refine Qr ?_
      refine Qr ?_
      refine Q3 ?_
      refine Q3 ?_
      refine Qr ?_
      refine Qr ?_
      refine Q3 ?_
      refine Qr ?_
      exact QO rfl rfl rfl fun w s => ⟨(), rfl, s.res (List.nil_sublist _) (by simp)⟩
     rw [decide_eq_false he]
     refine Qt rfl ?_
     refine Qn ?_
     refine Q2 ?_
     refine Qc ?_
     refine Q5 ?_
     refine yM rfl ?_
     refine Qb (QI rfl rfl) ?_
     refine yS rfl ?_
     refine QE ?_
     exact QH (j + 1) (⟨hj2, hnj (fun e => he e.symm)⟩) ((show i - (j + 1) < i - j by omega)) ⟨rfl, rfl, rfl, trivial⟩ (same)
    obtain rfl : j = i := by omega
    rw [hS0 hjj] at hE3
    refine QK ?_
    refine Qx ?_
    refine Qx ?_
    refine Q8 ?_
    refine Q2 ?_
    refine Qc ?_
    refine Q5 ?_
    refine yM rfl ?_
    refine Qb (QI rfl rfl) ?_
    refine yS rfl ?_
    refine QE ?_
    exact QH (j + 1) (⟨hi2, hnx hE3⟩) ((show l.length - (j + 1) < l.length - j by omega)) ⟨rfl, rfl, trivial⟩ (same)
   have hE3 := hE1 h0
   obtain rfl : some (i, qU x) = r := by rw [← hR, hR2 (by rw [hE3]; exact h0), hE3]
   refine yS rfl ?_
   refine yN ?_
   refine Qd ?_
   refine yR ?_
   refine yM rfl ?_
   refine Qb (QL rfl rfl) ?_
   refine yN ?_
   refine Yz rfl (h0) ?_
   refine yR ?_
   refine yM rfl ?_
   refine yM rfl ?_
   refine yS rfl ?_
   refine yS rfl ?_
   refine yN ?_
   refine Qs ?_
   refine Qr ?_
   refine Q3 ?_
   refine Qr ?_
   refine Qr ?_
   refine Q3 ?_
   refine Qr ?_
   exact QO rfl rfl rfl fun w s => ⟨(), rfl, s.res (List.nil_sublist _) (by simp)⟩
  rw [show vsU x = ⟨none, 0, 0⟩ by unfold vsU; rw [hp]; rfl] at *
  refine Qz rfl ?_
  refine Q5 ?_
  refine yS rfl ?_
  refine yN ?_
  refine yR ?_
  refine yM rfl ?_
  refine yM rfl ?_
  refine Qb (QQ rfl rfl) ?_
  refine Qb (Qe rfl (O' := o + (i * 3 + 0)) (by omega)) ?_
  refine Qb (QX rfl (JM hx 0 _ rfl)) ?_
  refine yM rfl ?_
  refine Qh (hRi.comes) rfl rfl rfl fun _ => ?_
  by_cases h0 : qU x = 0
  ·rw [h0]
   have hE3 := hE2 h0
   refine yS rfl ?_
   refine yN ?_
   refine Qd ?_
   refine yR ?_
   refine yM rfl ?_
   refine Qb (QL rfl rfl) ?_
   refine yN ?_
   refine Qt rfl ?_
   refine Qn ?_
   refine Qc ?_
   refine yR ?_
   refine yS rfl ?_
   refine yN ?_
   refine Qq ?_
   refine QS (fun (j : Nat) => j ≤ i ∧ ∀ q, q < j → (l.getD q zCB).kb ≠ x.kb) (fun (j : Nat) => [(7, .int .i64 (j : Int)), (4, .int .i64 (i : Int)), (0, .slice (some ⟨b, o, none⟩) l.length c)]) (fun (j : Nat) => [.zone false h]) (fun (j : Nat) => i - j) 0 (⟨Nat.zero_le _, fun q hq => absurd hq (Nat.not_lt_zero q)⟩) ⟨rfl, rfl, rfl, trivial⟩ (same) ?_
   rintro j ⟨hj, hjj⟩
   refine Qd ?_
   refine yR ?_
   refine yM rfl ?_
   refine yM rfl ?_
   refine Qb (QT rfl rfl) ?_
   refine yN ?_
   refine QU rfl (fun hjl => ?_) (fun hjl => ?_)
   ·have hj2 : j < i := by omega
    have hy := Jz zCB (l := l) (k := j) (by omega)
    have hzy := hz.get (k := j) (by omega)
    have hky := hkl (l.getD j zCB) (List.mem_of_getElem? hy)
    have hS2 := hS1 j hj2
    have hnj : (l.getD j zCB).kb ≠ x.kb → ∀ q, q < j + 1 → (l.getD q zCB).kb ≠ x.kb := fun he q hq => by
     rcases Nat.lt_or_ge q j with h9 | h9
     ·exact hjj q h9
     obtain rfl : q = j := by omega
     exact he
    generalize l.getD j zCB = y at *
    have hyk : SlZ h y.c.key y.kb := hzy.1
    have hyn := hyk.len
    have hrx : RdZ h x.c.key.A (bc x.kb) := hzk.rd
    have hry : RdZ h y.c.key.A (bc y.kb) := hyk.rd
    have hSm := QbL x.kb y.kb x.c.key.A y.c.key.A x.c.key.c y.c.key.c (by omega)
    rw [← hkn, ← hyn] at hSm
    refine Qn ?_
    refine Qc ?_
    refine Qd ?_
    refine Qq ?_
    refine Qd ?_
    refine Q1 [.zone false h] [] QJ (same) ?_
    refine Qa 0 rfl (Qi rfl) ?_
    refine Qa 1 rfl (Qi rfl) ?_
    refine Qa 2 rfl (QQ rfl rfl) ?_
    refine Qa 3 rfl (Qe rfl (O' := o + (i * 3 + 0)) (by omega)) ?_
    refine Qp 4 rfl (QX rfl (JM hx 0 _ rfl)) ?_
    refine Qa 5 rfl (Qi rfl) ?_
    refine Qa 6 rfl (Qi rfl) ?_
    refine Qa 7 rfl (QQ rfl rfl) ?_
    refine Qa 8 rfl (Qe rfl (O' := o + (j * 3 + 0)) (by omega)) ?_
    refine Qp 9 rfl (QX rfl (JM hy 0 _ rfl)) ?_
    refine Qv 10 ?_
    refine QR 10 rfl (hSm.comes) rfl rfl rfl (fun xx => same) fun _ => ?_
    refine QB (by kernel_rfl) ?_
    refine Qc ?_
    by_cases he : x.kb = y.kb
    ·rw [decide_eq_true he]
     rw [if_pos (hS2 he.symm)] at hE3
     obtain rfl : some (i, (9 : Int)) = r := by rw [← hR, hR2 (by rw [hE3]; decide), hE3]
     refine Qz rfl ?_
     refine yR ?_
     refine yM rfl ?_
     refine yS rfl ?_
     refine yS rfl ?_
     refine yN ?_
     refine Qs ?_
     refine Q3 ?_
     refine Qr ?_
     refine Qr ?_
     refine Q3 ?_
     refine Q3 ?_
     refine Qr ?_
     refine Qr ?_
     refine Q3 ?_
     refine Qr ?_
     exact QO rfl rfl rfl fun w s => ⟨(), rfl, s.res (List.nil_sublist _) (by simp)⟩
    rw [decide_eq_false he]
    refine Qt rfl ?_
    refine Qn ?_
    refine Q2 ?_
    refine Qc ?_
    refine Q5 ?_
    refine yM rfl ?_
    refine Qb (QI rfl rfl) ?_
    refine yS rfl ?_
    refine QE ?_
    exact QH (j + 1) (⟨hj2, hnj (fun e => he e.symm)⟩) ((show i - (j + 1) < i - j by omega)) ⟨rfl, rfl, rfl, trivial⟩ (same)
   obtain rfl : j = i := by omega
   rw [hS0 hjj] at hE3
   refine QK ?_
   refine Qx ?_
   refine Qx ?_
   refine Q8 ?_
   refine Q2 ?_
   refine Qc ?_
   refine Q5 ?_
   refine yM rfl ?_
   refine Qb (QI rfl rfl) ?_
   refine yS rfl ?_
   refine QE ?_
   exact QH (j + 1) (⟨hi2, hnx hE3⟩) ((show l.length - (j + 1) < l.length - j by omega)) ⟨rfl, rfl, trivial⟩ (same)
  have hE3 := hE1 h0
  obtain rfl : some (i, qU x) = r := by rw [← hR, hR2 (by rw [hE3]; exact h0), hE3]
  refine yS rfl ?_
  refine yN ?_
  refine Qd ?_
  refine yR ?_
  refine yM rfl ?_
  refine Qb (QL rfl rfl) ?_
  refine yN ?_
  refine Yz rfl (h0) ?_
  refine yR ?_
  refine yM rfl ?_
  refine yM rfl ?_
  refine yS rfl ?_
  refine yS rfl ?_
  refine yN ?_
  refine Qs ?_
  refine Qr ?_
  refine Q3 ?_
  refine Qr ?_
  refine Qr ?_
  refine Q3 ?_
  refine Qr ?_
  exact QO rfl rfl rfl fun w s => ⟨(), rfl, s.res (List.nil_sublist _) (by simp)⟩
 obtain rfl : i = l.length := by omega
 obtain rfl : none = r := by rw [← hR]; exact (qn _ _ _ (fun j _ hj => hzz j (by omega))).symm
 refine QK ?_
 refine Qx ?_
 refine Qx ?_
 refine Q8 ?_
 refine Qc ?_
 refine yR ?_
 refine yS rfl ?_
 refine yS rfl ?_
 refine yN ?_
 refine Qs ?_
 exact QO rfl rfl rfl fun w s => ⟨(), rfl, s.res (List.nil_sublist _) (by simp)⟩
end
section
open Go.RowKit
theorem QeQ {m : List En} {l : List CB} {i : Nat} (h : i < l.length) : JA m (l.take (i + 1)) = qs (JA m (l.take i)) (l.getD i zCB) := by
 unfold JA
 rw [JD (Jz zCB h), List.foldl_append]
 rfl
theorem Qj6 (h : Zh) (l : List CB) (A : Option Addr) (c : Nat) [hr : RdZ h A (cbs l)] (hz : ZN h l) (hkl : ∀ x ∈ l, x.kb.length = 32) (m : List En) (B : Option Addr) (cB : Nat) [hm : RdZ h B (Ye m)] (hcB : m.length ≤ cB) (hl : m.length + l.length ≤ 1000000) :
  QC Tryz.prog 83 [.slice B m.length cB, .slice A l.length c].toArray [] [.zone true h] (fun u : {u : Zh × Option Addr × Nat // LeZ h u.1 ∧ RdZ u.1 u.2.1 (Ye (JA m l)) ∧ (JA m l).length ≤ u.2.2} => .slice u.1.2.1 (JA m l).length u.1.2.2) (fun u => [.zone true u.1.1]) := by
 have h00 : JA m (l.take 0) = m := rfl
 refine Qk Tryz.func83 rfl (n := 36) rfl rfl ?_
 intro W
 refine yR ?_
 refine yS rfl ?_
 refine yN ?_
 refine Qd ?_
 refine yR ?_
 refine yS rfl ?_
 refine yN ?_
 refine Qq ?_
 refine QS (fun (s : Nat × Zh × Option Addr × Nat) => s.1 ≤ l.length ∧ LeZ h s.2.1 ∧ RdZ s.2.1 s.2.2.1 (Ye (JA m (l.take s.1))) ∧ (JA m (l.take s.1)).length ≤ s.2.2.2) (fun (s : Nat × Zh × Option Addr × Nat) => [(5, .int .i64 (s.1 : Int)), (1, .slice A l.length c), (0, .slice s.2.2.1 (JA m (l.take s.1)).length s.2.2.2)]) (fun (s : Nat × Zh × Option Addr × Nat) => [.zone true s.2.1]) (fun (s : Nat × Zh × Option Addr × Nat) => l.length - s.1) (0, h, B, cB) (⟨Nat.zero_le _, LeZ.refl h, hm, hcB⟩) ⟨rfl, rfl, rfl, trivial⟩ (same (L' := [.zone true h])) ?_
 rintro ⟨i, z, B2, c2⟩ ⟨hi, hle, hrd, hcap⟩
 dsimp only at hi hle hrd hcap ⊢
 refine Qd ?_
 refine yR ?_
 refine yM rfl ?_
 refine yM rfl ?_
 refine Qb (QF rfl) ?_
 refine Qb (QT rfl rfl) ?_
 refine yN ?_
 refine QU rfl (fun hlt => ?_) (fun hlt => ?_)
 ·have hi2 : i < l.length := by omega
  have hx := Jz zCB hi2
  have hrz : RdZ z A (cbs l) := hr.mono hle
  have hlen : (JA m (l.take i)).length ≤ 1000000 := by
   have := ZP (l.take i) m
   rw [List.length_take] at this
   omega
  have hst := QeQ (m := m) hi2
  rw [show qs (JA m (l.take i)) (l.getD i zCB) = if (l.getD i zCB).c.present then Js (JA m (l.take i)) (keyOf (l.getD i zCB).kb) else qQ (JA m (l.take i)) (enU (l.getD i zCB)) from rfl] at hst
  obtain ⟨b, o, rfl, -⟩ := hrz.at_ (i * 3) _ (JM hx 0 _ rfl)
  have hzx := hz.get hi2
  have hkx := hkl (l.getD i zCB) (List.mem_of_getElem? hx)
  generalize l.getD i zCB = x at *
  have hzk : SlZ z x.c.key x.kb := hzx.1.mono hle
  have hkn := hzk.len
  have hrk : RdZ z x.c.key.A (bc x.kb) := hzk.rd
  have hOf := Qb1 x.kb x.c.key.A x.c.key.c hkx
  rw [← hkn] at hOf
  generalize JA m (l.take i) = mi at *
  refine Qn ?_
  refine Qc ?_
  refine Qd ?_
  refine Qq ?_
  refine yR ?_
  refine yM rfl ?_
  refine yM rfl ?_
  refine Qb (QQ rfl rfl) ?_
  refine Qb (Qe rfl (O' := o + (i * 3 + 0)) (by omega)) ?_
  refine Qb (QX rfl (JM hx 0 _ rfl)) ?_
  refine Qh (hOf.comes) rfl rfl rfl fun _ => ?_
  refine Qo (Q0) fun g6 => ?_
  refine Q7 (Qw rfl rfl) ?_
  refine yN ?_
  refine yR ?_
  refine yM rfl ?_
  refine yM rfl ?_
  refine Qb (QQ rfl rfl) ?_
  refine Qb (Qe rfl (O' := o + (i * 3 + 2)) (by omega)) ?_
  refine Qb (QX rfl (JM hx 2 _ rfl)) ?_
  refine yN ?_
  cases hp : x.c.present
  ·rw [hp] at hst
   rw [if_neg (by decide)] at hst
   have hP := Qpb mi B2 c2 (enU x) (by omega)
   refine Qt rfl ?_
   refine Q1 [.zone true z, .blk g6 (keyOf x.kb).cells 34] [] QJ (same) ?_
   refine Qa 0 rfl (Qi rfl) ?_
   refine Qp 1 rfl (Qm rfl) ?_
   refine Qa 2 rfl (Qi rfl) ?_
   refine Qa 3 rfl (Qi rfl) ?_
   refine Qa 4 rfl (QQ rfl rfl) ?_
   refine Qa 5 rfl (Qe rfl (O' := o + (i * 3 + 1)) (by omega)) ?_
   refine Qp 6 rfl (QX rfl (JM hx 1 _ rfl)) ?_
   refine Qv 7 ?_
   refine QR 7 rfl (hP.comes) rfl rfl rfl (fun xx => same) fun ⟨A34, c34⟩ => ?_
   refine Qa 8 rfl (Q6 rfl) ?_
   refine QB (by kernel_rfl) ?_
   refine Q2 ?_
   refine Qc ?_
   dsimp only
   refine Jp (.slice A34 (qQ mi (enU x)).length c34) fun z2 B3 c3 e3 hc3 _ _ hz3 hr3 => ?_
   obtain rfl : A34 = B3 := by injection e3
   obtain rfl : c34 = c3 := by injection e3
   rw [← hst] at hr3 hc3 ⊢
   refine Q5 ?_
   refine yM rfl ?_
   refine Qb (QI rfl rfl) ?_
   refine yS rfl ?_
   refine QE ?_
   exact QH (i + 1, z2, A34, c34) (⟨hi2, hle.trans hz3, hr3, hc3⟩) ((show l.length - (i + 1) < l.length - i by omega)) ⟨rfl, rfl, rfl, trivial⟩ (same)
  rw [hp] at hst
  rw [if_pos rfl] at hst
  have hP := QbT mi B2 c2 (keyOf x.kb) (by omega)
  refine Qz rfl ?_
  refine Q5 ?_
  refine yM rfl ?_
  refine Qb (Qm rfl) ?_
  refine Qh (hP.comes) rfl rfl rfl fun ⟨A26, c26⟩ => ?_
  dsimp only
  refine Jp (.slice A26 (Js mi (keyOf x.kb)).length c26) fun z2 B3 c3 e3 hc3 _ _ hz3 hr3 => ?_
  obtain rfl : A26 = B3 := by injection e3
  obtain rfl : c26 = c3 := by injection e3
  rw [← hst] at hr3 hc3 ⊢
  refine yS rfl ?_
  refine QE ?_
  refine Q2 ?_
  refine Qc ?_
  refine Q5 ?_
  refine yM rfl ?_
  refine Qb (QI rfl rfl) ?_
  refine yS rfl ?_
  refine QE ?_
  exact QH (i + 1, z2, A26, c26) (⟨hi2, hle.trans hz3, hr3, hc3⟩) ((show l.length - (i + 1) < l.length - i by omega)) ⟨rfl, rfl, rfl, trivial⟩ (same)
 obtain rfl : i = l.length := by omega
 rw [List.take_length] at hrd hcap ⊢
 refine QK ?_
 refine Qx ?_
 refine Qx ?_
 refine Q8 ?_
 refine Qc ?_
 refine yR ?_
 refine yM rfl ?_
 refine yS rfl ?_
 refine yN ?_
 refine Qs ?_
 exact Qu rfl rfl fun w s => ⟨⟨(z, B2, c2), hle, hrd, hcap⟩, rfl, (same (L' := [.zone true z]) w s).res (List.Sublist.refl _) (by simp [Fa.wr])⟩
def QgJ (l : List CB) : Bool := l.all fun x => decide (x.kb.length ≤ 100 ∧ x.vb.length ≤ 70000)
def QgK (l : List CB) : Nat := (l.filter fun x => decide (300 < x.vb.length)).length
theorem QiS {l : List CB} {i : Nat} (h : i < l.length) : QgJ (l.take (i + 1)) = (QgJ (l.take i) && decide ((l.getD i zCB).kb.length ≤ 100 ∧ (l.getD i zCB).vb.length ≤ 70000)) := by
 unfold QgJ
 rw [JD (Jz zCB h), List.all_append]
 simp
theorem QiT {l : List CB} {i : Nat} (h : i < l.length) : QgK (l.take (i + 1)) = QgK (l.take i) + (if 300 < (l.getD i zCB).vb.length then 1 else 0) := by
 unfold QgK
 rw [JD (Jz zCB h), List.filter_append, List.length_append]
 by_cases h3 : 300 < (l.getD i zCB).vb.length
 ·rw [if_pos h3, List.filter_cons_of_pos (by simpa using h3)]; rfl
 rw [if_neg h3, List.filter_cons_of_neg (by simpa using h3)]; rfl
theorem QnF (l : List CB) : QgK l ≤ l.length := List.length_filter_le _ _
theorem QnD {l : List CB} {i : Nat} (h : i < l.length) (hf : ¬ ((l.getD i zCB).kb.length ≤ 100 ∧ (l.getD i zCB).vb.length ≤ 70000)) : Vz l = false := by
 unfold Vz
 have : QgJ l = false := by
  rw [Bool.eq_false_iff]
  intro ht
  exact hf (of_decide_eq_true (List.all_eq_true.1 ht _ (List.mem_of_getElem? (Jz zCB h))))
 unfold QgJ at this
 rw [this, Bool.and_false, Bool.false_and]
theorem Qld (l : List CB) (A : Option Addr) (c : Nat) (hn : ∀ x ∈ l, x.c.key.n = x.kb.length ∧ x.c.value.n = x.vb.length) : QC Tryz.prog 45 [.slice A l.length c].toArray [.rd A (cbs l)] [] (fun _ : Unit => .bool (Vz l)) (fun _ => []) := by
 refine Qk Tryz.func45 rfl (n := 41) rfl rfl ?_
 intro W
 refine yR ?_
 refine yS rfl ?_
 refine yN ?_
 refine Qd ?_
 refine yR ?_
 refine yM rfl ?_
 refine Qb (QF rfl) ?_
 refine Qb (Jo rfl rfl) ?_
 refine yN ?_
 by_cases h20 : 20 < l.length
 ·have hF : Vz l = false := by unfold Vz; rw [decide_eq_false (by omega), Bool.false_and, Bool.false_and]
  rw [hF]
  refine Yz rfl ((by omega)) ?_
  refine yR ?_
  refine yS rfl ?_
  refine yN ?_
  refine Qs ?_
  refine Qr ?_
  exact Qu rfl rfl fun w s => ⟨(), rfl, s.res (List.nil_sublist _) (by simp)⟩
 refine Ys rfl ((by omega)) ?_
 refine Qn ?_
 refine Qc ?_
 refine yR ?_
 refine yS rfl ?_
 refine yN ?_
 refine Qd ?_
 refine yR ?_
 refine yS rfl ?_
 refine yN ?_
 refine Qq ?_
 refine QS (fun (i : Nat) => i ≤ l.length ∧ QgJ (l.take i) = true) (fun (i : Nat) => [(4, .int .i64 (i : Int)), (3, .int .i64 (QgK (l.take i) : Int)), (0, .slice A l.length c)]) (fun (i : Nat) => [.rd A (cbs l)]) (fun (i : Nat) => l.length - i) 0 (⟨Nat.zero_le _, rfl⟩) ⟨rfl, rfl, rfl, trivial⟩ (same) ?_
 rintro i ⟨hi, hA⟩
 have hNl := QnF (l.take i)
 rw [List.length_take] at hNl
 refine Qd ?_
 refine yR ?_
 refine yM rfl ?_
 refine yM rfl ?_
 refine Qb (QF rfl) ?_
 refine Qb (QT rfl rfl) ?_
 refine yN ?_
 refine QU rfl (fun hlt => ?_) (fun hlt => ?_)
 ·have hi2 : i < l.length := by omega
  have hx := Jz zCB hi2
  have h1 := QiS hi2
  have h2 := QiT hi2
  have h3 := QnD hi2
  have h4 := hn (l.getD i zCB) (List.mem_of_getElem? hx)
  refine Jq (φ := ∃ b o, A = some ⟨b, o, none⟩) (fun w s => Rd.some (s.ok (.rd A (cbs l)) (by simp)) (by rw [Qns]; omega)) ?_
  rintro ⟨b, o, rfl⟩
  generalize l.getD i zCB = x at *
  obtain ⟨k1, k2⟩ := h4
  by_cases hk : 100 < x.kb.length
  ·rw [h3 (by omega)]
   refine Qn ?_
   refine Qc ?_
   refine Qd ?_
   refine Qq ?_
   refine Qd ?_
   refine yR ?_
   refine yM rfl ?_
   refine yM rfl ?_
   refine Qb (QQ rfl rfl) ?_
   refine Qb (Qe rfl (O' := o + (i * 3 + 0)) (by omega)) ?_
   refine Qb (QX rfl (JM hx 0 _ rfl)) ?_
   refine Qb (QF rfl) ?_
   refine Qb (Ql (Jo rfl rfl) (decide_eq_true (by omega))) ?_
   refine yM rfl ?_
   refine Qg ?_
   refine Qg ?_
   refine Qg ?_
   refine Qg ?_
   refine Qg ?_
   refine Qg ?_
   refine Qg ?_
   refine Qb (Qy rfl rfl) ?_
   refine yN ?_
   refine Qz rfl ?_
   refine yR ?_
   refine yS rfl ?_
   refine yN ?_
   refine Qs ?_
   refine Qr ?_
   refine Q3 ?_
   refine Qr ?_
   refine Qr ?_
   refine Q3 ?_
   refine Qr ?_
   exact Qu rfl rfl fun w s => ⟨(), rfl, s.res (List.nil_sublist _) (by simp)⟩
  by_cases hv : 70000 < x.vb.length
  ·rw [h3 (by omega)]
   refine Qn ?_
   refine Qc ?_
   refine Qd ?_
   refine Qq ?_
   refine Qd ?_
   refine yR ?_
   refine yM rfl ?_
   refine yM rfl ?_
   refine Qb (QQ rfl rfl) ?_
   refine Qb (Qe rfl (O' := o + (i * 3 + 0)) (by omega)) ?_
   refine Qb (QX rfl (JM hx 0 _ rfl)) ?_
   refine Qb (QF rfl) ?_
   refine Qb (Ql (Jo rfl rfl) (decide_eq_false (by omega))) ?_
   refine yM rfl ?_
   refine yM rfl ?_
   refine yM rfl ?_
   refine Qb (QQ rfl rfl) ?_
   refine Qb (Qe rfl (O' := o + (i * 3 + 1)) (by omega)) ?_
   refine Qb (QX rfl (JM hx 1 _ rfl)) ?_
   refine Qb (QF rfl) ?_
   refine Qb (Ql (Jo rfl rfl) (decide_eq_true (by omega))) ?_
   refine Qb (Qy rfl rfl) ?_
   refine yN ?_
   refine Qz rfl ?_
   refine yR ?_
   refine yS rfl ?_
   refine yN ?_
   refine Qs ?_
   refine Qr ?_
   refine Q3 ?_
   refine Qr ?_
   refine Qr ?_
   refine Q3 ?_
   refine Qr ?_
   exact Qu rfl rfl fun w s => ⟨(), rfl, s.res (List.nil_sublist _) (by simp)⟩
  rw [hA, decide_eq_true (show x.kb.length ≤ 100 ∧ x.vb.length ≤ 70000 by omega)] at h1
  refine Qn ?_
  refine Qc ?_
  refine Qd ?_
  refine Qq ?_
  refine Qd ?_
  refine yR ?_
  refine yM rfl ?_
  refine yM rfl ?_
  refine Qb (QQ rfl rfl) ?_
  refine Qb (Qe rfl (O' := o + (i * 3 + 0)) (by omega)) ?_
  refine Qb (QX rfl (JM hx 0 _ rfl)) ?_
  refine Qb (QF rfl) ?_
  refine Qb (Ql (Jo rfl rfl) (decide_eq_false (by omega))) ?_
  refine yM rfl ?_
  refine yM rfl ?_
  refine yM rfl ?_
  refine Qb (QQ rfl rfl) ?_
  refine Qb (Qe rfl (O' := o + (i * 3 + 1)) (by omega)) ?_
  refine Qb (QX rfl (JM hx 1 _ rfl)) ?_
  refine Qb (QF rfl) ?_
  refine Qb (Ql (Jo rfl rfl) (decide_eq_false (by omega))) ?_
  refine Qb (Qy rfl rfl) ?_
  refine yN ?_
  refine Qt rfl ?_
  refine Qn ?_
  refine Qc ?_
  refine yR ?_
  refine yM rfl ?_
  refine yM rfl ?_
  refine Qb (QQ rfl rfl) ?_
  refine Qb (Qe rfl (O' := o + (i * 3 + 1)) (by omega)) ?_
  refine Qb (QX rfl (JM hx 1 _ rfl)) ?_
  refine Qb (QF rfl) ?_
  refine Qb (Jo rfl rfl) ?_
  refine yN ?_
  by_cases h300 : 300 < x.vb.length
  ·rw [if_pos h300] at h2
   refine Yz rfl ((by omega)) ?_
   refine Q5 ?_
   refine yM rfl ?_
   refine Qb (QI rfl rfl) ?_
   refine yS rfl ?_
   refine QE ?_
   refine Q2 ?_
   refine Qc ?_
   refine Q5 ?_
   refine yM rfl ?_
   refine Qb (QI rfl rfl) ?_
   refine yS rfl ?_
   refine QE ?_
   exact QH (i + 1) (⟨hi2, h1⟩) ((show l.length - (i + 1) < l.length - i by omega)) ⟨rfl, aV rfl (by rw [h2]; rfl), rfl, trivial⟩ (same)
  rw [if_neg h300] at h2
  refine Ys rfl ((by omega)) ?_
  refine Qn ?_
  refine Q2 ?_
  refine Qc ?_
  refine Q5 ?_
  refine yM rfl ?_
  refine Qb (QI rfl rfl) ?_
  refine yS rfl ?_
  refine QE ?_
  exact QH (i + 1) (⟨hi2, h1⟩) ((show l.length - (i + 1) < l.length - i by omega)) ⟨rfl, aV rfl (by rw [h2]; rfl), rfl, trivial⟩ (same)
 obtain rfl : i = l.length := by omega
 rw [List.take_length] at hA ⊢
 have hF : Vz l = decide (QgK l ≤ 2) := by
  unfold Vz
  rw [decide_eq_true (by omega)]
  unfold QgJ at hA
  rw [hA]
  rfl
 rw [hF]
 refine QK ?_
 refine Qx ?_
 refine Qx ?_
 refine Q8 ?_
 refine Qc ?_
 refine yR ?_
 refine yM rfl ?_
 refine Qb (Ql (Qb3 rfl rfl) (show _ = decide (QgK l ≤ 2) by rw [decide_eq_decide]; omega)) ?_
 refine yS rfl ?_
 refine yN ?_
 refine Qs ?_
 exact Qu rfl rfl fun w s => ⟨(), rfl, s.res (List.nil_sublist _) (by simp)⟩
theorem Qem {l : List OpV} {i : Nat} {x : OpV} (h : l[i]? = some x) : ∀ j v, x.cells[j]? = some v → (Qjx l)[i * 4 + j]? = some v := Qhf (f := OpV.cells) OpV.cells_length h
def zOp : OpV := ⟨0, ⟨none, 0, 0⟩, ⟨none, 0, 0⟩, ⟨none, 0, 0⟩, [], [], []⟩
def VN (l : List OpV) : Bool := decide (l.length ≤ 12) && l.all ZV
theorem QnE {l : List OpV} {i : Nat} (h : i < l.length) (hf : ZV (l.getD i zOp) = false) : VN l = false := by
 unfold VN
 have : l.all ZV = false := by
  rw [Bool.eq_false_iff]
  intro ht
  have := List.all_eq_true.1 ht _ (List.mem_of_getElem? (Jz zOp h))
  rw [hf] at this
  cases this
 rw [this, Bool.and_false]
def QgU (o : OpV) : CB := ⟨⟨o.key, o.val, false⟩, o.kb, o.vb⟩
theorem Qlc (o : OpV) : Vz [QgU o] = decide (o.kb.length ≤ 100 ∧ o.vb.length ≤ 70000) := by
 unfold Vz QgU
 have : ([(⟨⟨o.key, o.val, false⟩, o.kb, o.vb⟩ : CB)].filter fun x => decide (300 < x.vb.length)).length ≤ 2 := Nat.le_trans (List.length_filter_le _ _) (by simp)
 rw [decide_eq_true this]
 simp
theorem Qlb (o : OpV) : ZV o = (Vz [QgU o] && Vz o.us) := by rw [Qlc]; rfl
theorem Qfs (h : Zh) (l : List OpV) (A : Option Addr) (c : Nat) [hr : RdZ h A (Qjx l)] (hz : QdQ h l) : QC Tryz.prog 33 [.slice A l.length c].toArray [.zone false h] [] (fun _ : Unit => .int .i64 (if VN l then 1 else 0)) (fun _ => []) := by
 refine Qk Tryz.func33 rfl (n := 29) rfl rfl ?_
 intro W
 refine yR ?_
 refine yS rfl ?_
 refine yN ?_
 refine Qd ?_
 refine yR ?_
 refine yM rfl ?_
 refine Qb (QF rfl) ?_
 refine Qb (Jo rfl rfl) ?_
 refine yN ?_
 by_cases h12 : 12 < l.length
 ·have hF : VN l = false := by unfold VN; rw [decide_eq_false (by omega), Bool.false_and]
  rw [hF]
  refine Yz rfl ((by omega)) ?_
  refine yR ?_
  refine yS rfl ?_
  refine yN ?_
  refine Qs ?_
  refine Qr ?_
  exact Qu rfl rfl fun w s => ⟨(), rfl, s.res (List.nil_sublist _) (by simp)⟩
 refine Ys rfl ((by omega)) ?_
 refine Qn ?_
 refine Qc ?_
 refine Qd ?_
 refine yR ?_
 refine yM rfl ?_
 refine Qb (QF rfl) ?_
 refine yM rfl ?_
 refine yN ?_
 refine Qq ?_
 refine QS (fun (i : Nat) => i ≤ l.length ∧ (l.take i).all ZV = true) (fun (i : Nat) => [(10, .int .i64 (i : Int)), (9, .int .i64 (l.length : Int)), (8, .slice A l.length c)]) (fun (i : Nat) => [.zone false h]) (fun (i : Nat) => l.length - i) 0 (⟨Nat.zero_le _, rfl⟩) ⟨rfl, rfl, rfl, trivial⟩ (same) ?_
 rintro i ⟨hi, hA⟩
 refine yR ?_
 refine Qb (QT rfl rfl) ?_
 refine yN ?_
 refine Qd ?_
 refine QU rfl (fun hlt => ?_) (fun hlt => ?_)
 ·have hi2 : i < l.length := by omega
  have hx := Jz zOp hi2
  have h3 := QnE hi2
  have hxz := hz (l.getD i zOp) (List.mem_of_getElem? hx)
  have hnx : ZV (l.getD i zOp) = true → (l.take (i + 1)).all ZV = true := fun hf => by
   rw [JD hx, List.all_append, hA]
   show (true && (ZV (l.getD i zOp) && true)) = true
   rw [hf]
   rfl
  obtain ⟨b, o, rfl, -⟩ := hr.at_ (i * 4) _ (Qem hx 0 _ rfl)
  generalize l.getD i zOp = x at *
  have hO := Qlb x
  have hF1 := fun B cc => Qld [QgU x] B cc (fun y hy => by rw [List.mem_singleton.1 hy]; exact ⟨hxz.key.len, hxz.val.len⟩)
  have hF2 := Qld x.us x.batch.A x.batch.c (fun y hy => ⟨(hxz.us y hy).1.len, (hxz.us y hy).2.len⟩)
  rw [← hxz.n] at hF2
  have hrb : RdZ h x.batch.A (cbs x.us) := hxz.rd
  rw [show cbs [QgU x] = Claim.cells ⟨x.key, x.val, false⟩ from rfl, show ([QgU x] : List CB).length = 1 from rfl] at hF1
  generalize Vz [QgU x] = b1 at *
  generalize Vz x.us = b2 at *
  refine Qn ?_
  refine Qc ?_
  refine Qd ?_
  refine Qq ?_
  refine yR ?_
  refine Qb (QQ rfl rfl) ?_
  refine Qb (Jm rfl (out := x.cells) (OpV.cells_length _) (Qem hx)) ?_
  refine Qo (Q0) fun g4 => ?_
  refine Q7 (Qw rfl rfl) ?_
  refine yN ?_
  refine yR ?_
  refine Qb (Qe rfl) ?_
  refine Qb (Qf rfl) ?_
  refine Qb (Qe rfl) ?_
  refine Qb (Qf rfl) ?_
  refine Qb (QD (out := Claim.cells ⟨x.key, x.val, false⟩) rfl) ?_
  refine Qo (J8 rfl rfl) fun g19 => ?_
  refine Qh ((hF1 (some ⟨g19, 0, none⟩) 1).comes) rfl rfl rfl fun _ => ?_
  cases b1
  ·rw [h3 (by rw [hO]; rfl)]
   refine Qb (Ji rfl) ?_
   refine yM rfl ?_
   refine Qg ?_
   refine Qg ?_
   refine Qg ?_
   refine Qg ?_
   refine Qb (Qy rfl rfl) ?_
   refine yN ?_
   refine Qz rfl ?_
   refine yR ?_
   refine yS rfl ?_
   refine yN ?_
   refine Qs ?_
   refine Q3 ?_
   refine Qr ?_
   refine Qr ?_
   refine Q3 ?_
   refine Qr ?_
   exact Qu rfl rfl fun w s => ⟨(), rfl, s.res (List.nil_sublist _) (by simp)⟩
  refine Qb (Ji rfl) ?_
  refine yM rfl ?_
  refine Qb (Qe rfl) ?_
  refine Qb (Qf rfl) ?_
  refine Qh (hF2.comes) rfl rfl rfl fun _ => ?_
  cases b2
  ·rw [h3 (by rw [hO]; rfl)]
   refine Qb (Ji rfl) ?_
   refine Qb (Qy rfl rfl) ?_
   refine yN ?_
   refine Qz rfl ?_
   refine yR ?_
   refine yS rfl ?_
   refine yN ?_
   refine Qs ?_
   refine Q3 ?_
   refine Qr ?_
   refine Qr ?_
   refine Q3 ?_
   refine Qr ?_
   exact Qu rfl rfl fun w s => ⟨(), rfl, s.res (List.nil_sublist _) (by simp)⟩
  refine Qb (Ji rfl) ?_
  refine Qb (Qy rfl rfl) ?_
  refine yN ?_
  refine Qt rfl ?_
  refine Qn ?_
  refine Q2 ?_
  refine Qc ?_
  refine Q5 ?_
  refine Qb (QI rfl rfl) ?_
  refine yM rfl ?_
  refine QE ?_
  exact QH (i + 1) (⟨hi2, hnx hO⟩) ((show l.length - (i + 1) < l.length - i by omega)) ⟨rfl, rfl, rfl, trivial⟩ (same)
 obtain rfl : i = l.length := by omega
 rw [List.take_length] at hA
 have hF : VN l = true := by unfold VN; rw [hA, decide_eq_true (by omega)]; rfl
 rw [hF]
 refine QK ?_
 refine Qx ?_
 refine Qx ?_
 refine Q8 ?_
 refine Qc ?_
 refine yR ?_
 refine yS rfl ?_
 refine yN ?_
 refine Qs ?_
 exact Qu rfl rfl fun w s => ⟨(), rfl, s.res (List.nil_sublist _) (by simp)⟩
end
section
open Go.RowKit
instance iU164_1 : TZero Tryz.prog 145 (.pointer none) := ⟨fun w => Tryz.zeroValue145 w⟩
theorem QqO (e : Nat) (op : ByteArray) (i c : Int) : QC Tryz.prog 95 [.iface 145 (.pointer (some ⟨e, 0, none⟩))].toArray [.rd (some ⟨e, 0, none⟩) (Yf op i c)] [] (fun u : Nat × Nat => .slice (some ⟨u.1, 0, none⟩) 1 u.2) (fun u => [.own (.slice (some ⟨u.1, 0, none⟩) 1 u.2) 1 9 1 [.string op]]) := by
 refine Qk Tryz.func95 rfl (n := 25) rfl rfl ?_
 intro W
 refine yR ?_
 refine yS rfl ?_
 refine yN ?_
 refine yR ?_
 refine yS rfl ?_
 refine yN ?_
 refine Qq ?_
 refine Ju 9 1 (xs := []) rfl ?_
 refine QS (fun (s : Value × Value × Nat × List Value × Nat) => s = (.iface 145 (.pointer (some ⟨e, 0, none⟩)), .slice none 0 0, 0, [], 1) ∨ ∃ g cc, s = (.iface 54 (.int .i64 c), .slice (some ⟨g, 0, none⟩) 1 cc, 1, [.string op], 0)) (fun (s : Value × Value × Nat × List Value × Nat) => [(0, s.1), (3, s.2.1)]) (fun (s : Value × Value × Nat × List Value × Nat) => [.own s.2.1 s.2.2.1 9 1 s.2.2.2.1, .rd (some ⟨e, 0, none⟩) (Yf op i c)]) (fun (s : Value × Value × Nat × List Value × Nat) => s.2.2.2.2) (.iface 145 (.pointer (some ⟨e, 0, none⟩)), .slice none 0 0, 0, [], 1) ((.inl rfl)) ⟨rfl, rfl, trivial⟩ (same) ?_
 rintro s hs
 rcases hs with rfl | ⟨g, cc, rfl⟩
 ·dsimp only
  refine Qq ?_
  refine yR ?_
  refine yM rfl ?_
  refine Qb (QlU rfl) ?_
  refine yM rfl ?_
  refine Qb (Qj rfl rfl) ?_
  refine Qb (Qj rfl rfl) ?_
  refine yS rfl ?_
  refine yS rfl ?_
  refine yN ?_
  refine Qd ?_
  refine yR ?_
  refine yM rfl ?_
  refine Qb (Ji rfl) ?_
  refine yN ?_
  refine Qt rfl ?_
  refine Qn ?_
  refine Qc ?_
  refine yR ?_
  refine yM rfl ?_
  refine yM rfl ?_
  refine Qb (QA rfl) ?_
  refine Qb (Qe rfl) ?_
  refine Qb (Qf rfl) ?_
  refine Qo (J8 rfl rfl) fun g19 => ?_
  refine Qo (Yo rfl rfl (k := 1)) fun ⟨g20, c20⟩ => ?_
  refine yS rfl ?_
  refine yN ?_
  refine Q5 ?_
  refine yM rfl ?_
  refine Qb (QA rfl) ?_
  refine Qb (Qe rfl) ?_
  refine Qb (Qf rfl) ?_
  refine yS rfl ?_
  refine QE ?_
  refine Q2 ?_
  rw [Nat.zero_add, List.nil_append]
  exact QH (.iface 54 (.int .i64 c), .slice (some ⟨g20, 0, none⟩) 1 c20, 1, [.string op], 0) ((.inr ⟨g20, c20, rfl⟩)) ((show 0 < 1 by decide)) ⟨rfl, rfl, trivial⟩ (same)
 dsimp only
 refine Qq ?_
 refine yR ?_
 refine yM rfl ?_
 refine Qb (QlV rfl) ?_
 refine yM rfl ?_
 refine Qb (Qj rfl rfl) ?_
 refine Qb (Qj rfl rfl) ?_
 refine yS rfl ?_
 refine yS rfl ?_
 refine yN ?_
 refine Qd ?_
 refine yR ?_
 refine yM rfl ?_
 refine Qb (Ji rfl) ?_
 refine yN ?_
 refine Qz rfl ?_
 refine yR ?_
 refine yM rfl ?_
 refine yS rfl ?_
 refine yN ?_
 refine Qs ?_
 refine Qr ?_
 refine Q3 ?_
 refine Qr ?_
 refine Q3 ?_
 exact Qu rfl rfl fun w s => ⟨(g, cc), rfl, (same (L' := [.own (.slice (some ⟨g, 0, none⟩) 1 cc) 1 9 1 [.string op]]) w s).res (List.Sublist.refl _) (by simp [Fa.wr])⟩
theorem Zr (op : ByteArray) (i : Int) : QC Tryz.prog 48 [.nilIface, .string op, .int .i64 i, .int .i64 0].toArray [] [] (fun _ : Unit => .bool false) (fun _ => []) := by
 refine Qk Tryz.func48 rfl (n := 50) rfl rfl ?_
 intro W
 refine yR ?_
 refine yS rfl ?_
 refine yN ?_
 refine Qd ?_
 refine yR ?_
 refine yM rfl ?_
 refine Qb (QG rfl rfl) ?_
 refine yN ?_
 refine Qz rfl ?_
 refine yR ?_
 refine yM rfl ?_
 refine Qb (Z4 rfl) ?_
 refine yS rfl ?_
 refine yN ?_
 refine Qs ?_
 refine Qr ?_
 exact Qu rfl rfl fun w s => ⟨(), rfl, s.res (List.nil_sublist _) (by simp)⟩
theorem QbP (e : Nat) (op : ByteArray) (i c : Int) (hc : c ≠ 0) : QC Tryz.prog 48 [.iface 145 (.pointer (some ⟨e, 0, none⟩)), .string op, .int .i64 i, .int .i64 c].toArray [ERT, .rd (some ⟨e, 0, none⟩) (Yf op i c)] [] (fun _ : Unit => .bool false) (fun _ => []) := by
 have hF := Qnb e op i c
 have hC := Qpv e op i c
 have hO := QqO e op i c
 refine Qk Tryz.func48 rfl (n := 50) rfl rfl ?_
 intro W
 refine yR ?_
 refine yS rfl ?_
 refine yN ?_
 refine Qd ?_
 refine yR ?_
 refine yM rfl ?_
 refine Qb (QG rfl rfl) ?_
 refine yN ?_
 refine Ys rfl (hc) ?_
 refine Qn ?_
 refine Qc ?_
 refine yR ?_
 refine yM rfl ?_
 refine Qh (hF.comes) rfl rfl rfl fun _ => ?_
 refine yM rfl ?_
 refine Qb (Qj rfl rfl) ?_
 refine Qb (Qj rfl rfl) ?_
 refine Qb (Qj rfl rfl) ?_
 refine yS rfl ?_
 refine yS rfl ?_
 refine yS rfl ?_
 refine yN ?_
 refine yR ?_
 refine yM rfl ?_
 refine Qb (YP rfl) ?_
 refine yM rfl ?_
 refine yM rfl ?_
 refine Qh (hC.comes) rfl rfl rfl fun _ => ?_
 refine yM rfl ?_
 refine Qb (Ql (QL rfl rfl) (decide_eq_false (fun h => h rfl))) ?_
 refine Qb (Qy rfl rfl) ?_
 refine yM rfl ?_
 refine yM rfl ?_
 refine yM rfl ?_
 refine Qb (Ql (Qrq rfl rfl) (show _ = false by rw [beq_self_eq_true]; rfl)) ?_
 refine Qb (Qy rfl rfl) ?_
 refine yM rfl ?_
 refine yM rfl ?_
 refine yM rfl ?_
 refine Qb (Ql (QL rfl rfl) (decide_eq_false (fun h => h rfl))) ?_
 refine Qb (Qy rfl rfl) ?_
 refine yM rfl ?_
 refine yM rfl ?_
 refine Qb (Ji rfl) ?_
 refine Qb (Qy rfl rfl) ?_
 refine yM rfl ?_
 refine yM rfl ?_
 refine Qh (hO.comes) rfl rfl rfl fun ⟨g46, c46⟩ => ?_
 dsimp only
 refine Qb (QF rfl) ?_
 refine Qb (Ql (QL rfl rfl) (show _ = false from rfl)) ?_
 refine Qb (Qy rfl rfl) ?_
 refine yS rfl ?_
 refine yN ?_
 refine Qs ?_
 exact Qu rfl rfl fun w s => ⟨(), rfl, s.res (List.nil_sublist _) (by simp)⟩
end
section
open Go.RowKit
abbrev ERZ (h : Zh) : Prop := RdZ h (some ⟨0, 0, none⟩) [rty 43]
theorem Qjk (m : List En) (key : B32) : ZD m key = (Ja m key).isSome := by
 unfold ZD Ja
 induction m with
 | nil => rfl
 | cons e m ih =>
  rw [List.any_cons, List.find?_cons]
  cases decide (e.key = key)
  ·simpa using ih
  rfl
theorem Qop {m : List En} {key : B32} (h : (Ja m key).isSome = false) : Js m key = m := Z6 fun e he hk => by
 have h1 : Ja m key = none := by cases hg : Ja m key with
  | none => rfl
  | some _ => rw [hg] at h; cases h
 exact absurd (decide_eq_true hk) (List.find?_eq_none.1 h1 e he)
section
variable (n : Nat) (hn : n ≤ 256) (gh gc t0 k : Nat) (hk : k ≤ 90000000) (h : Zh) [hT : RdZ h (some ⟨1, 0, none⟩) Jd] [hE : ERZ h] {m : List En} (hord : YI m) (hml : m.length ≤ 500) (hvm : Yr h m) (p : Option Addr) [ht : TrZ n h (mkT m 0) p] (B : Option Addr) (cB : Nat) [hB : RdZ h B (Ye m)] (hcB : m.length ≤ cB) (o : OpV) (hz : OpZ h o) (hf : ZV o = true)
abbrev DoX (n : Nat) (h : Zh) (m : List En) (k : Nat) : Type := {u : Zh × Option Addr × Nat × Option Addr × Nat // LeZ h u.1 ∧ TrZ n u.1 (mkT m 0) u.2.1 ∧ u.2.2.1 ≤ k + 600000 ∧ RdZ u.1 u.2.2.2.1 (Ye m) ∧ m.length ≤ u.2.2.2.2}
abbrev QbR (n gh gc t0 k : Nat) (h : Zh) (m : List En) (p B : Option Addr) (cB : Nat) (o : OpV) : Prop :=
 QC Tryz.prog 35 [.pointer (some ⟨t0, 0, none⟩), .slice B m.length cB, .agg o.cells.toArray].toArray [HR gh gc n] [.zone true h, CN gc k, JR t0 gh p] (fun u : DoX n h (doM m o) k => .tuple #[.slice u.1.2.2.2.1 (doM m o).length u.1.2.2.2.2, .bool false]) (fun u => [.zone true u.1.1, CN gc u.1.2.2.1, JR t0 gh u.1.2.1])
include hn hk hord hml hvm hcB hz hf
omit hvm in
theorem Qna (h0 : o.kind = 0) : QbR n gh gc t0 k h m p B cB o := by
 have hal : Alike m 0 := hord.alike
 have hkz : SlZ h o.key o.kb := hz.key
 have hvz : SlZ h o.val o.vb := hz.val
 have hkn := hkz.len
 have hvn := hvz.len
 have hff := (Vp hf).1
 have hRi := VC o.key o.val (by omega)
 rw [show JP o.key.n o.val.n = JP o.kb.length o.val.n by rw [hkn]] at hRi
 by_cases he : JP o.kb.length o.val.n = 0
 ·have hk32 := Qcg he
  have he' : JP o.kb.length o.vb.length = 0 := by rw [← hvn]; exact he
  have hdo : doM m o = qQ m ⟨⟨keyOf o.kb, o.val⟩, o.vb⟩ := by unfold doM; rw [if_pos h0, if_pos he']
  have hP := Qhz n hn gh gc t0 k (by omega) h hal (by omega) p o.key o.kb o.val o.vb he'
  rw [← hdo] at hP
  rw [he] at hRi
  have hkr : RdZ h o.key.A (bc o.kb) := hkz.rd
  have hOf := Qb1 o.kb o.key.A o.key.c hk32
  rw [← hkn] at hOf
  have hP2 := Qpb m B cB ⟨⟨keyOf o.kb, o.val⟩, o.vb⟩ (by omega)
  rw [← hdo] at hP2
  unfold QbR
  generalize doM m o = m' at *
  refine Qk Tryz.func35 rfl (n := 132) rfl rfl ?_
  intro W
  refine yR ?_
  refine Qo (Q9 rfl) fun g5 => ?_
  refine yS rfl ?_
  refine yS rfl ?_
  refine yN ?_
  refine Qd ?_
  refine yR ?_
  refine Qb (Qe rfl) ?_
  refine Qb (Qf rfl) ?_
  refine yN ?_
  refine Qq ?_
  refine yR ?_
  refine Qb (Ql (QG rfl rfl) (decide_eq_true h0)) ?_
  refine yS rfl ?_
  refine yN ?_
  refine Qz rfl ?_
  refine yR ?_
  refine Qb (Qe rfl) ?_
  refine Qb (Qf rfl) ?_
  refine Qb (Qe rfl) ?_
  refine Qb (Qf rfl) ?_
  refine Qh (hRi.comes) rfl rfl rfl fun _ => ?_
  refine yS rfl ?_
  refine yN ?_
  refine Qd ?_
  refine yR ?_
  refine yM rfl ?_
  refine Qb (Qe rfl) ?_
  refine Qb (Qf rfl) ?_
  refine Qb (Qe rfl) ?_
  refine Qb (Qf rfl) ?_
  refine Qh (hP.comes) rfl rfl rfl fun ⟨⟨h1, q, k1⟩, hle, htq, hk1⟩ => ?_
  dsimp only at hle htq hk1 ⊢
  have hkr1 : RdZ h1 o.key.A (bc o.kb) := hkr.mono hle
  have hB1 : RdZ h1 B (Ye m) := hB.mono hle
  refine yM rfl ?_
  refine Qh ((Zr Qj3 0).comes) rfl rfl rfl fun _ => ?_
  refine yN ?_
  refine Qt rfl ?_
  refine Qn ?_
  refine Qc ?_
  refine Qd ?_
  refine yR ?_
  refine yM rfl ?_
  refine Qb (QL rfl rfl) ?_
  refine yN ?_
  refine Qt rfl ?_
  refine Qn ?_
  refine Qc ?_
  refine Qd ?_
  refine Q1 [.zone true h1, .blk g5 o.cells 85] [] QJ (same) ?_
  refine Qa 0 rfl (Qi rfl) ?_
  refine Qa 1 rfl (Qe rfl) ?_
  refine Qp 2 rfl (Qf rfl) ?_
  refine Qa 4 rfl (Qe rfl) ?_
  refine Qp 5 rfl (Qf rfl) ?_
  refine Qv 3 ?_
  refine QR 3 rfl (hOf.comes) rfl rfl rfl (fun xx => same) fun _ => ?_
  refine Qv 6 ?_
  refine QR 6 rfl (hP2.comes) rfl rfl rfl (fun xx => same) fun ⟨A46, c46⟩ => ?_
  refine Qa 7 rfl (Q6 rfl) ?_
  refine Qa 8 rfl (Q6 rfl) ?_
  refine QB (by kernel_rfl) ?_
  refine Qc ?_
  dsimp only
  refine Jp (.slice A46 m'.length c46) fun z2 B3 c3 e3 hc3 _ _ hz3 hr3 => ?_
  obtain rfl : A46 = B3 := by injection e3
  obtain rfl : c46 = c3 := by injection e3
  refine Qs ?_
  refine Q3 ?_
  refine Qr ?_
  exact QO rfl rfl rfl fun w s => ⟨⟨(z2, q, k1, A46, c46), hle.trans hz3, ⟨htq.ok.mono hz3⟩, by dsimp only; omega, hr3, hc3⟩, rfl, (same (L' := [.zone true z2, CN gc k1, JR t0 gh q]) w s).res (List.Sublist.refl _) (by simp [Fa.wr])⟩
 have he' : ¬ JP o.kb.length o.vb.length = 0 := by rw [← hvn]; exact he
 have hdo : doM m o = m := by unfold doM; rw [if_pos h0, if_neg he']
 have hPb := Qkr t0 h o.key o.kb o.val he
 have hW := fun g => QbP g Qj3 0 (JP o.kb.length o.val.n) he
 unfold QbR
 rw [hdo]
 generalize JP o.kb.length o.val.n = e at *
 refine Qk Tryz.func35 rfl (n := 132) rfl rfl ?_
 intro W
 refine yR ?_
 refine Qo (Q9 rfl) fun g5 => ?_
 refine yS rfl ?_
 refine yS rfl ?_
 refine yN ?_
 refine Qd ?_
 refine yR ?_
 refine Qb (Qe rfl) ?_
 refine Qb (Qf rfl) ?_
 refine yN ?_
 refine Qq ?_
 refine yR ?_
 refine Qb (Ql (QG rfl rfl) (decide_eq_true h0)) ?_
 refine yS rfl ?_
 refine yN ?_
 refine Qz rfl ?_
 refine yR ?_
 refine Qb (Qe rfl) ?_
 refine Qb (Qf rfl) ?_
 refine Qb (Qe rfl) ?_
 refine Qb (Qf rfl) ?_
 refine Qh (hRi.comes) rfl rfl rfl fun _ => ?_
 refine yS rfl ?_
 refine yN ?_
 refine Qd ?_
 refine yR ?_
 refine yM rfl ?_
 refine Qb (Qe rfl) ?_
 refine Qb (Qf rfl) ?_
 refine Qb (Qe rfl) ?_
 refine Qb (Qf rfl) ?_
 refine Qh (hPb.comes) rfl rfl rfl fun g33 => ?_
 refine yM rfl ?_
 refine Qh ((hW g33).comes) rfl rfl rfl fun _ => ?_
 refine yN ?_
 refine Qt rfl ?_
 refine Qn ?_
 refine Qc ?_
 refine Qd ?_
 refine yR ?_
 refine yM rfl ?_
 refine Qb (QL rfl rfl) ?_
 refine yN ?_
 refine Yz rfl (he) ?_
 refine yR ?_
 refine yM rfl ?_
 refine yS rfl ?_
 refine yS rfl ?_
 refine yN ?_
 refine Qs ?_
 refine Qr ?_
 refine Q3 ?_
 refine Qr ?_
 exact QO rfl rfl rfl fun w s => ⟨⟨(h, p, k, B, cB), LeZ.refl h, ht, by dsimp only; omega, hB, hcB⟩, rfl, (same (L' := [.zone true h, CN gc k, JR t0 gh p]) w s).res (List.Sublist.refl _) (by simp [Fa.wr])⟩
omit hn hk hT in
theorem QmZ (h1 : o.kind = 1) : QbR n gh gc t0 k h m p B cB o := by
 have hal : Alike m 0 := hord.alike
 have hkz : SlZ h o.key o.kb := hz.key
 have hkn := hkz.len
 have hff := (Vp hf).1
 have hdo : doM m o = m := by unfold doM; rw [if_neg (by omega), if_pos h1]
 have hRi := VC o.key ⟨none, 0, 0⟩ (by omega)
 rw [show JP o.key.n (⟨none, 0, 0⟩ : Sl).n = if o.kb.length = 32 then 0 else 2 by unfold JP; rw [hkn]; rfl] at hRi
 unfold QbR
 rw [hdo]
 by_cases hk32 : o.kb.length = 32
 ·rw [if_pos hk32] at hRi
  have hkr : RdZ h o.key.A (bc o.kb) := hkz.rd
  have hOf := Qb1 o.kb o.key.A o.key.c hk32
  rw [← hkn] at hOf
  have hG := Qnl n gh t0 h hal p o.key o.kb hk32 (fun e he => Nat.le_trans (hvm e he).2 (by decide))
  have hG2 := Qke m B cB (keyOf o.kb) (by omega)
  obtain ⟨hsz, hsl⟩ := Qef hvm (keyOf o.kb)
  have hsn := hsz.len
  have hsr := hsz.rd
  generalize Ja m (keyOf o.kb) = x at *
  have hSm := fun A c => QeL (JQ x) A (QcR x).A c (QcR x).c (by omega)
  generalize JQ x = vb at *
  generalize QcR x = sv at *
  obtain ⟨vA, vn, vc⟩ := sv
  dsimp only at hsn hsr hSm hG2
  subst hsn
  refine Qk Tryz.func35 rfl (n := 132) rfl rfl ?_
  intro W
  refine yR ?_
  refine Qo (Q9 rfl) fun g5 => ?_
  refine yS rfl ?_
  refine yS rfl ?_
  refine yN ?_
  refine Qd ?_
  refine yR ?_
  refine Qb (Qe rfl) ?_
  refine Qb (Qf rfl) ?_
  refine yN ?_
  refine Qq ?_
  refine yR ?_
  refine Qb (Ql (QG rfl rfl) (decide_eq_false (by omega))) ?_
  refine yS rfl ?_
  refine yN ?_
  refine Qt rfl ?_
  refine Qd ?_
  refine yR ?_
  refine Qb (Ql (QG rfl rfl) (decide_eq_true h1)) ?_
  refine yS rfl ?_
  refine yN ?_
  refine Qz rfl ?_
  refine Qn ?_
  refine Qc ?_
  refine Qz rfl ?_
  refine yR ?_
  refine Qb (Qe rfl) ?_
  refine Qb (Qf rfl) ?_
  refine Qh (hRi.comes) rfl rfl rfl fun _ => ?_
  refine yS rfl ?_
  refine yN ?_
  refine yR ?_
  refine yS rfl ?_
  refine yN ?_
  refine yR ?_
  refine yS rfl ?_
  refine yN ?_
  refine Qd ?_
  refine yR ?_
  refine yM rfl ?_
  refine Qb (QG rfl rfl) ?_
  refine yN ?_
  refine Qz rfl ?_
  refine Q5 ?_
  refine yM rfl ?_
  refine Qb (Qe rfl) ?_
  refine Qb (Qf rfl) ?_
  refine Qh (hOf.comes) rfl rfl rfl fun _ => ?_
  refine Qh (hG2.comes) rfl rfl rfl fun _ => ?_
  refine yM rfl ?_
  refine Qb (Qj rfl rfl) ?_
  refine Qb (Qj rfl rfl) ?_
  refine yS rfl ?_
  refine yS rfl ?_
  refine yN ?_
  refine Qd ?_
  refine yR ?_
  refine Qb (Qe rfl) ?_
  refine Qb (Qf rfl) ?_
  refine Qb (Ql (QG rfl rfl) (decide_eq_true h1)) ?_
  refine yN ?_
  refine Qz rfl ?_
  refine yR ?_
  refine yM rfl ?_
  refine Qb (Qe rfl) ?_
  refine Qb (Qf rfl) ?_
  refine Qh (hG.comes) rfl rfl rfl fun ⟨A70, c70⟩ => ?_
  dsimp only
  refine yM rfl ?_
  refine Qb (Qj rfl rfl) ?_
  refine Qb (Qj rfl rfl) ?_
  refine Qb (Qj rfl rfl) ?_
  refine yS rfl ?_
  refine yS rfl ?_
  refine yS rfl ?_
  refine yN ?_
  refine yR ?_
  refine yM rfl ?_
  refine yM rfl ?_
  refine yM rfl ?_
  refine Qh ((Zr Qji 0).comes) rfl rfl rfl fun _ => ?_
  refine yM rfl ?_
  refine yM rfl ?_
  refine yM rfl ?_
  refine Qb (Ql (QfU rfl rfl) (show _ = false by simp)) ?_
  refine Qb (Qy rfl rfl) ?_
  refine yM rfl ?_
  refine yM rfl ?_
  refine yM rfl ?_
  refine Qh ((hSm A70 c70).comes) rfl rfl rfl fun _ => ?_
  refine Qb (Ji rfl) ?_
  refine Qb (Qy rfl rfl) ?_
  refine yS rfl ?_
  refine yS rfl ?_
  refine yN ?_
  refine Qs ?_
  refine Qr ?_
  refine Q3 ?_
  refine Qr ?_
  exact QO rfl rfl rfl fun w s => ⟨⟨(h, p, k, B, cB), LeZ.refl h, ht, by dsimp only; omega, hB, hcB⟩, rfl, (same (L' := [.zone true h, CN gc k, JR t0 gh p]) w s).res (List.Sublist.refl _) (by simp [Fa.wr])⟩
 rw [if_neg hk32] at hRi
 have hGb := Qkp t0 h o.key o.kb hk32
 have hSm := QeL [] none none 0 0 (by decide)
 rw [show bc [] = ([] : List Value) from rfl] at hSm
 refine Qk Tryz.func35 rfl (n := 132) rfl rfl ?_
 intro W
 refine yR ?_
 refine Qo (Q9 rfl) fun g5 => ?_
 refine yS rfl ?_
 refine yS rfl ?_
 refine yN ?_
 refine Qd ?_
 refine yR ?_
 refine Qb (Qe rfl) ?_
 refine Qb (Qf rfl) ?_
 refine yN ?_
 refine Qq ?_
 refine yR ?_
 refine Qb (Ql (QG rfl rfl) (decide_eq_false (by omega))) ?_
 refine yS rfl ?_
 refine yN ?_
 refine Qt rfl ?_
 refine Qd ?_
 refine yR ?_
 refine Qb (Ql (QG rfl rfl) (decide_eq_true h1)) ?_
 refine yS rfl ?_
 refine yN ?_
 refine Qz rfl ?_
 refine Qn ?_
 refine Qc ?_
 refine Qz rfl ?_
 refine yR ?_
 refine Qb (Qe rfl) ?_
 refine Qb (Qf rfl) ?_
 refine Qh (hRi.comes) rfl rfl rfl fun _ => ?_
 refine yS rfl ?_
 refine yN ?_
 refine yR ?_
 refine yS rfl ?_
 refine yN ?_
 refine yR ?_
 refine yS rfl ?_
 refine yN ?_
 refine Qd ?_
 refine yR ?_
 refine yM rfl ?_
 refine Qb (QG rfl rfl) ?_
 refine yN ?_
 refine Qt rfl ?_
 refine Qn ?_
 refine Qc ?_
 refine Qd ?_
 refine yR ?_
 refine Qb (Qe rfl) ?_
 refine Qb (Qf rfl) ?_
 refine Qb (Ql (QG rfl rfl) (decide_eq_true h1)) ?_
 refine yN ?_
 refine Qz rfl ?_
 refine yR ?_
 refine yM rfl ?_
 refine Qb (Qe rfl) ?_
 refine Qb (Qf rfl) ?_
 refine Qh (hGb.comes) rfl rfl rfl fun g70 => ?_
 refine yM rfl ?_
 refine Qb (Qj rfl rfl) ?_
 refine Qb (Qj rfl rfl) ?_
 refine Qb (Qj rfl rfl) ?_
 refine yS rfl ?_
 refine yS rfl ?_
 refine yS rfl ?_
 refine yN ?_
 refine yR ?_
 refine yM rfl ?_
 refine yM rfl ?_
 refine yM rfl ?_
 refine Qh ((QbP g70 Qji 0 2 (by decide)).comes) rfl rfl rfl fun _ => ?_
 refine yM rfl ?_
 refine yM rfl ?_
 refine yM rfl ?_
 refine Qb (Ql (QfU rfl rfl) rfl) ?_
 refine Qb (Qy rfl rfl) ?_
 refine yM rfl ?_
 refine yM rfl ?_
 refine yM rfl ?_
 refine Qh (hSm.comes) rfl rfl rfl fun _ => ?_
 refine Qb (Ji rfl) ?_
 refine Qb (Qy rfl rfl) ?_
 refine yS rfl ?_
 refine yS rfl ?_
 refine yN ?_
 refine Qs ?_
 refine Qr ?_
 refine Q3 ?_
 refine Qr ?_
 exact QO rfl rfl rfl fun w s => ⟨⟨(h, p, k, B, cB), LeZ.refl h, ht, by dsimp only; omega, hB, hcB⟩, rfl, (same (L' := [.zone true h, CN gc k, JR t0 gh p]) w s).res (List.Sublist.refl _) (by simp [Fa.wr])⟩
theorem QmY (h2 : o.kind = 2) : QbR n gh gc t0 k h m p B cB o := by
 have hal : Alike m 0 := hord.alike
 have hkz : SlZ h o.key o.kb := hz.key
 have hkn := hkz.len
 have hff := (Vp hf).1
 have hdo : doM m o = if o.kb.length = 32 then Js m (keyOf o.kb) else m := by unfold doM; rw [if_neg (by omega), if_neg (by omega), if_pos h2]
 have hRi := VC o.key ⟨none, 0, 0⟩ (by omega)
 rw [show JP o.key.n (⟨none, 0, 0⟩ : Sl).n = if o.kb.length = 32 then 0 else 2 by unfold JP; rw [hkn]; rfl] at hRi
 unfold QbR
 rw [hdo]
 by_cases hk32 : o.kb.length = 32
 ·rw [if_pos hk32] at hRi ⊢
  have hkr : RdZ h o.key.A (bc o.kb) := hkz.rd
  have hOf := Qb1 o.kb o.key.A o.key.c hk32
  rw [← hkn] at hOf
  have hD := Qnk n hn gh gc t0 k (by omega) h hal (by omega) p o.key o.kb hk32
  have hG2 := Qke m B cB (keyOf o.kb) (by omega)
  have hRm := QbT m B cB (keyOf o.kb) (by omega)
  have hno := fun hh => Qop (m := m) (key := keyOf o.kb) hh
  rw [Qjk] at hD
  generalize Ja m (keyOf o.kb) = x at *
  generalize x.isSome = sm at *
  generalize QcR x = sv at *
  generalize Js m (keyOf o.kb) = m' at *
  refine Qk Tryz.func35 rfl (n := 132) rfl rfl ?_
  intro W
  refine yR ?_
  refine Qo (Q9 rfl) fun g5 => ?_
  refine yS rfl ?_
  refine yS rfl ?_
  refine yN ?_
  refine Qd ?_
  refine yR ?_
  refine Qb (Qe rfl) ?_
  refine Qb (Qf rfl) ?_
  refine yN ?_
  refine Qq ?_
  refine yR ?_
  refine Qb (Ql (QG rfl rfl) (decide_eq_false (by omega))) ?_
  refine yS rfl ?_
  refine yN ?_
  refine Qt rfl ?_
  refine Qd ?_
  refine yR ?_
  refine Qb (Ql (QG rfl rfl) (decide_eq_false (by omega))) ?_
  refine yS rfl ?_
  refine yN ?_
  refine Qt rfl ?_
  refine Q5 ?_
  refine Qb (Ql (QG rfl rfl) (decide_eq_true h2)) ?_
  refine yS rfl ?_
  refine yN ?_
  refine Qz rfl ?_
  refine yR ?_
  refine Qb (Qe rfl) ?_
  refine Qb (Qf rfl) ?_
  refine Qh (hRi.comes) rfl rfl rfl fun _ => ?_
  refine yS rfl ?_
  refine yN ?_
  refine yR ?_
  refine yS rfl ?_
  refine yN ?_
  refine yR ?_
  refine yS rfl ?_
  refine yN ?_
  refine Qd ?_
  refine yR ?_
  refine yM rfl ?_
  refine Qb (QG rfl rfl) ?_
  refine yN ?_
  refine Qz rfl ?_
  refine Q5 ?_
  refine yM rfl ?_
  refine Qb (Qe rfl) ?_
  refine Qb (Qf rfl) ?_
  refine Qh (hOf.comes) rfl rfl rfl fun _ => ?_
  refine Qh (hG2.comes) rfl rfl rfl fun _ => ?_
  refine yM rfl ?_
  refine Qb (Qj rfl rfl) ?_
  refine Qb (Qj rfl rfl) ?_
  refine yS rfl ?_
  refine yS rfl ?_
  refine yN ?_
  refine Qd ?_
  refine yR ?_
  refine Qb (Qe rfl) ?_
  refine Qb (Qf rfl) ?_
  refine Qb (Ql (QG rfl rfl) (decide_eq_false (by omega))) ?_
  refine yN ?_
  refine Qt rfl ?_
  refine Qn ?_
  refine Qc ?_
  refine yR ?_
  refine yM rfl ?_
  refine Qb (Qe rfl) ?_
  refine Qb (Qf rfl) ?_
  refine Qh (hD.comes) rfl rfl rfl fun ⟨⟨h1, q, k1⟩, hle, htq, hk1⟩ => ?_
  dsimp only at hle htq hk1 ⊢
  have hkr1 : RdZ h1 o.key.A (bc o.kb) := hkr.mono hle
  have hB1 : RdZ h1 B (Ye m) := hB.mono hle
  refine yM rfl ?_
  refine Qb (Qj rfl rfl) ?_
  refine Qb (Qj rfl rfl) ?_
  refine yS rfl ?_
  refine yS rfl ?_
  refine yN ?_
  refine Qd ?_
  refine yR ?_
  refine yM rfl ?_
  refine yN ?_
  cases sm
  ·have hm' : m' = m := hno rfl
   subst hm'
   refine Qt rfl ?_
   refine Qn ?_
   refine Qc ?_
   refine yR ?_
   refine yM rfl ?_
   refine yM rfl ?_
   refine yM rfl ?_
   refine Qh ((Zr QgB 0).comes) rfl rfl rfl fun _ => ?_
   refine yM rfl ?_
   refine yM rfl ?_
   refine yM rfl ?_
   refine Qb (Ql (QfU rfl rfl) rfl) ?_
   refine Qb (Qy rfl rfl) ?_
   refine yS rfl ?_
   refine yS rfl ?_
   refine yN ?_
   refine Qs ?_
   refine Q3 ?_
   refine Qr ?_
   exact QO rfl rfl rfl fun w s => ⟨⟨(h1, q, k1, B, cB), hle, htq, by dsimp only; omega, hB1, hcB⟩, rfl, (same (L' := [.zone true h1, CN gc k1, JR t0 gh q]) w s).res (List.Sublist.refl _) (by simp [Fa.wr])⟩
  refine Qz rfl ?_
  refine Q5 ?_
  refine yM rfl ?_
  refine Qb (Qe rfl) ?_
  refine Qb (Qf rfl) ?_
  refine Qh (hOf.comes) rfl rfl rfl fun _ => ?_
  refine Qh (hRm.comes) rfl rfl rfl fun ⟨A101, c101⟩ => ?_
  dsimp only
  refine Jp (.slice A101 m'.length c101) fun z2 B3 c3 e3 hc3 _ _ hz3 hr3 => ?_
  obtain rfl : A101 = B3 := by injection e3
  obtain rfl : c101 = c3 := by injection e3
  refine yS rfl ?_
  refine yN ?_
  refine yR ?_
  refine yM rfl ?_
  refine yM rfl ?_
  refine yM rfl ?_
  refine Qh ((Zr QgB 0).comes) rfl rfl rfl fun _ => ?_
  refine yM rfl ?_
  refine yM rfl ?_
  refine yM rfl ?_
  refine Qb (Ql (QfU rfl rfl) rfl) ?_
  refine Qb (Qy rfl rfl) ?_
  refine yS rfl ?_
  refine yS rfl ?_
  refine yN ?_
  refine Qs ?_
  refine Q3 ?_
  refine Qr ?_
  exact QO rfl rfl rfl fun w s => ⟨⟨(z2, q, k1, A101, c101), hle.trans hz3, ⟨htq.ok.mono hz3⟩, by dsimp only; omega, hr3, hc3⟩, rfl, (same (L' := [.zone true z2, CN gc k1, JR t0 gh q]) w s).res (List.Sublist.refl _) (by simp [Fa.wr])⟩
 rw [if_neg hk32] at hRi ⊢
 have hDb := Qko t0 h o.key o.kb hk32
 refine Qk Tryz.func35 rfl (n := 132) rfl rfl ?_
 intro W
 refine yR ?_
 refine Qo (Q9 rfl) fun g5 => ?_
 refine yS rfl ?_
 refine yS rfl ?_
 refine yN ?_
 refine Qd ?_
 refine yR ?_
 refine Qb (Qe rfl) ?_
 refine Qb (Qf rfl) ?_
 refine yN ?_
 refine Qq ?_
 refine yR ?_
 refine Qb (Ql (QG rfl rfl) (decide_eq_false (by omega))) ?_
 refine yS rfl ?_
 refine yN ?_
 refine Qt rfl ?_
 refine Qd ?_
 refine yR ?_
 refine Qb (Ql (QG rfl rfl) (decide_eq_false (by omega))) ?_
 refine yS rfl ?_
 refine yN ?_
 refine Qt rfl ?_
 refine Q5 ?_
 refine Qb (Ql (QG rfl rfl) (decide_eq_true h2)) ?_
 refine yS rfl ?_
 refine yN ?_
 refine Qz rfl ?_
 refine yR ?_
 refine Qb (Qe rfl) ?_
 refine Qb (Qf rfl) ?_
 refine Qh (hRi.comes) rfl rfl rfl fun _ => ?_
 refine yS rfl ?_
 refine yN ?_
 refine yR ?_
 refine yS rfl ?_
 refine yN ?_
 refine yR ?_
 refine yS rfl ?_
 refine yN ?_
 refine Qd ?_
 refine yR ?_
 refine yM rfl ?_
 refine Qb (QG rfl rfl) ?_
 refine yN ?_
 refine Qt rfl ?_
 refine Qn ?_
 refine Qc ?_
 refine Qd ?_
 refine yR ?_
 refine Qb (Qe rfl) ?_
 refine Qb (Qf rfl) ?_
 refine Qb (Ql (QG rfl rfl) (decide_eq_false (by omega))) ?_
 refine yN ?_
 refine Qt rfl ?_
 refine Qn ?_
 refine Qc ?_
 refine yR ?_
 refine yM rfl ?_
 refine Qb (Qe rfl) ?_
 refine Qb (Qf rfl) ?_
 refine Qh (hDb.comes) rfl rfl rfl fun g93 => ?_
 refine yM rfl ?_
 refine Qb (Qj rfl rfl) ?_
 refine Qb (Qj rfl rfl) ?_
 refine yS rfl ?_
 refine yS rfl ?_
 refine yN ?_
 refine Qd ?_
 refine yR ?_
 refine yM rfl ?_
 refine yN ?_
 refine Qt rfl ?_
 refine Qn ?_
 refine Qc ?_
 refine yR ?_
 refine yM rfl ?_
 refine yM rfl ?_
 refine yM rfl ?_
 refine Qh ((QbP g93 QgB 0 2 (by decide)).comes) rfl rfl rfl fun _ => ?_
 refine yM rfl ?_
 refine yM rfl ?_
 refine yM rfl ?_
 refine Qb (Ql (QfU rfl rfl) rfl) ?_
 refine Qb (Qy rfl rfl) ?_
 refine yS rfl ?_
 refine yS rfl ?_
 refine yN ?_
 refine Qs ?_
 refine Q3 ?_
 refine Qr ?_
 exact QO rfl rfl rfl fun w s => ⟨⟨(h, p, k, B, cB), LeZ.refl h, ht, by dsimp only; omega, hB, hcB⟩, rfl, (same (L' := [.zone true h, CN gc k, JR t0 gh p]) w s).res (List.Sublist.refl _) (by simp [Fa.wr])⟩
theorem QmX (h3 : o.kind ≠ 0 ∧ o.kind ≠ 1 ∧ o.kind ≠ 2) : QbR n gh gc t0 k h m p B cB o := by
 have hal : Alike m 0 := hord.alike
 have hus : ZN h o.us := hz.us
 have hfu := (Vp hf).2
 have hul := Qft hfu
 have huv := fun x hx => Qfu hfu (x := x) hx
 have hbn := hz.n
 have hrb : RdZ h o.batch.A (cbs o.us) := hz.rd
 have hcost := QiG (m.length + o.us.length) 0
 have hdo : doM m o = match YK o.us with | none => JA m o.us | some _ => m := by unfold doM; rw [if_neg h3.1, if_neg h3.2.1, if_neg h3.2.2]; cases YK o.us <;> rfl
 unfold QbR
 rw [hdo]
 rcases hR : YK o.us with _ | ⟨i, e⟩
 ·dsimp only
  have hC := QdB h o.us o.batch.A o.batch.c hus (by omega) (fun x hx => by have := (huv x hx).1; omega) none hR
  rw [← hbn] at hC
  have hA := Qi2 n hn gh gc k h hal p t0 o.us o.batch.A o.batch.c hus hR (by omega) (fun x hx => by have := (huv x hx).2; omega) (fun e he => (hvm e he).2) (by omega)
  rw [← hbn] at hA hcost
  have hA2 := fun (z : Zh) (hzz : LeZ h z) => @Qj6 z o.us o.batch.A o.batch.c (hrb.mono hzz) (hus.mono hzz) (fun x hx => by
   obtain ⟨j, hj, rfl⟩ := List.getElem_of_mem hx
   have := Qas (Qbq hR j hj)
   rwa [List.getD_eq_getElem?_getD, List.getElem?_eq_getElem hj] at this) m B cB (hB.mono hzz) hcB (by omega)
  rw [← hbn] at hA2
  generalize JA m o.us = m' at *
  refine Qk Tryz.func35 rfl (n := 132) rfl rfl ?_
  intro W
  refine yR ?_
  refine Qo (Q9 rfl) fun g5 => ?_
  refine yS rfl ?_
  refine yS rfl ?_
  refine yN ?_
  refine Qd ?_
  refine yR ?_
  refine Qb (Qe rfl) ?_
  refine Qb (Qf rfl) ?_
  refine yN ?_
  refine Qq ?_
  refine yR ?_
  refine Qb (Ql (QG rfl rfl) (decide_eq_false h3.1)) ?_
  refine yS rfl ?_
  refine yN ?_
  refine Qt rfl ?_
  refine Qd ?_
  refine yR ?_
  refine Qb (Ql (QG rfl rfl) (decide_eq_false h3.2.1)) ?_
  refine yS rfl ?_
  refine yN ?_
  refine Qt rfl ?_
  refine Q5 ?_
  refine Qb (Ql (QG rfl rfl) (decide_eq_false h3.2.2)) ?_
  refine yS rfl ?_
  refine yN ?_
  refine Qt rfl ?_
  refine Qn ?_
  refine Q2 ?_
  refine Qc ?_
  refine yR ?_
  refine Qb (Qe rfl) ?_
  refine Qb (Qf rfl) ?_
  refine Qh (hC.comes) rfl rfl rfl fun _ => ?_
  refine yM rfl ?_
  refine Qb (Qj rfl rfl) ?_
  refine Qb (Qj rfl rfl) ?_
  refine yS rfl ?_
  refine yS rfl ?_
  refine yN ?_
  refine Qd ?_
  refine yR ?_
  refine yM rfl ?_
  refine Qb (Qe rfl) ?_
  refine Qb (Qf rfl) ?_
  refine Qh (hA.comes) rfl rfl rfl fun ⟨⟨h1, q, k1⟩, hle, htq, hk1⟩ => ?_
  dsimp only at hle htq hk1 ⊢
  refine yM rfl ?_
  refine yM rfl ?_
  refine Qh ((Zr ZO 0).comes) rfl rfl rfl fun _ => ?_
  refine yN ?_
  refine Qt rfl ?_
  refine Qn ?_
  refine Qc ?_
  refine Qd ?_
  refine yR ?_
  refine yM rfl ?_
  refine Qb (QL rfl rfl) ?_
  refine yN ?_
  refine Qt rfl ?_
  refine Qn ?_
  refine Qc ?_
  refine yR ?_
  refine yM rfl ?_
  refine Qb (Qe rfl) ?_
  refine Qb (Qf rfl) ?_
  refine Qh ((hA2 h1 hle).comes) rfl rfl rfl fun ⟨⟨z2, B2, c2⟩, hz2, hr2, hc2⟩ => ?_
  dsimp only at hz2 hr2 hc2 ⊢
  refine yS rfl ?_
  refine yS rfl ?_
  refine yN ?_
  refine Qs ?_
  exact QO rfl rfl rfl fun w s => ⟨⟨(z2, q, k1, B2, c2), hle.trans hz2, ⟨htq.ok.mono hz2⟩, by dsimp only; omega, hr2, hc2⟩, rfl, (same (L' := [.zone true z2, CN gc k1, JR t0 gh q]) w s).res (List.Sublist.refl _) (by simp [Fa.wr])⟩
 dsimp only
 have he : e ≠ 0 := Qdn _ _ _ _ _ hR
 have hC := QdB h o.us o.batch.A o.batch.c hus (by omega) (fun x hx => by have := (huv x hx).1; omega) (some (i, e)) hR
 rw [← hbn] at hC
 have hA := Qg0 h t0 o.us o.batch.A o.batch.c hus i e hR (by omega)
 rw [← hbn] at hA
 refine Qk Tryz.func35 rfl (n := 132) rfl rfl ?_
 intro W
 refine yR ?_
 refine Qo (Q9 rfl) fun g5 => ?_
 refine yS rfl ?_
 refine yS rfl ?_
 refine yN ?_
 refine Qd ?_
 refine yR ?_
 refine Qb (Qe rfl) ?_
 refine Qb (Qf rfl) ?_
 refine yN ?_
 refine Qq ?_
 refine yR ?_
 refine Qb (Ql (QG rfl rfl) (decide_eq_false h3.1)) ?_
 refine yS rfl ?_
 refine yN ?_
 refine Qt rfl ?_
 refine Qd ?_
 refine yR ?_
 refine Qb (Ql (QG rfl rfl) (decide_eq_false h3.2.1)) ?_
 refine yS rfl ?_
 refine yN ?_
 refine Qt rfl ?_
 refine Q5 ?_
 refine Qb (Ql (QG rfl rfl) (decide_eq_false h3.2.2)) ?_
 refine yS rfl ?_
 refine yN ?_
 refine Qt rfl ?_
 refine Qn ?_
 refine Q2 ?_
 refine Qc ?_
 refine yR ?_
 refine Qb (Qe rfl) ?_
 refine Qb (Qf rfl) ?_
 refine Qh (hC.comes) rfl rfl rfl fun _ => ?_
 refine yM rfl ?_
 refine Qb (Qj rfl rfl) ?_
 refine Qb (Qj rfl rfl) ?_
 refine yS rfl ?_
 refine yS rfl ?_
 refine yN ?_
 refine Qd ?_
 refine yR ?_
 refine yM rfl ?_
 refine Qb (Qe rfl) ?_
 refine Qb (Qf rfl) ?_
 refine Qh (hA.comes) rfl rfl rfl fun g120 => ?_
 refine yM rfl ?_
 refine yM rfl ?_
 refine Qh ((QbP g120 ZO (i : Int) e he).comes) rfl rfl rfl fun _ => ?_
 refine yN ?_
 refine Qt rfl ?_
 refine Qn ?_
 refine Qc ?_
 refine Qd ?_
 refine yR ?_
 refine yM rfl ?_
 refine Qb (QL rfl rfl) ?_
 refine yN ?_
 refine Yz rfl (he) ?_
 refine yR ?_
 refine yM rfl ?_
 refine yS rfl ?_
 refine yS rfl ?_
 refine yN ?_
 refine Qs ?_
 refine Qr ?_
 exact QO rfl rfl rfl fun w s => ⟨⟨(h, p, k, B, cB), LeZ.refl h, ht, by dsimp only; omega, hB, hcB⟩, rfl, (same (L' := [.zone true h, CN gc k, JR t0 gh p]) w s).res (List.Sublist.refl _) (by simp [Fa.wr])⟩
theorem Qr2 : QbR n gh gc t0 k h m p B cB o := by
 by_cases h0 : o.kind = 0
 ·exact Qna n hn gh gc t0 k hk h hord hml p B cB hcB o hz hf h0
 by_cases h1 : o.kind = 1
 ·exact QmZ n gh gc t0 k h hord hml hvm p B cB hcB o hz hf h1
 by_cases h2 : o.kind = 2
 ·exact QmY n hn gh gc t0 k hk h hord hml hvm p B cB hcB o hz hf h2
 exact QmX n hn gh gc t0 k hk h hord hml hvm p B cB hcB o hz hf ⟨h0, h1, h2⟩
end
end
section
open Go.RowKit
instance (priority := 5) iRd1App (X L : List Fa) (r : Fa) [h : Rd1 L r] : Rd1 (X ++ L) r := ⟨fun hw => by
 obtain ⟨h1, h2, h3⟩ := h.ok (hw.sub (List.sublist_append_right X L))
 exact ⟨h1, h2, fun k hk => let ⟨f, hf, hk'⟩ := h3 k hk; ⟨f, List.mem_append_right X hf, hk'⟩⟩⟩
end
section
open Go.RowKit
structure Lf where
 p : Option Addr
 d : Nat
 k : B32
 v : List UInt8
end
section
open Go.RowKit
structure EntOk (xs : List Lf) (us : List Seg) : Prop where
 len : us.length = xs.length
 val : us.map (fun u => u.2.2) = xs.map Lf.v
end
section
open Go.RowKit
section
variable (t0 gh : Nat) (p : Option Addr)
theorem Qhy : QC Tryz.prog 15 [.pointer (some ⟨t0, 0, none⟩)].toArray [.rd (some ⟨t0, 0, none⟩) [.pointer (some ⟨gh, 0, none⟩), .pointer p]] [] (fun _ : Unit => .pointer p) (fun _ => []) := by
 refine Qk Tryz.func15 rfl (n := 9) rfl rfl ?_
 intro W
 refine yR ?_
 refine yS rfl ?_
 refine yN ?_
 refine Qd ?_
 refine yR ?_
 refine yM rfl ?_
 refine Qb (J2 rfl rfl) ?_
 refine yN ?_
 refine Qt rfl ?_
 refine Qn ?_
 refine Qc ?_
 refine yR ?_
 refine yM rfl ?_
 refine Qb (QA rfl) ?_
 refine Qb (Qe rfl) ?_
 refine Qb (Qf rfl) ?_
 refine yS rfl ?_
 refine yN ?_
 refine Qs ?_
 exact Qu rfl rfl fun w s => ⟨(), rfl, s.res (List.nil_sublist _) (by simp)⟩
theorem Yj : QC Tryz.prog 22 [.pointer (some ⟨t0, 0, none⟩)].toArray [.rd (some ⟨t0, 0, none⟩) [.pointer (some ⟨gh, 0, none⟩), .pointer p]] [] (fun _ : Unit => .pointer (some ⟨gh, 0, none⟩)) (fun _ => []) := by
 refine Qk Tryz.func22 rfl (n := 9) rfl rfl ?_
 intro W
 refine yR ?_
 refine yS rfl ?_
 refine yN ?_
 refine Qd ?_
 refine yR ?_
 refine yM rfl ?_
 refine Qb (J2 rfl rfl) ?_
 refine yN ?_
 refine Qt rfl ?_
 refine Qn ?_
 refine Qc ?_
 refine yR ?_
 refine yM rfl ?_
 refine Qb (QA rfl) ?_
 refine Qb (Qe rfl) ?_
 refine Qb (Qf rfl) ?_
 refine yS rfl ?_
 refine yN ?_
 refine Qs ?_
 exact Qu rfl rfl fun w s => ⟨(), rfl, s.res (List.nil_sublist _) (by simp)⟩
section
variable (n : Nat) (h : Zh) (t : Tr) [ht : TrZ n h t p]
include ht
theorem Qh0 (hn : n ≤ 256) (gc k : Nat) (hk : k ≤ 1000000000000) : QC Tryz.prog 18 [.pointer (some ⟨t0, 0, none⟩)].toArray [HR gh gc n, .rd (some ⟨t0, 0, none⟩) [.pointer (some ⟨gh, 0, none⟩), .pointer p], .zone false h, TBL] [CN gc k] (fun _ : Unit => .agg (dgT n t).cells.toArray) (fun _ => [CN gc (k + if t.kind = 0 then 1 else 0)]) := by
 have hD := Yq n hn gh gc k hk h t p
 generalize k + (if t.kind = 0 then 1 else 0) = k1 at *
 refine Qk Tryz.func18 rfl (n := 15) rfl rfl ?_
 intro W
 refine yR ?_
 refine Qo (Q0) fun g2 => ?_
 refine yN ?_
 refine Qd ?_
 refine yR ?_
 refine yM rfl ?_
 refine Qb (J2 rfl rfl) ?_
 refine yN ?_
 refine Qt rfl ?_
 refine Qn ?_
 refine Qc ?_
 refine Qd ?_
 refine Q1 [.rd (some ⟨t0, 0, none⟩) [.pointer (some ⟨gh, 0, none⟩), .pointer p]] [] QJ (same) ?_
 refine Qa 0 rfl (Qi rfl) ?_
 refine Qa 1 rfl (QA rfl) ?_
 refine Qa 2 rfl (Qe rfl) ?_
 refine Qp 3 rfl (Qf rfl) ?_
 refine Qa 4 rfl (Qi rfl) ?_
 refine Qa 5 rfl (QA rfl) ?_
 refine Qa 6 rfl (Qe rfl) ?_
 refine Qp 7 rfl (Qf rfl) ?_
 refine Qv 8 ?_
 refine QR 8 rfl (hD.comes) rfl rfl rfl (fun xx => same) fun _ => ?_
 refine Qv 9 ?_
 refine J4 9 rfl (Qw rfl rfl) ?_
 refine Qc ?_
 refine Qs ?_
 exact Qu rfl (QZ rfl) fun w s => ⟨(), rfl, (same (L' := [CN gc k1]) w s).res (List.Sublist.refl _) (by simp [Fa.wr])⟩
end
end
end
section
open Go.RowKit
end
section
open Go.RowKit
end
section
open Go.RowKit
abbrev zk (n : Nat) : List UInt8 := List.replicate n 0
theorem Yn {z : Zh} {g n c : Nat} {l : List UInt8} (hr : RdZ z (some ⟨g, 0, none⟩) (bc l)) (hl : n = l.length) (hc : n ≤ c) : SlZ z ⟨some ⟨g, 0, none⟩, n, c⟩ l := ⟨hl, hc, (fun h => by cases h), hr⟩
end
section
open Go.RowKit
def Vh (l : List OpV) (m : List En) (i : Nat) : List En := doL (l.take i) m
theorem Qgb (l : List OpV) (m : List En) : Vh l m l.length = doL l m := by unfold Vh; rw [List.take_length]
theorem Z9 {l : List OpV} {m : List En} {i : Nat} (h : i < l.length) : Vh l m (i + 1) = doM (Vh l m i) (l.getD i zOp) := by
 unfold Vh doL
 rw [JD (Jz zOp h), List.foldl_append]
 rfl
theorem QcF {l : List OpV} {m : List En} (hm : YI m) : ∀ i, i ≤ l.length → YI (Vh l m i)
 | 0, _ => hm
 | i + 1, h => by rw [Z9 h]; exact Qn0 (QcF hm i (by omega)) _
theorem QbG {l : List OpV} (h : VN l = true) : l.length ≤ 12 ∧ ∀ x ∈ l, ZV x = true := by
 unfold VN at h
 rw [Bool.and_eq_true] at h
 exact ⟨of_decide_eq_true h.1, List.all_eq_true.1 h.2⟩
theorem Qed {l : List OpV} (h : VN l = true) {i : Nat} (hi : i < l.length) : ZV (l.getD i zOp) = true := (QbG h).2 _ (List.mem_of_getElem? (Jz zOp hi))
theorem QcE {l : List OpV} {m : List En} (hf : VN l = true) : ∀ i, i ≤ l.length → (Vh l m i).length ≤ m.length + 20 * i
 | 0, _ => Nat.le_refl _
 | i + 1, h => by
  rw [Z9 h]
  have h1 := Qnz (m := Vh l m i) (Qed hf h)
  have h2 := QcE (m := m) hf i (by omega)
  omega
theorem Qbd {h : Zh} {l : List OpV} {m : List En} (hm : Yr h m) (hz : QdQ h l) (hf : VN l = true) : ∀ i, i ≤ l.length → Yr h (Vh l m i)
 | 0, _ => hm
 | i + 1, hi => by
  rw [Z9 hi]
  exact QkM (Qbd hm hz hf i (by omega)) (hz _ (List.mem_of_getElem? (Jz zOp hi))) (Qed hf hi)
structure RunZ (n : Nat) (h : Zh) (m : List En) (K : Nat) (x : Zh × Option Addr × Nat × Option Addr × Nat) : Prop where
 le : LeZ h x.1
 tr : TrZ n x.1 (mkT m 0) x.2.1
 cnt : x.2.2.1 ≤ K
 rd : RdZ x.1 x.2.2.2.1 (Ye m)
 cap : m.length ≤ x.2.2.2.2
theorem RunZ.start {n : Nat} {h : Zh} : RunZ n h [] 0 (h, none, 0, none, 0) := ⟨LeZ.refl h, by dsimp only; rw [Jx]; exact ⟨rfl⟩, Nat.le_refl _, RdZ.nil _ _, Nat.le_refl _⟩
theorem RunZ.start0 {n : Nat} {h : Zh} {l : List OpV} : RunZ n h (Vh l [] 0) (0 * 600001) (h, none, 0, none, 0) := by rw [Nat.zero_mul]; exact RunZ.start
theorem RunZ.step {n : Nat} {h : Zh} {m m' : List En} {K : Nat} {x : Zh × Option Addr × Nat × Option Addr × Nat} (r : RunZ n h m K x) (u : DoX n x.1 m' x.2.2.1) : RunZ n h m' (K + 600000) u.1 := by
 obtain ⟨⟨z, q, k, B, c⟩, h1, h2, h3, h4, h5⟩ := u
 have := r.cnt
 exact ⟨r.le.trans h1, h2, by dsimp only at h3 ⊢; omega, h4, h5⟩
theorem RunZ.on {n : Nat} {h : Zh} {m : List En} {K : Nat} {x : Zh × Option Addr × Nat × Option Addr × Nat} (r : RunZ n h m K x) {z : Zh} (hz : LeZ x.1 z) {k : Nat} (hk : k ≤ x.2.2.1 + 1) : RunZ n h m (K + 1) (z, x.2.1, k, x.2.2.2.1, x.2.2.2.2) := by
 have := r.cnt
 exact ⟨r.le.trans hz, ⟨r.tr.ok.mono hz⟩, by dsimp only; omega, r.rd.mono hz, r.cap⟩
theorem RunZ.more {n : Nat} {h : Zh} {m : List En} {K K' : Nat} {x : Zh × Option Addr × Nat × Option Addr × Nat} (r : RunZ n h m K x) (hk : K ≤ K') : RunZ n h m K' x := ⟨r.le, r.tr, Nat.le_trans r.cnt hk, r.rd, r.cap⟩
abbrev HB (gh gc n : Nat) : Fa := .blk gh [.pointer (some ⟨gc, 0, none⟩), .int .i64 (n : Int)] 170
end
section
open Go.RowKit
end
section
open Go.RowKit
def k5 : B32 := ⟨5 :: List.replicate 31 0, rfl⟩
end
section
open Go.RowKit
theorem Qjo {t : Tr} (h : ¬ t.kind ≠ 0) : t = .nil := by
 cases t with
 | nil => rfl
 | leaf k v => exact (h (by simp [Tr.kind])).elim
 | node l r => exact (h (by simp [Tr.kind])).elim
theorem Qnx {key : B32} {t : Tr} {D : Nat} (hD : D ≤ 256) : ∀ i, i ≤ D → dep (Ve (dsK key t D)) i = dsK key t i := fun i hi => by
 show (List.range i).filter _ = (List.range i).filter _
 apply List.filter_congr
 intro j hj
 have hj := List.mem_range.1 hj
 rw [qm _ j (by omega)]
 refine decide_eq_decide.2 ⟨fun h => by simpa using (List.mem_filter.1 h).2, fun h => List.mem_filter.2 ⟨List.mem_range.2 (by omega), by simpa using h⟩⟩
theorem QhH (key : B32) (t : Tr) (i : Nat) : ∀ j, ∃ r, dsK key t (i + j) = dsK key t i ++ r
 | 0 => ⟨[], by simp⟩
 | j + 1 => by
  obtain ⟨r, hr⟩ := QhH key t i j
  by_cases h : (Y6 key t (i + j)).kind ≠ 0
  ·exact ⟨r ++ [i + j], by rw [← Nat.add_assoc, Zx h, hr, List.append_assoc]⟩
  exact ⟨r, by rw [← Nat.add_assoc, QgF h, hr]⟩
theorem Qla (n : Nat) {key : B32} {t : Tr} {D : Nat} (hD : D ≤ 256) : Vo (Jj n Yw) (Ve (dsK key t D)) (rsK n key t D) D = (List.range D).map fun i => dgT n (Y6 key t i) := by
 rw [Qec]
 apply List.map_congr_left
 intro i hi
 have hi := List.mem_range.1 hi
 rw [qm _ i (by omega), Qnx hD i (by omega)]
 by_cases h : (Y6 key t i).kind ≠ 0
 ·have hm : i ∈ dsK key t D := List.mem_filter.2 ⟨List.mem_range.2 hi, by simpa using h⟩
  rw [decide_eq_true hm, if_pos rfl]
  obtain ⟨r, hr⟩ := QhH key t (i + 1) (D - (i + 1))
  rw [show i + 1 + (D - (i + 1)) = D by omega, Zx h] at hr
  unfold rsK
  rw [hr, List.getD_eq_getElem?_getD, List.map_append, List.map_append, List.append_assoc, List.getElem?_append_right (by simp)]
  simp
 have hm : i ∉ dsK key t D := fun hm => h (by simpa using (List.mem_filter.1 hm).2)
 rw [decide_eq_false hm, if_neg (by simp), Qjo h]
 rfl
theorem Qgq (n : Nat) {key : B32} {t : Tr} {D : Nat} (hw : WayTo key t D) (A : Option Addr) (c : Nat) : ∀ k, k ≤ D → Jj n (Jw n key ((List.range D).map fun i => dgT n (Y6 key t i)) (J9 (VB n key t D A c)) k) = dgT n (Jg key t (D - k))
 | 0, _ => by
  have he := hw.end_
  show Jj n (if (((Jg key t D).kind : Nat) : Int) = 1 then YO (qY n (Jg key t D)) else Yw) = dgT n (Jg key t D)
  generalize Jg key t D = x at *
  cases x with
  | nil => rfl
  | leaf k v => rfl
  | node l r => exact (he rfl).elim
 | k + 1, hk => by
  have ih := Qgq n hw A c k (by omega)
  have hlen : ((List.range D).map fun i => dgT n (Y6 key t i)).length = D := by simp
  have hi : D - 1 - k < D := by omega
  have hget : ((List.range D).map fun i => dgT n (Y6 key t i)).getD (D - 1 - k) QN = dgT n (Y6 key t (D - 1 - k)) := by
   rw [List.getD_eq_getElem?_getD, List.getElem?_map, List.getElem?_range hi]; rfl
  rw [Jw, hlen, hget, ih, show D - (k + 1) = D - 1 - k by omega, show D - k = (D - 1 - k) + 1 by omega]
  have hon := hw.on (D - 1 - k) hi
  unfold Y6
  show Jj n _ = _
  rw [show Jg key t (D - 1 - k + 1) = (Jg key t (D - 1 - k)).sub (Q4 key (D - 1 - k)) from rfl]
  generalize Jg key t (D - 1 - k) = x at *
  cases x with
  | nil => cases hon
  | leaf k v => cases hon
  | node l r => cases Q4 key (D - 1 - k) <;> rfl
end
end Go.Proofs.YtjhlbbgikccclaaGreatDoor
