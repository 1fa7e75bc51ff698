/- joined texts -/
import Derived.Test.YtjhlbbgikccclaaGreatDoorF16
set_option linter.all false
namespace Go.Proofs.YtjhlbbgikccclaaGreatDoor
section
open Go.RowKit
def vsU (x : CB) : Sl := if x.c.present then ⟨none, 0, 0⟩ else x.c.value
theorem Qpr {h : Zh} {x : CB} (hz : SlZ h x.c.value x.vb) : (vsU x).n = vlU x := by
 have := hz.len
 unfold vsU vlU
 split
 ·rfl
 exact this
theorem Qi8 (x : CB) : (chU x).st.cells = Change.cells ⟨keyOf x.kb, vsU x, x.c.present⟩ := by
 unfold chU vsU Chg.st
 cases x.c.present <;> rfl
def ksU (l : List CB) (i : Nat) : List B32 := (l.take i).map fun x => keyOf x.kb
theorem QnT {l : List CB} {i : Nat} (h : i ≤ l.length) : (ksU l i).length = i := by unfold ksU; rw [List.length_map, List.length_take]; omega
theorem Qly {l : List CB} {i : Nat} (h : i < l.length) : ksU l i ++ [keyOf (l.getD i zCB).kb] = ksU l (i + 1) := by
 unfold ksU
 rw [JD (Jz zCB h), List.map_append]
 rfl
theorem QnU {l : List CB} {i : Nat} (hi : i < l.length) (hz : ∀ j, j < i → YU l j = 0) (h0 : qU (l.getD i zCB) = 0) : YU l i = if keyOf (l.getD i zCB).kb ∈ ksU l i then 9 else 0 := by
 unfold YU
 rw [if_pos h0]
 have hk := Qcg h0
 have : (l.take i).any (fun y => decide (y.kb = (l.getD i zCB).kb)) = decide (keyOf (l.getD i zCB).kb ∈ ksU l i) := by
  rw [Bool.eq_iff_iff, decide_eq_true_iff, List.any_eq_true]
  unfold ksU
  constructor
  ·rintro ⟨y, hy, he⟩
   exact List.mem_map.2 ⟨y, hy, by rw [of_decide_eq_true he]⟩
  intro hm
  obtain ⟨y, hy, hk2⟩ := List.mem_map.1 hm
  refine ⟨y, hy, decide_eq_true ?_⟩
  obtain ⟨j, hj, hyj⟩ := List.getElem_of_mem hy
  rw [List.length_take] at hj
  have hyl : (l.getD j zCB) = y := by
   rw [List.getElem_take] at hyj
   rw [List.getD_eq_getElem?_getD, List.getElem?_eq_getElem (by omega)]
   exact hyj
  have h1 := Qas (hz j (by omega))
  rw [hyl] at h1
  exact Qdv h1 hk hk2
 rw [this]
 by_cases hm : keyOf (l.getD i zCB).kb ∈ ksU l i
 ·rw [if_pos hm, decide_eq_true hm]; rfl
 rw [if_neg hm, decide_eq_false hm]; rfl
theorem Qfp {l : List CB} {i : Nat} (h0 : qU (l.getD i zCB) ≠ 0) : YU l i = qU (l.getD i zCB) := by unfold YU; rw [if_neg h0]
def chT (l : List CB) (i : Nat) : List Chg := (l.take i).map chU
theorem Qk5 {l : List CB} {i : Nat} (h : i < l.length) : chT l i ++ [chU (l.getD i zCB)] = chT l (i + 1) := by
 unfold chT
 rw [JD (Jz zCB h), List.map_append]
 rfl
theorem Qcd (l : List Chg) (x : Chg) : Jh l ++ x.st.cells = Jh (l ++ [x]) := by unfold Jh; rw [List.flatMap_append, List.flatMap_singleton]; rfl
theorem Qoa {l l' : List Chg} (hn : (l.map Chg.key).Nodup) (hp : l'.Perm l) (h : l'.Pairwise fun x y => ¬ JS y.key x.key < 0) : VQ l' := by
 have hn2 : l'.Pairwise fun x y => x.key ≠ y.key := List.pairwise_map.1 ((hp.map _).nodup_iff.2 hn)
 exact List.pairwise_map.2 ((h.and hn2).imp fun ⟨h1, h2⟩ => (Vl _ _ h1).resolve_left fun e => h2 e.symm)
abbrev ChU (l : List CB) (r : Option (Nat × Int)) : Type := {u : Nat × Option Addr × Nat × List Chg // r = none → u.2.2.2.Perm (l.map chU) ∧ VQ u.2.2.2}
def Qr5 (l : List CB) : (r : Option (Nat × Int)) → ChU l r → Value
 | none, u => .tuple #[.slice u.1.2.1 u.1.2.2.2.length u.1.2.2.1, .nilIface]
 | some _, u => .tuple #[.slice none 0 0, .iface 145 (.pointer (some ⟨u.1.1, 0, none⟩))]
def QiA (l : List CB) : (r : Option (Nat × Int)) → ChU l r → List Fa
 | none, u => [.own (.slice u.1.2.1 u.1.2.2.2.length u.1.2.2.1) u.1.2.2.2.length 37 34 (Jh u.1.2.2.2)]
 | some (i, e), u => [.blk u.1.1 (Yf ZO (i : Int) e) 284]
theorem QcX (h : Zh) (l : List CB) (A : Option Addr) (c : Nat) [hr : RdZ h A (cbs l)] (hz : ZN h l) (hl : l.length ≤ 1000000) (r : Option (Nat × Int)) (hR : YK l = r) : QC Tryz.prog 56 [.slice A l.length c].toArray [.zone false h] [] (Qr5 l r) (QiA l r) := by
 refine Qk Tryz.func56 rfl (n := 59) rfl rfl ?_
 intro W
 refine yR ?_
 refine yS rfl ?_
 refine yS rfl ?_
 refine yN ?_
 refine yR ?_
 refine yS rfl ?_
 refine yN ?_
 refine yR ?_
 refine Qo (QjW) fun g10 => ?_
 refine yS rfl ?_
 refine yN ?_
 refine Qd ?_
 refine yR ?_
 refine yM rfl ?_
 refine Qb (QF rfl) ?_
 refine yM rfl ?_
 refine yN ?_
 refine Qq ?_
 refine Ju 37 34 (xs := []) rfl ?_
 refine QS (fun (s : Nat × Option Addr × Nat) => s.1 ≤ l.length ∧ ∀ j, j < s.1 → YU l j = 0) (fun (s : Nat × Option Addr × Nat) => [(13, .int .i64 (s.1 : Int)), (12, .int .i64 (l.length : Int)), (11, .slice A l.length c), (4, .slice s.2.1 s.1 s.2.2), (5, .map (some g10))]) (fun (s : Nat × Option Addr × Nat) => [.own (.slice s.2.1 s.1 s.2.2) s.1 37 34 (Jh (chT l s.1)), .obj g10 (.map (Vq (ksU l s.1)) (ksU l s.1).length), .zone false h]) (fun (s : Nat × Option Addr × Nat) => l.length - s.1) (0, none, 0) (⟨Nat.zero_le _, fun j hj => absurd hj (Nat.not_lt_zero j)⟩) ⟨rfl, rfl, rfl, rfl, rfl, trivial⟩ (same (L' := [.own (.slice none 0 0) 0 37 34 [], .obj g10 (.map (Vq []) 0), .zone false h])) ?_
 rintro ⟨i, A4, c4⟩ ⟨hi, hzz⟩
 dsimp only at hi hzz ⊢
 refine yR ?_
 refine Qb (QT rfl rfl) ?_
 refine yN ?_
 refine Qd ?_
 refine QU rfl (fun hlt => ?_) (fun hlt => ?_)
 ·have hi2 : i < l.length := by omega
  have hx := Jz zCB hi2
  obtain ⟨b, o, rfl, -⟩ := hr.at_ (i * 3) _ (JM hx 0 _ rfl)
  have hsome := JF (YU l) i
  have hz0 : ∀ j, 0 ≤ j → j < i → YU l j = 0 := fun j _ hj => hzz j hj
  have hE1 := fun h0 => Qfp (l := l) (i := i) h0
  have hE2 := fun h0 => QnU hi2 hzz h0
  have hsn := Qly hi2
  have hcs := Qk5 hi2
  have hzx := hz.get hi2
  have hcc := Qi8 (l.getD i zCB)
  have hkl := QnT (l := l) (i := i) (by omega)
  have hR2 : YU l i ≠ 0 → YK l = some (i, YU l i) := fun hne => hsome hne l.length 0 (Nat.zero_le _) (by omega) hz0
  have hnx : YU l i = 0 → ∀ j, j < i + 1 → YU l j = 0 := fun he j hj => by
   rcases Nat.lt_or_ge j i with h9 | h9
   ·exact hzz j h9
   obtain rfl : j = i := by omega
   exact he
  generalize l.getD i zCB = x at *
  have hzk : SlZ h x.c.key x.kb := hzx.1
  have hvn := Qpr hzx.2
  have hTE := QbV h x.c.key x.kb (vsU x)
  have hen : JP x.kb.length (vsU x).n = qU x := by unfold qU; rw [hvn]
  rw [hen] at hTE
  refine Qn ?_
  refine Qc ?_
  refine Qd ?_
  refine Qq ?_
  refine yR ?_
  refine yM rfl ?_
  refine Qb (QQ rfl rfl) ?_
  refine Qb (Jm rfl (out := x.c.cells) (Claim.cells_length _) (JM hx)) ?_
  refine Qo (Q0) fun g7 => ?_
  refine yS rfl ?_
  refine Q7 (Qw rfl rfl) ?_
  refine yN ?_
  refine Qd ?_
  refine yR ?_
  refine Qb (Qe rfl) ?_
  refine Qb (Qf rfl) ?_
  refine yN ?_
  cases hp : x.c.present
  ·rw [show vsU x = x.c.value by unfold vsU; rw [hp]; rfl] at *
   refine Qt rfl ?_
   refine Qn ?_
   refine Qc ?_
   refine yR ?_
   refine Qb (Qe rfl) ?_
   refine Qb (Qf rfl) ?_
   refine Qb (Qe rfl) ?_
   refine Qb (Qf rfl) ?_
   refine Qh (hTE.comes) rfl rfl rfl fun _ => ?_
   by_cases h0 : qU x = 0
   ·rw [h0]
    have hE3 := hE2 h0
    by_cases hm : keyOf x.kb ∈ ksU l i
    ·rw [if_pos hm] at hE3
     obtain rfl : some (i, (9 : Int)) = r := by rw [← hR, hR2 (by rw [hE3]; decide), hE3]
     refine yM rfl ?_
     refine Qb (Qj rfl rfl) ?_
     refine Qb (Qj rfl rfl) ?_
     refine Qo (Q0) fun g8 => ?_
     refine Q7 (Qw rfl rfl) ?_
     refine yS rfl ?_
     refine yN ?_
     refine Qd ?_
     refine yR ?_
     refine yM rfl ?_
     refine Qb (Ql (QG rfl rfl) (show _ = true from rfl)) ?_
     refine yM rfl ?_
     refine yM rfl ?_
     refine Qb (Qe rfl) ?_
     refine Qb (Qm rfl) ?_
     refine Qb (Ql (Z3 (c := (ksU l i).length) rfl rfl) (decide_eq_true hm)) ?_
     refine Qb (Qy rfl rfl) ?_
     refine yN ?_
     refine Qz rfl ?_
     refine Q5 ?_
     refine yS rfl ?_
     refine yN ?_
     refine Qd ?_
     refine yR ?_
     refine yM rfl ?_
     refine Qb (QL rfl rfl) ?_
     refine yN ?_
     refine Qz rfl ?_
     refine yR ?_
     refine yM rfl ?_
     refine yM rfl ?_
     refine Qh ((QaG ZO (i : Int) 9 (by decide)).comes) rfl rfl rfl fun g41 => ?_
     refine yS rfl ?_
     refine yS rfl ?_
     refine yN ?_
     refine Qs ?_
     refine Qr ?_
     refine Q3 ?_
     refine Qr ?_
     refine Qr ?_
     refine Q3 ?_
     refine Qr ?_
     exact QO rfl rfl rfl fun w s => ⟨⟨(g41, none, 0, []), fun h => by cases h⟩, rfl, (same (L' := [.blk g41 (Yf ZO (i : Int) 9) 284]) w s).res (List.Sublist.refl _) (by simp [Fa.wr, QiA])⟩
    rw [if_neg hm] at hE3
    refine yM rfl ?_
    refine Qb (Qj rfl rfl) ?_
    refine Qb (Qj rfl rfl) ?_
    refine Qo (Q0) fun g8 => ?_
    refine Q7 (Qw rfl rfl) ?_
    refine yS rfl ?_
    refine yN ?_
    refine Qd ?_
    refine yR ?_
    refine yM rfl ?_
    refine Qb (Ql (QG rfl rfl) (show _ = true from rfl)) ?_
    refine yM rfl ?_
    refine yM rfl ?_
    refine Qb (Qe rfl) ?_
    refine Qb (Qm rfl) ?_
    refine Qb (Ql (Z3 (c := (ksU l i).length) rfl rfl) (decide_eq_false hm)) ?_
    refine Qb (Qy rfl rfl) ?_
    refine yN ?_
    refine Qt rfl ?_
    refine Qn ?_
    refine Qc ?_
    refine Qd ?_
    refine yR ?_
    refine yM rfl ?_
    refine Qb (QL rfl rfl) ?_
    refine yN ?_
    refine Qt rfl ?_
    refine Qn ?_
    refine Qc ?_
    refine yR ?_
    refine yM rfl ?_
    refine Qb (Qe rfl) ?_
    refine Qb (Qm rfl) ?_
    refine Q7 (QdH rfl rfl rfl hm) ?_
    refine yN ?_
    refine Q5 ?_
    refine yM rfl ?_
    refine Qb (Qe rfl) ?_
    refine Qb (Qm rfl) ?_
    refine Qb (Qe rfl) ?_
    refine Qb (Qf rfl) ?_
    refine Qb (Qe rfl) ?_
    refine Qb (Qf rfl) ?_
    refine Qb (QD (out := Change.cells ⟨keyOf x.kb, x.c.value, x.c.present⟩) rfl) ?_
    refine Qo (J8 rfl rfl) fun g53 => ?_
    refine Qo (Yo rfl rfl (k := 34)) fun ⟨g54, c54⟩ => ?_
    refine yS rfl ?_
    refine QE ?_
    refine Q2 ?_
    refine Qc ?_
    refine Q5 ?_
    refine Qb (QI rfl rfl) ?_
    refine yM rfl ?_
    refine QE ?_
    rw [← hcc, Qcd, hcs, hsn]
    exact QH (i + 1, some ⟨g54, 0, none⟩, c54) (⟨hi2, hnx hE3⟩) ((show l.length - (i + 1) < l.length - i by omega)) ⟨rfl, rfl, rfl, rfl, rfl, trivial⟩ (same)
   have hE3 := hE1 h0
   obtain rfl : some (i, qU x) = r := by rw [← hR, hR2 (by rw [hE3]; exact h0), hE3]
   refine yM rfl ?_
   refine Qb (Qj rfl rfl) ?_
   refine Qb (Qj rfl rfl) ?_
   refine Qo (Q0) fun g8 => ?_
   refine Q7 (Qw rfl rfl) ?_
   refine yS rfl ?_
   refine yN ?_
   refine Qd ?_
   refine yR ?_
   refine yM rfl ?_
   refine Qb (Ql (QG rfl rfl) (decide_eq_false h0)) ?_
   refine yM rfl ?_
   refine Qg ?_
   refine Qg ?_
   refine Qg ?_
   refine Qg ?_
   refine Qb (Qy rfl rfl) ?_
   refine yN ?_
   refine Qt rfl ?_
   refine Qn ?_
   refine Qc ?_
   refine Qd ?_
   refine yR ?_
   refine yM rfl ?_
   refine Qb (QL rfl rfl) ?_
   refine yN ?_
   refine Yz rfl (h0) ?_
   refine yR ?_
   refine yM rfl ?_
   refine yM rfl ?_
   refine Qh ((QaG ZO (i : Int) (qU x) h0).comes) rfl rfl rfl fun g41 => ?_
   refine yS rfl ?_
   refine yS rfl ?_
   refine yN ?_
   refine Qs ?_
   refine Qr ?_
   refine Q3 ?_
   refine Qr ?_
   refine Qr ?_
   refine Q3 ?_
   refine Qr ?_
   exact QO rfl rfl rfl fun w s => ⟨⟨(g41, none, 0, []), fun h => by cases h⟩, rfl, (same (L' := [.blk g41 (Yf ZO (i : Int) (qU x)) 284]) w s).res (List.Sublist.refl _) (by simp [Fa.wr, QiA])⟩
  rw [show vsU x = ⟨none, 0, 0⟩ by unfold vsU; rw [hp]; rfl] at *
  refine Qz rfl ?_
  refine Q5 ?_
  refine Qb (Qe rfl) ?_
  refine Q7 (QV rfl rfl rfl) ?_
  refine yN ?_
  refine yR ?_
  refine Qb (Qe rfl) ?_
  refine Qb (Qf rfl) ?_
  refine Qb (Qe rfl) ?_
  refine Qb (Qf rfl) ?_
  refine Qh (hTE.comes) rfl rfl rfl fun _ => ?_
  by_cases h0 : qU x = 0
  ·rw [h0]
   have hE3 := hE2 h0
   by_cases hm : keyOf x.kb ∈ ksU l i
   ·rw [if_pos hm] at hE3
    obtain rfl : some (i, (9 : Int)) = r := by rw [← hR, hR2 (by rw [hE3]; decide), hE3]
    refine yM rfl ?_
    refine Qb (Qj rfl rfl) ?_
    refine Qb (Qj rfl rfl) ?_
    refine Qo (Q0) fun g8 => ?_
    refine Q7 (Qw rfl rfl) ?_
    refine yS rfl ?_
    refine yN ?_
    refine Qd ?_
    refine yR ?_
    refine yM rfl ?_
    refine Qb (Ql (QG rfl rfl) (show _ = true from rfl)) ?_
    refine yM rfl ?_
    refine yM rfl ?_
    refine Qb (Qe rfl) ?_
    refine Qb (Qm rfl) ?_
    refine Qb (Ql (Z3 (c := (ksU l i).length) rfl rfl) (decide_eq_true hm)) ?_
    refine Qb (Qy rfl rfl) ?_
    refine yN ?_
    refine Qz rfl ?_
    refine Q5 ?_
    refine yS rfl ?_
    refine yN ?_
    refine Qd ?_
    refine yR ?_
    refine yM rfl ?_
    refine Qb (QL rfl rfl) ?_
    refine yN ?_
    refine Qz rfl ?_
    refine yR ?_
    refine yM rfl ?_
    refine yM rfl ?_
    refine Qh ((QaG ZO (i : Int) 9 (by decide)).comes) rfl rfl rfl fun g41 => ?_
    refine yS rfl ?_
    refine yS rfl ?_
    refine yN ?_
    refine Qs ?_
    refine Qr ?_
    refine Q3 ?_
    refine Qr ?_
    refine Qr ?_
    refine Q3 ?_
    refine Qr ?_
    exact QO rfl rfl rfl fun w s => ⟨⟨(g41, none, 0, []), fun h => by cases h⟩, rfl, (same (L' := [.blk g41 (Yf ZO (i : Int) 9) 284]) w s).res (List.Sublist.refl _) (by simp [Fa.wr, QiA])⟩
   rw [if_neg hm] at hE3
   refine yM rfl ?_
   refine Qb (Qj rfl rfl) ?_
   refine Qb (Qj rfl rfl) ?_
   refine Qo (Q0) fun g8 => ?_
   refine Q7 (Qw rfl rfl) ?_
   refine yS rfl ?_
   refine yN ?_
   refine Qd ?_
   refine yR ?_
   refine yM rfl ?_
   refine Qb (Ql (QG rfl rfl) (show _ = true from rfl)) ?_
   refine yM rfl ?_
   refine yM rfl ?_
   refine Qb (Qe rfl) ?_
   refine Qb (Qm rfl) ?_
   refine Qb (Ql (Z3 (c := (ksU l i).length) rfl rfl) (decide_eq_false hm)) ?_
   refine Qb (Qy rfl rfl) ?_
   refine yN ?_
   refine Qt rfl ?_
   refine Qn ?_
   refine Qc ?_
   refine Qd ?_
   refine yR ?_
   refine yM rfl ?_
   refine Qb (QL rfl rfl) ?_
   refine yN ?_
   refine Qt rfl ?_
   refine Qn ?_
   refine Qc ?_
   refine yR ?_
   refine yM rfl ?_
   refine Qb (Qe rfl) ?_
   refine Qb (Qm rfl) ?_
   refine Q7 (QdH rfl rfl rfl hm) ?_
   refine yN ?_
   refine Q5 ?_
   refine yM rfl ?_
   refine Qb (Qe rfl) ?_
   refine Qb (Qm rfl) ?_
   refine Qb (Qe rfl) ?_
   refine Qb (Qf rfl) ?_
   refine Qb (Qe rfl) ?_
   refine Qb (Qf rfl) ?_
   refine Qb (QD (out := Change.cells ⟨keyOf x.kb, ⟨none, 0, 0⟩, x.c.present⟩) rfl) ?_
   refine Qo (J8 rfl rfl) fun g53 => ?_
   refine Qo (Yo rfl rfl (k := 34)) fun ⟨g54, c54⟩ => ?_
   refine yS rfl ?_
   refine QE ?_
   refine Q2 ?_
   refine Qc ?_
   refine Q5 ?_
   refine Qb (QI rfl rfl) ?_
   refine yM rfl ?_
   refine QE ?_
   rw [← hcc, Qcd, hcs, hsn]
   exact QH (i + 1, some ⟨g54, 0, none⟩, c54) (⟨hi2, hnx hE3⟩) ((show l.length - (i + 1) < l.length - i by omega)) ⟨rfl, rfl, rfl, rfl, rfl, trivial⟩ (same)
  have hE3 := hE1 h0
  obtain rfl : some (i, qU x) = r := by rw [← hR, hR2 (by rw [hE3]; exact h0), hE3]
  refine yM rfl ?_
  refine Qb (Qj rfl rfl) ?_
  refine Qb (Qj rfl rfl) ?_
  refine Qo (Q0) fun g8 => ?_
  refine Q7 (Qw rfl rfl) ?_
  refine yS rfl ?_
  refine yN ?_
  refine Qd ?_
  refine yR ?_
  refine yM rfl ?_
  refine Qb (Ql (QG rfl rfl) (decide_eq_false h0)) ?_
  refine yM rfl ?_
  refine Qg ?_
  refine Qg ?_
  refine Qg ?_
  refine Qg ?_
  refine Qb (Qy rfl rfl) ?_
  refine yN ?_
  refine Qt rfl ?_
  refine Qn ?_
  refine Qc ?_
  refine Qd ?_
  refine yR ?_
  refine yM rfl ?_
  refine Qb (QL rfl rfl) ?_
  refine yN ?_
  refine Yz rfl (h0) ?_
  refine yR ?_
  refine yM rfl ?_
  refine yM rfl ?_
  refine Qh ((QaG ZO (i : Int) (qU x) h0).comes) rfl rfl rfl fun g41 => ?_
  refine yS rfl ?_
  refine yS rfl ?_
  refine yN ?_
  refine Qs ?_
  refine Qr ?_
  refine Q3 ?_
  refine Qr ?_
  refine Qr ?_
  refine Q3 ?_
  refine Qr ?_
  exact QO rfl rfl rfl fun w s => ⟨⟨(g41, none, 0, []), fun h => by cases h⟩, rfl, (same (L' := [.blk g41 (Yf ZO (i : Int) (qU x)) 284]) w s).res (List.Sublist.refl _) (by simp [Fa.wr, QiA])⟩
 obtain rfl : i = l.length := by omega
 obtain rfl : none = r := by rw [← hR]; exact (qn _ _ _ (fun j _ hj => hzz j (by omega))).symm
 have hall : chT l l.length = l.map chU := by unfold chT; rw [List.take_length]
 rw [hall]
 have hS := Qi1 (l.map chU) A4 c4 (by rw [List.length_map]; exact hl)
 rw [List.length_map] at hS
 refine QK ?_
 refine Qx ?_
 refine Qx ?_
 refine Q8 ?_
 refine Qc ?_
 refine yR ?_
 refine yM rfl ?_
 refine Qh (hS.comes) rfl rfl rfl fun ⟨l', hp, ho⟩ => ?_
 have hlen : l.length = l'.length := by rw [hp.length_eq, List.length_map]
 have hOr := Qoa (by rw [List.map_map]; exact Qam hR) hp ho
 dsimp only
 clear hS
 refine yN ?_
 refine yR ?_
 refine yM rfl ?_
 refine yS rfl ?_
 refine yS rfl ?_
 refine yN ?_
 refine Qs ?_
 rw [hlen]
 exact QO rfl rfl rfl fun w s => ⟨⟨(0, A4, c4, l'), fun _ => ⟨hp, hOr⟩⟩, rfl, (same (L' := [.own (.slice A4 l'.length c4) l'.length 37 34 (Jh l')]) w s).res (List.Sublist.refl _) (by simp [Fa.wr, QiA])⟩
theorem Qgv (h : Zh) (l : List CB) (A : Option Addr) (c : Nat) [hr : RdZ h A (cbs l)] (hz : ZN h l) (hl : l.length ≤ 1000000) (hR : YK l = none) : QC Tryz.prog 56 [.slice A l.length c].toArray [.zone false h] [] (fun u : ChU l none => .tuple #[.slice u.1.2.1 u.1.2.2.2.length u.1.2.2.1, .nilIface]) (fun u => [.own (.slice u.1.2.1 u.1.2.2.2.length u.1.2.2.1) u.1.2.2.2.length 37 34 (Jh u.1.2.2.2)]) := QcX h l A c hz hl none hR
theorem QeF (h : Zh) (l : List CB) (A : Option Addr) (c : Nat) [hr : RdZ h A (cbs l)] (hz : ZN h l) (hl : l.length ≤ 1000000) (i : Nat) (e : Int) (hR : YK l = some (i, e)) : QC Tryz.prog 56 [.slice A l.length c].toArray [.zone false h] [] (fun u : ChU l (some (i, e)) => .tuple #[.slice none 0 0, .iface 145 (.pointer (some ⟨u.1.1, 0, none⟩))]) (fun u => [.blk u.1.1 (Yf ZO (i : Int) e) 284]) := QcX h l A c hz hl (some (i, e)) hR
end
section
open Go.RowKit Go.Extern.Stop Go.Stop Go.Extern
theorem Qfa : ∀ {l : List B32}, l.Pairwise ltK → QdZ l = 0
 | [], _ => rfl
 | [_], _ => rfl
 | a :: b :: l, h => by
  obtain ⟨h1, h2⟩ := List.pairwise_cons.1 h
  have h3 := Qej (h1 b (List.mem_cons_self ..))
  unfold QdZ
  rw [if_neg (by omega), if_neg (by omega)]
  exact Qfa h2
theorem AlC.zero (l : List Chg) (m : List En) : AlC l m 0 := fun _ _ _ _ _ hi => absurd hi (Nat.not_lt_zero _)
theorem QpB {h : Zh} {l : List CB} (hz : ZN h l) (hv : ∀ x ∈ l, x.vb.length ≤ 10000000) {l' : List Chg} (hp : l'.Perm (l.map chU)) : Qb9 h l' := fun c hc => by
 obtain ⟨x, hx, rfl⟩ := List.mem_map.1 (hp.mem_iff.1 hc)
 unfold chU
 cases x.c.present
 ·exact ⟨(hz x hx).2, hv x hx⟩
 exact ⟨QoC h, Nat.zero_le _⟩
theorem Qor (w : World) : (callMethod (rty 54) "Comparable" #[]).run Tryz.prog w = .ok (.value (.bool true)) w := by kernel_rfl
theorem Qr8 (w : World) : (binOp .eql 43 (.iface 54 (.int .i64 0)) (.iface 54 (.int .i64 0))).run Tryz.prog w = .ok (.bool true) w := by kernel_rfl
theorem Qqc {n : Nat} {D : List Deferred} {E : Env} {L : List Fa} {x y : Nat} {T' : TypeId} (hx : ev E (.tmp x) = some (.iface 54 (.int .i64 0))) (hy : ev E (.tmp y) = some (.iface 54 (.int .i64 0))) : QM Tryz.prog n D E L (.binOp .eql 43 (.tmp x) (.tmp y) T') (.bool true) := fun a w ka s o ho =>
 J7 ho (ka.ev hx) (ka.ev hy) rfl (Qr8 w)
theorem QkT : QC Tryz.prog 114 [.iface 54 (.int .i64 0), .iface 54 (.int .i64 0), .bool true].toArray [] [] (fun _ : Unit => .bool true) (fun _ => []) := by
 refine Qk Tryz.func114 rfl (n := 54) rfl rfl ?_
 intro W
 refine yR ?_
 refine yS rfl ?_
 refine yN ?_
 refine Qq ?_
 refine QS (fun (b : Bool) => True) (fun (b : Bool) => [(0, .iface 54 (.int .i64 0)), (1, .iface 54 (.int .i64 0)), (2, .bool true)]) (fun (b : Bool) => []) (fun (b : Bool) => 0) true (trivial) ⟨rfl, rfl, rfl, trivial⟩ (same) ?_
 rintro b -
 refine Qq ?_
 refine Qd ?_
 refine yR ?_
 refine yM rfl ?_
 refine Qb (Ql (Qi rfl) rfl) ?_
 refine yM rfl ?_
 refine yM rfl ?_
 refine Qb (Qqc rfl rfl) ?_
 refine Qb (Qy rfl rfl) ?_
 refine yN ?_
 refine Qz rfl ?_
 refine yR ?_
 refine yS rfl ?_
 refine yN ?_
 refine Qs ?_
 refine Qr ?_
 refine Q3 ?_
 refine Qr ?_
 refine Q3 ?_
 exact Qu rfl rfl fun w s => ⟨(), rfl, s.res (List.nil_sublist _) (by simp)⟩
theorem Qn8 : QC Tryz.prog 58 [.iface 54 (.int .i64 0), .iface 54 (.int .i64 0)].toArray [] [] (fun _ : Unit => .bool true) (fun _ => []) := by
 refine Qk Tryz.func58 rfl (n := 22) rfl rfl ?_
 intro W
 refine yR ?_
 refine yS rfl ?_
 refine yN ?_
 refine Qd ?_
 refine yR ?_
 refine yM rfl ?_
 refine Qb (YP rfl) ?_
 refine yM rfl ?_
 refine yM rfl ?_
 refine Qb (YP rfl) ?_
 refine Qb (Qy rfl rfl) ?_
 refine yN ?_
 refine Qt rfl ?_
 refine Qn ?_
 refine Qc ?_
 refine yR ?_
 refine yM rfl ?_
 refine Qb (QdC (QcD _) rfl) ?_
 refine Qb (VK Qor rfl rfl) ?_
 refine yS rfl ?_
 refine yN ?_
 refine yR ?_
 refine yM rfl ?_
 refine yM rfl ?_
 refine yM rfl ?_
 refine Qh (QkT.comes) rfl rfl rfl fun _ => ?_
 refine yS rfl ?_
 refine yN ?_
 refine Qs ?_
 exact Qu rfl rfl fun w s => ⟨(), rfl, s.res (List.nil_sublist _) (by simp)⟩
section
variable (n : Nat) (hn : n ≤ 256) (gh gc k : Nat) (h : Zh) [hT : RdZ h (some ⟨1, 0, none⟩) Jd] {m : List En} (hal : Alike m 0) (p : Option Addr) [ht : TrZ n h (mkT m 0) p]
include hn hal
theorem Qkv (l : List Chg) (B : Option Addr) (c : Nat) [hB : RdZ h B (Jh l)] (hc : l.length ≤ c) (ho : VQ l) (hlen : m.length + l.length ≤ 100000) (hv : Qb9 h l) (hm : ∀ e ∈ m, e.val.length ≤ 10000000) (hk : k + qi (m.length + l.length) 0 ≤ 1000000000) :
  QC Tryz.prog 57 [.pointer (some ⟨gh, 0, none⟩), .pointer p, .slice B l.length c].toArray [HR gh gc n] [.zone true h, CN gc k] (fun u : {u : Zh × Option Addr × Nat // LeZ h u.1 ∧ TrZ n u.1 (mkT (Jb m l) 0) u.2.1 ∧ u.2.2 ≤ k + qi (m.length + l.length) 0} => .tuple #[.pointer u.1.2.1, .int .i64 0]) (fun u => [.zone true u.1.1, CN gc u.1.2.2]) := by
 have hC := Qnt l B c (by omega)
 rw [Qfa ho] at hC
 have hA := Qdc n hn gh gc 256 0 (by omega) (by omega) m l h k p B c hT ht hB hc hal (AlC.zero l m) ho hlen hv hm hk
 refine Qk Tryz.func57 rfl (n := 18) rfl rfl ?_
 intro W
 refine yR ?_
 refine yS rfl ?_
 refine yS rfl ?_
 refine yN ?_
 refine Qd ?_
 refine yR ?_
 refine yM rfl ?_
 refine Qh (hC.comes) rfl rfl rfl fun _ => ?_
 refine yS rfl ?_
 refine yN ?_
 refine yR ?_
 refine yM rfl ?_
 refine Qb (QL rfl rfl) ?_
 refine yN ?_
 refine Qt rfl ?_
 refine Qn ?_
 refine Qc ?_
 refine yR ?_
 refine yM rfl ?_
 refine yM rfl ?_
 refine yM rfl ?_
 refine Qh (hA.comes) rfl rfl rfl fun ⟨⟨h1, q, k1⟩, hle, htq, hk1⟩ => ?_
 dsimp only at hle htq hk1 ⊢
 refine yS rfl ?_
 refine yS rfl ?_
 refine yN ?_
 refine Qs ?_
 exact QO rfl rfl rfl fun w s => ⟨⟨(h1, q, k1), hle, htq, hk1⟩, rfl, (same (L' := [.zone true h1, CN gc k1]) w s).res (List.Sublist.refl _) (by simp [Fa.wr])⟩
variable (t0 : Nat) (l : List CB) (A : Option Addr) (c : Nat) [hr : RdZ h A (cbs l)] (hz : ZN h l)
include hz
theorem Qi2 (hR : YK l = none) (hlen : m.length + l.length ≤ 100000) (hvl : ∀ x ∈ l, x.vb.length ≤ 10000000) (hm : ∀ e ∈ m, e.val.length ≤ 10000000) (hk : k + qi (m.length + l.length) 0 ≤ 1000000000) :
  QC Tryz.prog 17 [.pointer (some ⟨t0, 0, none⟩), .slice A l.length c].toArray [HR gh gc n] [.zone true h, CN gc k, JR t0 gh p] (fun u : {u : Zh × Option Addr × Nat // LeZ h u.1 ∧ TrZ n u.1 (mkT (JA m l) 0) u.2.1 ∧ u.2.2 ≤ k + qi (m.length + l.length) 0} => .nilIface) (fun u => [.zone true u.1.1, CN gc u.1.2.2, JR t0 gh u.1.2.1]) := by
 have hC := Qgv h l A c hz (by omega) hR
 refine Qk Tryz.func17 rfl (n := 43) rfl rfl ?_
 intro W
 refine yR ?_
 refine yS rfl ?_
 refine yN ?_
 refine Qd ?_
 refine yR ?_
 refine yM rfl ?_
 refine Qb (J2 rfl rfl) ?_
 refine yN ?_
 refine Qt rfl ?_
 refine Qn ?_
 refine Qc ?_
 refine yR ?_
 refine yM rfl ?_
 refine Qh (hC.comes) rfl rfl rfl fun ⟨⟨g0, B, c2, l'⟩, hu⟩ => ?_
 dsimp only
 obtain ⟨hp, hord⟩ := hu rfl
 dsimp only at hp hord
 have hll : l'.length = l.length := by rw [hp.length_eq, List.length_map]
 have hkt : mkT (Jb m l') 0 = mkT (JA m l) 0 := Zb ((Qbm (.refl m) hp).trans (Qbo l m (Qam hR)).symm) 0
 have hch := QpB hz hvl hp
 refine yM rfl ?_
 refine Qb (Qj rfl rfl) ?_
 refine Qb (Qj rfl rfl) ?_
 refine yS rfl ?_
 refine yS rfl ?_
 refine yN ?_
 refine Qd ?_
 refine yR ?_
 refine yM rfl ?_
 refine Qb (Z4 rfl) ?_
 refine yN ?_
 refine Qt rfl ?_
 refine Qn ?_
 refine Qc ?_
 refine Qd ?_
 refine Jp (.slice B l'.length c2) fun h2 B2 c3 e2 hc2 _ _ hz2 hr2 => ?_
 obtain rfl : B = B2 := by injection e2
 obtain rfl : c2 = c3 := by injection e2
 have hT2 : RdZ h2 (some ⟨1, 0, none⟩) Jd := hT.mono hz2
 have ht2 : TrZ n h2 (mkT m 0) p := ⟨ht.ok.mono hz2⟩
 have hA := Qkv n hn gh gc k h2 hal p l' B c2 hc2 hord (by omega) (hch.mono hz2) hm (by rw [hll]; exact hk)
 rw [hkt, hll] at hA
 rw [hll]
 refine Q1 [JR t0 gh p] [] QJ (same) ?_
 refine Qa 0 rfl (Qi rfl) ?_
 refine Qa 1 rfl (QA rfl) ?_
 refine Qa 2 rfl (Qe rfl) ?_
 refine Qp 3 rfl (Qf rfl) ?_
 refine Qa 4 rfl (Qi rfl) ?_
 refine Qa 5 rfl (QA rfl) ?_
 refine Qa 6 rfl (Qe rfl) ?_
 refine Qp 7 rfl (Qf rfl) ?_
 refine Qa 8 rfl (Qi rfl) ?_
 refine Qv 9 ?_
 refine QR 9 rfl (hA.comes) rfl rfl rfl (fun xx => same) fun ⟨⟨h3, q, k1⟩, hle, htq, hk1⟩ => ?_
 refine Qa 10 rfl (Qi rfl) ?_
 refine Qa 11 rfl (Qj rfl rfl) ?_
 refine Qa 12 rfl (Qj rfl rfl) ?_
 refine Qa 13 rfl (Q6 rfl) ?_
 refine Qa 14 rfl (Q6 rfl) ?_
 refine QB (by kernel_rfl) ?_
 refine Qc ?_
 dsimp only at hle htq hk1 ⊢
 refine Qd ?_
 refine yR ?_
 refine yM rfl ?_
 refine Qb (qq rfl) ?_
 refine Qb (qq rfl) ?_
 refine Qh (Qn8.comes) rfl rfl rfl fun _ => ?_
 refine yN ?_
 refine Qz rfl ?_
 refine Q5 ?_
 refine yM rfl ?_
 refine yM rfl ?_
 refine Qb (QA rfl) ?_
 refine Qb (Qe rfl) ?_
 refine Q7 (QV rfl rfl rfl) ?_
 refine yN ?_
 refine yR ?_
 refine yM rfl ?_
 refine Qh ((Qgl ZO 0).comes) rfl rfl rfl fun _ => ?_
 refine yS rfl ?_
 refine yN ?_
 refine Qs ?_
 exact Qu rfl rfl fun w s => ⟨⟨(h3, q, k1), hz2.trans hle, htq, hk1⟩, rfl, (same (L' := [.zone true h3, CN gc k1, JR t0 gh q]) w s).res (List.Sublist.refl _) (by simp [Fa.wr])⟩
omit hT ht in
omit hn hal in
theorem Qg0 (i : Nat) (e : Int) (hR : YK l = some (i, e)) (hlen : l.length ≤ 100000) :
  QC Tryz.prog 17 [.pointer (some ⟨t0, 0, none⟩), .slice A l.length c].toArray [.zone false h] [] (fun u : Nat => .iface 145 (.pointer (some ⟨u, 0, none⟩))) (fun u => [.blk u (Yf ZO (i : Int) e) 284]) := by
 have hC := QeF h l A c hz (by omega) i e hR
 refine Qk Tryz.func17 rfl (n := 43) rfl rfl ?_
 intro W
 refine yR ?_
 refine yS rfl ?_
 refine yN ?_
 refine Qd ?_
 refine yR ?_
 refine yM rfl ?_
 refine Qb (J2 rfl rfl) ?_
 refine yN ?_
 refine Qt rfl ?_
 refine Qn ?_
 refine Qc ?_
 refine yR ?_
 refine yM rfl ?_
 refine Qh (hC.comes) rfl rfl rfl fun ⟨⟨g0, B, c2, l'⟩, hu⟩ => ?_
 dsimp only
 refine yM rfl ?_
 refine Qb (Qj rfl rfl) ?_
 refine Qb (Qj rfl rfl) ?_
 refine yS rfl ?_
 refine yS rfl ?_
 refine yN ?_
 refine Qd ?_
 refine yR ?_
 refine yM rfl ?_
 refine Qb (Qey rfl) ?_
 refine yN ?_
 refine Qz rfl ?_
 refine yR ?_
 refine yM rfl ?_
 refine yS rfl ?_
 refine yN ?_
 refine Qs ?_
 refine Qr ?_
 exact Qu rfl rfl fun w s => ⟨g0, rfl, (same (L' := [.blk g0 (Yf ZO (i : Int) e) 284]) w s).res (List.Sublist.refl _) (by simp [Fa.wr])⟩
end
end
section
open Go.RowKit
end
section
open Go.RowKit
structure At (l : List Item) (s : Sub) (d i : Nat) : Prop where
 ok : s.ok
 ht : d + s.ht ≤ 256
 le : i ≤ l.length
 eq : ∃ rest, l.drop i = s.flat ++ rest
theorem At.read {l : List Item} {s : Sub} {d i : Nat} (h : At l s d i) : ∃ rest, QaD (256 - d) (l.drop i) = some (s, rest) ∧ l.length = i + s.sz + rest.length := by
 obtain ⟨rest, e⟩ := h.eq
 refine ⟨rest, ?_, ?_⟩
 ·rw [e]; exact Qbb s _ _ h.ok (by have := h.ht; omega)
 have := congrArg List.length e
 rw [List.length_drop, List.length_append, Sub.flat_len] at this
 have := h.le
 have := s.sz_pos
 omega
theorem At.lt {l : List Item} {s : Sub} {d i : Nat} (h : At l s d i) : i < l.length := by
 obtain ⟨rest, _, e⟩ := h.read
 have := s.sz_pos
 omega
theorem At.skip {l : List Item} {s : Sub} {d i : Nat} (h : At l s d i) : Qru l (QaD (256 - d) (l.drop i)) = ((i + s.sz : Nat) : Int) := by
 obtain ⟨rest, e, e2⟩ := h.read
 rw [e]
 show (l.length : Int) - (rest.length : Int) = _
 omega
theorem At.one {l : List Item} {x : Item} {d i : Nat} (h : At l (.one x) d i) : l[i]? = some x := by
 obtain ⟨rest, e⟩ := h.eq
 have := congrArg (·[0]?) e
 simpa [List.getElem?_drop, Sub.flat] using this
theorem At.two {l : List Item} {a b : Sub} {d i : Nat} (h : At l (.two a b) d i) : l[i]? = some Qcq ∧ At l a (d + 1) (i + 1) ∧ At l b (d + 1) (i + 1 + a.sz) := by
 obtain ⟨rest, e⟩ := h.eq
 have e' : l.drop i = Qcq :: (a.flat ++ (b.flat ++ rest)) := by rw [e]; show Qcq :: (a.flat ++ b.flat ++ rest) = _; rw [List.append_assoc]
 have hht : d + (max a.ht b.ht + 1) ≤ 256 := h.ht
 have hlt := h.lt
 have e1 : l.drop (i + 1) = a.flat ++ (b.flat ++ rest) := by
  rw [← List.drop_drop, e']; rfl
 have hl1 : l.length - (i + 1) = a.sz + (b.sz + rest.length) := by
  have := congrArg List.length e1
  rwa [List.length_drop, List.length_append, List.length_append, Sub.flat_len, Sub.flat_len] at this
 refine ⟨?_, ⟨h.ok.1, by omega, by omega, _, e1⟩, ⟨h.ok.2, by omega, by have := b.sz_pos; omega, rest, ?_⟩⟩
 ·have := congrArg (·[0]?) e'
  simpa [List.getElem?_drop] using this
 rw [← List.drop_drop, e1, ← a.flat_len, List.drop_left]
end
section
open Go.RowKit
end
section
open Go.RowKit
end
section
open Go.RowKit
def qx (h : Zh) (xs : List Seg) (ls : List (List UInt8)) : Prop := xs.map (fun x => x.2.2) = ls ∧ ∀ x ∈ xs, (∃ g, x.1 = some ⟨g, 0, none⟩) ∧ RdZ h x.1 (bc x.2.2)
theorem qx.len {h : Zh} {xs : List Seg} {ls : List (List UInt8)} (x : qx h xs ls) : xs.length = ls.length := by rw [← x.1, List.length_map]
theorem qx.snoc {h h' : Zh} (hl : LeZ h h') {xs : List Seg} {ls : List (List UInt8)} (x : qx h xs ls) {g c : Nat} {b : List UInt8} (hr : RdZ h' (some ⟨g, 0, none⟩) (bc b)) : qx h' (xs ++ [(some ⟨g, 0, none⟩, c, b)]) (ls ++ [b]) := by
 refine ⟨by rw [List.map_append, x.1]; rfl, fun y hy => ?_⟩
 rcases List.mem_append.1 hy with hy | hy
 ·exact ⟨(x.2 y hy).1, (x.2 y hy).2.mono hl⟩
 rw [List.mem_singleton.1 hy]
 exact ⟨⟨g, rfl⟩, hr⟩
theorem QmB (xs : List Seg) (x : Seg) : svs xs ++ [sv x] = svs (xs ++ [x]) := by simp [svs]
end
section
open Go.RowKit
def VA (n : Nat) : Tr → List UInt8
 | .nil => Yw
 | .leaf k v => YO (Y0 n k v)
 | .node l r => YB (dgT n l) (dgT n r)
theorem QhZ (n : Nat) (t : Tr) : dgT n t = Jj n (VA n t) := by cases t <;> rfl
theorem QlK (n : Nat) (t : Tr) : (VA n t).length ≤ 65 := by
 cases t with
 | nil => show Yw.length ≤ 65; decide
 | leaf k v => show (YO _).length ≤ 65; rw [Qc5]; exact Nat.le_refl _
 | node l r => show (YB _ _).length ≤ 65; rw [Zg]; exact Nat.le_refl _
def Qbj (h : Zh) (key : B32) (p : Option Addr) (N : Nat) : List (Option Addr) := (List.range N).map (JY h key p)
theorem QmG (h : Zh) (key : B32) (p : Option Addr) (N : Nat) : (Qbj h key p N).length = N := by simp [Qbj]
theorem QoO (h : Zh) (key : B32) (p : Option Addr) {N i : Nat} (hi : i < N) : (Qbj h key p N)[i]? = some (JY h key p i) := by unfold Qbj; rw [List.getElem?_map, List.getElem?_range hi]; rfl
theorem QjS (h : Zh) (key : B32) (p : Option Addr) (i : Nat) : qo (Qbj h key p i) ++ [.pointer (JY h key p i)] = qo (Qbj h key p (i + 1)) := by unfold Qbj qo; rw [List.range_succ, List.map_append, List.map_append]; rfl
theorem Qpw (n : Nat) (h : Zh) (t : Tr) (p : Option Addr) [ht : TrZ n h t p] (key : B32) (D : Nat) (hD : WayTo key t D) : QC Tryz.prog 201 [.pointer p, .agg key.cells.toArray].toArray [.zone false h] [] (fun u : Option Addr × Nat => .slice u.1 (D + 1) u.2) (fun u => [.own (.slice u.1 (D + 1) u.2) (D + 1) 31 1 (qo (Qbj h key p (D + 1)))]) := by
 have hle := hD.le
 refine Qk Tryz.func201 rfl (n := 18) rfl rfl ?_
 intro W
 refine yR ?_
 refine Qo (Q9 rfl) fun g3 => ?_
 refine yS rfl ?_
 refine yN ?_
 refine yR ?_
 refine Qo (Q0) fun g5 => ?_
 refine yN ?_
 refine Qd ?_
 refine yR ?_
 refine yM rfl ?_
 refine Qb (Qm rfl) ?_
 refine Qh ((QmI p key).comes) rfl rfl rfl fun ⟨g1, g2⟩ => ?_
 dsimp only
 refine yN ?_
 refine Qq ?_
 refine Ju 31 1 (xs := qo (Qbj h key p 0)) rfl ?_
 refine QbH (Qhn n h t p key D hD g1 g2) rfl (fun pre mm => ∃ A c, mm = [.blk g5 [.slice A pre.length c] 195, .own (.slice A pre.length c) pre.length 31 1 (qo (Qbj h key p pre.length))]) [.blk g5 [.slice none 0 0] 195, .own (.slice none 0 0) 0 31 1 (qo (Qbj h key p 0))] [.zone false h] (by rintro pre mm ⟨A, c, rfl⟩ f hf; simp only [List.mem_cons, List.not_mem_nil, or_false] at hf; rcases hf with rfl | rfl <;> rfl) ⟨none, 0, rfl⟩ rfl (fun _ => rfl) ?_ ?_
 ·intro ll rr pre i post mm W1 hr hrp hxs hJ
  obtain ⟨A, c, rfl⟩ := hJ
  have hpre : pre = List.range i ∧ i < D + 1 := Z5 hxs
  obtain ⟨rfl, hi⟩ := hpre
  rw [List.length_range]
  simp only [List.nil_append, List.cons_append]
  refine Q5 ?_
  refine yS rfl ?_
  refine yN ?_
  refine YN hr ?_
  refine Qq ?_
  refine Q5 ?_
  refine Qb (Qf rfl) ?_
  refine yM rfl ?_
  refine Qo (J8 rfl rfl) fun g15 => ?_
  refine Qo (Yo rfl rfl (k := 1)) fun ⟨g16, c16⟩ => ?_
  refine Q7 (QV rfl rfl rfl) ?_
  refine QE ?_
  refine Q2 ?_
  dsimp only
  rw [QjS h key p i]
  exact JH [.blk g5 [.slice (some ⟨g16, 0, none⟩) (i + 1) c16] 195, .own (.slice (some ⟨g16, 0, none⟩) (i + 1) c16) (i + 1) 31 1 (qo (Qbj h key p (i + 1)))] hr hrp ⟨some ⟨g16, 0, none⟩, c16, by rw [List.length_append, List.length_range, List.length_singleton]⟩ (by intro f hf; simp only [List.mem_cons, List.not_mem_nil, or_false] at hf; rcases hf with rfl | rfl <;> rfl)
 intro bb mm hJ
 obtain ⟨A, c, rfl⟩ := hJ
 rw [List.length_range]
 refine Q2 ?_
 refine Qc ?_
 simp only [List.nil_append, List.cons_append]
 refine yR ?_
 refine Qb (Qf rfl) ?_
 refine yS rfl ?_
 refine yN ?_
 refine Qs ?_
 refine Vf ?_
 exact Qu rfl rfl fun w s => ⟨(A, c), rfl, (same w s).res (List.Sublist.refl _) (by simp [Fa.wr])⟩
section
variable (n : Nat) (hn : n ≤ 256) (h : Zh) [hT : RdZ h (some ⟨1, 0, none⟩) Jd] (gh gc k : Nat) (hk : k ≤ 100000000000)
include hn hk
theorem QqD (t : Tr) (p : Option Addr) [ht : TrZ n h t p] : QC Tryz.prog 202 [.pointer (some ⟨gh, 0, none⟩), .pointer p].toArray [HR gh gc n, .zone false h] [CN gc k] (fun u : {u : Nat × Nat × Nat // u.2.2 ≤ k + 2} => .slice (some ⟨u.1.1, 0, none⟩) (VA n t).length u.1.2.1) (fun u => [.own (.slice (some ⟨u.1.1, 0, none⟩) (VA n t).length u.1.2.1) (VA n t).length 5 1 (bc (VA n t)), CN gc u.1.2.2]) := by
 have hK := J3 n h t p
 have hLf := Vv n h t p
 have hLe := Qgy n h t p
 have hRi := QdR n h t p
 rcases t with _ | ⟨kk, v⟩ | ⟨l, r⟩
 ·refine Qk Tryz.func202 rfl (n := 24) rfl rfl ?_
  intro W
  refine yR ?_
  refine yS rfl ?_
  refine yN ?_
  refine Qd ?_
  refine yR ?_
  refine yM rfl ?_
  refine Qh (hK.comes) rfl rfl rfl fun _ => ?_
  refine yN ?_
  refine Qq ?_
  refine yR ?_
  refine Qb (Ql (QG rfl rfl) (show _ = false from rfl)) ?_
  refine yS rfl ?_
  refine yN ?_
  refine Qt rfl ?_
  refine yR ?_
  refine Qb (Ql (QG rfl rfl) (show _ = false from rfl)) ?_
  refine yS rfl ?_
  refine yN ?_
  refine Qt rfl ?_
  refine Qn ?_
  refine Q2 ?_
  refine Qc ?_
  refine yR ?_
  refine Qh (Qa6.comes) rfl rfl rfl fun ⟨g23, c23⟩ => ?_
  refine yS rfl ?_
  refine yN ?_
  refine Qs ?_
  exact Qu rfl rfl fun w s => ⟨⟨(g23, c23, k), by dsimp only; omega⟩, rfl, (same (L' := [.own (.slice (some ⟨g23, 0, none⟩) 1 c23) 1 5 1 (bc Yw), CN gc k]) w s).res (List.Sublist.refl _) (by simp [Fa.wr])⟩
 ·refine Qk Tryz.func202 rfl (n := 24) rfl rfl ?_
  intro W
  refine yR ?_
  refine yS rfl ?_
  refine yN ?_
  refine Qd ?_
  refine yR ?_
  refine yM rfl ?_
  refine Qh (hK.comes) rfl rfl rfl fun _ => ?_
  refine yN ?_
  refine Qq ?_
  refine yR ?_
  refine Qb (Ql (QG rfl rfl) (show _ = true from rfl)) ?_
  refine yS rfl ?_
  refine yN ?_
  refine Qz rfl ?_
  refine yR ?_
  refine yM rfl ?_
  refine Qh (hLf.comes) rfl rfl rfl fun _ => ?_
  refine Qh ((Qeo (Y0 n kk v)).comes) rfl rfl rfl fun ⟨g11, c11⟩ => ?_
  refine yS rfl ?_
  refine yN ?_
  refine Qs ?_
  refine Q3 ?_
  refine Qr ?_
  exact Qu rfl rfl fun w s => ⟨⟨(g11, c11, k), by dsimp only; omega⟩, rfl, (same (L' := [.own (.slice (some ⟨g11, 0, none⟩) (YO (Y0 n kk v)).length c11) (YO (Y0 n kk v)).length 5 1 (bc (YO (Y0 n kk v))), CN gc k]) w s).res (List.Sublist.refl _) (by simp [Fa.wr])⟩
 have hl := TrZ.left ht
 have hr := TrZ.right ht
 refine Qk Tryz.func202 rfl (n := 24) rfl rfl ?_
 intro W
 refine yR ?_
 refine yS rfl ?_
 refine yN ?_
 refine Qd ?_
 refine yR ?_
 refine yM rfl ?_
 refine Qh (hK.comes) rfl rfl rfl fun _ => ?_
 refine yN ?_
 refine Qq ?_
 refine yR ?_
 refine Qb (Ql (QG rfl rfl) (show _ = false from rfl)) ?_
 refine yS rfl ?_
 refine yN ?_
 refine Qt rfl ?_
 refine yR ?_
 refine Qb (Ql (QG rfl rfl) (show _ = true from rfl)) ?_
 refine yS rfl ?_
 refine yN ?_
 refine Qz rfl ?_
 refine yR ?_
 refine yM rfl ?_
 refine yM rfl ?_
 refine Qh (hLe.comes) rfl rfl rfl fun _ => ?_
 refine Qh ((Yq n hn gh gc k (by omega) h l (YS h false p)).comes) rfl rfl rfl fun _ => ?_
 refine yM rfl ?_
 refine yM rfl ?_
 refine Qh (hRi.comes) rfl rfl rfl fun _ => ?_
 refine Qh ((Yq n hn gh gc (k + if l.kind = 0 then 1 else 0) (by split <;> omega) h r (YS h true p)).comes) rfl rfl rfl fun _ => ?_
 refine Qh ((QbJ (dgT n l) (dgT n r)).comes) rfl rfl rfl fun ⟨g22, c22⟩ => ?_
 refine yS rfl ?_
 refine yN ?_
 refine Qs ?_
 refine Q3 ?_
 refine Qr ?_
 exact Qu rfl rfl fun w s => ⟨⟨(g22, c22, (k + if l.kind = 0 then 1 else 0) + if r.kind = 0 then 1 else 0), by dsimp only; split <;> split <;> omega⟩, rfl, (same (L' := [.own (.slice (some ⟨g22, 0, none⟩) (YB (dgT n l) (dgT n r)).length c22) (YB (dgT n l) (dgT n r)).length 5 1 (bc (YB (dgT n l) (dgT n r))), CN gc ((k + if l.kind = 0 then 1 else 0) + if r.kind = 0 then 1 else 0)]) w s).res (List.Sublist.refl _) (by simp [Fa.wr])⟩
def JV (n : Nat) (key : B32) (t : Tr) (N : Nat) : List (List UInt8) := (List.range N).map fun i => VA n (Jg key t i)
omit hn hk hT in
theorem QcN (n : Nat) (key : B32) (t : Tr) (N : Nat) : (JV n key t N).length = N := by simp [JV]
omit hn hk hT in
theorem Qb8 (n : Nat) (key : B32) (t : Tr) (N : Nat) : JV n key t (N + 1) = JV n key t N ++ [VA n (Jg key t N)] := by unfold JV; rw [List.range_succ, List.map_append]; rfl
omit hk in
theorem QqE (hk2 : k ≤ 10000000000) (t : Tr) (p : Option Addr) [ht : TrZ n h t p] (key : B32) (D : Nat) (hD : WayTo key t D) : QC Tryz.prog 128 [.pointer (some ⟨gh, 0, none⟩), .pointer p, .agg key.cells.toArray].toArray [HR gh gc n] [.zone true h, CN gc k] (fun u : {u : Zh × Option Addr × Nat × List Seg × Nat // LeZ h u.1 ∧ qx u.1 u.2.2.2.1 (JV n key t (D + 1)) ∧ u.2.2.2.2 ≤ k + 1000} => .slice u.1.2.1 (D + 1) u.1.2.2.1) (fun u => [.zone true u.1.1, .own (.slice u.1.2.1 (D + 1) u.1.2.2.1) (D + 1) 35 1 (svs u.1.2.2.2.1), CN gc u.1.2.2.2.2]) := by
 have hle := hD.le
 have hW := Qpw n h t p key D hD
 have hlen := QmG h key p (D + 1)
 have hat := fun i (hi : i < D + 1) => QoO h key p hi
 refine Qk Tryz.func128 rfl (n := 26) rfl rfl ?_
 intro W
 refine yR ?_
 refine Qo (Q9 rfl) fun g5 => ?_
 refine yS rfl ?_
 refine yN ?_
 refine yR ?_
 refine yS rfl ?_
 refine yN ?_
 refine Qd ?_
 refine yR ?_
 refine yM rfl ?_
 refine Qb (Qm rfl) ?_
 refine Qh (hW.comes) rfl rfl rfl fun ⟨A12, c12⟩ => ?_
 dsimp only
 refine Jq (φ := ∃ g, A12 = some ⟨g, 0, none⟩) (fun w s => s.ownSome (N := D + 1) (c := c12) (by omega)) ?_
 rintro ⟨g12, rfl⟩
 refine Qb (QF rfl) ?_
 refine yM rfl ?_
 refine yN ?_
 refine Qq ?_
 refine Ju 35 1 (xs := svs ([] : List Seg)) rfl ?_
 refine QS (fun (s : Zh × List Seg × Option Addr × Nat × Nat) => LeZ h s.1 ∧ s.2.1.length ≤ D + 1 ∧ qx s.1 s.2.1 (JV n key t s.2.1.length) ∧ s.2.2.2.2 ≤ k + 2 * s.2.1.length) (fun (s : Zh × List Seg × Option Addr × Nat × Nat) => [(14, .int .i64 (s.2.1.length : Int)), (13, .int .i64 ((D + 1 : Nat) : Int)), (12, .slice (some ⟨g12, 0, none⟩) (D + 1) c12), (7, .slice s.2.2.1 s.2.1.length s.2.2.2.1), (0, .pointer (some ⟨gh, 0, none⟩))]) (fun (s : Zh × List Seg × Option Addr × Nat × Nat) => [.zone true s.1, .own (.slice (some ⟨g12, 0, none⟩) (D + 1) c12) (D + 1) 31 1 (qo (Qbj h key p (D + 1))), .own (.slice s.2.2.1 s.2.1.length s.2.2.2.1) s.2.1.length 35 1 (svs s.2.1), CN gc s.2.2.2.2, HR gh gc n]) (fun (s : Zh × List Seg × Option Addr × Nat × Nat) => D + 1 - s.2.1.length) (h, [], none, 0, k) (⟨LeZ.refl h, Nat.zero_le _, ⟨rfl, fun x hx => by cases hx⟩, Nat.le_add_right _ _⟩) ⟨rfl, rfl, rfl, rfl, rfl, trivial⟩ (same) ?_
 rintro ⟨z, xs, B, c', k'⟩ ⟨hz, hxl, hsz, hk'⟩
 dsimp only at hz hxl hsz hk' ⊢
 refine yR ?_
 refine Qb (QT rfl rfl) ?_
 refine yN ?_
 refine Qd ?_
 refine QU rfl (fun hlt => ?_) (fun hlt => ?_)
 ·have hi : xs.length < D + 1 := by omega
  have hTz : RdZ z (some ⟨1, 0, none⟩) Jd := hT.mono hz
  have htz : TrZ n z (Jg key t xs.length) (JY h key p xs.length) := ⟨(QaH ht.ok key xs.length).mono hz⟩
  have hP := QqD n hn z gh gc k' (by omega) (Jg key t xs.length) (JY h key p xs.length)
  refine Qn ?_
  refine Qc ?_
  refine Qd ?_
  refine Qq ?_
  refine yR ?_
  refine Qb (QQ rfl rfl) ?_
  refine Qb (QX rfl (Qc6 (hat xs.length hi))) ?_
  refine yS rfl ?_
  refine yN ?_
  refine Q5 ?_
  refine yM rfl ?_
  refine yM rfl ?_
  refine yM rfl ?_
  refine Qh (hP.comes) rfl rfl rfl fun ⟨⟨g21, c21, k1⟩, hk1⟩ => ?_
  dsimp only at hk1 ⊢
  refine Qo (J8 rfl rfl) fun g22 => ?_
  refine Qo (Yo rfl rfl (k := 1)) fun ⟨g23, c23⟩ => ?_
  refine yS rfl ?_
  refine QE ?_
  refine Q2 ?_
  refine Qc ?_
  refine Q5 ?_
  refine Qb (QI rfl rfl) ?_
  refine yM rfl ?_
  refine QE ?_
  dsimp only
  change H _ _ _ _ _ (.own _ _ _ _ (svs xs ++ [sv (some ⟨g21, 0, none⟩, c21, VA n (Jg key t xs.length))]) :: _) _
  rw [QmB]
  refine Jp (.slice (some ⟨g21, 0, none⟩) (VA n (Jg key t xs.length)).length c21) fun z2 B2 c2 e2 hle2 hlen2 hnil2 hz2 hr2 => ?_
  injection e2 with e2 _ e3
  subst e2 e3
  have hlx : xs.length + 1 = (xs ++ [((some ⟨g21, 0, none⟩, c21, VA n (Jg key t xs.length)) : Seg)]).length := by rw [List.length_append]; rfl
  have hsn := hsz.snoc hz2 (c := c21) hr2
  rw [← Qb8] at hsn
  exact QH (z2, xs ++ [((some ⟨g21, 0, none⟩, c21, VA n (Jg key t xs.length)) : Seg)], some ⟨g23, 0, none⟩, c23, k1) (⟨hz.trans hz2, by dsimp only; rw [← hlx]; omega, by dsimp only; rw [← hlx]; exact hsn, by dsimp only; rw [← hlx]; omega⟩) ((by dsimp only; rw [← hlx]; omega)) ⟨aI rfl (by dsimp only; rw [← hlx]; omega), rfl, rfl, by dsimp only; rw [← hlx]; rfl, rfl, trivial⟩ ((fun w s => by dsimp only; rw [← hlx]; exact same w s))
 have hx : xs.length = D + 1 := by omega
 rw [hx] at hsz
 rw [hx]
 refine QK ?_
 refine Qx ?_
 refine Qx ?_
 refine Q8 ?_
 refine Qc ?_
 refine yR ?_
 refine yM rfl ?_
 refine yS rfl ?_
 refine yN ?_
 refine Qs ?_
 exact Qu rfl rfl fun w s => ⟨⟨(z, B, c', xs, k'), hz, hsz, by dsimp only; omega⟩, rfl, (same (L' := [.zone true z, .own (.slice B (D + 1) c') (D + 1) 35 1 (svs xs), CN gc k']) w s).res (List.Sublist.refl _) (by simp [Fa.wr])⟩
end
end
section
open Go.RowKit
def YAB (P : Program) (l : Nat) (args : List Value) (Rm m : List Fa) (b : Bool) (J' : List Fa → Prop) : Prop := ∀ w, Fx w m → qw w m Rm → YieldAt Fence.wide 0 P l args.toArray w fun e w' => e = .returned (.bool b) ∧ ∃ m', J' m' ∧ Rx m w w' m'
def Qkh (P : Program) (gf : FuncId) (lb : List Value) (R A : List Fa) (N d : Nat) (enc : Nat → List Value) (A' : List Fa) : Prop :=
 ∀ (l : Nat) (J : Nat → List Fa → Prop) (Rm m0 : List Fa) (w : World), (∀ k m, J k m → ∀ f ∈ m, f.wr = true) →
  (∀ k m, k < N → k ≤ d → J k m → YAB P l (enc k) Rm m (decide (k < d)) (J (k + 1))) →
  J 0 m0 → Fx w (A ++ m0) → qw w (A ++ m0) (R ++ Rm) →
  Calls P gf (.func (.yield l) #[] #[] :: lb).toArray w fun e w' => ∃ v m', e = .returned v ∧ J (min (d + 1) N) m' ∧ Rx (A ++ m0) w w' (A' ++ m')
section
variable {A : List Fa} {W : World} {n : Nat} {D : List Deferred} {E : Env} {L M : List Fa} {P : Program} {Q : Exit → Act → World → Prop} {ro : Option Nat} {ops : List Oper} {rest : List Oper} {d : Nat} {ty : TypeId} {pos : String} {af : Array Edge} {g : Option (Nat × Bool)}
theorem QmP {o : Oper} {a : Act} {w w' : World} {l : Nat} {fn : FuncId} {tmps : Array Value} {assign body : Code} {K : Act → World → Prop} {R : Ending → World → Prop} (h : (execOp a.eval o).run P w = .ok (.round l fn tmps assign body) w') (hround : RoundIn Fence.wide 0 P l fn tmps assign body w' R) (hK : ∀ e w'', R e w'' → ∃ v, e = .returned v ∧ K (a.put o.dst v) w'') : o.wpIn (FR ro) 0 P a w K Q := by
 refine ⟨fun _ _ => trivial, ?_⟩
 rw [show (FR ro).round = ro from rfl, Zo (by simp) h]
 refine ⟨(fun hd => by cases hd), RoundIn.mono (F := FR ro) hround ?_⟩
 intro e w'' hR
 obtain ⟨v, rfl, h2⟩ := hK e w'' hR
 exact h2
theorem Qpa {a : Act} {w : World} {o : Oper} {x : Operand} {ats : List Operand} {ts : Array TypeId} {l : Nat} {args : List Value} {fn : FuncId} {tmps : Array Value} {assign body : Code} (ka : Kn n D E a) (ho : o.op = .call ⟨.value x, ats.toArray, ts⟩) (hx : ev E x = some (.func (.yield l) #[] #[])) (ha : evs E ats = some args) (hrun : (Instr.yield l args.toArray).run P w = .ok (.round l fn tmps assign body) w) : (execOp a.eval o).run P w = .ok (.round l fn tmps assign body) w := by
 unfold execOp
 simp only [ho, resolve, ka.ev hx, Deferred.ofValue, Sem.run_bind, Sem.run_pure, Result.andThen_ok, invoke]
 rw [List.map_toArray, ka.evs ha, show (#[] ++ args.toArray : Array Value) = args.toArray by simp]
 exact hrun
end
section
variable {A : List Fa} {W : World} {n : Nat} {D : List Deferred} {ro : Option Nat} {P : Program} {ops : List Oper} {Q : Exit → Act → World → Prop} {Lb Lr L M : List Fa} {fuel : Nat} {listed : Array Bool} {E : Env}
variable {op : Op} {d : Nat} {ty : TypeId} {pos : String} {af : Array Edge} {g : Option (Nat × Bool)}
theorem Qri (i : Nat) {x : Operand} {ats : List Operand} {ts : Array TypeId} {l : Nat} {args : List Value} {m Rm : List Fa} {b : Bool} {J' : List Fa → Prop} {L' : List Fa → List Fa} (hi : ops[i]? = some ⟨some d, .call ⟨.value x, ats.toArray, ts⟩, ty, pos, af, g⟩) (hy : YAB P l args Rm m b J') (hRm : ∀ r ∈ Rm, r.wr = false) [ht : TakeT m Rm L M] [hN : ∀ m', App M (m' ++ Rm) (L' m')] (hx : ev E x = some (.func (.yield l) #[] #[])) (ha : evs E ats = some args) [hl : ∀ m', Rds (L' m') Lr]
  (hb : ∀ m' w, Sx A W w (L' m') → Sx A W w Lb) (k : ∀ m', J' m' → HA A W n D ro P ops Q Lb Lr fuel (listed.setIfInBounds i true) ((d, .bool b) :: E) (L' m')) (hd : Nat.blt d n = true := by exact rfl) (hg : wn ops.toArray E g = some true := by exact rfl) : HO A W n D ro P ops Q Lb Lr fuel listed E L i := fun a w ka s sr => by
 have s2 := s.perm ht.perm
 have hR : qw w m Rm := fun r hr => ⟨hRm r hr, s2.ok r (by simp [hr]), fun b hb => (List.pairwise_append.1 s2.sep).2.2 b hb r (by simp [hr])⟩
 obtain ⟨fn, tmps, assign, body, hrun, hround⟩ := hy w (s2.toFx.sub (List.sublist_append_left _ _)) hR
 refine Qbx hi (JE ka hg) (QmP (Qpa ka rfl hx ha hrun) hround ?_)
 rintro e w' ⟨rfl, m', hJ, hxx⟩
 have s3 := (s2.ret hxx).perm (M := L' m') (by rw [← (hN m').eq, ← List.append_assoc]; exact List.perm_append_comm)
 have h3 : Fx w' Lr := Fx.rds s3.toFx (hr := hl m')
 exact ⟨_, rfl, fun _ _ => ⟨hb m' _ s3, h3⟩, k m' hJ _ _ (ka.put hd _) s3 ⟨hb m' _ s3, h3⟩⟩
end
section
variable {A : List Fa} {W : World} {n : Nat} {D : List Deferred} {E : Env} {L M : List Fa} {P : Program} {Q : Exit → Act → World → Prop}
def QaO (l : Nat) (r : Loop) (S : List Fa → Prop) (m : List Fa) (W1 : World) (e : Ending) (w' : World) : Prop := e = .returned (.bool false) ∧ ∃ m', S m' ∧ Rx (.obj l (.loop r) :: m) W1 w' (.obj l (.loop { r with state := .done, pending := some .ret }) :: m')
theorem Qf5 {l : Nat} {r : Loop} {S : List Fa → Prop} {m : List Fa} (m' : List Fa) (hS : S m') (hw : ∀ f ∈ m', f.wr = true) [ht : Take (.obj l (.loop { r with state := .busy }) :: m') L M] : H (.obj l (.loop r) :: m) W n D E L (roundPost P l (QaO l r S m W) .ret) := fun a w ka s => by
 have s2 := (s.perm ht.perm).sub (List.sublist_append_left (.obj l (.loop { r with state := .busy }) :: m') M)
 have ho : w.heap[l]? = some (.loop { r with state := .busy }) := s2.ok (.obj _ _) (List.mem_cons_self ..)
 refine ⟨_, _, run_endRound (some .ret) ho, rfl, m', hS, ?_⟩
 have s3 := s2.putObj (.loop { { r with state := .busy } with state := .done, pending := some .ret })
 exact s3.res (List.Sublist.refl _) fun f hf => (List.mem_cons.1 hf).elim (fun h => by rw [h]; rfl) (hw f)
theorem Qll {N d : Nat} {g : Operand} {ps : List Nat} {assign body : Code} {gf : FuncId} {lb : List Value} {R Ai Ai' : List Fa} {enc : Nat → List Value} (it : Qkh P gf lb R Ai N d enc Ai') (hdN : d ≤ N) (hg : ev E g = some (.func (.func gf) #[] lb.toArray)) [eg : Ent P gf]
  (J : Nat → List Fa → Prop) (m0 Rm : List Fa) [ht : Take (Ai ++ m0) L M] [hr : Rds M (R ++ Rm)] (hJw : ∀ k m, J k m → ∀ f ∈ m, f.wr = true) (h0 : J 0 m0) (hps : (ps.all fun p => Nat.blt p n) = true) (hen : ∀ k, (enc k).length = ps.length)
  (hround : ∀ (l : Nat) (r : Loop) (k : Nat) (m : List Fa) (W1 : World), r.state = .ready → r.pending = none → k < N → k < d → J k m →
   H (.obj l (.loop r) :: m) W1 n [] (Zc ps (enc k) E) (.obj l (.loop r) :: (m ++ Rm)) (assign.wpIn (FR (some l)) 0 P (Exit.then (fun a₁ w₁ => ∃ w₂, (Instr.beginRound l).run P w₁ = .ok () w₂ ∧ body.wpIn (FR (some l)) 0 P (roundPost P l (Vw l r (J (k + 1)) m W1)) a₁ w₂) (fun _ _ _ => False))))
  (hstop : ∀ (l : Nat) (r : Loop) (m : List Fa) (W1 : World), r.state = .ready → r.pending = none → d < N → J d m →
   H (.obj l (.loop r) :: m) W1 n [] (Zc ps (enc d) E) (.obj l (.loop r) :: (m ++ Rm)) (assign.wpIn (FR (some l)) 0 P (Exit.then (fun a₁ w₁ => ∃ w₂, (Instr.beginRound l).run P w₁ = .ok () w₂ ∧ body.wpIn (FR (some l)) 0 P (roundPost P l (QaO l r (J (d + 1)) m W1)) a₁ w₂) (fun _ _ _ => False))))
  (hdone : ∀ (b : Nat) (m : List Fa), d = N → J N m → H A W n ({ target := .collected b, args := #[] } :: D) E ((Ai' ++ m) ++ (.obj b (.deferred (some [])) :: M)) (Q .normal))
  (hret : ∀ (b : Nat) (m : List Fa), d < N → J (d + 1) m → H A W n ({ target := .collected b, args := #[] } :: D) E ((Ai' ++ m) ++ (.obj b (.deferred (some [])) :: M)) (Q .ret)) :
  H A W n D E L ((Code.rangeFunc g ps.toArray assign body).wpIn (FR none) 0 P Q) := fun a w ka s => by
 refine wpIn_rangeFunc ?_
 intro fn hfn
 obtain ⟨rec, hrec⟩ : ∃ rec : Loop, rec = { state := .ready, pending := none, fn, tmps := a.tmps, params := ps.toArray, assign, body, defers := w.heap.size } := ⟨_, rfl⟩
 have s1 := (s.allocObj (.deferred (some []))).allocObj (.loop rec)
 rw [World.size_alloc] at s1
 generalize hW1 : (w.alloc (.deferred (some []))).alloc (.loop rec) = W1 at s1
 have s2 := s1.zag ht.perm
 have hev : a.eval g = .func (.func gf) #[] lb.toArray := ka.ev hg
 refine ⟨w.heap.size + 1, [{ target := .collected w.heap.size, args := #[] }], W1, { target := .fn (.func gf) lb.toArray, args := #[.func (.yield (w.heap.size + 1)) #[] #[]] }, W1, gf, #[.func (.yield (w.heap.size + 1)) #[] #[]] ++ lb.toArray, W1, ?_, ?_, ?_, ?_, (fun h => by cases h), ?_⟩
 ·rw [← hW1, hrec]
  exact run_enterLoop_outer _ _ _ _ _
 ·simp only [resolve, hev]
  simp [go_sem]
 ·intro f' _
  trivial
 ·simp only [invoke]
  exact eg.ok _ _
 have hcall := it (w.heap.size + 1) (fun k m => ∃ m1, m = .obj (w.heap.size + 1) (.loop (if k ≤ d then rec else { rec with state := .done, pending := some .ret })) :: m1 ∧ J k m1) Rm (.obj (w.heap.size + 1) (.loop rec) :: m0) W1 (by rintro k m ⟨m1, rfl, hm⟩ f hf; exact (List.mem_cons.1 hf).elim (fun h => by rw [h]; rfl) (hJw k m1 hm f)) ?_ ⟨m0, by rw [if_pos (Nat.zero_le _)], h0⟩ (s2.toFx.sub (List.sublist_append_left _ _)) ?_
 ·rw [show (#[.func (.yield (w.heap.size + 1)) #[] #[]] ++ lb.toArray : Array Value) = (.func (.yield (w.heap.size + 1)) #[] #[] :: lb).toArray by simp]
  refine (Qal hcall).mono ?_
  rintro e w3 ⟨v, m', rfl, ⟨m1, rfl, hJ⟩, hx⟩
  have s3 := s2.ret hx
  rcases Nat.lt_or_ge d N with hlt | hge
  ·rw [Nat.min_eq_left (by omega)] at hJ s3
   rw [if_neg (by omega)] at s3
   have s4 := s3.perm (M := .obj (w.heap.size + 1) (.loop { rec with state := .done, pending := some .ret }) :: ((Ai' ++ m1) ++ (.obj w.heap.size (.deferred (some [])) :: M))) (by
    simp only [List.append_assoc, List.cons_append]
    exact List.perm_middle)
   have ho : w3.heap[w.heap.size + 1]? = some (.loop { rec with state := .done, pending := some .ret }) := s4.ok (.obj _ _) (List.mem_cons_self ..)
   refine ⟨some .ret, w3.putObj (w.heap.size + 1) (.loop { { rec with state := .done, pending := some .ret } with state := .exhausted }), ?_, ?_⟩
   ·exact run_endLoop (P := P) ho (by simp)
   exact Qs (hret _ m1 hlt hJ) _ _ ⟨ka.size, by show [_] ++ a.defers = _; rw [ka.defers]; rfl, ka.val⟩ (s4.putObj _).tail
  obtain rfl : d = N := by omega
  rw [Nat.min_eq_right (by omega)] at hJ s3
  rw [if_pos (Nat.le_refl _)] at s3
  have s4 := s3.perm (M := .obj (w.heap.size + 1) (.loop rec) :: ((Ai' ++ m1) ++ (.obj w.heap.size (.deferred (some [])) :: M))) (by
   simp only [List.append_assoc, List.cons_append]
   exact List.perm_middle)
  have ho : w3.heap[w.heap.size + 1]? = some (.loop rec) := s4.ok (.obj _ _) (List.mem_cons_self ..)
  refine ⟨none, w3.putObj (w.heap.size + 1) (.loop { rec with state := .exhausted }), ?_, ?_⟩
  ·have := run_endLoop (P := P) ho (by rw [hrec]; simp)
   have hpn : rec.pending = none := by rw [hrec]
   rw [this, hpn]
  exact hdone _ m1 rfl hJ _ _ ⟨ka.size, by show [_] ++ a.defers = _; rw [ka.defers]; rfl, ka.val⟩ (s4.putObj _).tail
 ·rintro k m hkN hkd ⟨m1, rfl, hJ⟩ w4 hf hR
  rw [if_pos hkd] at hf hR ⊢
  have ho : w4.heap[w.heap.size + 1]? = some (.loop rec) := hf.ok (.obj _ _) (List.mem_cons_self ..)
  have hy := run_yield (P := P) (args := (enc k).toArray) ho (by rw [hrec]; simpa using hen k)
  refine ⟨_, _, _, _, hy, ?_⟩
  have hk : Kn n [] E { tmps := a.tmps, defers := [] } := ⟨ka.size, rfl, ka.val⟩
  have hk2 := Kn.par ps (enc k) E a.tmps hps hk
  rcases Nat.lt_or_ge k d with hlt | hge
  ·have hh := hround (w.heap.size + 1) rec k m1 w4 (by rw [hrec]) (by rw [hrec]) hkN hlt hJ _ w4 hk2 (Sx.start hf hR)
   rw [hrec] at hh ⊢
   refine (roundIn_of_wpIn (F := Fence.wide) trivial (R := Vw (w.heap.size + 1) rec (J (k + 1)) m1 w4) ?_).mono ?_
   ·rw [hrec]
    simp only [List.zip_toArray, List.foldl_toArray]
    exact hh
   rintro e w5 ⟨rfl, m', hJ', hx⟩
   rw [← hrec]
   refine ⟨by rw [decide_eq_true hlt], _, ⟨m', ?_, hJ'⟩, hx⟩
   rw [if_pos (by omega)]
  obtain rfl : k = d := by omega
  have hh := hstop (w.heap.size + 1) rec m1 w4 (by rw [hrec]) (by rw [hrec]) hkN hJ _ w4 hk2 (Sx.start hf hR)
  rw [hrec] at hh ⊢
  refine (roundIn_of_wpIn (F := Fence.wide) trivial (R := QaO (w.heap.size + 1) rec (J (k + 1)) m1 w4) ?_).mono ?_
  ·rw [hrec]
   simp only [List.zip_toArray, List.foldl_toArray]
   exact hh
  rintro e w5 ⟨rfl, m', hJ', hx⟩
  rw [← hrec]
  refine ⟨by rw [decide_eq_false (Nat.lt_irrefl k)], _, ⟨m', ?_, hJ'⟩, hx⟩
  rw [if_neg (by omega)]
 refine s2.reads (M := .obj w.heap.size (.deferred (some [])) :: M) (List.Perm.refl _) ⟨fun hw r hrm => ?_⟩
 obtain ⟨h1, h2, h3⟩ := hr.ok hw.tail r hrm
 exact ⟨h1, h2, fun k hk => let ⟨f, hf, hfk⟩ := h3 k hk; ⟨f, List.mem_cons_of_mem _ hf, hfk⟩⟩
theorem Qlt {L1 LL : List Fa → List Fa → List Fa} {gf n : Nat} {fn : Func} {c : Code} {lb : List Value} {R Ai Ai' : List Fa} {N d : Nat} {enc : Nat → List Value} (hf : P.funcs[gf]? = some fn) (hb : fn.body = some c) (hn : fn.ntmps = n) (hl : Nat.ble (lb.length + 1) n = true) [hL1 : ∀ m0 Rm, App R (m0 ++ Rm) (L1 m0 Rm)] [hL2 : ∀ m0 Rm, App Ai (L1 m0 Rm) (LL m0 Rm)]
  (h : ∀ (l : Nat) (J : Nat → List Fa → Prop) (Rm m0 : List Fa) (W : World), (∀ k m, J k m → ∀ f ∈ m, f.wr = true) → (∀ r ∈ Rm, r.wr = false) → (∀ k m, k < N → k ≤ d → J k m → YAB P l (enc k) Rm m (decide (k < d)) (J (k + 1))) → J 0 m0 →
   H (Ai ++ m0) W n [] (Y7 0 (.func (.yield l) #[] #[] :: lb)) (LL m0 Rm) (c.wpIn (FR none) 0 P (bodyPostM (FR none) 0 P fn fun e w' => ∃ v m', e = .returned v ∧ J (min (d + 1) N) m' ∧ Rx (Ai ++ m0) W w' (Ai' ++ m')))) : Qkh P gf lb R Ai N d enc Ai' := fun l J Rm m0 w hJw hy h0 hA hR => by
 have hl' : (Value.func (.yield l) #[] #[] :: lb).length ≤ n := by simpa using hl
 have hp : (Ai ++ m0 ++ (R ++ Rm)).Perm (Ai ++ (R ++ (m0 ++ Rm))) := by
  rw [List.append_assoc]
  refine List.Perm.append_left _ ?_
  rw [← List.append_assoc, ← List.append_assoc]
  exact List.Perm.append_right _ List.perm_append_comm
 have s := (Sx.start hA hR).perm hp
 rw [(hL1 m0 Rm).eq, (hL2 m0 Rm).eq] at s
 refine (callsIn_wide (n := 0)).1 (callsIn_of_wp_marks hf hb trivial (h l J Rm m0 w hJw (fun r hr => (hR r (List.mem_append_right _ hr)).1) hy h0 _ w ⟨?_, rfl, fun t u ht => ?_⟩ s))
 ·simp only [hn, Array.size_append, List.size_toArray, Array.size_replicate]
  omega
 obtain ⟨_, h2⟩ := JZ (.func (.yield l) #[] #[] :: lb) 0 t u ht
 have hlt : t < (Value.func (.yield l) #[] #[] :: lb).length := by
  obtain ⟨h3, _⟩ := List.getElem?_eq_some_iff.1 h2
  simpa using h3
 rw [Array.getElem?_append_left (by simpa using hlt)]
 simpa using h2
end
end
section
open Go.RowKit
class TakeA (X L : List Fa) (M : outParam (List Fa)) : Prop where
 perm : L.Perm (X ++ M)
instance iTakeA1 (X M : List Fa) : TakeA X (X ++ M) M := ⟨List.Perm.refl _⟩
instance (priority := 100) iTakeA2 (X : List Fa) (f : Fa) (L M : List Fa) [h : TakeA X L M] : TakeA X (f :: L) (f :: M) := ⟨(h.perm.cons f).trans List.perm_middle.symm⟩
section
variable {A : List Fa} {W : World} {n : Nat} {D : List Deferred} {E : Env} {K : Act → World → Prop}
theorem Qbw : ∀ (ys : List Seg) (h : Zh) (M : List Fa), (∀ x ∈ ys, ∃ g, x.1 = some ⟨g, 0, none⟩) → (∀ z', LeZ h z' → (∀ x ∈ ys, RdZ z' x.1 (bc x.2.2)) → H A W n D E (.zone true z' :: M) K) → H A W n D E (V6 ys ++ .zone true h :: M) K
 | [], h, M, _, k => k h (LeZ.refl h) (fun x hx => by cases hx)
 | y :: ys, h, M, hg, k => by
  obtain ⟨g, hy⟩ := hg y (List.mem_cons_self ..)
  show H A W n D E (Fa.own (sv y) y.2.2.length 5 1 (bc y.2.2) :: (V6 ys ++ .zone true h :: M)) K
  refine Jp (sv y) (hz := ⟨List.perm_middle⟩) fun h' B c e _ _ _ hz hr => ?_
  have e1 : y.1 = B := by injection e
  refine fun a w ka s => Qbw ys h' M (fun x hx => hg x (List.mem_cons_of_mem _ hx)) (fun z' hz' hr' => k z' (hz.trans hz') fun x hx => (List.mem_cons.1 hx).elim (fun e => by rw [e, e1]; exact hr.mono hz') (hr' x)) a w ka (s.perm List.perm_middle.symm)
theorem Qeg (ys : List Seg) (ls : List (List UInt8)) (hy : qG ys ls) {L M M' : List Fa} {h : Zh} [ht : TakeA (V6 ys) L M] [hz : TakeZ M h M'] (k : ∀ z', LeZ h z' → qx z' ys ls → H A W n D E (.zone true z' :: M') K) : H A W n D E L K := fun a w ka s =>
 Qbw ys h M' hy.2 (fun z' hl hr => k z' hl ⟨hy.1, fun x hx => ⟨hy.2 x hx, hr x hx⟩⟩) a w ka (s.perm (ht.perm.trans (List.Perm.append_left _ hz.perm)))
end
theorem QbL (x y : List UInt8) (B B' : Option Addr) (c c' : Nat) (hl : x.length ≤ 1000000000) : QC Tryz.prog 26 [.slice B x.length c, .slice B' y.length c'].toArray [.rd B (bc x), .rd B' (bc y)] [] (fun _ : Unit => .bool (decide (x = y))) (fun _ => []) := by
 refine Qk Tryz.func26 rfl (n := 26) rfl rfl ?_
 intro W
 refine yR ?_
 refine yS rfl ?_
 refine yN ?_
 refine Qd ?_
 refine yR ?_
 refine yM rfl ?_
 refine Qb (QF rfl) ?_
 refine yM rfl ?_
 refine Qb (QF rfl) ?_
 refine Qb (QL rfl rfl) ?_
 refine yN ?_
 by_cases hlen : x.length = y.length
 ·refine Ys rfl ((show ¬ ¬ ((x.length : Nat) : Int) = ((y.length : Nat) : Int) by omega)) ?_
  refine Qn ?_
  refine Qc ?_
  refine Qd ?_
  refine yR ?_
  refine yS rfl ?_
  refine yN ?_
  refine Qq ?_
  refine QS (fun (k : Nat) => k ≤ x.length ∧ x.take k = y.take k) (fun (k : Nat) => [(5, .int .i64 (k : Int)), (0, .slice B x.length c), (1, .slice B' y.length c')]) (fun (k : Nat) => [.rd B (bc x), .rd B' (bc y)]) (fun (k : Nat) => x.length - k) 0 (⟨Nat.zero_le _, rfl⟩) ⟨rfl, rfl, rfl, trivial⟩ (same) ?_
  rintro k ⟨hk, ht⟩
  refine Qd ?_
  refine yR ?_
  refine yM rfl ?_
  refine yM rfl ?_
  refine Qb (QF rfl) ?_
  refine Qb (QT rfl rfl) ?_
  refine yN ?_
  refine QU rfl (fun h => ?_) (fun h => ?_)
  ·have hk2 : k < x.length := by omega
   refine Jq (φ := (∃ b o, B = some ⟨b, o, none⟩) ∧ ∃ b o, B' = some ⟨b, o, none⟩) (fun w s => ⟨Rd.some (s.ok (.rd B (bc x)) (by simp)) (by rw [Jt]; omega), Rd.some (s.ok (.rd B' (bc y)) (by simp)) (by rw [Jt]; omega)⟩) ?_
   rintro ⟨⟨b, o, rfl⟩, b', o', rfl⟩
   have hx := J1 (l := x) (i := k) hk2
   have hy := J1 (l := y) (i := k) (by omega)
   have ex : x[k]? = some (x.getD k 0) := by rw [List.getD_eq_getElem?_getD, List.getElem?_eq_getElem hk2]; rfl
   have ey : y[k]? = some (y.getD k 0) := by rw [List.getD_eq_getElem?_getD, List.getElem?_eq_getElem (by omega)]; rfl
   by_cases he : x.getD k 0 = y.getD k 0
   ·refine Qn ?_
    refine Qc ?_
    refine Qd ?_
    refine Qq ?_
    refine Qd ?_
    refine Q1 [.rd (some ⟨b, o, none⟩) (bc x), .rd (some ⟨b', o', none⟩) (bc y)] [] QJ (same) ?_
    refine Qa 0 rfl (Qi rfl) ?_
    refine Qa 1 rfl (Qi rfl) ?_
    refine Qa 2 rfl (QQ rfl rfl) ?_
    refine Qp 3 rfl (QX rfl hx) ?_
    refine Qa 4 rfl (Qi rfl) ?_
    refine Qa 5 rfl (Qi rfl) ?_
    refine Qa 6 rfl (QQ rfl rfl) ?_
    refine Qp 7 rfl (QX rfl hy) ?_
    refine Qa 8 rfl (Ql (QL rfl rfl) (decide_eq_false (fun hh => hh (by rw [he])))) ?_
    refine QB (by kernel_rfl) ?_
    refine Qc ?_
    refine Qt rfl ?_
    refine Qn ?_
    refine Q2 ?_
    refine Qc ?_
    refine Q5 ?_
    refine yM rfl ?_
    refine Qb (QI rfl rfl) ?_
    refine yS rfl ?_
    refine QE ?_
    exact QH (k + 1) (⟨hk2, by rw [List.take_add_one, List.take_add_one, ht, ex, ey, he]⟩) (by omega) ⟨rfl, rfl, rfl, trivial⟩ (same)
   have hne : ¬ x = y := fun h => he (by rw [h])
   rw [decide_eq_false hne]
   refine Qn ?_
   refine Qc ?_
   refine Qd ?_
   refine Qq ?_
   refine Qd ?_
   refine Q1 [.rd (some ⟨b, o, none⟩) (bc x), .rd (some ⟨b', o', none⟩) (bc y)] [] QJ (same) ?_
   refine Qa 0 rfl (Qi rfl) ?_
   refine Qa 1 rfl (Qi rfl) ?_
   refine Qa 2 rfl (QQ rfl rfl) ?_
   refine Qp 3 rfl (QX rfl hx) ?_
   refine Qa 4 rfl (Qi rfl) ?_
   refine Qa 5 rfl (Qi rfl) ?_
   refine Qa 6 rfl (QQ rfl rfl) ?_
   refine Qp 7 rfl (QX rfl hy) ?_
   refine Qa 8 rfl (Ql (QL rfl rfl) (decide_eq_true (fun hh => he (UInt8.toNat_inj.1 (Int.ofNat.inj hh))))) ?_
   refine QB (by kernel_rfl) ?_
   refine Qc ?_
   refine Qz rfl ?_
   refine yR ?_
   refine yS rfl ?_
   refine yN ?_
   refine Qs ?_
   refine Q3 ?_
   refine Qr ?_
   refine Qr ?_
   refine Q3 ?_
   refine Qr ?_
   exact Qu rfl rfl fun w s => ⟨(), rfl, s.res (List.nil_sublist _) (by simp)⟩
  obtain rfl : k = x.length := by omega
  rw [List.take_length, hlen, List.take_length] at ht
  rw [decide_eq_true ht]
  refine QK ?_
  refine Qx ?_
  refine Qx ?_
  refine Q8 ?_
  refine Qc ?_
  refine yR ?_
  refine yS rfl ?_
  refine yN ?_
  refine Qs ?_
  exact Qu rfl rfl fun w s => ⟨(), rfl, s.res (List.nil_sublist _) (by simp)⟩
 rw [decide_eq_false (show ¬ x = y from fun h => hlen (congrArg List.length h))]
 refine Yz rfl ((show ¬ ((x.length : Nat) : Int) = ((y.length : Nat) : Int) by omega)) ?_
 refine yR ?_
 refine yS rfl ?_
 refine yN ?_
 refine Qs ?_
 refine Qr ?_
 exact Qu rfl rfl fun w s => ⟨(), rfl, s.res (List.nil_sublist _) (by simp)⟩
abbrev ZG : Seg := (none, 0, [])
theorem Qin {xs : List Seg} {k : Nat} (h : k < xs.length) : (svs xs)[k]? = some (sv (xs.getD k ZG)) := by
 unfold svs
 rw [List.getElem?_map, List.getD_eq_getElem?_getD, List.getElem?_eq_getElem h]
 rfl
theorem QcL (xs : List Seg) : (svs xs).length = xs.length := by simp [svs]
theorem Qoc (X Y : Option Addr) (nx ny cx cy : Nat) : QC Tryz.prog 127 [.slice X nx cx, .slice Y ny cy].toArray [] [] (fun u : Nat × Nat => .func (.func 200) #[] [.pointer (some ⟨u.1, 0, none⟩), .pointer (some ⟨u.2, 0, none⟩)].toArray) (fun u => [.blk u.1 [.slice X nx cx] 97, .blk u.2 [.slice Y ny cy] 97]) := by
 refine Qk Tryz.func127 rfl (n := 6) rfl rfl ?_
 intro W
 refine yR ?_
 refine Qo (JW rfl) fun g2 => ?_
 refine Qo (JW rfl) fun g3 => ?_
 refine yS rfl ?_
 refine yN ?_
 refine yR ?_
 refine Qb (Y1 rfl rfl) ?_
 refine yS rfl ?_
 refine yN ?_
 refine Qs ?_
 exact Qu rfl rfl fun w s => ⟨(g2, g3), rfl, (same w s).res (List.Sublist.refl _) (by simp [Fa.wr])⟩
theorem QlA (xs ys : List Seg) (X Y : Option Addr) (cx cy g1 g2 d : Nat) (hxl : xs.length ≤ 1000000) (hyl : ys.length ≤ 1000000) (hd : d ≤ min xs.length ys.length) : Qkh Tryz.prog 200 [.pointer (some ⟨g1, 0, none⟩), .pointer (some ⟨g2, 0, none⟩)] [.rd (some ⟨g1, 0, none⟩) [.slice X xs.length cx], .rd (some ⟨g2, 0, none⟩) [.slice Y ys.length cy], .rd X (svs xs), .rd Y (svs ys)] [] (min xs.length ys.length) d (fun k => [sv (xs.getD k ZG), sv (ys.getD k ZG)]) [] := by
 refine Qlt Tryz.func200 rfl (n := 29) rfl rfl ?_
 intro l J Rm m0 W hJw hRm hy h0
 refine yR ?_
 refine yS rfl ?_
 refine yN ?_
 refine Qq ?_
 refine QS (fun (s : Nat × List Fa) => s.1 ≤ d ∧ J s.1 s.2) (fun (s : Nat × List Fa) => [(4, .int .i64 (s.1 : Int)), (0, .func (.yield l) #[] #[]), (1, .pointer (some ⟨g1, 0, none⟩)), (2, .pointer (some ⟨g2, 0, none⟩))]) (fun (s : Nat × List Fa) => .rd (some ⟨g1, 0, none⟩) [.slice X xs.length cx] :: .rd (some ⟨g2, 0, none⟩) [.slice Y ys.length cy] :: .rd X (svs xs) :: .rd Y (svs ys) :: (s.2 ++ Rm)) (fun (s : Nat × List Fa) => d + 1 - s.1) (0, m0) ((show 0 ≤ d ∧ J 0 m0 from ⟨Nat.zero_le _, h0⟩)) ⟨rfl, rfl, rfl, rfl, trivial⟩ (fun _ s => s) ?_
 rintro ⟨k, mm⟩ ⟨hk, hJ⟩
 dsimp only at hk hJ ⊢
 refine Qd ?_
 refine Qd ?_
 by_cases hN : k < min xs.length ys.length
 ·refine Jq (φ := (∃ b o, X = some ⟨b, o, none⟩) ∧ ∃ b o, Y = some ⟨b, o, none⟩) (fun w s => ⟨Rd.some (s.ok (.rd X (svs xs)) (by simp)) (by rw [QcL]; omega), Rd.some (s.ok (.rd Y (svs ys)) (by simp)) (by rw [QcL]; omega)⟩) ?_
  rintro ⟨⟨b, o, rfl⟩, b', o', rfl⟩
  have hx := Qin (xs := xs) (k := k) (by omega)
  have hy' := Qin (xs := ys) (k := k) (by omega)
  have hyk := hy k mm hN hk hJ
  by_cases hkd : k < d
  ·rw [decide_eq_true hkd] at hyk
   refine Q1 [.rd (some ⟨g1, 0, none⟩) [.slice (some ⟨b, o, none⟩) xs.length cx], .rd (some ⟨g2, 0, none⟩) [.slice (some ⟨b', o', none⟩) ys.length cy], .rd (some ⟨b, o, none⟩) (svs xs), .rd (some ⟨b', o', none⟩) (svs ys)] [] QJ (same) ?_
   refine Qa 0 rfl (Qi rfl) ?_
   refine Qp 1 rfl (Qf rfl) ?_
   refine Qa 2 rfl (QF rfl) ?_
   refine Qa 3 rfl (Ql (QT rfl rfl) (decide_eq_true (by omega))) ?_
   refine Qa 4 rfl (Qi rfl) ?_
   refine Qa 5 rfl (Qi rfl) ?_
   refine Qp 6 rfl (Qf rfl) ?_
   refine Qa 7 rfl (QF rfl) ?_
   refine Qa 8 rfl (Ql (QT rfl rfl) (decide_eq_true (by omega))) ?_
   refine Qa 9 rfl (Qy rfl rfl) ?_
   refine Qa 10 rfl (Qi rfl) ?_
   refine Qa 11 rfl (Qi rfl) ?_
   refine Qp 12 rfl (Qf rfl) ?_
   refine Qa 13 rfl (Qi rfl) ?_
   refine Qa 14 rfl (QQ rfl rfl) ?_
   refine Qp 15 rfl (QX rfl hx) ?_
   refine Qp 16 rfl (Qf rfl) ?_
   refine Qa 17 rfl (Qi rfl) ?_
   refine Qa 18 rfl (QQ rfl rfl) ?_
   refine Qp 19 rfl (QX rfl hy') ?_
   refine Qv 20 ?_
   refine Qri 20 rfl (hyk) hRm rfl rfl (fun xx => same) fun m' hJ' => ?_
   refine Qa 21 rfl (Qy rfl rfl) ?_
   refine QB (by kernel_rfl) ?_
   refine Qc ?_
   refine Qz rfl ?_
   refine Qn ?_
   refine Qc ?_
   refine Qd ?_
   refine Qq ?_
   refine Qn ?_
   refine Q2 ?_
   refine Qc ?_
   refine Q5 ?_
   refine yM rfl ?_
   refine Qb (QI rfl rfl) ?_
   refine yS rfl ?_
   refine QE ?_
   exact QH (k + 1, m') ((show k + 1 ≤ d ∧ J (k + 1) m' from ⟨hkd, hJ'⟩)) ((show d + 1 - (k + 1) < d + 1 - k by omega)) ⟨rfl, rfl, rfl, rfl, trivial⟩ (fun _ s => s)
  obtain rfl : k = d := by omega
  rw [decide_eq_false (Nat.lt_irrefl k)] at hyk
  refine Q1 [.rd (some ⟨g1, 0, none⟩) [.slice (some ⟨b, o, none⟩) xs.length cx], .rd (some ⟨g2, 0, none⟩) [.slice (some ⟨b', o', none⟩) ys.length cy], .rd (some ⟨b, o, none⟩) (svs xs), .rd (some ⟨b', o', none⟩) (svs ys)] [] QJ (same) ?_
  refine Qa 0 rfl (Qi rfl) ?_
  refine Qp 1 rfl (Qf rfl) ?_
  refine Qa 2 rfl (QF rfl) ?_
  refine Qa 3 rfl (Ql (QT rfl rfl) (decide_eq_true (by omega))) ?_
  refine Qa 4 rfl (Qi rfl) ?_
  refine Qa 5 rfl (Qi rfl) ?_
  refine Qp 6 rfl (Qf rfl) ?_
  refine Qa 7 rfl (QF rfl) ?_
  refine Qa 8 rfl (Ql (QT rfl rfl) (decide_eq_true (by omega))) ?_
  refine Qa 9 rfl (Qy rfl rfl) ?_
  refine Qa 10 rfl (Qi rfl) ?_
  refine Qa 11 rfl (Qi rfl) ?_
  refine Qp 12 rfl (Qf rfl) ?_
  refine Qa 13 rfl (Qi rfl) ?_
  refine Qa 14 rfl (QQ rfl rfl) ?_
  refine Qp 15 rfl (QX rfl hx) ?_
  refine Qp 16 rfl (Qf rfl) ?_
  refine Qa 17 rfl (Qi rfl) ?_
  refine Qa 18 rfl (QQ rfl rfl) ?_
  refine Qp 19 rfl (QX rfl hy') ?_
  refine Qv 20 ?_
  refine Qri 20 rfl (hyk) hRm rfl rfl (fun xx => same) fun m' hJ' => ?_
  refine Qa 21 rfl (Qy rfl rfl) ?_
  refine QB (by kernel_rfl) ?_
  refine Qc ?_
  refine Qt rfl ?_
  refine QK ?_
  refine Qx ?_
  refine Qx ?_
  refine Q8 ?_
  refine ZJ ?_
  exact Vg rfl fun w s => ⟨_, m', rfl, by rw [Nat.min_eq_left (by omega)]; exact hJ', s.res (((((List.sublist_append_left _ _).cons _).cons _).cons _).cons _) (hJw _ _ hJ')⟩
 obtain rfl : k = d := by omega
 have hke : k = min xs.length ys.length := by omega
 have hfin : J (min (k + 1) (min xs.length ys.length)) mm := by rw [Nat.min_eq_right (by omega), ← hke]; exact hJ
 by_cases hx : k < xs.length
 ·refine Q1 [.rd (some ⟨g1, 0, none⟩) [.slice X xs.length cx], .rd (some ⟨g2, 0, none⟩) [.slice Y ys.length cy]] [] QJ (same) ?_
  refine Qa 0 rfl (Qi rfl) ?_
  refine Qp 1 rfl (Qf rfl) ?_
  refine Qa 2 rfl (QF rfl) ?_
  refine Qa 3 rfl (Ql (QT rfl rfl) (decide_eq_true (by omega))) ?_
  refine Qa 4 rfl (Qi rfl) ?_
  refine Qa 5 rfl (Qi rfl) ?_
  refine Qp 6 rfl (Qf rfl) ?_
  refine Qa 7 rfl (QF rfl) ?_
  refine Qa 8 rfl (Ql (QT rfl rfl) (decide_eq_false (by omega))) ?_
  refine Qa 9 rfl (Qy rfl rfl) ?_
  refine Qa 10 rfl (Qi rfl) ?_
  refine QW 11 rfl ?_
  refine QW 12 rfl ?_
  refine QW 13 rfl ?_
  refine QW 14 rfl ?_
  refine QW 15 rfl ?_
  refine QW 16 rfl ?_
  refine QW 17 rfl ?_
  refine QW 18 rfl ?_
  refine QW 19 rfl ?_
  refine QW 20 rfl ?_
  refine Qa 21 rfl (Qy rfl rfl) ?_
  refine QB (by kernel_rfl) ?_
  refine Qc ?_
  refine Qt rfl ?_
  refine QK ?_
  refine Qx ?_
  refine Qx ?_
  refine Q8 ?_
  refine ZJ ?_
  exact Vg rfl fun w s => ⟨_, mm, rfl, hfin, s.res (((((List.sublist_append_left _ _).cons _).cons _).cons _).cons _) (hJw _ _ hJ)⟩
 refine Q1 [.rd (some ⟨g1, 0, none⟩) [.slice X xs.length cx], .rd (some ⟨g2, 0, none⟩) [.slice Y ys.length cy]] [] QJ (same) ?_
 refine Qa 0 rfl (Qi rfl) ?_
 refine Qp 1 rfl (Qf rfl) ?_
 refine Qa 2 rfl (QF rfl) ?_
 refine Qa 3 rfl (Ql (QT rfl rfl) (decide_eq_false (by omega))) ?_
 refine Qa 4 rfl (Qi rfl) ?_
 refine QW 5 rfl ?_
 refine QW 6 rfl ?_
 refine QW 7 rfl ?_
 refine QW 8 rfl ?_
 refine Qa 9 rfl (Qy rfl rfl) ?_
 refine Qa 10 rfl (Qi rfl) ?_
 refine QW 11 rfl ?_
 refine QW 12 rfl ?_
 refine QW 13 rfl ?_
 refine QW 14 rfl ?_
 refine QW 15 rfl ?_
 refine QW 16 rfl ?_
 refine QW 17 rfl ?_
 refine QW 18 rfl ?_
 refine QW 19 rfl ?_
 refine QW 20 rfl ?_
 refine Qa 21 rfl (Qy rfl rfl) ?_
 refine QB (by kernel_rfl) ?_
 refine Qc ?_
 refine Qt rfl ?_
 refine QK ?_
 refine Qx ?_
 refine Qx ?_
 refine Q8 ?_
 refine ZJ ?_
 exact Vg rfl fun w s => ⟨_, mm, rfl, hfin, s.res (((((List.sublist_append_left _ _).cons _).cons _).cons _).cons _) (hJw _ _ hJ)⟩
end
end Go.Proofs.YtjhlbbgikccclaaGreatDoor
