/- joined texts -/
import Derived.Test.YtjhlbbgikccclaaGreatDoorF12
set_option linter.all false
namespace Go.Proofs.YtjhlbbgikccclaaGreatDoor
section
open Go.RowKit
theorem Qey {P : Program} {n : Nat} {D : List Deferred} {E : Env} {L : List Fa} {T T' : TypeId} {t : Nat} {u : TypeId} {v : Value} [hT : TIf P T] (hx : ev E (.tmp t) = some (.iface u v)) : QM P n D E L (.binOp .neq T (.tmp t) (.const .nilIface) T') (.bool true) := fun a w ka s o ho =>
 J7 ho (ka.ev hx) (v := .nilIface) rfl rfl (run_neq_held_nil w T u v hT.und)
theorem Z4 {P : Program} {n : Nat} {D : List Deferred} {E : Env} {L : List Fa} {T T' : TypeId} {t : Nat} [hT : TIf P T] (hx : ev E (.tmp t) = some .nilIface) : QM P n D E L (.binOp .neq T (.tmp t) (.const .nilIface) T') (.bool false) := fun a w ka s o ho =>
 J7 ho (ka.ev hx) (v := .nilIface) rfl rfl (run_neq_nil_nil w T hT.und)
def QiO : Option (Nat × Int) → Int
 | none => 0
 | some (_, e) => e
section
variable (n : Nat) (hn : n ≤ 256) (h : Zh) [hT : RdZ h (some ⟨1, 0, none⟩) Jd] [hE : RdZ h (some ⟨0, 0, none⟩) [rty 43]] (gh gc k : Nat) (hk : k ≤ 100000000) (root : Sl) (c : Claim) (b : Sl) (rb kb vb bb : List UInt8) [hR : SlZ h root rb] [hK : SlZ h c.key kb] [hV : SlZ h c.value vb] [hB : SlZ h b bb] (hvl : vb.length ≤ 100000000) (hbl : bb.length ≤ 100000000)
include hn hk hvl hbl
theorem Qgn : QC Tryz.prog 21 [.pointer (some ⟨gh, 0, none⟩), .slice root.A root.n root.c, .agg c.cells.toArray, .slice b.A b.n b.c].toArray [HR gh gc n] [.zone true h, CN gc k] (fun u : {u : Zh × Nat // LeZ h u.1 ∧ u.2 ≤ k + 259} => .int .i64 (QiO (Yc (Je n root c rb kb vb bb)))) (fun u => [.zone true u.1.1, CN gc u.1.2]) := by
 have hV := Qks n hn h gh gc k hk root c b rb kb vb bb hvl hbl
 generalize Yc (Je n root c rb kb vb bb) = r at hV ⊢
 rcases r with _ | ⟨i, e⟩
 ·replace hV : QC Tryz.prog 59 [.pointer (some ⟨gh, 0, none⟩), .slice root.A root.n root.c, .agg c.cells.toArray, .slice b.A b.n b.c].toArray [HR gh gc n] [.zone true h, CN gc k] (fun u : {u : Nat × Zh × Nat // LeZ h u.2.1 ∧ u.2.2 ≤ k + 259} => .nilIface) (fun u => [.zone true u.1.2.1, CN gc u.1.2.2]) := hV
  refine Qk Tryz.func21 rfl (n := 25) rfl rfl ?_
  intro W
  refine yR ?_
  refine Qo (Q9 rfl) fun g6 => ?_
  refine yS rfl ?_
  refine yN ?_
  refine yR ?_
  refine Qo (Q0) fun g9 => ?_
  refine yN ?_
  refine Qd ?_
  refine yR ?_
  refine yM rfl ?_
  refine yM rfl ?_
  refine Qb (Qm rfl) ?_
  refine yM rfl ?_
  refine Qh (hV.comes) rfl rfl rfl fun ⟨⟨g15, z, k'⟩, hz, hk'⟩ => ?_
  dsimp only at hz hk' ⊢
  refine yS rfl ?_
  refine yN ?_
  refine yR ?_
  refine yM rfl ?_
  refine Qb (Z4 rfl) ?_
  refine yM rfl ?_
  refine Qg ?_
  refine Qg ?_
  refine Qg ?_
  refine Qg ?_
  refine Qb (Qy rfl rfl) ?_
  refine yN ?_
  refine Qt rfl ?_
  refine Qn ?_
  refine Qc ?_
  refine yR ?_
  refine Qb (Qf rfl) ?_
  refine yS rfl ?_
  refine yN ?_
  refine Qs ?_
  exact Qu rfl rfl fun w s => ⟨⟨(z, k'), hz, hk'⟩, rfl, (same (L' := [.zone true z, CN gc k']) w s).res (List.Sublist.refl _) (by simp [Fa.wr])⟩
 replace hV : QC Tryz.prog 59 [.pointer (some ⟨gh, 0, none⟩), .slice root.A root.n root.c, .agg c.cells.toArray, .slice b.A b.n b.c].toArray [HR gh gc n] [.zone true h, CN gc k] (fun u : {u : Nat × Zh × Nat // LeZ h u.2.1 ∧ u.2.2 ≤ k + 259} => .iface 145 (.pointer (some ⟨u.1.1, 0, none⟩))) (fun u => [.zone true u.1.2.1, CN gc u.1.2.2, .blk u.1.1 (Yf Yd (i : Int) e) 284]) := hV
 refine Qk Tryz.func21 rfl (n := 25) rfl rfl ?_
 intro W
 refine yR ?_
 refine Qo (Q9 rfl) fun g6 => ?_
 refine yS rfl ?_
 refine yN ?_
 refine yR ?_
 refine Qo (Q0) fun g9 => ?_
 refine yN ?_
 refine Qd ?_
 refine yR ?_
 refine yM rfl ?_
 refine yM rfl ?_
 refine Qb (Qm rfl) ?_
 refine yM rfl ?_
 refine Qh (hV.comes) rfl rfl rfl fun ⟨⟨g15, z, k'⟩, hz, hk'⟩ => ?_
 dsimp only at hz hk' ⊢
 have hEz : RdZ z (some ⟨0, 0, none⟩) [rty 43] := hE.mono hz
 refine yS rfl ?_
 refine yN ?_
 refine yR ?_
 refine yM rfl ?_
 refine Qb (Qey rfl) ?_
 refine yM rfl ?_
 refine yM rfl ?_
 refine Qb (qq rfl) ?_
 refine Qh ((Qpc g15 g9 Yd (i : Int) e).comes) rfl rfl rfl fun _ => ?_
 refine Qb (Ji rfl) ?_
 refine Qb (Qy rfl rfl) ?_
 refine yN ?_
 refine Qt rfl ?_
 refine Qn ?_
 refine Qc ?_
 refine yR ?_
 refine Qb (Qf rfl) ?_
 refine yS rfl ?_
 refine yN ?_
 refine Qs ?_
 exact Qu rfl rfl fun w s => ⟨⟨(z, k'), hz, hk'⟩, rfl, (same (L' := [.zone true z, CN gc k']) w s).res (List.Sublist.refl _) (by simp [Fa.wr])⟩
end
def Qao (p : Proof) (ss : List B32) : DP := ⟨p.kind.toNat, p.depth.toNat, p.leaf, p.bitmap, ss⟩
theorem Qel {p : Proof} (h : Jk p = 0) : p.kind = 0 ∨ p.kind = 1 := by simpa [okJ] using qh h 0 (by omega)
theorem Qn2 {p : Proof} {ss : List B32} (hs : p.sibs.n = ss.length) (hc : Jk p = 0) : p = (Qao p ss).pr p.sibs.A p.sibs.c := by
 have h1 := Y5 hc
 have h2 := Qel hc
 obtain ⟨k, d, lf, bm, A, N, c⟩ := p
 dsimp only at hs h1 h2
 subst hs
 unfold DP.pr Qao
 dsimp only
 rw [Int.toNat_of_nonneg (by omega), Int.toNat_of_nonneg (by omega)]
theorem Qg7 (p : DP) (A A' : Option Addr) (c c' : Nat) : Jk (p.pr A c) = Jk (p.pr A' c') := rfl
section
variable (n : Nat) (hn : n ≤ 256) (h : Zh) [hT : RdZ h (some ⟨1, 0, none⟩) Jd] (gh gc k : Nat) (hk : k ≤ 100000000) (root : B32) (c : Claim) (kb vb : List UInt8) [hK : SlZ h c.key kb] [hV : SlZ h c.value vb] (hvl : vb.length ≤ 100000000) (p : Proof) (ss : List B32) (hs : p.sibs.n = ss.length) [hS : RdZ h p.sibs.A (dgs ss)]
include hn hk hvl hs
def Qai (n : Nat) (root : B32) (c : Claim) (kb vb : List UInt8) (p : Proof) (ss : List B32) : Bool := decide (Jy c = 0) && decide (Jk p = 0) && (qt p (keyOf kb) (ZF n c.present vb) c.present && decide (qy n (Qao p ss) (keyOf kb) = root))
theorem Qiv : QC Tryz.prog 65 [.pointer (some ⟨gh, 0, none⟩), .agg root.cells.toArray, .agg c.cells.toArray, .agg p.cells.toArray].toArray [HR gh gc n] [.zone true h, CN gc k] (fun u : {u : Zh × Nat // LeZ h u.1 ∧ u.2 ≤ k + 259} => .bool (Qai n root c kb vb p ss)) (fun u => [.zone true u.1.1, CN gc u.1.2]) := by
 have hkn := hK.len
 have hC := Qhu c
 have hCh := Zs p
 refine Qk Tryz.func65 rfl (n := 30) rfl rfl ?_
 intro W
 by_cases h1 : Jy c = 0
 ·rw [h1] at hC
  have hk32 : kb.length = 32 := by
   unfold Jy at h1
   split at h1
   ·omega
   cases h1
  by_cases h2 : Jk p = 0
  ·rw [h2] at hCh
   have hpe := Qn2 hs h2
   refine yR ?_
   refine Qo (Q9 rfl) fun g5 => ?_
   refine Qo (Q9 rfl) fun g6 => ?_
   refine Qo (Q9 rfl) fun g7 => ?_
   refine yS rfl ?_
   refine yN ?_
   refine Qd ?_
   refine yR ?_
   refine Qb (Qm rfl) ?_
   refine Qh (hC.comes) rfl rfl rfl fun _ => ?_
   refine Qb (Ql (QL rfl rfl) rfl) ?_
   refine yM rfl ?_
   refine Qb (Qm rfl) ?_
   refine Qh (hCh.comes) rfl rfl rfl fun _ => ?_
   refine Qb (Ql (QL rfl rfl) rfl) ?_
   refine Qb (Qy rfl rfl) ?_
   refine yN ?_
   refine Qt rfl ?_
   refine Qn ?_
   refine Qc ?_
   refine Qd ?_
   refine Q1 [.blk g5 root.cells 45, .blk g6 c.cells 50, .blk g7 p.cells 63] [] QJ (same) ?_
   refine Qa 0 rfl (Qi rfl) ?_
   refine Qa 1 rfl (qr rfl) ?_
   refine Qp 2 rfl (Qm rfl) ?_
   refine Qp 3 rfl (Qm rfl) ?_
   refine Qa 4 rfl (QD rfl) ?_
   refine Qv 5 ?_
   refine JB 5 rfl (rk (Q9 rfl)) (fun _ => same) fun g23 => ?_
   refine Qa 6 rfl (Q6 rfl) ?_
   refine QB (by kernel_rfl) ?_
   refine Qc ?_
   change H _ _ _ _ _ (.blk g23 (Chk.cells ⟨some ⟨gh, 0, none⟩, ⟨some ⟨g5, 0, none⟩, 32, 32⟩, c, ⟨none, 0, 0⟩, p⟩) _ :: _) _
   refine qL g5 (cs := root.cells) (T := 45) fun z hz hrz => ?_
   have hTz : RdZ z (some ⟨1, 0, none⟩) Jd := hT.mono hz
   have hKz : SlZ z c.key kb := hK.mono hz
   have hVz : SlZ z c.value vb := hV.mono hz
   have hSz : RdZ z p.sibs.A (dgs ss) := hS.mono hz
   have hRz : SlZ z ⟨some ⟨g5, 0, none⟩, 32, 32⟩ root.1 := ⟨root.2.symm, Nat.le_refl _, (fun h => by cases h), hrz⟩
   have hrk : keyOf root.1 = root := by unfold keyOf; rw [dif_pos root.2]
   have hsu := QcK n hn z gh gc k g23 (by omega) ⟨some ⟨gh, 0, none⟩, ⟨some ⟨g5, 0, none⟩, 32, 32⟩, c, ⟨none, 0, 0⟩, p⟩ rfl kb vb hk32 hvl
   obtain ⟨bs, hbs⟩ : ∃ bs, qt p (keyOf kb) (ZF n c.present vb) c.present = bs := ⟨_, rfl⟩
   rw [hbs] at hsu
   have hdd : (Qao p ss).d ≤ 256 := by have h9 := Y5 h2; show p.depth.toNat ≤ 256; omega
   have hck2 : Jk ((Qao p ss).pr none 0) = 0 := by rw [Qg7 _ none p.sibs.A 0 p.sibs.c, ← hpe]; exact h2
   have hle := QhQ n hn z gh gc (k + if c.present then 1 else 0) g23 (by split <;> omega) ⟨some ⟨gh, 0, none⟩, ⟨some ⟨g5, 0, none⟩, 32, 32⟩, c, ⟨none, 0, 0⟩, p⟩ rfl kb hk32 root.1 root.2 (Qao p ss) p.sibs.A p.sibs.c hpe hck2
   rw [hrk] at hle
   rw [show Qai n root c kb vb p ss = (bs && decide (qy n (Qao p ss) (keyOf kb) = root)) by unfold Qai; rw [hbs, decide_eq_true h1, decide_eq_true h2]; rfl]
   cases bs
   ·refine Qd ?_
    refine Q5 ?_
    refine yM rfl ?_
    refine Qh (hsu.comes) rfl rfl rfl fun _ => ?_
    refine yM rfl ?_
    refine Qg ?_
    refine Qg ?_
    refine Qb (Qy rfl rfl) ?_
    refine yS rfl ?_
    refine yN ?_
    refine Qs ?_
    exact Qu rfl rfl fun w s => ⟨⟨(z, k + if c.present then 1 else 0), hz, by dsimp only; split <;> omega⟩, rfl, (same (L' := [.zone true z, CN gc (k + if c.present then 1 else 0)]) w s).res (List.Sublist.refl _) (by simp [Fa.wr])⟩
   refine Qd ?_
   refine Q5 ?_
   refine yM rfl ?_
   refine Qh (hsu.comes) rfl rfl rfl fun _ => ?_
   refine yM rfl ?_
   refine yM rfl ?_
   refine Qh (hle.comes) rfl rfl rfl fun _ => ?_
   refine Qb (Qy rfl rfl) ?_
   refine yS rfl ?_
   refine yN ?_
   refine Qs ?_
   exact Qu rfl rfl fun w s => ⟨⟨(z, (k + if c.present then 1 else 0) + 1 + (Qao p ss).d + 1), hz, by dsimp only; split <;> omega⟩, rfl, (same (L' := [.zone true z, CN gc ((k + if c.present then 1 else 0) + 1 + (Qao p ss).d + 1)]) w s).res (List.Sublist.refl _) (by simp [Fa.wr])⟩
  rw [show Qai n root c kb vb p ss = false by unfold Qai; rw [decide_eq_false h2]; simp]
  refine yR ?_
  refine Qo (Q9 rfl) fun g5 => ?_
  refine Qo (Q9 rfl) fun g6 => ?_
  refine Qo (Q9 rfl) fun g7 => ?_
  refine yS rfl ?_
  refine yN ?_
  refine Qd ?_
  refine yR ?_
  refine Qb (Qm rfl) ?_
  refine Qh (hC.comes) rfl rfl rfl fun _ => ?_
  refine Qb (Ql (QL rfl rfl) rfl) ?_
  refine yM rfl ?_
  refine Qb (Qm rfl) ?_
  refine Qh (hCh.comes) rfl rfl rfl fun _ => ?_
  refine Qb (Ql (QL rfl rfl) (decide_eq_true h2)) ?_
  refine Qb (Qy rfl rfl) ?_
  refine yN ?_
  refine Qz rfl ?_
  refine yR ?_
  refine yS rfl ?_
  refine yN ?_
  refine Qs ?_
  refine Qr ?_
  exact Qu rfl rfl fun w s => ⟨⟨(h, k), LeZ.refl h, Nat.le_add_right _ _⟩, rfl, (same (L' := [.zone true h, CN gc k]) w s).res (List.Sublist.refl _) (by simp [Fa.wr])⟩
 rw [show Qai n root c kb vb p ss = false by unfold Qai; rw [decide_eq_false h1]; simp]
 refine yR ?_
 refine Qo (Q9 rfl) fun g5 => ?_
 refine Qo (Q9 rfl) fun g6 => ?_
 refine Qo (Q9 rfl) fun g7 => ?_
 refine yS rfl ?_
 refine yN ?_
 refine Qd ?_
 refine yR ?_
 refine Qb (Qm rfl) ?_
 refine Qh (hC.comes) rfl rfl rfl fun _ => ?_
 refine Qb (Ql (QL rfl rfl) (decide_eq_true h1)) ?_
 refine yM rfl ?_
 refine Qg ?_
 refine Qg ?_
 refine Qg ?_
 refine Qb (Qy rfl rfl) ?_
 refine yN ?_
 refine Qz rfl ?_
 refine yR ?_
 refine yS rfl ?_
 refine yN ?_
 refine Qs ?_
 refine Qr ?_
 exact Qu rfl rfl fun w s => ⟨⟨(h, k), LeZ.refl h, Nat.le_add_right _ _⟩, rfl, (same (L' := [.zone true h, CN gc k]) w s).res (List.Sublist.refl _) (by simp [Fa.wr])⟩
end
end
section
open Go.RowKit
end
section
open Go.RowKit
end
section
open Go.RowKit
def QcB (xs : List Value) (i : Nat) : List Value := (List.range xs.length).map fun t => if t < i ∨ xs.length - i ≤ t then xs.getD (xs.length - 1 - t) .nilFunc else xs.getD t .nilFunc
theorem qS (xs : List Value) (i : Nat) : (QcB xs i).length = xs.length := by simp [QcB]
theorem Z8 (xs : List Value) (i t : Nat) (h : t < xs.length) : (QcB xs i)[t]? = some (if t < i ∨ xs.length - i ≤ t then xs.getD (xs.length - 1 - t) .nilFunc else xs.getD t .nilFunc) := by
 unfold QcB
 rw [List.getElem?_map, List.getElem?_range h]
 rfl
theorem Qqk (xs : List Value) : QcB xs 0 = xs := by
 apply List.ext_getElem?
 intro t
 by_cases h : t < xs.length
 ·rw [Z8 xs 0 t h, if_neg (by omega), List.getD, List.getElem?_eq_getElem h]; rfl
 rw [List.getElem?_eq_none (by rw [qS]; omega), List.getElem?_eq_none (by omega)]
theorem Qmk (xs : List Value) (i : Nat) (h : xs.length ≤ 2 * i + 1) (hi : i ≤ xs.length) : QcB xs i = xs.reverse := by
 apply List.ext_getElem?
 intro t
 by_cases ht : t < xs.length
 ·rw [Z8 xs i t ht, List.getElem?_reverse ht]
  by_cases h2 : t < i ∨ xs.length - i ≤ t
  ·rw [if_pos h2, List.getD, List.getElem?_eq_getElem (by omega)]; rfl
  rw [if_neg h2, show xs.length - 1 - t = t by omega, List.getD, List.getElem?_eq_getElem ht]; rfl
 rw [List.getElem?_eq_none (by rw [qS]; omega), List.getElem?_eq_none (by rw [List.length_reverse]; omega)]
theorem QjB (xs : List Value) (i : Nat) (h : i < xs.length - 1 - i) : ((QcB xs i).set i (xs.getD (xs.length - 1 - i) .nilFunc)).set (xs.length - 1 - i) (xs.getD i .nilFunc) = QcB xs (i + 1) := by
 apply List.ext_getElem?
 intro t
 rw [List.getElem?_set, List.length_set, qS, List.getElem?_set, qS]
 by_cases ht : t < xs.length
 ·rw [Z8 xs (i + 1) t ht, Z8 xs i t ht]
  by_cases e1 : xs.length - 1 - i = t
  ·rw [if_pos e1, if_pos (by omega), if_pos (by omega), show xs.length - 1 - t = i by omega]
  rw [if_neg e1]
  by_cases e2 : i = t
  ·rw [if_pos e2, if_pos (by omega), if_pos (by omega), e2]
  rw [if_neg e2]
  congr 1
  by_cases h3 : t < i ∨ xs.length - i ≤ t
  ·rw [if_pos h3, if_pos (by omega)]
  rw [if_neg h3, if_neg (by omega)]
 rw [if_neg (by omega), if_neg (by omega), List.getElem?_eq_none (by rw [qS]; omega), List.getElem?_eq_none (by rw [qS]; omega)]
theorem Qf4 {xs : List Value} (h1 : ∀ v ∈ xs, v.oneCell' = true) (i : Nat) : (xs.getD i .nilFunc).oneCell' = true := by
 rw [List.getD]
 cases h : xs[i]? with
 | none => rfl
 | some v => exact h1 v (List.mem_of_getElem? h)
theorem Qi0 (xs : List Value) (h1 : ∀ v ∈ xs, v.oneCell' = true) (g c : Nat) (hk : xs.length ≤ 1000000) : QC Tryz.prog 126 [.slice (some ⟨g, 0, none⟩) xs.length c].toArray [] [.own (.slice (some ⟨g, 0, none⟩) xs.length c) xs.length 35 1 xs] (fun _ : Unit => .tuple #[]) (fun _ => [.own (.slice (some ⟨g, 0, none⟩) xs.length c) xs.length 35 1 xs.reverse]) := by
 refine Qk Tryz.func126 rfl (n := 28) rfl rfl ?_
 intro W
 refine yR ?_
 refine yM rfl ?_
 refine Qb (QF rfl) ?_
 refine Qb (YQ rfl rfl) ?_
 refine yS rfl ?_
 refine yS rfl ?_
 refine yN ?_
 refine Qq ?_
 refine h_L (L' := [.own (.slice (some ⟨g, 0, none⟩) xs.length c) xs.length 35 1 (QcB xs 0)]) (fun w s => by rw [Qqk]; exact s) ?_
 refine QS (fun (i : Nat) => i ≤ xs.length) (fun (i : Nat) => [(2, .int .i64 (i : Int)), (3, .int .i64 ((xs.length : Int) - 1 - (i : Int))), (0, .slice (some ⟨g, 0, none⟩) xs.length c)]) (fun (i : Nat) => [.own (.slice (some ⟨g, 0, none⟩) xs.length c) xs.length 35 1 (QcB xs i)]) (fun (i : Nat) => xs.length - i) 0 (Nat.zero_le _) ⟨rfl, aI rfl (by omega), rfl, trivial⟩ (same) ?_
 intro i hi
 refine Qd ?_
 refine yR ?_
 refine yM rfl ?_
 refine yM rfl ?_
 refine Qb (QT rfl rfl) ?_
 refine yN ?_
 refine QU rfl (fun h => ?_) (fun h => ?_)
 ·have hlt : i < xs.length - 1 - i := by omega
  have hstep := QjB xs i hlt
  have hln := qS xs i
  have g1 := Z8 xs i i (by omega)
  rw [if_neg (by omega)] at g1
  have g2 := Z8 xs i (xs.length - 1 - i) (by omega)
  rw [if_neg (by omega)] at g2
  refine h_E (E' := [(2, .int .i64 (i : Int)), (3, .int .i64 ((xs.length - 1 - i : Nat) : Int)), (0, .slice (some ⟨g, 0, none⟩) xs.length c)]) ⟨rfl, aI rfl (by omega), rfl, trivial⟩ ?_
  refine Qn ?_
  refine Qc ?_
  refine Qd ?_
  refine Qq ?_
  refine Q1 [.own (.slice (some ⟨g, 0, none⟩) xs.length c) xs.length 35 1 (QcB xs i)] [] QJ (same) ?_
  refine Qa 0 rfl (Qi rfl) ?_
  refine Qa 1 rfl (Qi rfl) ?_
  refine Qa 2 rfl (Qi rfl) ?_
  refine Qa 3 rfl (Qi rfl) ?_
  refine Qa 4 rfl (Qi rfl) ?_
  refine Qa 5 rfl (Qi rfl) ?_
  refine Qa 6 rfl (QQ rfl rfl) ?_
  refine Qp 7 rfl (QX rfl g2) ?_
  refine Qa 8 rfl (Qi rfl) ?_
  refine Qa 9 rfl (Qi rfl) ?_
  refine Qa 10 rfl (QQ rfl rfl) ?_
  refine Qp 11 rfl (QX rfl g1) ?_
  refine Qa 12 rfl (QQ rfl rfl) ?_
  refine Qrf ?_
  refine Qrh 13 rfl (Qhg rfl rfl (Qf4 h1 _) (by omega) rfl) ?_
  refine QrA 14 rfl (QQ rfl rfl) ?_
  refine Qrh 15 rfl (Qhg rfl rfl (Qf4 h1 _) (by rw [List.length_set]; omega) hstep) ?_
  refine QnM (by kernel_rfl) ?_
  refine Q2 ?_
  refine Qc ?_
  refine Q5 ?_
  refine yM rfl ?_
  refine Qb (QI rfl rfl) ?_
  refine yM rfl ?_
  refine Qb (YQ rfl rfl) ?_
  refine yS rfl ?_
  refine yS rfl ?_
  refine QE ?_
  exact QH (i + 1) (by omega) (by omega) ⟨rfl, aI rfl (by omega), rfl, trivial⟩ (same)
 rw [Qmk xs i (by omega) hi]
 refine QK ?_
 refine Qx ?_
 refine Qx ?_
 refine Q8 ?_
 refine ZJ ?_
 exact Vg rfl fun w s => ⟨(), rfl, s.res (List.Sublist.refl _) (by simp [Fa.wr])⟩
end
section
open Go.RowKit
instance (m : List Fa) : TakeTl m m [] := ⟨by rw [List.append_nil]⟩
theorem Sx.mid0 {A : List Fa} {W w : World} {pre m l : List Fa} (s : Sx A W w (pre ++ (m ++ l))) : Sx A W w (pre ++ (l ++ m)) := s.perm (List.Perm.append_left _ List.perm_append_comm)
def Va (n : Nat) (key : B32) (ds : List B32) (pre : List UInt8) (N : Nat) : List (List UInt8) := (List.range N).map (Jw n key ds pre)
def V6 : List Seg → List Fa
 | [] => []
 | x :: l => .own (sv x) x.2.2.length 5 1 (bc x.2.2) :: V6 l
theorem QaZ (xs : List Seg) : ∀ f ∈ V6 xs, f.wr = true := by
 induction xs with
 | nil => intro f hf; cases hf
 | cons x l ih => intro f hf; rcases List.mem_cons.1 hf with rfl | h; rfl; exact ih f h
theorem QmC (ys : List Seg) (x : Seg) : svs ys.reverse ++ [sv x] = svs (x :: ys).reverse := by simp [svs]
theorem QoI (ys : List Seg) : (svs ys.reverse).reverse = svs ys := by simp [svs]
def qG (ys : List Seg) (ls : List (List UInt8)) : Prop := ys.map (fun x => x.2.2) = ls ∧ ∀ x ∈ ys, ∃ g, x.1 = some ⟨g, 0, none⟩
theorem qG.len {ys : List Seg} {ls : List (List UInt8)} (h : qG ys ls) : ys.length = ls.length := by rw [← h.1, List.length_map]
theorem Qd9 (n : Nat) (key : B32) (ds : List B32) (pre : List UInt8) (N : Nat) : (Va n key ds pre N).length = N := by simp [Va]
theorem V9 (n : Nat) (key : B32) (ds : List B32) (pre : List UInt8) (N : Nat) : (Va n key ds pre (N + 1)).reverse = Jw n key ds pre N :: (Va n key ds pre N).reverse := by
 unfold Va
 rw [List.range_succ, List.map_append, List.reverse_append]
 rfl
theorem QqR (p : Proof) (hc : Jk p = 0) (ss : List B32) (hs : p.sibs.n = ss.length) (key : B32) (n : Nat) (hn : n ≤ 256) (gh gc k0 : Nat) (hk : k0 ≤ 800000000000) (d : Nat) (hd : p.depth = (d : Int)) : QC Tryz.prog 67 [.pointer (some ⟨gh, 0, none⟩), .agg p.cells.toArray, .agg key.cells.toArray].toArray [.rd (some ⟨gh, 0, none⟩) [.pointer (some ⟨gc, 0, none⟩), .int .i64 (n : Int)], .rd p.sibs.A (dgs ss), .rd (some ⟨1, 0, none⟩) Jd] [.blk gc [.int .i64 (k0 : Int)] 272] (fun u : { u : Nat × Nat × List Seg // qG u.2.2 (Va n key (Vo (Jj n Yw) p.bitmap ss d) (J9 p) (d + 1)).reverse } => .tuple #[.slice (some ⟨u.1.1, 0, none⟩) (d + 1) u.1.2.1, .int .i64 0]) (fun u => .own (.slice (some ⟨u.1.1, 0, none⟩) (d + 1) u.1.2.1) (d + 1) 35 1 (svs u.1.2.2) :: .blk gc [.int .i64 ((k0 + 1 + d + 1 : Nat) : Int)] 272 :: V6 u.1.2.2) := by
 have hd2 := Y5 hc
 have hE := QeI p hc ss hs n hn gh gc k0 (by omega) d hd
 have hlen := VY (Jj n Yw) p.bitmap ss d
 generalize Vo (Jj n Yw) p.bitmap ss d = ds at *
 subst hlen
 have hds : ds.length ≤ 256 := by omega
 refine Qk Tryz.func67 rfl (n := 35) rfl rfl ?_
 intro W
 refine yR ?_
 refine Qo (Q9 rfl) fun g4 => ?_
 refine Qo (Q9 rfl) fun g5 => ?_
 refine yS rfl ?_
 refine yS rfl ?_
 refine yN ?_
 refine yR ?_
 refine yM rfl ?_
 refine Qb (Qm rfl) ?_
 refine Qh (hE.comes) rfl rfl rfl fun g15 => ?_
 refine yM rfl ?_
 refine Qb (Qj rfl rfl) ?_
 refine Qb (Qj rfl rfl) ?_
 refine yS rfl ?_
 refine yS rfl ?_
 refine yN ?_
 refine Qd ?_
 refine yR ?_
 refine yM rfl ?_
 refine Qb (QL rfl rfl) ?_
 refine yN ?_
 refine Ys rfl ((fun h => h rfl)) ?_
 refine Qn ?_
 refine Qc ?_
 refine yR ?_
 refine Qo (Q0) fun g10 => ?_
 refine yN ?_
 refine Qd ?_
 refine yR ?_
 refine yM rfl ?_
 refine Qb (Qm rfl) ?_
 refine yM rfl ?_
 refine Qb (Qm rfl) ?_
 refine Qh ((QmJ (.pointer (some ⟨gh, 0, none⟩)) p (some ⟨g15, 0, none⟩) ds.length ds.length key rfl).comes) rfl rfl rfl fun ⟨a2, a1, a3, a4⟩ => ?_
 dsimp only
 refine Ju 35 1 (xs := svs ([] : List Seg).reverse) rfl ?_
 refine yN ?_
 refine Qq ?_
 refine Qax (Qis p n hn key ds hds gh gc (k0 + 1) g15 0 ds.length a2 a1 a3 a4 (by omega)) rfl (fun k mm => ∃ (v : Option Addr × Nat) (ys : List Seg), qG ys (Va n key ds (J9 p) k).reverse ∧ mm = .blk g10 [.slice v.1 k v.2] 97 :: .own (.slice v.1 k v.2) k 35 1 (svs ys.reverse) :: V6 ys) [.blk g10 [.slice none 0 0] 97, .own (.slice none 0 0) 0 35 1 (svs ([] : List Seg).reverse)] [] (by rintro k mm ⟨v, ys, _, rfl⟩ f hf; simp only [List.mem_cons] at hf; exact hf.elim (fun h => by rw [h]; rfl) (fun h => h.elim (fun h => by rw [h]; rfl) (QaZ ys f))) ⟨(none, 0), [], ⟨rfl, by simp⟩, rfl⟩ rfl (fun _ _ => rfl) ?_ ?_
 ·intro ll rr k u mm W1 hr hrp hkN hJ2
  obtain ⟨⟨B, c'⟩, ys, hys, rfl⟩ := hJ2
  obtain ⟨g, c⟩ := u
  dsimp only
  simp only [List.nil_append, List.cons_append, List.append_nil]
  have hsn := QmC ys (some ⟨g, 0, none⟩, c, Jw n key ds (J9 p) k)
  have hys2 : qG ((some ⟨g, 0, none⟩, c, Jw n key ds (J9 p) k) :: ys) (Va n key ds (J9 p) (k + 1)).reverse := ⟨by rw [V9, List.map_cons, hys.1], fun x hx => (List.mem_cons.1 hx).elim (fun e => ⟨g, by rw [e]⟩) (hys.2 x)⟩
  unfold sv at hsn
  dsimp only at hsn
  refine Q5 ?_
  refine yS rfl ?_
  refine yN ?_
  refine YN hr ?_
  refine Qq ?_
  refine Q5 ?_
  refine Qb (Qf rfl) ?_
  refine yM rfl ?_
  refine Qo (J8 rfl rfl) fun g30 => ?_
  refine Qo (Yo rfl rfl) fun ⟨g31, c31⟩ => ?_
  refine Q7 (QV rfl rfl rfl) ?_
  refine QE ?_
  refine Q2 ?_
  rw [hsn]
  exact JH (.blk g10 [.slice (some ⟨g31, 0, none⟩) (k + 1) c31] 97 :: .own (.slice (some ⟨g31, 0, none⟩) (k + 1) c31) (k + 1) 35 1 (svs ((some ⟨g, 0, none⟩, c, Jw n key ds (J9 p) k) :: ys : List Seg).reverse) :: .own (.slice (some ⟨g, 0, none⟩) (Jw n key ds (J9 p) k).length c) (Jw n key ds (J9 p) k).length 5 1 (bc (Jw n key ds (J9 p) k)) :: V6 ys) hr hrp ⟨(some ⟨g31, 0, none⟩, c31), _, hys2, rfl⟩ (by intro f hf; simp only [List.mem_cons] at hf; exact hf.elim (fun h => by rw [h]; rfl) (fun h => h.elim (fun h => by rw [h]; rfl) (fun h => h.elim (fun h => by rw [h]; rfl) (QaZ ys f))))
 intro bb mm hJ2
 obtain ⟨⟨B, c'⟩, ys, hys, rfl⟩ := hJ2
 refine Q2 ?_
 refine Qc ?_
 dsimp only
 simp only [List.nil_append, List.cons_append]
 refine h_L (fun w s => Sx.mid0 (pre := [_, _, _]) (m := V6 ys) (l := [.obj bb (.deferred (some [])), .blk a2 p.cells 63, .blk a1 [.pointer (some ⟨gh, 0, none⟩)] 56, .blk a3 [.slice (some ⟨g15, 0, none⟩) ds.length ds.length] 61, .blk a4 key.cells 34, .own (.slice (some ⟨g15, 0, none⟩) ds.length ds.length) ds.length 45 32 (dgs ds), .blk g5 key.cells 34, .blk g4 p.cells 63, .rd (some ⟨gh, 0, none⟩) [.pointer (some ⟨gc, 0, none⟩), .int .i64 (n : Int)], .rd p.sibs.A (dgs ss), .rd (some ⟨1, 0, none⟩) Jd]) s) ?_
 simp only [List.nil_append, List.cons_append]
 refine Jq (φ := ∃ g, B = some ⟨g, 0, none⟩) (fun w s => s.ownSome (N := ds.length + 1) (c := c') (by omega)) ?_
 rintro ⟨g, rfl⟩
 have hyl : (svs ys.reverse).length = ds.length + 1 := by rw [Qe4, List.length_reverse, hys.len, List.length_reverse, Qd9]
 have hR := Qi0 (svs ys.reverse) (QaF _) g c' (by omega)
 rw [hyl, QoI] at hR
 refine yR ?_
 refine Qb (Qf rfl) ?_
 refine Qh (hR.comes) rfl rfl rfl fun _ => ?_
 refine yN ?_
 refine yR ?_
 refine Qb (Qf rfl) ?_
 refine yS rfl ?_
 refine yS rfl ?_
 refine yN ?_
 refine Qs ?_
 refine Vf ?_
 exact QO rfl rfl rfl fun w s => ⟨⟨(g, c', ys), hys⟩, rfl, (same w s).res (List.Sublist.refl _) (by intro f hf; simp only [List.mem_cons] at hf; exact hf.elim (fun h => by rw [h]; rfl) (fun h => h.elim (fun h => by rw [h]; rfl) (QaZ ys f)))⟩
end
section
open Go.RowKit
theorem qG.cons {xs : List Seg} {l : List UInt8} {ls : List (List UInt8)} (h : qG xs (l :: ls)) : ∃ g c xs', xs = (some ⟨g, 0, none⟩, c, l) :: xs' ∧ qG xs' ls := by
 obtain ⟨h1, h2⟩ := h
 cases xs with
 | nil => cases h1
 | cons x xs' =>
  rw [List.map_cons] at h1
  injection h1 with h3 h4
  obtain ⟨g, hg⟩ := h2 x (List.mem_cons_self ..)
  obtain ⟨A, c, l'⟩ := x
  simp only at h3 hg
  subst h3 hg
  exact ⟨g, c, xs', rfl, h4, fun y hy => h2 y (List.mem_cons_of_mem _ hy)⟩
instance (priority := 5) (N M : List Fa) : App N M (N ++ M) := ⟨rfl⟩
theorem qG.at {xs : List Seg} {ls : List (List UInt8)} (h : qG xs ls) {i : Nat} {l : List UInt8} (hl : ls[i]? = some l) : ∃ g c, xs[i]? = some (some ⟨g, 0, none⟩, c, l) := by
 rw [← h.1, List.getElem?_map] at hl
 obtain ⟨x, hx, e⟩ := Option.map_eq_some_iff.1 hl
 obtain ⟨g, hg⟩ := h.2 x (List.mem_of_getElem? hx)
 obtain ⟨A, c, l'⟩ := x
 simp only at e hg
 subst e hg
 exact ⟨g, c, hx⟩
end
section
open Go.RowKit
end
section
open Go.RowKit
end
section
open Go.RowKit
def VU (c : Claim) : Int := if c.key.n = 32 then (if c.present = true ∧ 65535 < c.value.n then 2 else 0) else 1
theorem Qhb (c : Claim) : QC Tryz.prog 61 [.agg c.cells.toArray].toArray [] [] (fun _ : Unit => .tuple #[.int .i64 (VU c), .int .i64 (Jy c)]) (fun _ => []) := by
 obtain ⟨ks, vs, b⟩ := c
 refine Qk Tryz.func61 rfl (n := 16) rfl rfl ?_
 intro W
 by_cases h1 : ks.n = 32
 ·refine Qd ?_
  refine Q5 ?_
  refine Qo (Q9 rfl) fun g1 => ?_
  refine yS rfl ?_
  refine yS rfl ?_
  refine yN ?_
  refine Qd ?_
  refine yR ?_
  refine Qb (Qe rfl) ?_
  refine Qb (Qf rfl) ?_
  refine Qb (QF rfl) ?_
  refine Qb (Ql (QL rfl rfl) (decide_eq_false (show ¬ ¬ (ks.n : Int) = 32 by omega))) ?_
  refine yN ?_
  refine Qt rfl ?_
  cases b
  ·rw [show VU ⟨ks, vs, false⟩ = 0 by unfold VU; rw [if_pos h1, if_neg (by simp)], show Jy ⟨ks, vs, false⟩ = 0 by unfold Jy; rw [if_pos h1, if_neg (by simp)]]
   refine Qn ?_
   refine Qc ?_
   refine Qd ?_
   refine yR ?_
   refine Qb (Qe rfl) ?_
   refine Qb (Qf rfl) ?_
   refine yM rfl ?_
   refine Qg ?_
   refine Qg ?_
   refine Qg ?_
   refine Qg ?_
   refine Qb (Qy rfl rfl) ?_
   refine yN ?_
   refine Qt rfl ?_
   refine Qn ?_
   refine Qc ?_
   refine yR ?_
   refine yS rfl ?_
   refine yS rfl ?_
   refine yN ?_
   refine Qs ?_
   exact QO rfl rfl rfl fun w s => ⟨(), rfl, s.res (List.nil_sublist _) (by simp)⟩
  by_cases h2 : 65535 < vs.n
  ·rw [show VU ⟨ks, vs, true⟩ = 2 by unfold VU; rw [if_pos h1, if_pos ⟨rfl, h2⟩], show Jy ⟨ks, vs, true⟩ = 3 by unfold Jy; rw [if_pos h1, if_pos ⟨rfl, h2⟩]]
   refine Qn ?_
   refine Qc ?_
   refine Qd ?_
   refine yR ?_
   refine Qb (Qe rfl) ?_
   refine Qb (Qf rfl) ?_
   refine yM rfl ?_
   refine Qb (Qe rfl) ?_
   refine Qb (Qf rfl) ?_
   refine Qb (QF rfl) ?_
   refine Qb (Ql (Jo rfl rfl) (decide_eq_true (show (65535 : Int) < (vs.n : Int) by omega))) ?_
   refine Qb (Qy rfl rfl) ?_
   refine yN ?_
   refine Qz rfl ?_
   refine yR ?_
   refine yS rfl ?_
   refine yS rfl ?_
   refine yN ?_
   refine Qs ?_
   refine Qr ?_
   exact QO rfl rfl rfl fun w s => ⟨(), rfl, s.res (List.nil_sublist _) (by simp)⟩
  rw [show VU ⟨ks, vs, true⟩ = 0 by unfold VU; rw [if_pos h1, if_neg (fun h => h2 h.2)], show Jy ⟨ks, vs, true⟩ = 0 by unfold Jy; rw [if_pos h1, if_neg (fun h => h2 h.2)]]
  refine Qn ?_
  refine Qc ?_
  refine Qd ?_
  refine yR ?_
  refine Qb (Qe rfl) ?_
  refine Qb (Qf rfl) ?_
  refine yM rfl ?_
  refine Qb (Qe rfl) ?_
  refine Qb (Qf rfl) ?_
  refine Qb (QF rfl) ?_
  refine Qb (Ql (Jo rfl rfl) (decide_eq_false (show ¬ (65535 : Int) < (vs.n : Int) by omega))) ?_
  refine Qb (Qy rfl rfl) ?_
  refine yN ?_
  refine Qt rfl ?_
  refine Qn ?_
  refine Qc ?_
  refine yR ?_
  refine yS rfl ?_
  refine yS rfl ?_
  refine yN ?_
  refine Qs ?_
  exact QO rfl rfl rfl fun w s => ⟨(), rfl, s.res (List.nil_sublist _) (by simp)⟩
 rw [show VU ⟨ks, vs, b⟩ = 1 from if_neg h1, show Jy ⟨ks, vs, b⟩ = 2 from if_neg h1]
 refine yR ?_
 refine Qo (Q9 rfl) fun g1 => ?_
 refine yS rfl ?_
 refine yS rfl ?_
 refine yN ?_
 refine Qd ?_
 refine yR ?_
 refine Qb (Qe rfl) ?_
 refine Qb (Qf rfl) ?_
 refine Qb (QF rfl) ?_
 refine Qb (Ql (QL rfl rfl) (decide_eq_true (show ¬ (ks.n : Int) = 32 by omega))) ?_
 refine yN ?_
 refine Qz rfl ?_
 refine yR ?_
 refine yS rfl ?_
 refine yS rfl ?_
 refine yN ?_
 refine Qs ?_
 refine Qr ?_
 exact QO rfl rfl rfl fun w s => ⟨(), rfl, s.res (List.nil_sublist _) (by simp)⟩
end
section
open Go.RowKit
instance iU69_1 : TCmp Tryz.prog 229 := ⟨fun args w => run_callFunc_extern Tryz.func229 (by kernel_rfl) (by kernel_rfl) (by kernel_rfl) (by kernel_rfl) args w⟩
theorem ZT : ∀ (a b : List UInt8), a.length = b.length → Lib.compareBytes a b = VM a b
 | [], [], _ => rfl
 | [], _ :: _, h => by cases h
 | _ :: _, [], h => by cases h
 | x :: a, y :: b, h => by
  unfold Lib.compareBytes VM
  rw [ZT a b (by simpa using h)]
theorem Qg4 (a b : List UInt8) (hab : a.length = b.length) (A B : Option Addr) (c c' : Nat) : QC Tryz.prog 158 [.slice A a.length c, .slice B b.length c'].toArray [.rd A (bc a), .rd B (bc b)] [] (fun _ : Unit => .int .i64 (VM a b)) (fun _ => []) := by
 rw [← ZT a b hab]
 refine Qk Tryz.func158 rfl (n := 8) rfl rfl ?_
 intro W
 refine yR ?_
 refine yS rfl ?_
 refine yN ?_
 refine yR ?_
 refine yM rfl ?_
 refine yM rfl ?_
 refine Qb (Qpi rfl rfl) ?_
 refine yS rfl ?_
 refine yN ?_
 refine Qs ?_
 exact Qu rfl rfl fun w s => ⟨(), rfl, s.res (List.nil_sublist _) (by simp)⟩
theorem Qcw (a b : B32) : QC Tryz.prog 102 [.agg a.cells.toArray, .agg b.cells.toArray].toArray [] [] (fun _ : Unit => .int .i64 (JS a b)) (fun _ => []) := by
 have ha := a.2
 have hb := b.2
 have hC := fun A B => Qg4 a.1 b.1 (by omega) A B 32 32
 rw [ha, hb] at hC
 refine Qk Tryz.func102 rfl (n := 8) rfl rfl ?_
 intro W
 refine yR ?_
 refine Qo (Q9 rfl) fun g2 => ?_
 refine Qo (Q9 rfl) fun g3 => ?_
 refine yS rfl ?_
 refine yN ?_
 refine Qd ?_
 refine Q1 [.blk g2 a.cells 34, .blk g3 b.cells 34] [] QJ (same) ?_
 refine Qa 0 rfl (qr rfl) ?_
 refine Qa 1 rfl (qr rfl) ?_
 refine Qv 2 ?_
 refine QR 2 rfl ((hC (some ⟨g2, 0, none⟩) (some ⟨g3, 0, none⟩)).comes (hr := inferInstanceAs (Rds _ [.rd (some ⟨g2, 0, none⟩) a.cells, .rd (some ⟨g3, 0, none⟩) b.cells]))) rfl rfl rfl (fun xx => same) fun _ => ?_
 refine Qa 3 rfl (Q6 rfl) ?_
 refine QB (by kernel_rfl) ?_
 refine Qc ?_
 refine Qs ?_
 exact Qu rfl rfl fun w s => ⟨(), rfl, s.res (List.nil_sublist _) (by simp)⟩
def QdZ : List B32 → Int
 | a :: b :: l => if JS a b = 0 then 9 else if 0 < JS a b then 8 else QdZ (b :: l)
 | _ => 0
theorem Qlu (l : List B32) (A : Option Addr) (c : Nat) (hl : l.length ≤ 1000000000) : QC Tryz.prog 165 [.slice A l.length c].toArray [.rd A (dgs l)] [] (fun _ : Unit => .int .i64 (QdZ l)) (fun _ => []) := by
 refine Qk Tryz.func165 rfl (n := 27) rfl rfl ?_
 intro W
 refine yR ?_
 refine yS rfl ?_
 refine yN ?_
 refine Qd ?_
 refine yR ?_
 refine yS rfl ?_
 refine yN ?_
 refine Qq ?_
 refine QS (fun (k : Nat) => 1 ≤ k ∧ (k = 1 ∨ k ≤ l.length) ∧ QdZ l = QdZ (l.drop (k - 1))) (fun (k : Nat) => [(3, .int .i64 (k : Int)), (0, .slice A l.length c)]) (fun (k : Nat) => [.rd A (dgs l)]) (fun (k : Nat) => l.length - k) 1 (⟨Nat.le_refl _, .inl rfl, rfl⟩) ⟨rfl, rfl, trivial⟩ (same) ?_
 rintro k ⟨hk1, hk2, he⟩
 refine Qd ?_
 refine yR ?_
 refine yM rfl ?_
 refine yM rfl ?_
 refine Qb (QF rfl) ?_
 refine Qb (QT rfl rfl) ?_
 refine yN ?_
 refine QU rfl (fun hlt => ?_) (fun hlt => ?_)
 ·obtain ⟨j, rfl⟩ : ∃ j, k = j + 1 := ⟨k - 1, by omega⟩
  have hj : j + 1 < l.length := by omega
  have hd : l.drop j = l.getD j QN :: l.drop (j + 1) := by rw [List.drop_eq_getElem_cons (by omega), List.getD_eq_getElem?_getD, List.getElem?_eq_getElem (by omega)]; rfl
  have hd2 : l.drop (j + 1) = l.getD (j + 1) QN :: l.drop (j + 1 + 1) := by rw [List.drop_eq_getElem_cons hj, List.getD_eq_getElem?_getD, List.getElem?_eq_getElem hj]; rfl
  rw [Nat.add_sub_cancel, hd, hd2, QdZ, ← hd2] at he
  refine Jq (φ := ∃ b o, A = some ⟨b, o, none⟩) (fun w s => Rd.some (s.ok (.rd A (dgs l)) (by simp)) (by rw [JI]; omega)) ?_
  rintro ⟨b, o, rfl⟩
  have h1 := VV (l := l) (k := j) (by omega)
  have h2 := VV (l := l) (k := j + 1) hj
  refine Qn ?_
  refine Qc ?_
  refine Qd ?_
  refine Qq ?_
  refine Qd ?_
  refine Q1 [.rd (some ⟨b, o, none⟩) (dgs l)] [] QJ (same) ?_
  refine Qa 0 rfl (Qi rfl) ?_
  refine Qa 1 rfl (Qi rfl) ?_
  refine Qa 2 rfl (YR rfl rfl (m := j) (hm := by omega)) ?_
  refine Qa 3 rfl (QQ rfl rfl) ?_
  refine Qp 4 rfl (Jm rfl (out := (l.getD j QN).cells) (B32.cells_length _) h1) ?_
  refine Qa 5 rfl (Qi rfl) ?_
  refine Qa 6 rfl (Qi rfl) ?_
  refine Qa 7 rfl (QQ rfl rfl) ?_
  refine Qp 8 rfl (Jm rfl (out := (l.getD (j + 1) QN).cells) (B32.cells_length _) h2) ?_
  refine Qv 9 ?_
  refine QR 9 rfl ((Qcw (l.getD j QN) (l.getD (j + 1) QN)).comes) rfl rfl rfl (fun xx => same) fun _ => ?_
  refine Qa 10 rfl (Q6 rfl) ?_
  refine QB (by kernel_rfl) ?_
  refine Qc ?_
  refine Qq ?_
  refine yR ?_
  refine yM rfl ?_
  refine Qb (QG rfl rfl) ?_
  refine yS rfl ?_
  refine yN ?_
  refine QU rfl (fun h3 => ?_) (fun h3 => ?_)
  ·rw [if_pos h3] at he
   rw [he]
   refine yR ?_
   refine yS rfl ?_
   refine yN ?_
   refine Qs ?_
   refine Q3 ?_
   refine Q3 ?_
   refine Qr ?_
   refine Qr ?_
   refine Q3 ?_
   refine Qr ?_
   exact Qu rfl rfl fun w s => ⟨(), rfl, s.res (List.nil_sublist _) (by simp)⟩
  rw [if_neg h3] at he
  refine yR ?_
  refine yM rfl ?_
  refine Qb (Jo rfl rfl) ?_
  refine yS rfl ?_
  refine yN ?_
  refine QU rfl (fun h4 => ?_) (fun h4 => ?_)
  ·rw [if_pos h4] at he
   rw [he]
   refine yR ?_
   refine yS rfl ?_
   refine yN ?_
   refine Qs ?_
   refine Q3 ?_
   refine Q3 ?_
   refine Qr ?_
   refine Qr ?_
   refine Q3 ?_
   refine Qr ?_
   exact Qu rfl rfl fun w s => ⟨(), rfl, s.res (List.nil_sublist _) (by simp)⟩
  rw [if_neg h4] at he
  refine Qn ?_
  refine Q2 ?_
  refine Q2 ?_
  refine Qc ?_
  refine Q5 ?_
  refine yM rfl ?_
  refine Qb (QI rfl rfl) ?_
  refine yS rfl ?_
  refine QE ?_
  exact QH (j + 1 + 1) (⟨by omega, .inr (by omega), he⟩) (by omega) ⟨rfl, rfl, trivial⟩ (same)
 have h0 : QdZ l = 0 := by
  rw [he]
  have hlen : (l.drop (k - 1)).length ≤ 1 := by rw [List.length_drop]; omega
  match l.drop (k - 1), hlen with
  | [], _ => rfl
  | [_], _ => rfl
  | _ :: _ :: _, h => simp at h
 rw [h0]
 refine QK ?_
 refine Qx ?_
 refine Qx ?_
 refine Q8 ?_
 refine Qc ?_
 refine yR ?_
 refine yS rfl ?_
 refine yN ?_
 refine Qs ?_
 exact Qu rfl rfl fun w s => ⟨(), rfl, s.res (List.nil_sublist _) (by simp)⟩
end
section
open Go.RowKit
structure CB where
 c : Claim
 kb : List UInt8
 vb : List UInt8
def zCB : CB := ⟨Qah, [], []⟩
def CB.cells (x : CB) : List Value := x.c.cells
def cbs (l : List CB) : List Value := l.flatMap CB.cells
theorem Qns (l : List CB) : (cbs l).length = l.length * 3 := by
 unfold cbs
 induction l with
 | nil => rfl
 | cons x l ih => rw [List.flatMap_cons, List.length_append, ih, List.length_cons]; show x.c.cells.length + _ = _; rw [Claim.cells_length]; omega
theorem CB.cells_length (x : CB) : x.cells.length = 3 := Claim.cells_length _
theorem JM {l : List CB} {k : Nat} {x : CB} (h : l[k]? = some x) : ∀ j v, x.c.cells[j]? = some v → (cbs l)[k * 3 + j]? = some v := by
 induction l generalizing k with
 | nil => simp at h
 | cons y l ih =>
  intro j v hv
  show (y.c.cells ++ cbs l)[k * 3 + j]? = some v
  cases k with
  | zero =>
   obtain rfl : y = x := by simpa using h
   rw [Nat.zero_mul, Nat.zero_add, List.getElem?_append_left (List.getElem?_eq_some_iff.1 hv).1]
   exact hv
  | succ k =>
   rw [List.getElem?_append_right (by rw [Claim.cells_length]; omega), Claim.cells_length, show (k + 1) * 3 + j - 3 = k * 3 + j by omega]
   exact ih (by simpa using h) j v hv
def ZN (h : Zh) (l : List CB) : Prop := ∀ x ∈ l, SlZ h x.c.key x.kb ∧ SlZ h x.c.value x.vb
theorem ZN.mono {h h' : Zh} (hl : LeZ h h') {l : List CB} (hc : ZN h l) : ZN h' l := fun x hx => ⟨(hc x hx).1.mono hl, (hc x hx).2.mono hl⟩
theorem ZN.get {h : Zh} {l : List CB} (hc : ZN h l) {k : Nat} (hk : k < l.length) : SlZ h (l.getD k zCB).c.key (l.getD k zCB).kb ∧ SlZ h (l.getD k zCB).c.value (l.getD k zCB).vb := by
 rw [List.getD_eq_getElem?_getD, List.getElem?_eq_getElem hk]
 exact hc _ (List.getElem_mem hk)
theorem Jz {α : Type} {l : List α} {k : Nat} (z : α) (hk : k < l.length) : l[k]? = some (l.getD k z) := by
 rw [List.getD_eq_getElem?_getD, List.getElem?_eq_getElem hk]; rfl
def Qrm (l : List CB) : List B32 := l.map fun x => keyOf x.kb
theorem Za (code : Nat → Int) : ∀ m i, qd code m i = none → ∀ j, i ≤ j → j < i + m → code j = 0
 | 0, _, _, _, _, _ => by omega
 | m + 1, i, h, j, h1, h2 => by
  unfold qd at h
  split at h
  ·rename_i h0
   by_cases e : j = i
   ·rw [e]; exact h0
   exact Za code m (i + 1) h j (by omega) (by omega)
  cases h
end
section
open Go.RowKit Go.ChangeShapes Go.WideShapes
section
variable {H : Type} {enc : TypeId × Value → H} {w : World} {base : Nat} {spare : Nat → Bool} {held : Bool} {v : Value} {d : DataW H} {ps : List MemPlace} {r : Reach} {b0 : Nat}
set_option maxRecDepth 100000 in
theorem QpE {fuel : Nat} {cs : List Value} {x : DataW H × List MemPlace} (h : DataW.trod enc Tryz.prog w base spare held fuel 50 cs = some x) : ∃ y : CB, cs = y.cells ∧ (SlZ (World.zh w) y.c.key y.kb ∧ SlZ (World.zh w) y.c.value y.vb) := by
 obtain ⟨f1, f2, f3, hT, t1, t2, t3, o1, o2, o3⟩ := Qea
 obtain ⟨xs, n, -, -, hl, hxl, hx⟩ := DataW.trod_struct hT h
 rw [Qh4] at hl
 have hxl' : xs.length = 3 := hxl
 have k1 := hx 0 f1 rfl
 have k2 := hx 1 f2 rfl
 have k3 := hx 2 f3 rfl
 rw [List.getElem?_eq_getElem (by omega)] at k1 k2 k3
 rw [o1, t1, Vy, List.drop_zero] at k1
 rw [o2, t2, Vy] at k2
 rw [o3, t3, Qk3] at k3
 obtain ⟨s1, l1, e1, z1⟩ := qc k1
 obtain ⟨s2, l2, e2, z2⟩ := qc k2
 obtain ⟨b, e3, -⟩ := DataW.trod_bool Tryz.underlying4 k3
 refine ⟨⟨⟨s1, s2, b⟩, l1, l2⟩, ?_, z1, z2⟩
 have r1 : cs = cs.take 1 ++ ((cs.drop 1).take 1 ++ (cs.drop 2).take 1) := by
  rw [List.take_of_length_le (l := cs.drop 2) (by simp; omega)]
  rw [show cs.drop 2 = (cs.drop 1).drop 1 by rw [List.drop_drop], List.take_append_drop, List.take_append_drop]
 rw [r1, e1, e2, e3]
 rfl
end
end
section
open Go.RowKit
theorem Qja {code : Nat → Int} {i : Nat} {e : Int} (hi : i < 6) (hz : ∀ j, j < i → code j = 0) (he : code i = e) (hne : e ≠ 0) : Yc code = some (i, e) := by
 subst he
 exact JF code i hne 6 0 (Nat.zero_le _) (by omega) fun j _ h => hz j h
theorem Qjb {code : Nat → Int} (hz : ∀ j, j < 6 → code j = 0) : Yc code = none := qn code 6 0 fun j _ h => hz j (by omega)
theorem Qng (c : Claim) : QC Tryz.prog 20 [.agg c.cells.toArray].toArray [] [] (fun _ : Unit => .int .i64 (if c.key.n ≤ 100 ∧ c.value.n ≤ 70000 then 1 else 0)) (fun _ => []) := by
 obtain ⟨ks, vs, b⟩ := c
 refine Qk Tryz.func20 rfl (n := 13) rfl rfl ?_
 intro W
 by_cases h1 : ks.n ≤ 100
 ·by_cases h2 : vs.n ≤ 70000
  ·rw [if_pos ⟨h1, h2⟩]
   refine yR ?_
   refine Qo (Q9 rfl) fun g1 => ?_
   refine yS rfl ?_
   refine yN ?_
   refine Qd ?_
   refine yR ?_
   refine Qb (Qe rfl) ?_
   refine Qb (Qf rfl) ?_
   refine Qb (QF rfl) ?_
   refine Qb (Ql (Jo rfl rfl) (decide_eq_false (show ¬ (100 : Int) < (ks.n : Int) by omega))) ?_
   refine yM rfl ?_
   refine Qb (Qe rfl) ?_
   refine Qb (Qf rfl) ?_
   refine Qb (QF rfl) ?_
   refine Qb (Ql (Jo rfl rfl) (decide_eq_false (show ¬ (70000 : Int) < (vs.n : Int) by omega))) ?_
   refine Qb (Qy rfl rfl) ?_
   refine yN ?_
   refine Qt rfl ?_
   refine Qn ?_
   refine Qc ?_
   refine yR ?_
   refine yS rfl ?_
   refine yN ?_
   refine Qs ?_
   exact Qu rfl rfl fun w s => ⟨(), rfl, s.res (List.nil_sublist _) (by simp)⟩
  rw [if_neg (fun h => h2 h.2)]
  refine yR ?_
  refine Qo (Q9 rfl) fun g1 => ?_
  refine yS rfl ?_
  refine yN ?_
  refine Qd ?_
  refine yR ?_
  refine Qb (Qe rfl) ?_
  refine Qb (Qf rfl) ?_
  refine Qb (QF rfl) ?_
  refine Qb (Ql (Jo rfl rfl) (decide_eq_false (show ¬ (100 : Int) < (ks.n : Int) by omega))) ?_
  refine yM rfl ?_
  refine Qb (Qe rfl) ?_
  refine Qb (Qf rfl) ?_
  refine Qb (QF rfl) ?_
  refine Qb (Ql (Jo rfl rfl) (decide_eq_true (show (70000 : Int) < (vs.n : Int) by omega))) ?_
  refine Qb (Qy rfl rfl) ?_
  refine yN ?_
  refine Qz rfl ?_
  refine yR ?_
  refine yS rfl ?_
  refine yN ?_
  refine Qs ?_
  refine Qr ?_
  exact Qu rfl rfl fun w s => ⟨(), rfl, s.res (List.nil_sublist _) (by simp)⟩
 rw [if_neg (fun h => h1 h.1)]
 refine yR ?_
 refine Qo (Q9 rfl) fun g1 => ?_
 refine yS rfl ?_
 refine yN ?_
 refine Qd ?_
 refine yR ?_
 refine Qb (Qe rfl) ?_
 refine Qb (Qf rfl) ?_
 refine Qb (QF rfl) ?_
 refine Qb (Ql (Jo rfl rfl) (decide_eq_true (show (100 : Int) < (ks.n : Int) by omega))) ?_
 refine yM rfl ?_
 refine Qg ?_
 refine Qg ?_
 refine Qg ?_
 refine Qg ?_
 refine Qb (Qy rfl rfl) ?_
 refine yN ?_
 refine Qz rfl ?_
 refine yR ?_
 refine yS rfl ?_
 refine yN ?_
 refine Qs ?_
 refine Qr ?_
 exact Qu rfl rfl fun w s => ⟨(), rfl, s.res (List.nil_sublist _) (by simp)⟩
end
section
open Go.RowKit
theorem Qdw (x : B32) : keyOf x.1 = x := by unfold keyOf; rw [dif_pos x.2]
end
section
open Go.RowKit
def QdO (key : B32) (t : Tr) (D : Nat) : Prop := ∀ i, D = i + 1 → (Y6 key t i).kind ≠ 0
theorem Qha {key : B32} {t : Tr} {D : Nat} (hD : D ≤ 256) : Jl (Ve (dsK key t D)) = dsK key t D :=
 Qfj ((List.pairwise_lt_range).filter _) fun i hi => by have := QgE hi; omega
theorem QlL (n : Nat) {key : B32} {t : Tr} {D : Nat} (hD : WayTo key t D) (hL : QdO key t D) (A : Option Addr) (c : Nat) : Jk (VB n key t D A c) = 0 := by
 have hle := hD.le
 have hdep := Qha (key := key) (t := t) hle
 have hk : (Jg key t D).kind = 0 ∨ (Jg key t D).kind = 1 := by
  have := hD.end_
  generalize Jg key t D = x at *
  cases x with
  | nil => exact .inl rfl
  | leaf k v => exact .inr rfl
  | node l r => exact (this rfl).elim
 refine Qi9 ?_ ?_ ?_ ?_ ?_
 ·show (decide (((Jg key t D).kind : Int) = 0) || decide (((Jg key t D).kind : Int) = 1)) = true
  rcases hk with h | h <;> rw [h] <;> rfl
 ·show (decide (0 ≤ (D : Int)) && decide ((D : Int) ≤ 256)) = true
  simp; omega
 ·show (decide (((Jg key t D).kind : Int) = 1) || decide (qY n (Jg key t D) = Yi)) = true
  rcases hk with h | h
  ·rw [Ql0 n _ (by omega)]; simp
  rw [h]; rfl
 ·show decide (Yl (Ve (dsK key t D)) 256 = (D : Int) - 1) = true
  refine decide_eq_true ?_
  rcases D with _ | i
  ·rw [Qjp (by rw [hdep]; rfl)]; rfl
  have h1 := Zx (hL i rfl)
  rw [Qjq (by rw [hdep, h1]; simp), hdep, h1]
  simp
 show decide (((Jl (Ve (dsK key t D))).length : Int) = ((dsK key t D).length : Int)) = true
 rw [hdep]; simp
theorem Qif (n : Nat) (key : B32) (t : Tr) (D : Nat) : (rsK n key t D).length = (dsK key t D).length := by unfold rsK; rw [List.length_map]
def kB (x : UInt8) : B32 := ⟨x :: List.replicate 31 0, rfl⟩
theorem QoC (h : Zh) : SlZ h ⟨none, 0, 0⟩ [] := ⟨rfl, Nat.le_refl _, fun _ => ⟨rfl, rfl⟩, RdZ.nil _ _⟩
theorem z7 : VB 256 (kB 7) .nil 0 none 0 = Jr := by
 unfold VB
 show (⟨0, 0, Yi, Ve [], ⟨none, 0, 0⟩⟩ : Proof) = Jr
 rw [QkN]; rfl
end
section
open Go.RowKit
theorem Qrv {z : Zh} {g : Nat} {x : B32} (hr : RdZ z (some ⟨g, 0, none⟩) x.cells) : SlZ z ⟨some ⟨g, 0, none⟩, 32, 32⟩ x.1 := ⟨x.2.symm, Nat.le_refl _, (fun h => by cases h), hr⟩
end
section
open Go.RowKit
end
section
open Go.RowKit
theorem Qdn (code : Nat → Int) : ∀ m i j e, qd code m i = some (j, e) → e ≠ 0
 | 0, _, _, _, h => by cases h
 | m + 1, i, j, e, h => by
  unfold qd at h
  split at h
  ·exact Qdn code m (i + 1) j e h
  injection h with h
  injection h with h1 h2
  rw [← h2]; assumption
end
section
open Go.RowKit
structure RtP where
 root : B32
 p : Proof
def RtP.cells (x : RtP) : List Value := x.root.cells ++ (x.p.cells ++ [])
theorem RtP.cells_length (x : RtP) : x.cells.length = 131 := by simp [RtP.cells, B32.cells_length, Proof.cells_length]
end
section
open Go.RowKit Go.ChangeShapes Go.WideShapes
end
section
open Go.RowKit
structure CPf where
 c : Claim
 p : Proof
def CPf.cells (x : CPf) : List Value := x.c.cells ++ (x.p.cells ++ [])
theorem CPf.cells_length (x : CPf) : x.cells.length = 102 := by simp [CPf.cells, Claim.cells_length, Proof.cells_length]
structure Snd where
 c : Claim
 p : Proof
 s : Sl
def Snd.cells (x : Snd) : List Value := x.c.cells ++ (x.p.cells ++ ([.slice x.s.A x.s.n x.s.c] ++ []))
theorem Snd.cells_length (x : Snd) : x.cells.length = 103 := by simp [Snd.cells, Claim.cells_length, Proof.cells_length]
end
section
open Go.RowKit Go.ChangeShapes Go.WideShapes
end
section
open Go.RowKit
end
section
open Go.RowKit
theorem Qd0 (n : Nat) (e : En) {d : Nat} (h : d ≤ 256) : qY n (mkT [e] d) = Y0 n e.key e.val := by rw [J0 e h]; rfl
theorem Qjs (n d : Nat) : qY n (mkT [] d) = Yi := by rw [Jx]; rfl
theorem QfC (e : En) {d : Nat} (h : d ≤ 256) : (mkT [e] d).kind = 1 := by rw [J0 e h]; rfl
theorem Qlw (d : Nat) : (mkT [] d).kind = 0 := by rw [Jx]; rfl
end
section
open Go.RowKit
instance iU51t_1 : TBool Tryz.prog 4 := ⟨Tryz.underlying4⟩
structure WayM (key : B32) (m : List En) (D : Nat) : Prop where
 way : WayTo key (mkT m 0) D
 last : (atM key m D).length ≤ 1
 more : ∀ i, i < D → 1 < (atM key m i).length
 on : ∀ i, i ≤ D → Jg key (mkT m 0) i = mkT (atM key m i) i
theorem QmH {key : B32} {m : List En} (h : Alike m 0) : ∃ D, WayM key m D := by
 obtain ⟨D, a, b, c, d, e⟩ := QjT (key := key) h
 exact ⟨D, a, c, d, e⟩
theorem WayM.sib {key : B32} {m : List En} {D : Nat} (w : WayM key m D) : ∀ i, i < D → Y6 key (mkT m 0) i = mkT (Qm8 key m i) (i + 1) := fun i hi => by
 unfold Y6
 have hle := w.way.le
 rw [w.on i (by omega), qZ (w.more i hi) (by omega)]
 unfold Qm8
 cases Q4 key i <;> rfl
theorem WayM.lastOk {key : B32} {m : List En} {D : Nat} (w : WayM key m D) : QdO key (mkT m 0) D := by
 intro i hi
 have hle := w.way.le
 rw [w.sib i (by omega), qO _ (by omega)]
 have h1 := w.more i (by omega)
 have h2 := w.last
 rw [hi] at h2
 change (part (atM key m i) i (Q4 key i)).length ≤ 1 at h2
 have h3 := Zf (atM key m i) i
 show min (part (atM key m i) i (!Q4 key i)).length 2 ≠ 0
 cases hb : Q4 key i <;> rw [hb] at h2 <;> simp only [Bool.not_true, Bool.not_false] <;> omega
end
section
open Go.RowKit
theorem Qcl (a b : B32) : ∀ n, (∀ j, j < n → (Q4 a j ^^ Q4 b j) = false) ∨ ∃ k, k < n ∧ (∀ j, j < k → (Q4 a j ^^ Q4 b j) = false) ∧ (Q4 a k ^^ Q4 b k) = true
 | 0 => .inl fun j hj => by omega
 | n + 1 => by
  rcases Qcl a b n with h | ⟨k, h1, h2, h3⟩
  ·cases hb : Q4 a n ^^ Q4 b n
   ·refine .inl fun j hj => ?_
    rcases Nat.lt_or_ge j n with h4 | h4
    ·exact h j h4
    obtain rfl : j = n := by omega
    exact hb
   exact .inr ⟨n, by omega, h, hb⟩
  exact .inr ⟨k, by omega, h2, h3⟩
theorem Zw {a b : B32} {D : Nat} (hD : D ≤ 256) (h : ∀ i, i < D → Q4 a i = Q4 b i) : D ≤ Jc a b := by
 rcases Qcl a b 256 with h1 | ⟨k, h1, h2, h3⟩
 ·rw [Qdm (Nat.le_refl _) h1 (.inl rfl)]; exact hD
 rw [Qdm (by omega) h2 (.inr h3)]
 rcases Nat.lt_or_ge k D with h4 | h4
 ·rw [h k h4] at h3; simp at h3
 exact h4
theorem Qaj {key : B32} {m : List En} : ∀ {D : Nat} {e : En}, e ∈ atM key m D → e ∈ m ∧ ∀ i, i < D → Q4 e.key i = Q4 key i
 | 0, e, h => ⟨h, fun i hi => by omega⟩
 | D + 1, e, h => by
  obtain ⟨h1, h2⟩ := Yh.1 h
  obtain ⟨h3, h4⟩ := Qaj h1
  refine ⟨h3, fun i hi => ?_⟩
  rcases Nat.lt_or_ge i D with h5 | h5
  ·exact h4 i h5
  obtain rfl : i = D := by omega
  exact h2
theorem Qh1 {key : B32} {m : List En} {e : En} (h : e ∈ m) (hk : e.key = key) : ∀ D, e ∈ atM key m D
 | 0 => h
 | D + 1 => Yh.2 ⟨Qh1 h hk D, by rw [hk]⟩
def Ja (m : List En) (key : B32) : Option En := m.find? fun e => decide (e.key = key)
def JQ : Option En → List UInt8
 | some e => e.val
 | none => []
def QcR : Option En → Sl
 | some e => e.e.value
 | none => ⟨none, 0, 0⟩
theorem Qef {h : Zh} {m : List En} (hv : Yr h m) (key : B32) : SlZ h (QcR (Ja m key)) (JQ (Ja m key)) ∧ (JQ (Ja m key)).length ≤ 10000000 := by
 cases hg : Ja m key with
 | none => exact ⟨⟨rfl, Nat.le_refl _, fun _ => ⟨rfl, rfl⟩, RdZ.nil _ _⟩, Nat.zero_le _⟩
 | some e => exact hv e (List.mem_of_find?_eq_some hg)
theorem Qaq {key : B32} {m : List En} {D : Nat} (hl : (atM key m D).length ≤ 1) : (atM key m D = [] ∧ Ja m key = none) ∨ ∃ e, atM key m D = [e] ∧ (∀ i, i < D → Q4 e.key i = Q4 key i) ∧ ((e.key = key ∧ Ja m key = some e) ∨ (e.key ≠ key ∧ Ja m key = none)) := by
 have hno : ∀ {e : En}, Ja m key = some e → e ∈ atM key m D ∧ e.key = key := fun {e} he => by
  have h2 := List.find?_some he
  have h3 : e.key = key := by simpa using h2
  exact ⟨Qh1 (List.mem_of_find?_eq_some he) h3 D, h3⟩
 cases hg : Ja m key with
 | none =>
  match hq : atM key m D, hl with
  | [], _ => exact .inl ⟨rfl, rfl⟩
  | [e], _ =>
   have hm : e ∈ atM key m D := by rw [hq]; simp
   obtain ⟨h1, h2⟩ := Qaj hm
   refine .inr ⟨e, rfl, h2, .inr ⟨fun hk => ?_, rfl⟩⟩
   have := List.find?_eq_none.1 hg e h1
   simp [hk] at this
  | _ :: _ :: _, hl => exact absurd hl (by simp)
 | some f =>
  obtain ⟨h1, h2⟩ := hno hg
  match hq : atM key m D, hl with
  | [], _ => rw [hq] at h1; cases h1
  | [e], _ =>
   rw [hq] at h1
   obtain rfl : f = e := by simpa using h1
   exact .inr ⟨f, rfl, fun i _ => by rw [h2], .inl ⟨h2, rfl⟩⟩
  | _ :: _ :: _, hl => exact absurd hl (by simp)
theorem QmA {key : B32} {m : List En} {D : Nat} (w : WayM key m D) (n : Nat) (A : Option Addr) (c : Nat) : qt (VB n key (mkT m 0) D A c) key (Jj n (JK (JQ (Ja m key)))) true = (Ja m key).isSome ∧ qt (VB n key (mkT m 0) D A c) key (Jj n (JK (JQ (Ja m key)))) false = !(Ja m key).isSome ∧ ∀ other, other ≠ Jj n (JK (JQ (Ja m key))) → qt (VB n key (mkT m 0) D A c) key other true = false := by
 have hon := w.on D (Nat.le_refl _)
 have hD := w.way.le
 unfold VB qt
 rw [hon]
 rcases Qaq w.last with ⟨h1, h2⟩ | ⟨e, h1, hb, ⟨hk, h2⟩ | ⟨hk, h2⟩⟩
 ·rw [h1, h2, Qlw, Qjs]
  refine ⟨?_, ?_, fun other _ => ?_⟩
  ·rw [if_pos rfl]; exact decide_eq_false fun e => absurd (show ((0 : Nat) : Int) = 1 from e.1) (by decide)
  ·rw [if_neg (by simp), if_neg (show ¬ ((0 : Nat) : Int) = 1 by decide)]; exact decide_eq_true rfl
  rw [if_pos rfl]; exact decide_eq_false fun e => absurd (show ((0 : Nat) : Int) = 1 from e.1) (by decide)
 ·rw [h1, h2, QfC e hD, Qd0 n e hD, hk]
  refine ⟨?_, ?_, fun other ho => ?_⟩
  ·rw [if_pos rfl]; exact decide_eq_true ⟨rfl, rfl⟩
  ·rw [if_neg (by simp)]; refine (if_pos (show _ = (1 : Int) from rfl)).trans ?_; exact decide_eq_false fun e => e.1 rfl
  rw [if_pos rfl]; exact decide_eq_false fun e => ho (congrArg Leaf.value e.2).symm
 rw [h1, h2, QfC e hD, Qd0 n e hD]
 refine ⟨?_, ?_, fun other _ => ?_⟩
 ·rw [if_pos rfl]; exact decide_eq_false fun e' => hk (congrArg Leaf.key e'.2)
 ·rw [if_neg (by simp)]; refine (if_pos (show _ = (1 : Int) from rfl)).trans ?_; exact decide_eq_true ⟨hk, Int.ofNat_le.2 (Zw hD hb)⟩
 rw [if_pos rfl]; exact decide_eq_false fun e' => hk (congrArg Leaf.key e'.2)
theorem QiZ {m : List En} {key : B32} {k : Nat} {e : En} (he : m[k]? = some e) (hk : e.key = key) (ha : ∀ f ∈ m.take k, f.key ≠ key) : Ja m key = some e := by
 have e1 : m = m.take k ++ e :: m.drop (k + 1) := by
  have h1 := List.take_append_drop k m
  have hl := (List.getElem?_eq_some_iff.1 he)
  obtain ⟨hl, hx⟩ := hl
  rw [List.drop_eq_getElem_cons hl, hx] at h1
  exact h1.symm
 unfold Ja
 rw [e1, List.find?_append]
 have h2 : (m.take k).find? (fun f => decide (f.key = key)) = none := List.find?_eq_none.2 fun f hf => by simpa using ha f hf
 rw [h2, List.find?_cons_of_pos (by simpa using hk)]
 rfl
theorem Qke (m : List En) (B : Option Addr) (c : Nat) (key : B32) (hm : m.length ≤ 100000000) : QC Tryz.prog 54 [.slice B m.length c, .agg key.cells.toArray].toArray [.rd B (Ye m)] [] (fun _ : Unit => .tuple #[.slice (QcR (Ja m key)).A (QcR (Ja m key)).n (QcR (Ja m key)).c, .bool (Ja m key).isSome]) (fun _ => []) := by
 refine Qk Tryz.func54 rfl (n := 25) rfl rfl ?_
 intro W
 refine yR ?_
 refine Qo (Q9 rfl) fun g3 => ?_
 refine yS rfl ?_
 refine yS rfl ?_
 refine yN ?_
 refine Qd ?_
 refine yR ?_
 refine yS rfl ?_
 refine yN ?_
 refine Qq ?_
 refine QS (fun (k : Nat) => k ≤ m.length ∧ ∀ f ∈ m.take k, f.key ≠ key) (fun (k : Nat) => [(6, .int .i64 (k : Int)), (0, .slice B m.length c), (3, .pointer (some ⟨g3, 0, none⟩))]) (fun (k : Nat) => [.blk g3 key.cells 34, .rd B (Ye m)]) (fun (k : Nat) => m.length - k) 0 (⟨Nat.zero_le _, fun f hf => by simp at hf⟩) ⟨rfl, rfl, rfl, trivial⟩ (same) ?_
 rintro k ⟨hk, ha⟩
 refine Qd ?_
 refine yR ?_
 refine yM rfl ?_
 refine yM rfl ?_
 refine Qb (QF rfl) ?_
 refine Qb (QT rfl rfl) ?_
 refine yN ?_
 refine QU rfl (fun h => ?_) (fun h => ?_)
 ·obtain ⟨e, he⟩ := QpO (l := m) (k := k) (by omega)
  refine Jq (φ := ∃ b o, B = some ⟨b, o, none⟩) (fun w s => Rd.some (s.ok (.rd B (Ye m)) (by simp)) (by rw [Qfm]; omega)) ?_
  rintro ⟨bb, o, rfl⟩
  refine Qn ?_
  refine Qc ?_
  refine Qd ?_
  refine Qq ?_
  refine Qd ?_
  refine Q1 [.blk g3 key.cells 34, .rd (some ⟨bb, o, none⟩) (Ye m)] [] QJ (same) ?_
  refine Qa 0 rfl (Qi rfl) ?_
  refine Qa 1 rfl (Qi rfl) ?_
  refine Qa 2 rfl (QQ rfl rfl) ?_
  refine Qa 3 rfl (Qe rfl) ?_
  refine Qp 4 rfl (Jm rfl (out := e.key.cells) (B32.cells_length _) (Qar he)) ?_
  refine Qp 5 rfl (Qm rfl) ?_
  refine Qa 6 rfl (ZL rfl rfl) ?_
  refine QB (by kernel_rfl) ?_
  refine Qc ?_
  refine QU rfl (fun h2 => ?_) (fun h2 => ?_)
  ·rw [QiZ he (by simpa using h2) ha]
   refine yR ?_
   refine yM rfl ?_
   refine yM rfl ?_
   refine Qb (QQ rfl rfl) ?_
   refine Qb (Qe rfl (O' := o + (k * 33 + 32)) (by omega)) ?_
   refine Qb (QX rfl (QkS he)) ?_
   refine yS rfl ?_
   refine yS rfl ?_
   refine yN ?_
   refine Qs ?_
   refine Q3 ?_
   refine Qr ?_
   refine Qr ?_
   refine Q3 ?_
   refine Qr ?_
   exact QO rfl rfl rfl fun w s => ⟨(), rfl, s.res (List.nil_sublist _) (by simp)⟩
  have ha2 : ∀ f ∈ m.take (k + 1), f.key ≠ key := fun f hf => by
   rw [JD he] at hf
   rcases List.mem_append.1 hf with hf | hf
   ·exact ha f hf
   rw [List.mem_singleton.1 hf]; simpa using h2
  refine Qn ?_
  refine Q2 ?_
  refine Qc ?_
  refine Q5 ?_
  refine yM rfl ?_
  refine Qb (QI rfl rfl) ?_
  refine yS rfl ?_
  refine QE ?_
  exact QH (k + 1) (⟨by omega, ha2⟩) (by omega) ⟨rfl, rfl, rfl, trivial⟩ (same)
 obtain rfl : k = m.length := by omega
 rw [List.take_length] at ha
 have : Ja m key = none := List.find?_eq_none.2 fun f hf => by simpa using ha f hf
 rw [this]
 refine QK ?_
 refine Qx ?_
 refine Qx ?_
 refine Q8 ?_
 refine Qc ?_
 refine yR ?_
 refine yS rfl ?_
 refine yS rfl ?_
 refine yN ?_
 refine Qs ?_
 exact QO rfl rfl rfl fun w s => ⟨(), rfl, s.res (List.nil_sublist _) (by simp)⟩
end
section
open Go.RowKit
theorem Qcz : ∀ (f : Nat) {m m' : List En} (d : Nat), m.Perm m' → mkF f m d = mkF f m' d
 | 0, _, _, _, _ => rfl
 | f + 1, m, m', d, h => by
  have hl := h.length_eq
  match m, m', h, hl with
  | [], [], _, _ => rfl
  | [], _ :: _, _, hl => simp at hl
  | _ :: _, [], _, hl => simp at hl
  | [e], [e'], h, _ =>
   obtain rfl : e = e' := by simpa using h
   rfl
  | [_], _ :: _ :: _, _, hl => simp at hl
  | _ :: _ :: _, [_], _, hl => simp at hl
  | a :: b :: l, a' :: b' :: l', h, _ =>
   have h0 : (part (a :: b :: l) d false).Perm (part (a' :: b' :: l') d false) := h.filter _
   have h1 : (part (a :: b :: l) d true).Perm (part (a' :: b' :: l') d true) := h.filter _
   show Tr.node (mkF f (part (a :: b :: l) d false) (d + 1)) (mkF f (part (a :: b :: l) d true) (d + 1)) = Tr.node (mkF f (part (a' :: b' :: l') d false) (d + 1)) (mkF f (part (a' :: b' :: l') d true) (d + 1))
   rw [Qcz f (d + 1) h0, Qcz f (d + 1) h1]
theorem Zb {m m' : List En} (h : m.Perm m') (d : Nat) : mkT m d = mkT m' d := Qcz _ d h
theorem Qa2 {m : List En} {d : Nat} (hd : d < 256) : YG (mkT (part m d false) (d + 1)) (mkT (part m d true) (d + 1)) = mkT m d := by
 match m with
 | [] =>
  show YG (mkT [] (d + 1)) (mkT [] (d + 1)) = _
  rw [Jx, Jx]
  rfl
 | [e] =>
  cases hb : Q4 e.key d
  ·rw [show part [e] d false = [e] by simp [part, hb], show part [e] d true = [] by simp [part, hb], J0 e (by omega), Jx, J0 e (by omega)]
   rfl
  rw [show part [e] d false = [] by simp [part, hb], show part [e] d true = [e] by simp [part, hb], J0 e (by omega), Jx, J0 e (by omega)]
  rfl
 | e :: f :: l =>
  have hl := Zf (e :: f :: l) d
  rw [qZ (m := e :: f :: l) (by simp) (by omega)]
  unfold YG
  rw [qO _ (by omega), qO _ (by omega)]
  simp only [List.length_cons] at hl
  rw [if_neg (by omega), if_neg (by omega)]
theorem Ze (X Y : List En) (d : Nat) (b : Bool) : part (X ++ Y) d b = part X d b ++ part Y d b := List.filter_append ..
theorem QaA {X : List En} {d : Nat} {b : Bool} (h : ∀ e ∈ X, Q4 e.key d = b) : part X d b = X := List.filter_eq_self.2 fun e he => by rw [h e he]; exact beq_self_eq_true b
theorem Z0 {X : List En} {d : Nat} {b : Bool} (h : ∀ e ∈ X, Q4 e.key d = !b) : part X d b = [] := List.filter_eq_nil_iff.2 fun e he => by rw [h e he]; cases b <;> decide
theorem QgO {X Y : List En} {key : B32} {d : Nat} (hd : d < 256) (hx : ∀ e ∈ X, Q4 e.key d = Q4 key d) (hy : ∀ e ∈ Y, Q4 e.key d = !Q4 key d) : jnK key d (mkT X (d + 1)) (mkT Y (d + 1)) = mkT (X ++ Y) d := by
 rw [← Qa2 (m := X ++ Y) hd, Ze, Ze]
 unfold jnK
 cases hb : Q4 key d
 ·rw [if_neg (by simp)]
  rw [hb] at hx hy
  rw [QaA hx, Z0 (b := true) (fun e he => hx e he), Z0 (b := false) (fun e he => hy e he), QaA (b := true) (fun e he => hy e he), List.append_nil, List.nil_append]
 rw [if_pos rfl]
 rw [hb] at hx hy
 rw [QaA hx, Z0 (b := false) (fun e he => hx e he), Z0 (b := true) (fun e he => hy e he), QaA (b := false) (fun e he => hy e he), List.append_nil, List.nil_append]
def QfJ (key : B32) (m : List En) : Nat → List En
 | 0 => []
 | i + 1 => Qm8 key m i ++ QfJ key m i
theorem Qj1 (m : List En) (d : Nat) (b : Bool) : (part m d b ++ part m d (!b)).Perm m := by
 have h := List.filter_append_perm (fun e : En => Q4 e.key d == b) m
 have e : part m d (!b) = m.filter fun e => !(Q4 e.key d == b) := by
  unfold part
  congr 1
  funext e
  cases Q4 e.key d <;> cases b <;> rfl
 rw [e]
 exact h
theorem QfK (key : B32) (m : List En) : ∀ i, (atM key m i ++ QfJ key m i).Perm m
 | 0 => by rw [atM, QfJ, List.append_nil]
 | i + 1 => by
  have h := Qj1 (atM key m i) i (Q4 key i)
  rw [atM, QfJ, ← List.append_assoc]
  exact (h.append_right _).trans (QfK key m i)
theorem Qe6 {m : List En} {key : B32} {D : Nat} (w : WayM key m D) : ∀ i, i ≤ D → ∀ Y : List En, (∀ e ∈ Y, ∀ j, j < i → Q4 e.key j = Q4 key j) → upD key (mkT m 0) i (mkT Y i) = mkT (Y ++ QfJ key m i) 0
 | 0, _, Y, _ => by rw [upD, QfJ, List.append_nil]
 | i + 1, hi, Y, hY => by
  have hle := w.way.le
  have hj := QgO (X := Y) (Y := Qm8 key m i) (key := key) (d := i) (by omega) (fun e he => hY e he i (by omega)) (fun e he => (Yh.1 he).2)
  rw [upD, w.sib i (by omega), hj, Qe6 w i (by omega) (Y ++ Qm8 key m i) (fun e he j hj => (List.mem_append.1 he).elim (fun h => hY e h j (by omega)) fun h => (Qaj (Yh.1 h).1).2 j hj), QfJ, List.append_assoc]
theorem Qir {X : List En} {key : B32} : ∀ j d, d + j ≤ 256 → (∀ e ∈ X, ∀ i, d ≤ i → i < d + j → Q4 e.key i = Q4 key i) → upN key d j (mkT X (d + j)) = mkT X d
 | 0, d, _, _ => rfl
 | j + 1, d, hd, h => by
  have h1 : upN key d (j + 1) (mkT X (d + (j + 1))) = upN key d j (jnK key (d + j) (mkT X (d + j + 1)) .nil) := rfl
  have h2 := QgO (X := X) (Y := []) (key := key) (d := d + j) (by omega) (fun e he => h e he (d + j) (by omega) (by omega)) (fun e he => by cases he)
  rw [Jx, List.append_nil] at h2
  rw [h1, h2]
  exact Qir j d (by omega) fun e he i h3 h4 => h e he i h3 (by omega)
theorem Qdl {a b : B32} {i : Nat} (h : i < Jc a b) : Q4 a i = Q4 b i := by
 unfold Jc at h
 cases hf : (List.range 256).find? (fun i => Q4 a i ^^ Q4 b i) with
 | none =>
  rw [hf] at h
  have := List.find?_eq_none.1 hf i (by simpa using h)
  simpa using this
 | some m =>
  rw [hf] at h
  rw [List.find?_range_eq_some] at hf
  have := hf.2.2 i (by simpa using h)
  simpa using this
theorem QiF {a b : B32} (h : a ≠ b) : Q4 a (Jc a b) ≠ Q4 b (Jc a b) := fun e => by
 have hlt := QaU h
 have h1 : Jc a b + 1 ≤ Jc a b := Zw (by omega) fun i hi => by
  rcases Nat.lt_or_ge i (Jc a b) with h2 | h2
  ·exact Qdl h2
  obtain rfl : i = Jc a b := by omega
  exact e
 omega
theorem Ql9 {a b : En} (hne : a.key ≠ b.key) {d : Nat} (hs : ∀ i, i < d → Q4 a.key i = Q4 b.key i) : Qa9 (.leaf a.key a.val) (.leaf b.key b.val) d = mkT [a, b] d := by
 have hlt := QaU hne
 have hge : d ≤ Jc a.key b.key := Zw (by
  rcases Nat.lt_or_ge 256 d with h | h
  ·exact absurd (YJ fun i hi => hs i (by omega)) hne
  exact h) hs
 have hd := QiF hne
 unfold Qa9
 show upN a.key d (Jc a.key b.key - d) (jnK a.key (Jc a.key b.key) (.leaf a.key a.val) (.leaf b.key b.val)) = _
 have h1 := QgO (X := [a]) (Y := [b]) (key := a.key) (d := Jc a.key b.key) hlt (fun e he => by rw [List.mem_singleton.1 he]) (fun e he => by rw [List.mem_singleton.1 he]; revert hd; cases Q4 a.key (Jc a.key b.key) <;> cases Q4 b.key (Jc a.key b.key) <;> simp)
 rw [J0 a (by omega), J0 b (by omega)] at h1
 rw [h1]
 have h2 := Qir (X := [a] ++ [b]) (key := a.key) (Jc a.key b.key - d) d (by omega) (fun e he i h3 h4 => by
  rcases List.mem_append.1 he with h | h
  ·rw [List.mem_singleton.1 h]
  rw [List.mem_singleton.1 h]
  exact (Qdl (by omega)).symm)
 rw [show d + (Jc a.key b.key - d) = Jc a.key b.key by omega] at h2
 exact h2
theorem Qdt (e : En) : ∀ l : List En, (qv e l).Perm (e :: l)
 | [] => .refl _
 | f :: l => by
  unfold qv
  split
  ·exact .refl _
  exact ((Qdt e l).cons f).trans (.swap e f l)
theorem Z2 (m : List En) (e : En) : (qQ m e).Perm (e :: Js m e.key) := Qdt e _
theorem QfW (X Y : List En) (k : B32) : Js (X ++ Y) k = Js X k ++ Js Y k := List.filter_append ..
theorem Z6 {m : List En} {k : B32} (h : ∀ e ∈ m, e.key ≠ k) : Js m k = m := List.filter_eq_self.2 fun e he => decide_eq_true (h e he)
theorem QjA {m m' : List En} (h : m.Perm m') (k : B32) : (Js m k).Perm (Js m' k) := h.filter _
theorem QhV {m : List En} {key : B32} : ∀ i, ∀ e ∈ QfJ key m i, e.key ≠ key
 | 0, e, he => by cases he
 | i + 1, e, he => by
  rcases List.mem_append.1 he with h | h
  ·intro hk
   have := (Yh.1 h).2
   rw [hk] at this
   cases hb : Q4 key i <;> rw [hb] at this <;> cases this
  exact QhV i e h
theorem QlR {m : List En} {D : Nat} {e : En} (w : WayM e.key m D) : Qc7 e.key e.val (mkT m 0) D = mkT (qQ m e) 0 := by
 have hle := w.way.le
 have hp := QfK e.key m D
 have hoff := QhV (m := m) (key := e.key) D
 have hrem := QjA hp e.key
 rw [QfW, Z6 hoff] at hrem
 unfold Qc7
 rw [w.on D (Nat.le_refl _)]
 rcases Qaq w.last with ⟨h1, h2⟩ | ⟨f, h1, hb, ⟨hk, h2⟩ | ⟨hk, h2⟩⟩
 ·rw [h1] at hrem ⊢
  rw [Jx]
  have hu := Qe6 w D (Nat.le_refl _) [e] fun x hx j hj => by rw [List.mem_singleton.1 hx]
  rw [J0 e hle] at hu
  exact hu.trans (Zb ((hrem.cons e).trans (Z2 m e).symm) 0)
 ·rw [h1] at hrem ⊢
  rw [J0 f hle]
  dsimp only
  rw [if_pos hk]
  have hu := Qe6 w D (Nat.le_refl _) [e] fun x hx j hj => by rw [List.mem_singleton.1 hx]
  rw [J0 e hle] at hu
  rw [show Js [f] e.key = [] by simp [Js, hk]] at hrem
  exact hu.trans (Zb ((hrem.cons e).trans (Z2 m e).symm) 0)
 rw [h1] at hrem ⊢
 rw [J0 f hle]
 dsimp only
 rw [if_neg hk, Ql9 hk hb]
 have hu := Qe6 w D (Nat.le_refl _) [f, e] fun x hx j hj => by
  rcases List.mem_cons.1 hx with rfl | h
  ·exact hb j hj
  rw [List.mem_singleton.1 h]
 rw [show Js [f] e.key = [f] by simp [Js, hk]] at hrem
 refine hu.trans (Zb ?_ 0)
 exact (List.Perm.swap e f _).trans ((hrem.cons e).trans (Z2 m e).symm)
theorem Z7 (m : List En) (k : B32) (d : Nat) (b : Bool) : part (Js m k) d b = Js (part m d b) k := by
 unfold part Js
 rw [List.filter_filter, List.filter_filter]
 congr 1
 funext e
 exact Bool.and_comm _ _
theorem QfY {m : List En} {k : B32} {d : Nat} {b : Bool} (hb : Q4 k d = !b) : Js (part m d b) k = part m d b := Z6 fun e he hk => by
 have := (Yh.1 he).2
 rw [hk, hb] at this
 cases b <;> cases this
end
section
open Go.RowKit
theorem QdX (x y : UInt8) (h : x < y) : ∃ j, j < 8 ∧ (∀ i, i < j → J6 x i = J6 y i) ∧ J6 x j = false ∧ J6 y j = true := by
 have key : ∀ n m : Fin 256, n.val < m.val → ((List.range 8).any fun j => ((List.range j).all fun i => J6 (UInt8.ofNat n.val) i == J6 (UInt8.ofNat m.val) i) && !J6 (UInt8.ofNat n.val) j && J6 (UInt8.ofNat m.val) j) = true := by decide +kernel
 have h2 := key ⟨x.toNat, x.toNat_lt⟩ ⟨y.toNat, y.toNat_lt⟩ (UInt8.lt_iff_toNat_lt.1 h)
 simp only [UInt8.ofNat_toNat, List.any_eq_true, List.mem_range, Bool.and_eq_true, List.all_eq_true, beq_iff_eq, Bool.not_eq_true'] at h2
 obtain ⟨j, hj, ⟨h3, h4⟩, h5⟩ := h2
 exact ⟨j, hj, h3, h4, h5⟩
theorem Qh7 : ∀ (a b : List UInt8), VM a b < 0 → ∃ k, k < a.length ∧ k < b.length ∧ (∀ i, i < k → a.getD i 0 = b.getD i 0) ∧ a.getD k 0 < b.getD k 0
 | [], b, h => by unfold VM at h; omega
 | x :: a, [], h => by unfold VM at h; omega
 | x :: a, y :: b, h => by
  unfold VM at h
  by_cases h1 : x < y
  ·exact ⟨0, by simp, by simp, fun i hi => by omega, by simpa using h1⟩
  rw [if_neg h1] at h
  by_cases h2 : y < x
  ·rw [if_pos h2] at h; omega
  rw [if_neg h2] at h
  obtain ⟨k, k1, k2, k3, k4⟩ := Qh7 a b h
  have e : x = y := UInt8.le_antisymm (UInt8.not_lt.1 h2) (UInt8.not_lt.1 h1)
  refine ⟨k + 1, by simp; omega, by simp; omega, fun i hi => ?_, by simpa using k4⟩
  cases i with
  | zero => simpa using e
  | succ i => simpa using k3 i (by omega)
theorem QiC {a b : B32} (h : JS a b < 0) : ∃ i, i < 256 ∧ (∀ j, j < i → Q4 a j = Q4 b j) ∧ Q4 a i = false ∧ Q4 b i = true := by
 obtain ⟨k, k1, _, k3, k4⟩ := Qh7 a.1 b.1 h
 obtain ⟨j, hj, h1, h2, h3⟩ := QdX _ _ k4
 have ha := a.2
 refine ⟨8 * k + j, by omega, fun i hi => ?_, ?_, ?_⟩
 ·unfold Q4
  by_cases hk : i / 8 < k
  ·rw [k3 _ hk]
  have e : i / 8 = k := by omega
  rw [e]
  exact h1 _ (by omega)
 ·unfold Q4
  rw [show (8 * k + j) / 8 = k by omega, show (8 * k + j) % 8 = j by omega]
  exact h2
 unfold Q4
 rw [show (8 * k + j) / 8 = k by omega, show (8 * k + j) % 8 = j by omega]
 exact h3
end
section
open Go.RowKit
def ltK (a b : B32) : Prop := ∃ i, i < 256 ∧ (∀ j, j < i → Q4 a j = Q4 b j) ∧ Q4 a i = false ∧ Q4 b i = true
theorem qF {a b c : B32} (h : ltK a b) (h' : ltK b c) : ltK a c := by
 obtain ⟨i, i1, i2, i3, i4⟩ := h
 obtain ⟨j, j1, j2, j3, j4⟩ := h'
 rcases Nat.lt_trichotomy i j with hij | rfl | hij
 ·exact ⟨i, i1, fun k hk => (i2 k hk).trans (j2 k (by omega)), i3, (j2 i hij) ▸ i4⟩
 ·rw [i4] at j3; cases j3
 exact ⟨j, j1, fun k hk => (i2 k (by omega)).trans (j2 k hk), (i2 j hij).trans j3, j4⟩
def QaL (l : List B32) (d : Nat) : Prop := ∀ a ∈ l, ∀ b ∈ l, ∀ i, i < d → Q4 a i = Q4 b i
theorem QnV {a b : B32} {d : Nat} (h : ltK a b) (ha : ∀ i, i < d → Q4 a i = Q4 b i) (hb : Q4 a d = true) : Q4 b d = true := by
 obtain ⟨i, i1, i2, i3, i4⟩ := h
 rcases Nat.lt_trichotomy i d with hid | rfl | hid
 ·rw [ha i hid, i4] at i3; cases i3
 ·rw [hb] at i3; cases i3
 rw [← i2 d hid]; exact hb
theorem Qgk : ∀ {l : List B32} {d : Nat}, l.Pairwise ltK → QaL l d → ∃ m, m ≤ l.length ∧ (∀ j, j < l.length → Q4 (l.getD j QN) d = decide (m ≤ j)) ∧ l.take m = l.filter (fun k => Q4 k d == false) ∧ l.drop m = l.filter (fun k => Q4 k d == true)
 | [], _, _, _ => ⟨0, Nat.le_refl _, fun j hj => by simp at hj, rfl, rfl⟩
 | a :: l, d, ho, ha => by
  obtain ⟨h1, h2⟩ := List.pairwise_cons.1 ho
  have hal : QaL l d := fun x hx y hy => ha x (List.mem_cons_of_mem _ hx) y (List.mem_cons_of_mem _ hy)
  cases hb : Q4 a d
  ·obtain ⟨m, m1, m2, m3, m4⟩ := Qgk h2 hal
   refine ⟨m + 1, by simp; omega, fun j hj => ?_, ?_, ?_⟩
   ·cases j with
    | zero => simpa using hb
    | succ j =>
     have := m2 j (by simpa using hj)
     rw [List.getD_cons_succ, this]
     exact decide_eq_decide.2 ⟨fun h => by omega, fun h => by omega⟩
   ·rw [List.take_succ_cons, m3, List.filter_cons_of_pos (by simp [hb])]
   rw [List.drop_succ_cons, m4, List.filter_cons_of_neg (by simp [hb])]
  have hall : ∀ x ∈ l, Q4 x d = true := fun x hx => QnV (h1 x hx) (ha a (List.mem_cons_self ..) x (List.mem_cons_of_mem _ hx)) hb
  refine ⟨0, Nat.zero_le _, fun j hj => ?_, ?_, ?_⟩
  ·cases j with
   | zero => simpa using hb
   | succ j =>
    have hj' : j < l.length := by simpa using hj
    rw [List.getD_cons_succ, List.getD_eq_getElem?_getD, List.getElem?_eq_getElem hj', Option.getD_some, hall _ (List.getElem_mem hj')]
    simp
  ·rw [List.take_zero, List.filter_cons_of_neg (by simp [hb])]
   symm
   rw [List.filter_eq_nil_iff]
   intro x hx
   simp [hall x hx]
  rw [List.drop_zero, List.filter_cons_of_pos (by simp [hb])]
  congr 1
  symm
  rw [List.filter_eq_self]
  intro x hx
  simp [hall x hx]
end
section
open Go.RowKit
structure Chg where
 e : En
 del : Bool
abbrev Chg.key (c : Chg) : B32 := c.e.key
def Zd (l : List Chg) (d : Nat) (b : Bool) : List Chg := l.filter fun c => Q4 c.key d == b
def Yt (l : List Chg) (k : B32) : Bool := l.any fun c => decide (c.key = k)
def Jb (m : List En) (l : List Chg) : List En := (m.filter fun e => !Yt l e.key) ++ (l.filter fun c => !c.del).map Chg.e
theorem QbX (m : List En) : Jb m [] = m := by
 unfold Jb Yt
 simp
theorem Qjj (l : List Chg) (d : Nat) (k : B32) : Yt (Zd l d (Q4 k d)) k = Yt l k := by
 unfold Yt Zd
 rw [List.any_filter]
 congr 1
 funext c
 by_cases h : c.key = k
 ·rw [h, decide_eq_true rfl, beq_self_eq_true]; rfl
 rw [decide_eq_false h, Bool.and_false]
theorem Qbl (m : List En) (l : List Chg) (d : Nat) (b : Bool) : part (Jb m l) d b = Jb (part m d b) (Zd l d b) := by
 unfold Jb
 rw [Ze]
 congr 1
 ·unfold part
  rw [List.filter_filter, List.filter_filter]
  apply List.filter_congr
  intro e _
  by_cases h : Q4 e.key d = b
  ·rw [h, beq_self_eq_true, Bool.true_and, Bool.and_true, ← h, Qjj]
  rw [show (Q4 e.key d == b) = false by simpa using h, Bool.false_and, Bool.and_false]
 unfold part Zd
 rw [List.filter_map, List.filter_filter, List.filter_filter]
 congr 1
 apply List.filter_congr
 intro c _
 exact Bool.and_comm _ _
theorem QfB {m : List En} {l : List Chg} {d : Nat} (hd : d < 256) : YG (mkT (Jb (part m d false) (Zd l d false)) (d + 1)) (mkT (Jb (part m d true) (Zd l d true)) (d + 1)) = mkT (Jb m l) d := by
 rw [← Qbl, ← Qbl]
 exact Qa2 hd
end
section
open Go.RowKit
end
section
open Go.RowKit
end
section
open Go.RowKit
theorem Qh6 : ∀ {a b : List UInt8}, a.length = b.length → (VM a b = 0 ↔ a = b)
 | [], [], _ => by simp [VM]
 | [], _ :: _, h => by cases h
 | _ :: _, [], h => by cases h
 | x :: a, y :: b, h => by
  have ih := Qh6 (a := a) (b := b) (by simpa using h)
  unfold VM
  by_cases h1 : x < y
  ·rw [if_pos h1]
   refine ⟨fun h => absurd h (by decide), fun h => ?_⟩
   injection h with h _
   subst h
   exact absurd h1 (UInt8.lt_irrefl x)
  rw [if_neg h1]
  by_cases h2 : y < x
  ·rw [if_pos h2]
   refine ⟨fun h => absurd h (by decide), fun h => ?_⟩
   injection h with h _
   subst h
   exact absurd h2 (UInt8.lt_irrefl x)
  rw [if_neg h2, ih]
  have hxy : x = y := UInt8.le_antisymm (UInt8.not_lt.1 h2) (UInt8.not_lt.1 h1)
  subst hxy
  simp
theorem Qh5 {a b : B32} : JS a b = 0 ↔ a = b := (Qh6 (by rw [a.2, b.2])).trans ⟨fun h => Subtype.ext h, fun h => congrArg Subtype.val h⟩
end
section
open Go.RowKit
end
section
open Go.RowKit
end
section
open Go.RowKit
end
section
open Go.RowKit
end
section
open Go.RowKit
end
section
open Go.RowKit
end
section
open Go.RowKit
abbrev Qcq : Item := ⟨2, QN, Yi⟩
def Sub.flat : Sub → List Item
 | .one x => [x]
 | .two l r => Qcq :: (l.flat ++ r.flat)
def Sub.ht : Sub → Nat
 | .one _ => 0
 | .two l r => max l.ht r.ht + 1
def Sub.ok : Sub → Prop
 | .one x => x.kind ≠ 2 ∧ QpR x = true ∧ QiB x = true
 | .two l r => l.ok ∧ r.ok
def Sub.sz : Sub → Nat
 | .one _ => 1
 | .two l r => l.sz + r.sz + 1
theorem Sub.flat_len : ∀ t : Sub, t.flat.length = t.sz
 | .one _ => rfl
 | .two l r => by
  show (l.flat ++ r.flat).length + 1 = _
  rw [List.length_append, l.flat_len, r.flat_len]
  rfl
theorem Sub.sz_pos : ∀ t : Sub, 0 < t.sz
 | .one _ => Nat.one_pos
 | .two _ _ => Nat.succ_pos _
theorem Qbb : ∀ (t : Sub) (d : Nat) (rest : List Item), t.ok → t.ht ≤ d → QaD d (t.flat ++ rest) = some (t, rest)
 | .one x, d, rest, ho, _ => by
  show QaD d (x :: rest) = _
  cases d <;> (unfold QaD; rw [if_neg ho.1])
 | .two l r, 0, rest, ho, hd => absurd hd (by simp [Sub.ht])
 | .two l r, d + 1, rest, ho, hd => by
  have hd' : max l.ht r.ht + 1 ≤ d + 1 := hd
  show QaD (d + 1) (Qcq :: ((l.flat ++ r.flat) ++ rest)) = _
  unfold QaD
  rw [if_pos rfl, List.append_assoc, Qbb l d _ ho.1 (by omega)]
  simp only [Option.bind_some]
  rw [Qbb r d _ ho.2 (by omega)]
  rfl
def Sub.way (k : B32) : Sub → Nat → Nat → List Nat
 | .one _, _, i => [i]
 | .two l r, d, i => i :: if Q4 k d then r.way k (d + 1) (i + 1 + l.sz) else l.way k (d + 1) (i + 1)
end
section
open Go.RowKit
theorem Qm9 (l : List B32) (A : Option Addr) (c i j g2 g3 : Nat) (hj : j < l.length) (hi : i < 256) : QC Tryz.prog 247 [.int .i64 (j : Int), .pointer (some ⟨g2, 0, none⟩), .pointer (some ⟨g3, 0, none⟩)].toArray [.rd (some ⟨g2, 0, none⟩) [.slice A l.length c], .rd (some ⟨g3, 0, none⟩) [.int .i64 (i : Int)], .rd A (dgs l)] [] (fun _ : Unit => .bool (Q4 (l.getD j QN) i)) (fun _ => []) := by
 have h1 := VV hj
 refine Qk Tryz.func247 rfl (n := 12) rfl rfl ?_
 intro W
 refine Jq (φ := ∃ b o, A = some ⟨b, o, none⟩) (fun w s => Rd.some (s.ok (.rd A (dgs l)) (by simp)) (by rw [JI]; omega)) ?_
 rintro ⟨b, o, rfl⟩
 refine yR ?_
 refine yS rfl ?_
 refine yN ?_
 refine Qd ?_
 refine Q1 [.rd (some ⟨g2, 0, none⟩) [.slice (some ⟨b, o, none⟩) l.length c], .rd (some ⟨g3, 0, none⟩) [.int .i64 (i : Int)], .rd (some ⟨b, o, none⟩) (dgs l)] [] QJ (same) ?_
 refine Qp 0 rfl (Qf rfl) ?_
 refine Qa 1 rfl (Qi rfl) ?_
 refine Qa 2 rfl (QQ rfl rfl) ?_
 refine Qp 3 rfl (Jm rfl (out := (l.getD j QN).cells) (B32.cells_length _) h1) ?_
 refine Qp 4 rfl (Qf rfl) ?_
 refine Qv 5 ?_
 refine QR 5 rfl ((ZH (l.getD j QN) i hi).comes) rfl rfl rfl (fun xx => same) fun _ => ?_
 refine Qa 6 rfl (Ql (QG rfl rfl) (QeT (l.getD j QN) i)) ?_
 refine Qa 7 rfl (Q6 rfl) ?_
 refine QB (by kernel_rfl) ?_
 refine Qc ?_
 refine Qs ?_
 exact Qu rfl rfl fun w s => ⟨(), rfl, s.res (List.nil_sublist _) (by simp)⟩
theorem Qrg (a : Nat) (h : a < 18446744073709551616) : (((BitVec.ofNat 64 a) >>> 1).toNat : Int) = ((a / 2 : Nat) : Int) := by
 rw [BitVec.toNat_ushiftRight, BitVec.toNat_ofNat, Nat.mod_eq_of_lt (by omega), Nat.shiftRight_eq_div_pow]
theorem Qkn (l : List B32) (A : Option Addr) (c i g2 g3 m : Nat) (hi : i < 256) (hl : l.length ≤ 1000000) (hm : m ≤ l.length) (hp : ∀ j, j < l.length → Q4 (l.getD j QN) i = decide (m ≤ j)) : QC Tryz.prog 246 [.int .i64 (l.length : Int), .func (.func 247) #[] [.pointer (some ⟨g2, 0, none⟩), .pointer (some ⟨g3, 0, none⟩)].toArray].toArray [.rd (some ⟨g2, 0, none⟩) [.slice A l.length c], .rd (some ⟨g3, 0, none⟩) [.int .i64 (i : Int)], .rd A (dgs l)] [] (fun _ : Unit => .int .i64 (m : Int)) (fun _ => []) := by
 refine Qk Tryz.func246 rfl (n := 26) rfl rfl ?_
 intro W
 refine yR ?_
 refine yS rfl ?_
 refine yN ?_
 refine yR ?_
 refine yM rfl ?_
 refine yS rfl ?_
 refine yS rfl ?_
 refine yN ?_
 refine Qd ?_
 refine Qq ?_
 refine QS (fun (s : Nat × Nat) => s.1 ≤ m ∧ m ≤ s.2 ∧ s.2 ≤ l.length) (fun (s : Nat × Nat) => [(5, .int .i64 (s.1 : Int)), (6, .int .i64 (s.2 : Int)), (1, .func (.func 247) #[] [.pointer (some ⟨g2, 0, none⟩), .pointer (some ⟨g3, 0, none⟩)].toArray)]) (fun (s : Nat × Nat) => [.rd (some ⟨g2, 0, none⟩) [.slice A l.length c], .rd (some ⟨g3, 0, none⟩) [.int .i64 (i : Int)], .rd A (dgs l)]) (fun (s : Nat × Nat) => s.2 - s.1) (0, l.length) (⟨Nat.zero_le _, hm, Nat.le_refl _⟩) ⟨rfl, rfl, rfl, trivial⟩ (same) ?_
 rintro ⟨a, b⟩ ⟨h1, h2, h3⟩
 dsimp only at h1 h2 h3 ⊢
 refine Qd ?_
 refine yR ?_
 refine yM rfl ?_
 refine yM rfl ?_
 refine Qb (QT rfl rfl) ?_
 refine yN ?_
 refine QU rfl (fun hlt => ?_) (fun hlt => ?_)
 ·have hh : (a + b) / 2 < l.length := by omega
  have hb := Qm9 l A c i ((a + b) / 2) g2 g3 hh hi
  rw [hp _ hh] at hb
  refine Qn ?_
  refine Qc ?_
  refine Qq ?_
  refine yR ?_
  refine yM rfl ?_
  refine yM rfl ?_
  refine Qb (Jv (QI rfl rfl) (show _ = ((a + b : Nat) : Int) by omega)) ?_
  refine Qb (Zi rfl) ?_
  refine Qb (Jv (YW rfl rfl) (Qrg (a + b) (by omega))) ?_
  refine Qb (QlX rfl (IntWalk.i64_in _ (by omega))) ?_
  refine yS rfl ?_
  refine yN ?_
  refine yR ?_
  refine yM rfl ?_
  refine yM rfl ?_
  by_cases hc : m ≤ (a + b) / 2
  ·rw [decide_eq_true hc] at hb
   refine Qh (hb.comes) rfl rfl rfl fun _ => ?_
   refine Qb (Ji rfl) ?_
   refine yN ?_
   refine Qt rfl ?_
   refine Q5 ?_
   refine yM rfl ?_
   refine yS rfl ?_
   refine QE ?_
   refine Q2 ?_
   exact QH (a, (a + b) / 2) (⟨h1, hc, by dsimp only; omega⟩) ((show (a + b) / 2 - a < b - a by omega)) ⟨rfl, rfl, rfl, trivial⟩ (same)
  rw [decide_eq_false hc] at hb
  refine Qh (hb.comes) rfl rfl rfl fun _ => ?_
  refine Qb (Ji rfl) ?_
  refine yN ?_
  refine Qz rfl ?_
  refine Q5 ?_
  refine yM rfl ?_
  refine Qb (QI rfl rfl) ?_
  refine yS rfl ?_
  refine QE ?_
  refine Q2 ?_
  exact QH ((a + b) / 2 + 1, b) (⟨by dsimp only; omega, h2, h3⟩) ((show b - ((a + b) / 2 + 1) < b - a by omega)) ⟨aI rfl (by omega), rfl, rfl, trivial⟩ (same)
 obtain rfl : a = m := by omega
 refine QK ?_
 refine Qx ?_
 refine Qx ?_
 refine Q8 ?_
 refine Qc ?_
 refine yR ?_
 refine yM rfl ?_
 refine yS rfl ?_
 refine yN ?_
 refine Qs ?_
 exact Qu rfl rfl fun w s => ⟨(), rfl, s.res (List.nil_sublist _) (by simp)⟩
theorem Qni (l : List B32) (A : Option Addr) (c i m : Nat) (hi : i < 256) (hl : l.length ≤ 1000000) (hm : m ≤ l.length) (hp : ∀ j, j < l.length → Q4 (l.getD j QN) i = decide (m ≤ j)) : QC Tryz.prog 173 [.slice A l.length c, .int .i64 (i : Int)].toArray [.rd A (dgs l)] [] (fun _ : Unit => .int .i64 (m : Int)) (fun _ => []) := by
 refine Qk Tryz.func173 rfl (n := 9) rfl rfl ?_
 intro W
 refine yR ?_
 refine Qo (JW rfl) fun g2 => ?_
 refine Qo (JW rfl) fun g3 => ?_
 refine yS rfl ?_
 refine yN ?_
 refine yR ?_
 refine Qb (Qf rfl) ?_
 refine Qb (QF rfl) ?_
 refine Qb (Y1 rfl rfl) ?_
 refine Qh ((Qkn l A c i g2 g3 m hi hl hm hp).comes) rfl rfl rfl fun _ => ?_
 refine yS rfl ?_
 refine yN ?_
 refine Qs ?_
 exact Qu rfl rfl fun w s => ⟨(), rfl, s.res (List.nil_sublist _) (by simp)⟩
end
section
open Go.RowKit
def Tr.ht : Tr → Nat
 | .node l r => max l.ht r.ht + 1
 | _ => 0
def Tr.sz : Tr → Nat
 | .node l r => l.sz + r.sz + 1
 | _ => 1
end
section
open Go.RowKit
theorem V4 {a b : B32} (h : JS a b < 0) : ltK a b := QiC h
end
end Go.Proofs.YtjhlbbgikccclaaGreatDoor
