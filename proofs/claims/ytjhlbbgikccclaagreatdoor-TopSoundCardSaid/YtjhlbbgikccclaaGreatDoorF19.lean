/- joined texts -/
import Derived.Test.YtjhlbbgikccclaaGreatDoorF18
import Derived.Scope
set_option linter.all false
namespace Go.Proofs.YtjhlbbgikccclaaGreatDoor
section
open Go.RowKit
theorem Qak {l pre post : List UInt8} {x : B32} {o : Nat} (h : l = pre ++ (x.1 ++ post)) (hp : pre.length = o) : Jf l o = x := by
 subst hp
 subst h
 apply Subtype.ext
 apply List.ext_getElem?
 intro j
 show ((List.range 32).map fun j => (pre ++ (x.1 ++ post)).getD (pre.length + j) 0)[j]? = _
 have hx := x.2
 by_cases hj : j < 32
 ·rw [List.getElem?_map, List.getElem?_range hj]
  simp only [Option.map_some, List.getD_eq_getElem?_getD]
  rw [List.getElem?_append_right (by omega), Nat.add_sub_cancel_left, List.getElem?_append_left (by omega), List.getElem?_eq_getElem (by omega)]
  rfl
 rw [List.getElem?_eq_none (by simp; omega), List.getElem?_eq_none (by omega)]
theorem QjK {l pre : List UInt8} {ss : List B32} {base : Nat} (h : l = pre ++ ss.flatMap (·.1)) (hp : pre.length = base) : qe l base ss.length = ss := by
 apply List.ext_getElem?
 intro i
 unfold qe
 by_cases hi : i < ss.length
 ·rw [List.getElem?_map, List.getElem?_range hi, List.getElem?_eq_getElem hi]
  refine congrArg some (Qak (pre := pre ++ (ss.take i).flatMap (·.1)) (post := (ss.drop (i + 1)).flatMap (·.1)) ?_ ?_)
  ·rw [h, List.append_assoc]
   congr 1
   rw [← List.append_assoc, ← List.flatMap_singleton (f := fun b : B32 => b.1) (x := ss[i]), ← List.flatMap_append, ← List.flatMap_append]
   congr 1
   rw [List.append_assoc, List.singleton_append, List.getElem_cons_drop, List.take_append_drop]
  rw [List.length_append, flat_len, List.length_take, hp, Nat.min_eq_left (by omega)]
 rw [List.getElem?_eq_none (by simp; omega), List.getElem?_eq_none (by omega)]
theorem Qip {m : Nat} (h : m < 256) : (u8n m).toNat = m := by
 unfold u8n
 rw [UInt8.toNat_ofNat']
 exact Nat.mod_eq_of_lt h
theorem QkI (p : DP) (hc : Jk (p.pr none 0) = 0) : Ya (Qap p.k p.d p.lf p.bm p.ss) = .ok p := by
 have hk := Qel hc
 have hd := Y5 hc
 have hs := QbI hc
 have hle := QaW (p.pr none 0).bitmap
 have hz : p.k = 1 ∨ p.lf = Yi := by
  have := qh hc 2 (by omega)
  simp only [okJ, Bool.or_eq_true, decide_eq_true_eq] at this
  exact this.imp (fun h => by have h : (p.k : Int) = 1 := h; omega) id
 have hk1 : p.k = 0 ∨ p.k = 1 := by
  have h : (p.k : Int) = 0 ∨ (p.k : Int) = 1 := hk
  omega
 have hd' : p.d ≤ 256 := by
  have h : (p.d : Int) ≤ 256 := hd.2
  omega
 rw [hs] at hle
 have hss : p.ss.length ≤ 256 := hle
 obtain ⟨k, d, lf, bm, ss⟩ := p
 dsimp only at *
 have hlen := Qfk k d lf bm ss
 obtain ⟨l, hl⟩ : ∃ l, Qap k d lf bm ss = l := ⟨_, rfl⟩
 rw [hl] at hlen ⊢
 have hK : dK l = k := by
  rw [← hl]
  show (u8n k).toNat = k
  exact Qip (by omega)
 have hbl := bm.2
 have hkl := lf.key.2
 have hvl := lf.value.2
 have hB : JL l = 36 + 64 * k := by unfold JL; rw [hK]
 have hll : l.length = 36 + 64 * k + 32 * ss.length := by
  rw [hlen]
  unfold QgQ
  rcases hk1 with rfl | rfl <;> simp
 have h2 : l.getD 0 0 = 1 := by rw [← hl]; rfl
 have hE := Qcf (l := l) (by omega) h2 (by omega) (N := ss.length) (by rw [hB]; exact hll) (by omega)
 have hD : dDP l ss.length = ⟨k, d, lf, bm, ss⟩ := by
  unfold dDP
  rw [hB, hK]
  have e1 : (l.getD 2 0).toNat * 256 + (l.getD 3 0).toNat = d := by
   rw [← hl]
   show (u8n (d / 256)).toNat * 256 + (u8n d).toNat = d
   rw [Qip (by omega)]
   unfold u8n
   rw [UInt8.toNat_ofNat']
   omega
  have e2 : Jf l 4 = bm := Qak (pre := [1, u8n k, u8n (d / 256), u8n d]) (hl.symm.trans rfl) rfl
  have e3 : dLf l = lf := by
   unfold dLf
   rw [hK]
   rcases hk1 with rfl | rfl
   ·rw [if_neg (by omega)]
    rcases hz with h | h
    ·omega
    exact h.symm
   rw [if_pos rfl]
   have h36 : Jf l 36 = lf.key := Qak (pre := [1, u8n 1, u8n (d / 256), u8n d] ++ bm.1) (post := lf.value.1 ++ ss.flatMap (·.1)) (hl.symm.trans (by unfold Qap; rw [if_pos rfl]; simp)) (by simp [hbl])
   have h68 : Jf l 68 = lf.value := Qak (pre := [1, u8n 1, u8n (d / 256), u8n d] ++ bm.1 ++ lf.key.1) (post := ss.flatMap (·.1)) (hl.symm.trans (by unfold Qap; rw [if_pos rfl]; simp)) (by simp [hbl, hkl])
   rw [h36, h68]
  have e4 : qe l (36 + 64 * k) ss.length = ss := by
   refine QjK (pre := [1, u8n k, u8n (d / 256), u8n d] ++ (bm.1 ++ (if k = 1 then lf.key.1 ++ lf.value.1 else []))) (hl.symm.trans ?_) ?_
   ·unfold Qap; simp
   rcases hk1 with rfl | rfl <;> simp [hbl, hkl, hvl]
  rw [e1, e2, e3, e4]
 rw [hD, if_pos hc] at hE
 exact hE
def dpK (n : Nat) (key : B32) (t : Tr) (D : Nat) : DP := ⟨(Jg key t D).kind, D, qY n (Jg key t D), Ve (dsK key t D), rsK n key t D⟩
theorem QgD (n : Nat) (key : B32) (t : Tr) (D : Nat) (A : Option Addr) (c : Nat) : (dpK n key t D).pr A c = VB n key t D A c := by
 unfold DP.pr dpK VB
 dsimp only
 rw [Qif]
theorem QjE (n : Nat) {key : B32} {t : Tr} {D : Nat} (hw : WayTo key t D) : qy n (dpK n key t D) key = dgT n t := by
 have h2 := Qgq n hw none 0 D (Nat.le_refl _)
 rw [Nat.sub_self] at h2
 unfold qy
 rw [QgD]
 rw [show (dpK n key t D).bm = Ve (dsK key t D) from rfl, show (dpK n key t D).ss = rsK n key t D from rfl, show (dpK n key t D).d = D from rfl, Qla n hw.le]
 exact h2
def ZC (n : Nat) (key : B32) (t : Tr) (D : Nat) : List UInt8 := Qap (Jg key t D).kind D (qY n (Jg key t D)) (Ve (dsK key t D)) (rsK n key t D)
theorem QkJ (n : Nat) {key : B32} {t : Tr} {D : Nat} (hw : WayTo key t D) (hL : QdO key t D) : Ya (ZC n key t D) = .ok (dpK n key t D) :=
 QkI (dpK n key t D) (by rw [QgD]; exact QlL n hw hL none 0)
theorem Qjd (n : Nat) {t : Tr} {D : Nat} {kb : List UInt8} (hw : WayTo (keyOf kb) t D) (hL : QdO (keyOf kb) t D) (root : Sl) (hr : root.n = 32) (c : Claim) (hc : Jy c = 0) (rb vb : List UInt8) (hrb : keyOf rb = dgT n t) :
  QiO (Yc (Je n root c rb kb vb (ZC n (keyOf kb) t D))) = if qt (VB n (keyOf kb) t D none 0) (keyOf kb) (ZF n c.present vb) c.present then 0 else 12 := by
 have hd := QkJ n hw hL
 have hk32 : c.key.n = 32 := by
  unfold Jy at hc
  split at hc
  ·assumption
  cases hc
 have hp3 : ¬ (c.present = true ∧ 65535 < c.value.n) := fun hh => by unfold Jy at hc; rw [if_pos hk32, if_pos hh] at hc; cases hc
 have v0 : Je n root c rb kb vb (ZC n (keyOf kb) t D) 0 = 0 := if_pos hr
 have v1 : Je n root c rb kb vb (ZC n (keyOf kb) t D) 1 = 0 := if_pos hk32
 have v2 : Je n root c rb kb vb (ZC n (keyOf kb) t D) 2 = 0 := if_neg hp3
 have v3 : Je n root c rb kb vb (ZC n (keyOf kb) t D) 3 = 0 := by
  show Qdk (Ya _) = 0
  rw [hd]; rfl
 have v4 : Je n root c rb kb vb (ZC n (keyOf kb) t D) 4 = if qt (VB n (keyOf kb) t D none 0) (keyOf kb) (ZF n c.present vb) c.present then 0 else 12 := by
  unfold Je; rw [hd, ← QgD]; rfl
 have v5 : Je n root c rb kb vb (ZC n (keyOf kb) t D) 5 = 0 := by
  unfold Je
  rw [hd]
  show (if decide (qy n (dpK n (keyOf kb) t D) (keyOf kb) = keyOf rb) then (0 : Int) else 13) = 0
  rw [QjE n hw, hrb, if_pos (by simp)]
 by_cases hs : qt (VB n (keyOf kb) t D none 0) (keyOf kb) (ZF n c.present vb) c.present = true
 ·rw [if_pos hs] at v4 ⊢
  rw [Qjb (fun j hj => by rcases (by omega : j = 0 ∨ j = 1 ∨ j = 2 ∨ j = 3 ∨ j = 4 ∨ j = 5) with rfl | rfl | rfl | rfl | rfl | rfl <;> assumption)]
  rfl
 rw [if_neg hs] at v4 ⊢
 rw [Qja (i := 4) (e := 12) (by decide) (fun j hj => by rcases (by omega : j = 0 ∨ j = 1 ∨ j = 2 ∨ j = 3) with rfl | rfl | rfl | rfl <;> assumption) v4 (by decide)]
 rfl
theorem QjQ {key : B32} {m : List En} {D : Nat} (w : WayM key m D) (n : Nat) (present : Bool) (vb : List UInt8) :
  qt (VB n key (mkT m 0) D none 0) key (ZF n present vb) present = ((present == (Ja m key).isSome) && (!(Ja m key).isSome || decide (Jj n (JK (JQ (Ja m key))) = Jj n (JK vb)))) := by
 obtain ⟨h1, h2, h3⟩ := QmA w n none 0
 cases present with
 | false =>
  have e : qt (VB n key (mkT m 0) D none 0) key (ZF n false vb) false = qt (VB n key (mkT m 0) D none 0) key (Jj n (JK (JQ (Ja m key)))) false := rfl
  rw [e, h2]
  cases (Ja m key).isSome <;> rfl
 | true =>
  show qt _ key (Jj n (JK vb)) true = _
  by_cases hq : Jj n (JK (JQ (Ja m key))) = Jj n (JK vb)
  ·rw [decide_eq_true hq, ← hq, h1]
   cases (Ja m key).isSome <;> rfl
  rw [h3 _ (fun h => hq h.symm), decide_eq_false hq]
  cases (Ja m key).isSome <;> rfl
theorem Qjc (n : Nat) {key : B32} {m : List En} {D : Nat} {kb : List UInt8} (hk : keyOf kb = key) (w : WayM key m D) (root : Sl) (hr : root.n = 32) (c : Claim) (hc : Jy c = 0) (rb vb : List UInt8) (hrb : keyOf rb = dgT n (mkT m 0)) :
  QiO (Yc (Je n root c rb kb vb (ZC n key (mkT m 0) D))) = if ((c.present == (Ja m key).isSome) && (!(Ja m key).isSome || decide (Jj n (JK (JQ (Ja m key))) = Jj n (JK vb)))) then 0 else 12 := by
 subst hk
 rw [Qjd n w.way w.lastOk root hr c hc rb vb hrb, QjQ w]
theorem QnQ {key : B32} {m : List En} {D : Nat} (w : WayM key m D) : (Jg key (mkT m 0) D).kind = 0 ∨ (Jg key (mkT m 0) D).kind = 1 := by
 have h2 := qO (atM key m D) w.way.le
 have h3 := w.last
 rw [w.on D (Nat.le_refl _)]
 omega
end
section
open Go.RowKit
theorem Qgw (n : Nat) {key : B32} {m : List En} {D : Nat} (w : WayM key m D) (A : Option Addr) (c : Nat) : QC Tryz.prog 49 [.agg (VB n key (mkT m 0) D A c).cells.toArray].toArray [.rd A (dgs (rsK n key (mkT m 0) D))] [] (fun u : Option Addr × Nat => .tuple #[.slice u.1 (ZC n key (mkT m 0) D).length u.2, .int .i64 0]) (fun u => [.own (.slice u.1 (ZC n key (mkT m 0) D).length u.2) (ZC n key (mkT m 0) D).length 5 1 (bc (ZC n key (mkT m 0) D))]) :=
 Qi6 (VB n key (mkT m 0) D A c) (Jg key (mkT m 0) D).kind D (QlL n w.way w.lastOk A c) rfl rfl (QnQ w) (rsK n key (mkT m 0) D) (Qif n key (mkT m 0) D).symm
end
section
open Go.RowKit
section
variable {P : Program} {A : List Fa} {W : World} {L M M' : List Fa} {f : FuncId} {args : Array Value} {τ : Type} {vv : τ → Value} {L' : τ → List Fa}
theorem JN.freezeO (v : Value) {N e size : Nat} {xs : List Value} {h : Zh} [ht : TakeO v L N e size xs M] [hz : TakeZ M h M'] (k : ∀ h' B c, v = .slice B N c → N ≤ c → xs.length = N * size → (B = none → N = 0 ∧ c = 0) → LeZ h h' → RdZ h' B xs → JN P A W (.zone true h' :: M') f args vv L') : JN P A W L f args vv L' := fun w s => by
 have s2 := (s.perm ht.perm).perm (hz.perm.cons _)
 have ho : w.ownsRow 0 e size v N xs := s2.ok (.own v N e size xs) (List.mem_cons_self ..)
 rcases ho.2 with ⟨h1, h2⟩ | ⟨g, cap, cur, h1, _, h3, h4, h5, h6, h7⟩
 ·have h0 : N = 0 := h2
  have hxs : xs = [] := List.eq_nil_of_length_eq_zero (by rw [ho.1, h0, Nat.zero_mul])
  refine k h none 0 (by rw [h1, h0]) (by omega) ho.1 (fun _ => ⟨h0, rfl⟩) (LeZ.refl h) (by rw [hxs]; exact RdZ.nil _ _) w s2.tail
 subst h1
 obtain ⟨e1, e2⟩ := s2.freeze rfl (rfl : (Fa.own (.slice (some ⟨g, 0, none⟩) N cap) N e size xs).foot g) h3
 refine k _ (some ⟨g, 0, none⟩) cap rfl h4 ho.1 (fun e => by cases e) e1 ⟨fun j u hu => ⟨g, 0, rfl, ?_⟩⟩ w e2
 rw [Zh.add_cell, Nat.zero_add, ← Array.getElem?_toList]
 rw [← h7, List.getElem?_take] at hu
 split at hu
 ·exact hu
 cases hu
theorem JN.map {τ2 : Type} {v2 : τ2 → Value} {L2 : τ2 → List Fa} (hc : JN P A W L f args vv L') (g : τ → τ2) (hv : ∀ x, vv x = v2 (g x)) (hL : ∀ x w, Sx A W w (L' x) → Sx A W w (L2 (g x))) : JN P A W L f args v2 L2 := fun w s => by
 refine (hc w s).mono ?_
 rintro e w' ⟨x, rfl, hx⟩
 exact ⟨g x, by rw [hv], hL x w' hx⟩
end
end
section
open Go.RowKit
set_option maxRecDepth 100000 in
theorem Qbf (h : Zh) [hT : RdZ h (some ⟨1, 0, none⟩) Jd] [hE : ERZ h] : QC Tryz.prog 13 ([] : List Value).toArray [] [.zone true h] (fun _ : {x : Zh // LeZ h x} => .bool true) (fun x => [.zone true x.1]) := by
 refine Qk Tryz.func13 rfl (n := 53) rfl rfl ?_
 intro W
 refine yR ?_
 refine yS rfl ?_
 refine yN ?_
 refine yR ?_
 refine Qh ((Qkq 256 (by decide)).comes) rfl rfl rfl fun ⟨t0, gh, gc⟩ => ?_
 dsimp only
 refine yM rfl ?_
 refine Qb (Qj rfl rfl) ?_
 refine Qb (Qj rfl rfl) ?_
 refine yS rfl ?_
 refine yS rfl ?_
 refine yN ?_
 refine Qd ?_
 refine yR ?_
 refine yM rfl ?_
 refine Qb (J2 rfl rfl) ?_
 refine yM rfl ?_
 refine yM rfl ?_
 refine Qb (QL rfl rfl) ?_
 refine Qb (Qy rfl rfl) ?_
 refine yM rfl ?_
 refine yM rfl ?_
 refine Qo (VH rfl rfl) fun g18 => ?_
 refine Qo (qT (ys := [.int .u8 7]) (bc [7]) rfl rfl (YZ _)) fun g19 => ?_
 refine Jp (.slice (some ⟨g19, 0, none⟩) 1 1) fun z2 B2 c2 e2 _ _ _ hz2 hr2 => ?_
 injection e2 with e2 _ e2'
 subst e2 e2'
 refine Jp (.slice (some ⟨g18, 0, none⟩) 32 32) fun z3 B3 c3 e3 _ _ _ hz3 hr3 => ?_
 injection e3 with e3 _ e3'
 subst e3 e3'
 have hz13 := hz2.trans hz3
 have hT3 : RdZ z3 (some ⟨1, 0, none⟩) Jd := hT.mono hz13
 have sv3 : SlZ z3 ⟨some ⟨g19, 0, none⟩, 1, 1⟩ [7] := Yn (hr2.mono hz3) rfl (Nat.le_refl _)
 have sk3 : SlZ z3 ⟨some ⟨g18, 0, none⟩, 32, 32⟩ (zk 32) := Yn hr3 rfl (Nat.le_refl _)
 have tr3 : TrZ 256 z3 (mkT [] 0) none := by rw [Jx]; exact ⟨rfl⟩
 have hP2 := Qhz 256 (by decide) gh gc t0 0 (by decide) z3 (m := []) YI.nil.alike (by decide) none ⟨some ⟨g18, 0, none⟩, 32, 32⟩ (zk 32) ⟨some ⟨g19, 0, none⟩, 1, 1⟩ [7] (by decide)
 refine Qh (hP2.comes) rfl rfl rfl fun ⟨⟨z4, q, k4⟩, hz4, ht4, hk4⟩ => ?_
 dsimp only at hz4 ht4 hk4 ⊢
 rw [show qQ [] (⟨⟨keyOf (zk 32), ⟨some ⟨g19, 0, none⟩, 1, 1⟩⟩, [7]⟩ : En) = [⟨⟨keyOf (zk 32), ⟨some ⟨g19, 0, none⟩, 1, 1⟩⟩, [7]⟩] from rfl] at ht4
 generalize hx0 : (⟨⟨keyOf (zk 32), ⟨some ⟨g19, 0, none⟩, 1, 1⟩⟩, [7]⟩ : En) = x0 at ht4
 have hxv : x0.val = [7] := by subst hx0; rfl
 have hkz : keyOf (zk 32) = QN := Subtype.ext (by unfold keyOf; rfl)
 have hxk : x0.key = QN := by subst hx0; exact hkz
 have ho4 : YI [x0] := List.pairwise_singleton ..
 have hm0 : mkT [x0] 0 = .leaf (QN) [7] := by rw [J0 x0 (by omega), hxk, hxv]
 have hget : Ja [x0] (QN) = some x0 := List.find?_cons_of_pos (decide_eq_true hxk)
 obtain ⟨D, hw⟩ := QmH (key := QN) ho4.alike
 obtain rfl : D = 0 := by
  rcases Nat.eq_zero_or_pos D with h0 | h0
  ·exact h0
  exact absurd (hw.more 0 h0) (by show ¬ 1 < 1; decide)
 have hT4 : RdZ z4 (some ⟨1, 0, none⟩) Jd := hT3.mono hz4
 have hRt := Qh0 t0 gh q 256 z4 (mkT [x0] 0) (by decide) gc k4 (by omega)
 rw [if_neg (show ¬ (mkT [x0] 0).kind = 0 by rw [hm0]; decide)] at hRt
 have hPr := Qne 256 (by decide) gh gc (k4 + 0) (by omega) z4 (mkT [x0] 0) q (QN) 0 hw.way
 have hEnc := fun A c => Qgw 256 hw A c
 have hfm := fun root hr c hc rb vb hrb => Qjc 256 (kb := zk 32) hkz hw root hr c hc rb vb hrb
 have hEl : (ZC 256 (QN) (mkT [x0] 0) 0).length = 100 := by
  unfold ZC
  rw [Qfk, hm0]
  rfl
 generalize ZC 256 (QN) (mkT [x0] 0) 0 = E at *
 refine Qb (Z4 rfl) ?_
 refine Qb (Qy rfl rfl) ?_
 refine yN ?_
 refine Qt rfl ?_
 refine Qn ?_
 refine Qc ?_
 refine yR ?_
 refine yM rfl ?_
 refine Qh (hRt.comes) rfl rfl rfl fun _ => ?_
 refine Qo (Q0) fun g3 => ?_
 refine Q7 (Qw rfl rfl) ?_
 refine yN ?_
 refine yR ?_
 refine yM rfl ?_
 refine Qh ((Yj t0 gh q).comes) rfl rfl rfl fun _ => ?_
 refine yM rfl ?_
 refine Qh ((Qhy t0 gh q).comes) rfl rfl rfl fun _ => ?_
 refine Qb (QD (out := QN.cells) rfl) ?_
 refine Qh (hPr.comes) rfl rfl rfl fun ⟨A31, c31⟩ => ?_
 dsimp only
 refine Qh ((hEnc A31 c31).comes (hr := inferInstanceAs (Rds _ [.rd A31 (dgs (rsK 256 QN (mkT [x0] 0) 0))]))) rfl rfl rfl fun ⟨A32, c32⟩ => ?_
 dsimp only
 refine yM rfl ?_
 refine Qb (Qj rfl rfl) ?_
 refine Qb (Qj rfl rfl) ?_
 refine yS rfl ?_
 refine yS rfl ?_
 refine yN ?_
 refine Qd ?_
 refine Jp (.slice A32 E.length c32) fun z5 B5 c5 e5 hle5 _ hnil5 hz5 hr5 => ?_
 injection e5 with e5 _ e5'
 subst e5 e5'
 refine qL g3 (cs := (dgT 256 (mkT [x0] 0)).cells) (T := 45) fun z6 hz6 hr6 => ?_
 have hz56 := hz5.trans hz6
 have hT6 : RdZ z6 (some ⟨1, 0, none⟩) Jd := hT4.mono hz56
 have hE6 : ERZ z6 := hE.mono ((hz13.trans hz4).trans hz56)
 have sb : SlZ z6 ⟨A32, E.length, c32⟩ E := ⟨rfl, hle5, hnil5, hr5.mono hz6⟩
 have sr : SlZ z6 ⟨some ⟨g3, 0, none⟩, 32, 32⟩ (dgT 256 (mkT [x0] 0)).1 := Qrv hr6
 have hres := fun (A1 A2 : Option Addr) => hfm ⟨some ⟨g3, 0, none⟩, 32, 32⟩ rfl ⟨⟨A1, 32, 32⟩, ⟨A2, 1, 1⟩, true⟩ rfl (dgT 256 (mkT [x0] 0)).1 [7] (Qdw _)
 rw [hget, show JQ (some x0) = [7] from hxv] at hres
 replace hres := fun A1 A2 => (hres A1 A2).trans (if_pos (by simp))
 have hC := fun (z : Zh) (gk gv : Nat) (_ : RdZ z (some ⟨1, 0, none⟩) Jd) (_ : ERZ z) (h1 : SlZ z ⟨some ⟨g3, 0, none⟩, 32, 32⟩ (dgT 256 (mkT [x0] 0)).1) (h2 : SlZ z ⟨some ⟨gk, 0, none⟩, 32, 32⟩ (zk 32)) (h3 : SlZ z ⟨some ⟨gv, 0, none⟩, 1, 1⟩ [7]) (h4 : SlZ z ⟨A32, E.length, c32⟩ E) => Qgn 256 (by decide) z gh gc (k4 + 0) (by omega) ⟨some ⟨g3, 0, none⟩, 32, 32⟩ ⟨⟨some ⟨gk, 0, none⟩, 32, 32⟩, ⟨some ⟨gv, 0, none⟩, 1, 1⟩, true⟩ ⟨A32, E.length, c32⟩ (dgT 256 (mkT [x0] 0)).1 (zk 32) [7] E (hR := h1) (hK := h2) (hV := h3) (hB := h4) (by decide) (by omega)
 simp only [hres] at hC
 refine QaY (fun (u : {x : Zh // LeZ z6 x}) => [(0, .bool true)]) (fun (u : {x : Zh // LeZ z6 x}) => [.zone true u.1]) (fun kk => ?_) ?_
 ·refine Q1 [] [] QJ (same) ?_
  refine Qa 0 rfl (Qi rfl) ?_
  refine Qa 1 rfl (QG rfl rfl) ?_
  refine Qa 2 rfl (Qi rfl) ?_
  refine Qa 3 rfl (Qi rfl) ?_
  refine Qa 4 rfl (QF rfl) ?_
  refine Qa 5 rfl (Ql (QG rfl rfl) (decide_eq_true (by omega))) ?_
  refine Qa 6 rfl (Qy rfl rfl) ?_
  refine Qa 7 rfl (Qi rfl) ?_
  refine Qa 8 rfl (Qi rfl) ?_
  refine Qa 10 rfl (qr rfl) ?_
  refine Qa 14 rfl (Qi rfl) ?_
  refine Qlo 9 11 12 ?_ ?_ ?_
  ·refine QR 9 rfl ((Yj t0 gh q).comes) rfl rfl rfl (fun xx => same) fun _ => ?_
   refine V1 11 12 ?_ ?_
   ·refine JB 11 rfl (rk (VH rfl rfl)) (fun _ => same) fun g46 => ?_
    refine Qv 12 ?_
    refine JB 12 rfl (rk (qT (ys := [.int .u8 7]) (bc [7]) rfl rfl (YZ _))) (fun _ => same) fun g47 => ?_
    refine Qa 13 rfl (QD (out := Claim.cells ⟨⟨some ⟨g46, 0, none⟩, 32, 32⟩, ⟨some ⟨g47, 0, none⟩, 1, 1⟩, true⟩) rfl) ?_
    refine Qv 15 ?_
    refine QR 15 rfl ((JN.freezeO (.slice (some ⟨g46, 0, none⟩) 32 32) fun z7 B7 c7 e7 _ _ _ hz7 hr7 => JN.freezeO (.slice (some ⟨g47, 0, none⟩) 1 1) fun z8 B8 c8 e8 _ _ _ hz8 hr8 => by (injection e7 with e7 _ e7'; subst e7 e7'; injection e8 with e8 _ e8'; subst e8 e8'; exact JN.map (τ2 := {u : Zh // LeZ z6 u}) (v2 := fun _ => .int .i64 0) (L2 := fun u => [.zone true u.1]) (hC z8 g46 g47 (hT6.mono (hz7.trans hz8)) (hE6.mono (hz7.trans hz8)) (sr.mono (hz7.trans hz8)) (Yn (hr7.mono hz8) rfl (Nat.le_refl _)) (Yn hr8 rfl (Nat.le_refl _)) (sb.mono (hz7.trans hz8))).comes (fun (u : {u : Zh × Nat // LeZ z8 u.1 ∧ u.2 ≤ k4 + 0 + 259}) => (⟨u.1.1, (hz7.trans hz8).trans u.2.1⟩ : {u : Zh // LeZ z6 u})) (fun _ => rfl) (fun u => same)))) rfl rfl rfl (fun xx => same) fun (⟨z9, hz9⟩ : {u : Zh // LeZ z6 u}) => ?_
    refine Qa 16 rfl (QG rfl rfl) ?_
    refine Qa 17 rfl (Qy rfl rfl) ?_
    refine Qa 18 rfl (Q6 rfl) ?_
    exact QB (by kernel_rfl) (h_K (kk ⟨z9, hz9⟩) (⟨rfl, trivial⟩) same)
   refine JB 12 rfl (rk (qT (ys := [.int .u8 7]) (bc [7]) rfl rfl (YZ _))) (fun _ => same) fun g47 => ?_
   refine Qv 11 ?_
   refine JB 11 rfl (rk (VH rfl rfl)) (fun _ => same) fun g46 => ?_
   refine Qa 13 rfl (QD (out := Claim.cells ⟨⟨some ⟨g46, 0, none⟩, 32, 32⟩, ⟨some ⟨g47, 0, none⟩, 1, 1⟩, true⟩) rfl) ?_
   refine Qv 15 ?_
   refine QR 15 rfl ((JN.freezeO (.slice (some ⟨g46, 0, none⟩) 32 32) fun z7 B7 c7 e7 _ _ _ hz7 hr7 => JN.freezeO (.slice (some ⟨g47, 0, none⟩) 1 1) fun z8 B8 c8 e8 _ _ _ hz8 hr8 => by (injection e7 with e7 _ e7'; subst e7 e7'; injection e8 with e8 _ e8'; subst e8 e8'; exact JN.map (τ2 := {u : Zh // LeZ z6 u}) (v2 := fun _ => .int .i64 0) (L2 := fun u => [.zone true u.1]) (hC z8 g46 g47 (hT6.mono (hz7.trans hz8)) (hE6.mono (hz7.trans hz8)) (sr.mono (hz7.trans hz8)) (Yn (hr7.mono hz8) rfl (Nat.le_refl _)) (Yn hr8 rfl (Nat.le_refl _)) (sb.mono (hz7.trans hz8))).comes (fun (u : {u : Zh × Nat // LeZ z8 u.1 ∧ u.2 ≤ k4 + 0 + 259}) => (⟨u.1.1, (hz7.trans hz8).trans u.2.1⟩ : {u : Zh // LeZ z6 u})) (fun _ => rfl) (fun u => same)))) rfl rfl rfl (fun xx => same) fun (⟨z9, hz9⟩ : {u : Zh // LeZ z6 u}) => ?_
   refine Qa 16 rfl (QG rfl rfl) ?_
   refine Qa 17 rfl (Qy rfl rfl) ?_
   refine Qa 18 rfl (Q6 rfl) ?_
   exact QB (by kernel_rfl) (h_K (kk ⟨z9, hz9⟩) (⟨rfl, trivial⟩) same)
  ·refine JB 11 rfl (rk (VH rfl rfl)) (fun _ => same) fun g46 => ?_
   refine V1 9 12 ?_ ?_
   ·refine QR 9 rfl ((Yj t0 gh q).comes) rfl rfl rfl (fun xx => same) fun _ => ?_
    refine Qv 12 ?_
    refine JB 12 rfl (rk (qT (ys := [.int .u8 7]) (bc [7]) rfl rfl (YZ _))) (fun _ => same) fun g47 => ?_
    refine Qa 13 rfl (QD (out := Claim.cells ⟨⟨some ⟨g46, 0, none⟩, 32, 32⟩, ⟨some ⟨g47, 0, none⟩, 1, 1⟩, true⟩) rfl) ?_
    refine Qv 15 ?_
    refine QR 15 rfl ((JN.freezeO (.slice (some ⟨g46, 0, none⟩) 32 32) fun z7 B7 c7 e7 _ _ _ hz7 hr7 => JN.freezeO (.slice (some ⟨g47, 0, none⟩) 1 1) fun z8 B8 c8 e8 _ _ _ hz8 hr8 => by (injection e7 with e7 _ e7'; subst e7 e7'; injection e8 with e8 _ e8'; subst e8 e8'; exact JN.map (τ2 := {u : Zh // LeZ z6 u}) (v2 := fun _ => .int .i64 0) (L2 := fun u => [.zone true u.1]) (hC z8 g46 g47 (hT6.mono (hz7.trans hz8)) (hE6.mono (hz7.trans hz8)) (sr.mono (hz7.trans hz8)) (Yn (hr7.mono hz8) rfl (Nat.le_refl _)) (Yn hr8 rfl (Nat.le_refl _)) (sb.mono (hz7.trans hz8))).comes (fun (u : {u : Zh × Nat // LeZ z8 u.1 ∧ u.2 ≤ k4 + 0 + 259}) => (⟨u.1.1, (hz7.trans hz8).trans u.2.1⟩ : {u : Zh // LeZ z6 u})) (fun _ => rfl) (fun u => same)))) rfl rfl rfl (fun xx => same) fun (⟨z9, hz9⟩ : {u : Zh // LeZ z6 u}) => ?_
    refine Qa 16 rfl (QG rfl rfl) ?_
    refine Qa 17 rfl (Qy rfl rfl) ?_
    refine Qa 18 rfl (Q6 rfl) ?_
    exact QB (by kernel_rfl) (h_K (kk ⟨z9, hz9⟩) (⟨rfl, trivial⟩) same)
   refine JB 12 rfl (rk (qT (ys := [.int .u8 7]) (bc [7]) rfl rfl (YZ _))) (fun _ => same) fun g47 => ?_
   refine Qa 13 rfl (QD (out := Claim.cells ⟨⟨some ⟨g46, 0, none⟩, 32, 32⟩, ⟨some ⟨g47, 0, none⟩, 1, 1⟩, true⟩) rfl) ?_
   refine Qv 9 ?_
   refine QR 9 rfl ((Yj t0 gh q).comes) rfl rfl rfl (fun xx => same) fun _ => ?_
   refine Qv 15 ?_
   refine QR 15 rfl ((JN.freezeO (.slice (some ⟨g46, 0, none⟩) 32 32) fun z7 B7 c7 e7 _ _ _ hz7 hr7 => JN.freezeO (.slice (some ⟨g47, 0, none⟩) 1 1) fun z8 B8 c8 e8 _ _ _ hz8 hr8 => by (injection e7 with e7 _ e7'; subst e7 e7'; injection e8 with e8 _ e8'; subst e8 e8'; exact JN.map (τ2 := {u : Zh // LeZ z6 u}) (v2 := fun _ => .int .i64 0) (L2 := fun u => [.zone true u.1]) (hC z8 g46 g47 (hT6.mono (hz7.trans hz8)) (hE6.mono (hz7.trans hz8)) (sr.mono (hz7.trans hz8)) (Yn (hr7.mono hz8) rfl (Nat.le_refl _)) (Yn hr8 rfl (Nat.le_refl _)) (sb.mono (hz7.trans hz8))).comes (fun (u : {u : Zh × Nat // LeZ z8 u.1 ∧ u.2 ≤ k4 + 0 + 259}) => (⟨u.1.1, (hz7.trans hz8).trans u.2.1⟩ : {u : Zh // LeZ z6 u})) (fun _ => rfl) (fun u => same)))) rfl rfl rfl (fun xx => same) fun (⟨z9, hz9⟩ : {u : Zh // LeZ z6 u}) => ?_
   refine Qa 16 rfl (QG rfl rfl) ?_
   refine Qa 17 rfl (Qy rfl rfl) ?_
   refine Qa 18 rfl (Q6 rfl) ?_
   exact QB (by kernel_rfl) (h_K (kk ⟨z9, hz9⟩) (⟨rfl, trivial⟩) same)
  refine JB 12 rfl (rk (qT (ys := [.int .u8 7]) (bc [7]) rfl rfl (YZ _))) (fun _ => same) fun g47 => ?_
  refine V1 9 11 ?_ ?_
  ·refine QR 9 rfl ((Yj t0 gh q).comes) rfl rfl rfl (fun xx => same) fun _ => ?_
   refine Qv 11 ?_
   refine JB 11 rfl (rk (VH rfl rfl)) (fun _ => same) fun g46 => ?_
   refine Qa 13 rfl (QD (out := Claim.cells ⟨⟨some ⟨g46, 0, none⟩, 32, 32⟩, ⟨some ⟨g47, 0, none⟩, 1, 1⟩, true⟩) rfl) ?_
   refine Qv 15 ?_
   refine QR 15 rfl ((JN.freezeO (.slice (some ⟨g46, 0, none⟩) 32 32) fun z7 B7 c7 e7 _ _ _ hz7 hr7 => JN.freezeO (.slice (some ⟨g47, 0, none⟩) 1 1) fun z8 B8 c8 e8 _ _ _ hz8 hr8 => by (injection e7 with e7 _ e7'; subst e7 e7'; injection e8 with e8 _ e8'; subst e8 e8'; exact JN.map (τ2 := {u : Zh // LeZ z6 u}) (v2 := fun _ => .int .i64 0) (L2 := fun u => [.zone true u.1]) (hC z8 g46 g47 (hT6.mono (hz7.trans hz8)) (hE6.mono (hz7.trans hz8)) (sr.mono (hz7.trans hz8)) (Yn (hr7.mono hz8) rfl (Nat.le_refl _)) (Yn hr8 rfl (Nat.le_refl _)) (sb.mono (hz7.trans hz8))).comes (fun (u : {u : Zh × Nat // LeZ z8 u.1 ∧ u.2 ≤ k4 + 0 + 259}) => (⟨u.1.1, (hz7.trans hz8).trans u.2.1⟩ : {u : Zh // LeZ z6 u})) (fun _ => rfl) (fun u => same)))) rfl rfl rfl (fun xx => same) fun (⟨z9, hz9⟩ : {u : Zh // LeZ z6 u}) => ?_
   refine Qa 16 rfl (QG rfl rfl) ?_
   refine Qa 17 rfl (Qy rfl rfl) ?_
   refine Qa 18 rfl (Q6 rfl) ?_
   exact QB (by kernel_rfl) (h_K (kk ⟨z9, hz9⟩) (⟨rfl, trivial⟩) same)
  refine JB 11 rfl (rk (VH rfl rfl)) (fun _ => same) fun g46 => ?_
  refine Qa 13 rfl (QD (out := Claim.cells ⟨⟨some ⟨g46, 0, none⟩, 32, 32⟩, ⟨some ⟨g47, 0, none⟩, 1, 1⟩, true⟩) rfl) ?_
  refine Qv 9 ?_
  refine QR 9 rfl ((Yj t0 gh q).comes) rfl rfl rfl (fun xx => same) fun _ => ?_
  refine Qv 15 ?_
  refine QR 15 rfl ((JN.freezeO (.slice (some ⟨g46, 0, none⟩) 32 32) fun z7 B7 c7 e7 _ _ _ hz7 hr7 => JN.freezeO (.slice (some ⟨g47, 0, none⟩) 1 1) fun z8 B8 c8 e8 _ _ _ hz8 hr8 => by (injection e7 with e7 _ e7'; subst e7 e7'; injection e8 with e8 _ e8'; subst e8 e8'; exact JN.map (τ2 := {u : Zh // LeZ z6 u}) (v2 := fun _ => .int .i64 0) (L2 := fun u => [.zone true u.1]) (hC z8 g46 g47 (hT6.mono (hz7.trans hz8)) (hE6.mono (hz7.trans hz8)) (sr.mono (hz7.trans hz8)) (Yn (hr7.mono hz8) rfl (Nat.le_refl _)) (Yn hr8 rfl (Nat.le_refl _)) (sb.mono (hz7.trans hz8))).comes (fun (u : {u : Zh × Nat // LeZ z8 u.1 ∧ u.2 ≤ k4 + 0 + 259}) => (⟨u.1.1, (hz7.trans hz8).trans u.2.1⟩ : {u : Zh // LeZ z6 u})) (fun _ => rfl) (fun u => same)))) rfl rfl rfl (fun xx => same) fun (⟨z9, hz9⟩ : {u : Zh // LeZ z6 u}) => ?_
  refine Qa 16 rfl (QG rfl rfl) ?_
  refine Qa 17 rfl (Qy rfl rfl) ?_
  refine Qa 18 rfl (Q6 rfl) ?_
  exact QB (by kernel_rfl) (h_K (kk ⟨z9, hz9⟩) (⟨rfl, trivial⟩) same)
 rintro ⟨z9, hz9⟩
 refine Qc ?_
 refine Qs ?_
 exact Qu rfl rfl fun w s => ⟨⟨z9, ((hz13.trans hz4).trans hz56).trans hz9⟩, rfl, (same (L' := [.zone true z9]) w s).res (List.Sublist.refl _) (by simp [Fa.wr])⟩
end
section
open Go.RowKit
section
variable (n : Nat) (hn : n ≤ 256) (gh gc t0 : Nat) (h : Zh) [hT : RdZ h (some ⟨1, 0, none⟩) Jd] [hE : ERZ h]
include hn hT
theorem Qp4 {l : List OpV} (hz : QdQ h l) (hf : VN l = true) {m0 : List En} (ho : YI m0) (hml : m0.length ≤ 250) (hv0 : Yr h m0) {j : Nat} (hj : j < l.length) {z : Zh} {q : Option Addr} {k : Nat} {B : Option Addr} {cB K : Nat} (hR : RunZ n h (Vh l m0 j) K (z, q, k, B, cB)) (hK : K ≤ 80000000) :
  QC Tryz.prog 35 [.pointer (some ⟨t0, 0, none⟩), .slice B (Vh l m0 j).length cB, .agg (l.getD j zOp).cells.toArray].toArray [HR gh gc n] [.zone true z, CN gc k, JR t0 gh q] (fun u : DoX n z (Vh l m0 (j + 1)) k => .tuple #[.slice u.1.2.2.2.1 (Vh l m0 (j + 1)).length u.1.2.2.2.2, .bool false]) (fun u => [.zone true u.1.1, CN gc u.1.2.2.1, JR t0 gh u.1.2.1]) := by
 have hx := Jz zOp hj
 have hln := QcE (m := m0) hf j (by omega)
 have hll := (QbG hf).1
 have hcnt : k ≤ K := hR.cnt
 have hcap : (Vh l m0 j).length ≤ cB := hR.cap
 have hD := @Qr2 n hn gh gc t0 k (by omega) z (hT.mono hR.le) (hE.mono hR.le) (Vh l m0 j) (QcF ho j (by omega)) (by omega) ((Qbd hv0 hz hf j (by omega)).mono hR.le) q hR.tr B cB hR.rd hcap _ ((hz _ (List.mem_of_getElem? hx)).mono hR.le) (Qed hf hj)
 unfold QbR at hD
 rw [← Z9 hj] at hD
 exact hD
end
theorem RunZ.zero {n : Nat} {h : Zh} {m : List En} {K : Nat} {x : Zh × Option Addr × Nat × Option Addr × Nat} (l : List OpV) (r : RunZ n h m K x) : RunZ n h (Vh l m 0) (K + 0 * 600001) x := by rw [Nat.zero_mul]; exact r
end
section
open Go.RowKit
section
variable (h : Zh) [hT : RdZ h (some ⟨1, 0, none⟩) Jd] [hE : ERZ h] (i : Int) (l : List OpV) (A : Option Addr) (c : Nat) [hA : RdZ h A (Qjx l)] (hz : QdQ h l)
include hA hz
omit hT hE in
theorem Qlh (hno : ¬ ((0 ≤ i ∧ i ≤ 256) ∧ VN l = true)) : QC Tryz.prog 12 [.int .i64 i, .slice A l.length c].toArray [.zone false h] [] (fun _ : Unit => .tuple #[.pointer none, .slice none 0 0, .bool false]) (fun _ => []) := by
 have hF := Qfs h l A c hz
 by_cases hi : 0 ≤ i ∧ i ≤ 256
 ·obtain ⟨n, rfl⟩ : ∃ n : Nat, i = (n : Int) := ⟨i.toNat, by omega⟩
  have hn : n ≤ 256 := by omega
  have hf : VN l = false := by cases h9 : VN l <;> simp_all
  rw [hf, if_neg (by decide)] at hF
  refine Qk Tryz.func12 rfl (n := 52) rfl rfl ?_
  intro W
  refine yR ?_
  refine yS rfl ?_
  refine yS rfl ?_
  refine yS rfl ?_
  refine yN ?_
  refine Qd ?_
  refine yR ?_
  refine yM rfl ?_
  refine Qh ((Qda n hn).comes) rfl rfl rfl fun _ => ?_
  refine Qb (Ji rfl) ?_
  refine yM rfl ?_
  refine yM rfl ?_
  refine Qh (hF.comes) rfl rfl rfl fun _ => ?_
  refine Qb (Ql (QG rfl rfl) (show _ = true from rfl)) ?_
  refine Qb (Qy rfl rfl) ?_
  refine yN ?_
  refine Qz rfl ?_
  refine yR ?_
  refine yS rfl ?_
  refine yS rfl ?_
  refine yS rfl ?_
  refine yN ?_
  refine Qs ?_
  refine Qr ?_
  exact qM rfl rfl rfl rfl fun w s => ⟨(), rfl, s.res (List.nil_sublist _) (by simp)⟩
 refine Qk Tryz.func12 rfl (n := 52) rfl rfl ?_
 intro W
 refine yR ?_
 refine yS rfl ?_
 refine yS rfl ?_
 refine yS rfl ?_
 refine yN ?_
 refine Qd ?_
 refine yR ?_
 refine yM rfl ?_
 refine Qh ((Qkm i hi).comes) rfl rfl rfl fun _ => ?_
 refine Qb (Ji rfl) ?_
 refine yM rfl ?_
 refine Qg ?_
 refine Qg ?_
 refine Qg ?_
 refine Qb (Qy rfl rfl) ?_
 refine yN ?_
 refine Qz rfl ?_
 refine yR ?_
 refine yS rfl ?_
 refine yS rfl ?_
 refine yS rfl ?_
 refine yN ?_
 refine Qs ?_
 refine Qr ?_
 exact qM rfl rfl rfl rfl fun w s => ⟨(), rfl, s.res (List.nil_sublist _) (by simp)⟩
include hT hE
set_option maxRecDepth 100000 in
theorem Qlj (n : Nat) (hn : n ≤ 256) (hf : VN l = true) : QC Tryz.prog 12 [.int .i64 (n : Int), .slice A l.length c].toArray [] [.zone true h] (fun u : {u : (Nat × Nat × Nat) × Zh × Option Addr × Nat × Option Addr × Nat // RunZ n h (doL l []) 8000000 u.2} => .tuple #[.pointer (some ⟨u.1.1.1, 0, none⟩), .slice u.1.2.2.2.2.1 (doL l []).length u.1.2.2.2.2.2, .bool true]) (fun u => [.zone true u.1.2.1, CN u.1.1.2.2 u.1.2.2.2.1, JR u.1.1.1 u.1.1.2.1 u.1.2.2.1, HB u.1.1.2.1 u.1.1.2.2 n]) := by
 have hF := Qfs h l A c hz
 rw [hf, if_pos rfl] at hF
 have hll := (QbG hf).1
 refine Qk Tryz.func12 rfl (n := 52) rfl rfl ?_
 intro W
 refine yR ?_
 refine yS rfl ?_
 refine yS rfl ?_
 refine yS rfl ?_
 refine yN ?_
 refine Qd ?_
 refine yR ?_
 refine yM rfl ?_
 refine Qh ((Qda n hn).comes) rfl rfl rfl fun _ => ?_
 refine Qb (Ji rfl) ?_
 refine yM rfl ?_
 refine yM rfl ?_
 refine Qh (hF.comes) rfl rfl rfl fun _ => ?_
 refine Qb (Ql (QG rfl rfl) (show _ = false from rfl)) ?_
 refine Qb (Qy rfl rfl) ?_
 refine yN ?_
 refine Qt rfl ?_
 refine Qn ?_
 refine Qc ?_
 refine yR ?_
 refine yM rfl ?_
 refine Qh ((Qkq n hn).comes) rfl rfl rfl fun ⟨t0, gh, gc⟩ => ?_
 dsimp only
 refine yM rfl ?_
 refine Qb (Qj rfl rfl) ?_
 refine Qb (Qj rfl rfl) ?_
 refine yS rfl ?_
 refine yS rfl ?_
 refine yN ?_
 refine Qd ?_
 refine yR ?_
 refine yM rfl ?_
 refine Qb (J2 rfl rfl) ?_
 refine yM rfl ?_
 refine yM rfl ?_
 refine Qb (QL rfl rfl) ?_
 refine Qb (Qy rfl rfl) ?_
 refine yM rfl ?_
 refine yM rfl ?_
 refine Qh ((Yj t0 gh none).comes) rfl rfl rfl fun _ => ?_
 refine Qb (J2 rfl rfl) ?_
 refine Qb (Qy rfl rfl) ?_
 refine yN ?_
 refine Qt rfl ?_
 refine Qn ?_
 refine Qc ?_
 refine yR ?_
 refine yS rfl ?_
 refine yN ?_
 refine Qd ?_
 refine yR ?_
 refine yM rfl ?_
 refine Qb (QF rfl) ?_
 refine yM rfl ?_
 refine yN ?_
 refine Qq ?_
 refine QS (fun (s : Nat × Zh × Option Addr × Nat × Option Addr × Nat) => s.1 ≤ l.length ∧ RunZ n h (Vh l [] s.1) (s.1 * 600001) s.2) (fun (s : Nat × Zh × Option Addr × Nat × Option Addr × Nat) => [(38, .int .i64 (s.1 : Int)), (37, .int .i64 (l.length : Int)), (36, .slice A l.length c), (7, .pointer (some ⟨t0, 0, none⟩)), (9, .slice s.2.2.2.2.1 (Vh l [] s.1).length s.2.2.2.2.2)]) (fun (s : Nat × Zh × Option Addr × Nat × Option Addr × Nat) => [.zone true s.2.1, CN gc s.2.2.2.1, JR t0 gh s.2.2.1, HB gh gc n]) (fun (s : Nat × Zh × Option Addr × Nat × Option Addr × Nat) => l.length - s.1) (0, h, none, 0, none, 0) (⟨Nat.zero_le _, RunZ.start0⟩) ⟨rfl, rfl, rfl, rfl, rfl, trivial⟩ (same (L' := [.zone true h, CN gc 0, JR t0 gh none, HB gh gc n])) ?_
 rintro ⟨j, z, q, k, B, cB⟩ ⟨hj, hR⟩
 dsimp only at hj hR ⊢
 refine yR ?_
 refine Qb (QT rfl rfl) ?_
 refine yN ?_
 refine Qd ?_
 refine QU rfl (fun hlt => ?_) (fun hlt => ?_)
 ·have hj2 : j < l.length := by omega
  have hx := Jz zOp hj2
  have hrz : RdZ z A (Qjx l) := hA.mono hR.le
  obtain ⟨b, o, rfl, -⟩ := hrz.at_ (j * 4) _ (Qem hx 0 _ rfl)
  have hD := Qp4 n hn gh gc t0 h hz hf YI.nil (by decide) (fun e he => by cases he) hj2 hR (by omega)
  generalize l.getD j zOp = x at *
  generalize hm' : Vh l [] (j + 1) = m' at *
  generalize Vh l [] j = m at *
  refine Qn ?_
  refine Qc ?_
  refine Qd ?_
  refine Qq ?_
  refine yR ?_
  refine Qb (QQ rfl rfl) ?_
  refine Qb (Jm rfl (out := x.cells) (OpV.cells_length _) (Qem hx)) ?_
  refine Qo (Q0) fun g11 => ?_
  refine Q7 (Qw rfl rfl) ?_
  refine yN ?_
  refine Q5 ?_
  refine yM rfl ?_
  refine yM rfl ?_
  refine Qb (Qm rfl) ?_
  refine Qh (hD.comes) rfl rfl rfl fun u => ?_
  have hR1 := hR.step u
  obtain ⟨⟨z1, q1, k1, B1, c1⟩, u1, u2, u3, u4, u5⟩ := u
  dsimp only at u1 u2 u3 u4 u5 hR1 ⊢
  refine yM rfl ?_
  refine Qb (Qj rfl rfl) ?_
  refine Qb (Qj rfl rfl) ?_
  refine yS rfl ?_
  refine QE ?_
  refine Q2 ?_
  refine Qc ?_
  refine Q5 ?_
  refine Qb (QI rfl rfl) ?_
  refine yM rfl ?_
  refine QE ?_
  subst hm'
  exact QH (j + 1, z1, q1, k1, B1, c1) (⟨hj2, hR1.more (by omega)⟩) ((show l.length - (j + 1) < l.length - j by omega)) ⟨rfl, rfl, rfl, rfl, rfl, trivial⟩ (same)
 obtain rfl : j = l.length := by omega
 rw [Qgb] at hR ⊢
 refine QK ?_
 refine Qx ?_
 refine Qx ?_
 refine Q8 ?_
 refine Qc ?_
 refine yR ?_
 refine yM rfl ?_
 refine yM rfl ?_
 refine yS rfl ?_
 refine yS rfl ?_
 refine yS rfl ?_
 refine yN ?_
 refine Qs ?_
 exact qM rfl rfl rfl rfl fun w s => ⟨⟨((t0, gh, gc), z, q, k, B, cB), hR.more (by omega)⟩, rfl, (same (L' := [.zone true z, CN gc k, JR t0 gh q, HB gh gc n]) w s).res (List.Sublist.refl _) (by simp [Fa.wr])⟩
end
end
section
open Go.RowKit
def qk : List (List UInt8) → List (List UInt8) → Nat
 | x :: xs, y :: ys => if x = y then qk xs ys + 1 else 0
 | _, _ => 0
theorem QhF : ∀ xs ys, qk xs ys ≤ min xs.length ys.length
 | [], ys => by simp [qk]
 | x :: xs, [] => by simp [qk]
 | x :: xs, y :: ys => by
  have ih := QhF xs ys
  unfold qk
  split
  ·simp only [List.length_cons]; omega
  omega
theorem QhE : ∀ xs ys k, k < qk xs ys → xs.getD k [] = ys.getD k []
 | [], ys, k, h => by simp [qk] at h
 | x :: xs, [], k, h => by simp [qk] at h
 | x :: xs, y :: ys, k, h => by
  unfold qk at h
  split at h
  ·rename_i e
   cases k with
   | zero => simpa using e
   | succ k => simpa using QhE xs ys k (by omega)
  omega
theorem QhG : ∀ xs ys, qk xs ys < min xs.length ys.length → xs.getD (qk xs ys) [] ≠ ys.getD (qk xs ys) []
 | [], ys, h => by simp at h
 | x :: xs, [], h => by simp at h
 | x :: xs, y :: ys, h => by
  unfold qk at h ⊢
  split at h
  ·rename_i e
   rw [if_pos e]
   have := QhG xs ys (by simp only [List.length_cons] at h; omega)
   simpa using this
  rename_i e
  rw [if_neg e]
  simpa using e
def VZ (ws ls : List (List UInt8)) (a b : List UInt8) : List UInt8 × List UInt8 := if qk ws ls < min ws.length ls.length then (ws.getD (qk ws ls) [], ls.getD (qk ws ls) []) else (a, b)
end
section
open Go.RowKit
structure PZ (h : Zh) (X : Option Addr) (c : Nat) (x : List UInt8) : Prop where
 nil : X = none → x.length = 0 ∧ c = 0
 rd : RdZ h X (bc x)
theorem PZ.mono {h h' : Zh} (hl : LeZ h h') {X : Option Addr} {c : Nat} {x : List UInt8} (p : PZ h X c x) : PZ h' X c x := ⟨p.nil, p.rd.mono hl⟩
theorem qx.get {h : Zh} {xs : List Seg} {ls : List (List UInt8)} (s : qx h xs ls) {k : Nat} (hk : k < xs.length) : (∃ g, (xs.getD k ZG).1 = some ⟨g, 0, none⟩) ∧ RdZ h (xs.getD k ZG).1 (bc (xs.getD k ZG).2.2) ∧ (xs.getD k ZG).2.2 = ls.getD k [] := by
 have hx : xs[k]? = some (xs.getD k ZG) := by rw [List.getD_eq_getElem?_getD, List.getElem?_eq_getElem hk]; rfl
 obtain ⟨h1, h2⟩ := s.2 _ (List.mem_of_getElem? hx)
 refine ⟨h1, h2, ?_⟩
 have h3 : (xs.map fun x : Seg => x.2.2)[k]? = ls[k]? := by rw [s.1]
 rw [List.getElem?_map, hx, Option.map_some] at h3
 rw [List.getD_eq_getElem?_getD (l := ls), ← h3]
 rfl
theorem qx.mono {h h' : Zh} (hl : LeZ h h') {xs : List Seg} {ls : List (List UInt8)} (s : qx h xs ls) : qx h' xs ls := ⟨s.1, fun x hx => ⟨(s.2 x hx).1, (s.2 x hx).2.mono hl⟩⟩
section
variable (n : Nat) (hn : n ≤ 256) (h : Zh) [hT : RdZ h (some ⟨1, 0, none⟩) Jd] (gh gc k : Nat) (hk : k ≤ 10000000000) (m : List En) (p : Option Addr) [ht : TrZ n h (mkT m 0) p] (c : Claim) (kb vb : List UInt8) [hK : SlZ h c.key kb] [hV : SlZ h c.value vb] (hk32 : kb.length = 32) (hvb : vb.length ≤ 100000000) (hvl : ∀ e ∈ m, e.val.length ≤ 100000000) (D : Nat) (w : WayM (keyOf kb) m D) (ys : List Seg) (ls : List (List UInt8)) (Y : Option Addr) (cy : Nat) [hY : RdZ h Y (svs ys)] (hys : qx h ys ls) (hyl : ys.length ≤ 1000000)
include hn hk hk32 hvb hvl w hys hyl
theorem Qhq (x y : List UInt8) (hF : VZ (JV n (keyOf kb) (mkT m 0) (D + 1)) ls (JK (JQ (Ja m (keyOf kb)))) (JK vb) = (x, y)) : QC Tryz.prog 68 [.pointer (some ⟨gh, 0, none⟩), .pointer p, .agg c.cells.toArray, .slice Y ys.length cy].toArray [HR gh gc n] [.zone true h, CN gc k] (fun u : {u : Zh × (Option Addr × Nat) × (Option Addr × Nat) × Nat // LeZ h u.1 ∧ PZ u.1 u.2.1.1 u.2.1.2 x ∧ PZ u.1 u.2.2.1.1 u.2.2.1.2 y ∧ u.2.2.2 ≤ k + 1000} => .tuple #[.slice u.1.2.1.1 x.length u.1.2.1.2, .slice u.1.2.2.1.1 y.length u.1.2.2.1.2, .bool true]) (fun u => [.zone true u.1.1, CN gc u.1.2.2.2]) := by
 have hkn := hK.len
 have hvn := hV.len
 have hVr : RdZ h c.value.A (bc vb) := hV.rd
 have hVnil := hV.nil
 have hKr : RdZ h c.key.A (keyOf kb).cells := by rw [Yu hk32]; exact hK.rd
 have hD := w.way.le
 have hWy := QqE n hn h gh gc k hk (mkT m 0) p (keyOf kb) D w.way
 have hgl : ∀ g, Ja m (keyOf kb) = g → (JQ g).length ≤ 100000000 := fun g hg => by
  cases g with
  | none => exact Nat.zero_le _
  | some e => exact hvl e (List.mem_of_find?_eq_some hg)
 have hgl := hgl _ rfl
 obtain ⟨⟨kA, kn, kc⟩, ⟨vA, vn, vc⟩, pr⟩ := c
 dsimp only at hkn hvn hKr hVr hVnil ⊢
 subst hkn hvn
 obtain ⟨bK, oK, rfl, -⟩ := hKr.at_ 0 _ (List.getElem?_eq_getElem (by rw [B32.cells_length]; decide))
 have hyle := hys.len
 refine Qk Tryz.func68 rfl (n := 45) rfl rfl ?_
 intro W
 refine yR ?_
 refine Qo (Q9 rfl) fun g6 => ?_
 refine Qo (Q0) fun g8 => ?_
 refine Qo (Q0) fun g9 => ?_
 refine Qo (Q0) fun g10 => ?_
 refine yN ?_
 refine yR ?_
 refine Qb (Qe rfl) ?_
 refine Qb (Qf rfl) ?_
 refine Qb (VJ rfl (hm := show 32 ≤ kb.length by omega)) ?_
 refine Qb (Qm rfl) ?_
 refine Qo (Q0) fun g11 => ?_
 refine Q7 (Qw rfl rfl) ?_
 refine yN ?_
 refine Qd ?_
 refine yR ?_
 refine yM rfl ?_
 refine yM rfl ?_
 refine Qb (Qm rfl) ?_
 refine Qh (hWy.comes) rfl rfl rfl fun ⟨⟨z1, X, cx, xs, k1⟩, hz1, hsx, hk1⟩ => ?_
 dsimp only at hz1 hsx hk1 ⊢
 have hxl := hsx.len
 rw [QcN] at hxl
 rw [← hxl]
 refine Jp (.slice X xs.length cx) fun z2 B2 c2 e2 hle2 hlen2 hnil2 hz2 hrX => ?_
 injection e2 with e2 _ e3
 subst e2 e3
 have hz12 := hz1.trans hz2
 have hsx2 := hsx.mono hz2
 have hsy2 := hys.mono hz12
 have hY2 : RdZ z2 Y (svs ys) := hY.mono hz12
 have hVr2 : RdZ z2 vA (bc vb) := hVr.mono hz12
 have ht2 : TrZ n z2 (mkT m 0) p := ⟨ht.ok.mono hz12⟩
 have hwl : (JV n (keyOf kb) (mkT m 0) (D + 1)).length = xs.length := by rw [QcN, hxl]
 generalize JV n (keyOf kb) (mkT m 0) (D + 1) = ws at *
 obtain ⟨d, hd⟩ : ∃ d, qk ws ls = d := ⟨_, rfl⟩
 have hdle := QhF ws ls
 have hdeq := QhE ws ls
 have hdne := QhG ws ls
 unfold VZ at hF
 rw [hd, hwl, ← hyle] at hdle hdne hF
 rw [hd] at hdeq
 refine yM rfl ?_
 refine Qh ((Qoc X Y xs.length ys.length cx cy).comes) rfl rfl rfl fun ⟨g1, g2⟩ => ?_
 dsimp only
 refine yN ?_
 refine Qq ?_
 refine Qll (QlA xs ys X Y cx cy g1 g2 d (by omega) hyl hdle) hdle rfl (fun k mm => mm = if k ≤ d then [.blk g8 [.slice none 0 0] 35, .blk g9 [.slice none 0 0] 35, .blk g10 [.bool false] 4] else [.blk g8 [sv (xs.getD d ZG)] 35, .blk g9 [sv (ys.getD d ZG)] 35, .blk g10 [.bool true] 4]) [.blk g8 [.slice none 0 0] 35, .blk g9 [.slice none 0 0] 35, .blk g10 [.bool false] 4] [.zone false z2] (by rintro k mm rfl f hf; split at hf <;> (simp only [List.mem_cons, List.not_mem_nil, or_false] at hf; rcases hf with rfl | rfl | rfl <;> rfl)) (if_pos (Nat.zero_le _)).symm rfl (fun _ => rfl) ?_ ?_ ?_ ?_
 ·intro ll rr i mm W1 hr hrp hiN hid hJ
  rw [if_pos (by omega)] at hJ
  subst hJ
  obtain ⟨⟨ga, ha⟩, hxr, hxb⟩ := hsx2.get (k := i) (by omega)
  obtain ⟨⟨gb, hb⟩, hyr, hyb⟩ := hsy2.get (k := i) (by omega)
  have heq := hdeq i hid
  rw [← hxb, ← hyb] at heq
  generalize xs.getD i ZG = sx at *
  generalize ys.getD i ZG = sy at *
  have hB := Qca sx.2.2 sy.2.2 sx.1 sy.1 sx.2.1 sy.2.1
  rw [decide_eq_true heq] at hB
  simp only [List.nil_append, List.cons_append]
  refine yR ?_
  refine yS rfl ?_
  refine yN ?_
  refine Q5 ?_
  refine yS rfl ?_
  refine yN ?_
  refine YN hr ?_
  refine Qq ?_
  refine yR ?_
  refine yM rfl ?_
  refine yM rfl ?_
  refine Qh (hB.comes) rfl rfl rfl fun _ => ?_
  refine Qb (Ji rfl) ?_
  refine yN ?_
  refine Qt rfl ?_
  refine Qn ?_
  refine Q2 ?_
  exact JH [.blk g8 [.slice none 0 0] 35, .blk g9 [.slice none 0 0] 35, .blk g10 [.bool false] 4] hr hrp (by rw [if_pos (by omega)]) (by intro f hf; simp only [List.mem_cons, List.not_mem_nil, or_false] at hf; rcases hf with rfl | rfl | rfl <;> rfl)
 ·intro ll rr mm W1 hr hrp hdN hJ
  rw [if_pos (Nat.le_refl _)] at hJ
  subst hJ
  obtain ⟨⟨ga, ha⟩, hxr, hxb⟩ := hsx2.get (k := d) (by omega)
  obtain ⟨⟨gb, hb⟩, hyr, hyb⟩ := hsy2.get (k := d) (by omega)
  have hne := hdne hdN
  rw [← hxb, ← hyb] at hne
  rw [if_neg (by omega)]
  generalize xs.getD d ZG = sx at *
  generalize ys.getD d ZG = sy at *
  have hB := Qca sx.2.2 sy.2.2 sx.1 sy.1 sx.2.1 sy.2.1
  rw [decide_eq_false hne] at hB
  simp only [List.nil_append, List.cons_append]
  refine yR ?_
  refine yS rfl ?_
  refine yN ?_
  refine Q5 ?_
  refine yS rfl ?_
  refine yN ?_
  refine YN hr ?_
  refine Qq ?_
  refine yR ?_
  refine yM rfl ?_
  refine yM rfl ?_
  refine Qh (hB.comes) rfl rfl rfl fun _ => ?_
  refine Qb (Ji rfl) ?_
  refine yN ?_
  refine Qz rfl ?_
  refine yR ?_
  refine yM rfl ?_
  refine yM rfl ?_
  refine Q7 (QV rfl rfl rfl) ?_
  refine Q7 (QV rfl rfl rfl) ?_
  refine Q7 (QV rfl rfl rfl) ?_
  refine yN ?_
  refine Qs ?_
  refine Q3 ?_
  exact Qf5 [.blk g8 [sv sx] 35, .blk g9 [sv sy] 35, .blk g10 [.bool true] 4] rfl (by intro f hf; simp only [List.mem_cons, List.not_mem_nil, or_false] at hf; rcases hf with rfl | rfl | rfl <;> rfl)
 ·intro bb mm hdN hJ
  rw [if_pos (by omega)] at hJ
  subst hJ
  rw [if_neg (by omega)] at hF
  injection hF with hF1 hF2
  subst hF1 hF2
  have hG := Qgx n z2 m p (keyOf kb) D w (fun e he => by have := hvl e he; omega)
  generalize Ja m (keyOf kb) = g at *
  refine Q2 ?_
  refine Qc ?_
  simp only [List.nil_append, List.cons_append]
  refine yR ?_
  refine yM rfl ?_
  refine Qb (Qm rfl) ?_
  refine Qh (hG.comes) rfl rfl rfl fun ⟨A37, c37⟩ => ?_
  dsimp only
  refine Jp (.slice A37 (JQ g).length c37) fun z3 B3 c3 e3 hle3 hlen3 hnil3 hz3 hr3 => ?_
  injection e3 with e3 _ e3'
  subst e3 e3'
  have hVr3 : RdZ z3 vA (bc vb) := hVr2.mono hz3
  refine yM rfl ?_
  refine Qb (Qj rfl rfl) ?_
  refine Qb (Qj rfl rfl) ?_
  refine yS rfl ?_
  refine yS rfl ?_
  refine yN ?_
  refine Qd ?_
  refine Q1 [.blk g6 (Claim.cells ⟨⟨some ⟨bK, oK, none⟩, kb.length, kc⟩, ⟨vA, vb.length, vc⟩, pr⟩) 50] [] QJ (same) ?_
  refine Qa 0 rfl (Qi rfl) ?_
  refine Qa 2 rfl (Qe rfl) ?_
  refine Qp 3 rfl (Qf rfl) ?_
  refine Qv 1 ?_
  refine QR 1 rfl ((Qa7 (JQ g) A37 c37 hnil3 hgl).comes) rfl rfl rfl (fun xx => same) fun ⟨g41, c41⟩ => ?_
  refine Qv 4 ?_
  refine QR 4 rfl ((Qa7 vb vA vc (fun e => by have := hVnil e; omega) hvb).comes) rfl rfl rfl (fun xx => same) fun ⟨g44, c44⟩ => ?_
  refine Qv 5 ?_
  refine Qay 5 rfl (QV rfl rfl rfl) (same) ?_
  refine Qv 6 ?_
  refine Qay 6 rfl (QV rfl rfl rfl) (same) ?_
  refine Qv 7 ?_
  refine J4 7 rfl (QV rfl rfl rfl) ?_
  refine Qc ?_
  dsimp only
  refine Jp (.slice (some ⟨g41, 0, none⟩) (JK (JQ g)).length c41) fun z4 B4 c4 e4 hle4 hlen4 hnil4 hz4 hr4 => ?_
  injection e4 with e4 _ e4'
  subst e4 e4'
  refine Jp (.slice (some ⟨g44, 0, none⟩) (JK vb).length c44) fun z5 B5 c5 e5 hle5 hlen5 hnil5 hz5 hr5 => ?_
  injection e5 with e5 _ e5'
  subst e5 e5'
  refine Qs ?_
  refine Vf ?_
  exact qM rfl (J5 rfl) (J5 rfl) (J5 rfl) fun w s => ⟨⟨(z5, (some ⟨g41, 0, none⟩, c41), (some ⟨g44, 0, none⟩, c44), k1), (hz12.trans hz3).trans (hz4.trans hz5), ⟨(fun h => by cases h), hr4.mono hz5⟩, ⟨(fun h => by cases h), hr5⟩, hk1⟩, rfl, (same (L' := [.zone true z5, CN gc k1]) w s).res (List.Sublist.refl _) (by simp [Fa.wr])⟩
 intro bb mm hdN hJ
 rw [if_neg (by omega)] at hJ
 subst hJ
 rw [if_pos hdN] at hF
 obtain ⟨⟨ga, ha⟩, hxr, hxb⟩ := hsx2.get (k := d) (by omega)
 obtain ⟨⟨gb, hb⟩, hyr, hyb⟩ := hsy2.get (k := d) (by omega)
 rw [← hxb, ← hyb] at hF
 generalize xs.getD d ZG = sx at *
 generalize ys.getD d ZG = sy at *
 injection hF with hF1 hF2
 subst hF1 hF2
 refine Q3 ?_
 refine Qr ?_
 simp only [List.nil_append, List.cons_append]
 refine Vf ?_
 exact qM rfl (J5 rfl) (J5 rfl) (J5 rfl) fun w s => ⟨⟨(z2, (sx.1, sx.2.1), (sy.1, sy.2.1), k1), hz12, ⟨(fun h => by rw [ha] at h; cases h), hxr⟩, ⟨(fun h => by rw [hb] at h; cases h), hyr⟩, hk1⟩, rfl, (same (L' := [.zone true z2, CN gc k1]) w s).res (List.Sublist.refl _) (by simp [Fa.wr])⟩
end
end
section
open Go.RowKit
end
section
open Go.RowKit
end
section
open Go.RowKit
end
section
open Go.RowKit
end
section
open Go.RowKit
end
section
open Go.RowKit
end
section
open Go.RowKit
theorem RdZ.cutA {h : Zh} {A : Option Addr} {l m : List UInt8} {c k : Nat} (hr : RdZ h A (bc (l ++ m))) (hk : l.length = k) (hk0 : 0 < k) (hc : k + m.length ≤ c) : RdZ h (cutA A c k 1) (bc m) := by
 unfold Go.Proofs.YtjhlbbgikccclaaGreatDoor.cutA
 split
 ·have : m = [] := List.eq_nil_of_length_eq_zero (by omega)
  rw [this]
  exact RdZ.nil _ _
 refine ⟨fun j v hv => ?_⟩
 have h1 := hr.at_ (k + j) v (by rw [Zu, List.getElem?_append_right (by rw [Jt]; omega), Jt, hk, Nat.add_sub_cancel_left]; exact hv)
 obtain ⟨b, o, rfl, h2⟩ := h1
 exact ⟨b, o + k, by simp [Addr.add_mid], by rw [Nat.add_assoc]; exact h2⟩
end
section
open Go.RowKit
end
section
open Go.RowKit
end
section
open Go.RowKit
end
section
open Go.RowKit
end
section
open Go.RowKit
end
section
open Go.RowKit
theorem QC.weakE {P : Program} {f : FuncId} {args : Array Value} {R A' A2 R2 L2 M : List Fa} {τ τ2 : Type} {v : τ → Value} {N L3 : τ → List Fa} {v2 : τ2 → Value} {N2 : τ2 → List Fa} (hs : QC P f args R A' v N) [ha : App A2 R2 L2] [ht : Take A' L2 M] [hr : Rds M R] [hN' : ∀ x, App (N x) M (L3 x)] (hN : ∀ x W w, Sx A2 W w (L3 x) → ∃ y, v x = v2 y ∧ Rx A2 W w (N2 y)) : QC P f args R2 A2 v2 N2 := fun w hA hR => by
 have s1 := (Sx.start hA hR).cast ha.eq
 have s2 := s1.perm ht.perm
 refine (hs w (s2.toFx.sub (List.sublist_append_left _ _)) (s1.reads ht.perm hr)).mono ?_
 rintro e w' ⟨x, rfl, hx⟩
 obtain ⟨y, h1, h2⟩ := hN x w w' ((hN' x).eq ▸ s2.ret hx)
 exact ⟨y, by rw [h1], h2⟩
theorem Sx.ofH {A : List Fa} {W w : World} {L : List Fa} {φ : World → Prop} (h : H A W 0 [] [] L (fun _ w => φ w)) (s : Sx A W w L) : φ w := h { tmps := #[], defers := [] } w ⟨rfl, rfl, fun t v h => by cases h⟩ s
theorem QqS (p : Proof) (hc : Jk p = 0) (ss : List B32) (hs : p.sibs.n = ss.length) (key : B32) (n : Nat) (hn : n ≤ 256) (h : Zh) [hT : RdZ h (some ⟨1, 0, none⟩) Jd] [hS : RdZ h p.sibs.A (dgs ss)] (gh gc k0 : Nat) (hk : k0 ≤ 800000000000) (d : Nat) (hd : p.depth = (d : Int)) : QC Tryz.prog 67 [.pointer (some ⟨gh, 0, none⟩), .agg p.cells.toArray, .agg key.cells.toArray].toArray [HR gh gc n] [.zone true h, CN gc k0] (fun u : {u : Zh × Nat × Nat × List Seg // LeZ h u.1 ∧ qx u.1 u.2.2.2 (Va n key (Vo (Jj n Yw) p.bitmap ss d) (J9 p) (d + 1)).reverse ∧ RdZ u.1 (some ⟨u.2.1, 0, none⟩) (svs u.2.2.2)} => .tuple #[.slice (some ⟨u.1.2.1, 0, none⟩) (d + 1) u.1.2.2.1, .int .i64 0]) (fun u => [.zone true u.1.1, CN gc (k0 + 1 + d + 1)]) := by
 refine (QqR p hc ss hs key n hn gh gc k0 hk d hd).weakE ?_
 rintro ⟨⟨g, c, ys⟩, hys⟩ W w s
 dsimp only at hys s ⊢
 refine Sx.ofH (φ := fun w => ∃ y : {u : Zh × Nat × Nat × List Seg // LeZ h u.1 ∧ qx u.1 u.2.2.2 (Va n key (Vo (Jj n Yw) p.bitmap ss d) (J9 p) (d + 1)).reverse ∧ RdZ u.1 (some ⟨u.2.1, 0, none⟩) (svs u.2.2.2)}, Value.tuple #[.slice (some ⟨g, 0, none⟩) (d + 1) c, .int .i64 0] = .tuple #[.slice (some ⟨y.1.2.1, 0, none⟩) (d + 1) y.1.2.2.1, .int .i64 0] ∧ Rx [.zone true h, CN gc k0] W w [.zone true y.1.1, CN gc (k0 + 1 + d + 1)]) ?_ s
 refine Qeg ys _ hys fun z1 hz1 hs1 => ?_
 refine Jp (.slice (some ⟨g, 0, none⟩) (d + 1) c) fun z2 B2 c2 e2 hle2 hlen2 hnil2 hz2 hr2 => ?_
 injection e2 with e2 _ e3
 subst e2 e3
 exact fun a w ka s => ⟨⟨(z2, g, c, ys), hz1.trans hz2, hs1.mono hz2, hr2⟩, rfl, (same (L' := [.zone true z2, CN gc (k0 + 1 + d + 1)]) w s).res (List.Sublist.refl _) (by simp [Fa.wr])⟩
theorem zbL {A : List Fa} {W : World} {z z' : Zh} (hl : LeZ z z') {Cs : List Fa} {L M M' : List Fa} [tz : TakeZ L z' M] [tc : Take Cs M M'] : ∀ w, Sx A W w L → Sx A W w (.zone false z :: Cs) := fun w s => by
 have s2 : Sx A W w (.zone true z' :: (Cs ++ M')) := (s.perm tz.perm).perm (tc.perm.cons _)
 have s3 : Sx A W w (.zone true z' :: Cs) := s2.sub (List.Sublist.cons_cons _ (List.sublist_append_left _ _))
 have hz := s3.ok (.zone true z') (List.mem_cons_self ..)
 have hC := s3.sub (List.sublist_cons_self _ _)
 refine hC.cons (fun k o ho => hz k o (hl.le k o ho)) (fun g hg hw k hk1 hk2 => ?_) (fun h => by cases h)
 obtain ⟨h1, h2⟩ := List.pairwise_cons.1 s3.sep
 obtain ⟨o, ho⟩ := hk1
 exact h1 g hg (by rw [Bool.or_eq_true]; exact .inl rfl) k ⟨o, hl.le k o ho⟩ hk2
def QrB : Option (List UInt8 × List UInt8) → Option Addr × Nat → Option Addr × Nat → Value
 | some (x, y), X, Y => .tuple #[.slice X.1 x.length X.2, .slice Y.1 y.length Y.2, .bool true]
 | none, _, _ => .tuple #[.slice none 0 0, .slice none 0 0, .bool false]
def qP (n : Nat) (key : B32) (p : Proof) (ss : List B32) : List (List UInt8) := (Va n key (Vo (Jj n Yw) p.bitmap ss p.depth.toNat) (J9 p) (p.depth.toNat + 1)).reverse
def QbO (n : Nat) (m : List En) (D : Nat) (c : Claim) (kb vb : List UInt8) (p0 : Proof) (ss : List B32) : Option (List UInt8 × List UInt8) :=
 if Qai n (dgT n (mkT m 0)) c kb vb p0 ss && !qz m c kb vb then some (VZ (JV n (keyOf kb) (mkT m 0) (D + 1)) (qP n (keyOf kb) p0 ss) (JK (JQ (Ja m (keyOf kb)))) (JK vb)) else none
section
variable (n : Nat) (hn : n ≤ 256) (h : Zh) [hT : RdZ h (some ⟨1, 0, none⟩) Jd] (gh gc k : Nat) (hk : k ≤ 10000000) (m : List En) (hal : Alike m 0) (p : Option Addr) [ht : TrZ n h (mkT m 0) p] (c : Claim) (kb vb : List UInt8) [hK : SlZ h c.key kb] [hV : SlZ h c.value vb] (hvb : vb.length ≤ 100000000) (hvl : ∀ e ∈ m, e.val.length ≤ 100000000)
include hn hk hal hvb hvl
theorem QjV (D : Nat) (w : WayM (keyOf kb) m D) (p0 : Proof) (ss : List B32) (hs : p0.sibs.n = ss.length) [hS : RdZ h p0.sibs.A (dgs ss)] (o : Option (List UInt8 × List UInt8)) (ho : QbO n m D c kb vb p0 ss = o) : QC Tryz.prog 25 [.pointer (some ⟨gh, 0, none⟩), .pointer p, .agg c.cells.toArray, .agg p0.cells.toArray].toArray [HR gh gc n] [.zone true h, CN gc k] (fun u : {u : Zh × (Option Addr × Nat) × (Option Addr × Nat) × Nat // LeZ h u.1 ∧ (∀ x y, o = some (x, y) → PZ u.1 u.2.1.1 u.2.1.2 x ∧ PZ u.1 u.2.2.1.1 u.2.2.1.2 y) ∧ u.2.2.2 ≤ k + 3000} => QrB o u.1.2.1 u.1.2.2.1) (fun u => [.zone true u.1.1, CN gc u.1.2.2.2]) := by
 have hDg := Yq n hn gh gc k (by omega) h (mkT m 0) p
 obtain ⟨k1, hk1⟩ : ∃ k1, k + (if (mkT m 0).kind = 0 then 1 else 0) = k1 := ⟨_, rfl⟩
 have hk1b : k1 ≤ k + 1 := by rw [← hk1]; split <;> omega
 rw [hk1] at hDg
 have hA := Qiv n hn h gh gc k1 (by omega) (dgT n (mkT m 0)) c kb vb hvb p0 ss hs
 have hTr := fun z (htz : TrZ n z (mkT m 0) p) (hKz : SlZ z c.key kb) (hVz : SlZ z c.value vb) => QoS n z m hal p c kb vb (fun e he => by have := hvl e he; omega)
 unfold QbO at ho
 obtain ⟨a, ha⟩ : ∃ a, Qai n (dgT n (mkT m 0)) c kb vb p0 ss = a := ⟨_, rfl⟩
 obtain ⟨t, htr⟩ : ∃ t, qz m c kb vb = t := ⟨_, rfl⟩
 rw [ha, htr] at ho
 rw [ha] at hA
 rw [htr] at hTr
 have hkn := hK.len
 cases a
 ·obtain rfl : none = o := ho
  refine Qk Tryz.func25 rfl (n := 46) rfl rfl ?_
  intro W
  refine yR ?_
  refine Qo (Q9 rfl) fun g6 => ?_
  refine Qo (Q9 rfl) fun g7 => ?_
  refine yS rfl ?_
  refine yS rfl ?_
  refine yS rfl ?_
  refine yN ?_
  refine Qd ?_
  refine Qd ?_
  refine Q1 [.blk g6 c.cells 50, .blk g7 p0.cells 63] [] QJ (same) ?_
  refine Qa 0 rfl (Qi rfl) ?_
  refine Qa 1 rfl (Qi rfl) ?_
  refine Qa 2 rfl (Qi rfl) ?_
  refine Qp 4 rfl (Qm rfl) ?_
  refine Qp 5 rfl (Qm rfl) ?_
  refine Qv 3 ?_
  refine QR 3 rfl (hDg.comes) rfl rfl rfl (fun xx => same) fun _ => ?_
  refine Qv 6 ?_
  refine QR 6 rfl (hA.comes) rfl rfl rfl (fun xx => same) fun ⟨⟨z1, k2⟩, hz1, hk2⟩ => ?_
  refine Qa 7 rfl (Ji rfl) ?_
  refine Qa 8 rfl (Qi rfl) ?_
  refine QW 9 rfl ?_
  refine QW 10 rfl ?_
  refine QW 11 rfl ?_
  refine Qa 12 rfl (Qy rfl rfl) ?_
  refine QB (by kernel_rfl) ?_
  refine Qc ?_
  refine Qz rfl ?_
  refine yR ?_
  refine yS rfl ?_
  refine yS rfl ?_
  refine yS rfl ?_
  refine yN ?_
  refine Qs ?_
  refine Qr ?_
  exact qM rfl rfl rfl rfl fun w s => ⟨⟨(z1, (none, 0), (none, 0), k2), hz1, (fun x y h => by cases h), by dsimp only at hk2 ⊢; omega⟩, rfl, (same (L' := [.zone true z1, CN gc k2]) w s).res (List.Sublist.refl _) (by simp [Fa.wr])⟩
 cases t
 ·have hck : Jk p0 = 0 ∧ Jy c = 0 := by
   unfold Qai at ha
   simp only [Bool.and_eq_true, decide_eq_true_eq] at ha
   exact ⟨ha.1.2, ha.1.1⟩
  have hk32 : kb.length = 32 := by
   have h1 := hck.2
   unfold Jy at h1
   split at h1
   ·omega
   cases h1
  have hdp := Y5 hck.1
  obtain ⟨d, hd⟩ : ∃ d : Nat, p0.depth = (d : Int) := ⟨p0.depth.toNat, by omega⟩
  have hd2 : p0.depth.toNat = d := by omega
  obtain ⟨⟨x, y⟩, hxy⟩ : ∃ xy, VZ (JV n (keyOf kb) (mkT m 0) (D + 1)) (qP n (keyOf kb) p0 ss) (JK (JQ (Ja m (keyOf kb)))) (JK vb) = xy := ⟨_, rfl⟩
  obtain rfl : some (x, y) = o := by rw [← ho, hxy]; rfl
  have hP := fun z (hTz : RdZ z (some ⟨1, 0, none⟩) Jd) (hSz : RdZ z p0.sibs.A (dgs ss)) k0 hk0 => QqS p0 hck.1 ss hs (keyOf kb) n hn z gh gc k0 hk0 d hd
  have hpl : qP n (keyOf kb) p0 ss = (Va n (keyOf kb) (Vo (Jj n Yw) p0.bitmap ss d) (J9 p0) (d + 1)).reverse := by unfold qP; rw [hd2]
  rw [← hpl] at hP
  have hCo := fun z (hTz : RdZ z (some ⟨1, 0, none⟩) Jd) (htz : TrZ n z (mkT m 0) p) (hKz : SlZ z c.key kb) (hVz : SlZ z c.value vb) k0 hk0 ys Y cy (hY : RdZ z Y (svs ys)) hys hyl => Qhq n hn z gh gc k0 hk0 m p c kb vb hk32 hvb hvl D w ys (qP n (keyOf kb) p0 ss) Y cy (hY := hY) hys hyl x y hxy
  have hpll : (qP n (keyOf kb) p0 ss).length = d + 1 := by rw [hpl, List.length_reverse, Qd9]
  generalize qP n (keyOf kb) p0 ss = pl at *
  have hKr : RdZ h c.key.A (keyOf kb).cells := by rw [Yu hk32]; exact hK.rd
  obtain ⟨bK, oK, hKA, -⟩ := hKr.at_ 0 _ (List.getElem?_eq_getElem (by rw [B32.cells_length]; decide))
  rw [hKA] at hKr
  refine Qk Tryz.func25 rfl (n := 46) rfl rfl ?_
  intro W
  refine yR ?_
  refine Qo (Q9 rfl) fun g6 => ?_
  refine Qo (Q9 rfl) fun g7 => ?_
  refine yS rfl ?_
  refine yS rfl ?_
  refine yS rfl ?_
  refine yN ?_
  refine Qd ?_
  refine Qd ?_
  refine Q1 [.blk g6 c.cells 50, .blk g7 p0.cells 63] [] QJ (same) ?_
  refine Qa 0 rfl (Qi rfl) ?_
  refine Qa 1 rfl (Qi rfl) ?_
  refine Qa 2 rfl (Qi rfl) ?_
  refine Qp 4 rfl (Qm rfl) ?_
  refine Qp 5 rfl (Qm rfl) ?_
  refine Qv 3 ?_
  refine QR 3 rfl (hDg.comes) rfl rfl rfl (fun xx => same) fun _ => ?_
  refine Qv 6 ?_
  refine QR 6 rfl (hA.comes) rfl rfl rfl (fun xx => same) fun ⟨⟨z1, k2⟩, hz1, hk2⟩ => ?_
  refine Qa 7 rfl (Ji rfl) ?_
  refine Qa 8 rfl (Qi rfl) ?_
  refine Qa 9 rfl (Qi rfl) ?_
  refine Qp 10 rfl (Qm rfl) ?_
  refine Qv 11 ?_
  refine QR 11 rfl ((hTr z1 ⟨ht.ok.mono hz1⟩ (hK.mono hz1) (hV.mono hz1)).comes) rfl rfl rfl (fun xx => same) fun _ => ?_
  refine Qa 12 rfl (Qy rfl rfl) ?_
  refine QB (by kernel_rfl) ?_
  refine Qc ?_
  dsimp only at hz1 hk2 ⊢
  have hKr1 : RdZ z1 (some ⟨bK, oK, none⟩) (keyOf kb).cells := hKr.mono hz1
  refine Qt rfl ?_
  refine Qn ?_
  refine Qc ?_
  refine Qd ?_
  refine Q1 [.zone false z1, .blk g6 c.cells 50, .blk g7 p0.cells 63] [] QJ (zbL (LeZ.refl z1)) ?_
  refine Qa 0 rfl (Qi rfl) ?_
  refine Qp 1 rfl (Qm rfl) ?_
  refine Qa 2 rfl (Qe rfl) ?_
  refine Qp 3 rfl (QbC (Qf rfl) (show _ = Value.slice (some ⟨bK, oK, none⟩) c.key.n c.key.c by rw [hKA])) ?_
  refine Qa 4 rfl (VJ rfl (hm := show 32 ≤ c.key.n by omega)) ?_
  refine Qp 5 rfl (Qm rfl) ?_
  refine Qv 6 ?_
  refine QR 6 rfl ((hP z1 (hT.mono hz1) (hS.mono hz1) k2 (by omega)).comes) rfl rfl rfl (fun xx => zbL xx.2.1) fun ⟨⟨z2, g33, c33, ys⟩, hz2, hys, hyr⟩ => ?_
  refine Qa 7 rfl (Qi rfl) ?_
  refine Qa 8 rfl (Qj rfl rfl) ?_
  refine Qa 9 rfl (Qj rfl rfl) ?_
  refine Qa 10 rfl (Q6 rfl) ?_
  refine Qa 11 rfl (Q6 rfl) ?_
  refine QB (by kernel_rfl) ?_
  refine Qc ?_
  dsimp only at hz2 hys hyr ⊢
  have hyl := hys.len
  have hz12 := hz1.trans hz2
  have hCo := hCo z2 (hT.mono hz12) ⟨ht.ok.mono hz12⟩ (hK.mono hz12) (hV.mono hz12) (k2 + 1 + d + 1) (by omega) ys (some ⟨g33, 0, none⟩) c33 hyr hys (by omega)
  rw [hyl, hpll] at hCo
  refine Qd ?_
  refine yR ?_
  refine yM rfl ?_
  refine Qb (QL rfl rfl) ?_
  refine yN ?_
  refine Qt rfl ?_
  refine Qn ?_
  refine Qc ?_
  refine yR ?_
  refine yM rfl ?_
  refine yM rfl ?_
  refine Qb (Qm rfl) ?_
  refine yM rfl ?_
  refine Qh (hCo.comes) rfl rfl rfl fun ⟨⟨z3, X, Y, k3⟩, hz3, hX, hY, hk3⟩ => ?_
  dsimp only at hz3 hX hY hk3 ⊢
  refine Qb (Qj rfl rfl) ?_
  refine Qb (Qj rfl rfl) ?_
  refine Qb (Qj rfl rfl) ?_
  refine yS rfl ?_
  refine yS rfl ?_
  refine yS rfl ?_
  refine yN ?_
  refine Qs ?_
  exact qM rfl rfl rfl rfl fun w s => ⟨⟨(z3, X, Y, k3), hz12.trans hz3, (fun x' y' e => by injection e with e; injection e with e1 e2; subst e1 e2; exact ⟨hX, hY⟩), by dsimp only; omega⟩, rfl, (same (L' := [.zone true z3, CN gc k3]) w s).res (List.Sublist.refl _) (by simp [Fa.wr])⟩
 obtain rfl : none = o := ho
 refine Qk Tryz.func25 rfl (n := 46) rfl rfl ?_
 intro W
 refine yR ?_
 refine Qo (Q9 rfl) fun g6 => ?_
 refine Qo (Q9 rfl) fun g7 => ?_
 refine yS rfl ?_
 refine yS rfl ?_
 refine yS rfl ?_
 refine yN ?_
 refine Qd ?_
 refine Qd ?_
 refine Q1 [.blk g6 c.cells 50, .blk g7 p0.cells 63] [] QJ (same) ?_
 refine Qa 0 rfl (Qi rfl) ?_
 refine Qa 1 rfl (Qi rfl) ?_
 refine Qa 2 rfl (Qi rfl) ?_
 refine Qp 4 rfl (Qm rfl) ?_
 refine Qp 5 rfl (Qm rfl) ?_
 refine Qv 3 ?_
 refine QR 3 rfl (hDg.comes) rfl rfl rfl (fun xx => same) fun _ => ?_
 refine Qv 6 ?_
 refine QR 6 rfl (hA.comes) rfl rfl rfl (fun xx => same) fun ⟨⟨z1, k2⟩, hz1, hk2⟩ => ?_
 refine Qa 7 rfl (Ji rfl) ?_
 refine Qa 8 rfl (Qi rfl) ?_
 refine Qa 9 rfl (Qi rfl) ?_
 refine Qp 10 rfl (Qm rfl) ?_
 refine Qv 11 ?_
 refine QR 11 rfl ((hTr z1 ⟨ht.ok.mono hz1⟩ (hK.mono hz1) (hV.mono hz1)).comes) rfl rfl rfl (fun xx => same) fun _ => ?_
 refine Qa 12 rfl (Qy rfl rfl) ?_
 refine QB (by kernel_rfl) ?_
 refine Qc ?_
 refine Qz rfl ?_
 refine yR ?_
 refine yS rfl ?_
 refine yS rfl ?_
 refine yS rfl ?_
 refine yN ?_
 refine Qs ?_
 refine Qr ?_
 exact qM rfl rfl rfl rfl fun w s => ⟨⟨(z1, (none, 0), (none, 0), k2), hz1, (fun x y h => by cases h), by dsimp only at hk2 ⊢; omega⟩, rfl, (same (L' := [.zone true z1, CN gc k2]) w s).res (List.Sublist.refl _) (by simp [Fa.wr])⟩
end
end
section
open Go.RowKit
end
section
open Go.RowKit
end
section
open Go.RowKit
end
section
open Go.RowKit
end
section
open Go.RowKit
end
section
open Go.RowKit
end
section
open Go.RowKit
end
section
open Go.RowKit
end
section
open Go.RowKit
end
section
open Go.RowKit
end
section
open Go.RowKit
def L1 : List En := [⟨⟨QN, ⟨none, 0, 0⟩⟩, []⟩]
end
section
open Go.RowKit
end
section
open Go.RowKit
end
section
open Go.RowKit
end
section
open Go.RowKit
end
section
open Go.RowKit
end
section
open Go.RowKit
structure MapCl (m : List En) (ks : List B32) (fl : Nat → Bool) (cl : List CB) : Prop where
 len : cl.length ≤ ks.length
 keys : Qrm cl = ks.take cl.length
 at_ : ∀ (j : Nat) (x : CB), cl[j]? = some x → x.c.key.n = 32 ∧ x.c.value.n ≤ 200 ∧ x.vb.length ≤ 200 ∧ x.vb = JQ (Ja m (keyOf x.kb)) ∧ x.c.present = ((Ja m (keyOf x.kb)).isSome != fl j)
theorem MapCl.nil (m : List En) (ks : List B32) (fl : Nat → Bool) : MapCl m ks fl [] := ⟨Nat.zero_le _, rfl, fun j x h => by simp at h⟩
end
section
open Go.RowKit
end
section
open Go.RowKit
end
section
open Go.RowKit
end
section
open Go.RowKit
end
section
open Go.RowKit
theorem Qdo (code : Nat → Int) : ∀ m i j e, qd code m i = some (j, e) → e ≠ 0
 | 0, _, _, _, h => by cases h
 | m + 1, i, j, e, h => by
  unfold qd at h
  split at h
  ·exact Qdo code m (i + 1) j e h
  injection h with h
  injection h with h1 h2
  rw [← h2]; assumption
end
section
open Go.RowKit
section
variable (h : Zh) (m : List En) (B : Option Addr) (cB : Nat) [hB : RdZ h B (Ye m)] (hv : Yr h m) (hm : m.length ≤ 1000000) (c : Claim) (kb vb : List UInt8) [hK : SlZ h c.key kb] [hV : SlZ h c.value vb]
include hv hm
theorem Qj7 : QC Tryz.prog 23 [.slice B m.length cB, .agg c.cells.toArray].toArray [.zone false h] [] (fun _ : Unit => .bool (qz m c kb vb)) (fun _ => []) := by
 have hC := Qhb c
 have hkn := hK.len
 have hvn := hV.len
 have hVr : RdZ h c.value.A (bc vb) := hV.rd
 have hKr : RdZ h c.key.A (bc kb) := hK.rd
 by_cases h1 : Jy c = 0
 ·have hk32 : kb.length = 32 := by
   unfold Jy at h1
   split at h1
   ·omega
   cases h1
  have hG := Qke m B cB (keyOf kb) (by omega)
  obtain ⟨hgv, hgl⟩ := Qef hv (keyOf kb)
  rw [h1] at hC
  have ht : qz m c kb vb = ((Ja m (keyOf kb)).isSome == c.present && (!(Ja m (keyOf kb)).isSome || decide (JQ (Ja m (keyOf kb)) = vb))) := by unfold qz; rw [decide_eq_true h1]; exact Bool.true_and _
  rw [ht]
  obtain ⟨⟨kA, kn, kc⟩, ⟨vA, vn, vc⟩, pr⟩ := c
  dsimp only at hkn hvn hKr hVr ⊢
  subst hkn hvn
  generalize Ja m (keyOf kb) = g at *
  have hgn := hgv.len
  have hgr : RdZ h (QcR g).A (bc (JQ g)) := hgv.rd
  generalize QcR g = s at *
  generalize JQ g = v at *
  obtain ⟨sA, sn, sc⟩ := s
  dsimp only at hgn hgr hG
  subst hgn
  have hS := QbL v vb sA vA sc vc (by omega)
  cases hg : g.isSome
  ·rw [hg] at hG
   cases pr
   ·refine Qk Tryz.func23 rfl (n := 38) rfl rfl ?_
    intro W
    refine yR ?_
    refine Qo (Q9 rfl) fun g3 => ?_
    refine yS rfl ?_
    refine yN ?_
    refine yR ?_
    refine Qb (Qm rfl) ?_
    refine Qh (hC.comes) rfl rfl rfl fun _ => ?_
    refine yM rfl ?_
    refine Qb (Qj rfl rfl) ?_
    refine Qb (Qj rfl rfl) ?_
    refine yS rfl ?_
    refine yS rfl ?_
    refine yN ?_
    refine Qd ?_
    refine yR ?_
    refine yM rfl ?_
    refine Qb (QL rfl rfl) ?_
    refine yN ?_
    refine Ys rfl ((fun h => h rfl)) ?_
    refine Qn ?_
    refine Qc ?_
    refine yR ?_
    refine yM rfl ?_
    refine Qb (Qe rfl) ?_
    refine Qb (Qf rfl) ?_
    refine Qh ((Qb1 kb kA kc hk32).comes) rfl rfl rfl fun _ => ?_
    refine Qh (hG.comes) rfl rfl rfl fun _ => ?_
    refine yM rfl ?_
    refine Qb (Qj rfl rfl) ?_
    refine Qb (Qj rfl rfl) ?_
    refine yS rfl ?_
    refine yS rfl ?_
    refine yN ?_
    refine yR ?_
    refine yM rfl ?_
    refine Qb (Qe rfl) ?_
    refine Qb (Qf rfl) ?_
    refine Qb (Ql (Qb2 rfl rfl) (show _ = true from rfl)) ?_
    refine yM rfl ?_
    refine yM rfl ?_
    refine Qb (Ji rfl) ?_
    refine yM rfl ?_
    refine Qg ?_
    refine Qg ?_
    refine Qg ?_
    refine Qg ?_
    refine Qb (Qy rfl rfl) ?_
    refine Qb (Qy rfl rfl) ?_
    refine yS rfl ?_
    refine yN ?_
    refine Qs ?_
    exact Qu rfl rfl fun w s => ⟨(), rfl, s.res (List.nil_sublist _) (by simp)⟩
   refine Qk Tryz.func23 rfl (n := 38) rfl rfl ?_
   intro W
   refine yR ?_
   refine Qo (Q9 rfl) fun g3 => ?_
   refine yS rfl ?_
   refine yN ?_
   refine yR ?_
   refine Qb (Qm rfl) ?_
   refine Qh (hC.comes) rfl rfl rfl fun _ => ?_
   refine yM rfl ?_
   refine Qb (Qj rfl rfl) ?_
   refine Qb (Qj rfl rfl) ?_
   refine yS rfl ?_
   refine yS rfl ?_
   refine yN ?_
   refine Qd ?_
   refine yR ?_
   refine yM rfl ?_
   refine Qb (QL rfl rfl) ?_
   refine yN ?_
   refine Ys rfl ((fun h => h rfl)) ?_
   refine Qn ?_
   refine Qc ?_
   refine yR ?_
   refine yM rfl ?_
   refine Qb (Qe rfl) ?_
   refine Qb (Qf rfl) ?_
   refine Qh ((Qb1 kb kA kc hk32).comes) rfl rfl rfl fun _ => ?_
   refine Qh (hG.comes) rfl rfl rfl fun _ => ?_
   refine yM rfl ?_
   refine Qb (Qj rfl rfl) ?_
   refine Qb (Qj rfl rfl) ?_
   refine yS rfl ?_
   refine yS rfl ?_
   refine yN ?_
   refine yR ?_
   refine yM rfl ?_
   refine Qb (Qe rfl) ?_
   refine Qb (Qf rfl) ?_
   refine Qb (Ql (Qb2 rfl rfl) (show _ = false from rfl)) ?_
   refine yM rfl ?_
   refine Qg ?_
   refine Qg ?_
   refine Qg ?_
   refine Qg ?_
   refine Qg ?_
   refine Qg ?_
   refine Qg ?_
   refine Qg ?_
   refine Qb (Qy rfl rfl) ?_
   refine yS rfl ?_
   refine yN ?_
   refine Qs ?_
   exact Qu rfl rfl fun w s => ⟨(), rfl, s.res (List.nil_sublist _) (by simp)⟩
  rw [hg] at hG
  cases pr
  ·refine Qk Tryz.func23 rfl (n := 38) rfl rfl ?_
   intro W
   refine yR ?_
   refine Qo (Q9 rfl) fun g3 => ?_
   refine yS rfl ?_
   refine yN ?_
   refine yR ?_
   refine Qb (Qm rfl) ?_
   refine Qh (hC.comes) rfl rfl rfl fun _ => ?_
   refine yM rfl ?_
   refine Qb (Qj rfl rfl) ?_
   refine Qb (Qj rfl rfl) ?_
   refine yS rfl ?_
   refine yS rfl ?_
   refine yN ?_
   refine Qd ?_
   refine yR ?_
   refine yM rfl ?_
   refine Qb (QL rfl rfl) ?_
   refine yN ?_
   refine Ys rfl ((fun h => h rfl)) ?_
   refine Qn ?_
   refine Qc ?_
   refine yR ?_
   refine yM rfl ?_
   refine Qb (Qe rfl) ?_
   refine Qb (Qf rfl) ?_
   refine Qh ((Qb1 kb kA kc hk32).comes) rfl rfl rfl fun _ => ?_
   refine Qh (hG.comes) rfl rfl rfl fun _ => ?_
   refine yM rfl ?_
   refine Qb (Qj rfl rfl) ?_
   refine Qb (Qj rfl rfl) ?_
   refine yS rfl ?_
   refine yS rfl ?_
   refine yN ?_
   refine yR ?_
   refine yM rfl ?_
   refine Qb (Qe rfl) ?_
   refine Qb (Qf rfl) ?_
   refine Qb (Ql (Qb2 rfl rfl) (show _ = false from rfl)) ?_
   refine yM rfl ?_
   refine Qg ?_
   refine Qg ?_
   refine Qg ?_
   refine Qg ?_
   refine Qg ?_
   refine Qg ?_
   refine Qg ?_
   refine Qg ?_
   refine Qb (Qy rfl rfl) ?_
   refine yS rfl ?_
   refine yN ?_
   refine Qs ?_
   exact Qu rfl rfl fun w s => ⟨(), rfl, s.res (List.nil_sublist _) (by simp)⟩
  refine Qk Tryz.func23 rfl (n := 38) rfl rfl ?_
  intro W
  refine yR ?_
  refine Qo (Q9 rfl) fun g3 => ?_
  refine yS rfl ?_
  refine yN ?_
  refine yR ?_
  refine Qb (Qm rfl) ?_
  refine Qh (hC.comes) rfl rfl rfl fun _ => ?_
  refine yM rfl ?_
  refine Qb (Qj rfl rfl) ?_
  refine Qb (Qj rfl rfl) ?_
  refine yS rfl ?_
  refine yS rfl ?_
  refine yN ?_
  refine Qd ?_
  refine yR ?_
  refine yM rfl ?_
  refine Qb (QL rfl rfl) ?_
  refine yN ?_
  refine Ys rfl ((fun h => h rfl)) ?_
  refine Qn ?_
  refine Qc ?_
  refine yR ?_
  refine yM rfl ?_
  refine Qb (Qe rfl) ?_
  refine Qb (Qf rfl) ?_
  refine Qh ((Qb1 kb kA kc hk32).comes) rfl rfl rfl fun _ => ?_
  refine Qh (hG.comes) rfl rfl rfl fun _ => ?_
  refine yM rfl ?_
  refine Qb (Qj rfl rfl) ?_
  refine Qb (Qj rfl rfl) ?_
  refine yS rfl ?_
  refine yS rfl ?_
  refine yN ?_
  refine yR ?_
  refine yM rfl ?_
  refine Qb (Qe rfl) ?_
  refine Qb (Qf rfl) ?_
  refine Qb (Ql (Qb2 rfl rfl) (show _ = true from rfl)) ?_
  refine yM rfl ?_
  refine yM rfl ?_
  refine Qb (Ji rfl) ?_
  refine yM rfl ?_
  refine yM rfl ?_
  refine Qb (Qe rfl) ?_
  refine Qb (Qf rfl) ?_
  refine Qh (hS.comes) rfl rfl rfl fun _ => ?_
  refine Qb (Qy rfl rfl) ?_
  refine Qb (Qy rfl rfl) ?_
  refine yS rfl ?_
  refine yN ?_
  refine Qs ?_
  exact Qu rfl rfl fun w s => ⟨(), rfl, s.res (List.nil_sublist _) (by simp)⟩
 rw [show qz m c kb vb = false by unfold qz; rw [decide_eq_false h1]; rfl]
 refine Qk Tryz.func23 rfl (n := 38) rfl rfl ?_
 intro W
 refine yR ?_
 refine Qo (Q9 rfl) fun g3 => ?_
 refine yS rfl ?_
 refine yN ?_
 refine yR ?_
 refine Qb (Qm rfl) ?_
 refine Qh (hC.comes) rfl rfl rfl fun _ => ?_
 refine yM rfl ?_
 refine Qb (Qj rfl rfl) ?_
 refine Qb (Qj rfl rfl) ?_
 refine yS rfl ?_
 refine yS rfl ?_
 refine yN ?_
 refine Qd ?_
 refine yR ?_
 refine yM rfl ?_
 refine Qb (QL rfl rfl) ?_
 refine yN ?_
 refine Yz rfl (h1) ?_
 refine yR ?_
 refine yS rfl ?_
 refine yN ?_
 refine Qs ?_
 refine Qr ?_
 exact Qu rfl rfl fun w s => ⟨(), rfl, s.res (List.nil_sublist _) (by simp)⟩
end
end
section
open Go.RowKit
def Qfc (n : Nat) (x y : List UInt8) : Bool := !decide (x = y) && decide (Jj n x = Jj n y)
end
section
open Go.RowKit
theorem QlI {a b a' b' : B32} (h : YB a b = YB a' b') : a = a' ∧ b = b' := by
 obtain ⟨h1, h2⟩ := List.append_inj (List.cons.inj h).2 (a.2.trans a'.2.symm)
 exact ⟨Subtype.ext h1, Subtype.ext h2⟩
theorem Qc4 {l l' : Leaf} (h : YO l = YO l') : l = l' := by
 obtain ⟨h1, h2⟩ := List.append_inj (List.cons.inj h).2 (l.key.2.trans l'.key.2.symm)
 obtain ⟨k, v⟩ := l
 obtain ⟨k', v'⟩ := l'
 rw [show k = k' from Subtype.ext h1, show v = v' from Subtype.ext h2]
theorem Qd6 {l : Leaf} (h : Yw = YO l) : False := absurd (List.cons.inj h).1 (by decide)
theorem Qd7 {a b : B32} (h : Yw = YB a b) : False := absurd (List.cons.inj h).1 (by decide)
theorem Qd8 {l : Leaf} {a b : B32} (h : YO l = YB a b) : False := absurd (List.cons.inj h).1 (by decide)
def qA (n : Nat) (key : B32) : List (List UInt8) → Nat → Prop
 | [], _ => False
 | [x], _ => x = Yw ∨ ∃ lf, x = YO lf
 | x :: y :: l, d => (∃ a b, x = YB a b ∧ Jj n y = if Q4 key d then b else a) ∧ qA n key (y :: l) (d + 1)
theorem Qh8 {n : Nat} {x y : List UInt8} (h : x ≠ y) (hs : Jj n x = Jj n y) : Qfc n x y = true := by
 unfold Qfc
 rw [decide_eq_false h, decide_eq_true hs]
 rfl
theorem QeX (n : Nat) (key : B32) (ws : List (List UInt8)) : ∀ (ls : List (List UInt8)) (d : Nat), qA n key ws d → qA n key ls d → Jj n (ws.headD []) = Jj n (ls.headD []) →
  (qk ws ls < min ws.length ls.length ∧ Qfc n (ws.getD (qk ws ls) []) (ls.getD (qk ws ls) []) = true) ∨ (¬ qk ws ls < min ws.length ls.length ∧ ws.getLast? = ls.getLast?) := by
 induction ws with
 | nil => exact fun _ _ h => h.elim
 | cons x ws ih =>
  intro ls d hw hl hs
  cases ls with
  | nil => exact hl.elim
  | cons y ls =>
   by_cases hxy : x = y
   ·subst hxy
    have hd : qk (x :: ws) (x :: ls) = qk ws ls + 1 := by rw [qk, if_pos rfl]
    cases ws with
    | nil =>
     cases ls with
     | nil =>
      refine .inr ⟨?_, rfl⟩
      rw [hd]
      exact fun h => absurd h (by simp)
     | cons z l =>
      obtain ⟨⟨a, b, e, -⟩, -⟩ := hl
      rcases hw with h | ⟨lf, h⟩
      ·exact (Qd7 (h.symm.trans e)).elim
      exact (Qd8 (h.symm.trans e)).elim
    | cons z w =>
     cases ls with
     | nil =>
      obtain ⟨⟨a, b, e, -⟩, -⟩ := hw
      rcases hl with h | ⟨lf, h⟩
      ·exact (Qd7 (h.symm.trans e)).elim
      exact (Qd8 (h.symm.trans e)).elim
     | cons z' l =>
      obtain ⟨⟨a, b, e, h1⟩, hw2⟩ := hw
      obtain ⟨⟨a', b', e', h1'⟩, hl2⟩ := hl
      obtain ⟨ea, eb⟩ := QlI (e.symm.trans e')
      have hsz : Jj n z = Jj n z' := by rw [h1, h1', ea, eb]
      rcases ih (z' :: l) (d + 1) hw2 hl2 hsz with ⟨h2, h3⟩ | ⟨h2, h3⟩
      ·refine .inl ⟨?_, ?_⟩
       ·rw [hd]
        rw [List.length_cons (a := x), List.length_cons (a := x)]
        omega
       rw [hd]
       exact h3
      refine .inr ⟨?_, ?_⟩
      ·rw [hd]
       rw [List.length_cons (a := x), List.length_cons (a := x)]
       omega
      rw [List.getLast?_cons_cons, List.getLast?_cons_cons, h3]
   have hd : qk (x :: ws) (y :: ls) = 0 := by rw [qk, if_neg hxy]
   refine .inl ⟨?_, ?_⟩
   ·rw [hd]
    simp only [List.length_cons]
    omega
   rw [hd]
   exact Qh8 hxy hs
theorem QiX {n : Nat} {key : B32} {ws ls : List (List UInt8)} {d : Nat} (hw : qA n key ws d) (hl : qA n key ls d) (hs : Jj n (ws.headD []) = Jj n (ls.headD [])) (a b : List UInt8) (he : ws.getLast? = ls.getLast? → Qfc n a b = true) : Qfc n (VZ ws ls a b).1 (VZ ws ls a b).2 = true := by
 unfold VZ
 rcases QeX n key ws ls d hw hl hs with ⟨h1, h2⟩ | ⟨h1, h2⟩
 ·rw [if_pos h1]
  exact h2
 rw [if_neg h1]
 exact he h2
theorem QlJ {n : Nat} {t : Tr} (h : t.kind ≠ 2) : VA n t = Yw ∨ ∃ lf, VA n t = YO lf := by
 cases t with
 | nil => exact .inl rfl
 | leaf k v => exact .inr ⟨_, rfl⟩
 | node l r => exact absurd rfl h
theorem Qcb {n : Nat} {key : B32} {t : Tr} {D : Nat} (w : WayTo key t D) : ∀ j k, k + j = D → qA n key ((List.range' k (j + 1)).map fun i => VA n (Jg key t i)) k
 | 0, k, h => by
  obtain rfl : k = D := h
  exact QlJ w.end_
 | j + 1, k, h => by
  have ih := Qcb (n := n) w j (k + 1) (by omega)
  rw [List.range'_succ, List.map_cons]
  rw [List.range'_succ, List.map_cons] at ih ⊢
  refine ⟨?_, ih⟩
  have hk := w.on k (by omega)
  show ∃ a b, VA n (Jg key t k) = YB a b ∧ Jj n (VA n ((Jg key t k).sub (Q4 key k))) = if Q4 key k then b else a
  cases hT : Jg key t k with
  | nil => rw [hT] at hk; cases hk
  | leaf k v => rw [hT] at hk; cases hk
  | node l r =>
   refine ⟨dgT n l, dgT n r, rfl, ?_⟩
   rw [← QhZ]
   cases Q4 key k <;> rfl
theorem Qe7 {n : Nat} {key : B32} {t : Tr} {D : Nat} (w : WayTo key t D) : qA n key (JV n key t (D + 1)) 0 := by
 unfold JV
 rw [List.range_eq_range']
 exact Qcb w D 0 (by omega)
theorem Qgr (n : Nat) (key : B32) (t : Tr) (D : Nat) : Jj n ((JV n key t (D + 1)).headD []) = dgT n t := by
 unfold JV
 rw [List.range_eq_range', List.range'_succ, List.map_cons]
 exact (QhZ n t).symm
theorem Qgs (n : Nat) (key : B32) (t : Tr) (D : Nat) : (JV n key t (D + 1)).getLast? = some (VA n (Jg key t D)) := by
 rw [Qb8, List.getLast?_concat]
theorem QkQ (p : Proof) : J9 p = Yw ∨ ∃ lf, J9 p = YO lf := by
 unfold J9
 split
 ·exact .inr ⟨_, rfl⟩
 exact .inl rfl
theorem Qdh (n : Nat) (key : B32) (ds : List B32) (p : Proof) : ∀ k, k ≤ ds.length → qA n key (Va n key ds (J9 p) (k + 1)).reverse (ds.length - k)
 | 0, _ => QkQ p
 | k + 1, h => by
  have ih := Qdh n key ds p k (by omega)
  rw [V9] at ih ⊢
  rw [V9]
  have e1 : ds.length - (k + 1) + 1 = ds.length - k := by omega
  have e2 : ds.length - (k + 1) = ds.length - 1 - k := by omega
  refine ⟨?_, by rw [e1]; exact ih⟩
  rw [e2, Jw]
  split
  ·exact ⟨_, _, rfl, rfl⟩
  exact ⟨_, _, rfl, rfl⟩
theorem QfQ (n : Nat) (key : B32) (p : Proof) (ss : List B32) : qA n key (qP n key p ss) 0 := by
 have h := Qdh n key (Vo (Jj n Yw) p.bitmap ss p.depth.toNat) p p.depth.toNat (by rw [VY]; exact Nat.le_refl _)
 rw [VY, Nat.sub_self] at h
 exact h
theorem QgY (n : Nat) (key : B32) (p : Proof) (ss : List B32) (hc : Jk p = 0) : Jj n ((qP n key p ss).headD []) = qy n (Qao p ss) key := by
 have hk := Qel hc
 have he : J9 ((Qao p ss).pr none 0) = J9 p := by
  unfold J9 DP.pr Qao
  dsimp only
  rw [show ((p.kind.toNat : Nat) : Int) = p.kind by omega]
 unfold qP qy
 rw [V9, he]
 rfl
theorem QgZ (n : Nat) (key : B32) (p : Proof) (ss : List B32) : (qP n key p ss).getLast? = some (J9 p) := by
 unfold qP Va
 rw [List.getLast?_reverse, List.range_succ_eq_map]
 rfl
theorem Qn5 (n : Nat) {m : List En} {key : B32} {D : Nat} (w : WayM key m D) (P : Proof) (c : Claim) (kb vb : List UInt8) (hkey : keyOf kb = key) (hc : Jy c = 0) (hs : qt P key (ZF n c.present vb) c.present = true) (ht : qz m c kb vb = false) (he : VA n (Jg key (mkT m 0) D) = J9 P) : Qfc n (JK (JQ (Ja m key))) (JK vb) = true := by
 have hle := w.way.le
 rw [w.on D (Nat.le_refl _)] at he
 unfold qz at ht
 rw [hkey, decide_eq_true hc, Bool.true_and] at ht
 have hyes : c.present = true → P.kind = 1 ∧ P.leaf = ⟨key, Jj n (JK vb)⟩ := fun hp => by
  rw [hp] at hs
  unfold qt at hs
  rw [if_pos rfl] at hs
  exact of_decide_eq_true hs
 have hno : c.present = false → (P.kind = 1 ∧ P.leaf.key ≠ key) ∨ P.kind ≠ 1 := fun hp => by
  rw [hp] at hs
  unfold qt at hs
  rw [if_neg (by simp)] at hs
  by_cases h1 : P.kind = 1
  ·rw [if_pos h1] at hs
   exact .inl ⟨h1, (of_decide_eq_true hs).1⟩
  exact .inr h1
 rcases Qaq w.last with ⟨h1, h2⟩ | ⟨e, h1, hb, ⟨hk, h2⟩ | ⟨hk, h2⟩⟩
 ·rw [h1, Jx] at he
  rw [h2] at ht
  cases hp : c.present
  ·rw [hp] at ht; cases ht
  obtain ⟨a1, a2⟩ := hyes hp
  unfold J9 at he
  rw [if_pos a1] at he
  exact (Qd6 he).elim
 ·rw [h1, J0 e hle] at he
  rw [h2] at ht ⊢
  cases hp : c.present
  ·unfold J9 at he
   rcases hno hp with ⟨a1, a2⟩ | a1
   ·rw [if_pos a1] at he
    exact absurd ((congrArg Leaf.key (Qc4 he)).symm.trans hk) a2
   rw [if_neg a1] at he
   exact (Qd6 he.symm).elim
  obtain ⟨a1, a2⟩ := hyes hp
  unfold J9 at he
  rw [if_pos a1, a2] at he
  have hv : Jj n (JK e.val) = Jj n (JK vb) := congrArg Leaf.value (Qc4 he)
  refine Qh8 (fun h => ?_) hv
  have hev : e.val = vb := (List.cons.inj h).2
  rw [hp] at ht
  rw [show JQ (some e) = e.val from rfl, decide_eq_true hev] at ht
  cases ht
 rw [h1, J0 e hle] at he
 rw [h2] at ht
 cases hp : c.present
 ·rw [hp] at ht; cases ht
 obtain ⟨a1, a2⟩ := hyes hp
 unfold J9 at he
 rw [if_pos a1, a2] at he
 exact absurd (congrArg Leaf.key (Qc4 he)) hk
theorem Qhi (n : Nat) {m : List En} {D : Nat} (c : Claim) (kb vb : List UInt8) (w : WayM (keyOf kb) m D) (p0 : Proof) (ss : List B32) (ha : Qai n (dgT n (mkT m 0)) c kb vb p0 ss = true) (ht : qz m c kb vb = false) (x y : List UInt8) (hF : VZ (JV n (keyOf kb) (mkT m 0) (D + 1)) (qP n (keyOf kb) p0 ss) (JK (JQ (Ja m (keyOf kb)))) (JK vb) = (x, y)) : Qfc n x y = true := by
 unfold Qai at ha
 simp only [Bool.and_eq_true, decide_eq_true_eq] at ha
 obtain ⟨⟨hc, hk⟩, hs, hr⟩ := ha
 have h := QiX (Qe7 (n := n) w.way) (QfQ n (keyOf kb) p0 ss) (by rw [Qgr, QgY n _ p0 ss hk, hr]) (JK (JQ (Ja m (keyOf kb)))) (JK vb) (fun he => by
  rw [Qgs, QgZ] at he
  exact Qn5 n w p0 c kb vb rfl hc hs ht (Option.some.inj he))
 rw [hF] at h
 exact h
end
section
open Go.RowKit
end
section
open Go.RowKit
end
section
open Go.RowKit
end
section
open Go.RowKit
end
section
open Go.RowKit
theorem Qf3 {ws : List (List UInt8)} {N : Nat} (h : ∀ w ∈ ws, w.length ≤ N) (i : Nat) : (ws.getD i []).length ≤ N := by
 rw [List.getD_eq_getElem?_getD]
 cases hi : ws[i]? with
 | none => exact Nat.zero_le _
 | some w => exact h w (List.mem_of_getElem? hi)
theorem QiY {ws ls : List (List UInt8)} {a b x y : List UInt8} (hF : VZ ws ls a b = (x, y)) {N : Nat} (hw : ∀ w ∈ ws, w.length ≤ N) (hl : ∀ w ∈ ls, w.length ≤ N) (ha : a.length ≤ N) (hb : b.length ≤ N) : x.length ≤ N ∧ y.length ≤ N := by
 unfold VZ at hF
 split at hF
 ·injection hF with h1 h2
  subst h1 h2
  exact ⟨Qf3 hw _, Qf3 hl _⟩
 injection hF with h1 h2
 subst h1 h2
 exact ⟨ha, hb⟩
theorem Qhm {n : Nat} {key : B32} {t : Tr} {N : Nat} : ∀ w ∈ JV n key t N, w.length ≤ 65 := fun w h => by
 obtain ⟨i, -, rfl⟩ := List.mem_map.1 h
 exact QlK n _
theorem Qj2 {n : Nat} {key : B32} {p : Proof} {ss : List B32} : ∀ w ∈ qP n key p ss, w.length ≤ 65 := fun w h => by
 obtain ⟨i, -, rfl⟩ := List.mem_map.1 (List.mem_reverse.1 h)
 exact Qgp n key _ _ (Qfl p) i
end
end Go.Proofs.YtjhlbbgikccclaaGreatDoor
