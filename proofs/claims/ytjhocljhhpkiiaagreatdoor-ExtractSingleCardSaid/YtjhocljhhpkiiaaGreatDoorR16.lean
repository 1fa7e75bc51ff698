/- A false claim that is accepted gives a collision: plain; law22: ExtractSingle is true; What is asked of the whole program, once for all frames of a great seat; a row's facts put together; law19: MultiPreimages is true; law22: ExtractBatch is true; law22: ExtractSound is true (joined texts: E34 U153 TF U84 U154 U155) -/
import Derived.Test.YtjhocljhhpkiiaaGreatDoorR15
import Derived.Handed
import Derived.JoinedOf
import Derived.SevenTiedAt
set_option linter.all false
/- E34 -/
namespace Go.Proofs.YtjhocljhhpkiiaaGreatDoor
open Go.RowKit
theorem preN_inj {a b a' b' : B32} (h : preN a b = preN a' b') : a = a' ∧ b = b' := by
 obtain ⟨h1, h2⟩ := List.append_inj (List.cons.inj h).2 (a.2.trans a'.2.symm)
 exact ⟨Subtype.ext h1, Subtype.ext h2⟩
theorem preL_inj {l l' : Leaf} (h : preL l = preL l') : l = l' := by
 obtain ⟨h1, h2⟩ := List.append_inj (List.cons.inj h).2 (l.key.2.trans l'.key.2.symm)
 obtain ⟨k, v⟩ := l
 obtain ⟨k', v'⟩ := l'
 rw [show k = k' from Subtype.ext h1, show v = v' from Subtype.ext h2]
theorem preE_preL {l : Leaf} (h : preE = preL l) : False := absurd (List.cons.inj h).1 (by decide)
theorem preE_preN {a b : B32} (h : preE = preN a b) : False := absurd (List.cons.inj h).1 (by decide)
theorem preL_preN {l : Leaf} {a b : B32} (h : preL l = preN a b) : False := absurd (List.cons.inj h).1 (by decide)
def chainOk (n : Nat) (key : B32) : List (List UInt8) → Nat → Prop
 | [], _ => False
 | [x], _ => x = preE ∨ ∃ lf, x = preL lf
 | x :: y :: l, d => (∃ a b, x = preN a b ∧ sumB n y = if bitAt key d then b else a) ∧ chainOk n key (y :: l) (d + 1)
theorem colB_of {n : Nat} {x y : List UInt8} (h : x ≠ y) (hs : sumB n x = sumB n y) : colB n x y = true := by
 unfold colB
 rw [decide_eq_false h, decide_eq_true hs]
 rfl
theorem chain_sound (n : Nat) (key : B32) (ws : List (List UInt8)) : ∀ (ls : List (List UInt8)) (d : Nat), chainOk n key ws d → chainOk n key ls d → sumB n (ws.headD []) = sumB n (ls.headD []) →
  (difI ws ls < min ws.length ls.length ∧ colB n (ws.getD (difI ws ls) []) (ls.getD (difI ws ls) []) = true) ∨ (¬ difI ws ls < min ws.length ls.length ∧ ws.getLast? = ls.getLast?) := by
 induction ws with
 | nil => exact fun _ _ h => h.elim
 | cons x ws ih =>
  intro ls d hw hl hs
  cases ls with
  | nil => exact hl.elim
  | cons y ls =>
   by_cases hxy : x = y
   ·subst hxy
    have hd : difI (x :: ws) (x :: ls) = difI ws ls + 1 := by rw [difI, if_pos rfl]
    cases ws with
    | nil =>
     cases ls with
     | nil =>
      refine .inr ⟨?_, rfl⟩
      rw [hd]
      exact fun h => absurd h (by simp)
     | cons z l =>
      obtain ⟨⟨a, b, e, -⟩, -⟩ := hl
      rcases hw with h | ⟨lf, h⟩
      ·exact (preE_preN (h.symm.trans e)).elim
      ·exact (preL_preN (h.symm.trans e)).elim
    | cons z w =>
     cases ls with
     | nil =>
      obtain ⟨⟨a, b, e, -⟩, -⟩ := hw
      rcases hl with h | ⟨lf, h⟩
      ·exact (preE_preN (h.symm.trans e)).elim
      ·exact (preL_preN (h.symm.trans e)).elim
     | cons z' l =>
      obtain ⟨⟨a, b, e, h1⟩, hw2⟩ := hw
      obtain ⟨⟨a', b', e', h1'⟩, hl2⟩ := hl
      obtain ⟨ea, eb⟩ := preN_inj (e.symm.trans e')
      have hsz : sumB n z = sumB n z' := by rw [h1, h1', ea, eb]
      rcases ih (z' :: l) (d + 1) hw2 hl2 hsz with ⟨h2, h3⟩ | ⟨h2, h3⟩
      ·refine .inl ⟨?_, ?_⟩
       ·rw [hd]
        rw [List.length_cons (a := x), List.length_cons (a := x)]
        omega
       ·rw [hd]
        exact h3
      ·refine .inr ⟨?_, ?_⟩
       ·rw [hd]
        rw [List.length_cons (a := x), List.length_cons (a := x)]
        omega
       ·rw [List.getLast?_cons_cons, List.getLast?_cons_cons, h3]
   ·have hd : difI (x :: ws) (y :: ls) = 0 := by rw [difI, if_neg hxy]
    refine .inl ⟨?_, ?_⟩
    ·rw [hd]
     simp only [List.length_cons]
     omega
    ·rw [hd]
     exact colB_of hxy hs
theorem findP_col {n : Nat} {key : B32} {ws ls : List (List UInt8)} {d : Nat} (hw : chainOk n key ws d) (hl : chainOk n key ls d) (hs : sumB n (ws.headD []) = sumB n (ls.headD [])) (a b : List UInt8) (he : ws.getLast? = ls.getLast? → colB n a b = true) : colB n (findP ws ls a b).1 (findP ws ls a b).2 = true := by
 unfold findP
 rcases chain_sound n key ws ls d hw hl hs with ⟨h1, h2⟩ | ⟨h1, h2⟩
 ·rw [if_pos h1]
  exact h2
 ·rw [if_neg h1]
  exact he h2
theorem preT_end {n : Nat} {t : Tr} (h : t.kind ≠ 2) : preT n t = preE ∨ ∃ lf, preT n t = preL lf := by
 cases t with
 | nil => exact .inl rfl
 | leaf k v => exact .inr ⟨_, rfl⟩
 | node l r => exact absurd rfl h
theorem chain_tree {n : Nat} {key : B32} {t : Tr} {D : Nat} (w : WayTo key t D) : ∀ j k, k + j = D → chainOk n key ((List.range' k (j + 1)).map fun i => preT n (wayK key t i)) k
 | 0, k, h => by
  obtain rfl : k = D := h
  exact preT_end w.end_
 | j + 1, k, h => by
  have ih := chain_tree (n := n) w j (k + 1) (by omega)
  rw [List.range'_succ, List.map_cons]
  rw [List.range'_succ, List.map_cons] at ih ⊢
  refine ⟨?_, ih⟩
  have hk := w.on k (by omega)
  show ∃ a b, preT n (wayK key t k) = preN a b ∧ sumB n (preT n ((wayK key t k).sub (bitAt key k))) = if bitAt key k then b else a
  cases hT : wayK key t k with
  | nil => rw [hT] at hk; cases hk
  | leaf k v => rw [hT] at hk; cases hk
  | node l r =>
   refine ⟨dgT n l, dgT n r, rfl, ?_⟩
   rw [← preT_dg]
   cases bitAt key k <;> rfl
theorem wayPre_chain {n : Nat} {key : B32} {t : Tr} {D : Nat} (w : WayTo key t D) : chainOk n key (wayPre n key t (D + 1)) 0 := by
 unfold wayPre
 rw [List.range_eq_range']
 exact chain_tree w D 0 (by omega)
theorem wayPre_head (n : Nat) (key : B32) (t : Tr) (D : Nat) : sumB n ((wayPre n key t (D + 1)).headD []) = dgT n t := by
 unfold wayPre
 rw [List.range_eq_range', List.range'_succ, List.map_cons]
 exact (preT_dg n t).symm
theorem wayPre_last (n : Nat) (key : B32) (t : Tr) (D : Nat) : (wayPre n key t (D + 1)).getLast? = some (preT n (wayK key t D)) := by
 rw [wayPre_succ, List.getLast?_concat]
theorem endP_end (p : Proof) : endP p = preE ∨ ∃ lf, endP p = preL lf := by
 unfold endP
 split
 ·exact .inr ⟨_, rfl⟩
 ·exact .inl rfl
theorem chain_pre (n : Nat) (key : B32) (ds : List B32) (p : Proof) : ∀ k, k ≤ ds.length → chainOk n key (preLs n key ds (endP p) (k + 1)).reverse (ds.length - k)
 | 0, _ => endP_end p
 | k + 1, h => by
  have ih := chain_pre n key ds p k (by omega)
  rw [preLs_succ] at ih ⊢
  rw [preLs_succ]
  have e1 : ds.length - (k + 1) + 1 = ds.length - k := by omega
  have e2 : ds.length - (k + 1) = ds.length - 1 - k := by omega
  refine ⟨?_, by rw [e1]; exact ih⟩
  rw [e2, wayP]
  split
  ·exact ⟨_, _, rfl, rfl⟩
  ·exact ⟨_, _, rfl, rfl⟩
theorem prePl_chain (n : Nat) (key : B32) (p : Proof) (ss : List B32) : chainOk n key (prePl n key p ss) 0 := by
 have h := chain_pre n key (expL (sumB n preE) p.bitmap ss p.depth.toNat) p p.depth.toNat (by rw [expL_len]; exact Nat.le_refl _)
 rw [expL_len, Nat.sub_self] at h
 exact h
theorem prePl_head (n : Nat) (key : B32) (p : Proof) (ss : List B32) (hc : checkP p = 0) : sumB n ((prePl n key p ss).headD []) = rootP n (dpOf p ss) key := by
 have hk := ok_kind hc
 have he : endP ((dpOf p ss).pr none 0) = endP p := by
  unfold endP DP.pr dpOf
  dsimp only
  rw [show ((p.kind.toNat : Nat) : Int) = p.kind by omega]
 unfold prePl rootP
 rw [preLs_succ, he]
 rfl
theorem prePl_last (n : Nat) (key : B32) (p : Proof) (ss : List B32) : (prePl n key p ss).getLast? = some (endP p) := by
 unfold prePl preLs
 rw [List.getLast?_reverse, List.range_succ_eq_map]
 rfl
theorem pres_chain (n : Nat) (key : B32) : ∀ (t : Sub) (d : Nat), (t.endI key d).1.kind ≠ 3 → chainOk n key (t.pres n key d) d ∧ sumB n ((t.pres n key d).headD []) = dgS n t ∧ (t.pres n key d).getLast? = some (preI (t.endI key d).1)
 | .one x, d, h => by
  rw [pres_one]
  refine ⟨?_, ?_, rfl⟩
  ·show preI x = preE ∨ ∃ lf, preI x = preL lf
   unfold preI
   split
   ·exact .inr ⟨_, rfl⟩
   ·exact .inl rfl
  ·show sumB n (preI x) = if x.kind = 3 then x.digest else sumB n (preI x)
   rw [if_neg (show x.kind ≠ 3 from h)]
 | .two l r, d, h => by
  rw [pres_two]
  have hkey : ∀ (q : Sub) (b : Bool), bitAt key d = b → q = (if b then r else l) → (q.endI key (d + 1)).1.kind ≠ 3 → chainOk n key (preN (dgS n l) (dgS n r) :: q.pres n key (d + 1)) d ∧ sumB n ((preN (dgS n l) (dgS n r) :: q.pres n key (d + 1)).headD []) = dgS n (.two l r) ∧ (preN (dgS n l) (dgS n r) :: q.pres n key (d + 1)).getLast? = some (preI (q.endI key (d + 1)).1) := by
   intro q b hb hq hk
   have ih : chainOk n key (q.pres n key (d + 1)) (d + 1) ∧ sumB n ((q.pres n key (d + 1)).headD []) = dgS n q ∧ (q.pres n key (d + 1)).getLast? = some (preI (q.endI key (d + 1)).1) := by
    cases b
    ·rw [hq] at hk ⊢
     exact pres_chain n key l (d + 1) hk
    ·rw [hq] at hk ⊢
     exact pres_chain n key r (d + 1) hk
   obtain ⟨i1, i2, i3⟩ := ih
   cases hp : q.pres n key (d + 1) with
   | nil => rw [hp] at i1; exact i1.elim
   | cons y ys =>
    rw [hp] at i1 i2 i3
    refine ⟨⟨⟨_, _, rfl, ?_⟩, i1⟩, rfl, ?_⟩
    ·rw [show sumB n y = dgS n q from i2, hq, hb]
     cases b <;> rfl
    ·rw [List.getLast?_cons_cons, i3]
  have he : (Sub.two l r).endI key d = if bitAt key d then r.endI key (d + 1) else l.endI key (d + 1) := rfl
  rw [he] at h ⊢
  cases hb : bitAt key d
  ·rw [hb] at h
   exact hkey l false hb rfl h
  ·rw [hb] at h
   exact hkey r true hb rfl h
theorem end_col (n : Nat) {m : List En} {key : B32} {D : Nat} (w : WayM key m D) (P : Proof) (c : Claim) (kb vb : List UInt8) (hkey : keyOf kb = key) (hc : claimE c = 0) (hs : supP P key (valD n c.present vb) c.present = true) (ht : trueC m c kb vb = false) (he : preT n (wayK key (mkT m 0) D) = endP P) : colB n (preV (getV (getE' m key))) (preV vb) = true := by
 have hle := w.way.le
 rw [w.on D (Nat.le_refl _)] at he
 unfold trueC at ht
 rw [hkey, decide_eq_true hc, Bool.true_and] at ht
 have hyes : c.present = true → P.kind = 1 ∧ P.leaf = ⟨key, sumB n (preV vb)⟩ := fun hp => by
  rw [hp] at hs
  unfold supP at hs
  rw [if_pos rfl] at hs
  exact of_decide_eq_true hs
 have hno : c.present = false → (P.kind = 1 ∧ P.leaf.key ≠ key) ∨ P.kind ≠ 1 := fun hp => by
  rw [hp] at hs
  unfold supP at hs
  rw [if_neg (by simp)] at hs
  by_cases h1 : P.kind = 1
  ·rw [if_pos h1] at hs
   exact .inl ⟨h1, (of_decide_eq_true hs).1⟩
  ·exact .inr h1
 rcases end_get w.last with ⟨h1, h2⟩ | ⟨e, h1, hb, ⟨hk, h2⟩ | ⟨hk, h2⟩⟩
 ·rw [h1, mkT_nil] at he
  rw [h2] at ht
  cases hp : c.present
  ·rw [hp] at ht; cases ht
  ·obtain ⟨a1, a2⟩ := hyes hp
   unfold endP at he
   rw [if_pos a1] at he
   exact (preE_preL he).elim
 ·rw [h1, mkT_one e hle] at he
  rw [h2] at ht ⊢
  cases hp : c.present
  ·unfold endP at he
   rcases hno hp with ⟨a1, a2⟩ | a1
   ·rw [if_pos a1] at he
    exact absurd ((congrArg Leaf.key (preL_inj he)).symm.trans hk) a2
   ·rw [if_neg a1] at he
    exact (preE_preL he.symm).elim
  ·obtain ⟨a1, a2⟩ := hyes hp
   unfold endP at he
   rw [if_pos a1, a2] at he
   have hv : sumB n (preV e.val) = sumB n (preV vb) := congrArg Leaf.value (preL_inj he)
   refine colB_of (fun h => ?_) hv
   have hev : e.val = vb := (List.cons.inj h).2
   rw [hp] at ht
   rw [show getV (some e) = e.val from rfl, decide_eq_true hev] at ht
   cases ht
 ·rw [h1, mkT_one e hle] at he
  rw [h2] at ht
  cases hp : c.present
  ·rw [hp] at ht; cases ht
  ·obtain ⟨a1, a2⟩ := hyes hp
   unfold endP at he
   rw [if_pos a1, a2] at he
   exact absurd (congrArg Leaf.key (preL_inj he)) hk
theorem single_col (n : Nat) {m : List En} {D : Nat} (c : Claim) (kb vb : List UInt8) (w : WayM (keyOf kb) m D) (p0 : Proof) (ss : List B32) (ha : accV n (dgT n (mkT m 0)) c kb vb p0 ss = true) (ht : trueC m c kb vb = false) (x y : List UInt8) (hF : findP (wayPre n (keyOf kb) (mkT m 0) (D + 1)) (prePl n (keyOf kb) p0 ss) (preV (getV (getE' m (keyOf kb)))) (preV vb) = (x, y)) : colB n x y = true := by
 unfold accV at ha
 simp only [Bool.and_eq_true, decide_eq_true_eq] at ha
 obtain ⟨⟨hc, hk⟩, hs, hr⟩ := ha
 have h := findP_col (wayPre_chain (n := n) w.way) (prePl_chain n (keyOf kb) p0 ss) (by rw [wayPre_head, prePl_head n _ p0 ss hk, hr]) (preV (getV (getE' m (keyOf kb)))) (preV vb) (fun he => by
  rw [wayPre_last, prePl_last] at he
  exact end_col n w p0 c kb vb rfl hc hs ht (Option.some.inj he))
 rw [hF] at h
 exact h
theorem batch_col (n : Nat) {m : List En} (hal : Alike m 0) (l : List CB) (its0 : List Item) (t : Sub) (hp : parseM its0 = .ok t) (ha : accM n (dgT n (mkT m 0)) l its0 = true) (i : Nat) (hi : i < l.length) (ht : trueC m (l.getD i zCB).c (l.getD i zCB).kb (l.getD i zCB).vb = false) (x y : List UInt8) (hF : pairF n m (l.getD i zCB) (t.pres n (keyOf (l.getD i zCB).kb) 0) = (x, y)) : colB n x y = true := by
 obtain ⟨hcl, t', hp', hsh⟩ := accM_ok ha
 rw [hp] at hp'
 injection hp' with hp'
 subst hp'
 obtain ⟨hke, hce⟩ := claimsR_ok hcl
 have hk3 := show_kind hp hsh hi
 have hfit := showR_fits hsh
 have hks := keysE_ok hke
 have hends := endsM_map t (keysC l) 0 hks.2.2 (fun a _ b _ i hi => absurd hi (Nat.not_lt_zero _)) hfit
 unfold showR at hsh
 rw [if_pos hfit, hends, List.length_map, keysC_len] at hsh
 have hkg := keysC_get hi
 have hw := wayM_dep hal (keyOf (l.getD i zCB).kb)
 unfold pairF at hF
 obtain ⟨hz, hroot⟩ : (∀ j, 0 ≤ j → j < 0 + l.length → showE n ((keysC l).map fun k => t.endI k 0) l j = 0) ∧ dgS n t = dgT n (mkT m 0) := by
  cases hff : firstF (showE n ((keysC l).map fun k => t.endI k 0) l) l.length 0 with
  | some r => rw [hff] at hsh; cases hsh
  | none =>
   rw [hff] at hsh
   dsimp only at hsh
   refine ⟨firstF_zero _ _ _ hff, ?_⟩
   by_cases h : dgS n t = dgT n (mkT m 0)
   ·exact h
   ·rw [if_neg h] at hsh; cases hsh
 have hsi := hz i (Nat.zero_le _) (by omega)
 unfold showE at hsi
 rw [List.getD_eq_getElem?_getD (l := List.map _ _), List.getElem?_map, hkg] at hsi
 simp only [Option.map_some, Option.getD_some] at hsi
 obtain ⟨c1, c2, c3⟩ := pres_chain n (keyOf (l.getD i zCB).kb) t 0 hk3
 have hsup : supP (endPr (t.endI (keyOf (l.getD i zCB).kb) 0)) (keyOf (l.getD i zCB).kb) (valD n (l.getD i zCB).c.present (l.getD i zCB).vb) (l.getD i zCB).c.present = true := by
  have hsi2 : (if supP (endPr (t.endI (keyOf (l.getD i zCB).kb) 0)) (keyOf (l.getD i zCB).kb) (valD n (l.getD i zCB).c.present (l.getD i zCB).vb) (l.getD i zCB).c.present then (0 : Int) else 12) = 0 := hsi
  split at hsi2
  ·assumption
  ·cases hsi2
 have h := findP_col (wayPre_chain (n := n) hw.way) c1 (by rw [wayPre_head, c2, hroot]) (preV (getV (getE' m (keyOf (l.getD i zCB).kb)))) (preV (l.getD i zCB).vb) (fun he => by
  rw [wayPre_last, c3] at he
  exact end_col n hw _ _ _ _ rfl (hce i hi) hsup ht (Option.some.inj he))
 rw [hF] at h
 exact h
end Go.Proofs.YtjhocljhhpkiiaaGreatDoor
/- U153 -/
namespace Go.Proofs.YtjhocljhhpkiiaaGreatDoor
open Go.RowKit
theorem rPre_z (p : Proof) (hc : checkP p = 0) (ss : List B32) (hs : p.sibs.n = ss.length) (key : B32) (n : Nat) (hn : n ≤ 256) (h : Zh) [hS : RdZ h p.sibs.A (dgs ss)] (d : Nat) (hd : p.depth = (d : Int)) : Spec Tryz.prog 34 [.int .i64 (n : Int), .agg p.cells.toArray, .agg key.cells.toArray].toArray [] [.zone true h] (fun u : {u : Zh × Nat × Nat × List Seg // LeZ h u.1 ∧ SegsZ u.1 u.2.2.2 (preLs n key (expL (sumB n preE) p.bitmap ss d) (endP p) (d + 1)).reverse ∧ RdZ u.1 (some ⟨u.2.1, 0, none⟩) (svs u.2.2.2)} => .slice (some ⟨u.1.2.1, 0, none⟩) (d + 1) u.1.2.2.1) (fun u => [.zone true u.1.1]) := by
 refine (rPre_s p hc ss hs key n hn d hd).weakE ?_
 rintro ⟨⟨g, c, ys⟩, hys⟩ W w s
 dsimp only at hys s ⊢
 refine Sx.ofH (φ := fun w => ∃ y : {u : Zh × Nat × Nat × List Seg // LeZ h u.1 ∧ SegsZ u.1 u.2.2.2 (preLs n key (expL (sumB n preE) p.bitmap ss d) (endP p) (d + 1)).reverse ∧ RdZ u.1 (some ⟨u.2.1, 0, none⟩) (svs u.2.2.2)}, Value.slice (some ⟨g, 0, none⟩) (d + 1) c = .slice (some ⟨y.1.2.1, 0, none⟩) (d + 1) y.1.2.2.1 ∧ Rx [.zone true h] W w [.zone true y.1.1]) ?_ s
 refine h_freezeSegs ys _ hys fun z1 hz1 hs1 => ?_
 refine h_freezeO (.slice (some ⟨g, 0, none⟩) (d + 1) c) fun z2 B2 c2 e2 hle2 hlen2 hnil2 hz2 hr2 => ?_
 injection e2 with e2 _ e3
 subst e2 e3
 exact fun a w ka s => ⟨⟨(z2, g, c, ys), hz1.trans hz2, hs1.mono hz2, hr2⟩, rfl, (same (L' := [.zone true z2]) w s).res (List.Sublist.refl _) (by simp [Fa.wr])⟩
theorem last_acc (n : Nat) (root : B32) (c : Claim) (kb vb : List UInt8) (p : Proof) (ss : List B32) (hs : p.sibs.n = ss.length) (h1 : claimE c = 0) (h2 : checkP p = 0) : decide ((lastSC n root c kb vb (dpOf p ss)).2 = 0) = accV n root c kb vb p ss := by
 have hpe := dpOf_pr hs h2
 have hsu : supP ((dpOf p ss).pr none 0) (keyOf kb) (valD n c.present vb) c.present = supP p (keyOf kb) (valD n c.present vb) c.present := by
  conv => rhs; rw [hpe]
  rfl
 unfold lastSC accV
 rw [hsu, decide_eq_true h1, decide_eq_true h2]
 by_cases hb : supP p (keyOf kb) (valD n c.present vb) c.present = true
 ·rw [if_pos hb, hb]
  by_cases hq : rootP n (dpOf p ss) (keyOf kb) = root
  ·rw [if_pos hq, decide_eq_true hq]; rfl
  ·rw [if_neg hq, decide_eq_false hq]; rfl
 ·rw [if_neg hb]
  have hb' : supP p (keyOf kb) (valD n c.present vb) c.present = false := by simpa using hb
  rw [hb']; rfl
theorem getD_len {ws : List (List UInt8)} {N : Nat} (h : ∀ w ∈ ws, w.length ≤ N) (i : Nat) : (ws.getD i []).length ≤ N := by
 rw [List.getD_eq_getElem?_getD]
 cases hi : ws[i]? with
 | none => exact Nat.zero_le _
 | some w => exact h w (List.mem_of_getElem? hi)
theorem findP_len {ws ls : List (List UInt8)} {a b x y : List UInt8} (hF : findP ws ls a b = (x, y)) {N : Nat} (hw : ∀ w ∈ ws, w.length ≤ N) (hl : ∀ w ∈ ls, w.length ≤ N) (ha : a.length ≤ N) (hb : b.length ≤ N) : x.length ≤ N ∧ y.length ≤ N := by
 unfold findP at hF
 split at hF
 ·injection hF with h1 h2
  subst h1 h2
  exact ⟨getD_len hw _, getD_len hl _⟩
 ·injection hF with h1 h2
  subst h1 h2
  exact ⟨ha, hb⟩
theorem wayPre_mem {n : Nat} {key : B32} {t : Tr} {N : Nat} : ∀ w ∈ wayPre n key t N, w.length ≤ 65 := fun w h => by
 obtain ⟨i, -, rfl⟩ := List.mem_map.1 h
 exact preT_len n _
theorem prePl_mem {n : Nat} {key : B32} {p : Proof} {ss : List B32} : ∀ w ∈ prePl n key p ss, w.length ≤ 65 := fun w h => by
 obtain ⟨i, -, rfl⟩ := List.mem_map.1 (List.mem_reverse.1 h)
 exact wayP_len n key _ _ (endP_len p) i
theorem rFind22_n (n : Nat) (hn : n ≤ 256) (h : Zh) (m : List En) (B : Option Addr) (cB : Nat) [hB : RdZ h B (ents m)] (hv : ValsZ h m) (hal : Alike m 0) (hm : m.length ≤ 1000000) (c : Claim) (kb vb : List UInt8) [hK : SlZ h c.key kb] [hV : SlZ h c.value vb] (hk32 : kb.length = 32) (hvb : vb.length ≤ 100000000) (D : Nat) (w : WayM (keyOf kb) m D) (ys : List Seg) (ls : List (List UInt8)) (Y : Option Addr) (cy N : Nat) [hY : RdZ h Y (svs ys)] (hys : SegsZ h ys ls) (hN : ls.length = N) (hNl : N ≤ 1000000) (x y : List UInt8) (hF : findP (wayPre n (keyOf kb) (mkT m 0) (D + 1)) ls (preV (getV (getE' m (keyOf kb)))) (preV vb) = (x, y)) : Spec Tryz.prog 33 [.int .i64 (n : Int), .slice B m.length cB, .agg c.cells.toArray, .slice Y N cy].toArray [] [.zone true h] (fun u : {u : Zh × (Option Addr × Nat) × (Option Addr × Nat) // LeZ h u.1 ∧ PZ u.1 u.2.1.1 u.2.1.2 x ∧ PZ u.1 u.2.2.1 u.2.2.2 y} => .tuple #[.slice u.1.2.1.1 x.length u.1.2.1.2, .slice u.1.2.2.1 y.length u.1.2.2.2]) (fun u => [.zone true u.1.1]) := by
 obtain rfl : ys.length = N := by rw [hys.len, hN]
 exact rFind22_s n hn h m B cB hv hal hm c kb vb hk32 hvb D w ys ls Y cy hys hNl x y hF
section
variable (h : Zh) [hT : RdZ h (some ⟨1, 0, none⟩) hashT]
theorem ExtractSingle_s (i : Int) (l : List En) (B : Option Addr) (c' : Nat) [hB : RdZ h B (ents l)] (hv : SlsZ h l) (c : Claim) (kb vb : List UInt8) [hK : SlZ h c.key kb] [hV : SlZ h c.value vb] (p : Proof) (ss : List B32) (hss : p.sibs.n = ss.length) [hS : RdZ h p.sibs.A (dgs ss)] : Spec Tryz.prog 6 [.int .i64 i, .slice B l.length c', .agg (CPf.cells ⟨c, p⟩).toArray].toArray [] [.zone true h] (fun _ : {x : Zh // LeZ h x} => .bool true) (fun x => [.zone true x.1]) := by
 have hSh := Short_s c
 have hvn := hV.len
 have hkn := hK.len
 have hCl := rClaim18_s c
 have hCk := rCheck_s p
 refine spec_of Tryz.func6 rfl (n := 134) rfl rfl ?_
 intro W
 by_cases hi : 0 ≤ i ∧ i ≤ 256
 ·obtain ⟨n, rfl⟩ : ∃ n : Nat, i = (n : Int) := ⟨i.toNat, by omega⟩
  have hn : n ≤ 256 := by omega
  by_cases hf : fewM l = true
  ·have hvl := hv.few hf
   have hal : Alike (ofM l) 0 := Alike.start (ofM_nodup l)
   have hlm : (ofM l).length ≤ 12 := Nat.le_trans (ofM_len l) (by unfold fewM at hf; rw [Bool.and_eq_true, decide_eq_true_eq] at hf; exact hf.1)
   refine yR ?_
   refine h_opX (x_box rfl) fun g5 => ?_
   refine yS rfl ?_
   refine yN ?_
   refine yR ?_
   refine yM rfl ?_
   refine yM rfl ?_
   refine h_call ((Tree_yes n hn l B c' hf h hvl).comes) rfl rfl rfl fun ⟨⟨h1, q1, A1, c1⟩, hle1, ht1⟩ => ?_
   dsimp only at hle1 ht1 ⊢
   refine h_freezeO (.slice A1 (ofM l).length c1) fun h2 B2 c2 e2 hle2 hlen2 hnil2 hz2 hr2 => ?_
   injection e2 with e2 _ e3
   subst e2 e3
   have hz02 := hle1.trans hz2
   have hT2 : RdZ h2 (some ⟨1, 0, none⟩) hashT := hT.mono hz02
   have ht2 : TrZ n h2 (mkT (ofM l) 0) q1 := ⟨ht1.ok.mono hz2⟩
   refine yM rfl ?_
   refine h_op (r_extract rfl rfl) ?_
   refine h_op (r_extract rfl rfl) ?_
   refine h_op (r_extract rfl rfl) ?_
   refine yS rfl ?_
   refine yS rfl ?_
   refine yS rfl ?_
   refine yN ?_
   refine yR ?_
   refine yM rfl ?_
   refine h_call ((Hash_s n hn).comes) rfl rfl rfl fun ⟨gh, gc⟩ => ?_
   dsimp only
   refine yS rfl ?_
   refine yN ?_
   refine h_seq ?_
   refine h_join (fun (u : Nat × Nat) => [(12, .pointer (some ⟨u.2, 0, none⟩)), (11, .pointer (some ⟨u.1, 0, none⟩)), (10, .pointer (some ⟨gh, 0, none⟩)), (9, .bool true), (8, .pointer q1), (7, .slice A1 (ofM l).length c1), (0, .int .i64 (n : Int))]) (fun (u : Nat × Nat) => [.blk u.1 c.cells 25, .blk u.2 p.cells 54, .zone true h2, .blk gh [.pointer (some ⟨gc, 0, none⟩), .int .i64 (n : Int)] 142, CN gc 0]) (fun kk => ?_) ?_
   ·refine ha_start [.blk g5 (CPf.cells ⟨c, p⟩) 56] [] mixed (same) ?_
    refine ha_takeP 0 rfl (r_field rfl) ?_
    refine ha_take 1 rfl (r_loadr rfl) ?_
    refine ha_takeP 2 rfl (r_field rfl) ?_
    refine ha_take 3 rfl (r_loadr rfl) ?_
    refine ha_two 4 5 ?_ ?_
    ·refine ho_X 4 rfl (rk (x_alloc)) (fun _ => same) fun g11 => ?_
     refine ha_one 5 ?_
     refine ho_X 5 rfl (rk (x_alloc)) (fun _ => same) fun g12 => ?_
     refine ha_one 6 ?_
     refine ho_S 6 rfl (s_storer rfl rfl) (same) ?_
     refine ha_one 7 ?_
     refine ho_SL 7 rfl (s_storer rfl rfl) ?_
     exact h_K (kk (g11, g12)) (⟨rfl, rfl, rfl, rfl, rfl, rfl, rfl, trivial⟩) same
    ·refine ho_X 5 rfl (rk (x_alloc)) (fun _ => same) fun g12 => ?_
     refine ha_one 4 ?_
     refine ho_X 4 rfl (rk (x_alloc)) (fun _ => same) fun g11 => ?_
     refine ha_one 6 ?_
     refine ho_S 6 rfl (s_storer rfl rfl) (same) ?_
     refine ha_one 7 ?_
     refine ho_SL 7 rfl (s_storer rfl rfl) ?_
     exact h_K (kk (g11, g12)) (⟨rfl, rfl, rfl, rfl, rfl, rfl, rfl, trivial⟩) same
   rintro ⟨g11, g12⟩
   refine q_then ?_
   dsimp only
   by_cases hsh : c.key.n ≤ 100 ∧ c.value.n ≤ 70000
   ·rw [if_pos hsh] at hSh
    refine h_seq ?_
    refine yR ?_
    refine yM rfl ?_
    refine h_op (r_not rfl) ?_
    refine yM rfl ?_
    refine h_op (r_loadr rfl) ?_
    refine h_call (hSh.comes) rfl rfl rfl fun _ => ?_
    by_cases hr : p.sibs.n ≤ 300
    ·refine h_op (r_bool (r_eql rfl rfl) rfl) ?_
     refine h_op (r_pick rfl rfl) ?_
     refine yM rfl ?_
     refine h_op (r_field rfl) ?_
     refine h_op (r_loadc rfl) ?_
     refine h_op (r_len rfl) ?_
     refine h_op (r_bool (r_gtr rfl rfl) (decide_eq_false (show ¬ (300 : Int) < (p.sibs.n : Int) by omega))) ?_
     refine h_op (r_pick rfl rfl) ?_
     refine yN ?_
     refine h_condF rfl ?_
     refine h_skip ?_
     refine q_then ?_
     refine yR ?_
     refine yM rfl ?_
     refine yM rfl ?_
     refine h_op (r_loadr rfl) ?_
     refine h_op (r_loadr rfl) ?_
     obtain ⟨D, hw⟩ := wayM (key := keyOf kb) hal
     have hD := hw.way.le
     obtain ⟨o, ho⟩ : ∃ o, singleR n (ofM l) D c kb vb p ss = o := ⟨_, rfl⟩
     have hvl2 := ValsZ.few hvl hz02
     have hSi := xSingle_s n hn h2 gh gc 0 (by decide) (ofM l) hal q1 c kb vb (hK := hK.mono hz02) (hV := hV.mono hz02) (by omega) (fun e he => by have := (hvl2 e he).2; omega) D hw p ss hss (hS := hS.mono hz02) o ho
     unfold singleR at ho
     by_cases h1 : claimE c = 0
     ·by_cases h2 : checkP p = 0
      ·have hk32 : kb.length = 32 := by
        unfold claimE at h1
        split at h1
        ·omega
        ·cases h1
       have hpe := dpOf_pr hss h2
       have hck2 : checkP ((dpOf p ss).pr none 0) = 0 := by rw [checkP_sib _ none p.sibs.A 0 p.sibs.c, ← hpe]; exact h2
       obtain ⟨a, ha⟩ : ∃ a, accV n (dgT n (mkT (ofM l) 0)) c kb vb p ss = a := ⟨_, rfl⟩
       rw [ha] at ho
       cases a
       ·obtain rfl : none = o := ho
        refine h_call (hSi.comes) rfl rfl rfl fun ⟨⟨h3, X, Y, k3⟩, hz3, hXY, hk3⟩ => ?_
        dsimp only at hz3 hXY hk3 ⊢
        have hz03 := hz02.trans hz3
        have hT3 : RdZ h3 (some ⟨1, 0, none⟩) hashT := hT.mono hz03
        have hK3 := hK.mono hz03
        have hV3 := hV.mono hz03
        have hr3 : RdZ h3 A1 (ents (ofM l)) := hr2.mono hz3
        have hv3 := hvl2.mono hz3
        have hLa := rLast18_s n hn h3 c kb vb (by omega) hk32 (dgT n (mkT (ofM l) 0)) (dpOf p ss) p.sibs.A p.sibs.c hck2 (hS := hS.mono hz03)
        rw [← hpe] at hLa
        have hla := last_acc n (dgT n (mkT (ofM l) 0)) c kb vb p ss hss h1 h2
        rw [ha] at hla
        have hRo := Root_any n hn h3 (show 0 ≤ 256 by omega) hal (by omega) hv3 A1 c1
        rw [show rootM n (ofM l) 0 = dgT n (mkT (ofM l) 0) from rfl] at hRo
        rw [h1] at hCl
        rw [h2] at hCk
        generalize (lastSC n (dgT n (mkT (ofM l) 0)) c kb vb (dpOf p ss)).2 = e at *
        refine yM rfl ?_
        refine h_op (r_extract rfl rfl) ?_
        refine h_op (r_extract rfl rfl) ?_
        refine h_op (r_extract rfl rfl) ?_
        refine yS rfl ?_
        refine yS rfl ?_
        refine yS rfl ?_
        refine yN ?_
        refine yR ?_
        refine h_op (r_loadr rfl) ?_
        refine h_call (hCl.comes) rfl rfl rfl fun _ => ?_
        refine yM rfl ?_
        refine h_op (r_extract rfl rfl) ?_
        refine h_op (r_extract rfl rfl) ?_
        refine yS rfl ?_
        refine yS rfl ?_
        refine yN ?_
        refine h_seq ?_
        refine yR ?_
        refine yM rfl ?_
        refine h_op (r_bool (r_eql rfl rfl) rfl) ?_
        refine yM rfl ?_
        refine h_op (r_loadr rfl) ?_
        refine h_call (hCk.comes) rfl rfl rfl fun _ => ?_
        refine h_op (r_bool (r_eql rfl rfl) rfl) ?_
        refine h_op (r_pick rfl rfl) ?_
        refine yN ?_
        refine h_condT rfl ?_
        refine ha_start [.blk g11 c.cells 25, .blk g12 p.cells 54] [] mixed (same) ?_
        refine ha_takeP 0 rfl (r_move rfl) ?_
        refine ha_takeP 1 rfl (r_move rfl) ?_
        refine ha_takeP 2 rfl (r_move rfl) ?_
        refine ha_take 4 rfl (r_loadr rfl) ?_
        refine ha_take 5 rfl (r_loadr rfl) ?_
        refine ha_one 3 ?_
        refine ho_C 3 rfl (hRo.comes) rfl rfl rfl (fun xx => same) fun _ => ?_
        refine ha_one 6 ?_
        refine ho_C 6 rfl (hLa.comes) rfl rfl rfl (fun xx => same) fun _ => ?_
        refine ha_takeP 7 rfl (r_move rfl) ?_
        refine ha_takeP 8 rfl (r_extract rfl rfl) ?_
        refine ha_takeP 9 rfl (r_extract rfl rfl) ?_
        refine ha_takeP 10 rfl (r_assign rfl) ?_
        refine ha_done (by kernel_rfl) ?_
        refine q_then ?_
        have he : ¬ e = 0 := of_decide_eq_false hla
        refine h_seq ?_
        refine yR ?_
        refine yM rfl ?_
        refine h_op (r_bool (r_neq rfl rfl) (decide_eq_true he)) ?_
        refine yM rfl ?_
        refine h_opOff ?_
        refine h_opOff ?_
        refine h_opOff ?_
        refine h_op (r_pick rfl rfl) ?_
        refine yN ?_
        refine h_condT rfl ?_
        refine yR ?_
        refine h_call ((alive22_s h3).comes) rfl rfl rfl fun ⟨h4, hz4⟩ => ?_
        dsimp only
        refine yM rfl ?_
        refine yM rfl ?_
        refine h_op (r_not rfl) ?_
        refine h_op (r_pick rfl rfl) ?_
        refine yM rfl ?_
        refine yM rfl ?_
        refine h_op (r_len rfl) ?_
        refine h_op (r_bool (r_eql rfl rfl) rfl) ?_
        refine h_op (r_pick rfl rfl) ?_
        refine yM rfl ?_
        refine yM rfl ?_
        refine h_op (r_len rfl) ?_
        refine h_op (r_bool (r_eql rfl rfl) rfl) ?_
        refine h_op (r_pick rfl rfl) ?_
        refine yS rfl ?_
        refine yN ?_
        refine h_ret ?_
        refine q_thenR ?_
        exact h_ret1 rfl rfl fun w s => ⟨⟨h4, hz03.trans hz4⟩, rfl, (same (L' := [.zone true h4]) w s).res (List.Sublist.refl _) (by simp [Fa.wr])⟩
       ·obtain ⟨t, ht⟩ : ∃ t, trueC (ofM l) c kb vb = t := ⟨_, rfl⟩
        rw [ht] at ho
        cases t
        ·obtain ⟨⟨x, y⟩, hxy⟩ : ∃ xy, findP (wayPre n (keyOf kb) (mkT (ofM l) 0) (D + 1)) (prePl n (keyOf kb) p ss) (preV (getV (getE' (ofM l) (keyOf kb)))) (preV vb) = xy := ⟨_, rfl⟩
         rw [hxy] at ho
         obtain rfl : some (x, y) = o := ho
         refine h_call (hSi.comes) rfl rfl rfl fun ⟨⟨h3, X, Y, k3⟩, hz3, hXY, hk3⟩ => ?_
         dsimp only at hz3 hXY hk3 ⊢
         have hz03 := hz02.trans hz3
         have hT3 : RdZ h3 (some ⟨1, 0, none⟩) hashT := hT.mono hz03
         have hK3 := hK.mono hz03
         have hV3 := hV.mono hz03
         have hr3 : RdZ h3 A1 (ents (ofM l)) := hr2.mono hz3
         have hv3 := hvl2.mono hz3
         have hLa := rLast18_s n hn h3 c kb vb (by omega) hk32 (dgT n (mkT (ofM l) 0)) (dpOf p ss) p.sibs.A p.sibs.c hck2 (hS := hS.mono hz03)
         rw [← hpe] at hLa
         have hla := last_acc n (dgT n (mkT (ofM l) 0)) c kb vb p ss hss h1 h2
         rw [ha] at hla
         have hRo := Root_any n hn h3 (show 0 ≤ 256 by omega) hal (by omega) hv3 A1 c1
         rw [show rootM n (ofM l) 0 = dgT n (mkT (ofM l) 0) from rfl] at hRo
         rw [h1] at hCl
         rw [h2] at hCk
         generalize (lastSC n (dgT n (mkT (ofM l) 0)) c kb vb (dpOf p ss)).2 = e at *
         refine yM rfl ?_
         refine h_op (r_extract rfl rfl) ?_
         refine h_op (r_extract rfl rfl) ?_
         refine h_op (r_extract rfl rfl) ?_
         refine yS rfl ?_
         refine yS rfl ?_
         refine yS rfl ?_
         refine yN ?_
         refine yR ?_
         refine h_op (r_loadr rfl) ?_
         refine h_call (hCl.comes) rfl rfl rfl fun _ => ?_
         refine yM rfl ?_
         refine h_op (r_extract rfl rfl) ?_
         refine h_op (r_extract rfl rfl) ?_
         refine yS rfl ?_
         refine yS rfl ?_
         refine yN ?_
         refine h_seq ?_
         refine yR ?_
         refine yM rfl ?_
         refine h_op (r_bool (r_eql rfl rfl) rfl) ?_
         refine yM rfl ?_
         refine h_op (r_loadr rfl) ?_
         refine h_call (hCk.comes) rfl rfl rfl fun _ => ?_
         refine h_op (r_bool (r_eql rfl rfl) rfl) ?_
         refine h_op (r_pick rfl rfl) ?_
         refine yN ?_
         refine h_condT rfl ?_
         refine ha_start [.blk g11 c.cells 25, .blk g12 p.cells 54] [] mixed (same) ?_
         refine ha_takeP 0 rfl (r_move rfl) ?_
         refine ha_takeP 1 rfl (r_move rfl) ?_
         refine ha_takeP 2 rfl (r_move rfl) ?_
         refine ha_take 4 rfl (r_loadr rfl) ?_
         refine ha_take 5 rfl (r_loadr rfl) ?_
         refine ha_one 3 ?_
         refine ho_C 3 rfl (hRo.comes) rfl rfl rfl (fun xx => same) fun _ => ?_
         refine ha_one 6 ?_
         refine ho_C 6 rfl (hLa.comes) rfl rfl rfl (fun xx => same) fun _ => ?_
         refine ha_takeP 7 rfl (r_move rfl) ?_
         refine ha_takeP 8 rfl (r_extract rfl rfl) ?_
         refine ha_takeP 9 rfl (r_extract rfl rfl) ?_
         refine ha_takeP 10 rfl (r_assign rfl) ?_
         refine ha_done (by kernel_rfl) ?_
         refine q_then ?_
         have he : e = 0 := of_decide_eq_true hla
         have hTr := rTrue22_s h3 (ofM l) A1 c1 hv3 (by omega) c kb vb
         rw [ht] at hTr
         obtain ⟨hX, hY⟩ := hXY x y rfl
         have hcol := single_col n c kb vb hw p ss (by rw [show dgT n (mkT (ofM l) 0) = rootM n (ofM l) 0 from rfl]; exact ha) ht x y hxy
         have hgl := (getS_ok hv3 (keyOf kb)).2
         obtain ⟨hxl, hyl⟩ := findP_len hxy (N := 10000001) (fun w hw => Nat.le_trans (wayPre_mem w hw) (by decide)) (fun w hw => Nat.le_trans (prePl_mem w hw) (by decide)) (by unfold preV; rw [List.length_cons]; omega) (by unfold preV; rw [List.length_cons]; omega)
         have hdp := ok_depth h2
         obtain ⟨d, hd⟩ : ∃ d : Nat, p.depth = (d : Int) := ⟨p.depth.toNat, by omega⟩
         have hd2 : p.depth.toNat = d := by omega
         have hpl : prePl n (keyOf kb) p ss = (preLs n (keyOf kb) (expL (sumB n preE) p.bitmap ss d) (endP p) (d + 1)).reverse := by unfold prePl; rw [hd2]
         have hP := rPre_z p h2 ss hss (keyOf kb) n hn h3 (hS := hS.mono hz03) d hd
         rw [← hpl] at hP
         have hpll : (prePl n (keyOf kb) p ss).length = d + 1 := by rw [hpl, List.length_reverse, preLs_len]
         have hFi := fun z (hz : LeZ h3 z) ys Y cy (hY : RdZ z Y (svs ys)) hys => rFind22_n n hn z (ofM l) A1 c1 (hB := hr3.mono hz) (hv3.mono hz) hal (by omega) c kb vb (hK := hK3.mono hz) (hV := hV3.mono hz) hk32 (by omega) D hw ys (prePl n (keyOf kb) p ss) Y cy (d + 1) (hY := hY) hys hpll (by omega) x y hxy
         generalize prePl n (keyOf kb) p ss = pl at *
         have hKr : RdZ h3 c.key.A (keyOf kb).cells := by rw [keyOf_cells hk32]; exact hK3.rd
         obtain ⟨bK, oK, hKA, -⟩ := hKr.at_ 0 _ (List.getElem?_eq_getElem (by rw [B32.cells_length]; decide))
         rw [hKA] at hKr
         refine h_seq ?_
         refine yR ?_
         refine yM rfl ?_
         refine h_op (r_bool (r_neq rfl rfl) (decide_eq_false (fun h => h he))) ?_
         refine yM rfl ?_
         refine yM rfl ?_
         refine h_op (r_loadr rfl) ?_
         refine h_call (hTr.comes) rfl rfl rfl fun _ => ?_
         refine h_op (r_pick rfl rfl) ?_
         refine yN ?_
         refine h_condF rfl ?_
         refine h_skip ?_
         refine q_then ?_
         refine h_seq ?_
         refine ha_start [.zone false h3, .blk g11 c.cells 25, .blk g12 p.cells 54] [] mixed (zbL (LeZ.refl h3)) ?_
         refine ha_takeP 0 rfl (r_move rfl) ?_
         refine ha_takeP 1 rfl (r_move rfl) ?_
         refine ha_take 2 rfl (r_loadr rfl) ?_
         refine ha_takeP 3 rfl (r_move rfl) ?_
         refine ha_take 4 rfl (r_loadr rfl) ?_
         refine ha_takeP 5 rfl (r_field rfl) ?_
         refine ha_take 6 rfl (r_as (r_loadc rfl) (show _ = Value.slice (some ⟨bK, oK, none⟩) c.key.n c.key.c by rw [hKA])) ?_
         refine ha_takeP 7 rfl (r_arr rfl (hm := show 32 ≤ c.key.n by omega)) ?_
         refine ha_take 8 rfl (r_loadr rfl) ?_
         refine ha_one 9 ?_
         refine ho_C 9 rfl (hP.comes) rfl rfl rfl (fun xx => zbL xx.2.1) fun ⟨⟨h4, g110, c110, ys⟩, hz4, hys, hyr⟩ => ?_
         refine ha_one 10 ?_
         refine ho_C 10 rfl ((hFi h4 hz4 ys (some ⟨g110, 0, none⟩) c110 hyr hys).comes) rfl rfl rfl (fun xx => zbL (LeZ.trans hz4 xx.2.1)) fun ⟨⟨h5, X5, Y5⟩, hz5, hX5, hY5⟩ => ?_
         refine ha_takeP 11 rfl (r_move rfl) ?_
         refine ha_takeP 12 rfl (r_extract rfl rfl) ?_
         refine ha_takeP 13 rfl (r_extract rfl rfl) ?_
         refine ha_takeP 14 rfl (r_assign rfl) ?_
         refine ha_takeP 15 rfl (r_assign rfl) ?_
         refine ha_done (by kernel_rfl) ?_
         refine q_then ?_
         dsimp only at hz4 hys hyr
         dsimp only at hz5 hX5 hY5 ⊢
         have hz35 := hz4.trans hz5
         refine yR ?_
         refine h_call ((alive22_s h5 (hT := hT3.mono hz35)).comes) rfl rfl rfl fun ⟨h6, hz6⟩ => ?_
         dsimp only
         have hX6 := hX.mono (hz35.trans hz6)
         have hY6 := hY.mono (hz35.trans hz6)
         have hX56 := hX5.mono hz6
         have hY56 := hY5.mono hz6
         have rX6 := hX6.rd
         have rY6 := hY6.rd
         have rX56 := hX56.rd
         have rY56 := hY56.rd
         have hS1 := rSame_s x x X.1 X5.1 X.2 X5.2 (by omega)
         have hS2 := rSame_s y y Y.1 Y5.1 Y.2 Y5.2 (by omega)
         have hCo := rCollide22_s n hn x y X.1 Y.1 X.2 Y.2 hX6.nil hY6.nil (by omega) (by omega)
         rw [hcol] at hCo
         rw [decide_eq_true rfl] at hS1 hS2
         refine yM rfl ?_
         refine yM rfl ?_
         refine h_op (r_pick rfl rfl) ?_
         refine yM rfl ?_
         refine yM rfl ?_
         refine yM rfl ?_
         refine h_call (hS1.comes) rfl rfl rfl fun _ => ?_
         refine h_op (r_pick rfl rfl) ?_
         refine yM rfl ?_
         refine yM rfl ?_
         refine yM rfl ?_
         refine h_call (hS2.comes) rfl rfl rfl fun _ => ?_
         refine h_op (r_pick rfl rfl) ?_
         refine yM rfl ?_
         refine yM rfl ?_
         refine yM rfl ?_
         refine yM rfl ?_
         refine h_call (hCo.comes) rfl rfl rfl fun _ => ?_
         refine h_op (r_pick rfl rfl) ?_
         refine yS rfl ?_
         refine yN ?_
         refine h_ret ?_
         exact h_ret1 rfl rfl fun w s => ⟨⟨h6, hz03.trans (hz35.trans hz6)⟩, rfl, (same (L' := [.zone true h6]) w s).res (List.Sublist.refl _) (by simp [Fa.wr])⟩
        ·obtain rfl : none = o := ho
         refine h_call (hSi.comes) rfl rfl rfl fun ⟨⟨h3, X, Y, k3⟩, hz3, hXY, hk3⟩ => ?_
         dsimp only at hz3 hXY hk3 ⊢
         have hz03 := hz02.trans hz3
         have hT3 : RdZ h3 (some ⟨1, 0, none⟩) hashT := hT.mono hz03
         have hK3 := hK.mono hz03
         have hV3 := hV.mono hz03
         have hr3 : RdZ h3 A1 (ents (ofM l)) := hr2.mono hz3
         have hv3 := hvl2.mono hz3
         have hLa := rLast18_s n hn h3 c kb vb (by omega) hk32 (dgT n (mkT (ofM l) 0)) (dpOf p ss) p.sibs.A p.sibs.c hck2 (hS := hS.mono hz03)
         rw [← hpe] at hLa
         have hla := last_acc n (dgT n (mkT (ofM l) 0)) c kb vb p ss hss h1 h2
         rw [ha] at hla
         have hRo := Root_any n hn h3 (show 0 ≤ 256 by omega) hal (by omega) hv3 A1 c1
         rw [show rootM n (ofM l) 0 = dgT n (mkT (ofM l) 0) from rfl] at hRo
         rw [h1] at hCl
         rw [h2] at hCk
         generalize (lastSC n (dgT n (mkT (ofM l) 0)) c kb vb (dpOf p ss)).2 = e at *
         refine yM rfl ?_
         refine h_op (r_extract rfl rfl) ?_
         refine h_op (r_extract rfl rfl) ?_
         refine h_op (r_extract rfl rfl) ?_
         refine yS rfl ?_
         refine yS rfl ?_
         refine yS rfl ?_
         refine yN ?_
         refine yR ?_
         refine h_op (r_loadr rfl) ?_
         refine h_call (hCl.comes) rfl rfl rfl fun _ => ?_
         refine yM rfl ?_
         refine h_op (r_extract rfl rfl) ?_
         refine h_op (r_extract rfl rfl) ?_
         refine yS rfl ?_
         refine yS rfl ?_
         refine yN ?_
         refine h_seq ?_
         refine yR ?_
         refine yM rfl ?_
         refine h_op (r_bool (r_eql rfl rfl) rfl) ?_
         refine yM rfl ?_
         refine h_op (r_loadr rfl) ?_
         refine h_call (hCk.comes) rfl rfl rfl fun _ => ?_
         refine h_op (r_bool (r_eql rfl rfl) rfl) ?_
         refine h_op (r_pick rfl rfl) ?_
         refine yN ?_
         refine h_condT rfl ?_
         refine ha_start [.blk g11 c.cells 25, .blk g12 p.cells 54] [] mixed (same) ?_
         refine ha_takeP 0 rfl (r_move rfl) ?_
         refine ha_takeP 1 rfl (r_move rfl) ?_
         refine ha_takeP 2 rfl (r_move rfl) ?_
         refine ha_take 4 rfl (r_loadr rfl) ?_
         refine ha_take 5 rfl (r_loadr rfl) ?_
         refine ha_one 3 ?_
         refine ho_C 3 rfl (hRo.comes) rfl rfl rfl (fun xx => same) fun _ => ?_
         refine ha_one 6 ?_
         refine ho_C 6 rfl (hLa.comes) rfl rfl rfl (fun xx => same) fun _ => ?_
         refine ha_takeP 7 rfl (r_move rfl) ?_
         refine ha_takeP 8 rfl (r_extract rfl rfl) ?_
         refine ha_takeP 9 rfl (r_extract rfl rfl) ?_
         refine ha_takeP 10 rfl (r_assign rfl) ?_
         refine ha_done (by kernel_rfl) ?_
         refine q_then ?_
         have he : e = 0 := of_decide_eq_true hla
         have hTr := rTrue22_s h3 (ofM l) A1 c1 hv3 (by omega) c kb vb
         rw [ht] at hTr
         refine h_seq ?_
         refine yR ?_
         refine yM rfl ?_
         refine h_op (r_bool (r_neq rfl rfl) (decide_eq_false (fun h => h he))) ?_
         refine yM rfl ?_
         refine yM rfl ?_
         refine h_op (r_loadr rfl) ?_
         refine h_call (hTr.comes) rfl rfl rfl fun _ => ?_
         refine h_op (r_pick rfl rfl) ?_
         refine yN ?_
         refine h_condT rfl ?_
         refine yR ?_
         refine h_call ((alive22_s h3).comes) rfl rfl rfl fun ⟨h4, hz4⟩ => ?_
         dsimp only
         refine yM rfl ?_
         refine yM rfl ?_
         refine h_op (r_not rfl) ?_
         refine h_op (r_pick rfl rfl) ?_
         refine yM rfl ?_
         refine yM rfl ?_
         refine h_op (r_len rfl) ?_
         refine h_op (r_bool (r_eql rfl rfl) rfl) ?_
         refine h_op (r_pick rfl rfl) ?_
         refine yM rfl ?_
         refine yM rfl ?_
         refine h_op (r_len rfl) ?_
         refine h_op (r_bool (r_eql rfl rfl) rfl) ?_
         refine h_op (r_pick rfl rfl) ?_
         refine yS rfl ?_
         refine yN ?_
         refine h_ret ?_
         refine q_thenR ?_
         exact h_ret1 rfl rfl fun w s => ⟨⟨h4, hz03.trans hz4⟩, rfl, (same (L' := [.zone true h4]) w s).res (List.Sublist.refl _) (by simp [Fa.wr])⟩
      ·rw [show accV n (dgT n (mkT (ofM l) 0)) c kb vb p ss = false by unfold accV; rw [decide_eq_false h2]; simp] at ho
       obtain rfl : none = o := ho
       rw [h1] at hCl
       refine h_call (hSi.comes) rfl rfl rfl fun ⟨⟨h3, X, Y, k3⟩, hz3, hXY, hk3⟩ => ?_
       dsimp only at hz3 hXY hk3 ⊢
       have hz03 := hz02.trans hz3
       have hT3 : RdZ h3 (some ⟨1, 0, none⟩) hashT := hT.mono hz03
       have hK3 := hK.mono hz03
       have hV3 := hV.mono hz03
       have hr3 : RdZ h3 A1 (ents (ofM l)) := hr2.mono hz3
       have hv3 := hvl2.mono hz3
       refine yM rfl ?_
       refine h_op (r_extract rfl rfl) ?_
       refine h_op (r_extract rfl rfl) ?_
       refine h_op (r_extract rfl rfl) ?_
       refine yS rfl ?_
       refine yS rfl ?_
       refine yS rfl ?_
       refine yN ?_
       refine yR ?_
       refine h_op (r_loadr rfl) ?_
       refine h_call (hCl.comes) rfl rfl rfl fun _ => ?_
       refine yM rfl ?_
       refine h_op (r_extract rfl rfl) ?_
       refine h_op (r_extract rfl rfl) ?_
       refine yS rfl ?_
       refine yS rfl ?_
       refine yN ?_
       refine h_seq ?_
       refine yR ?_
       refine yM rfl ?_
       refine h_op (r_bool (r_eql rfl rfl) rfl) ?_
       refine yM rfl ?_
       refine h_op (r_loadr rfl) ?_
       refine h_call (hCk.comes) rfl rfl rfl fun _ => ?_
       refine h_op (r_bool (r_eql rfl rfl) (decide_eq_false h2)) ?_
       refine h_op (r_pick rfl rfl) ?_
       refine yN ?_
       refine h_condF rfl ?_
       refine h_reg ?_
       refine yS rfl ?_
       refine yN ?_
       refine h_seq ?_
       refine yR ?_
       refine yM rfl ?_
       refine h_op (r_neq rfl rfl) ?_
       refine yM rfl ?_
       refine h_opOff ?_
       refine h_opOff ?_
       refine h_opOff ?_
       refine h_op (r_pick rfl rfl) ?_
       refine yN ?_
       refine h_condT rfl ?_
       refine yR ?_
       refine h_call ((alive22_s h3).comes) rfl rfl rfl fun ⟨h4, hz4⟩ => ?_
       dsimp only
       refine yM rfl ?_
       refine yM rfl ?_
       refine h_op (r_not rfl) ?_
       refine h_op (r_pick rfl rfl) ?_
       refine yM rfl ?_
       refine yM rfl ?_
       refine h_op (r_len rfl) ?_
       refine h_op (r_bool (r_eql rfl rfl) rfl) ?_
       refine h_op (r_pick rfl rfl) ?_
       refine yM rfl ?_
       refine yM rfl ?_
       refine h_op (r_len rfl) ?_
       refine h_op (r_bool (r_eql rfl rfl) rfl) ?_
       refine h_op (r_pick rfl rfl) ?_
       refine yS rfl ?_
       refine yN ?_
       refine h_ret ?_
       refine q_thenR ?_
       exact h_ret1 rfl rfl fun w s => ⟨⟨h4, hz03.trans hz4⟩, rfl, (same (L' := [.zone true h4]) w s).res (List.Sublist.refl _) (by simp [Fa.wr])⟩
     ·rw [show accV n (dgT n (mkT (ofM l) 0)) c kb vb p ss = false by unfold accV; rw [decide_eq_false h1]; simp] at ho
      obtain rfl : none = o := ho
      refine h_call (hSi.comes) rfl rfl rfl fun ⟨⟨h3, X, Y, k3⟩, hz3, hXY, hk3⟩ => ?_
      dsimp only at hz3 hXY hk3 ⊢
      have hz03 := hz02.trans hz3
      have hT3 : RdZ h3 (some ⟨1, 0, none⟩) hashT := hT.mono hz03
      have hK3 := hK.mono hz03
      have hV3 := hV.mono hz03
      have hr3 : RdZ h3 A1 (ents (ofM l)) := hr2.mono hz3
      have hv3 := hvl2.mono hz3
      refine yM rfl ?_
      refine h_op (r_extract rfl rfl) ?_
      refine h_op (r_extract rfl rfl) ?_
      refine h_op (r_extract rfl rfl) ?_
      refine yS rfl ?_
      refine yS rfl ?_
      refine yS rfl ?_
      refine yN ?_
      refine yR ?_
      refine h_op (r_loadr rfl) ?_
      refine h_call (hCl.comes) rfl rfl rfl fun _ => ?_
      refine yM rfl ?_
      refine h_op (r_extract rfl rfl) ?_
      refine h_op (r_extract rfl rfl) ?_
      refine yS rfl ?_
      refine yS rfl ?_
      refine yN ?_
      refine h_seq ?_
      refine yR ?_
      refine yM rfl ?_
      refine h_op (r_bool (r_eql rfl rfl) (decide_eq_false h1)) ?_
      refine yM rfl ?_
      refine h_opOff ?_
      refine h_opOff ?_
      refine h_opOff ?_
      refine h_op (r_pick rfl rfl) ?_
      refine yN ?_
      refine h_condF rfl ?_
      refine h_reg ?_
      refine yS rfl ?_
      refine yN ?_
      refine h_seq ?_
      refine yR ?_
      refine yM rfl ?_
      refine h_op (r_neq rfl rfl) ?_
      refine yM rfl ?_
      refine h_opOff ?_
      refine h_opOff ?_
      refine h_opOff ?_
      refine h_op (r_pick rfl rfl) ?_
      refine yN ?_
      refine h_condT rfl ?_
      refine yR ?_
      refine h_call ((alive22_s h3).comes) rfl rfl rfl fun ⟨h4, hz4⟩ => ?_
      dsimp only
      refine yM rfl ?_
      refine yM rfl ?_
      refine h_op (r_not rfl) ?_
      refine h_op (r_pick rfl rfl) ?_
      refine yM rfl ?_
      refine yM rfl ?_
      refine h_op (r_len rfl) ?_
      refine h_op (r_bool (r_eql rfl rfl) rfl) ?_
      refine h_op (r_pick rfl rfl) ?_
      refine yM rfl ?_
      refine yM rfl ?_
      refine h_op (r_len rfl) ?_
      refine h_op (r_bool (r_eql rfl rfl) rfl) ?_
      refine h_op (r_pick rfl rfl) ?_
      refine yS rfl ?_
      refine yN ?_
      refine h_ret ?_
      refine q_thenR ?_
      exact h_ret1 rfl rfl fun w s => ⟨⟨h4, hz03.trans hz4⟩, rfl, (same (L' := [.zone true h4]) w s).res (List.Sublist.refl _) (by simp [Fa.wr])⟩
    ·refine h_op (r_bool (r_eql rfl rfl) rfl) ?_
     refine h_op (r_pick rfl rfl) ?_
     refine yM rfl ?_
     refine h_op (r_field rfl) ?_
     refine h_op (r_loadc rfl) ?_
     refine h_op (r_len rfl) ?_
     refine h_op (r_bool (r_gtr rfl rfl) (decide_eq_true (show (300 : Int) < (p.sibs.n : Int) by omega))) ?_
     refine h_op (r_pick rfl rfl) ?_
     refine yN ?_
     refine h_condT rfl ?_
     refine yR ?_
     refine h_call ((alive22_s h2).comes) rfl rfl rfl fun ⟨h3, hz3⟩ => ?_
     dsimp only
     refine yS rfl ?_
     refine yN ?_
     refine h_ret ?_
     refine q_thenR ?_
     exact h_ret1 rfl rfl fun w s => ⟨⟨h3, hz02.trans hz3⟩, rfl, (same (L' := [.zone true h3]) w s).res (List.Sublist.refl _) (by simp [Fa.wr])⟩
   ·rw [if_neg hsh] at hSh
    refine h_seq ?_
    refine yR ?_
    refine yM rfl ?_
    refine h_op (r_not rfl) ?_
    refine yM rfl ?_
    refine h_op (r_loadr rfl) ?_
    refine h_call (hSh.comes) rfl rfl rfl fun _ => ?_
    refine h_op (r_bool (r_eql rfl rfl) rfl) ?_
    refine h_op (r_pick rfl rfl) ?_
    refine yM rfl ?_
    refine h_opOff ?_
    refine h_opOff ?_
    refine h_opOff ?_
    refine h_opOff ?_
    refine h_op (r_pick rfl rfl) ?_
    refine yN ?_
    refine h_condT rfl ?_
    refine yR ?_
    refine h_call ((alive22_s h2).comes) rfl rfl rfl fun ⟨h3, hz3⟩ => ?_
    dsimp only
    refine yS rfl ?_
    refine yN ?_
    refine h_ret ?_
    refine q_thenR ?_
    exact h_ret1 rfl rfl fun w s => ⟨⟨h3, hz02.trans hz3⟩, rfl, (same (L' := [.zone true h3]) w s).res (List.Sublist.refl _) (by simp [Fa.wr])⟩
  ·refine h_seq ?_
   refine h_reg ?_
   refine h_opX (x_box rfl) fun g5 => ?_
   refine yS rfl ?_
   refine yN ?_
   refine yR ?_
   refine yM rfl ?_
   refine yM rfl ?_
   refine h_call ((Tree_few n hn l B c' (by simpa using hf)).comes) rfl rfl rfl fun _ => ?_
   refine yM rfl ?_
   refine h_op (r_extract rfl rfl) ?_
   refine h_op (r_extract rfl rfl) ?_
   refine h_op (r_extract rfl rfl) ?_
   refine yS rfl ?_
   refine yS rfl ?_
   refine yS rfl ?_
   refine yN ?_
   refine yR ?_
   refine yM rfl ?_
   refine h_call ((Hash_s n hn).comes) rfl rfl rfl fun ⟨gh, gc⟩ => ?_
   dsimp only
   refine yS rfl ?_
   refine yN ?_
   refine h_seq ?_
   refine h_join (fun (u : Nat × Nat) => [(12, .pointer (some ⟨u.2, 0, none⟩)), (11, .pointer (some ⟨u.1, 0, none⟩)), (9, .bool false), (0, .int .i64 (n : Int))]) (fun (u : Nat × Nat) => [.zone true h]) (fun kk => ?_) ?_
   ·refine ha_start [.blk g5 (CPf.cells ⟨c, p⟩) 56] [] mixed (same) ?_
    refine ha_takeP 0 rfl (r_field rfl) ?_
    refine ha_take 1 rfl (r_loadr rfl) ?_
    refine ha_takeP 2 rfl (r_field rfl) ?_
    refine ha_take 3 rfl (r_loadr rfl) ?_
    refine ha_two 4 5 ?_ ?_
    ·refine ho_X 4 rfl (rk (x_alloc)) (fun _ => same) fun g11 => ?_
     refine ha_one 5 ?_
     refine ho_X 5 rfl (rk (x_alloc)) (fun _ => same) fun g12 => ?_
     refine ha_one 6 ?_
     refine ho_S 6 rfl (s_storer rfl rfl) (same) ?_
     refine ha_one 7 ?_
     refine ho_SL 7 rfl (s_storer rfl rfl) ?_
     exact h_K (kk (g11, g12)) (⟨rfl, rfl, rfl, rfl, trivial⟩) same
    ·refine ho_X 5 rfl (rk (x_alloc)) (fun _ => same) fun g12 => ?_
     refine ha_one 4 ?_
     refine ho_X 4 rfl (rk (x_alloc)) (fun _ => same) fun g11 => ?_
     refine ha_one 6 ?_
     refine ho_S 6 rfl (s_storer rfl rfl) (same) ?_
     refine ha_one 7 ?_
     refine ho_SL 7 rfl (s_storer rfl rfl) ?_
     exact h_K (kk (g11, g12)) (⟨rfl, rfl, rfl, rfl, trivial⟩) same
   rintro ⟨g11, g12⟩
   refine q_then ?_
   dsimp only
   refine h_seq ?_
   refine yR ?_
   refine yM rfl ?_
   refine h_op (r_not rfl) ?_
   refine yM rfl ?_
   refine h_opOff ?_
   refine h_opOff ?_
   refine h_opOff ?_
   refine h_op (r_pick rfl rfl) ?_
   refine yM rfl ?_
   refine h_opOff ?_
   refine h_opOff ?_
   refine h_opOff ?_
   refine h_opOff ?_
   refine h_op (r_pick rfl rfl) ?_
   refine yN ?_
   refine h_condT rfl ?_
   refine yR ?_
   refine h_call ((alive22_s h).comes) rfl rfl rfl fun ⟨h3, hz3⟩ => ?_
   dsimp only
   refine yS rfl ?_
   refine yN ?_
   refine h_ret ?_
   refine q_thenR ?_
   exact h_ret1 rfl rfl fun w s => ⟨⟨h3, hz3⟩, rfl, (same (L' := [.zone true h3]) w s).res (List.Sublist.refl _) (by simp [Fa.wr])⟩
 ·refine h_seq ?_
  refine h_reg ?_
  refine h_opX (x_box rfl) fun g5 => ?_
  refine yS rfl ?_
  refine yN ?_
  refine yR ?_
  refine yM rfl ?_
  refine yM rfl ?_
  refine h_call ((Tree_bits i hi l B c').comes) rfl rfl rfl fun _ => ?_
  refine yM rfl ?_
  refine h_op (r_extract rfl rfl) ?_
  refine h_op (r_extract rfl rfl) ?_
  refine h_op (r_extract rfl rfl) ?_
  refine yS rfl ?_
  refine yS rfl ?_
  refine yS rfl ?_
  refine yN ?_
  refine yR ?_
  refine yM rfl ?_
  refine h_call ((Hash_no i hi).comes) rfl rfl rfl fun _ => ?_
  refine yS rfl ?_
  refine yN ?_
  refine h_seq ?_
  refine h_join (fun (u : Nat × Nat) => [(12, .pointer (some ⟨u.2, 0, none⟩)), (11, .pointer (some ⟨u.1, 0, none⟩)), (9, .bool false), (0, .int .i64 i)]) (fun (u : Nat × Nat) => [.zone true h]) (fun kk => ?_) ?_
  ·refine ha_start [.blk g5 (CPf.cells ⟨c, p⟩) 56] [] mixed (same) ?_
   refine ha_takeP 0 rfl (r_field rfl) ?_
   refine ha_take 1 rfl (r_loadr rfl) ?_
   refine ha_takeP 2 rfl (r_field rfl) ?_
   refine ha_take 3 rfl (r_loadr rfl) ?_
   refine ha_two 4 5 ?_ ?_
   ·refine ho_X 4 rfl (rk (x_alloc)) (fun _ => same) fun g11 => ?_
    refine ha_one 5 ?_
    refine ho_X 5 rfl (rk (x_alloc)) (fun _ => same) fun g12 => ?_
    refine ha_one 6 ?_
    refine ho_S 6 rfl (s_storer rfl rfl) (same) ?_
    refine ha_one 7 ?_
    refine ho_SL 7 rfl (s_storer rfl rfl) ?_
    exact h_K (kk (g11, g12)) (⟨rfl, rfl, rfl, rfl, trivial⟩) same
   ·refine ho_X 5 rfl (rk (x_alloc)) (fun _ => same) fun g12 => ?_
    refine ha_one 4 ?_
    refine ho_X 4 rfl (rk (x_alloc)) (fun _ => same) fun g11 => ?_
    refine ha_one 6 ?_
    refine ho_S 6 rfl (s_storer rfl rfl) (same) ?_
    refine ha_one 7 ?_
    refine ho_SL 7 rfl (s_storer rfl rfl) ?_
    exact h_K (kk (g11, g12)) (⟨rfl, rfl, rfl, rfl, trivial⟩) same
  rintro ⟨g11, g12⟩
  refine q_then ?_
  dsimp only
  refine h_seq ?_
  refine yR ?_
  refine yM rfl ?_
  refine h_op (r_not rfl) ?_
  refine yM rfl ?_
  refine h_opOff ?_
  refine h_opOff ?_
  refine h_opOff ?_
  refine h_op (r_pick rfl rfl) ?_
  refine yM rfl ?_
  refine h_opOff ?_
  refine h_opOff ?_
  refine h_opOff ?_
  refine h_opOff ?_
  refine h_op (r_pick rfl rfl) ?_
  refine yN ?_
  refine h_condT rfl ?_
  refine yR ?_
  refine h_call ((alive22_s h).comes) rfl rfl rfl fun ⟨h3, hz3⟩ => ?_
  dsimp only
  refine yS rfl ?_
  refine yN ?_
  refine h_ret ?_
  refine q_thenR ?_
  exact h_ret1 rfl rfl fun w s => ⟨⟨h3, hz3⟩, rfl, (same (L' := [.zone true h3]) w s).res (List.Sublist.refl _) (by simp [Fa.wr])⟩
end
end Go.Proofs.YtjhocljhhpkiiaaGreatDoor
/- TF -/
namespace Go.Proofs.YtjhocljhhpkiiaaGreatDoor
open Go.RowKit Go.ChangeShapes Go.WideShapes
theorem sf_maps : mapsRowed Tryz.prog = true := by kernel_rfl
theorem sf_enter : Tryz.prog.mayEnter = true := by kernel_rfl
theorem sf_keys : Tryz.prog.plainKeys = true := by kernel_rfl
theorem sf_heard : Tryz.prog.stopsHeard = true := by kernel_rfl
theorem sf_lifts : Tryz.prog.liftsFinal = false := by kernel_rfl
theorem sf_looks : Tryz.prog.looks [] = true := by kernel_rfl
theorem beqT {a b c : Bool} (ha : a = c) (hb : b = c) : (a == b) = true := by rw [ha, hb]; exact beq_self_eq_true c
theorem andT {a b : Bool} (ha : a = true) (hb : b = true) : (a && b) = true := by rw [ha, hb]; rfl
end Go.Proofs.YtjhocljhhpkiiaaGreatDoor
/- U84 -/
namespace Go.Proofs.YtjhocljhhpkiiaaGreatDoor
open Go.RowKit
end Go.Proofs.YtjhocljhhpkiiaaGreatDoor
/- U154 -/
namespace Go.Proofs.YtjhocljhhpkiiaaGreatDoor
open Go.RowKit
theorem pres_mem {n : Nat} {key : B32} {t : Sub} {d : Nat} : ∀ w ∈ t.pres n key d, w.length ≤ 65 := fun w h => by
 obtain ⟨s, -, rfl⟩ := List.mem_map.1 h
 exact preS_len n s
end Go.Proofs.YtjhocljhhpkiiaaGreatDoor
/- U155 -/
namespace Go.Proofs.YtjhocljhhpkiiaaGreatDoor
open Go.RowKit
section
variable (h : Zh) [hT : RdZ h (some ⟨1, 0, none⟩) hashT]
theorem ExtractSound_s (i : Int) (l : List En) (B : Option Addr) (c' : Nat) [hB : RdZ h B (ents l)] (hv : SlsZ h l) (c : Claim) (kb vb : List UInt8) [hK : SlZ h c.key kb] [hV : SlZ h c.value vb] (p : Proof) (ss : List B32) (hss : p.sibs.n = ss.length) [hS : RdZ h p.sibs.A (dgs ss)] (its0 : List Item) (I : Option Addr) (icc : Nat) (hic : its0.length ≤ icc) [hI : RdZ h I (its its0)] : Spec Tryz.prog 8 [.int .i64 i, .slice B l.length c', .agg (Snd.cells ⟨c, p, ⟨I, its0.length, icc⟩⟩).toArray].toArray [] [.zone true h] (fun _ : {x : Zh // LeZ h x} => .bool true) (fun x => [.zone true x.1]) := by
 have hSh := Short_s c
 have hvn := hV.len
 have hkn := hK.len
 have hFi := Few19_s its0 I icc
 refine spec_of Tryz.func8 rfl (n := 137) rfl rfl ?_
 intro W
 by_cases hi : 0 ≤ i ∧ i ≤ 256
 ·obtain ⟨n, rfl⟩ : ∃ n : Nat, i = (n : Int) := ⟨i.toNat, by omega⟩
  have hn : n ≤ 256 := by omega
  by_cases hf : fewM l = true
  ·have hvl := hv.few hf
   have hal : Alike (ofM l) 0 := Alike.start (ofM_nodup l)
   have hlm : (ofM l).length ≤ 12 := Nat.le_trans (ofM_len l) (by unfold fewM at hf; rw [Bool.and_eq_true, decide_eq_true_eq] at hf; exact hf.1)
   refine yR ?_
   refine h_opX (x_box rfl) fun g5 => ?_
   refine yS rfl ?_
   refine yN ?_
   refine yR ?_
   refine yM rfl ?_
   refine yM rfl ?_
   refine h_call ((Tree_yes n hn l B c' hf h hvl).comes) rfl rfl rfl fun ⟨⟨h1, q1, A1, c1⟩, hle1, ht1⟩ => ?_
   dsimp only at hle1 ht1 ⊢
   refine h_freezeO (.slice A1 (ofM l).length c1) fun h2 B2 c2 e2 hle2 hlen2 hnil2 hz2 hr2 => ?_
   injection e2 with e2 _ e3
   subst e2 e3
   have hz02 := hle1.trans hz2
   have hT2 : RdZ h2 (some ⟨1, 0, none⟩) hashT := hT.mono hz02
   have ht2 : TrZ n h2 (mkT (ofM l) 0) q1 := ⟨ht1.ok.mono hz2⟩
   refine yM rfl ?_
   refine h_op (r_extract rfl rfl) ?_
   refine h_op (r_extract rfl rfl) ?_
   refine h_op (r_extract rfl rfl) ?_
   refine yS rfl ?_
   refine yS rfl ?_
   refine yS rfl ?_
   refine yN ?_
   refine yR ?_
   refine yM rfl ?_
   refine h_call ((Hash_s n hn).comes) rfl rfl rfl fun ⟨gh, gc⟩ => ?_
   dsimp only
   by_cases hsh : c.key.n ≤ 100 ∧ c.value.n ≤ 70000
   ·rw [if_pos hsh] at hSh
    refine yS rfl ?_
    refine yN ?_
    refine h_seq ?_
    refine yR ?_
    refine yM rfl ?_
    refine h_op (r_not rfl) ?_
    refine yM rfl ?_
    refine h_op (r_field rfl) ?_
    refine h_op (r_loadr rfl) ?_
    refine h_call (hSh.comes) rfl rfl rfl fun _ => ?_
    by_cases hrl : p.sibs.n ≤ 300
    ·refine h_op (r_bool (r_eql rfl rfl) rfl) ?_
     refine h_op (r_pick rfl rfl) ?_
     refine yM rfl ?_
     refine h_op (r_field rfl) ?_
     refine h_op (r_field rfl) ?_
     refine h_op (r_loadc rfl) ?_
     refine h_op (r_len rfl) ?_
     refine h_op (r_bool (r_gtr rfl rfl) (decide_eq_false (show ¬ (300 : Int) < (p.sibs.n : Int) by omega))) ?_
     refine h_op (r_pick rfl rfl) ?_
     refine yM rfl ?_
     refine h_op (r_field rfl) ?_
     refine h_op (r_loadc rfl) ?_
     refine h_call (hFi.comes) rfl rfl rfl fun _ => ?_
     by_cases hil : its0.length ≤ 1200
     ·rw [if_pos hil]
      refine h_op (r_bool (r_eql rfl rfl) rfl) ?_
      refine h_op (r_pick rfl rfl) ?_
      refine yN ?_
      refine h_condF rfl ?_
      refine h_skip ?_
      refine q_then ?_
      refine yR ?_
      refine yM rfl ?_
      refine yM rfl ?_
      have hDg := Digest_s n hn gh gc 0 (by decide) h2 (mkT (ofM l) 0) q1
      obtain ⟨k0, hk0⟩ : ∃ k0, 0 + (if (mkT (ofM l) 0).kind = 0 then 1 else 0) = k0 := ⟨_, rfl⟩
      have hk0b : k0 ≤ 1 := by rw [← hk0]; split <;> omega
      rw [hk0] at hDg
      refine h_call (hDg.comes) rfl rfl rfl fun _ => ?_
      have hvl2 := ValsZ.few hvl hz02
      have hvv : ∀ e ∈ ofM l, e.val.length ≤ 100000000 := fun e he => by have := (hvl2 e he).2; omega
      have hTr := fun z (hz : LeZ h2 z) => rTrue22_s z (ofM l) A1 c1 (hB := hr2.mono hz) (hvl2.mono hz) (by omega) c kb vb (hK := hK.mono (hz02.trans hz)) (hV := hV.mono (hz02.trans hz))
      have hAc := Accepts_s n hn h2 gh gc k0 (by omega) (dgT n (mkT (ofM l) 0)) c kb vb (by omega) p ss hss (hK := hK.mono hz02) (hV := hV.mono hz02) (hS := hS.mono hz02)
      obtain ⟨a, ha⟩ : ∃ a, accV n (dgT n (mkT (ofM l) 0)) c kb vb p ss = a := ⟨_, rfl⟩
      obtain ⟨t, ht⟩ : ∃ t, trueC (ofM l) c kb vb = t := ⟨_, rfl⟩
      simp only [ht] at hTr
      rw [ha] at hAc
      have hMA := fun z (hz : LeZ h2 z) g (hr : RdZ z (some ⟨g, 0, none⟩) (cbs [⟨c, kb, vb⟩])) k hk => mvAccepts_s n hn z (hT := hT2.mono hz) gh gc [⟨c, kb, vb⟩] (some ⟨g, 0, none⟩) 1 (hr := hr) (fun x hx => by (obtain rfl := List.mem_singleton.1 hx); exact ⟨hK.mono (hz02.trans hz), hV.mono (hz02.trans hz)⟩) (fun x hx => by (obtain rfl := List.mem_singleton.1 hx); show vb.length ≤ _; omega) (by show 1 ≤ _; decide) k hk (dgT n (mkT (ofM l) 0)) its0 I icc (hI := hI.mono (hz02.trans hz)) hic (by omega)
      obtain ⟨b, hb⟩ : ∃ b, accM n (dgT n (mkT (ofM l) 0)) [⟨c, kb, vb⟩] its0 = b := ⟨_, rfl⟩
      simp only [hb] at hMA
      refine h_opX (x_alloc) fun g11 => ?_
      refine h_opS (s_storer rfl rfl) ?_
      refine yN ?_
      refine h_seq ?_
      refine yR ?_
      refine yM rfl ?_
      refine h_op (r_loadr rfl) ?_
      refine h_op (r_field rfl) ?_
      refine h_op (r_loadr rfl) ?_
      refine h_op (r_field rfl) ?_
      refine h_op (r_loadr rfl) ?_
      refine h_call (hAc.comes) rfl rfl rfl fun ⟨⟨h3, k3⟩, hz3, hk3⟩ => ?_
      dsimp only at hz3 hk3 ⊢
      cases a
      ·refine yM rfl ?_
       refine h_opOff ?_
       refine h_opOff ?_
       refine h_opOff ?_
       refine h_opOff ?_
       refine h_opOff ?_
       refine h_op (r_pick rfl rfl) ?_
       refine yN ?_
       refine h_condF rfl ?_
       refine h_skip ?_
       refine q_then ?_
       refine yR ?_
       refine h_op (r_field rfl) ?_
       refine h_op (r_loadr rfl) ?_
       refine h_opX (x_bsl rfl rfl) fun g96 => ?_
       refine yS rfl ?_
       refine yN ?_
       refine h_seq ?_
       refine h_seq ?_
       change H _ _ _ _ _ (.own _ _ _ _ (cbs [⟨c, kb, vb⟩]) :: _) _
       refine h_freezeO (.slice (some ⟨g96, 0, none⟩) 1 1) fun z5 B5 c5 e5 hle5 hlen5 hnil5 hz5 hr5 => ?_
       injection e5 with e5 _ e5'
       subst e5 e5'
       have hz25 := hz3.trans hz5
       refine h_reg ?_
       refine yM rfl ?_
       refine h_op (r_loadr rfl) ?_
       refine yM rfl ?_
       refine h_op (r_field rfl) ?_
       refine h_op (r_loadc rfl) ?_
       refine h_call ((hMA z5 hz25 g96 hr5 k3 (by omega)).comes) rfl rfl rfl fun ⟨⟨z6, k6⟩, hz6, hk6⟩ => ?_
       dsimp only [List.length_singleton] at hz6 hk6 ⊢
       have hz26 := hz25.trans hz6
       cases b
       ·refine yM rfl ?_
        refine h_opOff ?_
        refine h_opOff ?_
        refine h_opOff ?_
        refine h_opOff ?_
        refine h_opOff ?_
        refine h_op (r_pick rfl rfl) ?_
        refine yN ?_
        refine h_condF rfl ?_
        refine h_skip ?_
        refine q_then ?_
        refine yR ?_
        refine h_call ((alive22_s z6 (hT := hT2.mono (hz26))).comes) rfl rfl rfl fun ⟨z9, hz9⟩ => ?_
        dsimp only
        refine yS rfl ?_
        refine yN ?_
        refine h_ret ?_
        exact h_ret1 rfl rfl fun w s => ⟨⟨z9, hz02.trans ((hz26).trans hz9)⟩, rfl, (same (L' := [.zone true z9]) w s).res (List.Sublist.refl _) (by simp [Fa.wr])⟩
       ·refine yM rfl ?_
        refine yM rfl ?_
        refine h_op (r_field rfl) ?_
        refine h_op (r_loadr rfl) ?_
        refine h_call ((hTr z6 hz26).comes) rfl rfl rfl fun _ => ?_
        cases t
        ·refine h_op (r_not rfl) ?_
         refine h_op (r_pick rfl rfl) ?_
         refine yN ?_
         refine h_condT rfl ?_
         refine yR ?_
         refine yM rfl ?_
         refine yM rfl ?_
         refine yM rfl ?_
         refine h_op (r_field rfl) ?_
         refine h_op (r_loadc rfl) ?_
         obtain ⟨hcl, t, hp, hsw⟩ := accM_ok hb
         obtain ⟨⟨x, y⟩, hxy⟩ : ∃ xy, pairF n (ofM l) ⟨c, kb, vb⟩ (t.pres n (keyOf kb) 0) = xy := ⟨_, rfl⟩
         have ho : batchR n (ofM l) [⟨c, kb, vb⟩] its0 = some (x, y) := by
          unfold batchR
          rw [hb, if_pos rfl, hp, show ([⟨c, kb, vb⟩] : List CB).find? (fun x => !trueC (ofM l) x.c x.kb x.vb) = some ⟨c, kb, vb⟩ from by rw [List.find?_cons]; dsimp only; rw [ht]; rfl]
          exact congrArg some hxy
         have hcol := batch_col n hal [⟨c, kb, vb⟩] its0 t hp hb 0 Nat.one_pos ht x y hxy
         unfold pairF at hxy
         have hgl := (getS_ok hvl2 (keyOf kb)).2
         obtain ⟨hxl, hyl⟩ := findP_len hxy (N := 10000001) (fun w hw => Nat.le_trans (wayPre_mem w hw) (by decide)) (fun w hw => Nat.le_trans (pres_mem w hw) (by decide)) (by unfold preV; rw [List.length_cons]; dsimp only; omega) (by unfold preV; rw [List.length_cons]; dsimp only; omega)
         have hBt := xBatch_s n hn z6 (hT := hT2.mono hz26) gh gc k6 (by omega) (ofM l) hal q1 (ht := ⟨ht2.ok.mono hz26⟩) hvv its0 I icc (hI := hI.mono (hz02.trans hz26)) hic (by omega) [⟨c, kb, vb⟩] (some ⟨g96, 0, none⟩) 1 (hr := hr5.mono hz6) (fun x hx => by (obtain rfl := List.mem_singleton.1 hx); exact ⟨hK.mono (hz02.trans hz26), hV.mono (hz02.trans hz26)⟩) (fun x hx => by (obtain rfl := List.mem_singleton.1 hx); show vb.length ≤ _; omega) (by show 1 ≤ _; decide) _ ho
         refine h_call (hBt.comes) rfl rfl rfl fun ⟨⟨z7, X7, Y7, k7⟩, hz7, hXY7, hk7⟩ => ?_
         dsimp only at hz7 hXY7 hk7 ⊢
         obtain ⟨hX7, hY7⟩ := hXY7 x y rfl
         have hz27 := hz26.trans hz7
         have rX7 := hX7.rd
         have rY7 := hY7.rd
         have hCo := rCollide22_s n hn x y X7.1 Y7.1 X7.2 Y7.2 hX7.nil hY7.nil (by omega) (by omega)
         have hCx := xCollide_s n hn z7 (hT := hT2.mono hz27) gh gc k7 (by omega) x y X7.1 Y7.1 X7.2 Y7.2 hX7.nil hY7.nil (by omega) (by omega)
         rw [show (!decide (x = y) && decide (sumB n x = sumB n y)) = colB n x y from rfl, hcol] at hCx
         rw [hcol] at hCo
         refine yM rfl ?_
         refine h_op (r_extract rfl rfl) ?_
         refine h_op (r_extract rfl rfl) ?_
         refine h_op (r_extract rfl rfl) ?_
         refine yS rfl ?_
         refine yS rfl ?_
         refine yS rfl ?_
         refine yN ?_
         refine yR ?_
         refine yM rfl ?_
         refine h_op (r_not rfl) ?_
         refine yM rfl ?_
         refine yM rfl ?_
         refine yM rfl ?_
         refine yM rfl ?_
         refine h_call (hCo.comes) rfl rfl rfl fun _ => ?_
         refine h_op (r_not rfl) ?_
         refine h_op (r_pick rfl rfl) ?_
         refine yM rfl ?_
         refine yM rfl ?_
         refine yM rfl ?_
         refine yM rfl ?_
         refine h_call (hCx.comes) rfl rfl rfl fun ⟨k8, hk8⟩ => ?_
         dsimp only at hk8 ⊢
         refine h_op (r_not rfl) ?_
         refine h_op (r_pick rfl rfl) ?_
         refine yN ?_
         refine h_condF rfl ?_
         refine h_skip ?_
         refine q_then ?_
         refine yR ?_
         refine h_call ((alive22_s z7 (hT := hT2.mono (hz27))).comes) rfl rfl rfl fun ⟨z9, hz9⟩ => ?_
         dsimp only
         refine yS rfl ?_
         refine yN ?_
         refine h_ret ?_
         exact h_ret1 rfl rfl fun w s => ⟨⟨z9, hz02.trans ((hz27).trans hz9)⟩, rfl, (same (L' := [.zone true z9]) w s).res (List.Sublist.refl _) (by simp [Fa.wr])⟩
        ·refine h_op (r_not rfl) ?_
         refine h_op (r_pick rfl rfl) ?_
         refine yN ?_
         refine h_condF rfl ?_
         refine h_skip ?_
         refine q_then ?_
         refine yR ?_
         refine h_call ((alive22_s z6 (hT := hT2.mono (hz26))).comes) rfl rfl rfl fun ⟨z9, hz9⟩ => ?_
         dsimp only
         refine yS rfl ?_
         refine yN ?_
         refine h_ret ?_
         exact h_ret1 rfl rfl fun w s => ⟨⟨z9, hz02.trans ((hz26).trans hz9)⟩, rfl, (same (L' := [.zone true z9]) w s).res (List.Sublist.refl _) (by simp [Fa.wr])⟩
      ·refine yM rfl ?_
       refine yM rfl ?_
       refine h_op (r_field rfl) ?_
       refine h_op (r_loadr rfl) ?_
       refine h_call ((hTr h3 hz3).comes) rfl rfl rfl fun _ => ?_
       cases t
       ·refine h_op (r_not rfl) ?_
        refine h_op (r_pick rfl rfl) ?_
        refine yN ?_
        refine h_condT rfl ?_
        refine yR ?_
        refine yM rfl ?_
        refine yM rfl ?_
        refine h_op (r_field rfl) ?_
        refine h_op (r_loadr rfl) ?_
        refine h_op (r_field rfl) ?_
        refine h_op (r_loadr rfl) ?_
        obtain ⟨D, hw⟩ := wayM (key := keyOf kb) hal
        obtain ⟨⟨x, y⟩, hxy⟩ : ∃ xy, findP (wayPre n (keyOf kb) (mkT (ofM l) 0) (D + 1)) (prePl n (keyOf kb) p ss) (preV (getV (getE' (ofM l) (keyOf kb)))) (preV vb) = xy := ⟨_, rfl⟩
        have ho : singleR n (ofM l) D c kb vb p ss = some (x, y) := by
         unfold singleR
         rw [ha, ht, hxy]
         rfl
        have hcol := single_col n c kb vb hw p ss ha ht x y hxy
        have hgl := (getS_ok hvl2 (keyOf kb)).2
        obtain ⟨hxl, hyl⟩ := findP_len hxy (N := 10000001) (fun w hw => Nat.le_trans (wayPre_mem w hw) (by decide)) (fun w hw => Nat.le_trans (prePl_mem w hw) (by decide)) (by unfold preV; rw [List.length_cons]; omega) (by unfold preV; rw [List.length_cons]; omega)
        have hSi := xSingle_s n hn h3 (hT := hT2.mono hz3) gh gc k3 (by omega) (ofM l) hal q1 (ht := ⟨ht2.ok.mono hz3⟩) c kb vb (hK := hK.mono (hz02.trans hz3)) (hV := hV.mono (hz02.trans hz3)) (by omega) hvv D hw p ss hss (hS := hS.mono (hz02.trans hz3)) _ ho
        refine h_call (hSi.comes) rfl rfl rfl fun ⟨⟨h4, X, Y, k4⟩, hz4, hXY, hk4⟩ => ?_
        dsimp only at hz4 hXY hk4 ⊢
        obtain ⟨hX, hY⟩ := hXY x y rfl
        have hz24 := hz3.trans hz4
        have rX := hX.rd
        have rY := hY.rd
        have hCo := rCollide22_s n hn x y X.1 Y.1 X.2 Y.2 hX.nil hY.nil (by omega) (by omega)
        have hCx := xCollide_s n hn h4 (hT := hT2.mono hz24) gh gc k4 (by omega) x y X.1 Y.1 X.2 Y.2 hX.nil hY.nil (by omega) (by omega)
        rw [show (!decide (x = y) && decide (sumB n x = sumB n y)) = colB n x y from rfl, hcol] at hCx
        rw [hcol] at hCo
        refine yM rfl ?_
        refine h_op (r_extract rfl rfl) ?_
        refine h_op (r_extract rfl rfl) ?_
        refine h_op (r_extract rfl rfl) ?_
        refine yS rfl ?_
        refine yS rfl ?_
        refine yS rfl ?_
        refine yN ?_
        refine yR ?_
        refine yM rfl ?_
        refine h_op (r_not rfl) ?_
        refine yM rfl ?_
        refine yM rfl ?_
        refine yM rfl ?_
        refine yM rfl ?_
        refine h_call (hCo.comes) rfl rfl rfl fun _ => ?_
        refine h_op (r_not rfl) ?_
        refine h_op (r_pick rfl rfl) ?_
        refine yM rfl ?_
        refine yM rfl ?_
        refine yM rfl ?_
        refine yM rfl ?_
        refine h_call (hCx.comes) rfl rfl rfl fun ⟨k5, hk5⟩ => ?_
        dsimp only at hk5 ⊢
        refine h_op (r_not rfl) ?_
        refine h_op (r_pick rfl rfl) ?_
        refine yN ?_
        refine h_condF rfl ?_
        refine h_skip ?_
        refine q_then ?_
        refine yR ?_
        refine h_op (r_field rfl) ?_
        refine h_op (r_loadr rfl) ?_
        refine h_opX (x_bsl rfl rfl) fun g96 => ?_
        refine yS rfl ?_
        refine yN ?_
        refine h_seq ?_
        refine h_seq ?_
        change H _ _ _ _ _ (.own _ _ _ _ (cbs [⟨c, kb, vb⟩]) :: _) _
        refine h_freezeO (.slice (some ⟨g96, 0, none⟩) 1 1) fun z5 B5 c5 e5 hle5 hlen5 hnil5 hz5 hr5 => ?_
        injection e5 with e5 _ e5'
        subst e5 e5'
        have hz25 := hz24.trans hz5
        refine h_reg ?_
        refine yM rfl ?_
        refine h_op (r_loadr rfl) ?_
        refine yM rfl ?_
        refine h_op (r_field rfl) ?_
        refine h_op (r_loadc rfl) ?_
        refine h_call ((hMA z5 hz25 g96 hr5 k5 (by omega)).comes) rfl rfl rfl fun ⟨⟨z6, k6⟩, hz6, hk6⟩ => ?_
        dsimp only [List.length_singleton] at hz6 hk6 ⊢
        have hz26 := hz25.trans hz6
        cases b
        ·refine yM rfl ?_
         refine h_opOff ?_
         refine h_opOff ?_
         refine h_opOff ?_
         refine h_opOff ?_
         refine h_opOff ?_
         refine h_op (r_pick rfl rfl) ?_
         refine yN ?_
         refine h_condF rfl ?_
         refine h_skip ?_
         refine q_then ?_
         refine yR ?_
         refine h_call ((alive22_s z6 (hT := hT2.mono (hz26))).comes) rfl rfl rfl fun ⟨z9, hz9⟩ => ?_
         dsimp only
         refine yS rfl ?_
         refine yN ?_
         refine h_ret ?_
         exact h_ret1 rfl rfl fun w s => ⟨⟨z9, hz02.trans ((hz26).trans hz9)⟩, rfl, (same (L' := [.zone true z9]) w s).res (List.Sublist.refl _) (by simp [Fa.wr])⟩
        ·refine yM rfl ?_
         refine yM rfl ?_
         refine h_op (r_field rfl) ?_
         refine h_op (r_loadr rfl) ?_
         refine h_call ((hTr z6 hz26).comes) rfl rfl rfl fun _ => ?_
         refine h_op (r_not rfl) ?_
         refine h_op (r_pick rfl rfl) ?_
         refine yN ?_
         refine h_condT rfl ?_
         refine yR ?_
         refine yM rfl ?_
         refine yM rfl ?_
         refine yM rfl ?_
         refine h_op (r_field rfl) ?_
         refine h_op (r_loadc rfl) ?_
         obtain ⟨hcl, t, hp, hsw⟩ := accM_ok hb
         obtain ⟨⟨x, y⟩, hxy⟩ : ∃ xy, pairF n (ofM l) ⟨c, kb, vb⟩ (t.pres n (keyOf kb) 0) = xy := ⟨_, rfl⟩
         have ho : batchR n (ofM l) [⟨c, kb, vb⟩] its0 = some (x, y) := by
          unfold batchR
          rw [hb, if_pos rfl, hp, show ([⟨c, kb, vb⟩] : List CB).find? (fun x => !trueC (ofM l) x.c x.kb x.vb) = some ⟨c, kb, vb⟩ from by rw [List.find?_cons]; dsimp only; rw [ht]; rfl]
          exact congrArg some hxy
         have hcol := batch_col n hal [⟨c, kb, vb⟩] its0 t hp hb 0 Nat.one_pos ht x y hxy
         unfold pairF at hxy
         have hgl := (getS_ok hvl2 (keyOf kb)).2
         obtain ⟨hxl, hyl⟩ := findP_len hxy (N := 10000001) (fun w hw => Nat.le_trans (wayPre_mem w hw) (by decide)) (fun w hw => Nat.le_trans (pres_mem w hw) (by decide)) (by unfold preV; rw [List.length_cons]; dsimp only; omega) (by unfold preV; rw [List.length_cons]; dsimp only; omega)
         have hBt := xBatch_s n hn z6 (hT := hT2.mono hz26) gh gc k6 (by omega) (ofM l) hal q1 (ht := ⟨ht2.ok.mono hz26⟩) hvv its0 I icc (hI := hI.mono (hz02.trans hz26)) hic (by omega) [⟨c, kb, vb⟩] (some ⟨g96, 0, none⟩) 1 (hr := hr5.mono hz6) (fun x hx => by (obtain rfl := List.mem_singleton.1 hx); exact ⟨hK.mono (hz02.trans hz26), hV.mono (hz02.trans hz26)⟩) (fun x hx => by (obtain rfl := List.mem_singleton.1 hx); show vb.length ≤ _; omega) (by show 1 ≤ _; decide) _ ho
         refine h_call (hBt.comes) rfl rfl rfl fun ⟨⟨z7, X7, Y7, k7⟩, hz7, hXY7, hk7⟩ => ?_
         dsimp only at hz7 hXY7 hk7 ⊢
         obtain ⟨hX7, hY7⟩ := hXY7 x y rfl
         have hz27 := hz26.trans hz7
         have rX7 := hX7.rd
         have rY7 := hY7.rd
         have hCo := rCollide22_s n hn x y X7.1 Y7.1 X7.2 Y7.2 hX7.nil hY7.nil (by omega) (by omega)
         have hCx := xCollide_s n hn z7 (hT := hT2.mono hz27) gh gc k7 (by omega) x y X7.1 Y7.1 X7.2 Y7.2 hX7.nil hY7.nil (by omega) (by omega)
         rw [show (!decide (x = y) && decide (sumB n x = sumB n y)) = colB n x y from rfl, hcol] at hCx
         rw [hcol] at hCo
         refine yM rfl ?_
         refine h_op (r_extract rfl rfl) ?_
         refine h_op (r_extract rfl rfl) ?_
         refine h_op (r_extract rfl rfl) ?_
         refine yS rfl ?_
         refine yS rfl ?_
         refine yS rfl ?_
         refine yN ?_
         refine yR ?_
         refine yM rfl ?_
         refine h_op (r_not rfl) ?_
         refine yM rfl ?_
         refine yM rfl ?_
         refine yM rfl ?_
         refine yM rfl ?_
         refine h_call (hCo.comes) rfl rfl rfl fun _ => ?_
         refine h_op (r_not rfl) ?_
         refine h_op (r_pick rfl rfl) ?_
         refine yM rfl ?_
         refine yM rfl ?_
         refine yM rfl ?_
         refine yM rfl ?_
         refine h_call (hCx.comes) rfl rfl rfl fun ⟨k8, hk8⟩ => ?_
         dsimp only at hk8 ⊢
         refine h_op (r_not rfl) ?_
         refine h_op (r_pick rfl rfl) ?_
         refine yN ?_
         refine h_condF rfl ?_
         refine h_skip ?_
         refine q_then ?_
         refine yR ?_
         refine h_call ((alive22_s z7 (hT := hT2.mono (hz27))).comes) rfl rfl rfl fun ⟨z9, hz9⟩ => ?_
         dsimp only
         refine yS rfl ?_
         refine yN ?_
         refine h_ret ?_
         exact h_ret1 rfl rfl fun w s => ⟨⟨z9, hz02.trans ((hz27).trans hz9)⟩, rfl, (same (L' := [.zone true z9]) w s).res (List.Sublist.refl _) (by simp [Fa.wr])⟩
       ·refine h_op (r_not rfl) ?_
        refine h_op (r_pick rfl rfl) ?_
        refine yN ?_
        refine h_condF rfl ?_
        refine h_skip ?_
        refine q_then ?_
        refine yR ?_
        refine h_op (r_field rfl) ?_
        refine h_op (r_loadr rfl) ?_
        refine h_opX (x_bsl rfl rfl) fun g96 => ?_
        refine yS rfl ?_
        refine yN ?_
        refine h_seq ?_
        refine h_seq ?_
        change H _ _ _ _ _ (.own _ _ _ _ (cbs [⟨c, kb, vb⟩]) :: _) _
        refine h_freezeO (.slice (some ⟨g96, 0, none⟩) 1 1) fun z5 B5 c5 e5 hle5 hlen5 hnil5 hz5 hr5 => ?_
        injection e5 with e5 _ e5'
        subst e5 e5'
        have hz25 := hz3.trans hz5
        refine h_reg ?_
        refine yM rfl ?_
        refine h_op (r_loadr rfl) ?_
        refine yM rfl ?_
        refine h_op (r_field rfl) ?_
        refine h_op (r_loadc rfl) ?_
        refine h_call ((hMA z5 hz25 g96 hr5 k3 (by omega)).comes) rfl rfl rfl fun ⟨⟨z6, k6⟩, hz6, hk6⟩ => ?_
        dsimp only [List.length_singleton] at hz6 hk6 ⊢
        have hz26 := hz25.trans hz6
        cases b
        ·refine yM rfl ?_
         refine h_opOff ?_
         refine h_opOff ?_
         refine h_opOff ?_
         refine h_opOff ?_
         refine h_opOff ?_
         refine h_op (r_pick rfl rfl) ?_
         refine yN ?_
         refine h_condF rfl ?_
         refine h_skip ?_
         refine q_then ?_
         refine yR ?_
         refine h_call ((alive22_s z6 (hT := hT2.mono (hz26))).comes) rfl rfl rfl fun ⟨z9, hz9⟩ => ?_
         dsimp only
         refine yS rfl ?_
         refine yN ?_
         refine h_ret ?_
         exact h_ret1 rfl rfl fun w s => ⟨⟨z9, hz02.trans ((hz26).trans hz9)⟩, rfl, (same (L' := [.zone true z9]) w s).res (List.Sublist.refl _) (by simp [Fa.wr])⟩
        ·refine yM rfl ?_
         refine yM rfl ?_
         refine h_op (r_field rfl) ?_
         refine h_op (r_loadr rfl) ?_
         refine h_call ((hTr z6 hz26).comes) rfl rfl rfl fun _ => ?_
         refine h_op (r_not rfl) ?_
         refine h_op (r_pick rfl rfl) ?_
         refine yN ?_
         refine h_condF rfl ?_
         refine h_skip ?_
         refine q_then ?_
         refine yR ?_
         refine h_call ((alive22_s z6 (hT := hT2.mono (hz26))).comes) rfl rfl rfl fun ⟨z9, hz9⟩ => ?_
         dsimp only
         refine yS rfl ?_
         refine yN ?_
         refine h_ret ?_
         exact h_ret1 rfl rfl fun w s => ⟨⟨z9, hz02.trans ((hz26).trans hz9)⟩, rfl, (same (L' := [.zone true z9]) w s).res (List.Sublist.refl _) (by simp [Fa.wr])⟩
     ·rw [if_neg hil]
      refine h_op (r_bool (r_eql rfl rfl) rfl) ?_
      refine h_op (r_pick rfl rfl) ?_
      refine yN ?_
      refine h_condT rfl ?_
      refine yR ?_
      refine h_call ((alive22_s h2).comes) rfl rfl rfl fun ⟨h3, hz3⟩ => ?_
      dsimp only
      refine yS rfl ?_
      refine yN ?_
      refine h_ret ?_
      refine q_thenR ?_
      exact h_ret1 rfl rfl fun w s => ⟨⟨h3, hz02.trans hz3⟩, rfl, (same (L' := [.zone true h3]) w s).res (List.Sublist.refl _) (by simp [Fa.wr])⟩
    ·refine h_op (r_bool (r_eql rfl rfl) rfl) ?_
     refine h_op (r_pick rfl rfl) ?_
     refine yM rfl ?_
     refine h_op (r_field rfl) ?_
     refine h_op (r_field rfl) ?_
     refine h_op (r_loadc rfl) ?_
     refine h_op (r_len rfl) ?_
     refine h_op (r_bool (r_gtr rfl rfl) (decide_eq_true (show (300 : Int) < (p.sibs.n : Int) by omega))) ?_
     refine h_op (r_pick rfl rfl) ?_
     refine yM rfl ?_
     refine h_opOff ?_
     refine h_opOff ?_
     refine h_opOff ?_
     refine h_opOff ?_
     refine h_op (r_pick rfl rfl) ?_
     refine yN ?_
     refine h_condT rfl ?_
     refine yR ?_
     refine h_call ((alive22_s h2).comes) rfl rfl rfl fun ⟨h3, hz3⟩ => ?_
     dsimp only
     refine yS rfl ?_
     refine yN ?_
     refine h_ret ?_
     refine q_thenR ?_
     exact h_ret1 rfl rfl fun w s => ⟨⟨h3, hz02.trans hz3⟩, rfl, (same (L' := [.zone true h3]) w s).res (List.Sublist.refl _) (by simp [Fa.wr])⟩
   ·rw [if_neg hsh] at hSh
    refine yS rfl ?_
    refine yN ?_
    refine h_seq ?_
    refine yR ?_
    refine yM rfl ?_
    refine h_op (r_not rfl) ?_
    refine yM rfl ?_
    refine h_op (r_field rfl) ?_
    refine h_op (r_loadr rfl) ?_
    refine h_call (hSh.comes) rfl rfl rfl fun _ => ?_
    refine h_op (r_bool (r_eql rfl rfl) rfl) ?_
    refine h_op (r_pick rfl rfl) ?_
    refine yM rfl ?_
    refine h_opOff ?_
    refine h_opOff ?_
    refine h_opOff ?_
    refine h_opOff ?_
    refine h_opOff ?_
    refine h_op (r_pick rfl rfl) ?_
    refine yM rfl ?_
    refine h_opOff ?_
    refine h_opOff ?_
    refine h_opOff ?_
    refine h_opOff ?_
    refine h_op (r_pick rfl rfl) ?_
    refine yN ?_
    refine h_condT rfl ?_
    refine yR ?_
    refine h_call ((alive22_s h2).comes) rfl rfl rfl fun ⟨h3, hz3⟩ => ?_
    dsimp only
    refine yS rfl ?_
    refine yN ?_
    refine h_ret ?_
    refine q_thenR ?_
    exact h_ret1 rfl rfl fun w s => ⟨⟨h3, hz02.trans hz3⟩, rfl, (same (L' := [.zone true h3]) w s).res (List.Sublist.refl _) (by simp [Fa.wr])⟩
  ·refine h_seq ?_
   refine h_reg ?_
   refine h_opX (x_box rfl) fun g5 => ?_
   refine yS rfl ?_
   refine yN ?_
   refine yR ?_
   refine yM rfl ?_
   refine yM rfl ?_
   refine h_call ((Tree_few n hn l B c' (by simpa using hf)).comes) rfl rfl rfl fun _ => ?_
   refine yM rfl ?_
   refine h_op (r_extract rfl rfl) ?_
   refine h_op (r_extract rfl rfl) ?_
   refine h_op (r_extract rfl rfl) ?_
   refine yS rfl ?_
   refine yS rfl ?_
   refine yS rfl ?_
   refine yN ?_
   refine yR ?_
   refine yM rfl ?_
   refine h_call ((Hash_s n hn).comes) rfl rfl rfl fun ⟨gh, gc⟩ => ?_
   dsimp only
   refine yS rfl ?_
   refine yN ?_
   refine h_seq ?_
   refine yR ?_
   refine yM rfl ?_
   refine h_op (r_not rfl) ?_
   refine yM rfl ?_
   refine h_opOff ?_
   refine h_opOff ?_
   refine h_opOff ?_
   refine h_opOff ?_
   refine h_op (r_pick rfl rfl) ?_
   refine yM rfl ?_
   refine h_opOff ?_
   refine h_opOff ?_
   refine h_opOff ?_
   refine h_opOff ?_
   refine h_opOff ?_
   refine h_op (r_pick rfl rfl) ?_
   refine yM rfl ?_
   refine h_opOff ?_
   refine h_opOff ?_
   refine h_opOff ?_
   refine h_opOff ?_
   refine h_op (r_pick rfl rfl) ?_
   refine yN ?_
   refine h_condT rfl ?_
   refine yR ?_
   refine h_call ((alive22_s h).comes) rfl rfl rfl fun ⟨h3, hz3⟩ => ?_
   dsimp only
   refine yS rfl ?_
   refine yN ?_
   refine h_ret ?_
   refine q_thenR ?_
   exact h_ret1 rfl rfl fun w s => ⟨⟨h3, hz3⟩, rfl, (same (L' := [.zone true h3]) w s).res (List.Sublist.refl _) (by simp [Fa.wr])⟩
 ·refine h_seq ?_
  refine h_reg ?_
  refine h_opX (x_box rfl) fun g5 => ?_
  refine yS rfl ?_
  refine yN ?_
  refine yR ?_
  refine yM rfl ?_
  refine yM rfl ?_
  refine h_call ((Tree_bits i hi l B c').comes) rfl rfl rfl fun _ => ?_
  refine yM rfl ?_
  refine h_op (r_extract rfl rfl) ?_
  refine h_op (r_extract rfl rfl) ?_
  refine h_op (r_extract rfl rfl) ?_
  refine yS rfl ?_
  refine yS rfl ?_
  refine yS rfl ?_
  refine yN ?_
  refine yR ?_
  refine yM rfl ?_
  refine h_call ((Hash_no i hi).comes) rfl rfl rfl fun _ => ?_
  refine yS rfl ?_
  refine yN ?_
  refine h_seq ?_
  refine yR ?_
  refine yM rfl ?_
  refine h_op (r_not rfl) ?_
  refine yM rfl ?_
  refine h_opOff ?_
  refine h_opOff ?_
  refine h_opOff ?_
  refine h_opOff ?_
  refine h_op (r_pick rfl rfl) ?_
  refine yM rfl ?_
  refine h_opOff ?_
  refine h_opOff ?_
  refine h_opOff ?_
  refine h_opOff ?_
  refine h_opOff ?_
  refine h_op (r_pick rfl rfl) ?_
  refine yM rfl ?_
  refine h_opOff ?_
  refine h_opOff ?_
  refine h_opOff ?_
  refine h_opOff ?_
  refine h_op (r_pick rfl rfl) ?_
  refine yN ?_
  refine h_condT rfl ?_
  refine yR ?_
  refine h_call ((alive22_s h).comes) rfl rfl rfl fun ⟨h3, hz3⟩ => ?_
  dsimp only
  refine yS rfl ?_
  refine yN ?_
  refine h_ret ?_
  refine q_thenR ?_
  exact h_ret1 rfl rfl fun w s => ⟨⟨h3, hz3⟩, rfl, (same (L' := [.zone true h3]) w s).res (List.Sublist.refl _) (by simp [Fa.wr])⟩
end
end Go.Proofs.YtjhocljhhpkiiaaGreatDoor
