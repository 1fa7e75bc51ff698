/- joined texts -/
import Derived.Test.YtjhlbbgikccclaaGreatDoorF19
import Derived.Handed
import Derived.JoinedOf
import Derived.SevenTiedAt
set_option linter.all false
namespace Go.Proofs.YtjhlbbgikccclaaGreatDoor
section
open Go.RowKit
theorem Qf0 {code : Nat → Int} (h : QiO (Yc code) = 0) : ∀ j, j < 6 → code j = 0 := by
 cases hc : Yc code with
 | none => exact fun j hj => Za code 6 0 hc j (Nat.zero_le _) (by omega)
 | some r =>
  rw [hc] at h
  obtain ⟨j, e⟩ := r
  exact absurd h (Qdo code 6 0 j e hc)
theorem Qn1 (p : DP) (A : Option Addr) (c : Nat) : Qao (p.pr A c) p.ss = p := by
 obtain ⟨k, d, lf, bm, ss⟩ := p
 simp [Qao, DP.pr]
theorem QkH {bb : List UInt8} {p : DP} (h : Ya bb = .ok p) : Jk (p.pr none 0) = 0 := by
 unfold Ya at h
 split at h
 ·cases h
 split at h
 ·cases h
 split at h
 ·cases h
 split at h
 ·cases h
 split at h
 ·rename_i h1
  injection h with h
  rw [← h]
  exact h1
 cases h
theorem Qk6 {n : Nat} {root : Sl} {c : Claim} {rb kb vb bb : List UInt8} (h : QiO (Yc (Je n root c rb kb vb bb)) = 0) : ∃ p, Ya bb = .ok p ∧ (∀ A cc, Qai n (keyOf rb) c kb vb (p.pr A cc) p.ss = true) := by
 have hz := Qf0 h
 have h1 := hz 1 (by omega)
 have h2 := hz 2 (by omega)
 have h3 := hz 3 (by omega)
 have h4 := hz 4 (by omega)
 have h5 := hz 5 (by omega)
 change (if c.key.n = 32 then (0 : Int) else 2) = 0 at h1
 change (if c.present = true ∧ 65535 < c.value.n then (3 : Int) else 0) = 0 at h2
 have hc : Jy c = 0 := by
  unfold Jy
  split at h1
  ·rename_i hk
   split at h2
   ·cases h2
   rename_i hv
   rw [if_pos hk, if_neg hv]
  cases h1
 change Qdk (Ya bb) = 0 at h3
 change (match Ya bb with | .ok p => if qt (p.pr none 0) (keyOf kb) (ZF n c.present vb) c.present then (0 : Int) else 12 | .error _ => 0) = 0 at h4
 change (match Ya bb with | .ok p => if decide (qy n p (keyOf kb) = keyOf rb) then (0 : Int) else 13 | .error _ => 0) = 0 at h5
 cases hd : Ya bb with
 | error e =>
  rw [hd] at h3
  exact absurd h3 (Qfi hd)
 | ok p =>
  rw [hd] at h4 h5
  dsimp only at h4 h5
  refine ⟨p, rfl, fun A cc => ?_⟩
  have e4 : qt (p.pr none 0) (keyOf kb) (ZF n c.present vb) c.present = true := by
   split at h4
   ·assumption
   cases h4
  have e5 : decide (qy n p (keyOf kb) = keyOf rb) = true := by
   split at h5
   ·assumption
   cases h5
  unfold Qai
  rw [Qn1, e5, decide_eq_true hc, decide_eq_true (show Jk (p.pr A cc) = 0 from QkH hd)]
  rw [show qt (p.pr A cc) (keyOf kb) (ZF n c.present vb) c.present = qt (p.pr none 0) (keyOf kb) (ZF n c.present vb) c.present from rfl, e4]
  rfl
def Qg8 (c : Claim) (b : Sl) : List Value := c.cells ++ [.slice b.A b.n b.c]
theorem Qdi (c : Claim) (b : Sl) : ∀ j v, c.cells[j]? = some v → (Qg8 c b)[0 + j]? = some v := fun j v hv => by
 unfold Qg8
 rw [Nat.zero_add, List.getElem?_append_left (List.getElem?_eq_some_iff.1 hv).1]
 exact hv
theorem Vk (c : Claim) (b : Sl) : (Qg8 c b)[3]? = some (.slice b.A b.n b.c) := rfl
section
variable (h : Zh) [hT : RdZ h (some ⟨1, 0, none⟩) Jd] [hE : ERZ h] (i : Int) (l : List OpV) (A : Option Addr) (cA : Nat) [hA : RdZ h A (Qjx l)] (hz : QdQ h l) (c : Claim) (kb vb : List UInt8) [hK : SlZ h c.key kb] [hV : SlZ h c.value vb] (b : Sl) (bb : List UInt8) [hB : SlZ h b bb]
include hT hE hA hz hK hV hB
set_option maxRecDepth 100000 in
theorem Qg1 : QC Tryz.prog 4 [.int .i64 i, .slice A l.length cA, .agg (Qg8 c b).toArray].toArray [] [.zone true h] (fun _ : {x : Zh // LeZ h x} => .bool true) (fun x => [.zone true x.1]) := by
 have hkn := hK.len
 have hvn := hV.len
 have hbn := hB.len
 have hSh := Qng c
 by_cases hok : (0 ≤ i ∧ i ≤ 256) ∧ VN l = true
 ·obtain ⟨hi, hf⟩ := hok
  obtain ⟨n, rfl⟩ : ∃ n : Nat, i = (n : Int) := ⟨i.toNat, by omega⟩
  have hn : n ≤ 256 := by omega
  have hG := Qlj h l A cA hz n hn hf
  have hor := QcF (l := l) YI.nil l.length (Nat.le_refl _)
  have hln := QcE (m := []) hf l.length (Nat.le_refl _)
  have hvl := Qbd (h := h) (m := []) (fun e he => by cases he) hz hf l.length (Nat.le_refl _)
  have hll := (QbG hf).1
  have hbnd : ([] : List En).length = 0 := rfl
  rw [Qgb] at hor hln hvl
  generalize doL l [] = m at *
  have hal := hor.alike
  refine Qk Tryz.func4 rfl (n := 96) rfl rfl ?_
  intro W
  refine yR ?_
  refine Qo (Q9 rfl) fun g5 => ?_
  refine yS rfl ?_
  refine yN ?_
  refine yR ?_
  refine yM rfl ?_
  refine yM rfl ?_
  refine Qh (hG.comes) rfl rfl rfl fun ⟨⟨⟨t0, gh, gc⟩, z1, q, k1, B, cB⟩, hR⟩ => ?_
  dsimp only at hR ⊢
  have hz1 : LeZ h z1 := hR.le
  have ht1 : TrZ n z1 (mkT m 0) q := hR.tr
  have hk1 : k1 ≤ 8000000 := hR.cnt
  have hB1 : RdZ z1 B (Ye m) := hR.rd
  have hT1 : RdZ z1 (some ⟨1, 0, none⟩) Jd := hT.mono hz1
  have hE1 : ERZ z1 := hE.mono hz1
  refine yM rfl ?_
  refine Qb (Qj rfl rfl) ?_
  refine Qb (Qj rfl rfl) ?_
  refine Qb (Qj rfl rfl) ?_
  refine yS rfl ?_
  refine yS rfl ?_
  refine yS rfl ?_
  refine yN ?_
  refine yR ?_
  refine Qb (Qe rfl) ?_
  refine Qb (Jm rfl (out := c.cells) (Claim.cells_length _) (Qdi c b)) ?_
  refine Qo (Q0) fun g10 => ?_
  refine Q7 (Qw rfl rfl) ?_
  refine yN ?_
  refine Qd ?_
  refine yR ?_
  refine yM rfl ?_
  refine Qb (Ji rfl) ?_
  refine yM rfl ?_
  refine Qb (Qm rfl) ?_
  refine Qh (hSh.comes) rfl rfl rfl fun _ => ?_
  by_cases hsh : c.key.n ≤ 100 ∧ c.value.n ≤ 70000
  ·rw [if_pos hsh]
   by_cases hbb : 20000 < b.n
   ·refine Qb (Ql (QG rfl rfl) (show _ = false from rfl)) ?_
    refine Qb (Qy rfl rfl) ?_
    refine yM rfl ?_
    refine Qb (Qe rfl (O' := 3) (by omega)) ?_
    refine Qb (QX rfl (Vk c b)) ?_
    refine Qb (QF rfl) ?_
    refine Qb (Ql (Jo rfl rfl) (decide_eq_true (by omega))) ?_
    refine Qb (Qy rfl rfl) ?_
    refine yN ?_
    refine Qz rfl ?_
    refine yR ?_
    refine Qh ((Qbf z1).comes) rfl rfl rfl fun ⟨zr, hzr⟩ => ?_
    dsimp only
    refine yS rfl ?_
    refine yN ?_
    refine Qs ?_
    refine Qr ?_
    exact Qu rfl rfl fun w s => ⟨⟨zr, hz1.trans hzr⟩, rfl, (same (L' := [.zone true zr]) w s).res (List.Sublist.refl _) (by simp [Fa.wr])⟩
   refine Qb (Ql (QG rfl rfl) (show _ = false from rfl)) ?_
   refine Qb (Qy rfl rfl) ?_
   refine yM rfl ?_
   refine Qb (Qe rfl (O' := 3) (by omega)) ?_
   refine Qb (QX rfl (Vk c b)) ?_
   refine Qb (QF rfl) ?_
   refine Qb (Ql (Jo rfl rfl) (decide_eq_false (by omega))) ?_
   refine Qb (Qy rfl rfl) ?_
   refine yN ?_
   refine Qt rfl ?_
   have hRt := Qh0 t0 gh q n z1 (mkT m 0) hn gc k1 (by omega)
   have hk2 : k1 + (if (mkT m 0).kind = 0 then 1 else 0) ≤ k1 + 1 := by split <;> omega
   generalize k1 + (if (mkT m 0).kind = 0 then 1 else 0) = k2 at *
   refine Qn ?_
   refine Qc ?_
   refine yR ?_
   refine yM rfl ?_
   refine Qh (hRt.comes) rfl rfl rfl fun _ => ?_
   refine Qo (Q0) fun g11 => ?_
   refine Q7 (Qw rfl rfl) ?_
   refine yN ?_
   refine Qd ?_
   refine Qd ?_
   refine qL g11 (cs := (dgT n (mkT m 0)).cells) (T := 45) fun z2 hz2 hr2 => ?_
   have hz02 := hz1.trans hz2
   have hT2 : RdZ z2 (some ⟨1, 0, none⟩) Jd := hT1.mono hz2
   have hE2 : ERZ z2 := hE1.mono hz2
   have sr : SlZ z2 ⟨some ⟨g11, 0, none⟩, 32, 32⟩ (dgT n (mkT m 0)).1 := Qrv hr2
   have hC := Qgn n hn z2 gh gc k2 (by omega) ⟨some ⟨g11, 0, none⟩, 32, 32⟩ c b (dgT n (mkT m 0)).1 kb vb bb (hR := sr) (hK := hK.mono hz02) (hV := hV.mono hz02) (hB := hB.mono hz02) (by omega) (by omega)
   have hck := fun he => Qk6 (n := n) (root := ⟨some ⟨g11, 0, none⟩, 32, 32⟩) (c := c) (rb := (dgT n (mkT m 0)).1) (kb := kb) (vb := vb) (bb := bb) he
   rw [Qdw] at hck
   generalize QiO (Yc (Je n ⟨some ⟨g11, 0, none⟩, 32, 32⟩ c (dgT n (mkT m 0)).1 kb vb bb)) = e at *
   by_cases he : e = 0
   ·subst he
    obtain ⟨dp, hdp, hacc⟩ := hck rfl
    have hTr := fun (z : Zh) (hzz : LeZ z1 z) => @Qj7 z m B cB (hB1.mono hzz) (hvl.mono (hz1.trans hzz)) (by omega) c kb vb (hK.mono (hz1.trans hzz)) (hV.mono (hz1.trans hzz))
    obtain ⟨tr, htr⟩ : ∃ tr, qz m c kb vb = tr := ⟨_, rfl⟩
    rw [htr] at hTr
    refine Q1 [.blk g5 (Qg8 c b) 52, .blk g10 c.cells 50] [] QJ (same) ?_
    refine Qa 0 rfl (Qi rfl) ?_
    refine Qa 2 rfl (qr rfl) ?_
    refine Qp 3 rfl (Qm rfl) ?_
    refine Qa 4 rfl (Qe rfl (O' := 3) (by omega)) ?_
    refine Qp 5 rfl (QX rfl (Vk c b)) ?_
    refine Qv 1 ?_
    refine QR 1 rfl ((Yj t0 gh q).comes) rfl rfl rfl (fun xx => same) fun _ => ?_
    refine Qv 6 ?_
    refine QR 6 rfl (hC.comes) rfl rfl rfl (fun xx => same) fun ⟨⟨z3, k3⟩, v3, v4⟩ => ?_
    refine Qa 7 rfl (Ql (QL rfl rfl) (show _ = false from rfl)) ?_
    refine Qa 8 rfl (Qi rfl) ?_
    refine Qa 9 rfl (Qi rfl) ?_
    refine Qp 10 rfl (Qm rfl) ?_
    refine Qv 11 ?_
    refine QR 11 rfl ((hTr z3 (hz2.trans v3)).comes) rfl rfl rfl (fun xx => same) fun _ => ?_
    refine Qa 12 rfl (Qy rfl rfl) ?_
    refine QB (by kernel_rfl) ?_
    refine Qc ?_
    dsimp only at v3 v4 ⊢
    have hz03 := hz02.trans v3
    have hT3 : RdZ z3 (some ⟨1, 0, none⟩) Jd := hT2.mono v3
    have hE3 : ERZ z3 := hE2.mono v3
    cases tr
    ·refine Qt rfl ?_
     have hcap := hB.cap
     have hbr3 : RdZ z3 b.A (bc bb) := hB.rd.mono hz03
     have hD := QeH z3 bb (by omega) b.A b.c (by omega)
     rw [hdp, ← hbn] at hD
     replace hD : QC Tryz.prog 24 [.slice b.A b.n b.c].toArray [.zone false z3] [] (fun u : Option Addr × Nat => .tuple #[.agg (dp.pr u.1 u.2).cells.toArray, .int .i64 0]) (fun u => [.own (.slice u.1 dp.ss.length u.2) dp.ss.length 45 32 (dgs dp.ss)]) := hD
     refine Qn ?_
     refine Qc ?_
     refine yR ?_
     refine Qb (Qe rfl (O' := 3) (by omega)) ?_
     refine Qb (QX rfl (Vk c b)) ?_
     refine Qh (hD.comes) rfl rfl rfl fun ⟨A9, c9⟩ => ?_
     dsimp only
     refine yM rfl ?_
     refine Qb (Qj rfl rfl) ?_
     refine Qb (Qj rfl rfl) ?_
     refine Qo (Q0) fun g12 => ?_
     refine Q7 (Qw rfl rfl) ?_
     refine yS rfl ?_
     refine yN ?_
     refine Qd ?_
     refine Jp (.slice A9 dp.ss.length c9) fun z4 B4 c4 e4 _ _ _ hz4 hr4 => ?_
     injection e4 with e4 _ e4'
     subst e4 e4'
     have hz04 := hz03.trans hz4
     have hT4 : RdZ z4 (some ⟨1, 0, none⟩) Jd := hT3.mono hz4
     have hE4 : ERZ z4 := hE3.mono hz4
     have ht4 : TrZ n z4 (mkT m 0) q := ⟨ht1.ok.mono ((hz2.trans v3).trans hz4)⟩
     obtain ⟨D, hw⟩ := QmH (key := keyOf kb) hal
     obtain ⟨⟨x, y⟩, hxy⟩ : ∃ xy, VZ (JV n (keyOf kb) (mkT m 0) (D + 1)) (qP n (keyOf kb) (dp.pr A9 c9) dp.ss) (JK (JQ (Ja m (keyOf kb)))) (JK vb) = xy := ⟨_, rfl⟩
     have ha := hacc A9 c9
     have ho : QbO n m D c kb vb (dp.pr A9 c9) dp.ss = some (x, y) := by
      unfold QbO
      rw [ha, htr, hxy]
      rfl
     have hcol := Qhi n c kb vb hw (dp.pr A9 c9) dp.ss ha htr x y hxy
     have hgl := (Qef hvl (keyOf kb)).2
     obtain ⟨hxl, hyl⟩ := QiY hxy (N := 10000001) (fun w hw => Nat.le_trans (Qhm w hw) (by decide)) (fun w hw => Nat.le_trans (Qj2 w hw) (by decide)) (by unfold JK; rw [List.length_cons]; omega) (by unfold JK; rw [List.length_cons]; omega)
     have hSi := QjV n hn z4 gh gc k3 (by omega) m hal q c kb vb (hK := hK.mono hz04) (hV := hV.mono hz04) (by omega) (fun e he => by have := (hvl e he).2; omega) D hw (dp.pr A9 c9) dp.ss rfl (hS := hr4) (some (x, y)) ho
     refine Q1 [.blk g10 c.cells 50, .blk g12 (Proof.cells (dp.pr A9 c9)) 63] [] QJ (same) ?_
     refine Qa 0 rfl (Qi rfl) ?_
     refine Qa 2 rfl (Qi rfl) ?_
     refine Qp 4 rfl (Qm rfl) ?_
     refine Qp 5 rfl (Qm rfl) ?_
     refine Qv 1 ?_
     refine QR 1 rfl ((Yj t0 gh q).comes) rfl rfl rfl (fun xx => same) fun _ => ?_
     refine Qv 3 ?_
     refine QR 3 rfl ((Qhy t0 gh q).comes) rfl rfl rfl (fun xx => same) fun _ => ?_
     refine Qv 6 ?_
     refine QR 6 rfl (hSi.comes) rfl rfl rfl (fun xx => same) fun ⟨⟨z5, X, Y, k5⟩, v5, hXY, v6⟩ => ?_
     refine Qa 7 rfl (Qi rfl) ?_
     refine Qa 8 rfl (Qj rfl rfl) ?_
     refine Qa 9 rfl (Qj rfl rfl) ?_
     refine Qa 10 rfl (Qj rfl rfl) ?_
     refine Qa 11 rfl (Q6 rfl) ?_
     refine Qa 12 rfl (Q6 rfl) ?_
     refine Qa 13 rfl (Q6 rfl) ?_
     refine QB (by kernel_rfl) ?_
     refine Qc ?_
     dsimp only at v5 hXY v6
     obtain ⟨hX, hY⟩ := hXY x y rfl
     have hT5 : RdZ z5 (some ⟨1, 0, none⟩) Jd := hT4.mono v5
     have hE5 : ERZ z5 := hE4.mono v5
     dsimp only
     refine yR ?_
     refine Qh ((Qbf z5).comes) rfl rfl rfl fun ⟨z6, hz6⟩ => ?_
     dsimp only
     have hX6 := hX.mono hz6
     have hY6 := hY.mono hz6
     have rX6 := hX6.rd
     have rY6 := hY6.rd
     unfold Qfc at hcol
     rw [Bool.and_eq_true, Bool.not_eq_true', decide_eq_false_iff_not, decide_eq_true_eq] at hcol
     have hSm := QbL x y X.1 Y.1 X.2 Y.2 (by omega)
     rw [decide_eq_false hcol.1] at hSm
     refine yM rfl ?_
     refine yM rfl ?_
     refine Qb (Ql (QG rfl rfl) (show _ = true from rfl)) ?_
     refine Qb (Qy rfl rfl) ?_
     refine yM rfl ?_
     refine yM rfl ?_
     refine Qb (Qy rfl rfl) ?_
     refine yM rfl ?_
     refine yM rfl ?_
     refine yM rfl ?_
     refine Qh (hSm.comes) rfl rfl rfl fun _ => ?_
     refine Qb (Ji rfl) ?_
     refine Qb (Qy rfl rfl) ?_
     refine yM rfl ?_
     refine yM rfl ?_
     refine yM rfl ?_
     refine Qh ((QdF n hn x X.1 X.2 hX6.nil (by omega)).comes) rfl rfl rfl fun _ => ?_
     refine yM rfl ?_
     refine yM rfl ?_
     refine Qh ((QdF n hn y Y.1 Y.2 hY6.nil (by omega)).comes) rfl rfl rfl fun _ => ?_
     refine Qb (Ql (ZL (p := Jj n x = Jj n y) rfl rfl) (decide_eq_true hcol.2)) ?_
     refine Qb (Qy rfl rfl) ?_
     refine yS rfl ?_
     refine yN ?_
     refine Qs ?_
     exact Qu rfl rfl fun w s => ⟨⟨z6, (hz04.trans v5).trans hz6⟩, rfl, (same (L' := [.zone true z6]) w s).res (List.Sublist.refl _) (by simp [Fa.wr])⟩
    refine Qz rfl ?_
    refine yR ?_
    refine Qh ((Qbf z3).comes) rfl rfl rfl fun ⟨zr, hzr⟩ => ?_
    dsimp only
    refine yS rfl ?_
    refine yN ?_
    refine Qs ?_
    refine Qr ?_
    exact Qu rfl rfl fun w s => ⟨⟨zr, hz03.trans hzr⟩, rfl, (same (L' := [.zone true zr]) w s).res (List.Sublist.refl _) (by simp [Fa.wr])⟩
   have hTr := he
   refine Q1 [.blk g5 (Qg8 c b) 52, .blk g10 c.cells 50] [] QJ (same) ?_
   refine Qa 0 rfl (Qi rfl) ?_
   refine Qa 2 rfl (qr rfl) ?_
   refine Qp 3 rfl (Qm rfl) ?_
   refine Qa 4 rfl (Qe rfl (O' := 3) (by omega)) ?_
   refine Qp 5 rfl (QX rfl (Vk c b)) ?_
   refine Qv 1 ?_
   refine QR 1 rfl ((Yj t0 gh q).comes) rfl rfl rfl (fun xx => same) fun _ => ?_
   refine Qv 6 ?_
   refine QR 6 rfl (hC.comes) rfl rfl rfl (fun xx => same) fun ⟨⟨z3, k3⟩, v3, v4⟩ => ?_
   refine Qa 7 rfl (Ql (QL rfl rfl) (decide_eq_true he)) ?_
   refine Qa 8 rfl (Qi rfl) ?_
   refine QW 9 rfl ?_
   refine QW 10 rfl ?_
   refine QW 11 rfl ?_
   refine Qa 12 rfl (Qy rfl rfl) ?_
   refine QB (by kernel_rfl) ?_
   refine Qc ?_
   dsimp only at v3 v4 ⊢
   have hT3 : RdZ z3 (some ⟨1, 0, none⟩) Jd := hT2.mono v3
   have hE3 : ERZ z3 := hE2.mono v3
   refine Qz rfl ?_
   refine yR ?_
   refine Qh ((Qbf z3).comes) rfl rfl rfl fun ⟨zr, hzr⟩ => ?_
   dsimp only
   refine yS rfl ?_
   refine yN ?_
   refine Qs ?_
   refine Qr ?_
   exact Qu rfl rfl fun w s => ⟨⟨zr, (hz02.trans v3).trans hzr⟩, rfl, (same (L' := [.zone true zr]) w s).res (List.Sublist.refl _) (by simp [Fa.wr])⟩
  rw [if_neg hsh]
  refine Qb (Ql (QG rfl rfl) (show _ = true from rfl)) ?_
  refine Qb (Qy rfl rfl) ?_
  refine yM rfl ?_
  refine Qg ?_
  refine Qg ?_
  refine Qg ?_
  refine Qg ?_
  refine Qb (Qy rfl rfl) ?_
  refine yN ?_
  refine Qz rfl ?_
  refine yR ?_
  refine Qh ((Qbf z1).comes) rfl rfl rfl fun ⟨zr, hzr⟩ => ?_
  dsimp only
  refine yS rfl ?_
  refine yN ?_
  refine Qs ?_
  refine Qr ?_
  exact Qu rfl rfl fun w s => ⟨⟨zr, hz1.trans hzr⟩, rfl, (same (L' := [.zone true zr]) w s).res (List.Sublist.refl _) (by simp [Fa.wr])⟩
 have hG := Qlh h i l A cA hz hok
 refine Qk Tryz.func4 rfl (n := 96) rfl rfl ?_
 intro W
 refine yR ?_
 refine Qo (Q9 rfl) fun g5 => ?_
 refine yS rfl ?_
 refine yN ?_
 refine yR ?_
 refine yM rfl ?_
 refine yM rfl ?_
 refine Qh (hG.comes) rfl rfl rfl fun _ => ?_
 refine yM rfl ?_
 refine Qb (Qj rfl rfl) ?_
 refine Qb (Qj rfl rfl) ?_
 refine Qb (Qj rfl rfl) ?_
 refine yS rfl ?_
 refine yS rfl ?_
 refine yS rfl ?_
 refine yN ?_
 refine yR ?_
 refine Qb (Qe rfl) ?_
 refine Qb (Jm rfl (out := c.cells) (Claim.cells_length _) (Qdi c b)) ?_
 refine Qo (Q0) fun g10 => ?_
 refine Q7 (Qw rfl rfl) ?_
 refine yN ?_
 refine Qd ?_
 refine yR ?_
 refine yM rfl ?_
 refine Qb (Ji rfl) ?_
 refine yM rfl ?_
 refine Qg ?_
 refine Qg ?_
 refine Qg ?_
 refine Qb (Qy rfl rfl) ?_
 refine yM rfl ?_
 refine Qg ?_
 refine Qg ?_
 refine Qg ?_
 refine Qg ?_
 refine Qb (Qy rfl rfl) ?_
 refine yN ?_
 refine Qz rfl ?_
 refine yR ?_
 refine Qh ((Qbf h).comes) rfl rfl rfl fun ⟨zr, hzr⟩ => ?_
 dsimp only
 refine yS rfl ?_
 refine yN ?_
 refine Qs ?_
 refine Qr ?_
 exact Qu rfl rfl fun w s => ⟨⟨zr, hzr⟩, rfl, (same (L' := [.zone true zr]) w s).res (List.Sublist.refl _) (by simp [Fa.wr])⟩
end
end
section
open Go.RowKit Go.ChangeShapes Go.WideShapes
section
variable {H : Type} {enc : TypeId × Value → H} {w : World} {base : Nat} {spare : Nat → Bool} {held : Bool} {v : Value} {d : DataW H} {ps : List MemPlace} {r : Reach} {b0 : Nat}
theorem QdY : Tryz.prog.cellsOf 52 = 4 := by kernel_rfl
theorem QaT : ∃ f1 f2 : Field, Tryz.prog.underlying 52 = some (.struct #[f1, f2]) ∧ f1.type = 50 ∧ f2.type = 35 ∧ f1.offset = 0 ∧ f2.offset = 3 :=
 ⟨_, _, Tryz.underlying52, rfl, rfl, rfl, rfl⟩
set_option maxRecDepth 100000 in
theorem Qc3 (hval : Value.okWide Tryz.prog w r b0 52 v) (hd : DataW.Trod enc Tryz.prog w base spare held 52 v d ps) :
  ∃ (y : CB) (s : Sl) (bb : List UInt8), v = .agg (Qg8 y.c s).toArray ∧ SlZ (World.zh w) y.c.key y.kb ∧ SlZ (World.zh w) y.c.value y.vb ∧ SlZ (World.zh w) s bb := by
 obtain ⟨f1, f2, hT, t1, t2, o1, o2⟩ := QaT
 obtain ⟨cs, rfl, -⟩ := okWide_struct hT hval
 obtain ⟨fuel, hf⟩ := hd
 obtain ⟨cs⟩ := cs
 have hf' : DataW.trod enc Tryz.prog w base spare held fuel 52 cs = some (d, ps) := by simpa [Value.cells] using hf
 obtain ⟨xs, n, -, -, hl, hxl, hx⟩ := DataW.trod_struct hT hf'
 rw [QdY] at hl
 have hxl' : xs.length = 2 := hxl
 have k1 := hx 0 f1 rfl
 have k2 := hx 1 f2 rfl
 rw [List.getElem?_eq_getElem (by omega)] at k1 k2
 rw [o1, t1, Qh4, List.drop_zero] at k1
 rw [o2, t2, Vy] at k2
 obtain ⟨y, e1, z1, z2⟩ := QpE k1
 obtain ⟨s, bb, e2, z3⟩ := qc k2
 refine ⟨y, s, bb, ?_, z1, z2, z3⟩
 have r1 : cs = cs.take 3 ++ (cs.drop 3).take 1 := by
  rw [List.take_of_length_le (l := cs.drop 3) (by simp; omega), List.take_append_drop]
 rw [r1, e1, e2]
 rfl
end
end
section
open Go.RowKit Go.ChangeShapes Go.WideShapes
theorem QoA : mapsRowed Tryz.prog = true := by kernel_rfl
theorem Qm3 : Tryz.prog.mayEnter = true := by kernel_rfl
theorem Qo9 : Tryz.prog.plainKeys = false := by kernel_rfl
theorem Qm4 : Tryz.prog.stopsHeard = true := by kernel_rfl
theorem Qm5 : Tryz.prog.liftsFinal = false := by kernel_rfl
theorem Qm6 : Tryz.prog.looks [] = true := by kernel_rfl
theorem QqX {a b c : Bool} (ha : a = c) (hb : b = c) : (a == b) = true := by rw [ha, hb]; exact beq_self_eq_true c
theorem Y8 {a b : Bool} (ha : a = true) (hb : b = true) : (a && b) = true := by rw [ha, hb]; rfl
end
end Go.Proofs.YtjhlbbgikccclaaGreatDoor
