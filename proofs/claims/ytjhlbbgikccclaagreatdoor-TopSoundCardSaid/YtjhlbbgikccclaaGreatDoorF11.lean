/- joined texts -/
import Derived.Test.YtjhlbbgikccclaaGreatDoorF10
import Derived.WideLaws
set_option linter.all false
namespace Go.Proofs.YtjhlbbgikccclaaGreatDoor
section
open Go.RowKit
theorem qj (h : Zh) (r : List UInt8) (A : Option Addr) (c g : Nat) (b : Bool) (hb : r.length < 32) :
  QC Tryz.prog 63 [.pointer (some ⟨g, 0, none⟩)].toArray [.zone false h] [.blk g [.slice A r.length c, .bool b] 134] (fun _ : Unit => .agg QN.cells.toArray) (fun _ => [.blk g [.slice A r.length c, .bool true] 134]) := by
 refine Qk Tryz.func63 rfl (n := 28) rfl rfl ?_
 intro W
 refine yR ?_
 refine Qo (Q0) fun g2 => ?_
 refine yN ?_
 refine Qd ?_
 refine yR ?_
 refine yM rfl ?_
 refine Qb (QA rfl) ?_
 refine Qb (Qe rfl) ?_
 refine Qb (Qf rfl) ?_
 refine Qb (QF rfl) ?_
 refine Qb (Ql (QT rfl rfl) (decide_eq_true (by omega))) ?_
 refine yN ?_
 refine Qz rfl ?_
 refine yR ?_
 refine yM rfl ?_
 refine Qb (QA rfl) ?_
 refine Qb (Qe rfl) ?_
 refine Q7 (QV rfl rfl rfl) ?_
 refine yN ?_
 refine yR ?_
 refine Qb (Qm rfl) ?_
 refine Q7 (Qw rfl rfl) ?_
 refine yN ?_
 refine Qs ?_
 refine Qr ?_
 exact Qu rfl (QZ rfl) fun w s => ⟨(), rfl, (same (L' := [.blk g [.slice A r.length c, .bool true] 134]) w s).res (List.Sublist.refl _) (by simp [Fa.wr])⟩
theorem QeH (h : Zh) (l : List UInt8) (hl : l.length ≤ 100000000) (B : Option Addr) (c : Nat) (hcap : l.length ≤ c) [hB : RdZ h B (bc l)] :
    QC Tryz.prog 24 [.slice B l.length c].toArray [.zone false h] [] (Qr7 (Ya l)) (Qr6 (Ya l)) := by
  by_cases h36 : l.length < 36
  · have hE : Ya l = .error 5 := by unfold Ya; rw [if_pos h36]
    rw [hE]
    refine Qk Tryz.func24 rfl (n := 104) rfl rfl ?_
    intro W
    refine yR ?_
    refine Qo (Q0) fun g2 => ?_
    refine yS rfl ?_
    refine yN ?_
    refine Qd ?_
    refine yR ?_
    refine yM rfl ?_
    refine Qb (QF rfl) ?_
    refine Qb (Ql (QT rfl rfl) (decide_eq_true (by omega))) ?_
    refine yN ?_
    refine Qz rfl ?_
    refine yR ?_
    refine Qb (QD rfl) ?_
    refine Q7 (Qw rfl rfl) ?_
    refine yS rfl ?_
    refine yN ?_
    refine Qs ?_
    refine Qr ?_
    exact QO rfl (QZ rfl) rfl fun w s => ⟨(none, 0), rfl, s.res (List.nil_sublist _) (fun f hf => (List.not_mem_nil hf).elim)⟩
  · replace h36 : 36 ≤ l.length := by omega
    obtain ⟨b, o, rfl, -⟩ := hB.at_ 0 _ (List.getElem?_eq_getElem (by rw [Jt]; omega))
    by_cases h01 : l.getD 0 0 = 1
    · have hK := Qnq l (some ⟨b, o, none⟩) c (by omega) h01
      have h2 := (l.getD 2 0).toNat_lt
      have h3 := (l.getD 3 0).toNat_lt
      obtain ⟨d, hd⟩ : ∃ d, (l.getD 2 0).toNat * 256 + (l.getD 3 0).toNat = d := ⟨_, rfl⟩
      obtain ⟨k, hdK⟩ : ∃ k, (l.getD 1 0).toNat = k := ⟨_, rfl⟩
      rw [hdK] at hK
      have h4 : l.length - 4 = 32 + (l.drop 36).length := by rw [List.length_drop]; omega
      have hdr4 := YY (l := l) (o := 4) (by omega)
      have hz : RdZ h (cutA (some ⟨b, o, none⟩) c 4 1) (bc ((Jf l 4).1 ++ l.drop 36)) := by
        refine Qrb (l := l.take 4) ?_ (by rw [List.length_take]; omega) (by omega) (by rw [List.length_append, (Jf l 4).2, ← h4]; omega)
        rw [← hdr4, List.take_append_drop]
        exact hB
      have hc4 : 32 + (l.drop 36).length ≤ c - 4 := by omega
      by_cases hk2 : 1 < k
      · have hE : Ya l = .error 7 := by unfold Ya; rw [if_neg (by omega), if_neg (fun h => h h01), if_pos (show 1 < (l.getD 1 0).toNat by omega)]
        rw [hE]
        refine Qk Tryz.func24 rfl (n := 104) rfl rfl ?_
        intro W
        refine yR ?_
        refine Qo (Q0) fun g2 => ?_
        refine yS rfl ?_
        refine yN ?_
        refine Qd ?_
        refine yR ?_
        refine yM rfl ?_
        refine Qb (QF rfl) ?_
        refine Qb (Ql (QT rfl rfl) (decide_eq_false (by omega))) ?_
        refine yN ?_
        refine Qt rfl ?_
        refine Qn ?_
        refine Qc ?_
        refine yR ?_
        refine yM rfl ?_
        refine Qh (hK.comes) rfl rfl rfl fun _ => ?_
        refine yM rfl ?_
        refine Qb (Qj rfl rfl) ?_
        refine Qb (Qj rfl rfl) ?_
        refine yS rfl ?_
        refine yS rfl ?_
        refine yN ?_
        refine Qd ?_
        refine yR ?_
        refine yM rfl ?_
        refine Qb (QL rfl rfl) ?_
        refine yN ?_
        refine Ys rfl ((fun h => h rfl)) ?_
        refine Qn ?_
        refine Qc ?_
        refine Qd ?_
        refine yR ?_
        refine yM rfl ?_
        refine Qb (Ql (QL rfl rfl) (decide_eq_true (by omega))) ?_
        refine yM rfl ?_
        refine yM rfl ?_
        refine Qb (Ql (QL rfl rfl) (decide_eq_true (by omega))) ?_
        refine Qb (Qy rfl rfl) ?_
        refine yN ?_
        refine Qz rfl ?_
        refine yR ?_
        refine Qb (QD rfl) ?_
        refine Q7 (Qw rfl rfl) ?_
        refine yS rfl ?_
        refine yN ?_
        refine Qs ?_
        refine Qr ?_
        exact QO rfl (QZ rfl) rfl fun w s => ⟨(none, 0), rfl, s.res (List.nil_sublist _) (fun f hf => (List.not_mem_nil hf).elim)⟩
      · rcases (by omega : k = 0 ∨ k = 1) with rfl | rfl
        · have hlf : dLf l = Yi := if_neg (by show ¬ (l.getD 1 0).toNat = 1; omega)
          have hdk : dK l = 0 := hdK
          have hbase : JL l = 36 := by unfold JL; omega
          refine Qk Tryz.func24 rfl (n := 104) rfl rfl ?_
          intro W
          refine yR ?_
          refine Qo (Q0) fun g2 => ?_
          refine yS rfl ?_
          refine yN ?_
          refine Qd ?_
          refine yR ?_
          refine yM rfl ?_
          refine Qb (QF rfl) ?_
          refine Qb (Ql (QT rfl rfl) (decide_eq_false (by omega))) ?_
          refine yN ?_
          refine Qt rfl ?_
          refine Qn ?_
          refine Qc ?_
          refine yR ?_
          refine yM rfl ?_
          refine Qh (hK.comes) rfl rfl rfl fun _ => ?_
          refine yM rfl ?_
          refine Qb (Qj rfl rfl) ?_
          refine Qb (Qj rfl rfl) ?_
          refine yS rfl ?_
          refine yS rfl ?_
          refine yN ?_
          refine Qd ?_
          refine yR ?_
          refine yM rfl ?_
          refine Qb (QL rfl rfl) ?_
          refine yN ?_
          refine Ys rfl ((fun h => h rfl)) ?_
          refine Qn ?_
          refine Qc ?_
          refine Qd ?_
          refine yR ?_
          refine yM rfl ?_
          refine Qb (Ql (QL rfl rfl) (show _ = false from rfl)) ?_
          refine yM rfl ?_
          refine Qg ?_
          refine Qg ?_
          refine Qb (Qy rfl rfl) ?_
          refine yN ?_
          refine Qt rfl ?_
          refine Qn ?_
          refine Qc ?_
          refine yR ?_
          refine yM rfl ?_
          refine Qb (QbC (Qb5 rfl rfl) (show _ = Value.slice (cutA (some ⟨b, o, none⟩) c 4 1) (32 + (l.drop 36).length) (c - 4) by rw [h4])) ?_
          refine Qb (QD rfl) ?_
          refine Qo (Q9 rfl) fun g32 => ?_
          refine yS rfl ?_
          refine yN ?_
          refine yR ?_
          refine yM rfl ?_
          refine Qb (Y1 rfl rfl) ?_
          refine yS rfl ?_
          refine yN ?_
          refine Qd ?_
          refine QaY (fun (u : {y : Option Addr × Nat // RdZ h y.1 (bc (l.drop 36)) ∧ (l.drop 36).length ≤ y.2} × Nat) => [(8, .pointer (some ⟨u.2, 0, none⟩)), (7, .func (.func 63) [.pointer (some ⟨g32, 0, none⟩)].toArray #[]), (6, .pointer (some ⟨g32, 0, none⟩)), (4, .int .i64 ((0 : Nat) : Int)), (2, .pointer (some ⟨g2, 0, none⟩))]) (fun (u : {y : Option Addr × Nat // RdZ h y.1 (bc (l.drop 36)) ∧ (l.drop 36).length ≤ y.2} × Nat) => [.blk u.2 (Proof.cells ⟨((0 : Nat) : Int), (d : Int), Jr.leaf, Jf l 4, Jr.sibs⟩) 63, .blk g32 [.slice u.1.1.1 (l.drop 36).length u.1.1.2, .bool false] 134, .blk g2 Jr.cells 63, .zone false h]) (fun kk => ?_) ?_
          · refine Q1 [.zone false h] [] QJ (same) ?_
            refine Qa 0 rfl (Qi rfl) ?_
            refine Qa 1 rfl (Qi rfl) ?_
            refine Qa 2 rfl (QQ rfl rfl) ?_
            refine Qp 3 rfl (QX rfl (J1 (l := l) (i := 2) (by omega))) ?_
            refine Qa 4 rfl (Jv (Zj rfl) (show _ = (((l.getD 2 0).toNat : Nat) : Int) from rfl)) ?_
            refine Qa 5 rfl (Qmc rfl rfl) ?_
            refine Qa 6 rfl (Qi rfl) ?_
            refine Qa 7 rfl (QQ rfl rfl) ?_
            refine Qp 8 rfl (QX rfl (J1 (l := l) (i := 3) (by omega))) ?_
            refine Qa 9 rfl (Jv (Zj rfl) (show _ = (((l.getD 3 0).toNat : Nat) : Int) from rfl)) ?_
            refine Qa 10 rfl (Jv (Qpl rfl rfl) (show _ = (d : Int) by omega)) ?_
            refine Qa 11 rfl (Qi rfl) ?_
            refine V1 12 14 ?_ ?_
            · refine QR 12 rfl ((qX h (Jf l 4) (l.drop 36) (cutA (some ⟨b, o, none⟩) c 4 1) (c - 4) g32 hc4 (by omega)).comes) rfl rfl rfl (fun xx => same) fun y47 => ?_
              refine Qa 13 rfl (QD rfl) ?_
              refine Qv 14 ?_
              refine JB 14 rfl (rk (Q0)) (fun _ => same) fun g8 => ?_
              refine Qv 15 ?_
              refine J4 15 rfl (Qw rfl rfl) ?_
              exact h_K (kk (y47, g8)) (⟨rfl, rfl, rfl, rfl, rfl, trivial⟩) same
            · refine JB 14 rfl (rk (Q0)) (fun _ => same) fun g8 => ?_
              refine Qv 12 ?_
              refine QR 12 rfl ((qX h (Jf l 4) (l.drop 36) (cutA (some ⟨b, o, none⟩) c 4 1) (c - 4) g32 hc4 (by omega)).comes) rfl rfl rfl (fun xx => same) fun y47 => ?_
              refine Qa 13 rfl (QD rfl) ?_
              refine Qv 15 ?_
              refine J4 15 rfl (Qw rfl rfl) ?_
              exact h_K (kk (y47, g8)) (⟨rfl, rfl, rfl, rfl, rfl, trivial⟩) same
          rintro ⟨⟨⟨A47, c47⟩, hz0, hc0⟩, g8⟩
          refine Qc ?_
          dsimp only at hz0 hc0 ⊢
          change H _ _ _ _ _ (.blk g8 (Proof.cells ⟨((0 : Nat) : Int), (d : Int), Yi, Jf l 4, ⟨none, 0, 0⟩⟩) _ :: _) _
          refine Qd ?_
          refine yR ?_
          refine yM rfl ?_
          refine Qb (Ql (QG rfl rfl) (show _ = false from rfl)) ?_
          refine yN ?_
          refine Qt rfl ?_
          refine Qn ?_
          refine Qc ?_
          refine Qd ?_
          refine Qq ?_
          refine Ju 45 32 (xs := dgs []) rfl ?_
          refine QS (fun (s : List UInt8 × Bool × Option Addr × Nat × List B32 × Option Addr × Nat) => RdZ h s.2.2.1 (bc s.1) ∧ s.1.length ≤ s.2.2.2.1 ∧ s.1.length ≤ l.length ∧ s.2.2.2.2.1.length ≤ 257 ∧ (s.2.1 = false → 36 + 32 * s.2.2.2.2.1.length ≤ l.length ∧ s.1 = l.drop (36 + 32 * s.2.2.2.2.1.length) ∧ s.2.2.2.2.1 = qe l 36 s.2.2.2.2.1.length) ∧ (s.2.1 = true → Ya l = .error 5)) (fun (s : List UInt8 × Bool × Option Addr × Nat × List B32 × Option Addr × Nat) => [(8, .pointer (some ⟨g8, 0, none⟩)), (7, .func (.func 63) [.pointer (some ⟨g32, 0, none⟩)].toArray #[]), (6, .pointer (some ⟨g32, 0, none⟩)), (2, .pointer (some ⟨g2, 0, none⟩))]) (fun (s : List UInt8 × Bool × Option Addr × Nat × List B32 × Option Addr × Nat) => [.own (.slice s.2.2.2.2.2.1 s.2.2.2.2.1.length s.2.2.2.2.2.2) s.2.2.2.2.1.length 45 32 (dgs s.2.2.2.2.1), .blk g8 (Proof.cells ⟨((0 : Nat) : Int), (d : Int), Yi, Jf l 4, ⟨s.2.2.2.2.2.1, s.2.2.2.2.1.length, s.2.2.2.2.2.2⟩⟩) 63, .blk g32 [.slice s.2.2.1 s.1.length s.2.2.2.1, .bool s.2.1] 134, .blk g2 Jr.cells 63, .zone false h]) (fun (s : List UInt8 × Bool × Option Addr × Nat × List B32 × Option Addr × Nat) => s.1.length + (if s.2.1 then 0 else 1)) (l.drop 36, false, A47, c47, [], none, 0) (⟨hz0, hc0, by dsimp only; rw [List.length_drop]; omega, Nat.zero_le _, fun _ => ⟨by dsimp only; show 36 + 32 * 0 ≤ _; omega, rfl, rfl⟩, fun h => by cases h⟩) ⟨rfl, rfl, rfl, rfl, trivial⟩ (same) ?_
          rintro ⟨r, b', Ar, cr, ss, A, c9⟩ ⟨q1, q2, q3, q4, q5, q6⟩
          dsimp only at q1 q2 q3 q4 q5 q6 ⊢
          by_cases hr0 : 0 < r.length
          · cases b'
            · obtain ⟨q7, q8, q9⟩ := q5 rfl
              have hrl : r.length = l.length - (36 + 32 * ss.length) := by rw [q8, List.length_drop]
              by_cases h6 : ss.length ≤ 256
              · refine Qd ?_
                refine yR ?_
                refine yM rfl ?_
                refine Qb (QA rfl) ?_
                refine Qb (Qe rfl) ?_
                refine Qb (Qf rfl) ?_
                refine Qb (QF rfl) ?_
                refine Qb (Ql (Jo rfl rfl) (decide_eq_true (by omega))) ?_
                refine yM rfl ?_
                refine yM rfl ?_
                refine Qb (QA rfl) ?_
                refine Qb (Qe rfl) ?_
                refine Qb (Qf rfl) ?_
                refine Qb (Ji rfl) ?_
                refine Qb (Qy rfl rfl) ?_
                refine yM rfl ?_
                refine Qb (Qe rfl) ?_
                refine Qb (Qf rfl) ?_
                refine Qb (QF rfl) ?_
                refine Qb (Ql (Qb3 rfl rfl) (decide_eq_true (show (ss.length : Int) ≤ 256 by omega))) ?_
                refine Qb (Qy rfl rfl) ?_
                refine yN ?_
                refine Qz rfl ?_
                refine Qn ?_
                refine Qc ?_
                refine Qq ?_
                by_cases h32 : 32 ≤ r.length
                · have hdr := YY (l := l) (o := 36 + 32 * ss.length) (by omega)
                  have hx := (Jf l (36 + 32 * ss.length)).2
                  have hl2 : r.length = 32 + (l.drop (36 + 32 * ss.length + 32)).length := by rw [q8, hdr, List.length_append, hx]
                  rw [q8, hdr] at q1
                  have htk : dgs ss ++ (Jf l (36 + 32 * ss.length)).cells = dgs (ss ++ [Jf l (36 + 32 * ss.length)]) := by rw [Yb, VX]
                  have hlx : ss.length + 1 = (ss ++ [Jf l (36 + 32 * ss.length)]).length := by rw [List.length_append]; rfl
                  have hsc := Qb7 l 36 ss.length
                  rw [← q9] at hsc
                  rw [hl2]
                  rw [hl2] at q2
                  refine Q1 [.blk g8 (Proof.cells ⟨((0 : Nat) : Int), (d : Int), Yi, Jf l 4, ⟨A, ss.length, c9⟩⟩) 63] [] QJ (same) ?_
                  refine Qa 0 rfl (Qe rfl) ?_
                  refine Qp 1 rfl (Qf rfl) ?_
                  refine Qa 2 rfl (Qi rfl) ?_
                  refine Qv 3 ?_
                  refine QR 3 rfl ((qX h (Jf l (36 + 32 * ss.length)) (l.drop (36 + 32 * ss.length + 32)) Ar cr g32 q2 (by omega)).comes) rfl rfl rfl (fun xx => same) fun ⟨⟨Ar2, cr2⟩, hz5, hc5⟩ => ?_
                  refine Qv 4 ?_
                  refine JB 4 rfl (rk (J8 rfl rfl)) (fun _ => same) fun g82 => ?_
                  refine Qv 5 ?_
                  refine JB 5 rfl (rk (Yo rfl rfl (k := 32))) (fun _ => same) fun ⟨g83, c83⟩ => ?_
                  refine Qa 6 rfl (Qe rfl) ?_
                  refine Qv 7 ?_
                  refine J4 7 rfl (QV rfl rfl rfl) ?_
                  refine Q2 ?_
                  rw [htk, hlx]
                  exact QH (l.drop (36 + 32 * ss.length + 32), false, Ar2, cr2, ss ++ [Jf l (36 + 32 * ss.length)], some ⟨g83, 0, none⟩, c83) (⟨hz5, hc5, by dsimp only; omega, by dsimp only; omega, fun _ => ⟨by dsimp only; omega, by dsimp only; rw [← hlx, show 36 + 32 * (ss.length + 1) = 36 + 32 * ss.length + 32 by omega], by dsimp only; rw [← hlx, hsc]⟩, fun h => by cases h⟩) ((show (l.drop (36 + 32 * ss.length + 32)).length + 1 < r.length + 1 by omega)) ⟨rfl, rfl, rfl, rfl, trivial⟩ (same)
                · have hE := Vn (l := l) h36 h01 (by omega) (.inr (.inl (by omega)))
                  have htk : dgs ss ++ QN.cells = dgs (ss ++ [QN]) := by rw [Yb, VX]
                  have hlx : ss.length + 1 = (ss ++ [QN]).length := by rw [List.length_append]; rfl
                  refine Q1 [.blk g8 (Proof.cells ⟨((0 : Nat) : Int), (d : Int), Yi, Jf l 4, ⟨A, ss.length, c9⟩⟩) 63] [] QJ (same) ?_
                  refine Qa 0 rfl (Qe rfl) ?_
                  refine Qp 1 rfl (Qf rfl) ?_
                  refine Qa 2 rfl (Qi rfl) ?_
                  refine Qv 3 ?_
                  refine QR 3 rfl ((qj h r Ar cr g32 false (by omega)).comes) rfl rfl rfl (fun xx => same) fun _ => ?_
                  refine Qv 4 ?_
                  refine JB 4 rfl (rk (J8 rfl rfl)) (fun _ => same) fun g82 => ?_
                  refine Qv 5 ?_
                  refine JB 5 rfl (rk (Yo rfl rfl (k := 32))) (fun _ => same) fun ⟨g83, c83⟩ => ?_
                  refine Qa 6 rfl (Qe rfl) ?_
                  refine Qv 7 ?_
                  refine J4 7 rfl (QV rfl rfl rfl) ?_
                  refine Q2 ?_
                  rw [htk, hlx]
                  exact QH (r, true, Ar, cr, ss ++ [QN], some ⟨g83, 0, none⟩, c83) (⟨q1, q2, q3, by dsimp only; omega, (fun h => by cases h), fun _ => hE⟩) ((show r.length + 0 < r.length + 1 by omega)) ⟨rfl, rfl, rfl, rfl, trivial⟩ (same)
              · have hE := Vn (l := l) h36 h01 (by omega) (by have : JL l = 36 := by (unfold JL; omega)
                                                              omega)
                rw [hE]
                refine Qd ?_
                refine yR ?_
                refine yM rfl ?_
                refine Qb (QA rfl) ?_
                refine Qb (Qe rfl) ?_
                refine Qb (Qf rfl) ?_
                refine Qb (QF rfl) ?_
                refine Qb (Ql (Jo rfl rfl) (decide_eq_true (by omega))) ?_
                refine yM rfl ?_
                refine yM rfl ?_
                refine Qb (QA rfl) ?_
                refine Qb (Qe rfl) ?_
                refine Qb (Qf rfl) ?_
                refine Qb (Ji rfl) ?_
                refine Qb (Qy rfl rfl) ?_
                refine yM rfl ?_
                refine Qb (Qe rfl) ?_
                refine Qb (Qf rfl) ?_
                refine Qb (QF rfl) ?_
                refine Qb (Ql (Qb3 rfl rfl) (decide_eq_false (show ¬ (ss.length : Int) ≤ 256 by omega))) ?_
                refine Qb (Qy rfl rfl) ?_
                refine yN ?_
                refine Qt rfl ?_
                refine QK ?_
                refine Qx ?_
                refine Qx ?_
                refine Q8 ?_
                refine Qc ?_
                refine Qd ?_
                refine yR ?_
                refine yM rfl ?_
                refine Qb (QA rfl) ?_
                refine Qb (Qe rfl) ?_
                refine Qb (Qf rfl) ?_
                refine yM rfl ?_
                refine yM rfl ?_
                refine Qb (QA rfl) ?_
                refine Qb (Qe rfl) ?_
                refine Qb (Qf rfl) ?_
                refine Qb (QF rfl) ?_
                refine Qb (Ql (Jo rfl rfl) (decide_eq_true (by omega))) ?_
                refine Qb (Qy rfl rfl) ?_
                refine yM rfl ?_
                refine Qg ?_
                refine Qg ?_
                refine Qg ?_
                refine Qb (Qy rfl rfl) ?_
                refine yN ?_
                refine Qz rfl ?_
                refine yR ?_
                refine Qb (QD rfl) ?_
                refine Q7 (Qw rfl rfl) ?_
                refine yS rfl ?_
                refine yN ?_
                refine Qs ?_
                refine Qr ?_
                exact QO rfl (QZ rfl) rfl fun w s => ⟨(none, 0), rfl, s.res (List.nil_sublist _) (fun f hf => (List.not_mem_nil hf).elim)⟩
            · rw [q6 rfl]
              refine Qd ?_
              refine yR ?_
              refine yM rfl ?_
              refine Qb (QA rfl) ?_
              refine Qb (Qe rfl) ?_
              refine Qb (Qf rfl) ?_
              refine Qb (QF rfl) ?_
              refine Qb (Ql (Jo rfl rfl) (decide_eq_true (by omega))) ?_
              refine yM rfl ?_
              refine yM rfl ?_
              refine Qb (QA rfl) ?_
              refine Qb (Qe rfl) ?_
              refine Qb (Qf rfl) ?_
              refine Qb (Ji rfl) ?_
              refine Qb (Qy rfl rfl) ?_
              refine yM rfl ?_
              refine Qg ?_
              refine Qg ?_
              refine Qg ?_
              refine Qg ?_
              refine Qb (Qy rfl rfl) ?_
              refine yN ?_
              refine Qt rfl ?_
              refine QK ?_
              refine Qx ?_
              refine Qx ?_
              refine Q8 ?_
              refine Qc ?_
              refine Qd ?_
              refine yR ?_
              refine yM rfl ?_
              refine Qb (QA rfl) ?_
              refine Qb (Qe rfl) ?_
              refine Qb (Qf rfl) ?_
              refine yM rfl ?_
              refine Qg ?_
              refine Qg ?_
              refine Qg ?_
              refine Qg ?_
              refine Qg ?_
              refine Qg ?_
              refine Qb (Qy rfl rfl) ?_
              refine yM rfl ?_
              refine Qg ?_
              refine Qg ?_
              refine Qg ?_
              refine Qb (Qy rfl rfl) ?_
              refine yN ?_
              refine Qz rfl ?_
              refine yR ?_
              refine Qb (QD rfl) ?_
              refine Q7 (Qw rfl rfl) ?_
              refine yS rfl ?_
              refine yN ?_
              refine Qs ?_
              refine Qr ?_
              exact QO rfl (QZ rfl) rfl fun w s => ⟨(none, 0), rfl, s.res (List.nil_sublist _) (fun f hf => (List.not_mem_nil hf).elim)⟩
          · cases b'
            · obtain ⟨q7, q8, q9⟩ := q5 rfl
              have hrl : r.length = l.length - (36 + 32 * ss.length) := by rw [q8, List.length_drop]
              have hE := Qcf (l := l) h36 h01 (by omega) (N := ss.length) (by unfold JL; omega) q4
              have hDP : ∀ A c, (dDP l ss.length).pr A c = ⟨((0 : Nat) : Int), (d : Int), Yi, Jf l 4, ⟨A, ss.length, c⟩⟩ := fun A c => by
                unfold DP.pr dDP
                rw [hlf, QcJ, hdk, hd]
              have hss : (dDP l ss.length).ss = ss := by show qe l (JL l) ss.length = ss; rw [show JL l = 36 by unfold JL; omega]; exact q9.symm
              have hcc := Zs ⟨((0 : Nat) : Int), (d : Int), Yi, Jf l 4, ⟨A, ss.length, c9⟩⟩
              have hca : Jk ⟨((0 : Nat) : Int), (d : Int), Yi, Jf l 4, ⟨A, ss.length, c9⟩⟩ = Jk ((dDP l ss.length).pr none 0) := by rw [hDP]; rfl
              refine Qd ?_
              refine yR ?_
              refine yM rfl ?_
              refine Qb (QA rfl) ?_
              refine Qb (Qe rfl) ?_
              refine Qb (Qf rfl) ?_
              refine Qb (QF rfl) ?_
              refine Qb (Ql (Jo rfl rfl) (decide_eq_false (by omega))) ?_
              refine yM rfl ?_
              refine Qg ?_
              refine Qg ?_
              refine Qg ?_
              refine Qg ?_
              refine Qg ?_
              refine Qb (Qy rfl rfl) ?_
              refine yM rfl ?_
              refine Qg ?_
              refine Qg ?_
              refine Qg ?_
              refine Qg ?_
              refine Qb (Qy rfl rfl) ?_
              refine yN ?_
              refine Qt rfl ?_
              by_cases hck : Jk ((dDP l ss.length).pr none 0) = 0
              · rw [if_pos hck] at hE
                rw [hE]
                rw [hca, hck] at hcc
                refine QK ?_
                refine Qx ?_
                refine Qx ?_
                refine Q8 ?_
                refine Qc ?_
                refine Qd ?_
                refine yR ?_
                refine yM rfl ?_
                refine Qb (QA rfl) ?_
                refine Qb (Qe rfl) ?_
                refine Qb (Qf rfl) ?_
                refine yM rfl ?_
                refine yM rfl ?_
                refine Qb (QA rfl) ?_
                refine Qb (Qe rfl) ?_
                refine Qb (Qf rfl) ?_
                refine Qb (QF rfl) ?_
                refine Qb (Ql (Jo rfl rfl) (decide_eq_false (by omega))) ?_
                refine Qb (Qy rfl rfl) ?_
                refine yM rfl ?_
                refine Qb (Qm rfl) ?_
                refine Qh (hcc.comes) rfl rfl rfl fun _ => ?_
                refine Qb (Ql (QL rfl rfl) (decide_eq_false (fun h => h rfl))) ?_
                refine Qb (Qy rfl rfl) ?_
                refine yN ?_
                refine Qt rfl ?_
                refine Qn ?_
                refine Qc ?_
                refine yR ?_
                refine Qb (Qm rfl) ?_
                refine Q7 (Qw rfl rfl) ?_
                refine yS rfl ?_
                refine yN ?_
                refine Qs ?_
                refine QO rfl (QZ rfl) rfl fun w s => ⟨(A, c9), ?_, ?_⟩
                · show _ = Ending.returned (.tuple #[.agg ((dDP l ss.length).pr A c9).cells.toArray, .int .i64 0])
                  rw [hDP]
                · show Rx _ _ _ [.own (.slice A (dDP l ss.length).ss.length c9) (dDP l ss.length).ss.length 45 32 (dgs (dDP l ss.length).ss)]
                  rw [hss]
                  exact (same (L' := [.own (.slice A ss.length c9) ss.length 45 32 (dgs ss)]) w s).res (List.Sublist.refl _) (by simp [Fa.wr])
              · rw [if_neg hck] at hE
                rw [hE]
                rw [hca] at hcc
                refine QK ?_
                refine Qx ?_
                refine Qx ?_
                refine Q8 ?_
                refine Qc ?_
                refine Qd ?_
                refine yR ?_
                refine yM rfl ?_
                refine Qb (QA rfl) ?_
                refine Qb (Qe rfl) ?_
                refine Qb (Qf rfl) ?_
                refine yM rfl ?_
                refine yM rfl ?_
                refine Qb (QA rfl) ?_
                refine Qb (Qe rfl) ?_
                refine Qb (Qf rfl) ?_
                refine Qb (QF rfl) ?_
                refine Qb (Ql (Jo rfl rfl) (decide_eq_false (by omega))) ?_
                refine Qb (Qy rfl rfl) ?_
                refine yM rfl ?_
                refine Qb (Qm rfl) ?_
                refine Qh (hcc.comes) rfl rfl rfl fun _ => ?_
                refine Qb (Ql (QL rfl rfl) (decide_eq_true hck)) ?_
                refine Qb (Qy rfl rfl) ?_
                refine yN ?_
                refine Qz rfl ?_
                refine yR ?_
                refine Qb (QD rfl) ?_
                refine Q7 (Qw rfl rfl) ?_
                refine yS rfl ?_
                refine yN ?_
                refine Qs ?_
                refine Qr ?_
                exact QO rfl (QZ rfl) rfl fun w s => ⟨(none, 0), rfl, s.res (List.nil_sublist _) (fun f hf => (List.not_mem_nil hf).elim)⟩
            · rw [q6 rfl]
              refine Qd ?_
              refine yR ?_
              refine yM rfl ?_
              refine Qb (QA rfl) ?_
              refine Qb (Qe rfl) ?_
              refine Qb (Qf rfl) ?_
              refine Qb (QF rfl) ?_
              refine Qb (Ql (Jo rfl rfl) (decide_eq_false (by omega))) ?_
              refine yM rfl ?_
              refine Qg ?_
              refine Qg ?_
              refine Qg ?_
              refine Qg ?_
              refine Qg ?_
              refine Qb (Qy rfl rfl) ?_
              refine yM rfl ?_
              refine Qg ?_
              refine Qg ?_
              refine Qg ?_
              refine Qg ?_
              refine Qb (Qy rfl rfl) ?_
              refine yN ?_
              refine Qt rfl ?_
              refine QK ?_
              refine Qx ?_
              refine Qx ?_
              refine Q8 ?_
              refine Qc ?_
              refine Qd ?_
              refine yR ?_
              refine yM rfl ?_
              refine Qb (QA rfl) ?_
              refine Qb (Qe rfl) ?_
              refine Qb (Qf rfl) ?_
              refine yM rfl ?_
              refine Qg ?_
              refine Qg ?_
              refine Qg ?_
              refine Qg ?_
              refine Qg ?_
              refine Qg ?_
              refine Qb (Qy rfl rfl) ?_
              refine yM rfl ?_
              refine Qg ?_
              refine Qg ?_
              refine Qg ?_
              refine Qb (Qy rfl rfl) ?_
              refine yN ?_
              refine Qz rfl ?_
              refine yR ?_
              refine Qb (QD rfl) ?_
              refine Q7 (Qw rfl rfl) ?_
              refine yS rfl ?_
              refine yN ?_
              refine Qs ?_
              refine Qr ?_
              exact QO rfl (QZ rfl) rfl fun w s => ⟨(none, 0), rfl, s.res (List.nil_sublist _) (fun f hf => (List.not_mem_nil hf).elim)⟩
        · have hlf : dLf l = ⟨Jf l 36, Jf l 68⟩ := if_pos hdK
          have hdk : dK l = 1 := hdK
          have hbase : JL l = 100 := by unfold JL; omega
          refine Qk Tryz.func24 rfl (n := 104) rfl rfl ?_
          intro W
          refine yR ?_
          refine Qo (Q0) fun g2 => ?_
          refine yS rfl ?_
          refine yN ?_
          refine Qd ?_
          refine yR ?_
          refine yM rfl ?_
          refine Qb (QF rfl) ?_
          refine Qb (Ql (QT rfl rfl) (decide_eq_false (by omega))) ?_
          refine yN ?_
          refine Qt rfl ?_
          refine Qn ?_
          refine Qc ?_
          refine yR ?_
          refine yM rfl ?_
          refine Qh (hK.comes) rfl rfl rfl fun _ => ?_
          refine yM rfl ?_
          refine Qb (Qj rfl rfl) ?_
          refine Qb (Qj rfl rfl) ?_
          refine yS rfl ?_
          refine yS rfl ?_
          refine yN ?_
          refine Qd ?_
          refine yR ?_
          refine yM rfl ?_
          refine Qb (QL rfl rfl) ?_
          refine yN ?_
          refine Ys rfl ((fun h => h rfl)) ?_
          refine Qn ?_
          refine Qc ?_
          refine Qd ?_
          refine yR ?_
          refine yM rfl ?_
          refine Qb (Ql (QL rfl rfl) (show _ = true from rfl)) ?_
          refine yM rfl ?_
          refine yM rfl ?_
          refine Qb (Ql (QL rfl rfl) (show _ = false from rfl)) ?_
          refine Qb (Qy rfl rfl) ?_
          refine yN ?_
          refine Qt rfl ?_
          refine Qn ?_
          refine Qc ?_
          refine yR ?_
          refine yM rfl ?_
          refine Qb (QbC (Qb5 rfl rfl) (show _ = Value.slice (cutA (some ⟨b, o, none⟩) c 4 1) (32 + (l.drop 36).length) (c - 4) by rw [h4])) ?_
          refine Qb (QD rfl) ?_
          refine Qo (Q9 rfl) fun g32 => ?_
          refine yS rfl ?_
          refine yN ?_
          refine yR ?_
          refine yM rfl ?_
          refine Qb (Y1 rfl rfl) ?_
          refine yS rfl ?_
          refine yN ?_
          refine Qd ?_
          refine QaY (fun (u : {y : Option Addr × Nat // RdZ h y.1 (bc (l.drop 36)) ∧ (l.drop 36).length ≤ y.2} × Nat) => [(8, .pointer (some ⟨u.2, 0, none⟩)), (7, .func (.func 63) [.pointer (some ⟨g32, 0, none⟩)].toArray #[]), (6, .pointer (some ⟨g32, 0, none⟩)), (4, .int .i64 ((1 : Nat) : Int)), (2, .pointer (some ⟨g2, 0, none⟩))]) (fun (u : {y : Option Addr × Nat // RdZ h y.1 (bc (l.drop 36)) ∧ (l.drop 36).length ≤ y.2} × Nat) => [.blk u.2 (Proof.cells ⟨((1 : Nat) : Int), (d : Int), Jr.leaf, Jf l 4, Jr.sibs⟩) 63, .blk g32 [.slice u.1.1.1 (l.drop 36).length u.1.1.2, .bool false] 134, .blk g2 Jr.cells 63, .zone false h]) (fun kk => ?_) ?_
          · refine Q1 [.zone false h] [] QJ (same) ?_
            refine Qa 0 rfl (Qi rfl) ?_
            refine Qa 1 rfl (Qi rfl) ?_
            refine Qa 2 rfl (QQ rfl rfl) ?_
            refine Qp 3 rfl (QX rfl (J1 (l := l) (i := 2) (by omega))) ?_
            refine Qa 4 rfl (Jv (Zj rfl) (show _ = (((l.getD 2 0).toNat : Nat) : Int) from rfl)) ?_
            refine Qa 5 rfl (Qmc rfl rfl) ?_
            refine Qa 6 rfl (Qi rfl) ?_
            refine Qa 7 rfl (QQ rfl rfl) ?_
            refine Qp 8 rfl (QX rfl (J1 (l := l) (i := 3) (by omega))) ?_
            refine Qa 9 rfl (Jv (Zj rfl) (show _ = (((l.getD 3 0).toNat : Nat) : Int) from rfl)) ?_
            refine Qa 10 rfl (Jv (Qpl rfl rfl) (show _ = (d : Int) by omega)) ?_
            refine Qa 11 rfl (Qi rfl) ?_
            refine V1 12 14 ?_ ?_
            · refine QR 12 rfl ((qX h (Jf l 4) (l.drop 36) (cutA (some ⟨b, o, none⟩) c 4 1) (c - 4) g32 hc4 (by omega)).comes) rfl rfl rfl (fun xx => same) fun y47 => ?_
              refine Qa 13 rfl (QD rfl) ?_
              refine Qv 14 ?_
              refine JB 14 rfl (rk (Q0)) (fun _ => same) fun g8 => ?_
              refine Qv 15 ?_
              refine J4 15 rfl (Qw rfl rfl) ?_
              exact h_K (kk (y47, g8)) (⟨rfl, rfl, rfl, rfl, rfl, trivial⟩) same
            · refine JB 14 rfl (rk (Q0)) (fun _ => same) fun g8 => ?_
              refine Qv 12 ?_
              refine QR 12 rfl ((qX h (Jf l 4) (l.drop 36) (cutA (some ⟨b, o, none⟩) c 4 1) (c - 4) g32 hc4 (by omega)).comes) rfl rfl rfl (fun xx => same) fun y47 => ?_
              refine Qa 13 rfl (QD rfl) ?_
              refine Qv 15 ?_
              refine J4 15 rfl (Qw rfl rfl) ?_
              exact h_K (kk (y47, g8)) (⟨rfl, rfl, rfl, rfl, rfl, trivial⟩) same
          rintro ⟨⟨⟨A47, c47⟩, hz0, hc0⟩, g8⟩
          refine Qc ?_
          dsimp only at hz0 hc0 ⊢
          change H _ _ _ _ _ (.blk g8 (Proof.cells ⟨((1 : Nat) : Int), (d : Int), Yi, Jf l 4, ⟨none, 0, 0⟩⟩) _ :: _) _
          refine Qd ?_
          refine yR ?_
          refine yM rfl ?_
          refine Qb (Ql (QG rfl rfl) (show _ = true from rfl)) ?_
          refine yN ?_
          refine Qz rfl ?_
          refine yR ?_
          refine yM rfl ?_
          by_cases h68 : 68 ≤ l.length
          · have hdr36 := YY (l := l) (o := 36) (by omega)
            have hl36 : (l.drop 36).length = 32 + (l.drop 68).length := by rw [List.length_drop, List.length_drop]; omega
            rw [hdr36] at hz0
            rw [hl36] at hc0 ⊢
            refine Qh ((qX h (Jf l 36) (l.drop 68) A47 c47 g32 hc0 (by omega)).comes) rfl rfl rfl fun ⟨⟨A52, c52⟩, hz2, hc2⟩ => ?_
            dsimp only at hz2 hc2 ⊢
            refine Qb (Qe rfl) ?_
            refine Qb (Qe rfl) ?_
            refine Q7 (Qw rfl rfl) ?_
            refine yN ?_
            refine Q5 ?_
            refine yM rfl ?_
            by_cases h100 : 100 ≤ l.length
            · have hdr68 := YY (l := l) (o := 68) (by omega)
              have hl68 : (l.drop 68).length = 32 + (l.drop 100).length := by rw [List.length_drop, List.length_drop]; omega
              rw [hdr68] at hz2
              rw [hl68] at hc2 ⊢
              refine Qh ((qX h (Jf l 68) (l.drop 100) A52 c52 g32 hc2 (by omega)).comes) rfl rfl rfl fun ⟨⟨A56, c56⟩, hz3, hc3⟩ => ?_
              dsimp only at hz3 hc3 ⊢
              refine Qb (Qe rfl) ?_
              refine Qb (Qe rfl) ?_
              refine Q7 (Qw rfl rfl) ?_
              refine yN ?_
              refine Qd ?_
              refine Qq ?_
              refine Ju 45 32 (xs := dgs []) rfl ?_
              refine QS (fun (s : List UInt8 × Bool × Option Addr × Nat × List B32 × Option Addr × Nat) => RdZ h s.2.2.1 (bc s.1) ∧ s.1.length ≤ s.2.2.2.1 ∧ s.1.length ≤ l.length ∧ s.2.2.2.2.1.length ≤ 257 ∧ (s.2.1 = false → 100 + 32 * s.2.2.2.2.1.length ≤ l.length ∧ s.1 = l.drop (100 + 32 * s.2.2.2.2.1.length) ∧ s.2.2.2.2.1 = qe l 100 s.2.2.2.2.1.length) ∧ (s.2.1 = true → Ya l = .error 5)) (fun (s : List UInt8 × Bool × Option Addr × Nat × List B32 × Option Addr × Nat) => [(8, .pointer (some ⟨g8, 0, none⟩)), (7, .func (.func 63) [.pointer (some ⟨g32, 0, none⟩)].toArray #[]), (6, .pointer (some ⟨g32, 0, none⟩)), (2, .pointer (some ⟨g2, 0, none⟩))]) (fun (s : List UInt8 × Bool × Option Addr × Nat × List B32 × Option Addr × Nat) => [.own (.slice s.2.2.2.2.2.1 s.2.2.2.2.1.length s.2.2.2.2.2.2) s.2.2.2.2.1.length 45 32 (dgs s.2.2.2.2.1), .blk g8 (Proof.cells ⟨((1 : Nat) : Int), (d : Int), ⟨Jf l 36, Jf l 68⟩, Jf l 4, ⟨s.2.2.2.2.2.1, s.2.2.2.2.1.length, s.2.2.2.2.2.2⟩⟩) 63, .blk g32 [.slice s.2.2.1 s.1.length s.2.2.2.1, .bool s.2.1] 134, .blk g2 Jr.cells 63, .zone false h]) (fun (s : List UInt8 × Bool × Option Addr × Nat × List B32 × Option Addr × Nat) => s.1.length + (if s.2.1 then 0 else 1)) (l.drop 100, false, A56, c56, [], none, 0) (⟨hz3, hc3, by dsimp only; rw [List.length_drop]; omega, Nat.zero_le _, fun _ => ⟨by dsimp only; show 100 + 32 * 0 ≤ _; omega, rfl, rfl⟩, fun h => by cases h⟩) ⟨rfl, rfl, rfl, rfl, trivial⟩ (same) ?_
              rintro ⟨r, b', Ar, cr, ss, A, c9⟩ ⟨q1, q2, q3, q4, q5, q6⟩
              dsimp only at q1 q2 q3 q4 q5 q6 ⊢
              by_cases hr0 : 0 < r.length
              · cases b'
                · obtain ⟨q7, q8, q9⟩ := q5 rfl
                  have hrl : r.length = l.length - (100 + 32 * ss.length) := by rw [q8, List.length_drop]
                  by_cases h6 : ss.length ≤ 256
                  · refine Qd ?_
                    refine yR ?_
                    refine yM rfl ?_
                    refine Qb (QA rfl) ?_
                    refine Qb (Qe rfl) ?_
                    refine Qb (Qf rfl) ?_
                    refine Qb (QF rfl) ?_
                    refine Qb (Ql (Jo rfl rfl) (decide_eq_true (by omega))) ?_
                    refine yM rfl ?_
                    refine yM rfl ?_
                    refine Qb (QA rfl) ?_
                    refine Qb (Qe rfl) ?_
                    refine Qb (Qf rfl) ?_
                    refine Qb (Ji rfl) ?_
                    refine Qb (Qy rfl rfl) ?_
                    refine yM rfl ?_
                    refine Qb (Qe rfl) ?_
                    refine Qb (Qf rfl) ?_
                    refine Qb (QF rfl) ?_
                    refine Qb (Ql (Qb3 rfl rfl) (decide_eq_true (show (ss.length : Int) ≤ 256 by omega))) ?_
                    refine Qb (Qy rfl rfl) ?_
                    refine yN ?_
                    refine Qz rfl ?_
                    refine Qn ?_
                    refine Qc ?_
                    refine Qq ?_
                    by_cases h32 : 32 ≤ r.length
                    · have hdr := YY (l := l) (o := 100 + 32 * ss.length) (by omega)
                      have hx := (Jf l (100 + 32 * ss.length)).2
                      have hl2 : r.length = 32 + (l.drop (100 + 32 * ss.length + 32)).length := by rw [q8, hdr, List.length_append, hx]
                      rw [q8, hdr] at q1
                      have htk : dgs ss ++ (Jf l (100 + 32 * ss.length)).cells = dgs (ss ++ [Jf l (100 + 32 * ss.length)]) := by rw [Yb, VX]
                      have hlx : ss.length + 1 = (ss ++ [Jf l (100 + 32 * ss.length)]).length := by rw [List.length_append]; rfl
                      have hsc := Qb7 l 100 ss.length
                      rw [← q9] at hsc
                      rw [hl2]
                      rw [hl2] at q2
                      refine Q1 [.blk g8 (Proof.cells ⟨((1 : Nat) : Int), (d : Int), ⟨Jf l 36, Jf l 68⟩, Jf l 4, ⟨A, ss.length, c9⟩⟩) 63] [] QJ (same) ?_
                      refine Qa 0 rfl (Qe rfl) ?_
                      refine Qp 1 rfl (Qf rfl) ?_
                      refine Qa 2 rfl (Qi rfl) ?_
                      refine Qv 3 ?_
                      refine QR 3 rfl ((qX h (Jf l (100 + 32 * ss.length)) (l.drop (100 + 32 * ss.length + 32)) Ar cr g32 q2 (by omega)).comes) rfl rfl rfl (fun xx => same) fun ⟨⟨Ar2, cr2⟩, hz5, hc5⟩ => ?_
                      refine Qv 4 ?_
                      refine JB 4 rfl (rk (J8 rfl rfl)) (fun _ => same) fun g82 => ?_
                      refine Qv 5 ?_
                      refine JB 5 rfl (rk (Yo rfl rfl (k := 32))) (fun _ => same) fun ⟨g83, c83⟩ => ?_
                      refine Qa 6 rfl (Qe rfl) ?_
                      refine Qv 7 ?_
                      refine J4 7 rfl (QV rfl rfl rfl) ?_
                      refine Q2 ?_
                      rw [htk, hlx]
                      exact QH (l.drop (100 + 32 * ss.length + 32), false, Ar2, cr2, ss ++ [Jf l (100 + 32 * ss.length)], some ⟨g83, 0, none⟩, c83) (⟨hz5, hc5, by dsimp only; omega, by dsimp only; omega, fun _ => ⟨by dsimp only; omega, by dsimp only; rw [← hlx, show 100 + 32 * (ss.length + 1) = 100 + 32 * ss.length + 32 by omega], by dsimp only; rw [← hlx, hsc]⟩, fun h => by cases h⟩) ((show (l.drop (100 + 32 * ss.length + 32)).length + 1 < r.length + 1 by omega)) ⟨rfl, rfl, rfl, rfl, trivial⟩ (same)
                    · have hE := Vn (l := l) h36 h01 (by omega) (.inr (.inl (by omega)))
                      have htk : dgs ss ++ QN.cells = dgs (ss ++ [QN]) := by rw [Yb, VX]
                      have hlx : ss.length + 1 = (ss ++ [QN]).length := by rw [List.length_append]; rfl
                      refine Q1 [.blk g8 (Proof.cells ⟨((1 : Nat) : Int), (d : Int), ⟨Jf l 36, Jf l 68⟩, Jf l 4, ⟨A, ss.length, c9⟩⟩) 63] [] QJ (same) ?_
                      refine Qa 0 rfl (Qe rfl) ?_
                      refine Qp 1 rfl (Qf rfl) ?_
                      refine Qa 2 rfl (Qi rfl) ?_
                      refine Qv 3 ?_
                      refine QR 3 rfl ((qj h r Ar cr g32 false (by omega)).comes) rfl rfl rfl (fun xx => same) fun _ => ?_
                      refine Qv 4 ?_
                      refine JB 4 rfl (rk (J8 rfl rfl)) (fun _ => same) fun g82 => ?_
                      refine Qv 5 ?_
                      refine JB 5 rfl (rk (Yo rfl rfl (k := 32))) (fun _ => same) fun ⟨g83, c83⟩ => ?_
                      refine Qa 6 rfl (Qe rfl) ?_
                      refine Qv 7 ?_
                      refine J4 7 rfl (QV rfl rfl rfl) ?_
                      refine Q2 ?_
                      rw [htk, hlx]
                      exact QH (r, true, Ar, cr, ss ++ [QN], some ⟨g83, 0, none⟩, c83) (⟨q1, q2, q3, by dsimp only; omega, (fun h => by cases h), fun _ => hE⟩) ((show r.length + 0 < r.length + 1 by omega)) ⟨rfl, rfl, rfl, rfl, trivial⟩ (same)
                  · have hE := Vn (l := l) h36 h01 (by omega) (by have : JL l = 100 := by (unfold JL; omega)
                                                                  omega)
                    rw [hE]
                    refine Qd ?_
                    refine yR ?_
                    refine yM rfl ?_
                    refine Qb (QA rfl) ?_
                    refine Qb (Qe rfl) ?_
                    refine Qb (Qf rfl) ?_
                    refine Qb (QF rfl) ?_
                    refine Qb (Ql (Jo rfl rfl) (decide_eq_true (by omega))) ?_
                    refine yM rfl ?_
                    refine yM rfl ?_
                    refine Qb (QA rfl) ?_
                    refine Qb (Qe rfl) ?_
                    refine Qb (Qf rfl) ?_
                    refine Qb (Ji rfl) ?_
                    refine Qb (Qy rfl rfl) ?_
                    refine yM rfl ?_
                    refine Qb (Qe rfl) ?_
                    refine Qb (Qf rfl) ?_
                    refine Qb (QF rfl) ?_
                    refine Qb (Ql (Qb3 rfl rfl) (decide_eq_false (show ¬ (ss.length : Int) ≤ 256 by omega))) ?_
                    refine Qb (Qy rfl rfl) ?_
                    refine yN ?_
                    refine Qt rfl ?_
                    refine QK ?_
                    refine Qx ?_
                    refine Qx ?_
                    refine Q8 ?_
                    refine Qc ?_
                    refine Qd ?_
                    refine yR ?_
                    refine yM rfl ?_
                    refine Qb (QA rfl) ?_
                    refine Qb (Qe rfl) ?_
                    refine Qb (Qf rfl) ?_
                    refine yM rfl ?_
                    refine yM rfl ?_
                    refine Qb (QA rfl) ?_
                    refine Qb (Qe rfl) ?_
                    refine Qb (Qf rfl) ?_
                    refine Qb (QF rfl) ?_
                    refine Qb (Ql (Jo rfl rfl) (decide_eq_true (by omega))) ?_
                    refine Qb (Qy rfl rfl) ?_
                    refine yM rfl ?_
                    refine Qg ?_
                    refine Qg ?_
                    refine Qg ?_
                    refine Qb (Qy rfl rfl) ?_
                    refine yN ?_
                    refine Qz rfl ?_
                    refine yR ?_
                    refine Qb (QD rfl) ?_
                    refine Q7 (Qw rfl rfl) ?_
                    refine yS rfl ?_
                    refine yN ?_
                    refine Qs ?_
                    refine Qr ?_
                    exact QO rfl (QZ rfl) rfl fun w s => ⟨(none, 0), rfl, s.res (List.nil_sublist _) (fun f hf => (List.not_mem_nil hf).elim)⟩
                · rw [q6 rfl]
                  refine Qd ?_
                  refine yR ?_
                  refine yM rfl ?_
                  refine Qb (QA rfl) ?_
                  refine Qb (Qe rfl) ?_
                  refine Qb (Qf rfl) ?_
                  refine Qb (QF rfl) ?_
                  refine Qb (Ql (Jo rfl rfl) (decide_eq_true (by omega))) ?_
                  refine yM rfl ?_
                  refine yM rfl ?_
                  refine Qb (QA rfl) ?_
                  refine Qb (Qe rfl) ?_
                  refine Qb (Qf rfl) ?_
                  refine Qb (Ji rfl) ?_
                  refine Qb (Qy rfl rfl) ?_
                  refine yM rfl ?_
                  refine Qg ?_
                  refine Qg ?_
                  refine Qg ?_
                  refine Qg ?_
                  refine Qb (Qy rfl rfl) ?_
                  refine yN ?_
                  refine Qt rfl ?_
                  refine QK ?_
                  refine Qx ?_
                  refine Qx ?_
                  refine Q8 ?_
                  refine Qc ?_
                  refine Qd ?_
                  refine yR ?_
                  refine yM rfl ?_
                  refine Qb (QA rfl) ?_
                  refine Qb (Qe rfl) ?_
                  refine Qb (Qf rfl) ?_
                  refine yM rfl ?_
                  refine Qg ?_
                  refine Qg ?_
                  refine Qg ?_
                  refine Qg ?_
                  refine Qg ?_
                  refine Qg ?_
                  refine Qb (Qy rfl rfl) ?_
                  refine yM rfl ?_
                  refine Qg ?_
                  refine Qg ?_
                  refine Qg ?_
                  refine Qb (Qy rfl rfl) ?_
                  refine yN ?_
                  refine Qz rfl ?_
                  refine yR ?_
                  refine Qb (QD rfl) ?_
                  refine Q7 (Qw rfl rfl) ?_
                  refine yS rfl ?_
                  refine yN ?_
                  refine Qs ?_
                  refine Qr ?_
                  exact QO rfl (QZ rfl) rfl fun w s => ⟨(none, 0), rfl, s.res (List.nil_sublist _) (fun f hf => (List.not_mem_nil hf).elim)⟩
              · cases b'
                · obtain ⟨q7, q8, q9⟩ := q5 rfl
                  have hrl : r.length = l.length - (100 + 32 * ss.length) := by rw [q8, List.length_drop]
                  have hE := Qcf (l := l) h36 h01 (by omega) (N := ss.length) (by unfold JL; omega) q4
                  have hDP : ∀ A c, (dDP l ss.length).pr A c = ⟨((1 : Nat) : Int), (d : Int), ⟨Jf l 36, Jf l 68⟩, Jf l 4, ⟨A, ss.length, c⟩⟩ := fun A c => by
                    unfold DP.pr dDP
                    rw [hlf, QcJ, hdk, hd]
                  have hss : (dDP l ss.length).ss = ss := by show qe l (JL l) ss.length = ss; rw [show JL l = 100 by unfold JL; omega]; exact q9.symm
                  have hcc := Zs ⟨((1 : Nat) : Int), (d : Int), ⟨Jf l 36, Jf l 68⟩, Jf l 4, ⟨A, ss.length, c9⟩⟩
                  have hca : Jk ⟨((1 : Nat) : Int), (d : Int), ⟨Jf l 36, Jf l 68⟩, Jf l 4, ⟨A, ss.length, c9⟩⟩ = Jk ((dDP l ss.length).pr none 0) := by rw [hDP]; rfl
                  refine Qd ?_
                  refine yR ?_
                  refine yM rfl ?_
                  refine Qb (QA rfl) ?_
                  refine Qb (Qe rfl) ?_
                  refine Qb (Qf rfl) ?_
                  refine Qb (QF rfl) ?_
                  refine Qb (Ql (Jo rfl rfl) (decide_eq_false (by omega))) ?_
                  refine yM rfl ?_
                  refine Qg ?_
                  refine Qg ?_
                  refine Qg ?_
                  refine Qg ?_
                  refine Qg ?_
                  refine Qb (Qy rfl rfl) ?_
                  refine yM rfl ?_
                  refine Qg ?_
                  refine Qg ?_
                  refine Qg ?_
                  refine Qg ?_
                  refine Qb (Qy rfl rfl) ?_
                  refine yN ?_
                  refine Qt rfl ?_
                  by_cases hck : Jk ((dDP l ss.length).pr none 0) = 0
                  · rw [if_pos hck] at hE
                    rw [hE]
                    rw [hca, hck] at hcc
                    refine QK ?_
                    refine Qx ?_
                    refine Qx ?_
                    refine Q8 ?_
                    refine Qc ?_
                    refine Qd ?_
                    refine yR ?_
                    refine yM rfl ?_
                    refine Qb (QA rfl) ?_
                    refine Qb (Qe rfl) ?_
                    refine Qb (Qf rfl) ?_
                    refine yM rfl ?_
                    refine yM rfl ?_
                    refine Qb (QA rfl) ?_
                    refine Qb (Qe rfl) ?_
                    refine Qb (Qf rfl) ?_
                    refine Qb (QF rfl) ?_
                    refine Qb (Ql (Jo rfl rfl) (decide_eq_false (by omega))) ?_
                    refine Qb (Qy rfl rfl) ?_
                    refine yM rfl ?_
                    refine Qb (Qm rfl) ?_
                    refine Qh (hcc.comes) rfl rfl rfl fun _ => ?_
                    refine Qb (Ql (QL rfl rfl) (decide_eq_false (fun h => h rfl))) ?_
                    refine Qb (Qy rfl rfl) ?_
                    refine yN ?_
                    refine Qt rfl ?_
                    refine Qn ?_
                    refine Qc ?_
                    refine yR ?_
                    refine Qb (Qm rfl) ?_
                    refine Q7 (Qw rfl rfl) ?_
                    refine yS rfl ?_
                    refine yN ?_
                    refine Qs ?_
                    refine QO rfl (QZ rfl) rfl fun w s => ⟨(A, c9), ?_, ?_⟩
                    · show _ = Ending.returned (.tuple #[.agg ((dDP l ss.length).pr A c9).cells.toArray, .int .i64 0])
                      rw [hDP]
                    · show Rx _ _ _ [.own (.slice A (dDP l ss.length).ss.length c9) (dDP l ss.length).ss.length 45 32 (dgs (dDP l ss.length).ss)]
                      rw [hss]
                      exact (same (L' := [.own (.slice A ss.length c9) ss.length 45 32 (dgs ss)]) w s).res (List.Sublist.refl _) (by simp [Fa.wr])
                  · rw [if_neg hck] at hE
                    rw [hE]
                    rw [hca] at hcc
                    refine QK ?_
                    refine Qx ?_
                    refine Qx ?_
                    refine Q8 ?_
                    refine Qc ?_
                    refine Qd ?_
                    refine yR ?_
                    refine yM rfl ?_
                    refine Qb (QA rfl) ?_
                    refine Qb (Qe rfl) ?_
                    refine Qb (Qf rfl) ?_
                    refine yM rfl ?_
                    refine yM rfl ?_
                    refine Qb (QA rfl) ?_
                    refine Qb (Qe rfl) ?_
                    refine Qb (Qf rfl) ?_
                    refine Qb (QF rfl) ?_
                    refine Qb (Ql (Jo rfl rfl) (decide_eq_false (by omega))) ?_
                    refine Qb (Qy rfl rfl) ?_
                    refine yM rfl ?_
                    refine Qb (Qm rfl) ?_
                    refine Qh (hcc.comes) rfl rfl rfl fun _ => ?_
                    refine Qb (Ql (QL rfl rfl) (decide_eq_true hck)) ?_
                    refine Qb (Qy rfl rfl) ?_
                    refine yN ?_
                    refine Qz rfl ?_
                    refine yR ?_
                    refine Qb (QD rfl) ?_
                    refine Q7 (Qw rfl rfl) ?_
                    refine yS rfl ?_
                    refine yN ?_
                    refine Qs ?_
                    refine Qr ?_
                    exact QO rfl (QZ rfl) rfl fun w s => ⟨(none, 0), rfl, s.res (List.nil_sublist _) (fun f hf => (List.not_mem_nil hf).elim)⟩
                · rw [q6 rfl]
                  refine Qd ?_
                  refine yR ?_
                  refine yM rfl ?_
                  refine Qb (QA rfl) ?_
                  refine Qb (Qe rfl) ?_
                  refine Qb (Qf rfl) ?_
                  refine Qb (QF rfl) ?_
                  refine Qb (Ql (Jo rfl rfl) (decide_eq_false (by omega))) ?_
                  refine yM rfl ?_
                  refine Qg ?_
                  refine Qg ?_
                  refine Qg ?_
                  refine Qg ?_
                  refine Qg ?_
                  refine Qb (Qy rfl rfl) ?_
                  refine yM rfl ?_
                  refine Qg ?_
                  refine Qg ?_
                  refine Qg ?_
                  refine Qg ?_
                  refine Qb (Qy rfl rfl) ?_
                  refine yN ?_
                  refine Qt rfl ?_
                  refine QK ?_
                  refine Qx ?_
                  refine Qx ?_
                  refine Q8 ?_
                  refine Qc ?_
                  refine Qd ?_
                  refine yR ?_
                  refine yM rfl ?_
                  refine Qb (QA rfl) ?_
                  refine Qb (Qe rfl) ?_
                  refine Qb (Qf rfl) ?_
                  refine yM rfl ?_
                  refine Qg ?_
                  refine Qg ?_
                  refine Qg ?_
                  refine Qg ?_
                  refine Qg ?_
                  refine Qg ?_
                  refine Qb (Qy rfl rfl) ?_
                  refine yM rfl ?_
                  refine Qg ?_
                  refine Qg ?_
                  refine Qg ?_
                  refine Qb (Qy rfl rfl) ?_
                  refine yN ?_
                  refine Qz rfl ?_
                  refine yR ?_
                  refine Qb (QD rfl) ?_
                  refine Q7 (Qw rfl rfl) ?_
                  refine yS rfl ?_
                  refine yN ?_
                  refine Qs ?_
                  refine Qr ?_
                  exact QO rfl (QZ rfl) rfl fun w s => ⟨(none, 0), rfl, s.res (List.nil_sublist _) (fun f hf => (List.not_mem_nil hf).elim)⟩
            · have hEb := Vn (l := l) h36 h01 (by omega) (.inl (by omega))
              refine Qh ((qj h (l.drop 68) A52 c52 g32 false (by rw [List.length_drop]; omega)).comes) rfl rfl rfl fun _ => ?_
              refine Qb (Qe rfl) ?_
              refine Qb (Qe rfl) ?_
              refine Q7 (Qw rfl rfl) ?_
              refine yN ?_
              refine Qd ?_
              refine Qq ?_
              rw [hEb]
              by_cases hr0 : 0 < (l.drop 68).length
              · refine QS (fun (s : Unit) => True) (fun (s : Unit) => [(8, .pointer (some ⟨g8, 0, none⟩)), (7, .func (.func 63) [.pointer (some ⟨g32, 0, none⟩)].toArray #[]), (6, .pointer (some ⟨g32, 0, none⟩)), (2, .pointer (some ⟨g2, 0, none⟩))]) (fun (s : Unit) => [.blk g32 [.slice A52 (l.drop 68).length c52, .bool true] 134, .blk g2 Jr.cells 63]) (fun (s : Unit) => 0) () (trivial) ⟨rfl, rfl, rfl, rfl, trivial⟩ (same) ?_
                rintro _ _
                refine Qd ?_
                refine yR ?_
                refine yM rfl ?_
                refine Qb (QA rfl) ?_
                refine Qb (Qe rfl) ?_
                refine Qb (Qf rfl) ?_
                refine Qb (QF rfl) ?_
                refine Qb (Ql (Jo rfl rfl) (decide_eq_true (by omega))) ?_
                refine yM rfl ?_
                refine yM rfl ?_
                refine Qb (QA rfl) ?_
                refine Qb (Qe rfl) ?_
                refine Qb (Qf rfl) ?_
                refine Qb (Ji rfl) ?_
                refine Qb (Qy rfl rfl) ?_
                refine yM rfl ?_
                refine Qg ?_
                refine Qg ?_
                refine Qg ?_
                refine Qg ?_
                refine Qb (Qy rfl rfl) ?_
                refine yN ?_
                refine Qt rfl ?_
                refine QK ?_
                refine Qx ?_
                refine Qx ?_
                refine Q8 ?_
                refine Qc ?_
                refine Qd ?_
                refine yR ?_
                refine yM rfl ?_
                refine Qb (QA rfl) ?_
                refine Qb (Qe rfl) ?_
                refine Qb (Qf rfl) ?_
                refine yM rfl ?_
                refine Qg ?_
                refine Qg ?_
                refine Qg ?_
                refine Qg ?_
                refine Qg ?_
                refine Qg ?_
                refine Qb (Qy rfl rfl) ?_
                refine yM rfl ?_
                refine Qg ?_
                refine Qg ?_
                refine Qg ?_
                refine Qb (Qy rfl rfl) ?_
                refine yN ?_
                refine Qz rfl ?_
                refine yR ?_
                refine Qb (QD rfl) ?_
                refine Q7 (Qw rfl rfl) ?_
                refine yS rfl ?_
                refine yN ?_
                refine Qs ?_
                refine Qr ?_
                exact QO rfl (QZ rfl) rfl fun w s => ⟨(none, 0), rfl, s.res (List.nil_sublist _) (fun f hf => (List.not_mem_nil hf).elim)⟩
              · refine QS (fun (s : Unit) => True) (fun (s : Unit) => [(8, .pointer (some ⟨g8, 0, none⟩)), (7, .func (.func 63) [.pointer (some ⟨g32, 0, none⟩)].toArray #[]), (6, .pointer (some ⟨g32, 0, none⟩)), (2, .pointer (some ⟨g2, 0, none⟩))]) (fun (s : Unit) => [.blk g32 [.slice A52 (l.drop 68).length c52, .bool true] 134, .blk g2 Jr.cells 63]) (fun (s : Unit) => 0) () (trivial) ⟨rfl, rfl, rfl, rfl, trivial⟩ (same) ?_
                rintro _ _
                refine Qd ?_
                refine yR ?_
                refine yM rfl ?_
                refine Qb (QA rfl) ?_
                refine Qb (Qe rfl) ?_
                refine Qb (Qf rfl) ?_
                refine Qb (QF rfl) ?_
                refine Qb (Ql (Jo rfl rfl) (decide_eq_false (by omega))) ?_
                refine yM rfl ?_
                refine Qg ?_
                refine Qg ?_
                refine Qg ?_
                refine Qg ?_
                refine Qg ?_
                refine Qb (Qy rfl rfl) ?_
                refine yM rfl ?_
                refine Qg ?_
                refine Qg ?_
                refine Qg ?_
                refine Qg ?_
                refine Qb (Qy rfl rfl) ?_
                refine yN ?_
                refine Qt rfl ?_
                refine QK ?_
                refine Qx ?_
                refine Qx ?_
                refine Q8 ?_
                refine Qc ?_
                refine Qd ?_
                refine yR ?_
                refine yM rfl ?_
                refine Qb (QA rfl) ?_
                refine Qb (Qe rfl) ?_
                refine Qb (Qf rfl) ?_
                refine yM rfl ?_
                refine Qg ?_
                refine Qg ?_
                refine Qg ?_
                refine Qg ?_
                refine Qg ?_
                refine Qg ?_
                refine Qb (Qy rfl rfl) ?_
                refine yM rfl ?_
                refine Qg ?_
                refine Qg ?_
                refine Qg ?_
                refine Qb (Qy rfl rfl) ?_
                refine yN ?_
                refine Qz rfl ?_
                refine yR ?_
                refine Qb (QD rfl) ?_
                refine Q7 (Qw rfl rfl) ?_
                refine yS rfl ?_
                refine yN ?_
                refine Qs ?_
                refine Qr ?_
                exact QO rfl (QZ rfl) rfl fun w s => ⟨(none, 0), rfl, s.res (List.nil_sublist _) (fun f hf => (List.not_mem_nil hf).elim)⟩
          · have hEb := Vn (l := l) h36 h01 (by omega) (.inl (by omega))
            refine Qh ((qj h (l.drop 36) A47 c47 g32 false (by rw [List.length_drop]; omega)).comes) rfl rfl rfl fun _ => ?_
            refine Qb (Qe rfl) ?_
            refine Qb (Qe rfl) ?_
            refine Q7 (Qw rfl rfl) ?_
            refine yN ?_
            refine Q5 ?_
            refine yM rfl ?_
            refine Qh ((qj h (l.drop 36) A47 c47 g32 true (by rw [List.length_drop]; omega)).comes) rfl rfl rfl fun _ => ?_
            refine Qb (Qe rfl) ?_
            refine Qb (Qe rfl) ?_
            refine Q7 (Qw rfl rfl) ?_
            refine yN ?_
            refine Qd ?_
            refine Qq ?_
            rw [hEb]
            by_cases hr0 : 0 < (l.drop 36).length
            · refine QS (fun (s : Unit) => True) (fun (s : Unit) => [(8, .pointer (some ⟨g8, 0, none⟩)), (7, .func (.func 63) [.pointer (some ⟨g32, 0, none⟩)].toArray #[]), (6, .pointer (some ⟨g32, 0, none⟩)), (2, .pointer (some ⟨g2, 0, none⟩))]) (fun (s : Unit) => [.blk g32 [.slice A47 (l.drop 36).length c47, .bool true] 134, .blk g2 Jr.cells 63]) (fun (s : Unit) => 0) () (trivial) ⟨rfl, rfl, rfl, rfl, trivial⟩ (same) ?_
              rintro _ _
              refine Qd ?_
              refine yR ?_
              refine yM rfl ?_
              refine Qb (QA rfl) ?_
              refine Qb (Qe rfl) ?_
              refine Qb (Qf rfl) ?_
              refine Qb (QF rfl) ?_
              refine Qb (Ql (Jo rfl rfl) (decide_eq_true (by omega))) ?_
              refine yM rfl ?_
              refine yM rfl ?_
              refine Qb (QA rfl) ?_
              refine Qb (Qe rfl) ?_
              refine Qb (Qf rfl) ?_
              refine Qb (Ji rfl) ?_
              refine Qb (Qy rfl rfl) ?_
              refine yM rfl ?_
              refine Qg ?_
              refine Qg ?_
              refine Qg ?_
              refine Qg ?_
              refine Qb (Qy rfl rfl) ?_
              refine yN ?_
              refine Qt rfl ?_
              refine QK ?_
              refine Qx ?_
              refine Qx ?_
              refine Q8 ?_
              refine Qc ?_
              refine Qd ?_
              refine yR ?_
              refine yM rfl ?_
              refine Qb (QA rfl) ?_
              refine Qb (Qe rfl) ?_
              refine Qb (Qf rfl) ?_
              refine yM rfl ?_
              refine Qg ?_
              refine Qg ?_
              refine Qg ?_
              refine Qg ?_
              refine Qg ?_
              refine Qg ?_
              refine Qb (Qy rfl rfl) ?_
              refine yM rfl ?_
              refine Qg ?_
              refine Qg ?_
              refine Qg ?_
              refine Qb (Qy rfl rfl) ?_
              refine yN ?_
              refine Qz rfl ?_
              refine yR ?_
              refine Qb (QD rfl) ?_
              refine Q7 (Qw rfl rfl) ?_
              refine yS rfl ?_
              refine yN ?_
              refine Qs ?_
              refine Qr ?_
              exact QO rfl (QZ rfl) rfl fun w s => ⟨(none, 0), rfl, s.res (List.nil_sublist _) (fun f hf => (List.not_mem_nil hf).elim)⟩
            · refine QS (fun (s : Unit) => True) (fun (s : Unit) => [(8, .pointer (some ⟨g8, 0, none⟩)), (7, .func (.func 63) [.pointer (some ⟨g32, 0, none⟩)].toArray #[]), (6, .pointer (some ⟨g32, 0, none⟩)), (2, .pointer (some ⟨g2, 0, none⟩))]) (fun (s : Unit) => [.blk g32 [.slice A47 (l.drop 36).length c47, .bool true] 134, .blk g2 Jr.cells 63]) (fun (s : Unit) => 0) () (trivial) ⟨rfl, rfl, rfl, rfl, trivial⟩ (same) ?_
              rintro _ _
              refine Qd ?_
              refine yR ?_
              refine yM rfl ?_
              refine Qb (QA rfl) ?_
              refine Qb (Qe rfl) ?_
              refine Qb (Qf rfl) ?_
              refine Qb (QF rfl) ?_
              refine Qb (Ql (Jo rfl rfl) (decide_eq_false (by omega))) ?_
              refine yM rfl ?_
              refine Qg ?_
              refine Qg ?_
              refine Qg ?_
              refine Qg ?_
              refine Qg ?_
              refine Qb (Qy rfl rfl) ?_
              refine yM rfl ?_
              refine Qg ?_
              refine Qg ?_
              refine Qg ?_
              refine Qg ?_
              refine Qb (Qy rfl rfl) ?_
              refine yN ?_
              refine Qt rfl ?_
              refine QK ?_
              refine Qx ?_
              refine Qx ?_
              refine Q8 ?_
              refine Qc ?_
              refine Qd ?_
              refine yR ?_
              refine yM rfl ?_
              refine Qb (QA rfl) ?_
              refine Qb (Qe rfl) ?_
              refine Qb (Qf rfl) ?_
              refine yM rfl ?_
              refine Qg ?_
              refine Qg ?_
              refine Qg ?_
              refine Qg ?_
              refine Qg ?_
              refine Qg ?_
              refine Qb (Qy rfl rfl) ?_
              refine yM rfl ?_
              refine Qg ?_
              refine Qg ?_
              refine Qg ?_
              refine Qb (Qy rfl rfl) ?_
              refine yN ?_
              refine Qz rfl ?_
              refine yR ?_
              refine Qb (QD rfl) ?_
              refine Q7 (Qw rfl rfl) ?_
              refine yS rfl ?_
              refine yN ?_
              refine Qs ?_
              refine Qr ?_
              exact QO rfl (QZ rfl) rfl fun w s => ⟨(none, 0), rfl, s.res (List.nil_sublist _) (fun f hf => (List.not_mem_nil hf).elim)⟩
    · have hE : Ya l = .error 6 := by unfold Ya; rw [if_neg (by omega), if_pos h01]
      rw [hE]
      refine Qk Tryz.func24 rfl (n := 104) rfl rfl ?_
      intro W
      refine yR ?_
      refine Qo (Q0) fun g2 => ?_
      refine yS rfl ?_
      refine yN ?_
      refine Qd ?_
      refine yR ?_
      refine yM rfl ?_
      refine Qb (QF rfl) ?_
      refine Qb (Ql (QT rfl rfl) (decide_eq_false (by omega))) ?_
      refine yN ?_
      refine Qt rfl ?_
      refine Qn ?_
      refine Qc ?_
      refine yR ?_
      refine yM rfl ?_
      refine Qh ((QeU l (some ⟨b, o, none⟩) c (by omega) h01).comes) rfl rfl rfl fun _ => ?_
      refine yM rfl ?_
      refine Qb (Qj rfl rfl) ?_
      refine Qb (Qj rfl rfl) ?_
      refine yS rfl ?_
      refine yS rfl ?_
      refine yN ?_
      refine Qd ?_
      refine yR ?_
      refine yM rfl ?_
      refine Qb (QL rfl rfl) ?_
      refine yN ?_
      refine Yz rfl ((show ¬ (6 : Int) = 0 by decide)) ?_
      refine yR ?_
      refine Qb (QD rfl) ?_
      refine yM rfl ?_
      refine Q7 (Qw rfl rfl) ?_
      refine yS rfl ?_
      refine yN ?_
      refine Qs ?_
      refine Qr ?_
      exact QO rfl (QZ rfl) rfl fun w s => ⟨(none, 0), rfl, s.res (List.nil_sublist _) (fun f hf => (List.not_mem_nil hf).elim)⟩
end
section
open Go.RowKit
class TIf (P : Program) (T : TypeId) : Prop where
 und : P.underlying T = some (.interface (P.methodsAt T))
section
variable {P : Program} {n : Nat} {D : List Deferred} {E : Env} {L : List Fa} {T T' : TypeId} {t : Nat}
theorem YP {u : TypeId} {v : Value} [hT : TIf P T] (hx : ev E (.tmp t) = some (.iface u v)) : QM P n D E L (.binOp .eql T (.tmp t) (.const .nilIface) T') (.bool false) := fun a w ka s o ho =>
 J7 ho (ka.ev hx) (v := .nilIface) rfl rfl (run_eql_held_nil w T u v hT.und)
theorem Qmb [hT : TIf P T] (hx : ev E (.tmp t) = some .nilIface) : QM P n D E L (.binOp .eql T (.tmp t) (.const .nilIface) T') (.bool true) := fun a w ka s o ho =>
 J7 ho (ka.ev hx) (v := .nilIface) rfl rfl (run_eql_nil_nil w T hT.und)
end
end
end Go.Proofs.YtjhlbbgikccclaaGreatDoor
