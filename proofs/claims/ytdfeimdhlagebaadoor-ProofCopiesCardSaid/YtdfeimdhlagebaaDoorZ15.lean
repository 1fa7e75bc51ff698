/- law15: ProofCopies is true (joined texts: U54) -/
import Derived.Test.YtdfeimdhlagebaaDoorZ14
set_option linter.all false
/- U54 -/
namespace Go.Proofs.YtdfeimdhlagebaaDoor
set_option linter.unusedSimpArgs false
set_option linter.unusedVariables false
open Go.RowKit
def setB (d : B32) (v : UInt8) : B32 := ⟨d.1.set 0 v, by rw [List.length_set]; exact d.2⟩
theorem setB_cells (d : B32) (v : UInt8) : (d.cells).set 0 (.int .u8 (v.toNat : Int)) = (setB d v).cells := bc_set d.1 0 v
theorem dgs_setv : ∀ (ss : List B32) (j : Nat) (v : UInt8), j < ss.length → (dgs ss).set (j * 32) (.int .u8 (v.toNat : Int)) = dgs (ss.set j (setB (ss.getD j zB32) v))
  | [], j, v, h => by simp at h
  | d :: ss, 0, v, _ => by
    show (d.cells ++ dgs ss).set 0 _ = (setB d v).cells ++ dgs ss
    rw [List.set_append_left _ _ (by rw [B32.cells_length]; decide), setB_cells]
  | d :: ss, j + 1, v, h => by
    have h1 : j < ss.length := by simpa using h
    show (d.cells ++ dgs ss).set ((j + 1) * 32) _ = d.cells ++ dgs (ss.set j (setB (ss.getD j zB32) v))
    rw [List.set_append_right _ _ (by rw [B32.cells_length]; omega), B32.cells_length, show (j + 1) * 32 - 32 = j * 32 by omega, dgs_setv ss j v h1]
theorem dgs_b0 {ss : List B32} {j : Nat} (h : j < ss.length) : (dgs ss)[j * 32]? = some (.int .u8 (((ss.getD j zB32).1.getD 0 0).toNat : Int)) := by
  have hl := (ss.getD j zB32).2
  have := dgs_at h 0 (.int .u8 (((ss.getD j zB32).1.getD 0 0).toNat : Int)) (bc_at' (l := (ss.getD j zB32).1) (by omega))
  rwa [Nat.add_zero] at this
theorem succ_ne (x : UInt8) : UInt8.ofBitVec (x.toBitVec + 1) ≠ x := by
  have h2 : ∀ n : Fin 256, UInt8.ofBitVec ((UInt8.ofNat n.val).toBitVec + 1) ≠ UInt8.ofNat n.val := by decide +kernel
  exact all_bytes (p := fun x => UInt8.ofBitVec (x.toBitVec + 1) ≠ x) h2 x
theorem bump_ne {ss : List B32} {j : Nat} (h : j < ss.length) : ss.set j (setB (ss.getD j zB32) (UInt8.ofBitVec (((ss.getD j zB32).1.getD 0 0).toBitVec + 1))) ≠ ss := by
  intro e
  have h0 : ∀ x : B32, (ss.set j x).getD j zB32 = x := fun x => by rw [List.getD_eq_getElem?_getD, List.getElem?_set_self h, Option.getD_some]
  have h1 := h0 (setB (ss.getD j zB32) (UInt8.ofBitVec (((ss.getD j zB32).1.getD 0 0).toBitVec + 1)))
  rw [e] at h1
  have hl := (ss.getD j zB32).2
  generalize ss.getD j zB32 = d at *
  have h2 : (setB d (UInt8.ofBitVec ((d.1.getD 0 0).toBitVec + 1))).1.getD 0 0 = UInt8.ofBitVec ((d.1.getD 0 0).toBitVec + 1) := by
    show (d.1.set 0 _).getD 0 0 = _
    rw [List.getD_eq_getElem?_getD, List.getElem?_set_self (by omega), Option.getD_some]
  rw [← h1] at h2
  exact succ_ne _ h2.symm
section
variable (h : Zh) [hT : RdZ h (some ⟨0, 0, none⟩) hashT]
theorem ProofCopies_s (p : Proof) (ss : List B32) (hs : p.sibs.n = ss.length) (hA : p.sibs.A = none → ss.length = 0 ∧ p.sibs.c = 0) (hl : ss.length * 32 ≤ 140737488355328) [hS : RdZ h p.sibs.A (dgs ss)] (b : UInt8) : Spec Tryd.prog 9 [.agg p.cells.toArray, .int .u8 (b.toNat : Int)].toArray [] [.zone true h] (fun _ : {x : Zh // LeZ h x} => .bool true) (fun x => [.zone true x.1]) := by
  have hC := PClone_s p ss hs hA hl
  have hE0 : ∀ A' c', Spec Tryd.prog 34 [.agg p.cells.toArray, .agg (Proof.cells { p with sibs := ⟨A', ss.length, c'⟩ }).toArray].toArray [.rd p.sibs.A (dgs ss), .rd A' (dgs ss)] [] (fun _ : Unit => .bool true) (fun _ => []) := fun A' c' => by
    have := PEqual_s p { p with sibs := ⟨A', ss.length, c'⟩ } ss ss hs rfl (by omega) (by omega)
    rw [decide_eq_true (show eqP p { p with sibs := ⟨A', ss.length, c'⟩ } ss ss from ⟨rfl, rfl, rfl, rfl, rfl⟩)] at this
    exact this
  have hE1 : ∀ A' c', Spec Tryd.prog 34 [.agg (Proof.cells { p with sibs := ⟨A', ss.length, c'⟩ }).toArray, .agg p.cells.toArray].toArray [.rd A' (dgs ss), .rd p.sibs.A (dgs ss)] [] (fun _ : Unit => .bool true) (fun _ => []) := fun A' c' => by
    have := PEqual_s { p with sibs := ⟨A', ss.length, c'⟩ } p ss ss rfl hs (by omega) (by omega)
    rw [decide_eq_true (show eqP { p with sibs := ⟨A', ss.length, c'⟩ } p ss ss from ⟨rfl, rfl, rfl, rfl, rfl⟩)] at this
    exact this
  have hE2 : ∀ A' c', Spec Tryd.prog 36 [.agg (Proof.cells { p with sibs := ⟨A', ss.length, c'⟩ }).toArray, .agg p.cells.toArray].toArray [.rd A' (dgs ss), .rd p.sibs.A (dgs ss)] [] (fun _ : Unit => .bool true) (fun _ => []) := fun A' c' => by
    have := rEqual_s { p with sibs := ⟨A', ss.length, c'⟩ } p ss ss rfl hs (by omega) (by omega)
    rw [decide_eq_true (show eqP { p with sibs := ⟨A', ss.length, c'⟩ } p ss ss from ⟨rfl, rfl, rfl, rfl, rfl⟩)] at this
    exact this
  have hN : ∀ ss', ss'.length = ss.length → ss' ≠ ss → ∀ A' c', Spec Tryd.prog 34 [.agg (Proof.cells { p with sibs := ⟨A', ss.length, c'⟩ }).toArray, .agg p.cells.toArray].toArray [.rd A' (dgs ss'), .rd p.sibs.A (dgs ss)] [] (fun _ : Unit => .bool false) (fun _ => []) := fun ss' hl' hne A' c' => by
    have := PEqual_s { p with sibs := ⟨A', ss.length, c'⟩ } p ss' ss hl'.symm hs (by omega) (by omega)
    rw [decide_eq_false (show ¬ eqP { p with sibs := ⟨A', ss.length, c'⟩ } p ss' ss from fun e => hne e.2.2.2.2)] at this
    exact this
  refine spec_of Tryd.func9 rfl (n := 66) rfl rfl ?_
  intro W
  by_cases h3 : 300 < p.sibs.n
  · refine h_seq ?_
    refine h_reg ?_
    refine h_opX (x_box rfl) fun g2 => ?_
    refine h_op (r_assign rfl) ?_
    refine h_nil ?_
    refine q_then ?_
    refine h_seq ?_
    refine h_seq ?_
    refine h_reg ?_
    refine h_op (r_field rfl) ?_
    refine h_op (r_loadc rfl) ?_
    refine h_op (r_len rfl) ?_
    refine h_op (r_bool (r_gtr rfl rfl) (decide_eq_true (by omega))) ?_
    refine h_op (r_move rfl) ?_
    refine h_opOff ?_
    refine h_opOff ?_
    refine h_opOff ?_
    refine h_opOff ?_
    refine h_op (r_pick rfl rfl) ?_
    refine h_nil ?_
    refine q_then ?_
    refine h_condT rfl ?_
    refine h_seq ?_
    refine ha_start [.blk g2 p.cells 65] [] mixed (same) ?_
    refine ha_one 0 ?_
    refine ho_C 0 rfl ((alive15_s h).comes) rfl rfl rfl (fun _ => same) fun ⟨h1, hle1⟩ => ?_
    refine ha_takeP 1 rfl (r_move rfl) ?_
    refine ha_take 2 rfl (r_loadr rfl) ?_
    refine ha_take 3 rfl (r_loadr rfl) ?_
    refine ha_one 4 ?_
    refine ho_C 4 rfl (hC.comes) rfl rfl rfl (fun _ => same) fun ⟨A22, c22⟩ => ?_
    refine ha_one 5 ?_
    refine ho_C 5 rfl ((hE0 A22 c22).comes) rfl rfl rfl (fun _ => same) fun _ => ?_
    refine ha_takeP 6 rfl (r_pick rfl rfl) ?_
    refine ha_takeP 7 rfl (r_assign rfl) ?_
    refine ha_done (by kernel_rfl) ?_
    refine q_then ?_
    refine h_ret ?_
    refine q_thenR ?_
    exact h_ret1 rfl rfl fun w s => ⟨⟨h1, hle1⟩, rfl, (same (L' := [.zone true h1]) w s).res (List.Sublist.refl _) (by simp [Fa.wr])⟩
  · by_cases h0 : p.sibs.n = 0
    · refine h_seq ?_
      refine h_reg ?_
      refine h_opX (x_box rfl) fun g2 => ?_
      refine h_op (r_assign rfl) ?_
      refine h_nil ?_
      refine q_then ?_
      refine h_seq ?_
      refine h_seq ?_
      refine h_reg ?_
      refine h_op (r_field rfl) ?_
      refine h_op (r_loadc rfl) ?_
      refine h_op (r_len rfl) ?_
      refine h_op (r_bool (r_gtr rfl rfl) (decide_eq_false (by omega))) ?_
      refine h_op (r_move rfl) ?_
      refine h_op (r_field rfl) ?_
      refine h_op (r_loadc rfl) ?_
      refine h_op (r_len rfl) ?_
      refine h_op (r_bool (r_eql rfl rfl) (decide_eq_true (by omega))) ?_
      refine h_op (r_pick rfl rfl) ?_
      refine h_nil ?_
      refine q_then ?_
      refine h_condT rfl ?_
      refine h_seq ?_
      refine ha_start [.blk g2 p.cells 65] [] mixed (same) ?_
      refine ha_one 0 ?_
      refine ho_C 0 rfl ((alive15_s h).comes) rfl rfl rfl (fun _ => same) fun ⟨h1, hle1⟩ => ?_
      refine ha_takeP 1 rfl (r_move rfl) ?_
      refine ha_take 2 rfl (r_loadr rfl) ?_
      refine ha_take 3 rfl (r_loadr rfl) ?_
      refine ha_one 4 ?_
      refine ho_C 4 rfl (hC.comes) rfl rfl rfl (fun _ => same) fun ⟨A22, c22⟩ => ?_
      refine ha_one 5 ?_
      refine ho_C 5 rfl ((hE0 A22 c22).comes) rfl rfl rfl (fun _ => same) fun _ => ?_
      refine ha_takeP 6 rfl (r_pick rfl rfl) ?_
      refine ha_takeP 7 rfl (r_assign rfl) ?_
      refine ha_done (by kernel_rfl) ?_
      refine q_then ?_
      refine h_ret ?_
      refine q_thenR ?_
      exact h_ret1 rfl rfl fun w s => ⟨⟨h1, hle1⟩, rfl, (same (L' := [.zone true h1]) w s).res (List.Sublist.refl _) (by simp [Fa.wr])⟩
    · have hpos : 0 < ss.length := by omega
      have hj : b.toNat % ss.length < ss.length := Nat.mod_lt _ hpos
      have hN' := hN _ (List.length_set ..) (bump_ne hj)
      have hb0 := dgs_b0 hj
      have hset := dgs_setv ss (b.toNat % ss.length) (UInt8.ofBitVec (((ss.getD (b.toNat % ss.length) zB32).1.getD 0 0).toBitVec + 1)) hj
      have hmod : ((b.toNat : Nat) : Int) % ((p.sibs.n : Nat) : Int) = ((b.toNat % ss.length : Nat) : Int) := by rw [hs]; exact (Int.natCast_emod _ _).symm
      generalize hss' : ss.set (b.toNat % ss.length) (setB (ss.getD (b.toNat % ss.length) zB32) (UInt8.ofBitVec (((ss.getD (b.toNat % ss.length) zB32).1.getD 0 0).toBitVec + 1))) = ss' at *
      generalize b.toNat % ss.length = j at *
      refine h_seq ?_
      refine h_reg ?_
      refine h_opX (x_box rfl) fun g2 => ?_
      refine h_op (r_assign rfl) ?_
      refine h_nil ?_
      refine q_then ?_
      refine h_seq ?_
      refine h_seq ?_
      refine h_reg ?_
      refine h_op (r_field rfl) ?_
      refine h_op (r_loadc rfl) ?_
      refine h_op (r_len rfl) ?_
      refine h_op (r_bool (r_gtr rfl rfl) (decide_eq_false (by omega))) ?_
      refine h_op (r_move rfl) ?_
      refine h_op (r_field rfl) ?_
      refine h_op (r_loadc rfl) ?_
      refine h_op (r_len rfl) ?_
      refine h_op (r_bool (r_eql rfl rfl) (decide_eq_false (by omega))) ?_
      refine h_op (r_pick rfl rfl) ?_
      refine h_nil ?_
      refine q_then ?_
      refine h_condF rfl ?_
      refine h_skip ?_
      refine q_then ?_
      refine h_seq ?_
      refine h_join (fun (u : (Option Addr × Nat) × (Option Addr × Nat) × Nat × Nat) => [(6, .pointer (some ⟨u.2.2.2, 0, none⟩)), (5, .pointer (some ⟨u.2.2.1, 0, none⟩)), (2, .pointer (some ⟨g2, 0, none⟩)), (1, .int .u8 (b.toNat : Int))]) (fun (u : (Option Addr × Nat) × (Option Addr × Nat) × Nat × Nat) => [.blk u.2.2.2 (Proof.cells { p with sibs := ⟨u.2.1.1, ss.length, u.2.1.2⟩ }) 65, .blk u.2.2.1 (Proof.cells { p with sibs := ⟨u.1.1, ss.length, u.1.2⟩ }) 65, .own (.slice u.2.1.1 ss.length u.2.1.2) ss.length 41 32 (dgs ss), .own (.slice u.1.1 ss.length u.1.2) ss.length 41 32 (dgs ss), .blk g2 p.cells 65, .zone true h]) (fun kk => ?_) ?_
      · refine ha_start [.blk g2 p.cells 65] [] mixed (same) ?_
        refine ha_take 0 rfl (r_loadr rfl) ?_
        refine ha_take 2 rfl (r_loadr rfl) ?_
        refine ha_three 1 4 5 ?_ ?_ ?_
        · refine ho_C 1 rfl (hC.comes) rfl rfl rfl (fun _ => same) fun ⟨A26, c26⟩ => ?_
          refine ha_three 3 4 5 ?_ ?_ ?_
          · refine ho_C 3 rfl (hC.comes) rfl rfl rfl (fun _ => same) fun ⟨A28, c28⟩ => ?_
            refine ha_two 4 5 ?_ ?_
            · refine ho_X 4 rfl (rk (x_alloc)) (fun _ => same) fun g5 => ?_
              refine ha_one 5 ?_
              refine ho_X 5 rfl (rk (x_alloc)) (fun _ => same) fun g6 => ?_
              refine ha_one 6 ?_
              refine ho_S 6 rfl (s_storer rfl rfl) (same) ?_
              refine ha_one 7 ?_
              refine ho_SL 7 rfl (s_storer rfl rfl) ?_
              exact h_K (kk ((A26, c26), (A28, c28), g5, g6)) (⟨rfl, rfl, rfl, rfl, trivial⟩) same
            · refine ho_X 5 rfl (rk (x_alloc)) (fun _ => same) fun g6 => ?_
              refine ha_one 4 ?_
              refine ho_X 4 rfl (rk (x_alloc)) (fun _ => same) fun g5 => ?_
              refine ha_one 6 ?_
              refine ho_S 6 rfl (s_storer rfl rfl) (same) ?_
              refine ha_one 7 ?_
              refine ho_SL 7 rfl (s_storer rfl rfl) ?_
              exact h_K (kk ((A26, c26), (A28, c28), g5, g6)) (⟨rfl, rfl, rfl, rfl, trivial⟩) same
          · refine ho_X 4 rfl (rk (x_alloc)) (fun _ => same) fun g5 => ?_
            refine ha_two 3 5 ?_ ?_
            · refine ho_C 3 rfl (hC.comes) rfl rfl rfl (fun _ => same) fun ⟨A28, c28⟩ => ?_
              refine ha_one 5 ?_
              refine ho_X 5 rfl (rk (x_alloc)) (fun _ => same) fun g6 => ?_
              refine ha_one 6 ?_
              refine ho_S 6 rfl (s_storer rfl rfl) (same) ?_
              refine ha_one 7 ?_
              refine ho_SL 7 rfl (s_storer rfl rfl) ?_
              exact h_K (kk ((A26, c26), (A28, c28), g5, g6)) (⟨rfl, rfl, rfl, rfl, trivial⟩) same
            · refine ho_X 5 rfl (rk (x_alloc)) (fun _ => same) fun g6 => ?_
              refine ha_one 3 ?_
              refine ho_C 3 rfl (hC.comes) rfl rfl rfl (fun _ => same) fun ⟨A28, c28⟩ => ?_
              refine ha_one 6 ?_
              refine ho_S 6 rfl (s_storer rfl rfl) (same) ?_
              refine ha_one 7 ?_
              refine ho_SL 7 rfl (s_storer rfl rfl) ?_
              exact h_K (kk ((A26, c26), (A28, c28), g5, g6)) (⟨rfl, rfl, rfl, rfl, trivial⟩) same
          · refine ho_X 5 rfl (rk (x_alloc)) (fun _ => same) fun g6 => ?_
            refine ha_two 3 4 ?_ ?_
            · refine ho_C 3 rfl (hC.comes) rfl rfl rfl (fun _ => same) fun ⟨A28, c28⟩ => ?_
              refine ha_one 4 ?_
              refine ho_X 4 rfl (rk (x_alloc)) (fun _ => same) fun g5 => ?_
              refine ha_one 6 ?_
              refine ho_S 6 rfl (s_storer rfl rfl) (same) ?_
              refine ha_one 7 ?_
              refine ho_SL 7 rfl (s_storer rfl rfl) ?_
              exact h_K (kk ((A26, c26), (A28, c28), g5, g6)) (⟨rfl, rfl, rfl, rfl, trivial⟩) same
            · refine ho_X 4 rfl (rk (x_alloc)) (fun _ => same) fun g5 => ?_
              refine ha_one 3 ?_
              refine ho_C 3 rfl (hC.comes) rfl rfl rfl (fun _ => same) fun ⟨A28, c28⟩ => ?_
              refine ha_one 6 ?_
              refine ho_S 6 rfl (s_storer rfl rfl) (same) ?_
              refine ha_one 7 ?_
              refine ho_SL 7 rfl (s_storer rfl rfl) ?_
              exact h_K (kk ((A26, c26), (A28, c28), g5, g6)) (⟨rfl, rfl, rfl, rfl, trivial⟩) same
        · refine ho_X 4 rfl (rk (x_alloc)) (fun _ => same) fun g5 => ?_
          refine ha_two 1 5 ?_ ?_
          · refine ho_C 1 rfl (hC.comes) rfl rfl rfl (fun _ => same) fun ⟨A26, c26⟩ => ?_
            refine ha_two 3 5 ?_ ?_
            · refine ho_C 3 rfl (hC.comes) rfl rfl rfl (fun _ => same) fun ⟨A28, c28⟩ => ?_
              refine ha_one 5 ?_
              refine ho_X 5 rfl (rk (x_alloc)) (fun _ => same) fun g6 => ?_
              refine ha_one 6 ?_
              refine ho_S 6 rfl (s_storer rfl rfl) (same) ?_
              refine ha_one 7 ?_
              refine ho_SL 7 rfl (s_storer rfl rfl) ?_
              exact h_K (kk ((A26, c26), (A28, c28), g5, g6)) (⟨rfl, rfl, rfl, rfl, trivial⟩) same
            · refine ho_X 5 rfl (rk (x_alloc)) (fun _ => same) fun g6 => ?_
              refine ha_one 3 ?_
              refine ho_C 3 rfl (hC.comes) rfl rfl rfl (fun _ => same) fun ⟨A28, c28⟩ => ?_
              refine ha_one 6 ?_
              refine ho_S 6 rfl (s_storer rfl rfl) (same) ?_
              refine ha_one 7 ?_
              refine ho_SL 7 rfl (s_storer rfl rfl) ?_
              exact h_K (kk ((A26, c26), (A28, c28), g5, g6)) (⟨rfl, rfl, rfl, rfl, trivial⟩) same
          · refine ho_X 5 rfl (rk (x_alloc)) (fun _ => same) fun g6 => ?_
            refine ha_one 1 ?_
            refine ho_C 1 rfl (hC.comes) rfl rfl rfl (fun _ => same) fun ⟨A26, c26⟩ => ?_
            refine ha_one 3 ?_
            refine ho_C 3 rfl (hC.comes) rfl rfl rfl (fun _ => same) fun ⟨A28, c28⟩ => ?_
            refine ha_one 6 ?_
            refine ho_S 6 rfl (s_storer rfl rfl) (same) ?_
            refine ha_one 7 ?_
            refine ho_SL 7 rfl (s_storer rfl rfl) ?_
            exact h_K (kk ((A26, c26), (A28, c28), g5, g6)) (⟨rfl, rfl, rfl, rfl, trivial⟩) same
        · refine ho_X 5 rfl (rk (x_alloc)) (fun _ => same) fun g6 => ?_
          refine ha_two 1 4 ?_ ?_
          · refine ho_C 1 rfl (hC.comes) rfl rfl rfl (fun _ => same) fun ⟨A26, c26⟩ => ?_
            refine ha_two 3 4 ?_ ?_
            · refine ho_C 3 rfl (hC.comes) rfl rfl rfl (fun _ => same) fun ⟨A28, c28⟩ => ?_
              refine ha_one 4 ?_
              refine ho_X 4 rfl (rk (x_alloc)) (fun _ => same) fun g5 => ?_
              refine ha_one 6 ?_
              refine ho_S 6 rfl (s_storer rfl rfl) (same) ?_
              refine ha_one 7 ?_
              refine ho_SL 7 rfl (s_storer rfl rfl) ?_
              exact h_K (kk ((A26, c26), (A28, c28), g5, g6)) (⟨rfl, rfl, rfl, rfl, trivial⟩) same
            · refine ho_X 4 rfl (rk (x_alloc)) (fun _ => same) fun g5 => ?_
              refine ha_one 3 ?_
              refine ho_C 3 rfl (hC.comes) rfl rfl rfl (fun _ => same) fun ⟨A28, c28⟩ => ?_
              refine ha_one 6 ?_
              refine ho_S 6 rfl (s_storer rfl rfl) (same) ?_
              refine ha_one 7 ?_
              refine ho_SL 7 rfl (s_storer rfl rfl) ?_
              exact h_K (kk ((A26, c26), (A28, c28), g5, g6)) (⟨rfl, rfl, rfl, rfl, trivial⟩) same
          · refine ho_X 4 rfl (rk (x_alloc)) (fun _ => same) fun g5 => ?_
            refine ha_one 1 ?_
            refine ho_C 1 rfl (hC.comes) rfl rfl rfl (fun _ => same) fun ⟨A26, c26⟩ => ?_
            refine ha_one 3 ?_
            refine ho_C 3 rfl (hC.comes) rfl rfl rfl (fun _ => same) fun ⟨A28, c28⟩ => ?_
            refine ha_one 6 ?_
            refine ho_S 6 rfl (s_storer rfl rfl) (same) ?_
            refine ha_one 7 ?_
            refine ho_SL 7 rfl (s_storer rfl rfl) ?_
            exact h_K (kk ((A26, c26), (A28, c28), g5, g6)) (⟨rfl, rfl, rfl, rfl, trivial⟩) same
      rintro ⟨⟨A26, c26⟩, ⟨A28, c28⟩, g5, g6⟩
      refine q_then ?_
      dsimp only
      refine h_pure (φ := ∃ g, A26 = some ⟨g, 0, none⟩) (fun w s => s.ownSome (N := ss.length) (c := c26) hpos) ?_
      rintro ⟨ga, rfl⟩
      refine h_seq ?_
      refine h_seq ?_
      refine h_reg ?_
      refine h_op (r_loadr rfl) ?_
      refine h_op (r_loadr rfl) ?_
      refine h_call ((hE2 (some ⟨ga, 0, none⟩) c26).comes) rfl rfl rfl fun _ => ?_
      refine h_op (r_not rfl) ?_
      refine h_op (r_move rfl) ?_
      refine h_op (r_loadr rfl) ?_
      refine h_op (r_loadr rfl) ?_
      refine h_call ((hE1 (some ⟨ga, 0, none⟩) c26).comes) rfl rfl rfl fun _ => ?_
      refine h_op (r_not rfl) ?_
      refine h_op (r_pick rfl rfl) ?_
      refine h_nil ?_
      refine q_then ?_
      refine h_condF rfl ?_
      refine h_skip ?_
      refine q_then ?_
      refine h_seq ?_
      refine h_reg ?_
      refine h_op (r_move rfl) ?_
      refine h_op (r_int (r_cUI rfl) (show _ = ((b.toNat : Nat) : Int) from rfl)) ?_
      refine h_op (r_field rfl) ?_
      refine h_op (r_loadc rfl) ?_
      refine h_op (r_len rfl) ?_
      refine h_op (r_int (r_rem rfl rfl) hmod) ?_
      refine h_op (r_assign rfl) ?_
      refine h_nil ?_
      refine q_then ?_
      refine h_seq ?_
      refine ha_start [.blk g5 (Proof.cells { p with sibs := ⟨some ⟨ga, 0, none⟩, ss.length, c26⟩ }) 65, .own (.slice (some ⟨ga, 0, none⟩) ss.length c26) ss.length 41 32 (dgs ss)] [] mixed (same) ?_
      refine ha_takeP 0 rfl (r_field rfl) ?_
      refine ha_take 1 rfl (r_loadc rfl) ?_
      refine ha_takeP 2 rfl (r_move rfl) ?_
      refine ha_takeP 3 rfl (r_idx rfl rfl) ?_
      refine ha_takeP 4 rfl (r_idxA rfl rfl) ?_
      refine ha_take 5 rfl (r_nth rfl hb0) ?_
      refine ha_takeP 6 rfl (r_addW rfl rfl) ?_
      refine ha_takeP 7 rfl (r_idx rfl rfl) ?_
      refine ha_takeP 8 rfl (r_idxA rfl rfl) ?_
      refine ha_one 9 ?_
      refine ho_SL 9 rfl (s_setO rfl rfl rfl (by rw [dgs_len]; omega) hset) ?_
      refine q_then ?_
      refine h_seq ?_
      refine h_reg ?_
      refine h_call ((alive15_s h).comes) rfl rfl rfl fun ⟨h1, hle1⟩ => ?_
      dsimp only
      refine h_op (r_move rfl) ?_
      refine h_op (r_loadr rfl) ?_
      refine h_op (r_loadr rfl) ?_
      refine h_call ((hN' (some ⟨ga, 0, none⟩) c26).comes) rfl rfl rfl fun _ => ?_
      refine h_op (r_not rfl) ?_
      refine h_op (r_pick rfl rfl) ?_
      refine h_op (r_move rfl) ?_
      refine h_op (r_loadr rfl) ?_
      refine h_op (r_loadr rfl) ?_
      refine h_call ((hE2 A28 c28).comes) rfl rfl rfl fun _ => ?_
      refine h_op (r_pick rfl rfl) ?_
      refine h_op (r_assign rfl) ?_
      refine h_nil ?_
      refine q_then ?_
      refine h_ret ?_
      exact h_ret1 rfl rfl fun w s => ⟨⟨h1, hle1⟩, rfl, (same (L' := [.zone true h1]) w s).res (List.Sublist.refl _) (by simp [Fa.wr])⟩
end
end Go.Proofs.YtdfeimdhlagebaaDoor
