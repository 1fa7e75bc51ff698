/- mverify: fail, first over claims and over keys, Claims; mverify: Claims; Keys in order, by their bits: plain; Keys in order, split at a depth: plain; The items of a tree for some keys: plain; multi: parse, Check; multi: the digest of a subtree; multiproofs: the reference's Skip; multiproofs: the reference's Check; multiproofs: Root; the reference's Digest and Preimage; Multiproofs as the flat lists of their subtrees: plain (joined texts: U119 U120 E15 E16 E17 U63 U64 U65 U66 U67 E18) -/
import Derived.Test.YtjhocljhhpkiiaaGreatDoorH12
set_option linter.all false
/- U119 -/
namespace Go.Proofs.YtjhocljhhpkiiaaGreatDoor
set_option linter.unusedSimpArgs false
set_option linter.unusedVariables false
open Go.RowKit
def batchB : ByteArray := ⟨#[98, 97, 116, 99, 104]⟩
def errB : Option (Nat × Int) → Nat → List Fa
  | none, _ => []
  | some (i, e), g => [.blk g (fltC batchB (i : Int) e) 178]
theorem mFail_no (i : Int) : Spec Tryz.prog 102 [.int .i64 i, .int .i64 0].toArray [] [] (fun _ : Unit => .nilIface) (fun _ => []) := by
  refine spec_of Tryz.func102 rfl (n := 11) rfl rfl ?_
  intro W
  refine h_seq ?_
  refine h_reg ?_
  refine h_op (r_assign rfl) ?_
  refine h_nil ?_
  refine q_then ?_
  refine h_seq ?_
  refine h_seq ?_
  refine h_reg ?_
  refine h_op (r_move rfl) ?_
  refine h_op (r_eql rfl rfl) ?_
  refine h_nil ?_
  refine q_then ?_
  refine h_condT rfl ?_
  refine h_seq ?_
  refine h_reg ?_
  refine h_op (r_assign rfl) ?_
  refine h_nil ?_
  refine q_then ?_
  refine h_ret ?_
  refine q_thenR ?_
  exact h_ret1 rfl rfl fun w s => ⟨(), rfl, s.res (List.nil_sublist _) (by simp)⟩
theorem mFail_s (i : Int) (e : Int) (he : e ≠ 0) : Spec Tryz.prog 102 [.int .i64 i, .int .i64 e].toArray [] [] (fun g : Nat => .iface 174 (.pointer (some ⟨g, 0, none⟩))) (fun g => [.blk g (fltC batchB i e) 178]) := by
  refine spec_of Tryz.func102 rfl (n := 11) rfl rfl ?_
  intro W
  refine h_seq ?_
  refine h_reg ?_
  refine h_op (r_assign rfl) ?_
  refine h_nil ?_
  refine q_then ?_
  refine h_seq ?_
  refine h_seq ?_
  refine h_reg ?_
  refine h_op (r_move rfl) ?_
  refine h_op (r_eql rfl rfl) ?_
  refine h_nil ?_
  refine q_then ?_
  refine h_no rfl (he) ?_
  refine h_skip ?_
  refine q_then ?_
  refine h_seq ?_
  refine h_reg ?_
  refine h_op (r_move rfl) ?_
  refine h_op (r_move rfl) ?_
  refine h_op (r_mkI rfl) ?_
  refine h_call ((fNew_s batchB i e).comes) rfl rfl rfl fun g10 => ?_
  refine h_op (r_assign rfl) ?_
  refine h_nil ?_
  refine q_then ?_
  refine h_ret ?_
  exact h_ret1 rfl rfl fun w s => ⟨g10, rfl, (same (L' := [.blk g10 (fltC batchB i e) 178]) w s).res (List.Sublist.refl _) (by simp [Fa.wr])⟩
theorem claims1_s (i : Int) (c : Claim) : Spec Tryz.prog 108 [.int .i64 i, .agg c.cells.toArray].toArray [] [] (fun _ : Unit => .int .i64 (claimE c)) (fun _ => []) := by
  refine spec_of Tryz.func108 rfl (n := 7) rfl rfl ?_
  intro W
  refine h_seq ?_
  refine h_reg ?_
  refine h_opX (x_box rfl) fun g3 => ?_
  refine h_op (r_assign rfl) ?_
  refine h_nil ?_
  refine q_then ?_
  refine h_seq ?_
  refine h_reg ?_
  refine h_op (r_loadr rfl) ?_
  refine h_call ((Claim_s c).comes) rfl rfl rfl fun _ => ?_
  refine h_op (r_assign rfl) ?_
  refine h_nil ?_
  refine q_then ?_
  refine h_ret ?_
  exact h_ret1 rfl rfl fun w s => ⟨(), rfl, s.res (List.nil_sublist _) (by simp)⟩
theorem first1_s (h : Zh) (l : List CB) (A : Option Addr) (c : Nat) [hr : RdZ h A (cbs l)] (hl : l.length ≤ 1000000000) (r : Option (Nat × Int)) (hR : firstF (fun i => claimE (l.getD i zCB).c) l.length 0 = r) : Spec Tryz.prog 107 [.slice A l.length c, .func (.func 108) #[] #[]].toArray [.zone false h] [] (fun g : Nat => errV r g) (fun g => errB r g) := by
  refine spec_of Tryz.func107 rfl (n := 25) rfl rfl ?_
  intro W
  refine h_seq ?_
  refine h_reg ?_
  refine h_op (r_assign rfl) ?_
  refine h_nil ?_
  refine q_then ?_
  refine h_seq ?_
  refine h_seq ?_
  refine h_reg ?_
  refine h_op (r_move rfl) ?_
  refine h_op (r_len rfl) ?_
  refine h_op (r_move rfl) ?_
  refine h_nil ?_
  refine q_then ?_
  refine h_block ?_
  refine h_loop (fun (i : Nat) => i ≤ l.length ∧ ∀ j, j < i → claimE (l.getD j zCB).c = 0) (fun (i : Nat) => [(10, .int .i64 (i : Int)), (9, .int .i64 (l.length : Int)), (8, .slice A l.length c), (1, .func (.func 108) #[] #[])]) (fun (i : Nat) => [.zone false h]) (fun (i : Nat) => l.length - i) 0 (⟨Nat.zero_le _, fun j hj => absurd hj (Nat.not_lt_zero _)⟩) ⟨rfl, rfl, rfl, rfl, trivial⟩ (same) ?_
  rintro i ⟨hi, hz⟩
  refine h_seq ?_
  refine h_reg ?_
  refine h_op (r_lss rfl rfl) ?_
  refine h_nil ?_
  refine q_then ?_
  refine h_seq ?_
  refine h_cond rfl (fun hlt => ?_) (fun hlt => ?_)
  · have hi2 : i < l.length := by omega
    have hx := getD_get zCB hi2
    have hz0 : ∀ j, 0 ≤ j → j < i → claimE (l.getD j zCB).c = 0 := fun j _ hj => hz j hj
    obtain ⟨b, o, rfl, -⟩ := hr.at_ (i * 3) _ (cbs_at hx 0 _ rfl)
    have hs := firstF_some (fun i => claimE (l.getD i zCB).c) i
    generalize l.getD i zCB = x at *
    refine h_skip ?_
    refine q_then ?_
    refine h_seq ?_
    refine h_block ?_
    refine h_seq ?_
    refine h_reg ?_
    refine h_op (r_move rfl) ?_
    refine h_op (r_idx rfl rfl) ?_
    refine h_op (r_nthr rfl (out := x.c.cells) (Claim.cells_length _) (cbs_at hx)) ?_
    refine h_opX (x_alloc) fun g6 => ?_
    refine h_op (r_assign rfl) ?_
    refine h_opS (s_storer rfl rfl) ?_
    refine h_nil ?_
    refine q_then ?_
    refine h_seq ?_
    refine h_reg ?_
    refine h_op (r_move rfl) ?_
    refine h_op (r_move rfl) ?_
    refine h_op (r_move rfl) ?_
    refine h_op (r_loadr rfl) ?_
    refine h_call ((claims1_s (i : Int) x.c).comes) rfl rfl rfl fun _ => ?_
    by_cases h0 : claimE x.c = 0
    · rw [h0]
      refine h_call ((mFail_no (i : Int)).comes) rfl rfl rfl fun _ => ?_
      refine h_op (r_assign rfl) ?_
      refine h_nil ?_
      refine q_then ?_
      refine h_seq ?_
      refine h_reg ?_
      refine h_op (r_move rfl) ?_
      refine h_op (r_nilnn rfl) ?_
      refine h_nil ?_
      refine q_then ?_
      refine h_condF rfl ?_
      refine h_skip ?_
      refine q_block ?_
      refine q_then ?_
      refine h_reg ?_
      refine h_op (r_add rfl rfl) ?_
      refine h_op (r_move rfl) ?_
      refine h_nil ?_
      exact h_back (i + 1) (⟨hi2, fun j hj => (Nat.lt_or_ge j i).elim (hz j) fun h8 => by (obtain rfl : j = i := by omega); rw [List.getD_eq_getElem?_getD, hx]; exact h0⟩) ((show l.length - (i + 1) < l.length - i by omega)) ⟨rfl, rfl, rfl, rfl, trivial⟩ (same)
    · have hxe : (l.getD i zCB) = x := by rw [List.getD_eq_getElem?_getD, hx]; rfl
      obtain rfl : some (i, claimE x.c) = r := by rw [← hR, firstF_some (fun i => claimE (l.getD i zCB).c) i (by rw [hxe]; exact h0) l.length 0 (Nat.zero_le _) (by omega) hz0, hxe]
      refine h_call ((mFail_s (i : Int) (claimE x.c) h0).comes) rfl rfl rfl fun g20 => ?_
      refine h_op (r_assign rfl) ?_
      refine h_nil ?_
      refine q_then ?_
      refine h_seq ?_
      refine h_reg ?_
      refine h_op (r_move rfl) ?_
      refine h_op (r_ifnn rfl) ?_
      refine h_nil ?_
      refine q_then ?_
      refine h_condT rfl ?_
      refine h_seq ?_
      refine h_reg ?_
      refine h_op (r_move rfl) ?_
      refine h_op (r_assign rfl) ?_
      refine h_nil ?_
      refine q_then ?_
      refine h_ret ?_
      refine q_blockR ?_
      refine q_thenR ?_
      refine q_thenR ?_
      refine q_blockR ?_
      refine q_thenR ?_
      exact h_ret1 rfl rfl fun w s => ⟨g20, rfl, (same (L' := [.blk g20 (fltC batchB (i : Int) (claimE x.c)) 178]) w s).res (List.Sublist.refl _) (by simp [Fa.wr, errB])⟩
  · obtain rfl : i = l.length := by omega
    obtain rfl : none = r := by rw [← hR, firstF_none _ _ _ (fun j _ hj => hz j (by omega))]
    refine h_exit ?_
    refine q_thenE ?_
    refine q_thenE ?_
    refine q_blockE ?_
    refine q_then ?_
    refine h_seq ?_
    refine h_reg ?_
    refine h_op (r_assign rfl) ?_
    refine h_nil ?_
    refine q_then ?_
    refine h_ret ?_
    exact h_ret1 rfl rfl fun w s => ⟨0, rfl, s.res (List.nil_sublist _) (by simp [errB])⟩
theorem claims2_s (ks : List B32) (B : Option Addr) (cc : Nat) (g i : Nat) (hi : i < ks.length) (hl : ks.length ≤ 1000000000) : Spec Tryz.prog 110 [.int .i64 (i : Int), .agg (ks.getD i zB32).cells.toArray, .pointer (some ⟨g, 0, none⟩)].toArray [.rd (some ⟨g, 0, none⟩) [.slice B ks.length cc], .rd B (dgs ks)] [] (fun _ : Unit => .int .i64 (neighE ks i)) (fun _ => []) := by
  refine spec_of Tryz.func110 rfl (n := 27) rfl rfl ?_
  intro W
  refine h_seq ?_
  refine h_reg ?_
  refine h_opX (x_box rfl) fun g4 => ?_
  refine h_op (r_assign rfl) ?_
  refine h_nil ?_
  refine q_then ?_
  refine h_seq ?_
  refine h_block ?_
  refine h_seq ?_
  rcases i with _ | m
  · refine ha_start [.rd (some ⟨g, 0, none⟩) [.slice B ks.length cc]] [] mixed (same) ?_
    refine ha_takeP 0 rfl (r_move rfl) ?_
    refine ha_takeP 1 rfl (r_bool (r_eql rfl rfl) rfl) ?_
    refine ha_takeP 2 rfl (r_move rfl) ?_
    refine ha_off 3 rfl ?_
    refine ha_off 4 rfl ?_
    refine ha_off 5 rfl ?_
    refine ha_off 6 rfl ?_
    refine ha_off 7 rfl ?_
    refine ha_off 8 rfl ?_
    refine ha_off 9 rfl ?_
    refine ha_off 10 rfl ?_
    refine ha_takeP 11 rfl (r_pick rfl rfl) ?_
    refine ha_takeP 12 rfl (r_assign rfl) ?_
    refine ha_done (by kernel_rfl) ?_
    refine q_then ?_
    refine h_condT rfl ?_
    refine h_seq ?_
    refine h_reg ?_
    refine h_op (r_assign rfl) ?_
    refine h_nil ?_
    refine q_then ?_
    refine h_ret ?_
    refine q_blockR ?_
    refine q_thenR ?_
    exact h_ret1 rfl rfl fun w s => ⟨(), rfl, s.res (List.nil_sublist _) (by simp)⟩
  · have hn : neighE ks (m + 1) = if cmpB (ks.getD m zB32) (ks.getD (m + 1) zB32) < 0 then 0 else if ks.getD m zB32 = ks.getD (m + 1) zB32 then 9 else 8 := rfl
    have h1 := dgs_at (l := ks) (k := m) (by omega)
    rw [hn]
    generalize ks.getD (m + 1) zB32 = y at *
    generalize ks.getD m zB32 = x at *
    refine h_pure (φ := ∃ b o, B = some ⟨b, o, none⟩) (fun w s => Rd.some (s.ok (.rd B (dgs ks)) (by simp)) (by rw [dgs_len]; omega)) ?_
    rintro ⟨b, o, rfl⟩
    by_cases hc : cmpB x y < 0
    · rw [if_pos hc]
      refine ha_start [.blk g4 y.cells 35, .rd (some ⟨g, 0, none⟩) [.slice (some ⟨b, o, none⟩) ks.length cc], .rd (some ⟨b, o, none⟩) (dgs ks)] [] mixed (same) ?_
      refine ha_takeP 0 rfl (r_move rfl) ?_
      refine ha_takeP 1 rfl (r_bool (r_eql rfl rfl) (decide_eq_false (by omega))) ?_
      refine ha_takeP 2 rfl (r_move rfl) ?_
      refine ha_take 3 rfl (r_loadc rfl) ?_
      refine ha_takeP 4 rfl (r_move rfl) ?_
      refine ha_takeP 5 rfl (r_subN rfl rfl (m := m) (hm := by omega)) ?_
      refine ha_takeP 6 rfl (r_idx rfl rfl) ?_
      refine ha_take 7 rfl (r_nthr rfl (out := x.cells) (B32.cells_length _) h1) ?_
      refine ha_take 8 rfl (r_loadr rfl) ?_
      refine ha_one 9 ?_
      refine ho_C 9 rfl ((kCompare_s x y).comes) rfl rfl rfl (fun xx => same) fun _ => ?_
      refine ha_takeP 10 rfl (r_bool (r_lss rfl rfl) (decide_eq_true hc)) ?_
      refine ha_takeP 11 rfl (r_pick rfl rfl) ?_
      refine ha_takeP 12 rfl (r_assign rfl) ?_
      refine ha_done (by kernel_rfl) ?_
      refine q_then ?_
      refine h_condT rfl ?_
      refine h_seq ?_
      refine h_reg ?_
      refine h_op (r_assign rfl) ?_
      refine h_nil ?_
      refine q_then ?_
      refine h_ret ?_
      refine q_blockR ?_
      refine q_thenR ?_
      exact h_ret1 rfl rfl fun w s => ⟨(), rfl, s.res (List.nil_sublist _) (by simp)⟩
    · rw [if_neg hc]
      refine ha_start [.blk g4 y.cells 35, .rd (some ⟨g, 0, none⟩) [.slice (some ⟨b, o, none⟩) ks.length cc], .rd (some ⟨b, o, none⟩) (dgs ks)] [] mixed (same) ?_
      refine ha_takeP 0 rfl (r_move rfl) ?_
      refine ha_takeP 1 rfl (r_bool (r_eql rfl rfl) (decide_eq_false (by omega))) ?_
      refine ha_takeP 2 rfl (r_move rfl) ?_
      refine ha_take 3 rfl (r_loadc rfl) ?_
      refine ha_takeP 4 rfl (r_move rfl) ?_
      refine ha_takeP 5 rfl (r_subN rfl rfl (m := m) (hm := by omega)) ?_
      refine ha_takeP 6 rfl (r_idx rfl rfl) ?_
      refine ha_take 7 rfl (r_nthr rfl (out := x.cells) (B32.cells_length _) h1) ?_
      refine ha_take 8 rfl (r_loadr rfl) ?_
      refine ha_one 9 ?_
      refine ho_C 9 rfl ((kCompare_s x y).comes) rfl rfl rfl (fun xx => same) fun _ => ?_
      refine ha_takeP 10 rfl (r_bool (r_lss rfl rfl) (decide_eq_false hc)) ?_
      refine ha_takeP 11 rfl (r_pick rfl rfl) ?_
      refine ha_takeP 12 rfl (r_assign rfl) ?_
      refine ha_done (by kernel_rfl) ?_
      refine q_then ?_
      refine h_condF rfl ?_
      refine h_seq ?_
      by_cases he : x = y
      · rw [if_pos he]
        refine ha_start [.blk g4 y.cells 35, .rd (some ⟨g, 0, none⟩) [.slice (some ⟨b, o, none⟩) ks.length cc], .rd (some ⟨b, o, none⟩) (dgs ks)] [] mixed (same) ?_
        refine ha_take 0 rfl (r_loadc rfl) ?_
        refine ha_takeP 1 rfl (r_move rfl) ?_
        refine ha_takeP 2 rfl (r_subN rfl rfl (m := m) (hm := by omega)) ?_
        refine ha_takeP 3 rfl (r_idx rfl rfl) ?_
        refine ha_take 4 rfl (r_nthr rfl (out := x.cells) (B32.cells_length _) h1) ?_
        refine ha_take 5 rfl (r_loadr rfl) ?_
        refine ha_takeP 6 rfl (r_bool (r_eqr rfl rfl) (decide_eq_true he)) ?_
        refine ha_takeP 7 rfl (r_assign rfl) ?_
        refine ha_done (by kernel_rfl) ?_
        refine q_then ?_
        refine h_condT rfl ?_
        refine h_seq ?_
        refine h_reg ?_
        refine h_op (r_assign rfl) ?_
        refine h_nil ?_
        refine q_then ?_
        refine h_ret ?_
        refine q_blockR ?_
        refine q_thenR ?_
        exact h_ret1 rfl rfl fun w s => ⟨(), rfl, s.res (List.nil_sublist _) (by simp)⟩
      · rw [if_neg he]
        refine ha_start [.blk g4 y.cells 35, .rd (some ⟨g, 0, none⟩) [.slice (some ⟨b, o, none⟩) ks.length cc], .rd (some ⟨b, o, none⟩) (dgs ks)] [] mixed (same) ?_
        refine ha_take 0 rfl (r_loadc rfl) ?_
        refine ha_takeP 1 rfl (r_move rfl) ?_
        refine ha_takeP 2 rfl (r_subN rfl rfl (m := m) (hm := by omega)) ?_
        refine ha_takeP 3 rfl (r_idx rfl rfl) ?_
        refine ha_take 4 rfl (r_nthr rfl (out := x.cells) (B32.cells_length _) h1) ?_
        refine ha_take 5 rfl (r_loadr rfl) ?_
        refine ha_takeP 6 rfl (r_bool (r_eqr rfl rfl) (decide_eq_false he)) ?_
        refine ha_takeP 7 rfl (r_assign rfl) ?_
        refine ha_done (by kernel_rfl) ?_
        refine q_then ?_
        refine h_condF rfl ?_
        refine h_skip ?_
        refine q_block ?_
        refine q_then ?_
        refine h_seq ?_
        refine h_reg ?_
        refine h_op (r_assign rfl) ?_
        refine h_nil ?_
        refine q_then ?_
        refine h_ret ?_
        exact h_ret1 rfl rfl fun w s => ⟨(), rfl, s.res (List.nil_sublist _) (by simp)⟩
theorem first2_s (ks : List B32) (B : Option Addr) (cc g : Nat) (hl : ks.length ≤ 1000000000) (r : Option (Nat × Int)) (hR : firstF (neighE ks) ks.length 0 = r) : Spec Tryz.prog 109 [.slice B ks.length cc, .func (.func 110) #[] #[.pointer (some ⟨g, 0, none⟩)]].toArray [.rd (some ⟨g, 0, none⟩) [.slice B ks.length cc], .rd B (dgs ks)] [] (fun g : Nat => errV r g) (fun g => errB r g) := by
  refine spec_of Tryz.func109 rfl (n := 25) rfl rfl ?_
  intro W
  refine h_seq ?_
  refine h_reg ?_
  refine h_op (r_assign rfl) ?_
  refine h_nil ?_
  refine q_then ?_
  refine h_seq ?_
  refine h_seq ?_
  refine h_reg ?_
  refine h_op (r_move rfl) ?_
  refine h_op (r_len rfl) ?_
  refine h_op (r_move rfl) ?_
  refine h_nil ?_
  refine q_then ?_
  refine h_block ?_
  refine h_loop (fun (i : Nat) => i ≤ ks.length ∧ ∀ j, j < i → neighE ks j = 0) (fun (i : Nat) => [(10, .int .i64 (i : Int)), (9, .int .i64 (ks.length : Int)), (8, .slice B ks.length cc), (1, .func (.func 110) #[] #[.pointer (some ⟨g, 0, none⟩)])]) (fun (i : Nat) => [.rd (some ⟨g, 0, none⟩) [.slice B ks.length cc], .rd B (dgs ks)]) (fun (i : Nat) => ks.length - i) 0 (⟨Nat.zero_le _, fun j hj => absurd hj (Nat.not_lt_zero _)⟩) ⟨rfl, rfl, rfl, rfl, trivial⟩ (same) ?_
  rintro i ⟨hi, hz⟩
  refine h_seq ?_
  refine h_reg ?_
  refine h_op (r_lss rfl rfl) ?_
  refine h_nil ?_
  refine q_then ?_
  refine h_seq ?_
  refine h_cond rfl (fun hlt => ?_) (fun hlt => ?_)
  · have hi2 : i < ks.length := by omega
    have hz0 : ∀ j, 0 ≤ j → j < i → neighE ks j = 0 := fun j _ hj => hz j hj
    have hd := dgs_at (l := ks) (k := i) hi2
    refine h_pure (φ := ∃ b o, B = some ⟨b, o, none⟩) (fun w s => Rd.some (s.ok (.rd B (dgs ks)) (by simp)) (by rw [dgs_len]; omega)) ?_
    rintro ⟨b, o, rfl⟩
    have hC := claims2_s ks (some ⟨b, o, none⟩) cc g i hi2 hl
    refine h_skip ?_
    refine q_then ?_
    refine h_seq ?_
    refine h_block ?_
    refine h_seq ?_
    refine h_reg ?_
    refine h_op (r_move rfl) ?_
    refine h_op (r_idx rfl rfl) ?_
    refine h_op (r_nthr rfl (out := (ks.getD i zB32).cells) (B32.cells_length _) hd) ?_
    refine h_opX (x_alloc) fun g6 => ?_
    refine h_op (r_assign rfl) ?_
    refine h_opS (s_storer rfl rfl) ?_
    refine h_nil ?_
    refine q_then ?_
    refine h_seq ?_
    refine h_reg ?_
    refine h_op (r_move rfl) ?_
    refine h_op (r_move rfl) ?_
    refine h_op (r_move rfl) ?_
    refine h_op (r_loadr rfl) ?_
    refine h_call (hC.comes) rfl rfl rfl fun _ => ?_
    by_cases h0 : neighE ks i = 0
    · rw [h0]
      refine h_call ((mFail_no (i : Int)).comes) rfl rfl rfl fun _ => ?_
      refine h_op (r_assign rfl) ?_
      refine h_nil ?_
      refine q_then ?_
      refine h_seq ?_
      refine h_reg ?_
      refine h_op (r_move rfl) ?_
      refine h_op (r_nilnn rfl) ?_
      refine h_nil ?_
      refine q_then ?_
      refine h_condF rfl ?_
      refine h_skip ?_
      refine q_block ?_
      refine q_then ?_
      refine h_reg ?_
      refine h_op (r_add rfl rfl) ?_
      refine h_op (r_move rfl) ?_
      refine h_nil ?_
      exact h_back (i + 1) (⟨hi2, fun j hj => (Nat.lt_or_ge j i).elim (hz j) fun h8 => by (obtain rfl : j = i := by omega); exact h0⟩) ((show ks.length - (i + 1) < ks.length - i by omega)) ⟨rfl, rfl, rfl, rfl, trivial⟩ (same)
    · obtain rfl : some (i, neighE ks i) = r := by rw [← hR, firstF_some (neighE ks) i h0 ks.length 0 (Nat.zero_le _) (by omega) hz0]
      refine h_call ((mFail_s (i : Int) (neighE ks i) h0).comes) rfl rfl rfl fun g20 => ?_
      refine h_op (r_assign rfl) ?_
      refine h_nil ?_
      refine q_then ?_
      refine h_seq ?_
      refine h_reg ?_
      refine h_op (r_move rfl) ?_
      refine h_op (r_ifnn rfl) ?_
      refine h_nil ?_
      refine q_then ?_
      refine h_condT rfl ?_
      refine h_seq ?_
      refine h_reg ?_
      refine h_op (r_move rfl) ?_
      refine h_op (r_assign rfl) ?_
      refine h_nil ?_
      refine q_then ?_
      refine h_ret ?_
      refine q_blockR ?_
      refine q_thenR ?_
      refine q_thenR ?_
      refine q_blockR ?_
      refine q_thenR ?_
      exact h_ret1 rfl rfl fun w s => ⟨g20, rfl, (same (L' := [.blk g20 (fltC batchB (i : Int) (neighE ks i)) 178]) w s).res (List.Sublist.refl _) (by simp [Fa.wr, errB])⟩
  · obtain rfl : i = ks.length := by omega
    obtain rfl : none = r := by rw [← hR, firstF_none _ _ _ (fun j _ hj => hz j (by omega))]
    refine h_exit ?_
    refine q_thenE ?_
    refine q_thenE ?_
    refine q_blockE ?_
    refine q_then ?_
    refine h_seq ?_
    refine h_reg ?_
    refine h_op (r_assign rfl) ?_
    refine h_nil ?_
    refine q_then ?_
    refine h_ret ?_
    exact h_ret1 rfl rfl fun w s => ⟨0, rfl, s.res (List.nil_sublist _) (by simp [errB])⟩
end Go.Proofs.YtjhocljhhpkiiaaGreatDoor
/- U120 -/
namespace Go.Proofs.YtjhocljhhpkiiaaGreatDoor
set_option linter.unusedSimpArgs false
set_option linter.unusedVariables false
open Go.RowKit
/-- the keys that are written, of the first k claims -/
def keysI (l : List CB) (k : Nat) : List B32 := (keysC l).take k ++ List.replicate (l.length - k) zB32
theorem keysI_len {l : List CB} {k : Nat} (h : k ≤ l.length) : (keysI l k).length = l.length := by
  unfold keysI
  rw [List.length_append, List.length_take, keysC_len, List.length_replicate]
  omega
theorem keysI_zero (l : List CB) : List.replicate l.length zB32 = keysI l 0 := by unfold keysI; simp
theorem keysI_all (l : List CB) : keysI l l.length = keysC l := by
  unfold keysI
  rw [Nat.sub_self, List.replicate_zero, List.append_nil, List.take_of_length_le (by rw [keysC_len]; exact Nat.le_refl _)]
theorem keysC_get {l : List CB} {k : Nat} (h : k < l.length) : (keysC l)[k]? = some (keyOf (l.getD k zCB).kb) := by
  unfold keysC
  rw [List.getElem?_map, getD_get zCB h]
  rfl
theorem keysI_set {l : List CB} {k : Nat} (h : k < l.length) : (keysI l k).set k (keyOf (l.getD k zCB).kb) = keysI l (k + 1) := by
  unfold keysI
  have h1 : ((keysC l).take k).length = k := by rw [List.length_take, keysC_len]; omega
  rw [List.set_append_right _ _ (by omega), h1, Nat.sub_self, show l.length - k = (l.length - (k + 1)) + 1 by omega, List.replicate_succ, List.set_cons_zero, List.take_add_one, keysC_get h]
  simp
def claimsV (n : Nat) : Option (Nat × Int) → Nat → Value
  | none, g => .tuple #[.slice (some ⟨g, 0, none⟩) n n, .nilIface]
  | some _, g => .tuple #[.slice none 0 0, .iface 174 (.pointer (some ⟨g, 0, none⟩))]
def claimsN (l : List CB) : Option (Nat × Int) → Nat → List Fa
  | none, g => [.own (.slice (some ⟨g, 0, none⟩) l.length l.length) l.length 35 32 (dgs (keysC l))]
  | some (i, e), g => [.blk g (fltC batchB (i : Int) e) 178]
section
variable (h : Zh) (l : List CB) (A : Option Addr) (c : Nat) [hr : RdZ h A (cbs l)] (hl : l.length ≤ 1000000000)
include hl
omit hr in
theorem Claims_early (e : Int) (hE : (l.length = 0 ∧ e = 10) ∨ (65535 < l.length ∧ e = 11)) : Spec Tryz.prog 56 [.slice A l.length c].toArray [.zone false h] [] (fun g : Nat => .tuple #[.slice none 0 0, .iface 174 (.pointer (some ⟨g, 0, none⟩))]) (fun g => [.blk g (fltC batchB 0 e) 178]) := by
  refine spec_of Tryz.func56 rfl (n := 49) rfl rfl ?_
  intro W
  rcases hE with ⟨h0, rfl⟩ | ⟨h0, rfl⟩
  · refine h_seq ?_
    refine h_reg ?_
    refine h_op (r_assign rfl) ?_
    refine h_op (r_assign rfl) ?_
    refine h_nil ?_
    refine q_then ?_
    refine h_seq ?_
    refine h_block ?_
    refine h_seq ?_
    refine h_reg ?_
    refine h_op (r_move rfl) ?_
    refine h_op (r_len rfl) ?_
    refine h_op (r_eql rfl rfl) ?_
    refine h_op (r_assign rfl) ?_
    refine h_nil ?_
    refine q_then ?_
    refine h_yes rfl ((show ((l.length : Nat) : Int) = 0 by omega)) ?_
    refine h_seq ?_
    refine h_reg ?_
    refine h_call ((mFail_s 0 10 (by decide)).comes) rfl rfl rfl fun g13 => ?_
    refine h_op (r_assign rfl) ?_
    refine h_op (r_assign rfl) ?_
    refine h_nil ?_
    refine q_then ?_
    refine h_ret ?_
    refine q_blockR ?_
    refine q_thenR ?_
    exact h_ret2 rfl rfl rfl fun w s => ⟨g13, rfl, (same (L' := [.blk g13 (fltC batchB 0 10) 178]) w s).res (List.Sublist.refl _) (by simp [Fa.wr])⟩
  · refine h_seq ?_
    refine h_reg ?_
    refine h_op (r_assign rfl) ?_
    refine h_op (r_assign rfl) ?_
    refine h_nil ?_
    refine q_then ?_
    refine h_seq ?_
    refine h_block ?_
    refine h_seq ?_
    refine h_reg ?_
    refine h_op (r_move rfl) ?_
    refine h_op (r_len rfl) ?_
    refine h_op (r_eql rfl rfl) ?_
    refine h_op (r_assign rfl) ?_
    refine h_nil ?_
    refine q_then ?_
    refine h_no rfl ((show ¬ ((l.length : Nat) : Int) = 0 by omega)) ?_
    refine h_seq ?_
    refine h_reg ?_
    refine h_op (r_move rfl) ?_
    refine h_op (r_len rfl) ?_
    refine h_op (r_gtr rfl rfl) ?_
    refine h_op (r_assign rfl) ?_
    refine h_nil ?_
    refine q_then ?_
    refine h_yes rfl ((show (65535 : Int) < ((l.length : Nat) : Int) by omega)) ?_
    refine h_seq ?_
    refine h_reg ?_
    refine h_call ((mFail_s 0 11 (by decide)).comes) rfl rfl rfl fun g18 => ?_
    refine h_op (r_assign rfl) ?_
    refine h_op (r_assign rfl) ?_
    refine h_nil ?_
    refine q_then ?_
    refine h_ret ?_
    refine q_blockR ?_
    refine q_thenR ?_
    exact h_ret2 rfl rfl rfl fun w s => ⟨g18, rfl, (same (L' := [.blk g18 (fltC batchB 0 11) 178]) w s).res (List.Sublist.refl _) (by simp [Fa.wr])⟩
theorem mClaims_s (hz : ClsZ h l) (r : Option (Nat × Int)) (hR : claimsR l = r) : Spec Tryz.prog 56 [.slice A l.length c].toArray [.zone false h] [] (fun g : Nat => claimsV l.length r g) (fun g => claimsN l r g) := by
  by_cases h0 : l.length = 0
  · obtain rfl : some (0, 10) = r := by rw [← hR]; unfold claimsR; rw [if_pos h0]
    exact Claims_early h l A c hl 10 (.inl ⟨h0, rfl⟩)
  by_cases h1 : 65535 < l.length
  · obtain rfl : some (0, 11) = r := by rw [← hR]; unfold claimsR; rw [if_neg h0, if_pos h1]
    exact Claims_early h l A c hl 11 (.inr ⟨h1, rfl⟩)
  have hR2 : (match firstF (fun i => claimE (l.getD i zCB).c) l.length 0 with | some r => some r | none => firstF (neighE (keysC l)) l.length 0) = r := by
    rw [← hR]
    unfold claimsR
    rw [if_neg h0, if_neg h1]
    rcases firstF (fun i => claimE (l.getD i zCB).c) l.length 0 with _ | _ <;> rfl
  have hF1 := first1_s h l A c hl _ rfl
  have hF2 := fun (B : Option Addr) (g : Nat) => first2_s (keysC l) B l.length g (by rw [keysC_len]; exact hl) _ rfl
  rw [keysC_len] at hF2
  have hok : firstF (fun i => claimE (l.getD i zCB).c) l.length 0 = none → ∀ i, i < l.length → (l.getD i zCB).kb.length = 32 := fun hn i hi => by
    have h1 := firstF_zero _ _ _ hn i (Nat.zero_le _) (by omega)
    have h2 := (hz.get hi).1.len
    unfold claimE at h1
    split at h1
    · omega
    · cases h1
  generalize firstF (fun i => claimE (l.getD i zCB).c) l.length 0 = r1 at *
  rcases r1 with _ | ⟨i1, e1⟩
  · replace hok := hok rfl
    replace hF1 : Spec Tryz.prog 107 [.slice A l.length c, .func (.func 108) #[] #[]].toArray [.zone false h] [] (fun g : Nat => .nilIface) (fun g => []) := hF1
    replace hR2 : firstF (neighE (keysC l)) l.length 0 = r := hR2
    rw [hR2] at hF2
    refine spec_of Tryz.func56 rfl (n := 49) rfl rfl ?_
    intro W
    refine h_seq ?_
    refine h_reg ?_
    refine h_op (r_assign rfl) ?_
    refine h_op (r_assign rfl) ?_
    refine h_nil ?_
    refine q_then ?_
    refine h_seq ?_
    refine h_block ?_
    refine h_seq ?_
    refine h_reg ?_
    refine h_op (r_move rfl) ?_
    refine h_op (r_len rfl) ?_
    refine h_op (r_eql rfl rfl) ?_
    refine h_op (r_assign rfl) ?_
    refine h_nil ?_
    refine q_then ?_
    refine h_no rfl ((show ¬ ((l.length : Nat) : Int) = 0 by omega)) ?_
    refine h_seq ?_
    refine h_reg ?_
    refine h_op (r_move rfl) ?_
    refine h_op (r_len rfl) ?_
    refine h_op (r_gtr rfl rfl) ?_
    refine h_op (r_assign rfl) ?_
    refine h_nil ?_
    refine q_then ?_
    refine h_no rfl ((show ¬ (65535 : Int) < ((l.length : Nat) : Int) by omega)) ?_
    refine h_skip ?_
    refine q_block ?_
    refine q_then ?_
    refine h_seq ?_
    refine h_seq ?_
    refine h_reg ?_
    refine h_op (r_move rfl) ?_
    refine h_call (hF1.comes) rfl rfl rfl fun _ => ?_
    refine h_op (r_assign rfl) ?_
    refine h_nil ?_
    refine q_then ?_
    refine h_seq ?_
    refine h_reg ?_
    refine h_op (r_move rfl) ?_
    refine h_op (r_nilnn rfl) ?_
    refine h_nil ?_
    refine q_then ?_
    refine h_condF rfl ?_
    refine h_skip ?_
    refine q_then ?_
    refine h_seq ?_
    refine h_reg ?_
    refine h_op (r_move rfl) ?_
    refine h_op (r_len rfl) ?_
    refine h_opX (x_make rfl rfl) fun g26 => ?_
    refine h_opX (x_alloc) fun g5 => ?_
    refine h_opS (s_store rfl rfl rfl) ?_
    refine h_nil ?_
    refine q_then ?_
    refine h_seq ?_
    refine h_seq ?_
    refine h_reg ?_
    refine h_op (r_move rfl) ?_
    refine h_op (r_len rfl) ?_
    refine h_op (r_move rfl) ?_
    refine h_nil ?_
    refine q_then ?_
    refine h_block ?_
    rw [made_dgs, keysI_zero]
    refine h_loop (fun (k : Nat) => k ≤ l.length) (fun (k : Nat) => [(29, .int .i64 (k : Int)), (28, .int .i64 (l.length : Int)), (27, .slice A l.length c), (5, .pointer (some ⟨g5, 0, none⟩))]) (fun (k : Nat) => [.own (.slice (some ⟨g26, 0, none⟩) l.length l.length) l.length 35 32 (dgs (keysI l k)), .blk g5 [.slice (some ⟨g26, 0, none⟩) l.length l.length] 104, .zone false h]) (fun (k : Nat) => l.length - k) 0 ((show 0 ≤ _ from Nat.zero_le _)) ⟨rfl, rfl, rfl, rfl, trivial⟩ (same) ?_
    rintro k hk
    refine h_seq ?_
    refine h_reg ?_
    refine h_op (r_lss rfl rfl) ?_
    refine h_nil ?_
    refine q_then ?_
    refine h_seq ?_
    refine h_cond rfl (fun hlt => ?_) (fun hlt => ?_)
    · have hk2 : k < l.length := by omega
      have hx := getD_get zCB hk2
      have hkl := hok k hk2
      have hsk := (hz.get hk2).1
      have hset := dgs_set (keysI l k) k (keyOf (l.getD k zCB).kb) (by rw [keysI_len (by omega)]; exact hk2)
      rw [keysI_set hk2] at hset
      obtain ⟨b, o, rfl, -⟩ := hr.at_ (k * 3) _ (cbs_at hx 0 _ rfl)
      generalize l.getD k zCB = x at *
      have hkn := hsk.len
      obtain ⟨bK, oK, hKA, -⟩ := hsk.rd.at_ 0 _ (List.getElem?_eq_getElem (by rw [bc_length]; omega))
      have hKr : RdZ h (some ⟨bK, oK, none⟩) (keyOf x.kb).cells := by rw [keyOf_cells hkl, ← hKA]; exact hsk.rd
      refine h_skip ?_
      refine q_then ?_
      refine h_seq ?_
      refine h_block ?_
      refine h_seq ?_
      refine h_reg ?_
      refine h_op (r_move rfl) ?_
      refine h_op (r_idx rfl rfl) ?_
      refine h_op (r_nthr rfl (out := x.c.cells) (Claim.cells_length _) (cbs_at hx)) ?_
      refine h_opX (x_alloc) fun g7 => ?_
      refine h_op (r_assign rfl) ?_
      refine h_opS (s_storer rfl rfl) ?_
      refine h_nil ?_
      refine q_then ?_
      refine ha_start [.blk g5 [.slice (some ⟨g26, 0, none⟩) l.length l.length] 104, .blk g7 x.c.cells 25, .zone false h] [] mixed (same) ?_
      refine ha_take 0 rfl (r_loadc rfl) ?_
      refine ha_takeP 1 rfl (r_move rfl) ?_
      refine ha_takeP 2 rfl (r_field rfl) ?_
      refine ha_take 3 rfl (r_as (r_loadc rfl) (show _ = Value.slice (some ⟨bK, oK, none⟩) x.c.key.n x.c.key.c by rw [hKA])) ?_
      refine ha_takeP 4 rfl (r_arr rfl (hm := show 32 ≤ x.c.key.n by omega)) ?_
      refine ha_take 5 rfl (r_loadr rfl) ?_
      refine ha_takeP 6 rfl (r_idx rfl rfl) ?_
      refine ha_one 7 ?_
      refine ho_SL 7 rfl (s_setrO rfl rfl (by rw [dgs_len, keysI_len (by omega)]; omega) hset) ?_
      refine q_block ?_
      refine q_then ?_
      refine h_reg ?_
      refine h_op (r_add rfl rfl) ?_
      refine h_op (r_move rfl) ?_
      refine h_nil ?_
      exact h_back (k + 1) ((show k + 1 ≤ _ from hk2)) ((show l.length - (k + 1) < l.length - k by omega)) ⟨rfl, rfl, rfl, rfl, trivial⟩ (same)
    · obtain rfl : k = l.length := by omega
      rw [keysI_all]
      rcases r with _ | ⟨i2, e2⟩
      · replace hF2 : ∀ (B : Option Addr) (g : Nat), Spec Tryz.prog 109 [.slice B l.length l.length, .func (.func 110) #[] #[.pointer (some ⟨g, 0, none⟩)]].toArray [.rd (some ⟨g, 0, none⟩) [.slice B l.length l.length], .rd B (dgs (keysC l))] [] (fun g : Nat => .nilIface) (fun g => []) := hF2
        refine h_exit ?_
        refine q_thenE ?_
        refine q_thenE ?_
        refine q_blockE ?_
        refine q_then ?_
        refine h_seq ?_
        refine h_reg ?_
        refine h_op (r_loadc rfl) ?_
        refine h_op (r_func rfl rfl) ?_
        refine h_call ((hF2 (some ⟨g26, 0, none⟩) g5).comes) rfl rfl rfl fun _ => ?_
        refine h_op (r_assign rfl) ?_
        refine h_nil ?_
        refine q_then ?_
        refine h_seq ?_
        refine h_seq ?_
        refine h_reg ?_
        refine h_op (r_move rfl) ?_
        refine h_op (r_nilnn rfl) ?_
        refine h_nil ?_
        refine q_then ?_
        refine h_condF rfl ?_
        refine h_skip ?_
        refine q_then ?_
        refine h_seq ?_
        refine h_reg ?_
        refine h_op (r_loadc rfl) ?_
        refine h_op (r_assign rfl) ?_
        refine h_op (r_assign rfl) ?_
        refine h_nil ?_
        refine q_then ?_
        refine h_ret ?_
        exact h_ret2 rfl rfl rfl fun w s => ⟨g26, rfl, (same (L' := [.own (.slice (some ⟨g26, 0, none⟩) l.length l.length) l.length 35 32 (dgs (keysC l))]) w s).res (List.Sublist.refl _) (by simp [Fa.wr, claimsN])⟩
      · replace hF2 : ∀ (B : Option Addr) (g : Nat), Spec Tryz.prog 109 [.slice B l.length l.length, .func (.func 110) #[] #[.pointer (some ⟨g, 0, none⟩)]].toArray [.rd (some ⟨g, 0, none⟩) [.slice B l.length l.length], .rd B (dgs (keysC l))] [] (fun g : Nat => .iface 174 (.pointer (some ⟨g, 0, none⟩))) (fun g => [.blk g (fltC batchB (i2 : Int) e2) 178]) := hF2
        refine h_exit ?_
        refine q_thenE ?_
        refine q_thenE ?_
        refine q_blockE ?_
        refine q_then ?_
        refine h_seq ?_
        refine h_reg ?_
        refine h_op (r_loadc rfl) ?_
        refine h_op (r_func rfl rfl) ?_
        refine h_call ((hF2 (some ⟨g26, 0, none⟩) g5).comes) rfl rfl rfl fun g44 => ?_
        refine h_op (r_assign rfl) ?_
        refine h_nil ?_
        refine q_then ?_
        refine h_seq ?_
        refine h_seq ?_
        refine h_reg ?_
        refine h_op (r_move rfl) ?_
        refine h_op (r_ifnn rfl) ?_
        refine h_nil ?_
        refine q_then ?_
        refine h_condT rfl ?_
        refine h_seq ?_
        refine h_reg ?_
        refine h_op (r_move rfl) ?_
        refine h_op (r_assign rfl) ?_
        refine h_op (r_assign rfl) ?_
        refine h_nil ?_
        refine q_then ?_
        refine h_ret ?_
        refine q_thenR ?_
        exact h_ret2 rfl rfl rfl fun w s => ⟨g44, rfl, (same (L' := [.blk g44 (fltC batchB (i2 : Int) e2) 178]) w s).res (List.Sublist.refl _) (by simp [Fa.wr, claimsN])⟩
  · replace hF1 : Spec Tryz.prog 107 [.slice A l.length c, .func (.func 108) #[] #[]].toArray [.zone false h] [] (fun g : Nat => .iface 174 (.pointer (some ⟨g, 0, none⟩))) (fun g => [.blk g (fltC batchB (i1 : Int) e1) 178]) := hF1
    obtain rfl : some (i1, e1) = r := hR2
    refine spec_of Tryz.func56 rfl (n := 49) rfl rfl ?_
    intro W
    refine h_seq ?_
    refine h_reg ?_
    refine h_op (r_assign rfl) ?_
    refine h_op (r_assign rfl) ?_
    refine h_nil ?_
    refine q_then ?_
    refine h_seq ?_
    refine h_block ?_
    refine h_seq ?_
    refine h_reg ?_
    refine h_op (r_move rfl) ?_
    refine h_op (r_len rfl) ?_
    refine h_op (r_eql rfl rfl) ?_
    refine h_op (r_assign rfl) ?_
    refine h_nil ?_
    refine q_then ?_
    refine h_no rfl ((show ¬ ((l.length : Nat) : Int) = 0 by omega)) ?_
    refine h_seq ?_
    refine h_reg ?_
    refine h_op (r_move rfl) ?_
    refine h_op (r_len rfl) ?_
    refine h_op (r_gtr rfl rfl) ?_
    refine h_op (r_assign rfl) ?_
    refine h_nil ?_
    refine q_then ?_
    refine h_no rfl ((show ¬ (65535 : Int) < ((l.length : Nat) : Int) by omega)) ?_
    refine h_skip ?_
    refine q_block ?_
    refine q_then ?_
    refine h_seq ?_
    refine h_seq ?_
    refine h_reg ?_
    refine h_op (r_move rfl) ?_
    refine h_call (hF1.comes) rfl rfl rfl fun g20 => ?_
    refine h_op (r_assign rfl) ?_
    refine h_nil ?_
    refine q_then ?_
    refine h_seq ?_
    refine h_reg ?_
    refine h_op (r_move rfl) ?_
    refine h_op (r_ifnn rfl) ?_
    refine h_nil ?_
    refine q_then ?_
    refine h_condT rfl ?_
    refine h_seq ?_
    refine h_reg ?_
    refine h_op (r_move rfl) ?_
    refine h_op (r_assign rfl) ?_
    refine h_op (r_assign rfl) ?_
    refine h_nil ?_
    refine q_then ?_
    refine h_ret ?_
    refine q_thenR ?_
    exact h_ret2 rfl rfl rfl fun w s => ⟨g20, rfl, (same (L' := [.blk g20 (fltC batchB (i1 : Int) e1) 178]) w s).res (List.Sublist.refl _) (by simp [Fa.wr, claimsN])⟩
end
end Go.Proofs.YtjhocljhhpkiiaaGreatDoor
/- E15 -/
namespace Go.Proofs.YtjhocljhhpkiiaaGreatDoor
set_option linter.unusedSimpArgs false
set_option linter.unusedVariables false
open Go.RowKit
theorem byte_lt_bits (x y : UInt8) (h : x < y) : ∃ j, j < 8 ∧ (∀ i, i < j → bbit x i = bbit y i) ∧ bbit x j = false ∧ bbit y j = true := by
  have key : ∀ n m : Fin 256, n.val < m.val → ((List.range 8).any fun j => ((List.range j).all fun i => bbit (UInt8.ofNat n.val) i == bbit (UInt8.ofNat m.val) i) && !bbit (UInt8.ofNat n.val) j && bbit (UInt8.ofNat m.val) j) = true := by decide +kernel
  have h2 := key ⟨x.toNat, x.toNat_lt⟩ ⟨y.toNat, y.toNat_lt⟩ (UInt8.lt_iff_toNat_lt.1 h)
  simp only [UInt8.ofNat_toNat, List.any_eq_true, List.mem_range, Bool.and_eq_true, List.all_eq_true, beq_iff_eq, Bool.not_eq_true'] at h2
  obtain ⟨j, hj, ⟨h3, h4⟩, h5⟩ := h2
  exact ⟨j, hj, h3, h4, h5⟩
theorem cmpL_lt : ∀ (a b : List UInt8), cmpL a b < 0 → ∃ k, k < a.length ∧ k < b.length ∧ (∀ i, i < k → a.getD i 0 = b.getD i 0) ∧ a.getD k 0 < b.getD k 0
  | [], b, h => by unfold cmpL at h; omega
  | x :: a, [], h => by unfold cmpL at h; omega
  | x :: a, y :: b, h => by
    unfold cmpL at h
    by_cases h1 : x < y
    · exact ⟨0, by simp, by simp, fun i hi => by omega, by simpa using h1⟩
    · rw [if_neg h1] at h
      by_cases h2 : y < x
      · rw [if_pos h2] at h; omega
      · rw [if_neg h2] at h
        obtain ⟨k, k1, k2, k3, k4⟩ := cmpL_lt a b h
        have e : x = y := UInt8.le_antisymm (UInt8.not_lt.1 h2) (UInt8.not_lt.1 h1)
        refine ⟨k + 1, by simp; omega, by simp; omega, fun i hi => ?_, by simpa using k4⟩
        cases i with
        | zero => simpa using e
        | succ i => simpa using k3 i (by omega)
theorem cmpB_bits {a b : B32} (h : cmpB a b < 0) : ∃ i, i < 256 ∧ (∀ j, j < i → bitAt a j = bitAt b j) ∧ bitAt a i = false ∧ bitAt b i = true := by
  obtain ⟨k, k1, _, k3, k4⟩ := cmpL_lt a.1 b.1 h
  obtain ⟨j, hj, h1, h2, h3⟩ := byte_lt_bits _ _ k4
  have ha := a.2
  refine ⟨8 * k + j, by omega, fun i hi => ?_, ?_, ?_⟩
  · unfold bitAt
    by_cases hk : i / 8 < k
    · rw [k3 _ hk]
    · have e : i / 8 = k := by omega
      rw [e]
      exact h1 _ (by omega)
  · unfold bitAt
    rw [show (8 * k + j) / 8 = k by omega, show (8 * k + j) % 8 = j by omega]
    exact h2
  · unfold bitAt
    rw [show (8 * k + j) / 8 = k by omega, show (8 * k + j) % 8 = j by omega]
    exact h3
end Go.Proofs.YtjhocljhhpkiiaaGreatDoor
/- E16 -/
namespace Go.Proofs.YtjhocljhhpkiiaaGreatDoor
set_option linter.unusedSimpArgs false
set_option linter.unusedVariables false
open Go.RowKit
/-- ahead of another key -/
def ltK (a b : B32) : Prop := ∃ i, i < 256 ∧ (∀ j, j < i → bitAt a j = bitAt b j) ∧ bitAt a i = false ∧ bitAt b i = true
theorem ltK_trans {a b c : B32} (h : ltK a b) (h' : ltK b c) : ltK a c := by
  obtain ⟨i, i1, i2, i3, i4⟩ := h
  obtain ⟨j, j1, j2, j3, j4⟩ := h'
  rcases Nat.lt_trichotomy i j with hij | rfl | hij
  · exact ⟨i, i1, fun k hk => (i2 k hk).trans (j2 k (by omega)), i3, (j2 i hij) ▸ i4⟩
  · rw [i4] at j3; cases j3
  · exact ⟨j, j1, fun k hk => (i2 k (by omega)).trans (j2 k hk), (i2 j hij).trans j3, j4⟩
def AlikeK (l : List B32) (d : Nat) : Prop := ∀ a ∈ l, ∀ b ∈ l, ∀ i, i < d → bitAt a i = bitAt b i
theorem ltK_bit {a b : B32} {d : Nat} (h : ltK a b) (ha : ∀ i, i < d → bitAt a i = bitAt b i) (hb : bitAt a d = true) : bitAt b d = true := by
  obtain ⟨i, i1, i2, i3, i4⟩ := h
  rcases Nat.lt_trichotomy i d with hid | rfl | hid
  · rw [ha i hid, i4] at i3; cases i3
  · rw [hb] at i3; cases i3
  · rw [← i2 d hid]; exact hb
theorem split_at : ∀ {l : List B32} {d : Nat}, l.Pairwise ltK → AlikeK l d → ∃ m, m ≤ l.length ∧ (∀ j, j < l.length → bitAt (l.getD j zB32) d = decide (m ≤ j)) ∧ l.take m = l.filter (fun k => bitAt k d == false) ∧ l.drop m = l.filter (fun k => bitAt k d == true)
  | [], _, _, _ => ⟨0, Nat.le_refl _, fun j hj => by simp at hj, rfl, rfl⟩
  | a :: l, d, ho, ha => by
    obtain ⟨h1, h2⟩ := List.pairwise_cons.1 ho
    have hal : AlikeK l d := fun x hx y hy => ha x (List.mem_cons_of_mem _ hx) y (List.mem_cons_of_mem _ hy)
    cases hb : bitAt a d
    · obtain ⟨m, m1, m2, m3, m4⟩ := split_at h2 hal
      refine ⟨m + 1, by simp; omega, fun j hj => ?_, ?_, ?_⟩
      · cases j with
        | zero => simpa using hb
        | succ j =>
          have := m2 j (by simpa using hj)
          rw [List.getD_cons_succ, this]
          exact decide_eq_decide.2 ⟨fun h => by omega, fun h => by omega⟩
      · rw [List.take_succ_cons, m3, List.filter_cons_of_pos (by simp [hb])]
      · rw [List.drop_succ_cons, m4, List.filter_cons_of_neg (by simp [hb])]
    · have hall : ∀ x ∈ l, bitAt x d = true := fun x hx => ltK_bit (h1 x hx) (ha a (List.mem_cons_self ..) x (List.mem_cons_of_mem _ hx)) hb
      refine ⟨0, Nat.zero_le _, fun j hj => ?_, ?_, ?_⟩
      · cases j with
        | zero => simpa using hb
        | succ j =>
          have hj' : j < l.length := by simpa using hj
          rw [List.getD_cons_succ, List.getD_eq_getElem?_getD, List.getElem?_eq_getElem hj', Option.getD_some, hall _ (List.getElem_mem hj')]
          simp
      · rw [List.take_zero, List.filter_cons_of_neg (by simp [hb])]
        symm
        rw [List.filter_eq_nil_iff]
        intro x hx
        simp [hall x hx]
      · rw [List.drop_zero, List.filter_cons_of_pos (by simp [hb])]
        congr 1
        symm
        rw [List.filter_eq_self]
        intro x hx
        simp [hall x hx]
end Go.Proofs.YtjhocljhhpkiiaaGreatDoor
/- E17 -/
namespace Go.Proofs.YtjhocljhhpkiiaaGreatDoor
set_option linter.unusedSimpArgs false
set_option linter.unusedVariables false
open Go.RowKit
/-- the keys with a bit -/
def keysB (ks : List B32) (d : Nat) (b : Bool) : List B32 := ks.filter fun k => bitAt k d == b
/-- what add appends -/
def addT (n : Nat) : Tr → List B32 → Nat → List Item
  | .nil, _, _ => [⟨0, zB32, zLeaf⟩]
  | t, [], _ => [⟨3, dgT n t, zLeaf⟩]
  | .leaf k v, _, _ => [⟨1, zB32, leafOf n k v⟩]
  | .node l r, ks, d => ⟨2, zB32, zLeaf⟩ :: (addT n l (keysB ks d false) (d + 1) ++ addT n r (keysB ks d true) (d + 1))
theorem keysB_alike {ks : List B32} {d : Nat} (h : AlikeK ks d) (b : Bool) : AlikeK (keysB ks d b) (d + 1) := fun x hx y hy i hi => by
  have hx' := List.mem_filter.1 hx
  have hy' := List.mem_filter.1 hy
  rcases Nat.lt_or_ge i d with h1 | h1
  · exact h x hx'.1 y hy'.1 i h1
  · obtain rfl : i = d := by omega
    have e1 : bitAt x i = b := by simpa using hx'.2
    have e2 : bitAt y i = b := by simpa using hy'.2
    rw [e1, e2]
theorem keysB_ord {ks : List B32} {d : Nat} (h : ks.Pairwise ltK) (b : Bool) : (keysB ks d b).Pairwise ltK := h.filter _
end Go.Proofs.YtjhocljhhpkiiaaGreatDoor
/- U63 -/
namespace Go.Proofs.YtjhocljhhpkiiaaGreatDoor
set_option linter.unusedSimpArgs false
set_option linter.unusedVariables false
open Go.RowKit
theorem its_at {l : List Item} {k : Nat} {x : Item} (h : l[k]? = some x) : ∀ j v, x.cells[j]? = some v → (its l)[k * 97 + j]? = some v := by
  induction l generalizing k with
  | nil => cases h
  | cons y l ih =>
    intro j v hv
    rw [its_cons]
    cases k with
    | zero =>
      obtain rfl : y = x := by simpa using h
      rw [Nat.zero_mul, Nat.zero_add, List.getElem?_append_left (List.getElem?_eq_some_iff.1 hv).1]
      exact hv
    | succ k =>
      rw [List.getElem?_append_right (by rw [Item.cells_length]; omega), Item.cells_length, show (k + 1) * 97 + j - 97 = k * 97 + j by omega]
      exact ih (by simpa using h) j v hv
/-- what parse brings -/
def parseV : Except Int Sub → Value
  | .ok t => .tuple #[.iface t.tag t.val, .int .i64 0]
  | .error e => .tuple #[.nilIface, .int .i64 e]
theorem clean3 {x : Item} (h : x.kind = 3) : cleanItem x = decide (x.leaf = zLeaf) := by unfold cleanItem; simp [h]
theorem clean1 {x : Item} (h : ¬ x.kind = 3) (hd : x.digest = zB32) (h1 : x.kind = 1) : cleanItem x = true := by unfold cleanItem; simp [hd, h1]
theorem clean0 {x : Item} (h : ¬ x.kind = 3) (hd : x.digest = zB32) (h1 : ¬ x.kind = 1) : cleanItem x = decide (x.leaf = zLeaf) := by unfold cleanItem; simp [hd, h1]
theorem cleanN {x : Item} (h : ¬ x.kind = 3) (hd : ¬ x.digest = zB32) : cleanItem x = false := by unfold cleanItem; simp [h, hd]
section
variable (h : Zh)
theorem parse_s (l : List Item) (A : Option Addr) (c : Nat) [hr : RdZ h A (its l)] (hc : l.length ≤ c) (hl : l.length ≤ 1000000) : Spec Tryz.prog 145 [.slice A l.length c].toArray [.zone false h] [] (fun _ : Unit => parseV (parseM l)) (fun _ => []) := by
  have hR := read_all h 256 (Nat.le_refl _) l A c hr hc
  rw [show (256 - ((256 : Nat) : Int)) = 0 from rfl] at hR
  refine spec_of Tryz.func145 rfl (n := 64) rfl rfl ?_
  intro W
  refine h_seq ?_
  refine h_reg ?_
  refine h_op (r_assign rfl) ?_
  refine h_op (r_assign rfl) ?_
  refine h_nil ?_
  refine q_then ?_
  refine h_seq ?_
  refine h_reg ?_
  refine h_op (r_assign rfl) ?_
  refine h_nil ?_
  refine q_then ?_
  refine h_seq ?_
  refine h_seq ?_
  refine h_reg ?_
  refine h_op (r_move rfl) ?_
  refine h_op (r_len rfl) ?_
  refine h_op (r_move rfl) ?_
  refine h_nil ?_
  refine q_then ?_
  refine h_block ?_
  refine h_loop (fun (s : Nat × Bool) => s.1 ≤ l.length ∧ (l.take s.1).all kindOk = true ∧ s.2 = (l.take s.1).all cleanItem) (fun (s : Nat × Bool) => [(11, .int .i64 (s.1 : Int)), (10, .int .i64 (l.length : Int)), (9, .slice A l.length c), (4, .bool s.2), (0, .slice A l.length c)]) (fun (s : Nat × Bool) => [.zone false h]) (fun (s : Nat × Bool) => l.length - s.1) (0, true) ((show 0 ≤ l.length ∧ _ ∧ _ from ⟨Nat.zero_le _, rfl, rfl⟩)) ⟨rfl, rfl, rfl, rfl, rfl, trivial⟩ (same) ?_
  rintro ⟨k, b⟩ ⟨hk, hok, hb⟩
  dsimp only at hk hok hb ⊢
  refine h_seq ?_
  refine h_reg ?_
  refine h_op (r_lss rfl rfl) ?_
  refine h_nil ?_
  refine q_then ?_
  refine h_seq ?_
  refine h_cond rfl (fun hlt => ?_) (fun hlt => ?_)
  · have hk2 : k < l.length := by omega
    obtain ⟨x, hx⟩ : ∃ x, l[k]? = some x := ⟨_, List.getElem?_eq_getElem hk2⟩
    have hak := all_take kindOk l k x hx
    have hac := all_take cleanItem l k x hx
    rw [hok, Bool.true_and] at hak
    rw [← hb] at hac
    have h0 : 0 < (its l).length := by rw [its_len]; omega
    obtain ⟨bb, o, rfl, -⟩ := hr.at_ 0 _ (List.getElem?_eq_getElem h0)
    have hat := its_at hx
    by_cases h1 : x.kind < 0
    · have hpm : parseM l = .error 7 := by
        unfold parseM
        rw [if_neg]
        intro ha
        have := List.all_eq_true.1 ha x (List.mem_of_getElem? hx)
        unfold kindOk at this
        simp at this
        omega
      rw [hpm]
      refine h_skip ?_
      refine q_then ?_
      refine h_seq ?_
      refine h_block ?_
      refine h_seq ?_
      refine h_reg ?_
      refine h_op (r_idx rfl rfl) ?_
      refine h_op (r_nthr rfl (out := x.cells) (Item.cells_length x) hat) ?_
      refine h_opX (x_alloc) fun g6 => ?_
      refine h_opS (s_storer rfl rfl) ?_
      refine h_nil ?_
      refine q_then ?_
      refine h_seq ?_
      refine h_seq ?_
      refine h_reg ?_
      refine h_op (r_field rfl) ?_
      refine h_op (r_loadc rfl) ?_
      refine h_op (r_bool (r_lss rfl rfl) (decide_eq_true h1)) ?_
      refine h_op (r_move rfl) ?_
      refine h_opOff ?_
      refine h_opOff ?_
      refine h_opOff ?_
      refine h_op (r_pick rfl rfl) ?_
      refine h_nil ?_
      refine q_then ?_
      refine h_condT rfl ?_
      refine h_seq ?_
      refine h_reg ?_
      refine h_op (r_assign rfl) ?_
      refine h_op (r_assign rfl) ?_
      refine h_nil ?_
      refine q_then ?_
      refine h_ret ?_
      refine q_thenR ?_
      refine q_blockR ?_
      refine q_thenR ?_
      refine q_thenR ?_
      refine q_blockR ?_
      refine q_thenR ?_
      exact h_ret2 rfl rfl rfl fun w s => ⟨(), rfl, s.res (List.nil_sublist _) (by simp)⟩
    · by_cases h2 : 3 < x.kind
      · have hpm : parseM l = .error 7 := by
          unfold parseM
          rw [if_neg]
          intro ha
          have := List.all_eq_true.1 ha x (List.mem_of_getElem? hx)
          unfold kindOk at this
          simp at this
          omega
        rw [hpm]
        refine h_skip ?_
        refine q_then ?_
        refine h_seq ?_
        refine h_block ?_
        refine h_seq ?_
        refine h_reg ?_
        refine h_op (r_idx rfl rfl) ?_
        refine h_op (r_nthr rfl (out := x.cells) (Item.cells_length x) hat) ?_
        refine h_opX (x_alloc) fun g6 => ?_
        refine h_opS (s_storer rfl rfl) ?_
        refine h_nil ?_
        refine q_then ?_
        refine h_seq ?_
        refine h_seq ?_
        refine h_reg ?_
        refine h_op (r_field rfl) ?_
        refine h_op (r_loadc rfl) ?_
        refine h_op (r_bool (r_lss rfl rfl) (decide_eq_false h1)) ?_
        refine h_op (r_move rfl) ?_
        refine h_op (r_field rfl) ?_
        refine h_op (r_loadc rfl) ?_
        refine h_op (r_bool (r_gtr rfl rfl) (decide_eq_true h2)) ?_
        refine h_op (r_pick rfl rfl) ?_
        refine h_nil ?_
        refine q_then ?_
        refine h_condT rfl ?_
        refine h_seq ?_
        refine h_reg ?_
        refine h_op (r_assign rfl) ?_
        refine h_op (r_assign rfl) ?_
        refine h_nil ?_
        refine q_then ?_
        refine h_ret ?_
        refine q_thenR ?_
        refine q_blockR ?_
        refine q_thenR ?_
        refine q_thenR ?_
        refine q_blockR ?_
        refine q_thenR ?_
        exact h_ret2 rfl rfl rfl fun w s => ⟨(), rfl, s.res (List.nil_sublist _) (by simp)⟩
      · have hok' : (l.take (k + 1)).all kindOk = true := by rw [hak]; unfold kindOk; simp; omega
        refine h_skip ?_
        refine q_then ?_
        refine h_seq ?_
        refine h_block ?_
        refine h_seq ?_
        refine h_reg ?_
        refine h_op (r_idx rfl rfl) ?_
        refine h_op (r_nthr rfl (out := x.cells) (Item.cells_length x) hat) ?_
        refine h_opX (x_alloc) fun g6 => ?_
        refine h_opS (s_storer rfl rfl) ?_
        refine h_nil ?_
        refine q_then ?_
        refine h_seq ?_
        refine h_seq ?_
        refine h_reg ?_
        refine h_op (r_field rfl) ?_
        refine h_op (r_loadc rfl) ?_
        refine h_op (r_bool (r_lss rfl rfl) (decide_eq_false h1)) ?_
        refine h_op (r_move rfl) ?_
        refine h_op (r_field rfl) ?_
        refine h_op (r_loadc rfl) ?_
        refine h_op (r_bool (r_gtr rfl rfl) (decide_eq_false h2)) ?_
        refine h_op (r_pick rfl rfl) ?_
        refine h_nil ?_
        refine q_then ?_
        refine h_condF rfl ?_
        rcases b with _ | _
        · refine h_skip ?_
          refine q_then ?_
          refine h_reg ?_
          refine h_op (r_move rfl) ?_
          refine h_op (r_move rfl) ?_
          refine h_opOff ?_
          refine h_opOff ?_
          refine h_opOff ?_
          refine h_opOff ?_
          refine h_opOff ?_
          refine h_opOff ?_
          refine h_opOff ?_
          refine h_opOff ?_
          refine h_opOff ?_
          refine h_op (r_pick rfl rfl) ?_
          refine h_op (r_move rfl) ?_
          refine h_opOff ?_
          refine h_opOff ?_
          refine h_opOff ?_
          refine h_opOff ?_
          refine h_opOff ?_
          refine h_opOff ?_
          refine h_opOff ?_
          refine h_opOff ?_
          refine h_opOff ?_
          refine h_op (r_pick rfl rfl) ?_
          refine h_op (r_assign rfl) ?_
          refine h_nil ?_
          refine q_block ?_
          refine q_then ?_
          refine h_reg ?_
          refine h_op (r_add rfl rfl) ?_
          refine h_op (r_move rfl) ?_
          refine h_nil ?_
          exact h_back (k + 1, false) (⟨hk2, hok', by rw [hac]; rfl⟩) ((show l.length - (k + 1) < l.length - k by omega)) ⟨rfl, rfl, rfl, rfl, rfl, trivial⟩ (same)
        · rw [Bool.true_and] at hac
          by_cases h3 : x.kind = 3
          · refine h_skip ?_
            refine q_then ?_
            refine h_reg ?_
            refine h_op (r_move rfl) ?_
            refine h_op (r_move rfl) ?_
            refine h_op (r_field rfl) ?_
            refine h_op (r_loadc rfl) ?_
            refine h_op (r_bool (r_eql rfl rfl) (decide_eq_true h3)) ?_
            refine h_op (r_move rfl) ?_
            refine h_opOff ?_
            refine h_opOff ?_
            refine h_opOff ?_
            refine h_opOff ?_
            refine h_op (r_pick rfl rfl) ?_
            refine h_op (r_pick rfl rfl) ?_
            refine h_op (r_move rfl) ?_
            refine h_op (r_field rfl) ?_
            refine h_op (r_loadc rfl) ?_
            refine h_op (r_bool (r_eql rfl rfl) (decide_eq_false (by omega))) ?_
            refine h_op (r_move rfl) ?_
            refine h_op (r_field rfl) ?_
            refine h_op (r_loadr rfl) ?_
            refine h_op (r_build rfl) ?_
            refine h_op (r_eqr rfl rfl) ?_
            refine h_op (r_pick rfl rfl) ?_
            refine h_op (r_pick rfl rfl) ?_
            refine h_op (r_assign rfl) ?_
            refine h_nil ?_
            refine q_block ?_
            refine q_then ?_
            refine h_reg ?_
            refine h_op (r_add rfl rfl) ?_
            refine h_op (r_move rfl) ?_
            refine h_nil ?_
            exact h_back (k + 1, decide (x.leaf = zLeaf)) (⟨hk2, hok', by rw [hac, clean3 h3]⟩) ((show l.length - (k + 1) < l.length - k by omega)) ⟨rfl, rfl, rfl, rfl, rfl, trivial⟩ (same)
          · by_cases hd : x.digest = zB32
            · by_cases h4 : x.kind = 1
              · refine h_skip ?_
                refine q_then ?_
                refine h_reg ?_
                refine h_op (r_move rfl) ?_
                refine h_op (r_move rfl) ?_
                refine h_op (r_field rfl) ?_
                refine h_op (r_loadc rfl) ?_
                refine h_op (r_bool (r_eql rfl rfl) (decide_eq_false h3)) ?_
                refine h_op (r_move rfl) ?_
                refine h_op (r_field rfl) ?_
                refine h_op (r_loadr rfl) ?_
                refine h_op (r_build rfl) ?_
                refine h_op (r_bool (r_eqr rfl rfl) (decide_eq_true hd)) ?_
                refine h_op (r_pick rfl rfl) ?_
                refine h_op (r_pick rfl rfl) ?_
                refine h_op (r_move rfl) ?_
                refine h_op (r_field rfl) ?_
                refine h_op (r_loadc rfl) ?_
                refine h_op (r_bool (r_eql rfl rfl) (decide_eq_true h4)) ?_
                refine h_op (r_move rfl) ?_
                refine h_opOff ?_
                refine h_opOff ?_
                refine h_opOff ?_
                refine h_opOff ?_
                refine h_op (r_pick rfl rfl) ?_
                refine h_op (r_pick rfl rfl) ?_
                refine h_op (r_assign rfl) ?_
                refine h_nil ?_
                refine q_block ?_
                refine q_then ?_
                refine h_reg ?_
                refine h_op (r_add rfl rfl) ?_
                refine h_op (r_move rfl) ?_
                refine h_nil ?_
                exact h_back (k + 1, true) (⟨hk2, hok', by rw [hac, clean1 h3 hd h4]⟩) ((show l.length - (k + 1) < l.length - k by omega)) ⟨rfl, rfl, rfl, rfl, rfl, trivial⟩ (same)
              · refine h_skip ?_
                refine q_then ?_
                refine h_reg ?_
                refine h_op (r_move rfl) ?_
                refine h_op (r_move rfl) ?_
                refine h_op (r_field rfl) ?_
                refine h_op (r_loadc rfl) ?_
                refine h_op (r_bool (r_eql rfl rfl) (decide_eq_false h3)) ?_
                refine h_op (r_move rfl) ?_
                refine h_op (r_field rfl) ?_
                refine h_op (r_loadr rfl) ?_
                refine h_op (r_build rfl) ?_
                refine h_op (r_bool (r_eqr rfl rfl) (decide_eq_true hd)) ?_
                refine h_op (r_pick rfl rfl) ?_
                refine h_op (r_pick rfl rfl) ?_
                refine h_op (r_move rfl) ?_
                refine h_op (r_field rfl) ?_
                refine h_op (r_loadc rfl) ?_
                refine h_op (r_bool (r_eql rfl rfl) (decide_eq_false h4)) ?_
                refine h_op (r_move rfl) ?_
                refine h_op (r_field rfl) ?_
                refine h_op (r_loadr rfl) ?_
                refine h_op (r_build rfl) ?_
                refine h_op (r_eqr rfl rfl) ?_
                refine h_op (r_pick rfl rfl) ?_
                refine h_op (r_pick rfl rfl) ?_
                refine h_op (r_assign rfl) ?_
                refine h_nil ?_
                refine q_block ?_
                refine q_then ?_
                refine h_reg ?_
                refine h_op (r_add rfl rfl) ?_
                refine h_op (r_move rfl) ?_
                refine h_nil ?_
                exact h_back (k + 1, decide (x.leaf = zLeaf)) (⟨hk2, hok', by rw [hac, clean0 h3 hd h4]⟩) ((show l.length - (k + 1) < l.length - k by omega)) ⟨rfl, rfl, rfl, rfl, rfl, trivial⟩ (same)
            · refine h_skip ?_
              refine q_then ?_
              refine h_reg ?_
              refine h_op (r_move rfl) ?_
              refine h_op (r_move rfl) ?_
              refine h_op (r_field rfl) ?_
              refine h_op (r_loadc rfl) ?_
              refine h_op (r_bool (r_eql rfl rfl) (decide_eq_false h3)) ?_
              refine h_op (r_move rfl) ?_
              refine h_op (r_field rfl) ?_
              refine h_op (r_loadr rfl) ?_
              refine h_op (r_build rfl) ?_
              refine h_op (r_bool (r_eqr rfl rfl) (decide_eq_false hd)) ?_
              refine h_op (r_pick rfl rfl) ?_
              refine h_op (r_pick rfl rfl) ?_
              refine h_op (r_move rfl) ?_
              refine h_opOff ?_
              refine h_opOff ?_
              refine h_opOff ?_
              refine h_opOff ?_
              refine h_opOff ?_
              refine h_opOff ?_
              refine h_opOff ?_
              refine h_opOff ?_
              refine h_opOff ?_
              refine h_op (r_pick rfl rfl) ?_
              refine h_op (r_assign rfl) ?_
              refine h_nil ?_
              refine q_block ?_
              refine q_then ?_
              refine h_reg ?_
              refine h_op (r_add rfl rfl) ?_
              refine h_op (r_move rfl) ?_
              refine h_nil ?_
              exact h_back (k + 1, false) (⟨hk2, hok', by rw [hac, cleanN h3 hd]⟩) ((show l.length - (k + 1) < l.length - k by omega)) ⟨rfl, rfl, rfl, rfl, rfl, trivial⟩ (same)
  · obtain rfl : k = l.length := by omega
    rw [List.take_length] at hok hb
    have hpm : parseM l = match readM 256 l with | some (t, []) => if l.all cleanItem then .ok t else .error 5 | _ => .error 5 := by
      unfold parseM
      rw [if_pos hok]
      rcases readM 256 l with _ | ⟨t, r⟩
      · rfl
      · cases r <;> rfl
    rw [hpm]
    rcases hm : readM 256 l with _ | ⟨t, r⟩
    · rw [hm] at hR
      refine h_exit ?_
      refine q_thenE ?_
      refine q_thenE ?_
      refine q_blockE ?_
      refine q_then ?_
      refine h_seq ?_
      refine h_reg ?_
      refine h_op (r_move rfl) ?_
      refine h_call (hR.comes) rfl rfl rfl fun _ => ?_
      rcases b with _ | _
      · refine h_op (r_move rfl) ?_
        refine h_op (r_extract rfl rfl) ?_
        refine h_op (r_extract rfl rfl) ?_
        refine h_op (r_assign rfl) ?_
        refine h_op (r_assign rfl) ?_
        refine h_nil ?_
        refine q_then ?_
        refine h_seq ?_
        refine h_seq ?_
        refine h_reg ?_
        refine h_op (r_move rfl) ?_
        refine h_op (r_not rfl) ?_
        refine h_op (r_move rfl) ?_
        refine h_opOff ?_
        refine h_opOff ?_
        refine h_op (r_pick rfl rfl) ?_
        refine h_op (r_move rfl) ?_
        refine h_opOff ?_
        refine h_opOff ?_
        refine h_opOff ?_
        refine h_op (r_pick rfl rfl) ?_
        refine h_nil ?_
        refine q_then ?_
        refine h_condT rfl ?_
        refine h_seq ?_
        refine h_reg ?_
        refine h_op (r_assign rfl) ?_
        refine h_op (r_assign rfl) ?_
        refine h_nil ?_
        refine q_then ?_
        refine h_ret ?_
        refine q_thenR ?_
        exact h_ret2 rfl rfl rfl fun w s => ⟨(), rfl, s.res (List.nil_sublist _) (by simp)⟩
      · refine h_op (r_move rfl) ?_
        refine h_op (r_extract rfl rfl) ?_
        refine h_op (r_extract rfl rfl) ?_
        refine h_op (r_assign rfl) ?_
        refine h_op (r_assign rfl) ?_
        refine h_nil ?_
        refine q_then ?_
        refine h_seq ?_
        refine h_seq ?_
        refine h_reg ?_
        refine h_op (r_move rfl) ?_
        refine h_op (r_not rfl) ?_
        refine h_op (r_move rfl) ?_
        refine h_op (r_move rfl) ?_
        refine h_op (r_nilnil rfl) ?_
        refine h_op (r_pick rfl rfl) ?_
        refine h_op (r_move rfl) ?_
        refine h_opOff ?_
        refine h_opOff ?_
        refine h_opOff ?_
        refine h_op (r_pick rfl rfl) ?_
        refine h_nil ?_
        refine q_then ?_
        refine h_condT rfl ?_
        refine h_seq ?_
        refine h_reg ?_
        refine h_op (r_assign rfl) ?_
        refine h_op (r_assign rfl) ?_
        refine h_nil ?_
        refine q_then ?_
        refine h_ret ?_
        refine q_thenR ?_
        exact h_ret2 rfl rfl rfl fun w s => ⟨(), rfl, s.res (List.nil_sublist _) (by simp)⟩
    · rw [hm] at hR
      refine h_exit ?_
      refine q_thenE ?_
      refine q_thenE ?_
      refine q_blockE ?_
      refine q_then ?_
      refine h_seq ?_
      refine h_reg ?_
      refine h_op (r_move rfl) ?_
      refine h_call (hR.comes) rfl rfl rfl fun ⟨⟨A1, c1⟩, hz1, hc1⟩ => ?_
      dsimp only at hz1 hc1 ⊢
      rcases b with _ | _
      · rw [show parseV (match (some (t, r) : Option (Sub × List Item)) with | some (t, []) => if l.all cleanItem then .ok t else .error 5 | _ => .error 5) = parseV (.error 5) by cases r <;> simp [← hb]]
        refine h_op (r_move rfl) ?_
        refine h_op (r_extract rfl rfl) ?_
        refine h_op (r_extract rfl rfl) ?_
        refine h_op (r_assign rfl) ?_
        refine h_op (r_assign rfl) ?_
        refine h_nil ?_
        refine q_then ?_
        refine h_seq ?_
        refine h_seq ?_
        refine h_reg ?_
        refine h_op (r_move rfl) ?_
        refine h_op (r_not rfl) ?_
        refine h_op (r_move rfl) ?_
        refine h_opOff ?_
        refine h_opOff ?_
        refine h_op (r_pick rfl rfl) ?_
        refine h_op (r_move rfl) ?_
        refine h_opOff ?_
        refine h_opOff ?_
        refine h_opOff ?_
        refine h_op (r_pick rfl rfl) ?_
        refine h_nil ?_
        refine q_then ?_
        refine h_condT rfl ?_
        refine h_seq ?_
        refine h_reg ?_
        refine h_op (r_assign rfl) ?_
        refine h_op (r_assign rfl) ?_
        refine h_nil ?_
        refine q_then ?_
        refine h_ret ?_
        refine q_thenR ?_
        exact h_ret2 rfl rfl rfl fun w s => ⟨(), rfl, s.res (List.nil_sublist _) (by simp)⟩
      · rcases r with _ | ⟨y, r⟩
        · rw [show parseV (match (some (t, []) : Option (Sub × List Item)) with | some (t, []) => if l.all cleanItem then .ok t else .error 5 | _ => .error 5) = parseV (.ok t) by simp [← hb]]
          refine h_op (r_move rfl) ?_
          refine h_op (r_extract rfl rfl) ?_
          refine h_op (r_extract rfl rfl) ?_
          refine h_op (r_assign rfl) ?_
          refine h_op (r_assign rfl) ?_
          refine h_nil ?_
          refine q_then ?_
          refine h_seq ?_
          refine h_seq ?_
          refine h_reg ?_
          refine h_op (r_move rfl) ?_
          refine h_op (r_not rfl) ?_
          refine h_op (r_move rfl) ?_
          refine h_op (r_move rfl) ?_
          refine h_op (r_ifnil rfl) ?_
          refine h_op (r_pick rfl rfl) ?_
          refine h_op (r_move rfl) ?_
          refine h_op (r_move rfl) ?_
          refine h_op (r_len rfl) ?_
          refine h_op (r_bool (r_gtr rfl rfl) (show _ = false from rfl)) ?_
          refine h_op (r_pick rfl rfl) ?_
          refine h_nil ?_
          refine q_then ?_
          refine h_condF rfl ?_
          refine h_skip ?_
          refine q_then ?_
          refine h_seq ?_
          refine h_reg ?_
          refine h_op (r_move rfl) ?_
          refine h_op (r_assign rfl) ?_
          refine h_op (r_assign rfl) ?_
          refine h_nil ?_
          refine q_then ?_
          refine h_ret ?_
          exact h_ret2 rfl rfl rfl fun w s => ⟨(), rfl, s.res (List.nil_sublist _) (by simp)⟩
        · refine h_op (r_move rfl) ?_
          refine h_op (r_extract rfl rfl) ?_
          refine h_op (r_extract rfl rfl) ?_
          refine h_op (r_assign rfl) ?_
          refine h_op (r_assign rfl) ?_
          refine h_nil ?_
          refine q_then ?_
          refine h_seq ?_
          refine h_seq ?_
          refine h_reg ?_
          refine h_op (r_move rfl) ?_
          refine h_op (r_not rfl) ?_
          refine h_op (r_move rfl) ?_
          refine h_op (r_move rfl) ?_
          refine h_op (r_ifnil rfl) ?_
          refine h_op (r_pick rfl rfl) ?_
          refine h_op (r_move rfl) ?_
          refine h_op (r_move rfl) ?_
          refine h_op (r_len rfl) ?_
          refine h_op (r_bool (r_gtr rfl rfl) (decide_eq_true (by simp))) ?_
          refine h_op (r_pick rfl rfl) ?_
          refine h_nil ?_
          refine q_then ?_
          refine h_condT rfl ?_
          refine h_seq ?_
          refine h_reg ?_
          refine h_op (r_assign rfl) ?_
          refine h_op (r_assign rfl) ?_
          refine h_nil ?_
          refine q_then ?_
          refine h_ret ?_
          refine q_thenR ?_
          exact h_ret2 rfl rfl rfl fun w s => ⟨(), rfl, s.res (List.nil_sublist _) (by simp)⟩
theorem mCheck_s (l : List Item) (A : Option Addr) (c : Nat) [hr : RdZ h A (its l)] (hc : l.length ≤ c) (hl : l.length ≤ 1000000) : Spec Tryz.prog 100 [.slice A l.length c].toArray [.zone false h] [] (fun _ : Unit => .int .i64 (checkM l)) (fun _ => []) := by
  have hp := parse_s h l A c hc hl
  unfold checkM
  refine spec_of Tryz.func100 rfl (n := 11) rfl rfl ?_
  intro W
  refine h_seq ?_
  refine h_reg ?_
  refine h_op (r_assign rfl) ?_
  refine h_nil ?_
  refine q_then ?_
  refine h_seq ?_
  refine h_reg ?_
  refine h_op (r_move rfl) ?_
  refine h_call (hp.comes) rfl rfl rfl fun _ => ?_
  cases parseM l
  · refine h_op (r_move rfl) ?_
    refine h_op (r_extract rfl rfl) ?_
    refine h_op (r_extract rfl rfl) ?_
    refine h_op (r_assign rfl) ?_
    refine h_op (r_assign rfl) ?_
    refine h_nil ?_
    refine q_then ?_
    refine h_seq ?_
    refine h_reg ?_
    refine h_op (r_move rfl) ?_
    refine h_op (r_assign rfl) ?_
    refine h_nil ?_
    refine q_then ?_
    refine h_ret ?_
    exact h_ret1 rfl rfl fun w s => ⟨(), rfl, s.res (List.nil_sublist _) (by simp)⟩
  · refine h_op (r_move rfl) ?_
    refine h_op (r_extract rfl rfl) ?_
    refine h_op (r_extract rfl rfl) ?_
    refine h_op (r_assign rfl) ?_
    refine h_op (r_assign rfl) ?_
    refine h_nil ?_
    refine q_then ?_
    refine h_seq ?_
    refine h_reg ?_
    refine h_op (r_move rfl) ?_
    refine h_op (r_assign rfl) ?_
    refine h_nil ?_
    refine q_then ?_
    refine h_ret ?_
    exact h_ret1 rfl rfl fun w s => ⟨(), rfl, s.res (List.nil_sublist _) (by simp)⟩
end
end Go.Proofs.YtjhocljhhpkiiaaGreatDoor
/- U64 -/
namespace Go.Proofs.YtjhocljhhpkiiaaGreatDoor
set_option linter.unusedSimpArgs false
set_option linter.unusedVariables false
open Go.RowKit
def preI (x : Item) : List UInt8 := if x.kind = 1 then preL x.leaf else preE
def dgS (n : Nat) : Sub → B32
  | .one x => if x.kind = 3 then x.digest else sumB n (preI x)
  | .two l r => sumB n (preN (dgS n l) (dgS n r))
def Sub.cost : Sub → Nat
  | .one x => if x.kind = 3 then 0 else 1
  | .two l r => l.cost + r.cost + 1
def Sub.dig : Sub → FuncId
  | .one _ => 249
  | .two _ _ => 248
instance iU64_1 : MethT Tryz.prog 235 "sparsetree/multi.digest" 249 := ⟨fun v args w => by kernel_rfl⟩
instance iU64_2 : MethT Tryz.prog 232 "sparsetree/multi.digest" 248 := ⟨fun v args w => by kernel_rfl⟩
instance (t : Sub) : MethT Tryz.prog t.tag "sparsetree/multi.digest" t.dig := by
  cases t
  · exact inferInstanceAs (MethT Tryz.prog 235 _ 249)
  · exact inferInstanceAs (MethT Tryz.prog 232 _ 248)
instance (t : Sub) : Ent Tryz.prog t.dig := by
  cases t
  · exact inferInstanceAs (Ent Tryz.prog 249)
  · exact inferInstanceAs (Ent Tryz.prog 248)
theorem preI_len (x : Item) : (preI x).length ≤ 65 := by
  unfold preI
  split
  · rw [preL_len]; exact Nat.le_refl _
  · decide
theorem epre_s (x : Item) : Spec Tryz.prog 148 [.agg x.cells.toArray].toArray [] [] (fun u : Nat × Nat => .slice (some ⟨u.1, 0, none⟩) (preI x).length u.2) (fun u => [.own (.slice (some ⟨u.1, 0, none⟩) (preI x).length u.2) (preI x).length 5 1 (bc (preI x))]) := by
  refine spec_of Tryz.func148 rfl (n := 12) rfl rfl ?_
  intro W
  by_cases hk : x.kind = 1
  · rw [show preI x = preL x.leaf from if_pos hk]
    refine h_seq ?_
    refine h_reg ?_
    refine h_opX (x_box rfl) fun g1 => ?_
    refine h_op (r_assign rfl) ?_
    refine h_nil ?_
    refine q_then ?_
    refine h_seq ?_
    refine h_seq ?_
    refine h_reg ?_
    refine h_op (r_field rfl) ?_
    refine h_op (r_field rfl) ?_
    refine h_op (r_loadc rfl) ?_
    refine h_op (r_bool (r_eql rfl rfl) (decide_eq_true hk)) ?_
    refine h_nil ?_
    refine q_then ?_
    refine h_condT rfl ?_
    refine h_seq ?_
    refine h_reg ?_
    refine h_op (r_field rfl) ?_
    refine h_op (r_field rfl) ?_
    refine h_op (r_loadr rfl) ?_
    refine h_call ((pLeaf_s x.leaf).comes) rfl rfl rfl fun ⟨g10, c10⟩ => ?_
    refine h_op (r_assign rfl) ?_
    refine h_nil ?_
    refine q_then ?_
    refine h_ret ?_
    refine q_thenR ?_
    exact h_ret1 rfl rfl fun w s => ⟨(g10, c10), rfl, (same w s).res (List.Sublist.refl _) (by simp [Fa.wr])⟩
  · rw [show preI x = preE from if_neg hk, show preE.length = 1 from rfl]
    refine h_seq ?_
    refine h_reg ?_
    refine h_opX (x_box rfl) fun g1 => ?_
    refine h_op (r_assign rfl) ?_
    refine h_nil ?_
    refine q_then ?_
    refine h_seq ?_
    refine h_seq ?_
    refine h_reg ?_
    refine h_op (r_field rfl) ?_
    refine h_op (r_field rfl) ?_
    refine h_op (r_loadc rfl) ?_
    refine h_op (r_bool (r_eql rfl rfl) (decide_eq_false hk)) ?_
    refine h_nil ?_
    refine q_then ?_
    refine h_condF rfl ?_
    refine h_skip ?_
    refine q_then ?_
    refine h_seq ?_
    refine h_reg ?_
    refine h_call ((pEmpty_s).comes) rfl rfl rfl fun ⟨g11, c11⟩ => ?_
    refine h_op (r_assign rfl) ?_
    refine h_nil ?_
    refine q_then ?_
    refine h_ret ?_
    exact h_ret1 rfl rfl fun w s => ⟨(g11, c11), rfl, (same w s).res (List.Sublist.refl _) (by simp [Fa.wr])⟩
section
variable (n : Nat) (hn : n ≤ 256) (gh gc : Nat)
include hn
theorem edig_s (x : Item) (k : Nat) (hk : k ≤ 100000000000) : Spec Tryz.prog 249 [.agg x.cells.toArray, .pointer (some ⟨gh, 0, none⟩)].toArray [HR gh gc n, TBL] [CN gc k] (fun _ : Unit => .agg (dgS n (.one x)).cells.toArray) (fun _ => [CN gc (k + (Sub.one x).cost)]) := by
  have hl := preI_len x
  unfold dgS Sub.cost
  refine spec_of Tryz.func249 rfl (n := 16) rfl rfl ?_
  intro W
  by_cases h3 : x.kind = 3
  · rw [if_pos h3, if_pos h3]
    refine h_seq ?_
    refine h_reg ?_
    refine h_opX (x_box rfl) fun g2 => ?_
    refine h_opX (x_alloc) fun g4 => ?_
    refine h_nil ?_
    refine q_then ?_
    refine h_seq ?_
    refine h_seq ?_
    refine h_reg ?_
    refine h_op (r_field rfl) ?_
    refine h_op (r_field rfl) ?_
    refine h_op (r_loadc rfl) ?_
    refine h_op (r_bool (r_eql rfl rfl) (decide_eq_true h3)) ?_
    refine h_nil ?_
    refine q_then ?_
    refine h_condT rfl ?_
    refine h_seq ?_
    refine h_reg ?_
    refine h_op (r_field rfl) ?_
    refine h_op (r_field rfl) ?_
    refine h_op (r_loadr rfl) ?_
    refine h_opS (s_storer rfl rfl) ?_
    refine h_nil ?_
    refine q_then ?_
    refine h_ret ?_
    refine q_thenR ?_
    exact h_ret1 rfl (rv_row rfl) fun w s => ⟨(), rfl, (same (L' := [CN gc k]) w s).res (List.Sublist.refl _) (by simp [Fa.wr])⟩
  · rw [if_neg h3, if_neg h3]
    refine h_seq ?_
    refine h_reg ?_
    refine h_opX (x_box rfl) fun g2 => ?_
    refine h_opX (x_alloc) fun g4 => ?_
    refine h_nil ?_
    refine q_then ?_
    refine h_seq ?_
    refine h_seq ?_
    refine h_reg ?_
    refine h_op (r_field rfl) ?_
    refine h_op (r_field rfl) ?_
    refine h_op (r_loadc rfl) ?_
    refine h_op (r_bool (r_eql rfl rfl) (decide_eq_false h3)) ?_
    refine h_nil ?_
    refine q_then ?_
    refine h_condF rfl ?_
    refine h_skip ?_
    refine q_then ?_
    refine h_seq ?_
    refine h_reg ?_
    refine h_op (r_move rfl) ?_
    refine h_op (r_loadr rfl) ?_
    refine h_call ((epre_s x).comes) rfl rfl rfl fun ⟨g14, c14⟩ => ?_
    refine h_call ((HSum_s n hn gh gc k (by omega) (preI x) (some ⟨g14, 0, none⟩) c14 (fun h => by cases h) (by omega)).comes) rfl rfl rfl fun _ => ?_
    refine h_opS (s_storer rfl rfl) ?_
    refine h_nil ?_
    refine q_then ?_
    refine h_ret ?_
    exact h_ret1 rfl (rv_row rfl) fun w s => ⟨(), rfl, (same (L' := [CN gc (k + 1)]) w s).res (List.Sublist.refl _) (by simp [Fa.wr])⟩
/-- what a subtree's digest brings -/
def DigS (t : Sub) : Prop := ∀ k, k + t.cost ≤ 100000000000 → Spec Tryz.prog t.dig [t.val, .pointer (some ⟨gh, 0, none⟩)].toArray [HR gh gc n, TBL] [CN gc k] (fun _ : Unit => .agg (dgS n t).cells.toArray) (fun _ => [CN gc (k + t.cost)])
omit hn in
theorem ppre_s (l r : Sub) (hl : DigS n gh gc l) (hr : DigS n gh gc r) (k : Nat) (hk : k + (l.cost + r.cost) ≤ 100000000000) : Spec Tryz.prog 146 [(Sub.two l r).val, .pointer (some ⟨gh, 0, none⟩)].toArray [HR gh gc n, TBL] [CN gc k] (fun u : Nat × Nat => .slice (some ⟨u.1, 0, none⟩) (preN (dgS n l) (dgS n r)).length u.2) (fun u => [.own (.slice (some ⟨u.1, 0, none⟩) (preN (dgS n l) (dgS n r)).length u.2) (preN (dgS n l) (dgS n r)).length 5 1 (bc (preN (dgS n l) (dgS n r))), CN gc (k + l.cost + r.cost)]) := by
  refine spec_of Tryz.func146 rfl (n := 14) rfl rfl ?_
  intro W
  change H _ _ _ _ (argsEnv 0 [.agg [.iface l.tag l.val, .iface r.tag r.val].toArray, .pointer (some ⟨gh, 0, none⟩)]) _ _
  refine h_seq ?_
  refine h_reg ?_
  refine h_opX (x_box rfl) fun g2 => ?_
  refine h_op (r_assign rfl) ?_
  refine h_nil ?_
  refine q_then ?_
  refine h_seq ?_
  refine ha_start [.blk g2 [.iface l.tag l.val, .iface r.tag r.val] 232] [] mixed (same) ?_
  refine ha_takeP 0 rfl (r_idxA rfl rfl) ?_
  refine ha_take 1 rfl (r_loadc rfl) ?_
  refine ha_takeP 2 rfl (r_move rfl) ?_
  refine ha_takeP 4 rfl (r_idxA rfl rfl) ?_
  refine ha_take 5 rfl (r_loadc rfl) ?_
  refine ha_takeP 6 rfl (r_move rfl) ?_
  refine ha_one 3 ?_
  refine ho_CM 3 rfl ((hl k (by omega)).comes) rfl rfl rfl (fun xx => same) fun _ => ?_
  refine ha_one 7 ?_
  refine ho_CM 7 rfl ((hr (k + l.cost) (by omega)).comes) rfl rfl rfl (fun xx => same) fun _ => ?_
  refine ha_one 8 ?_
  refine ho_C 8 rfl ((pNode_s (dgS n l) (dgS n r)).comes) rfl rfl rfl (fun xx => same) fun ⟨g13, c13⟩ => ?_
  refine ha_takeP 9 rfl (r_assign rfl) ?_
  refine ha_done (by kernel_rfl) ?_
  refine q_then ?_
  refine h_ret ?_
  exact h_ret1 rfl rfl fun w s => ⟨(g13, c13), rfl, (same w s).res (List.Sublist.refl _) (by simp [Fa.wr])⟩
theorem dig_s : ∀ t : Sub, DigS n gh gc t
  | .one x => fun k hk => edig_s n hn gh gc x k (by omega)
  | .two l r => fun k hk => by
    have ihl := dig_s l
    have ihr := dig_s r
    have hk' : k + (l.cost + r.cost + 1) ≤ 100000000000 := hk
    show Spec Tryz.prog 248 _ _ _ _ (fun _ => [CN gc (k + (l.cost + r.cost + 1))])
    unfold dgS
    have hP := ppre_s n gh gc l r ihl ihr k (by omega)
    have hpl := preN_len (dgS n l) (dgS n r)
    rw [show k + (l.cost + r.cost + 1) = k + l.cost + r.cost + 1 by omega]
    refine spec_of Tryz.func248 rfl (n := 10) rfl rfl ?_
    intro W
    change H _ _ _ _ (argsEnv 0 [.agg [.iface l.tag l.val, .iface r.tag r.val].toArray, .pointer (some ⟨gh, 0, none⟩)]) _ _
    refine h_seq ?_
    refine h_reg ?_
    refine h_opX (x_box rfl) fun g2 => ?_
    refine h_opX (x_alloc) fun g4 => ?_
    refine h_nil ?_
    refine q_then ?_
    refine h_seq ?_
    refine h_reg ?_
    refine h_op (r_move rfl) ?_
    refine h_op (r_loadr rfl) ?_
    refine h_op (r_move rfl) ?_
    refine h_call (hP.comes) rfl rfl rfl fun ⟨g8, c8⟩ => ?_
    dsimp only
    refine h_call ((HSum_s n hn gh gc (k + l.cost + r.cost) (by omega) (preN (dgS n l) (dgS n r)) (some ⟨g8, 0, none⟩) c8 (fun h => by cases h) (by omega)).comes) rfl rfl rfl fun _ => ?_
    refine h_opS (s_storer rfl rfl) ?_
    refine h_nil ?_
    refine q_then ?_
    refine h_ret ?_
    exact h_ret1 rfl (rv_row rfl) fun w s => ⟨(), rfl, (same (L' := [CN gc (k + l.cost + r.cost + 1)]) w s).res (List.Sublist.refl _) (by simp [Fa.wr])⟩
end
end Go.Proofs.YtjhocljhhpkiiaaGreatDoor
/- U65 -/
namespace Go.Proofs.YtjhocljhhpkiiaaGreatDoor
set_option linter.unusedSimpArgs false
set_option linter.unusedVariables false
open Go.RowKit
end Go.Proofs.YtjhocljhhpkiiaaGreatDoor
/- U66 -/
namespace Go.Proofs.YtjhocljhhpkiiaaGreatDoor
set_option linter.unusedSimpArgs false
set_option linter.unusedVariables false
open Go.RowKit
end Go.Proofs.YtjhocljhhpkiiaaGreatDoor
/- U67 -/
namespace Go.Proofs.YtjhocljhhpkiiaaGreatDoor
set_option linter.unusedSimpArgs false
set_option linter.unusedVariables false
open Go.RowKit
theorem readM_cost : ∀ (d : Nat) (l : List Item) (t : Sub) (r : List Item), readM d l = some (t, r) → t.cost + r.length ≤ l.length
  | d, [], t, r, h => by cases d <;> cases h
  | d, x :: l, t, r, h => by
    by_cases hk : x.kind = 2
    · match d, h with
      | 0, h => unfold readM at h; rw [if_pos hk] at h; cases h
      | d + 1, h =>
        unfold readM at h
        rw [if_pos hk] at h
        obtain ⟨p, hp, h⟩ := Option.bind_eq_some_iff.1 h
        obtain ⟨q, hq, h⟩ := Option.bind_eq_some_iff.1 h
        have h1 := readM_cost d l p.1 p.2 hp
        have h2 := readM_cost d p.2 q.1 q.2 hq
        simp only [Option.some.injEq, Prod.mk.injEq] at h
        rw [← h.1, ← h.2]
        show p.1.cost + q.1.cost + 1 + q.2.length ≤ (x :: l).length
        rw [List.length_cons]
        omega
    · have h' : readM d (x :: l) = some (.one x, l) := by cases d <;> (unfold readM; rw [if_neg hk])
      rw [h'] at h
      simp only [Option.some.injEq, Prod.mk.injEq] at h
      rw [← h.1, ← h.2]
      show (if x.kind = 3 then 0 else 1) + l.length ≤ (x :: l).length
      rw [List.length_cons]
      split <;> omega
theorem parse_ok {l : List Item} {t : Sub} (h : parseM l = .ok t) : readM 256 l = some (t, []) ∧ l.all kindOk = true ∧ l.all cleanItem = true := by
  unfold parseM at h
  by_cases h1 : l.all kindOk = true
  · rw [if_pos h1] at h
    rcases hm : readM 256 l with _ | ⟨t', r⟩
    · rw [hm] at h; cases h
    · rw [hm] at h
      cases r with
      | nil =>
        by_cases h2 : l.all cleanItem = true
        · simp only [h2, if_true] at h
          injection h with h
          exact ⟨by rw [h], h1, h2⟩
        · simp only [h2] at h
          cases h
      | cons y r => cases h
  · rw [if_neg h1] at h
    cases h
section
variable (h : Zh) [hT : RdZ h (some ⟨1, 0, none⟩) hashT]
theorem mRoot_s (n : Nat) (hn : n ≤ 256) (gh gc k : Nat) (hk : k ≤ 1000000000) (l : List Item) (A : Option Addr) (c : Nat) [hr : RdZ h A (its l)] (hc : l.length ≤ c) (hl : l.length ≤ 1000000) (t : Sub) (hp : parseM l = .ok t) : Spec Tryz.prog 156 [.pointer (some ⟨gh, 0, none⟩), .slice A l.length c].toArray [.zone false h, HR gh gc n] [CN gc k] (fun _ : Unit => .tuple #[.agg (dgS n t).cells.toArray, .int .i64 0]) (fun _ => [CN gc (k + t.cost)]) := by
  have hP := parse_s h l A c hc hl
  rw [hp] at hP
  have hco := readM_cost 256 l t [] (parse_ok hp).1
  have hD := dig_s n hn gh gc t k (by simp at hco; omega)
  refine spec_of Tryz.func156 rfl (n := 20) rfl rfl ?_
  intro W
  refine h_seq ?_
  refine h_reg ?_
  refine h_opX (x_alloc) fun g4 => ?_
  refine h_op (r_assign rfl) ?_
  refine h_nil ?_
  refine q_then ?_
  refine h_seq ?_
  refine h_reg ?_
  refine h_op (r_move rfl) ?_
  refine h_call (hP.comes) rfl rfl rfl fun _ => ?_
  refine h_op (r_move rfl) ?_
  refine h_op (r_extract rfl rfl) ?_
  refine h_op (r_extract rfl rfl) ?_
  refine h_op (r_assign rfl) ?_
  refine h_op (r_assign rfl) ?_
  refine h_nil ?_
  refine q_then ?_
  refine h_seq ?_
  refine h_seq ?_
  refine h_reg ?_
  refine h_op (r_move rfl) ?_
  refine h_op (r_neq rfl rfl) ?_
  refine h_nil ?_
  refine q_then ?_
  refine h_no rfl ((fun h => h rfl)) ?_
  refine h_skip ?_
  refine q_then ?_
  refine h_seq ?_
  refine h_reg ?_
  refine h_op (r_move rfl) ?_
  refine h_op (r_move rfl) ?_
  refine h_callM (hD.comes) rfl rfl rfl fun _ => ?_
  refine h_opS (s_storer rfl rfl) ?_
  refine h_op (r_assign rfl) ?_
  refine h_nil ?_
  refine q_then ?_
  refine h_ret ?_
  exact h_ret2 rfl (rv_row rfl) rfl fun w s => ⟨(), rfl, (same (L' := [CN gc (k + t.cost)]) w s).res (List.Sublist.refl _) (by simp [Fa.wr])⟩
end
end Go.Proofs.YtjhocljhhpkiiaaGreatDoor
/- E18 -/
namespace Go.Proofs.YtjhocljhhpkiiaaGreatDoor
set_option linter.unusedSimpArgs false
set_option linter.unusedVariables false
open Go.RowKit
abbrev innerI : Item := ⟨2, zB32, zLeaf⟩
def Sub.flat : Sub → List Item
  | .one x => [x]
  | .two l r => innerI :: (l.flat ++ r.flat)
def Sub.ht : Sub → Nat
  | .one _ => 0
  | .two l r => max l.ht r.ht + 1
def Sub.ok : Sub → Prop
  | .one x => x.kind ≠ 2 ∧ kindOk x = true ∧ cleanItem x = true
  | .two l r => l.ok ∧ r.ok
def Sub.sz : Sub → Nat
  | .one _ => 1
  | .two l r => l.sz + r.sz + 1
theorem read_flat : ∀ (t : Sub) (d : Nat) (rest : List Item), t.ok → t.ht ≤ d → readM d (t.flat ++ rest) = some (t, rest)
  | .one x, d, rest, ho, _ => by
    show readM d (x :: rest) = _
    cases d <;> (unfold readM; rw [if_neg ho.1])
  | .two l r, 0, rest, ho, hd => absurd hd (by simp [Sub.ht])
  | .two l r, d + 1, rest, ho, hd => by
    have hd' : max l.ht r.ht + 1 ≤ d + 1 := hd
    show readM (d + 1) (innerI :: ((l.flat ++ r.flat) ++ rest)) = _
    unfold readM
    rw [if_pos rfl, List.append_assoc, read_flat l d _ ho.1 (by omega)]
    simp only [Option.bind_some]
    rw [read_flat r d _ ho.2 (by omega)]
    rfl
theorem flat_read : ∀ (d : Nat) (l : List Item) (t : Sub) (rest : List Item), readM d l = some (t, rest) → l.all kindOk = true → l.all cleanItem = true → l = t.flat ++ rest ∧ t.ok ∧ t.ht ≤ d ∧ rest.all kindOk = true ∧ rest.all cleanItem = true
  | d, [], t, r, h, _, _ => by cases d <;> cases h
  | d, x :: l, t, r, h, hk, hc => by
    rw [List.all_cons, Bool.and_eq_true] at hk hc
    by_cases hk2 : x.kind = 2
    · match d, h with
      | 0, h => unfold readM at h; rw [if_pos hk2] at h; cases h
      | d + 1, h =>
        unfold readM at h
        rw [if_pos hk2] at h
        obtain ⟨p, hp, h⟩ := Option.bind_eq_some_iff.1 h
        obtain ⟨q, hq, h⟩ := Option.bind_eq_some_iff.1 h
        obtain ⟨a1, a2, a3, a4, a5⟩ := flat_read d l p.1 p.2 hp hk.2 hc.2
        obtain ⟨b1, b2, b3, b4, b5⟩ := flat_read d p.2 q.1 q.2 hq a4 a5
        simp only [Option.some.injEq, Prod.mk.injEq] at h
        rw [← h.1, ← h.2]
        refine ⟨?_, ⟨a2, b2⟩, ?_, b4, b5⟩
        · show x :: l = innerI :: (p.1.flat ++ q.1.flat) ++ q.2
          have hx : x = innerI := by
            have h1 := hc.1
            unfold cleanItem at h1
            simp only [hk2] at h1
            simp at h1
            obtain ⟨k, dg, lf⟩ := x
            simp only at hk2 h1
            rw [hk2, h1.1, h1.2]
          rw [hx, List.cons_append, List.append_assoc, ← b1, ← a1]
        · show max p.1.ht q.1.ht + 1 ≤ d + 1
          omega
    · have h' : readM d (x :: l) = some (.one x, l) := by cases d <;> (unfold readM; rw [if_neg hk2])
      rw [h'] at h
      simp only [Option.some.injEq, Prod.mk.injEq] at h
      rw [← h.1, ← h.2]
      exact ⟨rfl, ⟨hk2, hk.1, hc.1⟩, Nat.zero_le _, hk.2, hc.2⟩
theorem parse_flat {l : List Item} {t : Sub} (h : parseM l = .ok t) : l = t.flat ∧ t.ok ∧ t.ht ≤ 256 := by
  obtain ⟨h1, h2, h3⟩ := parse_ok h
  obtain ⟨a, b, c, _⟩ := flat_read 256 l t [] h1 h2 h3
  exact ⟨by rw [a, List.append_nil], b, c⟩
theorem Sub.flat_all : ∀ t : Sub, t.ok → t.flat.all kindOk = true ∧ t.flat.all cleanItem = true
  | .one x, h => ⟨by show ([x].all kindOk) = true; simp [h.2.1], by show ([x].all cleanItem) = true; simp [h.2.2]⟩
  | .two l r, h => by
    have h1 := l.flat_all h.1
    have h2 := r.flat_all h.2
    constructor
    · show ((innerI :: (l.flat ++ r.flat)).all kindOk) = true
      rw [List.all_cons, List.all_append, h1.1, h2.1]; rfl
    · show ((innerI :: (l.flat ++ r.flat)).all cleanItem) = true
      rw [List.all_cons, List.all_append, h1.2, h2.2]; decide
theorem flat_parse {t : Sub} (h : t.ok) (hh : t.ht ≤ 256) : parseM t.flat = .ok t := by
  have h1 := t.flat_all h
  have h2 := read_flat t 256 [] h hh
  rw [List.append_nil] at h2
  unfold parseM
  rw [if_pos h1.1, h2]
  simp only [h1.2, if_true]
/-! the end of a key's way, its indices -/
def Sub.endI (k : B32) : Sub → Nat → Item × Nat
  | .one x, d => (x, d)
  | .two l r, d => if bitAt k d then r.endI k (d + 1) else l.endI k (d + 1)
def Sub.way (k : B32) : Sub → Nat → Nat → List Nat
  | .one _, _, i => [i]
  | .two l r, d, i => i :: if bitAt k d then r.way k (d + 1) (i + 1 + l.sz) else l.way k (d + 1) (i + 1)
/-! the ends of keys -/
def endsM : Sub → List B32 → Nat → List (Item × Nat) × Bool
  | .one x, ks, d => (ks.map fun _ => (x, d), x.kind != 3 || ks.isEmpty)
  | .two l r, ks, d => if ks.isEmpty then ([], false) else
      if (endsM l (keysB ks d false) (d + 1)).2 then ((endsM l (keysB ks d false) (d + 1)).1 ++ (endsM r (keysB ks d true) (d + 1)).1, (endsM r (keysB ks d true) (d + 1)).2)
      else ((endsM l (keysB ks d false) (d + 1)).1, false)
theorem endsM_len : ∀ (t : Sub) (ks : List B32) (d : Nat), (endsM t ks d).1.length ≤ ks.length
  | .one x, ks, d => by show (ks.map _).length ≤ _; rw [List.length_map]; exact Nat.le_refl _
  | .two l r, ks, d => by
    have h1 := endsM_len l (keysB ks d false) (d + 1)
    have h2 := endsM_len r (keysB ks d true) (d + 1)
    have h3 : (keysB ks d false).length + (keysB ks d true).length = ks.length := by
      unfold keysB
      clear h1 h2
      induction ks with
      | nil => rfl
      | cons e m ih =>
        cases hb : bitAt e d
        · rw [List.filter_cons_of_pos (by simp [hb]), List.filter_cons_of_neg (by simp [hb]), List.length_cons, List.length_cons]; omega
        · rw [List.filter_cons_of_neg (by simp [hb]), List.filter_cons_of_pos (by simp [hb]), List.length_cons, List.length_cons]; omega
    unfold endsM
    split
    · exact Nat.zero_le _
    · split
      · rw [List.length_append]; omega
      · show (endsM l _ _).1.length ≤ _
        omega
theorem keys_cut {ks : List B32} {d : Nat} (ho : ks.Pairwise ltK) (ha : AlikeK ks d) : keysB ks d false ++ keysB ks d true = ks := by
  obtain ⟨m, _, _, h1, h2⟩ := split_at ho ha
  unfold keysB
  rw [← h1, ← h2, List.take_append_drop]
theorem keysB_mem {ks : List B32} {d : Nat} {b : Bool} {k : B32} : k ∈ keysB ks d b ↔ k ∈ ks ∧ bitAt k d = b := by unfold keysB; simp
theorem endsM_map : ∀ (t : Sub) (ks : List B32) (d : Nat), ks.Pairwise ltK → AlikeK ks d → (endsM t ks d).2 = true → (endsM t ks d).1 = ks.map fun k => t.endI k d
  | .one x, ks, d, _, _, _ => rfl
  | .two l r, ks, d, ho, ha, h => by
    unfold endsM at h ⊢
    split at h
    · cases h
    · split at h
      · rename_i h1 h2
        rw [if_neg h1, if_pos h2]
        show (endsM l _ _).1 ++ (endsM r _ _).1 = _
        rw [endsM_map l _ _ (keysB_ord ho _) (keysB_alike ha _) h2, endsM_map r _ _ (keysB_ord ho _) (keysB_alike ha _) h]
        conv => rhs; rw [← keys_cut ho ha, List.map_append]
        congr 1
        · exact List.map_congr_left fun k hk => by rw [Sub.endI, (keysB_mem.1 hk).2]; rfl
        · exact List.map_congr_left fun k hk => by rw [Sub.endI, (keysB_mem.1 hk).2]; rfl
      · cases h
/-! what add appends is the flat list of a subtree -/
def subT (n : Nat) : Tr → List B32 → Nat → Sub
  | .nil, _, _ => .one ⟨0, zB32, zLeaf⟩
  | t, [], _ => .one ⟨3, dgT n t, zLeaf⟩
  | .leaf k v, _, _ => .one ⟨1, zB32, leafOf n k v⟩
  | .node l r, ks, d => .two (subT n l (keysB ks d false) (d + 1)) (subT n r (keysB ks d true) (d + 1))
theorem addT_flat (n : Nat) : ∀ (t : Tr) (ks : List B32) (d : Nat), addT n t ks d = (subT n t ks d).flat
  | .nil, ks, d => by unfold addT subT; rfl
  | .leaf k v, [], d => rfl
  | .leaf k v, _ :: _, d => rfl
  | .node l r, [], d => rfl
  | .node l r, x :: ks, d => by
    unfold addT subT
    rw [addT_flat n l, addT_flat n r]
    rfl
theorem subT_ok (n : Nat) : ∀ (t : Tr) (ks : List B32) (d : Nat), (subT n t ks d).ok
  | .nil, ks, d => by unfold subT; exact ⟨by decide, by decide, by decide⟩
  | .leaf k v, [], d => ⟨by simp, by simp [kindOk], by simp [cleanItem]⟩
  | .leaf k v, _ :: _, d => ⟨by simp, by simp [kindOk], by simp [cleanItem]⟩
  | .node l r, [], d => ⟨by simp, by simp [kindOk], by simp [cleanItem]⟩
  | .node l r, x :: ks, d => ⟨subT_ok n l _ _, subT_ok n r _ _⟩
theorem subT_dg (n : Nat) : ∀ (t : Tr) (ks : List B32) (d : Nat), dgS n (subT n t ks d) = dgT n t
  | .nil, ks, d => by unfold subT; rfl
  | .leaf k v, [], d => rfl
  | .leaf k v, _ :: _, d => rfl
  | .node l r, [], d => rfl
  | .node l r, x :: ks, d => by
    unfold subT dgS
    rw [subT_dg n l, subT_dg n r]
    rfl
end Go.Proofs.YtjhocljhhpkiiaaGreatDoor
