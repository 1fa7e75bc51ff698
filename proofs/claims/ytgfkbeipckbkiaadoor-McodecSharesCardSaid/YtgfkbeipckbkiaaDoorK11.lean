/- Keys compared and checked; key.Split; multi.add; The reference's view of the keys below a prefix; heights, sizes: plain; How long a multiproof is: plain; A proof's siblings, expanded: the program; codec: Size, Kind, Encode of a proof that is well-formed; The bytes of a multiproof: plain; mcodec: payload, Size, Siblings; A shift to the right of a number that is not negative; mcodec.Encode of items that are well-formed; A slice cut at its length and its capacity; mcodec.item, of the bytes of an item that is well-formed (joined texts: U69 U70 U71 E19 E20 U17 U56 E26 U110 N18 U111 N16 U112) -/
import Derived.Test.YtgfkbeipckbkiaaDoorK10
set_option linter.all false
/- U69 -/
namespace Go.Proofs.YtgfkbeipckbkiaaDoor
set_option linter.unusedSimpArgs false
set_option linter.unusedVariables false
open Go.RowKit
instance : TCmp Tryd.prog 101 := ⟨fun args w => run_callFunc_extern Tryd.func101 (by kernel_rfl) (by kernel_rfl) (by kernel_rfl) (by kernel_rfl) args w⟩
theorem compare_eq : ∀ (a b : List UInt8), a.length = b.length → Lib.compareBytes a b = cmpL a b
  | [], [], _ => rfl
  | [], _ :: _, h => by cases h
  | _ :: _, [], h => by cases h
  | x :: a, y :: b, h => by
    unfold Lib.compareBytes cmpL
    rw [compare_eq a b (by simpa using h)]
theorem bCompare_s (a b : List UInt8) (hab : a.length = b.length) (A B : Option Addr) (c c' : Nat) : Spec Tryd.prog 93 [.slice A a.length c, .slice B b.length c'].toArray [.rd A (bc a), .rd B (bc b)] [] (fun _ : Unit => .int .i64 (cmpL a b)) (fun _ => []) := by
  rw [← compare_eq a b hab]
  refine spec_of Tryd.func93 rfl (n := 8) rfl rfl ?_
  intro W
  refine h_seq ?_
  refine h_reg ?_
  refine h_op (r_assign rfl) ?_
  refine h_nil ?_
  refine q_then ?_
  refine h_seq ?_
  refine h_reg ?_
  refine h_op (r_move rfl) ?_
  refine h_op (r_move rfl) ?_
  refine h_op (r_cmp rfl rfl) ?_
  refine h_op (r_assign rfl) ?_
  refine h_nil ?_
  refine q_then ?_
  refine h_ret ?_
  exact h_ret1 rfl rfl fun w s => ⟨(), rfl, s.res (List.nil_sublist _) (by simp)⟩
theorem kCompare_s (a b : B32) : Spec Tryd.prog 75 [.agg a.cells.toArray, .agg b.cells.toArray].toArray [] [] (fun _ : Unit => .int .i64 (cmpB a b)) (fun _ => []) := by
  have ha := a.2
  have hb := b.2
  have hC := fun A B => bCompare_s a.1 b.1 (by omega) A B 32 32
  rw [ha, hb] at hC
  refine spec_of Tryd.func75 rfl (n := 8) rfl rfl ?_
  intro W
  refine h_seq ?_
  refine h_reg ?_
  refine h_opX (x_box rfl) fun g2 => ?_
  refine h_opX (x_box rfl) fun g3 => ?_
  refine h_op (r_assign rfl) ?_
  refine h_nil ?_
  refine q_then ?_
  refine h_seq ?_
  refine ha_start [.blk g2 a.cells 40, .blk g3 b.cells 40] [] mixed (same) ?_
  refine ha_takeP 0 rfl (r_slA rfl) ?_
  refine ha_takeP 1 rfl (r_slA rfl) ?_
  refine ha_one 2 ?_
  refine ho_C 2 rfl ((hC (some ⟨g2, 0, none⟩) (some ⟨g3, 0, none⟩)).comes (hr := inferInstanceAs (Rds _ [.rd (some ⟨g2, 0, none⟩) a.cells, .rd (some ⟨g3, 0, none⟩) b.cells]))) rfl rfl rfl (fun xx => same) fun _ => ?_
  refine ha_takeP 3 rfl (r_assign rfl) ?_
  refine ha_done (by kernel_rfl) ?_
  refine q_then ?_
  refine h_ret ?_
  exact h_ret1 rfl rfl fun w s => ⟨(), rfl, s.res (List.nil_sublist _) (by simp)⟩
/-- what is wrong with the order of keys -/
def chkK : List B32 → Int
  | a :: b :: l => if cmpB a b = 0 then 9 else if 0 < cmpB a b then 8 else chkK (b :: l)
  | _ => 0
def keysE (l : List B32) : Int := if l.length = 0 then 10 else if 65535 < l.length then 11 else chkK l
theorem kCheck_s (l : List B32) (A : Option Addr) (c : Nat) (hl : l.length ≤ 1000000000) : Spec Tryd.prog 54 [.slice A l.length c].toArray [.rd A (dgs l)] [] (fun _ : Unit => .int .i64 (chkK l)) (fun _ => []) := by
  refine spec_of Tryd.func54 rfl (n := 27) rfl rfl ?_
  intro W
  refine h_seq ?_
  refine h_reg ?_
  refine h_op (r_assign rfl) ?_
  refine h_nil ?_
  refine q_then ?_
  refine h_seq ?_
  refine h_seq ?_
  refine h_reg ?_
  refine h_op (r_assign rfl) ?_
  refine h_nil ?_
  refine q_then ?_
  refine h_block ?_
  refine h_loop (fun (k : Nat) => 1 ≤ k ∧ (k = 1 ∨ k ≤ l.length) ∧ chkK l = chkK (l.drop (k - 1))) (fun (k : Nat) => [(3, .int .i64 (k : Int)), (0, .slice A l.length c)]) (fun (k : Nat) => [.rd A (dgs l)]) (fun (k : Nat) => l.length - k) 1 (⟨Nat.le_refl _, .inl rfl, rfl⟩) ⟨rfl, rfl, trivial⟩ (same) ?_
  rintro k ⟨hk1, hk2, he⟩
  refine h_seq ?_
  refine h_seq ?_
  refine h_reg ?_
  refine h_op (r_move rfl) ?_
  refine h_op (r_move rfl) ?_
  refine h_op (r_len rfl) ?_
  refine h_op (r_lss rfl rfl) ?_
  refine h_nil ?_
  refine q_then ?_
  refine h_cond rfl (fun hlt => ?_) (fun hlt => ?_)
  · obtain ⟨j, rfl⟩ : ∃ j, k = j + 1 := ⟨k - 1, by omega⟩
    have hj : j + 1 < l.length := by omega
    have hd : l.drop j = l.getD j zB32 :: l.drop (j + 1) := by rw [List.drop_eq_getElem_cons (by omega), List.getD_eq_getElem?_getD, List.getElem?_eq_getElem (by omega)]; rfl
    have hd2 : l.drop (j + 1) = l.getD (j + 1) zB32 :: l.drop (j + 1 + 1) := by rw [List.drop_eq_getElem_cons hj, List.getD_eq_getElem?_getD, List.getElem?_eq_getElem hj]; rfl
    rw [Nat.add_sub_cancel, hd, hd2, chkK, ← hd2] at he
    refine h_pure (φ := ∃ b o, A = some ⟨b, o, none⟩) (fun w s => Rd.some (s.ok (.rd A (dgs l)) (by simp)) (by rw [dgs_len]; omega)) ?_
    rintro ⟨b, o, rfl⟩
    have h1 := dgs_at (l := l) (k := j) (by omega)
    have h2 := dgs_at (l := l) (k := j + 1) hj
    refine h_skip ?_
    refine q_then ?_
    refine h_seq ?_
    refine h_block ?_
    refine h_seq ?_
    refine ha_start [.rd (some ⟨b, o, none⟩) (dgs l)] [] mixed (same) ?_
    refine ha_takeP 0 rfl (r_move rfl) ?_
    refine ha_takeP 1 rfl (r_move rfl) ?_
    refine ha_takeP 2 rfl (r_subN rfl rfl (m := j) (hm := by omega)) ?_
    refine ha_takeP 3 rfl (r_idx rfl rfl) ?_
    refine ha_take 4 rfl (r_nthr rfl (out := (l.getD j zB32).cells) (B32.cells_length _) h1) ?_
    refine ha_takeP 5 rfl (r_move rfl) ?_
    refine ha_takeP 6 rfl (r_move rfl) ?_
    refine ha_takeP 7 rfl (r_idx rfl rfl) ?_
    refine ha_take 8 rfl (r_nthr rfl (out := (l.getD (j + 1) zB32).cells) (B32.cells_length _) h2) ?_
    refine ha_one 9 ?_
    refine ho_C 9 rfl ((kCompare_s (l.getD j zB32) (l.getD (j + 1) zB32)).comes) rfl rfl rfl (fun xx => same) fun _ => ?_
    refine ha_takeP 10 rfl (r_assign rfl) ?_
    refine ha_done (by kernel_rfl) ?_
    refine q_then ?_
    refine h_block ?_
    refine h_seq ?_
    refine h_reg ?_
    refine h_op (r_move rfl) ?_
    refine h_op (r_eql rfl rfl) ?_
    refine h_op (r_assign rfl) ?_
    refine h_nil ?_
    refine q_then ?_
    refine h_cond rfl (fun h3 => ?_) (fun h3 => ?_)
    · rw [if_pos h3] at he
      rw [he]
      refine h_seq ?_
      refine h_reg ?_
      refine h_op (r_assign rfl) ?_
      refine h_nil ?_
      refine q_then ?_
      refine h_ret ?_
      refine q_blockR ?_
      refine q_blockR ?_
      refine q_thenR ?_
      refine q_thenR ?_
      refine q_blockR ?_
      refine q_thenR ?_
      exact h_ret1 rfl rfl fun w s => ⟨(), rfl, s.res (List.nil_sublist _) (by simp)⟩
    · rw [if_neg h3] at he
      refine h_seq ?_
      refine h_reg ?_
      refine h_op (r_move rfl) ?_
      refine h_op (r_gtr rfl rfl) ?_
      refine h_op (r_assign rfl) ?_
      refine h_nil ?_
      refine q_then ?_
      refine h_cond rfl (fun h4 => ?_) (fun h4 => ?_)
      · rw [if_pos h4] at he
        rw [he]
        refine h_seq ?_
        refine h_reg ?_
        refine h_op (r_assign rfl) ?_
        refine h_nil ?_
        refine q_then ?_
        refine h_ret ?_
        refine q_blockR ?_
        refine q_blockR ?_
        refine q_thenR ?_
        refine q_thenR ?_
        refine q_blockR ?_
        refine q_thenR ?_
        exact h_ret1 rfl rfl fun w s => ⟨(), rfl, s.res (List.nil_sublist _) (by simp)⟩
      · rw [if_neg h4] at he
        refine h_skip ?_
        refine q_block ?_
        refine q_block ?_
        refine q_then ?_
        refine h_reg ?_
        refine h_op (r_move rfl) ?_
        refine h_op (r_add rfl rfl) ?_
        refine h_op (r_assign rfl) ?_
        refine h_nil ?_
        exact h_back (j + 1 + 1) (⟨by omega, .inr (by omega), he⟩) (by omega) ⟨rfl, rfl, trivial⟩ (same)
  · have h0 : chkK l = 0 := by
      rw [he]
      have hlen : (l.drop (k - 1)).length ≤ 1 := by rw [List.length_drop]; omega
      match l.drop (k - 1), hlen with
      | [], _ => rfl
      | [_], _ => rfl
      | _ :: _ :: _, h => simp at h
    rw [h0]
    refine h_exit ?_
    refine q_thenE ?_
    refine q_thenE ?_
    refine q_blockE ?_
    refine q_then ?_
    refine h_seq ?_
    refine h_reg ?_
    refine h_op (r_assign rfl) ?_
    refine h_nil ?_
    refine q_then ?_
    refine h_ret ?_
    exact h_ret1 rfl rfl fun w s => ⟨(), rfl, s.res (List.nil_sublist _) (by simp)⟩
theorem rkCheck_s (l : List B32) (A : Option Addr) (c : Nat) (hl : l.length ≤ 1000000000) : Spec Tryd.prog 29 [.slice A l.length c].toArray [.rd A (dgs l)] [] (fun _ : Unit => .int .i64 (chkK l)) (fun _ => []) := by
  refine spec_of Tryd.func29 rfl (n := 25) rfl rfl ?_
  intro W
  refine h_seq ?_
  refine h_reg ?_
  refine h_op (r_assign rfl) ?_
  refine h_nil ?_
  refine q_then ?_
  refine h_seq ?_
  refine h_seq ?_
  refine h_reg ?_
  refine h_op (r_assign rfl) ?_
  refine h_nil ?_
  refine q_then ?_
  refine h_block ?_
  refine h_loop (fun (k : Nat) => 1 ≤ k ∧ (k = 1 ∨ k ≤ l.length) ∧ chkK l = chkK (l.drop (k - 1))) (fun (k : Nat) => [(3, .int .i64 (k : Int)), (0, .slice A l.length c)]) (fun (k : Nat) => [.rd A (dgs l)]) (fun (k : Nat) => l.length - k) 1 (⟨Nat.le_refl _, .inl rfl, rfl⟩) ⟨rfl, rfl, trivial⟩ (same) ?_
  rintro k ⟨hk1, hk2, he⟩
  refine h_seq ?_
  refine h_seq ?_
  refine h_reg ?_
  refine h_op (r_move rfl) ?_
  refine h_op (r_move rfl) ?_
  refine h_op (r_len rfl) ?_
  refine h_op (r_lss rfl rfl) ?_
  refine h_nil ?_
  refine q_then ?_
  refine h_cond rfl (fun hlt => ?_) (fun hlt => ?_)
  · obtain ⟨j, rfl⟩ : ∃ j, k = j + 1 := ⟨k - 1, by omega⟩
    have hj : j + 1 < l.length := by omega
    have hd : l.drop j = l.getD j zB32 :: l.drop (j + 1) := by rw [List.drop_eq_getElem_cons (by omega), List.getD_eq_getElem?_getD, List.getElem?_eq_getElem (by omega)]; rfl
    have hd2 : l.drop (j + 1) = l.getD (j + 1) zB32 :: l.drop (j + 1 + 1) := by rw [List.drop_eq_getElem_cons hj, List.getD_eq_getElem?_getD, List.getElem?_eq_getElem hj]; rfl
    rw [Nat.add_sub_cancel, hd, hd2, chkK, ← hd2] at he
    refine h_pure (φ := ∃ b o, A = some ⟨b, o, none⟩) (fun w s => Rd.some (s.ok (.rd A (dgs l)) (by simp)) (by rw [dgs_len]; omega)) ?_
    rintro ⟨b, o, rfl⟩
    have h1 := dgs_at (l := l) (k := j) (by omega)
    have h2 := dgs_at (l := l) (k := j + 1) hj
    refine h_skip ?_
    refine q_then ?_
    refine h_seq ?_
    refine h_block ?_
    refine h_seq ?_
    refine ha_start [.rd (some ⟨b, o, none⟩) (dgs l)] [] mixed (same) ?_
    refine ha_takeP 0 rfl (r_move rfl) ?_
    refine ha_takeP 1 rfl (r_move rfl) ?_
    refine ha_takeP 2 rfl (r_subN rfl rfl (m := j) (hm := by omega)) ?_
    refine ha_takeP 3 rfl (r_idx rfl rfl) ?_
    refine ha_take 4 rfl (r_nthr rfl (out := (l.getD j zB32).cells) (B32.cells_length _) h1) ?_
    refine ha_takeP 5 rfl (r_move rfl) ?_
    refine ha_takeP 6 rfl (r_move rfl) ?_
    refine ha_takeP 7 rfl (r_idx rfl rfl) ?_
    refine ha_take 8 rfl (r_nthr rfl (out := (l.getD (j + 1) zB32).cells) (B32.cells_length _) h2) ?_
    refine ha_one 9 ?_
    refine ho_C 9 rfl ((Compare_s (l.getD j zB32) (l.getD (j + 1) zB32)).comes) rfl rfl rfl (fun xx => same) fun _ => ?_
    refine ha_takeP 10 rfl (r_assign rfl) ?_
    refine ha_done (by kernel_rfl) ?_
    refine q_then ?_
    refine h_seq ?_
    refine h_seq ?_
    refine h_reg ?_
    refine h_op (r_move rfl) ?_
    refine h_op (r_eql rfl rfl) ?_
    refine h_nil ?_
    refine q_then ?_
    refine h_cond rfl (fun h3 => ?_) (fun h3 => ?_)
    · rw [if_pos h3] at he
      rw [he]
      refine h_seq ?_
      refine h_reg ?_
      refine h_op (r_assign rfl) ?_
      refine h_nil ?_
      refine q_then ?_
      refine h_ret ?_
      refine q_thenR ?_
      refine q_blockR ?_
      refine q_thenR ?_
      refine q_thenR ?_
      refine q_blockR ?_
      refine q_thenR ?_
      exact h_ret1 rfl rfl fun w s => ⟨(), rfl, s.res (List.nil_sublist _) (by simp)⟩
    · rw [if_neg h3] at he
      refine h_skip ?_
      refine q_then ?_
      refine h_seq ?_
      refine h_reg ?_
      refine h_op (r_move rfl) ?_
      refine h_op (r_gtr rfl rfl) ?_
      refine h_nil ?_
      refine q_then ?_
      refine h_cond rfl (fun h4 => ?_) (fun h4 => ?_)
      · rw [if_pos h4] at he
        rw [he]
        refine h_seq ?_
        refine h_reg ?_
        refine h_op (r_assign rfl) ?_
        refine h_nil ?_
        refine q_then ?_
        refine h_ret ?_
        refine q_blockR ?_
        refine q_thenR ?_
        refine q_thenR ?_
        refine q_blockR ?_
        refine q_thenR ?_
        exact h_ret1 rfl rfl fun w s => ⟨(), rfl, s.res (List.nil_sublist _) (by simp)⟩
      · rw [if_neg h4] at he
        refine h_skip ?_
        refine q_block ?_
        refine q_then ?_
        refine h_reg ?_
        refine h_op (r_move rfl) ?_
        refine h_op (r_add rfl rfl) ?_
        refine h_op (r_assign rfl) ?_
        refine h_nil ?_
        exact h_back (j + 1 + 1) (⟨by omega, .inr (by omega), he⟩) (by omega) ⟨rfl, rfl, trivial⟩ (same)
  · have h0 : chkK l = 0 := by
      rw [he]
      have hlen : (l.drop (k - 1)).length ≤ 1 := by rw [List.length_drop]; omega
      match l.drop (k - 1), hlen with
      | [], _ => rfl
      | [_], _ => rfl
      | _ :: _ :: _, h => simp at h
    rw [h0]
    refine h_exit ?_
    refine q_thenE ?_
    refine q_thenE ?_
    refine q_blockE ?_
    refine q_then ?_
    refine h_seq ?_
    refine h_reg ?_
    refine h_op (r_assign rfl) ?_
    refine h_nil ?_
    refine q_then ?_
    refine h_ret ?_
    exact h_ret1 rfl rfl fun w s => ⟨(), rfl, s.res (List.nil_sublist _) (by simp)⟩
theorem mKeys_s (l : List B32) (A : Option Addr) (c : Nat) (hl : l.length ≤ 9223372036854775807) : Spec Tryd.prog 34 [.slice A l.length c].toArray [.rd A (dgs l)] [] (fun _ : Unit => .int .i64 (keysE l)) (fun _ => []) := by
  unfold keysE
  refine spec_of Tryd.func34 rfl (n := 13) rfl rfl ?_
  intro W
  by_cases h0 : l.length = 0
  · rw [if_pos h0]
    refine h_seq ?_
    refine h_reg ?_
    refine h_op (r_assign rfl) ?_
    refine h_nil ?_
    refine q_then ?_
    refine h_seq ?_
    refine h_block ?_
    refine h_seq ?_
    refine h_reg ?_
    refine h_op (r_move rfl) ?_
    refine h_op (r_len rfl) ?_
    refine h_op (r_bool (r_eql rfl rfl) (decide_eq_true (by omega))) ?_
    refine h_op (r_assign rfl) ?_
    refine h_nil ?_
    refine q_then ?_
    refine h_condT rfl ?_
    refine h_seq ?_
    refine h_reg ?_
    refine h_op (r_assign rfl) ?_
    refine h_nil ?_
    refine q_then ?_
    refine h_ret ?_
    refine q_blockR ?_
    refine q_thenR ?_
    exact h_ret1 rfl rfl fun w s => ⟨(), rfl, s.res (List.nil_sublist _) (by simp)⟩
  · rw [if_neg h0]
    refine h_seq ?_
    refine h_reg ?_
    refine h_op (r_assign rfl) ?_
    refine h_nil ?_
    refine q_then ?_
    refine h_seq ?_
    refine h_block ?_
    refine h_seq ?_
    refine h_reg ?_
    refine h_op (r_move rfl) ?_
    refine h_op (r_len rfl) ?_
    refine h_op (r_bool (r_eql rfl rfl) (decide_eq_false (by omega))) ?_
    refine h_op (r_assign rfl) ?_
    refine h_nil ?_
    refine q_then ?_
    refine h_condF rfl ?_
    by_cases h1 : 65535 < l.length
    · rw [if_pos h1]
      refine h_seq ?_
      refine h_reg ?_
      refine h_op (r_move rfl) ?_
      refine h_op (r_len rfl) ?_
      refine h_op (r_bool (r_gtr rfl rfl) (decide_eq_true (by omega))) ?_
      refine h_op (r_assign rfl) ?_
      refine h_nil ?_
      refine q_then ?_
      refine h_condT rfl ?_
      refine h_seq ?_
      refine h_reg ?_
      refine h_op (r_assign rfl) ?_
      refine h_nil ?_
      refine q_then ?_
      refine h_ret ?_
      refine q_blockR ?_
      refine q_thenR ?_
      exact h_ret1 rfl rfl fun w s => ⟨(), rfl, s.res (List.nil_sublist _) (by simp)⟩
    · rw [if_neg h1]
      refine h_seq ?_
      refine h_reg ?_
      refine h_op (r_move rfl) ?_
      refine h_op (r_len rfl) ?_
      refine h_op (r_bool (r_gtr rfl rfl) (decide_eq_false (by omega))) ?_
      refine h_op (r_assign rfl) ?_
      refine h_nil ?_
      refine q_then ?_
      refine h_condF rfl ?_
      refine h_skip ?_
      refine q_block ?_
      refine q_then ?_
      refine h_seq ?_
      refine h_reg ?_
      refine h_op (r_move rfl) ?_
      refine h_call ((kCheck_s l A c (by omega)).comes) rfl rfl rfl fun _ => ?_
      refine h_op (r_assign rfl) ?_
      refine h_nil ?_
      refine q_then ?_
      refine h_ret ?_
      exact h_ret1 rfl rfl fun w s => ⟨(), rfl, s.res (List.nil_sublist _) (by simp)⟩
theorem rKeys_s (l : List B32) (A : Option Addr) (c : Nat) (hl : l.length ≤ 9223372036854775807) : Spec Tryd.prog 9 [.slice A l.length c].toArray [.rd A (dgs l)] [] (fun _ : Unit => .int .i64 (keysE l)) (fun _ => []) := by
  unfold keysE
  refine spec_of Tryd.func9 rfl (n := 11) rfl rfl ?_
  intro W
  by_cases h0 : l.length = 0
  · rw [if_pos h0]
    refine h_seq ?_
    refine h_reg ?_
    refine h_op (r_assign rfl) ?_
    refine h_nil ?_
    refine q_then ?_
    refine h_seq ?_
    refine h_seq ?_
    refine h_reg ?_
    refine h_op (r_move rfl) ?_
    refine h_op (r_len rfl) ?_
    refine h_op (r_bool (r_eql rfl rfl) (decide_eq_true (by omega))) ?_
    refine h_nil ?_
    refine q_then ?_
    refine h_condT rfl ?_
    refine h_seq ?_
    refine h_reg ?_
    refine h_op (r_assign rfl) ?_
    refine h_nil ?_
    refine q_then ?_
    refine h_ret ?_
    refine q_thenR ?_
    exact h_ret1 rfl rfl fun w s => ⟨(), rfl, s.res (List.nil_sublist _) (by simp)⟩
  · rw [if_neg h0]
    refine h_seq ?_
    refine h_reg ?_
    refine h_op (r_assign rfl) ?_
    refine h_nil ?_
    refine q_then ?_
    refine h_seq ?_
    refine h_seq ?_
    refine h_reg ?_
    refine h_op (r_move rfl) ?_
    refine h_op (r_len rfl) ?_
    refine h_op (r_bool (r_eql rfl rfl) (decide_eq_false (by omega))) ?_
    refine h_nil ?_
    refine q_then ?_
    refine h_condF rfl ?_
    by_cases h1 : 65535 < l.length
    · rw [if_pos h1]
      refine h_skip ?_
      refine q_then ?_
      refine h_seq ?_
      refine h_seq ?_
      refine h_reg ?_
      refine h_op (r_move rfl) ?_
      refine h_op (r_len rfl) ?_
      refine h_op (r_bool (r_gtr rfl rfl) (decide_eq_true (by omega))) ?_
      refine h_nil ?_
      refine q_then ?_
      refine h_condT rfl ?_
      refine h_seq ?_
      refine h_reg ?_
      refine h_op (r_assign rfl) ?_
      refine h_nil ?_
      refine q_then ?_
      refine h_ret ?_
      refine q_thenR ?_
      exact h_ret1 rfl rfl fun w s => ⟨(), rfl, s.res (List.nil_sublist _) (by simp)⟩
    · rw [if_neg h1]
      refine h_skip ?_
      refine q_then ?_
      refine h_seq ?_
      refine h_seq ?_
      refine h_reg ?_
      refine h_op (r_move rfl) ?_
      refine h_op (r_len rfl) ?_
      refine h_op (r_bool (r_gtr rfl rfl) (decide_eq_false (by omega))) ?_
      refine h_nil ?_
      refine q_then ?_
      refine h_condF rfl ?_
      refine h_skip ?_
      refine q_then ?_
      refine h_seq ?_
      refine h_reg ?_
      refine h_op (r_move rfl) ?_
      refine h_call ((rkCheck_s l A c (by omega)).comes) rfl rfl rfl fun _ => ?_
      refine h_op (r_assign rfl) ?_
      refine h_nil ?_
      refine q_then ?_
      refine h_ret ?_
      exact h_ret1 rfl rfl fun w s => ⟨(), rfl, s.res (List.nil_sublist _) (by simp)⟩
end Go.Proofs.YtgfkbeipckbkiaaDoor
/- U70 -/
namespace Go.Proofs.YtgfkbeipckbkiaaDoor
set_option linter.unusedSimpArgs false
set_option linter.unusedVariables false
open Go.RowKit
theorem splitF_s (l : List B32) (A : Option Addr) (c i j g2 g3 : Nat) (hj : j < l.length) (hi : i < 256) : Spec Tryd.prog 80 [.int .i64 (j : Int), .pointer (some ⟨g2, 0, none⟩), .pointer (some ⟨g3, 0, none⟩)].toArray [.rd (some ⟨g2, 0, none⟩) [.slice A l.length c], .rd (some ⟨g3, 0, none⟩) [.int .i64 (i : Int)], .rd A (dgs l)] [] (fun _ : Unit => .bool (bitAt (l.getD j zB32) i)) (fun _ => []) := by
  have h1 := dgs_at hj
  refine spec_of Tryd.func80 rfl (n := 12) rfl rfl ?_
  intro W
  refine h_pure (φ := ∃ b o, A = some ⟨b, o, none⟩) (fun w s => Rd.some (s.ok (.rd A (dgs l)) (by simp)) (by rw [dgs_len]; omega)) ?_
  rintro ⟨b, o, rfl⟩
  refine h_seq ?_
  refine h_reg ?_
  refine h_op (r_assign rfl) ?_
  refine h_nil ?_
  refine q_then ?_
  refine h_seq ?_
  refine ha_start [.rd (some ⟨g2, 0, none⟩) [.slice (some ⟨b, o, none⟩) l.length c], .rd (some ⟨g3, 0, none⟩) [.int .i64 (i : Int)], .rd (some ⟨b, o, none⟩) (dgs l)] [] mixed (same) ?_
  refine ha_take 0 rfl (r_loadc rfl) ?_
  refine ha_takeP 1 rfl (r_move rfl) ?_
  refine ha_takeP 2 rfl (r_idx rfl rfl) ?_
  refine ha_take 3 rfl (r_nthr rfl (out := (l.getD j zB32).cells) (B32.cells_length _) h1) ?_
  refine ha_take 4 rfl (r_loadc rfl) ?_
  refine ha_one 5 ?_
  refine ho_C 5 rfl ((Bit_s (l.getD j zB32) i hi).comes) rfl rfl rfl (fun xx => same) fun _ => ?_
  refine ha_takeP 6 rfl (r_bool (r_eql rfl rfl) (bitN_one (l.getD j zB32) i)) ?_
  refine ha_takeP 7 rfl (r_assign rfl) ?_
  refine ha_done (by kernel_rfl) ?_
  refine q_then ?_
  refine h_ret ?_
  exact h_ret1 rfl rfl fun w s => ⟨(), rfl, s.res (List.nil_sublist _) (by simp)⟩
theorem half (a : Nat) (h : a < 18446744073709551616) : (((BitVec.ofNat 64 a) >>> 1).toNat : Int) = ((a / 2 : Nat) : Int) := by
  rw [BitVec.toNat_ushiftRight, BitVec.toNat_ofNat, Nat.mod_eq_of_lt (by omega), Nat.shiftRight_eq_div_pow]
theorem Search_s (l : List B32) (A : Option Addr) (c i g2 g3 m : Nat) (hi : i < 256) (hl : l.length ≤ 1000000) (hm : m ≤ l.length) (hp : ∀ j, j < l.length → bitAt (l.getD j zB32) i = decide (m ≤ j)) : Spec Tryd.prog 79 [.int .i64 (l.length : Int), .func (.func 80) #[] [.pointer (some ⟨g2, 0, none⟩), .pointer (some ⟨g3, 0, none⟩)].toArray].toArray [.rd (some ⟨g2, 0, none⟩) [.slice A l.length c], .rd (some ⟨g3, 0, none⟩) [.int .i64 (i : Int)], .rd A (dgs l)] [] (fun _ : Unit => .int .i64 (m : Int)) (fun _ => []) := by
  refine spec_of Tryd.func79 rfl (n := 26) rfl rfl ?_
  intro W
  refine h_seq ?_
  refine h_reg ?_
  refine h_op (r_assign rfl) ?_
  refine h_nil ?_
  refine q_then ?_
  refine h_seq ?_
  refine h_reg ?_
  refine h_op (r_move rfl) ?_
  refine h_op (r_assign rfl) ?_
  refine h_op (r_assign rfl) ?_
  refine h_nil ?_
  refine q_then ?_
  refine h_seq ?_
  refine h_block ?_
  refine h_loop (fun (s : Nat × Nat) => s.1 ≤ m ∧ m ≤ s.2 ∧ s.2 ≤ l.length) (fun (s : Nat × Nat) => [(5, .int .i64 (s.1 : Int)), (6, .int .i64 (s.2 : Int)), (1, .func (.func 80) #[] [.pointer (some ⟨g2, 0, none⟩), .pointer (some ⟨g3, 0, none⟩)].toArray)]) (fun (s : Nat × Nat) => [.rd (some ⟨g2, 0, none⟩) [.slice A l.length c], .rd (some ⟨g3, 0, none⟩) [.int .i64 (i : Int)], .rd A (dgs l)]) (fun (s : Nat × Nat) => s.2 - s.1) (0, l.length) (⟨Nat.zero_le _, hm, Nat.le_refl _⟩) ⟨rfl, rfl, rfl, trivial⟩ (same) ?_
  rintro ⟨a, b⟩ ⟨h1, h2, h3⟩
  dsimp only at h1 h2 h3 ⊢
  refine h_seq ?_
  refine h_seq ?_
  refine h_reg ?_
  refine h_op (r_move rfl) ?_
  refine h_op (r_move rfl) ?_
  refine h_op (r_lss rfl rfl) ?_
  refine h_nil ?_
  refine q_then ?_
  refine h_cond rfl (fun hlt => ?_) (fun hlt => ?_)
  · have hh : (a + b) / 2 < l.length := by omega
    have hb := splitF_s l A c i ((a + b) / 2) g2 g3 hh hi
    rw [hp _ hh] at hb
    refine h_skip ?_
    refine q_then ?_
    refine h_block ?_
    refine h_seq ?_
    refine h_reg ?_
    refine h_op (r_move rfl) ?_
    refine h_op (r_move rfl) ?_
    refine h_op (r_int (r_add rfl rfl) (show _ = ((a + b : Nat) : Int) by omega)) ?_
    refine h_op (r_cNW rfl) ?_
    refine h_op (r_int (r_shr rfl rfl) (half (a + b) (by omega))) ?_
    refine h_op (r_cN rfl (IntWalk.i64_in _ (by omega))) ?_
    refine h_op (r_assign rfl) ?_
    refine h_nil ?_
    refine q_then ?_
    refine h_seq ?_
    refine h_reg ?_
    refine h_op (r_move rfl) ?_
    refine h_op (r_move rfl) ?_
    by_cases hc : m ≤ (a + b) / 2
    · rw [decide_eq_true hc] at hb
      refine h_call (hb.comes) rfl rfl rfl fun _ => ?_
      refine h_op (r_not rfl) ?_
      refine h_nil ?_
      refine q_then ?_
      refine h_condF rfl ?_
      refine h_reg ?_
      refine h_op (r_move rfl) ?_
      refine h_op (r_assign rfl) ?_
      refine h_nil ?_
      refine q_block ?_
      exact h_back (a, (a + b) / 2) (⟨h1, hc, by dsimp only; omega⟩) ((show (a + b) / 2 - a < b - a by omega)) ⟨rfl, rfl, rfl, trivial⟩ (same)
    · rw [decide_eq_false hc] at hb
      refine h_call (hb.comes) rfl rfl rfl fun _ => ?_
      refine h_op (r_not rfl) ?_
      refine h_nil ?_
      refine q_then ?_
      refine h_condT rfl ?_
      refine h_reg ?_
      refine h_op (r_move rfl) ?_
      refine h_op (r_add rfl rfl) ?_
      refine h_op (r_assign rfl) ?_
      refine h_nil ?_
      refine q_block ?_
      exact h_back ((a + b) / 2 + 1, b) (⟨by dsimp only; omega, h2, h3⟩) ((show b - ((a + b) / 2 + 1) < b - a by omega)) ⟨aI rfl (by omega), rfl, rfl, trivial⟩ (same)
  · obtain rfl : a = m := by omega
    refine h_exit ?_
    refine q_thenE ?_
    refine q_thenE ?_
    refine q_blockE ?_
    refine q_then ?_
    refine h_seq ?_
    refine h_reg ?_
    refine h_op (r_move rfl) ?_
    refine h_op (r_assign rfl) ?_
    refine h_nil ?_
    refine q_then ?_
    refine h_ret ?_
    exact h_ret1 rfl rfl fun w s => ⟨(), rfl, s.res (List.nil_sublist _) (by simp)⟩
theorem Split_s (l : List B32) (A : Option Addr) (c i m : Nat) (hi : i < 256) (hl : l.length ≤ 1000000) (hm : m ≤ l.length) (hp : ∀ j, j < l.length → bitAt (l.getD j zB32) i = decide (m ≤ j)) : Spec Tryd.prog 58 [.slice A l.length c, .int .i64 (i : Int)].toArray [.rd A (dgs l)] [] (fun _ : Unit => .int .i64 (m : Int)) (fun _ => []) := by
  refine spec_of Tryd.func58 rfl (n := 9) rfl rfl ?_
  intro W
  refine h_seq ?_
  refine h_reg ?_
  refine h_opX (x_box1 rfl) fun g2 => ?_
  refine h_opX (x_box1 rfl) fun g3 => ?_
  refine h_op (r_assign rfl) ?_
  refine h_nil ?_
  refine q_then ?_
  refine h_seq ?_
  refine h_reg ?_
  refine h_op (r_loadc rfl) ?_
  refine h_op (r_len rfl) ?_
  refine h_op (r_func rfl rfl) ?_
  refine h_call ((Search_s l A c i g2 g3 m hi hl hm hp).comes) rfl rfl rfl fun _ => ?_
  refine h_op (r_assign rfl) ?_
  refine h_nil ?_
  refine q_then ?_
  refine h_ret ?_
  exact h_ret1 rfl rfl fun w s => ⟨(), rfl, s.res (List.nil_sublist _) (by simp)⟩
end Go.Proofs.YtgfkbeipckbkiaaDoor
/- U71 -/
namespace Go.Proofs.YtgfkbeipckbkiaaDoor
set_option linter.unusedSimpArgs false
set_option linter.unusedVariables false
open Go.RowKit
def Tr.ht : Tr → Nat
  | .node l r => max l.ht r.ht + 1
  | _ => 0
def Tr.sz : Tr → Nat
  | .node l r => l.sz + r.sz + 1
  | _ => 1
theorem addT_len (n : Nat) : ∀ (t : Tr) (ks : List B32) (d : Nat), (addT n t ks d).length ≤ t.sz
  | .nil, ks, d => by unfold addT; exact Nat.le_refl _
  | .leaf k v, ks, d => by cases ks <;> (unfold addT; exact Nat.le_refl _)
  | .node l r, [], d => by unfold addT; show 1 ≤ l.sz + r.sz + 1; omega
  | .node l r, x :: ks, d => by
    unfold addT
    have h1 := addT_len n l (keysB (x :: ks) d false) (d + 1)
    have h2 := addT_len n r (keysB (x :: ks) d true) (d + 1)
    show ((addT n l _ _ ++ addT n r _ _).length + 1) ≤ l.sz + r.sz + 1
    rw [List.length_append]
    omega
theorem its_app (l m : List Item) : its l ++ its m = its (l ++ m) := by unfold its; rw [List.flatMap_append]
theorem dgs_takeZ {h : Zh} {A : Option Addr} {ks : List B32} (hr : RdZ h A (dgs ks)) (m : Nat) : RdZ h A (dgs (ks.take m)) := by
  have e : dgs ks = dgs (ks.take m) ++ dgs (ks.drop m) := by rw [← dgs_append, List.take_append_drop]
  refine ⟨fun j v hv => hr.at_ j v ?_⟩
  rw [e, List.getElem?_append_left (List.getElem?_eq_some_iff.1 hv).1]
  exact hv
theorem dgs_dropZ {h : Zh} {A : Option Addr} {ks : List B32} {c m : Nat} (hr : RdZ h A (dgs ks)) (hm : m ≤ ks.length) (hc : ks.length ≤ c) : RdZ h (cutA A c m 32) (dgs (ks.drop m)) := by
  have e : dgs ks = dgs (ks.take m) ++ dgs (ks.drop m) := by rw [← dgs_append, List.take_append_drop]
  have hl : (dgs (ks.take m)).length = m * 32 := by rw [dgs_len, List.length_take, Nat.min_eq_left hm]
  unfold cutA
  split
  · have : ks.drop m = [] := List.drop_of_length_le (by omega)
    rw [this]
    exact RdZ.nil _ _
  · refine ⟨fun j v hv => ?_⟩
    have h1 := hr.at_ (m * 32 + j) v (by rw [e, List.getElem?_append_right (by omega), hl, Nat.add_sub_cancel_left]; exact hv)
    obtain ⟨b, o, rfl, h2⟩ := h1
    exact ⟨b, o + m * 32, by simp [Addr.add_mid], by rw [Nat.add_assoc]; exact h2⟩
end Go.Proofs.YtgfkbeipckbkiaaDoor
/- E19 -/
namespace Go.Proofs.YtgfkbeipckbkiaaDoor
set_option linter.unusedSimpArgs false
set_option linter.unusedVariables false
open Go.RowKit
theorem common_iff {a b : B32} {d : Nat} (hd : d ≤ 256) : d ≤ common a b ↔ ∀ i, i < d → bitAt a i = bitAt b i := by
  unfold common
  cases h : (List.range 256).find? (fun i => bitAt a i ^^ bitAt b i) with
  | none =>
    rw [List.find?_eq_none] at h
    exact ⟨fun _ i hi => by have := h i (List.mem_range.2 (by omega)); simpa using this, fun _ => hd⟩
  | some k =>
    rw [List.find?_range_eq_some] at h
    obtain ⟨h1, h2, h3⟩ := h
    simp only [Option.getD_some]
    refine ⟨fun hk i hi => by simpa using h3 i (by omega), fun hall => ?_⟩
    rcases Nat.lt_or_ge k d with h4 | h4
    · have := hall k h4
      simp [this] at h1
    · exact h4
/-- the keys with the first bits of a prefix -/
def keysP (ks : List B32) (p : B32) (d : Nat) : List B32 := ks.filter fun k => decide (d ≤ common k p)
theorem keysP_zero (ks : List B32) (p : B32) : keysP ks p 0 = ks := by unfold keysP; simp
theorem keysP_left {ks : List B32} {p : B32} {d : Nat} (hd : d < 256) (hb : bitAt p d = false) : keysB (keysP ks p d) d false = keysP ks p (d + 1) := by
  unfold keysB keysP
  rw [List.filter_filter]
  apply List.filter_congr
  intro k _
  rw [Bool.eq_iff_iff]
  simp only [Bool.and_eq_true, beq_iff_eq, decide_eq_true_eq]
  rw [common_iff (by omega), common_iff (by omega)]
  constructor
  · rintro ⟨h1, h2⟩ i hi
    rcases Nat.lt_or_ge i d with h3 | h3
    · exact h2 i h3
    · obtain rfl : i = d := by omega
      rw [h1, hb]
  · intro h
    exact ⟨by rw [h d (by omega), hb], fun i hi => h i (by omega)⟩
theorem keysP_right {ks : List B32} {p : B32} {d : Nat} (hd : d < 256) (hb : bitAt p d = false) : keysB (keysP ks p d) d true = keysP ks (flipAt p d) (d + 1) := by
  unfold keysB keysP
  rw [List.filter_filter]
  apply List.filter_congr
  intro k _
  rw [Bool.eq_iff_iff]
  simp only [Bool.and_eq_true, beq_iff_eq, decide_eq_true_eq]
  rw [common_iff (by omega), common_iff (by omega)]
  have hf : ∀ i, i < 256 → bitAt (flipAt p d) i = if i = d then true else bitAt p i := fun i hi => by rw [flipAt_bit p d i hd hi, hb]; rfl
  constructor
  · rintro ⟨h1, h2⟩ i hi
    rw [hf i (by omega)]
    rcases Nat.lt_or_ge i d with h3 | h3
    · rw [if_neg (by omega)]; exact h2 i h3
    · obtain rfl : i = d := by omega
      rw [if_pos rfl, h1]
  · intro h
    refine ⟨by rw [h d (by omega), hf d hd, if_pos rfl], fun i hi => ?_⟩
    rw [h i (by omega), hf i (by omega), if_neg (by omega)]
theorem ltK_of {a b : B32} (h : cmpB a b < 0) : ltK a b := cmpB_bits h
theorem chk_ord : ∀ {l : List B32}, chkK l = 0 → l.Pairwise ltK
  | [], _ => .nil
  | [a], _ => List.pairwise_singleton ..
  | a :: b :: l, h => by
    unfold chkK at h
    split at h
    · cases h
    · split at h
      · cases h
      · have ih := chk_ord h
        have hab : ltK a b := ltK_of (by omega)
        refine List.pairwise_cons.2 ⟨fun x hx => ?_, ih⟩
        rcases List.mem_cons.1 hx with rfl | hx
        · exact hab
        · exact ltK_trans hab ((List.pairwise_cons.1 ih).1 x hx)
theorem keysE_ok {l : List B32} (h : keysE l = 0) : l.length ≠ 0 ∧ l.length ≤ 65535 ∧ l.Pairwise ltK := by
  unfold keysE at h
  split at h
  · cases h
  · split at h
    · cases h
    · exact ⟨by assumption, by omega, chk_ord h⟩
theorem mkT_ht {m : List En} {d : Nat} (hd : d ≤ 256) (ha : Alike m d) : d + (mkT m d).ht ≤ 256 :=
  parts_ind (p := fun m d => d ≤ 256 → d + (mkT m d).ht ≤ 256) (fun d hd => by rw [mkT_nil]; exact hd) (fun e d h _ => by rw [mkT_one e h]; exact h)
    (fun m d _ hm hd i1 i2 _ => by rw [mkT_two hm (by omega)]; show d + (max _ _ + 1) ≤ _; have := i1 (by omega); have := i2 (by omega); omega) 256 m d (by omega) hd ha hd
theorem mkT_sz {m : List En} {d : Nat} (hd : d ≤ 256) (ha : Alike m d) : (mkT m d).sz ≤ 1 + 2 * (m.length * (256 - d)) :=
  parts_ind (p := fun m d => (mkT m d).sz ≤ 1 + 2 * (m.length * (256 - d))) (fun d => by rw [mkT_nil]; show 1 ≤ _; omega) (fun e d h => by rw [mkT_one e h]; show 1 ≤ _; omega)
    (fun m d _ hm hd i1 i2 => by
      rw [mkT_two hm (by omega)]
      show _ + _ + 1 ≤ _
      have e := part_len m d
      have e2 : m.length * (256 - d) = (part m d false).length * (256 - (d + 1)) + (part m d true).length * (256 - (d + 1)) + m.length := by
        rw [← Nat.add_mul, e, show 256 - d = 256 - (d + 1) + 1 by omega, Nat.mul_succ]
      omega) 256 m d (by omega) hd ha
theorem subT_ht (n : Nat) : ∀ (t : Tr) (ks : List B32) (d : Nat), (subT n t ks d).ht ≤ t.ht
  | .nil, ks, d => by unfold subT; exact Nat.le_refl _
  | .leaf k v, [], d => Nat.le_refl _
  | .leaf k v, _ :: _, d => Nat.le_refl _
  | .node l r, [], d => Nat.zero_le _
  | .node l r, x :: ks, d => by
    have h1 := subT_ht n l (keysB (x :: ks) d false) (d + 1)
    have h2 := subT_ht n r (keysB (x :: ks) d true) (d + 1)
    unfold subT
    show max _ _ + 1 ≤ max l.ht r.ht + 1
    omega
/-- what add appends is a multiproof -/
theorem addT_parse (n : Nat) {m : List En} (ha : Alike m 0) (ks : List B32) : parseM (addT n (mkT m 0) ks 0) = .ok (subT n (mkT m 0) ks 0) := by
  rw [addT_flat]
  have := mkT_ht (by omega) ha
  have := subT_ht n (mkT m 0) ks 0
  exact flat_parse (subT_ok ..) (by omega)
end Go.Proofs.YtgfkbeipckbkiaaDoor
/- E20 -/
namespace Go.Proofs.YtgfkbeipckbkiaaDoor
set_option linter.unusedSimpArgs false
set_option linter.unusedVariables false
open Go.RowKit
theorem keysB_len (ks : List B32) (d : Nat) : (keysB ks d false).length + (keysB ks d true).length = ks.length := by
  unfold keysB
  induction ks with
  | nil => rfl
  | cons e m ih =>
    cases hb : bitAt e d
    · rw [List.filter_cons_of_pos (by simp [hb]), List.filter_cons_of_neg (by simp [hb]), List.length_cons, List.length_cons]; omega
    · rw [List.filter_cons_of_neg (by simp [hb]), List.filter_cons_of_pos (by simp [hb]), List.length_cons, List.length_cons]; omega
/-- how many items have a kind -/
def cntI (k : Int) (l : List Item) : Nat := l.countP fun x => x.kind == k
theorem addT_leaves (n : Nat) : ∀ (t : Tr) (ks : List B32) (d : Nat), cntI 1 (addT n t ks d) ≤ t.cnt ∧ cntI 1 (addT n t ks d) ≤ ks.length
  | .nil, ks, d => by unfold addT; exact ⟨Nat.le_refl _, Nat.zero_le _⟩
  | .leaf k v, [], d => ⟨Nat.zero_le _, Nat.le_refl _⟩
  | .leaf k v, x :: ks, d => ⟨Nat.le_refl _, by show 1 ≤ ks.length + 1; omega⟩
  | .node l r, [], d => ⟨Nat.zero_le _, Nat.le_refl _⟩
  | .node l r, x :: ks, d => by
    have h1 := addT_leaves n l (keysB (x :: ks) d false) (d + 1)
    have h2 := addT_leaves n r (keysB (x :: ks) d true) (d + 1)
    have h3 := keysB_len (x :: ks) d
    have h4 : cntI 1 (addT n (.node l r) (x :: ks) d) = cntI 1 (addT n l (keysB (x :: ks) d false) (d + 1)) + cntI 1 (addT n r (keysB (x :: ks) d true) (d + 1)) := by
      conv => lhs; unfold addT
      unfold cntI
      rw [List.countP_cons_of_neg (by decide), List.countP_append]
    rw [h4]
    show _ ≤ l.cnt + r.cnt ∧ _
    omega
end Go.Proofs.YtgfkbeipckbkiaaDoor
/- U17 -/
namespace Go.Proofs.YtgfkbeipckbkiaaDoor
set_option linter.unusedSimpArgs false
set_option linter.unusedVariables false
open Go.RowKit
end Go.Proofs.YtgfkbeipckbkiaaDoor
/- U56 -/
namespace Go.Proofs.YtgfkbeipckbkiaaDoor
set_option linter.unusedSimpArgs false
set_option linter.unusedVariables false
open Go.RowKit
def u8n (k : Nat) : UInt8 := UInt8.ofNat k
end Go.Proofs.YtgfkbeipckbkiaaDoor
/- E26 -/
namespace Go.Proofs.YtgfkbeipckbkiaaDoor
set_option linter.unusedSimpArgs false
set_option linter.unusedVariables false
open Go.RowKit
/-- how many bytes an item has after its kind -/
def payN (k : Int) : Nat := if k = 1 then 64 else if k = 3 then 32 else 0
def itB (x : Item) : List UInt8 := u8n x.kind.toNat :: (if x.kind = 1 then x.leaf.key.1 ++ x.leaf.value.1 else if x.kind = 3 then x.digest.1 else [])
theorem itB_len (x : Item) : (itB x).length = 1 + payN x.kind := by
  unfold itB payN
  have h1 := x.leaf.key.2
  have h2 := x.leaf.value.2
  have h3 := x.digest.2
  split
  · simp [h1, h2]
  · split <;> simp [h3]
def itsB (l : List Item) : List UInt8 := l.flatMap itB
def lenI (l : List Item) : Nat := (l.map fun x => 1 + payN x.kind).sum
theorem itsB_len : ∀ l : List Item, (itsB l).length = lenI l
  | [] => rfl
  | x :: l => by
    have ih := itsB_len l
    unfold itsB lenI at ih ⊢
    rw [List.flatMap_cons, List.length_append, itB_len, ih, List.map_cons, List.sum_cons]
theorem itsB_snoc {l : List Item} {k : Nat} {x : Item} (h : l[k]? = some x) : itsB (l.take (k + 1)) = itsB (l.take k) ++ itB x := by
  unfold itsB
  rw [List.take_add_one, h, List.flatMap_append]
  simp
theorem lenI_snoc {l : List Item} {k : Nat} {x : Item} (h : l[k]? = some x) : lenI (l.take (k + 1)) = lenI (l.take k) + (1 + payN x.kind) := by
  rw [← itsB_len, ← itsB_len, itsB_snoc h, List.length_append, itB_len]
theorem payN_le (k : Int) : payN k ≤ 64 := by unfold payN; split <;> (try split) <;> omega
theorem lenI_le : ∀ l : List Item, lenI l ≤ 65 * l.length
  | [] => Nat.le_refl _
  | x :: l => by
    have ih := lenI_le l
    have h := payN_le x.kind
    unfold lenI at ih ⊢
    rw [List.map_cons, List.sum_cons, List.length_cons]
    omega
/-- by kinds -/
theorem lenI_cnt : ∀ l : List Item, lenI l = l.length + 64 * cntI 1 l + 32 * cntI 3 l
  | [] => rfl
  | x :: l => by
    have ih := lenI_cnt l
    unfold lenI cntI at ih ⊢
    rw [List.map_cons, List.sum_cons, ih, List.length_cons, List.countP_cons, List.countP_cons]
    unfold payN
    by_cases h1 : x.kind = 1
    · simp [h1]; omega
    · by_cases h3 : x.kind = 3
      · simp [h3]; omega
      · simp [h1, h3]; omega
theorem cntI_snoc {k : Int} {l : List Item} {j : Nat} {x : Item} (h : l[j]? = some x) : cntI k (l.take (j + 1)) = cntI k (l.take j) + (if x.kind = k then 1 else 0) := by
  unfold cntI
  rw [List.take_add_one, h, List.countP_append]
  by_cases hk : x.kind = k <;> simp [hk]
/-- the bytes ahead of the items -/
def headM (n : Nat) : List UInt8 := [1, 2, u8n (n / 2 ^ 24), u8n (n / 2 ^ 16), u8n (n / 2 ^ 8), u8n (n / 2 ^ 0)]
def encM (l : List Item) : List UInt8 := headM l.length ++ itsB l
theorem encM_len (l : List Item) : (encM l).length = 6 + lenI l := by
  unfold encM
  rw [List.length_append, itsB_len]
  rfl
theorem cntI_le (k : Int) (l : List Item) : cntI k l ≤ l.length := List.countP_le_length
end Go.Proofs.YtgfkbeipckbkiaaDoor
/- U110 -/
namespace Go.Proofs.YtgfkbeipckbkiaaDoor
set_option linter.unusedSimpArgs false
set_option linter.unusedVariables false
open Go.RowKit
theorem payload_s (k : Int) : Spec Tryd.prog 52 [.int .i64 k].toArray [] [] (fun _ : Unit => .int .i64 ((payN k : Nat) : Int)) (fun _ => []) := by
  unfold payN
  refine spec_of Tryd.func52 rfl (n := 14) rfl rfl ?_
  intro W
  by_cases h1 : k = 1
  · rw [if_pos h1]
    refine h_seq ?_
    refine h_reg ?_
    refine h_op (r_assign rfl) ?_
    refine h_nil ?_
    refine q_then ?_
    refine h_seq ?_
    refine h_reg ?_
    refine h_op (r_assign rfl) ?_
    refine h_nil ?_
    refine q_then ?_
    refine h_seq ?_
    refine h_seq ?_
    refine h_reg ?_
    refine h_op (r_move rfl) ?_
    refine h_nil ?_
    refine q_then ?_
    refine h_block ?_
    refine h_seq ?_
    refine h_block ?_
    refine h_seq ?_
    refine h_block ?_
    refine h_seq ?_
    refine h_seq ?_
    refine h_seq ?_
    refine h_reg ?_
    refine h_op (r_eql rfl rfl) ?_
    refine h_op (r_assign rfl) ?_
    refine h_nil ?_
    refine q_then ?_
    refine h_yes rfl (h1) ?_
    refine h_exit ?_
    refine q_thenE ?_
    refine q_thenE ?_
    refine q_blockE ?_
    refine q_then ?_
    refine h_reg ?_
    refine h_op (r_move rfl) ?_
    refine h_op (r_add rfl rfl) ?_
    refine h_op (r_assign rfl) ?_
    refine h_nil ?_
    refine q_block ?_
    refine q_then ?_
    refine h_seq ?_
    refine h_reg ?_
    refine h_op (r_move rfl) ?_
    refine h_op (r_add rfl rfl) ?_
    refine h_op (r_assign rfl) ?_
    refine h_nil ?_
    refine q_then ?_
    refine h_exit ?_
    refine q_blockE ?_
    refine q_then ?_
    refine h_seq ?_
    refine h_reg ?_
    refine h_op (r_move rfl) ?_
    refine h_op (r_assign rfl) ?_
    refine h_nil ?_
    refine q_then ?_
    refine h_ret ?_
    exact h_ret1 rfl rfl fun w s => ⟨(), rfl, s.res (List.nil_sublist _) (by simp)⟩
  · rw [if_neg h1]
    by_cases h3 : k = 3
    · rw [if_pos h3]
      refine h_seq ?_
      refine h_reg ?_
      refine h_op (r_assign rfl) ?_
      refine h_nil ?_
      refine q_then ?_
      refine h_seq ?_
      refine h_reg ?_
      refine h_op (r_assign rfl) ?_
      refine h_nil ?_
      refine q_then ?_
      refine h_seq ?_
      refine h_seq ?_
      refine h_reg ?_
      refine h_op (r_move rfl) ?_
      refine h_nil ?_
      refine q_then ?_
      refine h_block ?_
      refine h_seq ?_
      refine h_block ?_
      refine h_seq ?_
      refine h_block ?_
      refine h_seq ?_
      refine h_seq ?_
      refine h_seq ?_
      refine h_reg ?_
      refine h_op (r_eql rfl rfl) ?_
      refine h_op (r_assign rfl) ?_
      refine h_nil ?_
      refine q_then ?_
      refine h_no rfl (h1) ?_
      refine h_skip ?_
      refine q_then ?_
      refine h_seq ?_
      refine h_reg ?_
      refine h_op (r_eql rfl rfl) ?_
      refine h_op (r_assign rfl) ?_
      refine h_nil ?_
      refine q_then ?_
      refine h_yes rfl (h3) ?_
      refine h_exit ?_
      refine q_thenE ?_
      refine q_blockN (by decide) ?_
      refine q_thenE ?_
      refine q_blockE ?_
      refine q_then ?_
      refine h_seq ?_
      refine h_reg ?_
      refine h_op (r_move rfl) ?_
      refine h_op (r_add rfl rfl) ?_
      refine h_op (r_assign rfl) ?_
      refine h_nil ?_
      refine q_then ?_
      refine h_exit ?_
      refine q_blockE ?_
      refine q_then ?_
      refine h_seq ?_
      refine h_reg ?_
      refine h_op (r_move rfl) ?_
      refine h_op (r_assign rfl) ?_
      refine h_nil ?_
      refine q_then ?_
      refine h_ret ?_
      exact h_ret1 rfl rfl fun w s => ⟨(), rfl, s.res (List.nil_sublist _) (by simp)⟩
    · rw [if_neg h3]
      refine h_seq ?_
      refine h_reg ?_
      refine h_op (r_assign rfl) ?_
      refine h_nil ?_
      refine q_then ?_
      refine h_seq ?_
      refine h_reg ?_
      refine h_op (r_assign rfl) ?_
      refine h_nil ?_
      refine q_then ?_
      refine h_seq ?_
      refine h_seq ?_
      refine h_reg ?_
      refine h_op (r_move rfl) ?_
      refine h_nil ?_
      refine q_then ?_
      refine h_block ?_
      refine h_seq ?_
      refine h_block ?_
      refine h_seq ?_
      refine h_block ?_
      refine h_seq ?_
      refine h_seq ?_
      refine h_seq ?_
      refine h_reg ?_
      refine h_op (r_eql rfl rfl) ?_
      refine h_op (r_assign rfl) ?_
      refine h_nil ?_
      refine q_then ?_
      refine h_no rfl (h1) ?_
      refine h_skip ?_
      refine q_then ?_
      refine h_seq ?_
      refine h_reg ?_
      refine h_op (r_eql rfl rfl) ?_
      refine h_op (r_assign rfl) ?_
      refine h_nil ?_
      refine q_then ?_
      refine h_no rfl (h3) ?_
      refine h_skip ?_
      refine q_then ?_
      refine h_exit ?_
      refine q_blockN (by decide) ?_
      refine q_thenE ?_
      refine q_blockN (by decide) ?_
      refine q_thenE ?_
      refine q_blockE ?_
      refine q_then ?_
      refine h_seq ?_
      refine h_reg ?_
      refine h_op (r_move rfl) ?_
      refine h_op (r_assign rfl) ?_
      refine h_nil ?_
      refine q_then ?_
      refine h_ret ?_
      exact h_ret1 rfl rfl fun w s => ⟨(), rfl, s.res (List.nil_sublist _) (by simp)⟩
theorem mSiblings_s (l : List Item) (A : Option Addr) (c : Nat) (hl : l.length ≤ 1000000) : Spec Tryd.prog 14 [.slice A l.length c].toArray [.rd A (its l)] [] (fun _ : Unit => .int .i64 ((cntI 3 l : Nat) : Int)) (fun _ => []) := by
  refine spec_of Tryd.func14 rfl (n := 19) rfl rfl ?_
  intro W
  refine h_seq ?_
  refine h_reg ?_
  refine h_op (r_assign rfl) ?_
  refine h_nil ?_
  refine q_then ?_
  refine h_seq ?_
  refine h_reg ?_
  refine h_op (r_assign rfl) ?_
  refine h_nil ?_
  refine q_then ?_
  refine h_seq ?_
  refine h_seq ?_
  refine h_reg ?_
  refine h_op (r_move rfl) ?_
  refine h_op (r_len rfl) ?_
  refine h_op (r_move rfl) ?_
  refine h_nil ?_
  refine q_then ?_
  refine h_block ?_
  refine h_loop (fun (k : Nat) => k ≤ l.length) (fun (k : Nat) => [(8, .int .i64 (k : Int)), (7, .int .i64 (l.length : Int)), (6, .slice A l.length c), (3, .int .i64 ((cntI 3 (l.take k) : Nat) : Int))]) (fun (k : Nat) => [.rd A (its l)]) (fun (k : Nat) => l.length - k) 0 (Nat.zero_le _) ⟨rfl, rfl, rfl, rfl, trivial⟩ (same) ?_
  rintro k hk
  refine h_seq ?_
  refine h_reg ?_
  refine h_op (r_lss rfl rfl) ?_
  refine h_nil ?_
  refine q_then ?_
  refine h_seq ?_
  refine h_cond rfl (fun hlt => ?_) (fun hlt => ?_)
  · have hk2 : k < l.length := by omega
    obtain ⟨x, hx⟩ : ∃ x, l[k]? = some x := ⟨_, List.getElem?_eq_getElem hk2⟩
    have hat := its_at hx
    have hcn := cntI_snoc (k := 3) hx
    have hle := cntI_le 3 (l.take k)
    have htk : (l.take k).length ≤ l.length := by rw [List.length_take]; omega
    refine h_pure (φ := ∃ b o, A = some ⟨b, o, none⟩) (fun w s => Rd.some (s.ok (.rd A (its l)) (by simp)) (by rw [its_len]; omega)) ?_
    rintro ⟨b, o, rfl⟩
    by_cases h3 : x.kind = 3
    · rw [if_pos h3] at hcn
      refine h_skip ?_
      refine q_then ?_
      refine h_seq ?_
      refine h_block ?_
      refine h_seq ?_
      refine h_reg ?_
      refine h_op (r_idx rfl rfl) ?_
      refine h_op (r_nthr rfl (out := x.cells) (Item.cells_length x) hat) ?_
      refine h_opX (x_alloc) fun g5 => ?_
      refine h_opS (s_storer rfl rfl) ?_
      refine h_nil ?_
      refine q_then ?_
      refine h_seq ?_
      refine h_reg ?_
      refine h_op (r_field rfl) ?_
      refine h_op (r_loadc rfl) ?_
      refine h_op (r_bool (r_eql rfl rfl) (decide_eq_true h3)) ?_
      refine h_nil ?_
      refine q_then ?_
      refine h_condT rfl ?_
      refine h_reg ?_
      refine h_op (r_move rfl) ?_
      refine h_op (r_add rfl rfl) ?_
      refine h_op (r_assign rfl) ?_
      refine h_nil ?_
      refine q_block ?_
      refine q_then ?_
      refine h_reg ?_
      refine h_op (r_add rfl rfl) ?_
      refine h_op (r_move rfl) ?_
      refine h_nil ?_
      exact h_back (k + 1) (hk2) (by omega) ⟨rfl, rfl, rfl, by rw [hcn]; rfl, trivial⟩ (same)
    · rw [if_neg h3] at hcn
      refine h_skip ?_
      refine q_then ?_
      refine h_seq ?_
      refine h_block ?_
      refine h_seq ?_
      refine h_reg ?_
      refine h_op (r_idx rfl rfl) ?_
      refine h_op (r_nthr rfl (out := x.cells) (Item.cells_length x) hat) ?_
      refine h_opX (x_alloc) fun g5 => ?_
      refine h_opS (s_storer rfl rfl) ?_
      refine h_nil ?_
      refine q_then ?_
      refine h_seq ?_
      refine h_reg ?_
      refine h_op (r_field rfl) ?_
      refine h_op (r_loadc rfl) ?_
      refine h_op (r_bool (r_eql rfl rfl) (decide_eq_false h3)) ?_
      refine h_nil ?_
      refine q_then ?_
      refine h_condF rfl ?_
      refine h_skip ?_
      refine q_block ?_
      refine q_then ?_
      refine h_reg ?_
      refine h_op (r_add rfl rfl) ?_
      refine h_op (r_move rfl) ?_
      refine h_nil ?_
      exact h_back (k + 1) (hk2) (by omega) ⟨rfl, rfl, rfl, by rw [hcn]; rfl, trivial⟩ (same)
  · obtain rfl : k = l.length := by omega
    rw [List.take_length]
    refine h_exit ?_
    refine q_thenE ?_
    refine q_thenE ?_
    refine q_blockE ?_
    refine q_then ?_
    refine h_seq ?_
    refine h_reg ?_
    refine h_op (r_move rfl) ?_
    refine h_op (r_assign rfl) ?_
    refine h_nil ?_
    refine q_then ?_
    refine h_ret ?_
    exact h_ret1 rfl rfl fun w s => ⟨(), rfl, s.res (List.nil_sublist _) (by simp)⟩
section
variable (h : Zh)
theorem Size_s (l : List Item) (A : Option Addr) (c : Nat) [hr : RdZ h A (its l)] (hc : l.length ≤ c) (hl : l.length ≤ 1000000) (hk : checkM l = 0) : Spec Tryd.prog 33 [.slice A l.length c].toArray [.zone false h] [] (fun _ : Unit => .int .i64 ((6 + lenI l : Nat) : Int)) (fun _ => []) := by
  have hC := mCheck_s h l A c hc hl
  rw [hk] at hC
  refine spec_of Tryd.func33 rfl (n := 23) rfl rfl ?_
  intro W
  refine h_seq ?_
  refine h_reg ?_
  refine h_op (r_assign rfl) ?_
  refine h_nil ?_
  refine q_then ?_
  refine h_seq ?_
  refine h_seq ?_
  refine h_reg ?_
  refine h_op (r_move rfl) ?_
  refine h_call (hC.comes) rfl rfl rfl fun _ => ?_
  refine h_op (r_neq rfl rfl) ?_
  refine h_nil ?_
  refine q_then ?_
  refine h_no rfl ((fun h => h rfl)) ?_
  refine h_skip ?_
  refine q_then ?_
  refine h_seq ?_
  refine h_reg ?_
  refine h_op (r_assign rfl) ?_
  refine h_nil ?_
  refine q_then ?_
  refine h_seq ?_
  refine h_seq ?_
  refine h_reg ?_
  refine h_op (r_move rfl) ?_
  refine h_op (r_len rfl) ?_
  refine h_op (r_move rfl) ?_
  refine h_nil ?_
  refine q_then ?_
  refine h_block ?_
  refine h_loop (fun (k : Nat) => k ≤ l.length) (fun (k : Nat) => [(11, .int .i64 (k : Int)), (10, .int .i64 (l.length : Int)), (9, .slice A l.length c), (3, .int .i64 ((6 + lenI (l.take k) : Nat) : Int))]) (fun (k : Nat) => [.zone false h]) (fun (k : Nat) => l.length - k) 0 (Nat.zero_le _) ⟨rfl, rfl, rfl, rfl, trivial⟩ (same) ?_
  rintro k hk
  refine h_seq ?_
  refine h_reg ?_
  refine h_op (r_lss rfl rfl) ?_
  refine h_nil ?_
  refine q_then ?_
  refine h_seq ?_
  refine h_cond rfl (fun hlt => ?_) (fun hlt => ?_)
  · have hk2 : k < l.length := by omega
    obtain ⟨x, hx⟩ : ∃ x, l[k]? = some x := ⟨_, List.getElem?_eq_getElem hk2⟩
    have hat := its_at hx
    have hcn := lenI_snoc hx
    have hle := lenI_le (l.take k)
    have hpl := payN_le x.kind
    have htk : (l.take k).length ≤ l.length := by rw [List.length_take]; omega
    have h0 : 0 < (its l).length := by rw [its_len]; omega
    obtain ⟨b, o, rfl, -⟩ := hr.at_ 0 _ (List.getElem?_eq_getElem h0)
    refine h_skip ?_
    refine q_then ?_
    refine h_seq ?_
    refine h_block ?_
    refine h_seq ?_
    refine h_reg ?_
    refine h_op (r_idx rfl rfl) ?_
    refine h_op (r_nthr rfl (out := x.cells) (Item.cells_length x) hat) ?_
    refine h_opX (x_alloc) fun g5 => ?_
    refine h_opS (s_storer rfl rfl) ?_
    refine h_nil ?_
    refine q_then ?_
    refine h_reg ?_
    refine h_op (r_move rfl) ?_
    refine h_op (r_field rfl) ?_
    refine h_op (r_loadc rfl) ?_
    refine h_call ((payload_s x.kind).comes) rfl rfl rfl fun _ => ?_
    generalize payN x.kind = q at *
    refine h_op (r_add rfl rfl) ?_
    refine h_op (r_add rfl rfl) ?_
    refine h_op (r_assign rfl) ?_
    refine h_nil ?_
    refine q_block ?_
    refine q_then ?_
    refine h_reg ?_
    refine h_op (r_add rfl rfl) ?_
    refine h_op (r_move rfl) ?_
    refine h_nil ?_
    exact h_back (k + 1) (hk2) (by omega) ⟨rfl, rfl, rfl, by rw [hcn, show ((6 + (lenI (l.take k) + (1 + q)) : Nat) : Int) = ((6 + lenI (l.take k) : Nat) : Int) + (1 + (q : Int)) by omega]; rfl, trivial⟩ (same)
  · obtain rfl : k = l.length := by omega
    rw [List.take_length]
    refine h_exit ?_
    refine q_thenE ?_
    refine q_thenE ?_
    refine q_blockE ?_
    refine q_then ?_
    refine h_seq ?_
    refine h_reg ?_
    refine h_op (r_move rfl) ?_
    refine h_op (r_assign rfl) ?_
    refine h_nil ?_
    refine q_then ?_
    refine h_ret ?_
    exact h_ret1 rfl rfl fun w s => ⟨(), rfl, s.res (List.nil_sublist _) (by simp)⟩
end
end Go.Proofs.YtgfkbeipckbkiaaDoor
/- N18 -/
namespace Go.Proofs.YtgfkbeipckbkiaaDoor
set_option linter.unusedSimpArgs false
set_option linter.unusedVariables false
open Go.RowKit
theorem r_shrI {P : Program} {n : Nat} {D : List Deferred} {E : Env} {L : List Fa} {T T' : TypeId} {x y : Operand} {i q : Nat} (hx : ev E x = some (.int .i64 (i : Int))) (hy : ev E y = some (.int .i64 (q : Int))) (h : q ≤ 64) : Runs0 P n D E L (.binOp .shr T x y T') (.int .i64 ((i / 2 ^ q : Nat) : Int)) := fun c w ka s o ho => by
  refine run_bin ho (ka.ev hx) (ka.ev hy) rfl ?_
  have e : binOp .shr T (.int .i64 (i : Int)) (.int .i64 (q : Int)) = Op.shift .shr .i64 i .i64 q := by unfold binOp; rfl
  rw [e]
  unfold Op.shift
  rw [if_neg (by omega)]
  simp only [Int.toNat_natCast, show IntKind.i64.bits = 64 from rfl, Nat.min_eq_left h]
  rw [Int.fdiv_eq_ediv_of_nonneg _ (Int.pow_nonneg (by decide))]
  simp [Int.natCast_ediv]
end Go.Proofs.YtgfkbeipckbkiaaDoor
/- U111 -/
namespace Go.Proofs.YtgfkbeipckbkiaaDoor
set_option linter.unusedSimpArgs false
set_option linter.unusedVariables false
open Go.RowKit
theorem headM_take (n j : Nat) (h : j < 4) : (headM n).take (2 + (j + 1)) = (headM n).take (2 + j) ++ [u8n (n / 2 ^ (24 - 8 * j))] := by
  rcases (by omega : j = 0 ∨ j = 1 ∨ j = 2 ∨ j = 3) with rfl | rfl | rfl | rfl <;> rfl
theorem checkM_fine {l : List Item} (h : checkM l = 0) : l.all kindOk = true ∧ l.all cleanItem = true := by
  rw [checkM_eq] at h
  split at h
  · split at h
    · exact ⟨‹_›, ‹_›⟩
    · cases h
  · cases h
theorem kind_cases {l : List Item} (h : checkM l = 0) {k : Nat} {x : Item} (hx : l[k]? = some x) : x.kind = 0 ∨ x.kind = 1 ∨ x.kind = 2 ∨ x.kind = 3 := by
  have := List.all_eq_true.1 (checkM_fine h).1 x (List.mem_of_getElem? hx)
  unfold kindOk at this
  rw [Bool.and_eq_true, decide_eq_true_eq, decide_eq_true_eq] at this
  omega
/-- what is written behind the head and k items -/
def upM (l : List Item) (k : Nat) : List UInt8 := headM l.length ++ itsB (l.take k)
theorem upM_len (l : List Item) (k : Nat) : (upM l k).length = 6 + lenI (l.take k) := by
  unfold upM
  rw [List.length_append, itsB_len]
  rfl
theorem upM_snoc {l : List Item} {k : Nat} {x : Item} (h : l[k]? = some x) : upM l (k + 1) = upM l k ++ itB x := by
  unfold upM
  rw [itsB_snoc h, List.append_assoc]
theorem upM_end (l : List Item) : upM l l.length = encM l := by unfold upM encM; rw [List.take_length]
section
variable (h : Zh)
theorem mEncode_s (l : List Item) (A : Option Addr) (c : Nat) [hr : RdZ h A (its l)] (hc : l.length ≤ c) (hl : l.length ≤ 1000000) (hk0 : checkM l = 0) : Spec Tryd.prog 12 [.slice A l.length c].toArray [.zone false h] [] (fun u : Option Addr × Nat => .tuple #[.slice u.1 (encM l).length u.2, .int .i64 0]) (fun u => [.own (.slice u.1 (encM l).length u.2) (encM l).length 5 1 (bc (encM l))]) := by
  have hC := mCheck_s h l A c hc hl
  rw [hk0] at hC
  have hS := Size_s h l A c hc hl hk0
  have hle := lenI_le l
  have hup0 : (upM l 0).length = 6 := rfl
  rw [← upM_end]
  obtain ⟨sz, hsz⟩ : ∃ sz, 6 + lenI l = sz := ⟨_, rfl⟩
  rw [hsz] at hS
  refine spec_of Tryd.func12 rfl (n := 65) rfl rfl ?_
  intro W
  refine h_seq ?_
  refine h_reg ?_
  refine h_op (r_assign rfl) ?_
  refine h_op (r_assign rfl) ?_
  refine h_nil ?_
  refine q_then ?_
  refine h_seq ?_
  refine h_seq ?_
  refine h_reg ?_
  refine h_op (r_move rfl) ?_
  refine h_call (hC.comes) rfl rfl rfl fun _ => ?_
  refine h_op (r_assign rfl) ?_
  refine h_nil ?_
  refine q_then ?_
  refine h_seq ?_
  refine h_reg ?_
  refine h_op (r_move rfl) ?_
  refine h_op (r_neq rfl rfl) ?_
  refine h_nil ?_
  refine q_then ?_
  refine h_no rfl ((fun h => h rfl)) ?_
  refine h_skip ?_
  refine q_then ?_
  refine h_seq ?_
  refine h_reg ?_
  refine h_op (r_move rfl) ?_
  refine h_call (hS.comes) rfl rfl rfl fun _ => ?_
  refine h_opX (x_make0 rfl rfl) fun g16 => ?_
  refine h_op (r_assign rfl) ?_
  refine h_nil ?_
  refine q_then ?_
  refine h_seq ?_
  change H _ _ _ _ _ (.own (.slice (some ⟨g16, 0, none⟩) 0 sz) 0 _ _ (bc []) :: _) _
  refine h_reg ?_
  refine h_op (r_move rfl) ?_
  refine h_opX (x_bslV (ys := [.int .u8 1, .int .u8 2]) (bc [1, 2]) rfl rfl (bc_one _)) fun g18 => ?_
  refine h_opX (x_appAB (ly := [1, 2]) rfl rfl (fun h => by cases h) rfl) fun ⟨A19, c19⟩ => ?_
  refine h_op (r_assign rfl) ?_
  refine h_nil ?_
  refine q_then ?_
  refine h_seq ?_
  refine h_seq ?_
  refine h_reg ?_
  refine h_op (r_assign rfl) ?_
  refine h_nil ?_
  refine q_then ?_
  refine h_block ?_
  change H _ _ _ _ _ (.own (.slice A19 (2 + 0) c19) (2 + 0) _ _ (bc ((headM l.length).take (2 + 0))) :: _) _
  refine h_loop (fun (s : Nat × Option Addr × Nat) => s.1 ≤ 4) (fun (s : Nat × Option Addr × Nat) => [(6, .int .i64 (24 - 8 * (s.1 : Int))), (5, .slice s.2.1 (2 + s.1) s.2.2), (0, .slice A l.length c)]) (fun (s : Nat × Option Addr × Nat) => [.own (.slice s.2.1 (2 + s.1) s.2.2) (2 + s.1) 5 1 (bc ((headM l.length).take (2 + s.1))), .zone false h]) (fun (s : Nat × Option Addr × Nat) => 4 - s.1) (0, A19, c19) ((show 0 ≤ 4 by omega)) ⟨rfl, rfl, rfl, trivial⟩ (same) ?_
  rintro ⟨j, B, d⟩ hj
  dsimp only at hj ⊢
  refine h_seq ?_
  refine h_seq ?_
  refine h_reg ?_
  refine h_op (r_move rfl) ?_
  refine h_op (r_geq rfl rfl) ?_
  refine h_nil ?_
  refine q_then ?_
  refine h_cond rfl (fun hlt => ?_) (fun hlt => ?_)
  · have hj2 : j < 4 := by omega
    have hst := headM_take l.length j hj2
    refine h_skip ?_
    refine q_then ?_
    refine h_seq ?_
    refine h_block ?_
    refine h_reg ?_
    refine h_op (r_move rfl) ?_
    refine h_op (r_move rfl) ?_
    refine h_op (r_len rfl) ?_
    refine h_op (r_move rfl) ?_
    refine h_op (r_shrI (q := 24 - 8 * j) rfl (congrArg (fun z => some (Value.int .i64 z)) (show (24 - 8 * (j : Int)) = ((24 - 8 * j : Nat) : Int) by omega)) (by omega)) ?_
    refine h_op (r_cNW rfl) ?_
    refine h_opX (x_bsl rfl rfl) fun g30 => ?_
    refine h_opX (x_app1B rfl rfl (N' := 2 + (j + 1))) fun ⟨g31, c31⟩ => ?_
    refine h_op (r_assign rfl) ?_
    refine h_nil ?_
    refine q_block ?_
    refine q_then ?_
    change H _ _ _ _ _ (.own (.slice (some ⟨g31, 0, none⟩) (2 + (j + 1)) c31) (2 + (j + 1)) _ _ (bc ((headM l.length).take (2 + j) ++ [u8n (l.length / 2 ^ (24 - 8 * j))])) :: _) _
    rw [← hst]
    refine h_reg ?_
    refine h_op (r_move rfl) ?_
    refine h_op (r_sub rfl rfl) ?_
    refine h_op (r_assign rfl) ?_
    refine h_nil ?_
    exact h_back (j + 1, some ⟨g31, 0, none⟩, c31) ((show j + 1 ≤ 4 from hj2)) ((show 4 - (j + 1) < 4 - j by omega)) ⟨by rw [show (24 - 8 * ((j + 1 : Nat) : Int)) = 24 - 8 * (j : Int) - 8 by omega]; rfl, rfl, rfl, trivial⟩ (same)
  · obtain rfl : j = 4 := by omega
    change H _ _ _ _ _ (.own (.slice B (upM l 0).length d) (upM l 0).length _ _ (bc (upM l 0)) :: _) _
    refine h_exit ?_
    refine q_thenE ?_
    refine q_thenE ?_
    refine q_blockE ?_
    refine q_then ?_
    refine h_seq ?_
    refine h_seq ?_
    refine h_reg ?_
    refine h_op (r_move rfl) ?_
    refine h_op (r_len rfl) ?_
    refine h_op (r_move rfl) ?_
    refine h_nil ?_
    refine q_then ?_
    refine h_block ?_
    refine h_loop (fun (s : Nat × Option Addr × Nat) => s.1 ≤ l.length) (fun (s : Nat × Option Addr × Nat) => [(34, .int .i64 (s.1 : Int)), (33, .int .i64 (l.length : Int)), (32, .slice A l.length c), (5, .slice s.2.1 (upM l s.1).length s.2.2)]) (fun (s : Nat × Option Addr × Nat) => [.own (.slice s.2.1 (upM l s.1).length s.2.2) (upM l s.1).length 5 1 (bc (upM l s.1)), .zone false h]) (fun (s : Nat × Option Addr × Nat) => l.length - s.1) (0, B, d) ((show 0 ≤ l.length from Nat.zero_le _)) ⟨rfl, rfl, rfl, rfl, trivial⟩ (same) ?_
    rintro ⟨k, B2, d2⟩ hk
    dsimp only at hk ⊢
    refine h_seq ?_
    refine h_reg ?_
    refine h_op (r_lss rfl rfl) ?_
    refine h_nil ?_
    refine q_then ?_
    refine h_seq ?_
    refine h_cond rfl (fun hlt2 => ?_) (fun hlt2 => ?_)
    · have hk2 : k < l.length := by omega
      obtain ⟨x, hx⟩ : ∃ x, l[k]? = some x := ⟨_, List.getElem?_eq_getElem hk2⟩
      have hat := its_at hx
      have hkc := kind_cases hk0 hx
      have hl0 := upM_len l k
      have hl1 := upM_len l (k + 1)
      have hln := lenI_snoc hx
      have hst := upM_snoc hx
      have hle2 := lenI_le (l.take (k + 1))
      have htk : (l.take (k + 1)).length ≤ l.length := by rw [List.length_take]; omega
      have h0 : 0 < (its l).length := by rw [its_len]; omega
      obtain ⟨b, o, rfl, -⟩ := hr.at_ 0 _ (List.getElem?_eq_getElem h0)
      obtain ⟨kd, hkd⟩ : ∃ kd : Nat, x.kind = (kd : Int) := ⟨x.kind.toNat, by omega⟩
      have hdg := x.digest.2
      have hlk := x.leaf.key.2
      have hlv := x.leaf.value.2
      rw [hkd] at hln hkc
      by_cases h1 : kd = 1
      · have hp : payN (kd : Int) = 64 := by unfold payN; rw [if_pos (by omega)]
        have hib : itB x = u8n kd :: (x.leaf.key.1 ++ x.leaf.value.1) := by unfold itB; rw [hkd, if_pos (show (kd : Int) = 1 by omega)]; rfl
        rw [hp] at hln
        rw [hib] at hst
        refine h_skip ?_
        refine q_then ?_
        refine h_seq ?_
        refine h_block ?_
        refine h_seq ?_
        refine h_reg ?_
        refine h_op (r_idx rfl rfl) ?_
        refine h_op (r_nthr rfl (out := x.cells) (Item.cells_length _) hat) ?_
        refine h_opX (x_alloc) fun g8 => ?_
        refine h_opS (s_storer rfl rfl) ?_
        refine h_nil ?_
        refine q_then ?_
        refine h_seq ?_
        refine h_reg ?_
        refine h_op (r_move rfl) ?_
        refine h_op (r_field rfl) ?_
        refine h_op (r_int (r_loadc rfl) hkd) ?_
        refine h_op (r_cNW rfl) ?_
        refine h_opX (x_bsl rfl rfl) fun g42 => ?_
        refine h_opX (x_app1B rfl rfl (N' := (upM l k).length + 1)) fun ⟨g43, c43⟩ => ?_
        refine h_op (r_assign rfl) ?_
        refine h_nil ?_
        refine q_then ?_
        refine h_seq ?_
        refine h_reg ?_
        refine h_op (r_field rfl) ?_
        refine h_op (r_int (r_loadc rfl) hkd) ?_
        refine h_nil ?_
        refine q_then ?_
        refine h_block ?_
        refine h_seq ?_
        refine h_reg ?_
        refine h_op (r_eql rfl rfl) ?_
        refine h_op (r_assign rfl) ?_
        refine h_nil ?_
        refine q_then ?_
        change H _ _ _ _ _ (.own (.slice (some ⟨g43, 0, none⟩) ((upM l k).length + 1) c43) ((upM l k).length + 1) _ _ (bc (upM l k ++ [u8n kd])) :: _) _
        refine h_yes rfl ((show (kd : Int) = 1 by omega)) ?_
        refine ha_start [] [] mixed (same) ?_
        refine ha_takeP 0 rfl (r_move rfl) ?_
        refine ha_takeP 1 rfl (r_field rfl) ?_
        refine ha_takeP 2 rfl (r_field rfl) ?_
        refine ha_takeP 3 rfl (r_slA rfl) ?_
        refine ha_takeP 5 rfl (r_field rfl) ?_
        refine ha_takeP 6 rfl (r_field rfl) ?_
        refine ha_takeP 7 rfl (r_slA rfl) ?_
        refine ha_one 4 ?_
        refine ho_X 4 rfl (rk (x_appAB (ly := x.leaf.key.1) rfl rfl (fun h => by cases h) hlk (N' := (upM l k).length + 1 + 32) (hr := inferInstanceAs (Rd1 _ (.rd _ x.leaf.key.cells))))) (fun _ => same) fun ⟨A52, c52⟩ => ?_
        refine ha_one 8 ?_
        refine ho_X 8 rfl (rk (x_appAB (ly := x.leaf.value.1) rfl rfl (fun h => by cases h) hlv (N' := (upM l (k + 1)).length) (hN := by omega) (hr := inferInstanceAs (Rd1 _ (.rd _ x.leaf.value.cells))))) (fun _ => same) fun ⟨A56, c56⟩ => ?_
        refine ha_takeP 9 rfl (r_assign rfl) ?_
        refine ha_done (by kernel_rfl) ?_
        refine q_block ?_
        refine q_block ?_
        refine q_then ?_
        rw [show upM l k ++ [u8n kd] ++ x.leaf.key.1 ++ x.leaf.value.1 = upM l (k + 1) by rw [hst]; simp]
        refine h_reg ?_
        refine h_op (r_add rfl rfl) ?_
        refine h_op (r_move rfl) ?_
        refine h_nil ?_
        exact h_back (k + 1, A56, c56) ((show k + 1 ≤ l.length from hk2)) ((show l.length - (k + 1) < l.length - k by omega)) ⟨rfl, rfl, rfl, rfl, trivial⟩ (same)
      · by_cases h3 : kd = 3
        · have hp : payN (kd : Int) = 32 := by unfold payN; rw [if_neg (by omega), if_pos (by omega)]
          have hib : itB x = u8n kd :: x.digest.1 := by unfold itB; rw [hkd, if_neg (show ¬ (kd : Int) = 1 by omega), if_pos (show (kd : Int) = 3 by omega)]; rfl
          rw [hp] at hln
          rw [hib] at hst
          refine h_skip ?_
          refine q_then ?_
          refine h_seq ?_
          refine h_block ?_
          refine h_seq ?_
          refine h_reg ?_
          refine h_op (r_idx rfl rfl) ?_
          refine h_op (r_nthr rfl (out := x.cells) (Item.cells_length _) hat) ?_
          refine h_opX (x_alloc) fun g8 => ?_
          refine h_opS (s_storer rfl rfl) ?_
          refine h_nil ?_
          refine q_then ?_
          refine h_seq ?_
          refine h_reg ?_
          refine h_op (r_move rfl) ?_
          refine h_op (r_field rfl) ?_
          refine h_op (r_int (r_loadc rfl) hkd) ?_
          refine h_op (r_cNW rfl) ?_
          refine h_opX (x_bsl rfl rfl) fun g42 => ?_
          refine h_opX (x_app1B rfl rfl (N' := (upM l k).length + 1)) fun ⟨g43, c43⟩ => ?_
          refine h_op (r_assign rfl) ?_
          refine h_nil ?_
          refine q_then ?_
          refine h_seq ?_
          refine h_reg ?_
          refine h_op (r_field rfl) ?_
          refine h_op (r_int (r_loadc rfl) hkd) ?_
          refine h_nil ?_
          refine q_then ?_
          refine h_block ?_
          refine h_seq ?_
          refine h_reg ?_
          refine h_op (r_eql rfl rfl) ?_
          refine h_op (r_assign rfl) ?_
          refine h_nil ?_
          refine q_then ?_
          refine h_no rfl ((show ¬ (kd : Int) = 1 by omega)) ?_
          refine h_seq ?_
          refine h_reg ?_
          refine h_op (r_eql rfl rfl) ?_
          refine h_op (r_assign rfl) ?_
          refine h_nil ?_
          refine q_then ?_
          change H _ _ _ _ _ (.own (.slice (some ⟨g43, 0, none⟩) ((upM l k).length + 1) c43) ((upM l k).length + 1) _ _ (bc (upM l k ++ [u8n kd])) :: _) _
          refine h_yes rfl ((show (kd : Int) = 3 by omega)) ?_
          refine h_reg ?_
          refine h_op (r_move rfl) ?_
          refine h_op (r_field rfl) ?_
          refine h_op (r_slA rfl) ?_
          refine h_opX (x_appAB (ly := x.digest.1) rfl rfl (fun h => by cases h) hdg (N' := (upM l (k + 1)).length) (hN := by omega) (hr := inferInstanceAs (Rd1 _ (.rd _ x.digest.cells)))) fun ⟨A62, c62⟩ => ?_
          refine h_op (r_assign rfl) ?_
          refine h_nil ?_
          refine q_block ?_
          refine q_block ?_
          refine q_then ?_
          rw [show upM l k ++ [u8n kd] ++ x.digest.1 = upM l (k + 1) by rw [hst]; simp]
          refine h_reg ?_
          refine h_op (r_add rfl rfl) ?_
          refine h_op (r_move rfl) ?_
          refine h_nil ?_
          exact h_back (k + 1, A62, c62) ((show k + 1 ≤ l.length from hk2)) ((show l.length - (k + 1) < l.length - k by omega)) ⟨rfl, rfl, rfl, rfl, trivial⟩ (same)
        · have hp : payN (kd : Int) = 0 := by unfold payN; rw [if_neg (by omega), if_neg (by omega)]
          have hib : itB x = [u8n kd] := by unfold itB; rw [hkd, if_neg (show ¬ (kd : Int) = 1 by omega), if_neg (show ¬ (kd : Int) = 3 by omega)]; rfl
          rw [hp] at hln
          rw [hib] at hst
          refine h_skip ?_
          refine q_then ?_
          refine h_seq ?_
          refine h_block ?_
          refine h_seq ?_
          refine h_reg ?_
          refine h_op (r_idx rfl rfl) ?_
          refine h_op (r_nthr rfl (out := x.cells) (Item.cells_length _) hat) ?_
          refine h_opX (x_alloc) fun g8 => ?_
          refine h_opS (s_storer rfl rfl) ?_
          refine h_nil ?_
          refine q_then ?_
          refine h_seq ?_
          refine h_reg ?_
          refine h_op (r_move rfl) ?_
          refine h_op (r_field rfl) ?_
          refine h_op (r_int (r_loadc rfl) hkd) ?_
          refine h_op (r_cNW rfl) ?_
          refine h_opX (x_bsl rfl rfl) fun g42 => ?_
          refine h_opX (x_app1B rfl rfl (N' := (upM l (k + 1)).length) (hN := by omega)) fun ⟨g43, c43⟩ => ?_
          refine h_op (r_assign rfl) ?_
          refine h_nil ?_
          refine q_then ?_
          refine h_seq ?_
          refine h_reg ?_
          refine h_op (r_field rfl) ?_
          refine h_op (r_int (r_loadc rfl) hkd) ?_
          refine h_nil ?_
          refine q_then ?_
          refine h_block ?_
          refine h_seq ?_
          refine h_reg ?_
          refine h_op (r_eql rfl rfl) ?_
          refine h_op (r_assign rfl) ?_
          refine h_nil ?_
          refine q_then ?_
          refine h_no rfl ((show ¬ (kd : Int) = 1 by omega)) ?_
          refine h_seq ?_
          refine h_reg ?_
          refine h_op (r_eql rfl rfl) ?_
          refine h_op (r_assign rfl) ?_
          refine h_nil ?_
          refine q_then ?_
          refine h_no rfl ((show ¬ (kd : Int) = 3 by omega)) ?_
          refine h_skip ?_
          refine q_block ?_
          refine q_block ?_
          refine q_then ?_
          refine h_reg ?_
          refine h_op (r_add rfl rfl) ?_
          refine h_op (r_move rfl) ?_
          refine h_nil ?_
          change H _ _ _ _ _ (.own (.slice (some ⟨g43, 0, none⟩) (upM l (k + 1)).length c43) (upM l (k + 1)).length _ _ (bc (upM l k ++ [u8n kd])) :: _) _
          rw [← hst]
          exact h_back (k + 1, some ⟨g43, 0, none⟩, c43) ((show k + 1 ≤ l.length from hk2)) ((show l.length - (k + 1) < l.length - k by omega)) ⟨rfl, rfl, rfl, rfl, trivial⟩ (same)
    · obtain rfl : k = l.length := by omega
      refine h_exit ?_
      refine q_thenE ?_
      refine q_thenE ?_
      refine q_blockE ?_
      refine q_then ?_
      refine h_seq ?_
      refine h_reg ?_
      refine h_op (r_move rfl) ?_
      refine h_op (r_assign rfl) ?_
      refine h_op (r_assign rfl) ?_
      refine h_nil ?_
      refine q_then ?_
      refine h_ret ?_
      exact h_ret2 rfl rfl rfl fun w s => ⟨(B2, d2), rfl, (same (L' := [.own (.slice B2 (upM l l.length).length d2) (upM l l.length).length 5 1 (bc (upM l l.length))]) w s).res (List.Sublist.refl _) (by simp [Fa.wr])⟩
end
end Go.Proofs.YtgfkbeipckbkiaaDoor
/- N16 -/
namespace Go.Proofs.YtgfkbeipckbkiaaDoor
set_option linter.unusedSimpArgs false
set_option linter.unusedVariables false
open Go.RowKit
section
variable {P : Program} {nn : Nat} {D : List Deferred} {E : Env} {L : List Fa} {T : TypeId} {x q r : Operand} {e size bytes : Nat} {z : Value} {N c h m : Nat}
theorem run_slHM [E' : TS P T e size bytes z] {b O : Nat} {i2 i3 : Int} {k2 k3 : IntKind} (w : World) (h2 : NatOf i2 h) (h3 : NatOf i3 m) (a2 : h ≤ m) (a3 : m ≤ c) :
    (Instr.sliceAt T (.slice (some ⟨b, O, none⟩) N c) none (some (.int k2 i2)) (some (.int k3 i3))).run P w = .ok (.slice (some ⟨b, O, none⟩) h m) w := by
  obtain rfl := h2.eq
  obtain rfl := h3.eq
  obtain ⟨t, hi, _, hsz, _⟩ := info_parts E'.el.hi
  have c1 : (0 : Int) ≤ (m : Int) ∧ (m : Int) ≤ (c : Int) := ⟨by omega, by omega⟩
  have c2 : (0 : Int) ≤ (h : Int) ∧ (h : Int) ≤ (m : Int) := ⟨by omega, by omega⟩
  have c3 : (0 : Int) ≤ (0 : Int) ∧ (0 : Int) ≤ (h : Int) := ⟨by omega, by omega⟩
  unfold Instr.sliceAt
  simp only [Sem.run_bind, run_underlying E'.el.ht, Result.andThen_ok, Instr.slice, Instr.sliceBounds, Instr.sliceBound, asIntOf, Sem.run_pure, if_pos c1, if_pos c2, if_pos c3, Int.toNat_natCast, sizeOf, typeInfo, Option.isSome_some]
  simp [hi, hsz, Addr.add_mid]
theorem r_slHM [E' : TS P T e size bytes z] {b O : Nat} {i2 i3 : Int} {k2 k3 : IntKind} (hx : ev E x = some (.slice (some ⟨b, O, none⟩) N c)) (hq : ev E q = some (.int k2 i2)) (hr : ev E r = some (.int k3 i3)) [h2 : NatOf i2 h] [h3 : NatOf i3 m] (a2 : h ≤ m := by omega) (a3 : m ≤ c := by omega) : Runs0 P nn D E L (.slice T x none (some q) (some r)) (.slice (some ⟨b, O, none⟩) h m) := fun a w ka s o ho => by
  have := run_slHM (P := P) (T := T) (N := N) (b := b) (O := O) (k2 := k2) (k3 := k3) w h2 h3 a2 a3
  unfold execOp
  simp only [ho, ka.ev hx, Option.map_some, Option.map_none, ka.ev hq, ka.ev hr]
  rw [Sem.run_bind, this]
  rfl
theorem cut_zero {b O c size : Nat} (hc : 0 < c) : cutA (some ⟨b, O, none⟩) c 0 size = some ⟨b, O, none⟩ := by
  unfold cutA
  rw [if_neg (by omega)]
  simp [Addr.add_mid]
theorem r_slHb [E' : TS P T e size bytes z] {b O : Nat} {j : Int} {k : IntKind} (hx : ev E x = some (.slice (some ⟨b, O, none⟩) N c)) (hq : ev E q = some (.int k j)) [hj : NatOf j h] (hl : h ≤ c := by omega) (hc : 0 < c := by omega) : Runs0 P nn D E L (.slice T x none (some q) none) (.slice (some ⟨b, O, none⟩) h c) := by
  have := r_slH (P := P) (n := nn) (D := D) (L := L) (E' := E') hx hq (hj := hj) hl
  rwa [cut_zero hc] at this
end
end Go.Proofs.YtgfkbeipckbkiaaDoor
/- U112 -/
namespace Go.Proofs.YtgfkbeipckbkiaaDoor
set_option linter.unusedSimpArgs false
set_option linter.unusedVariables false
open Go.RowKit
section
variable (h : Zh)
theorem item_one (lf : Leaf) (b o c : Nat) (hr : RdZ h (some ⟨b, o, none⟩) (bc (lf.key.1 ++ lf.value.1))) (hc : 64 ≤ c) : Spec Tryd.prog 53 [.int .i64 1, .slice (some ⟨b, o, none⟩) 64 c].toArray [.zone false h] [] (fun _ : Unit => .agg (Item.cells ⟨1, zB32, lf⟩).toArray) (fun _ => []) := by
  have hlk := lf.key.2
  have hr1 : RdZ h (some ⟨b, o, none⟩) lf.key.cells := ⟨fun j v hv => hr.at_ j v (by rw [bc_append]; show (lf.key.cells ++ bc lf.value.1)[j]? = some v; rw [List.getElem?_append_left (List.getElem?_eq_some_iff.1 hv).1]; exact hv)⟩
  have hr2 : RdZ h (some ⟨b, o + 32, none⟩) lf.value.cells := ⟨fun j v hv => by
    obtain ⟨b', o', e, h2⟩ := hr.at_ (32 + j) v (by rw [bc_append, List.getElem?_append_right (by rw [bc_length]; omega), bc_length, hlk, Nat.add_sub_cancel_left]; exact hv)
    injection e with e
    injection e with e1 e2
    subst e1 e2
    exact ⟨b, o + 32, rfl, by rw [Nat.add_assoc]; exact h2⟩⟩
  obtain ⟨o2, ho2⟩ : ∃ o2, o + 32 = o2 := ⟨_, rfl⟩
  rw [ho2] at hr2
  refine spec_of Tryd.func53 rfl (n := 28) rfl rfl ?_
  intro W
  refine h_seq ?_
  refine h_reg ?_
  refine h_opX (x_alloc) fun g4 => ?_
  refine h_nil ?_
  refine q_then ?_
  refine h_seq ?_
  refine h_reg ?_
  refine h_op (r_move rfl) ?_
  refine h_op (r_build rfl) ?_
  refine h_opX (x_alloc) fun g5 => ?_
  refine h_opS (s_storer rfl rfl) ?_
  refine h_nil ?_
  refine q_then ?_
  refine h_seq ?_
  refine h_seq ?_
  refine h_reg ?_
  refine h_op (r_move rfl) ?_
  refine h_nil ?_
  refine q_then ?_
  refine h_block ?_
  refine h_seq ?_
  refine h_reg ?_
  refine h_op (r_eql rfl rfl) ?_
  refine h_op (r_assign rfl) ?_
  refine h_nil ?_
  refine q_then ?_
  change H _ _ _ _ _ (.blk g5 (Item.cells ⟨1, zB32, zLeaf⟩) _ :: _) _
  refine h_yes rfl ((rfl : (1 : Int) = 1)) ?_
  refine ha_start [.zone false h, .blk g5 (Item.cells ⟨1, zB32, zLeaf⟩) 45] [] mixed (same) ?_
  refine ha_takeP 0 rfl (r_move rfl) ?_
  refine ha_takeP 1 rfl (r_slHb rfl rfl) ?_
  refine ha_takeP 2 rfl (r_arr rfl) ?_
  refine ha_take 3 rfl (r_loadr rfl) ?_
  refine ha_takeP 4 rfl (r_move rfl) ?_
  refine ha_takeP 5 rfl (r_as (r_slL rfl rfl) (show _ = Value.slice (some ⟨b, o2, none⟩) 32 (c - 32) by unfold cutA; rw [if_neg (by omega), ← ho2]; simp [Addr.add_mid])) ?_
  refine ha_takeP 6 rfl (r_arr rfl) ?_
  refine ha_take 7 rfl (r_loadr rfl) ?_
  refine ha_takeP 8 rfl (r_build rfl) ?_
  refine ha_takeP 9 rfl (r_field rfl) ?_
  refine ha_one 10 ?_
  refine ho_SL 10 rfl (s_storer rfl rfl) ?_
  refine q_block ?_
  refine q_then ?_
  change H _ _ _ _ _ (.blk g5 (Item.cells ⟨1, zB32, lf⟩) _ :: _) _
  refine h_seq ?_
  refine h_reg ?_
  refine h_op (r_loadr rfl) ?_
  refine h_opS (s_storer rfl rfl) ?_
  refine h_nil ?_
  refine q_then ?_
  refine h_ret ?_
  exact h_ret1 rfl (rv_row rfl) fun w s => ⟨(), rfl, s.res (List.nil_sublist _) (by simp)⟩
theorem item_three (dg : B32) (b o c : Nat) (hr : RdZ h (some ⟨b, o, none⟩) dg.cells) : Spec Tryd.prog 53 [.int .i64 3, .slice (some ⟨b, o, none⟩) 32 c].toArray [.zone false h] [] (fun _ : Unit => .agg (Item.cells ⟨3, dg, zLeaf⟩).toArray) (fun _ => []) := by
  refine spec_of Tryd.func53 rfl (n := 28) rfl rfl ?_
  intro W
  refine h_seq ?_
  refine h_reg ?_
  refine h_opX (x_alloc) fun g4 => ?_
  refine h_nil ?_
  refine q_then ?_
  refine h_seq ?_
  refine h_reg ?_
  refine h_op (r_move rfl) ?_
  refine h_op (r_build rfl) ?_
  refine h_opX (x_alloc) fun g5 => ?_
  refine h_opS (s_storer rfl rfl) ?_
  refine h_nil ?_
  refine q_then ?_
  refine h_seq ?_
  refine h_seq ?_
  refine h_reg ?_
  refine h_op (r_move rfl) ?_
  refine h_nil ?_
  refine q_then ?_
  refine h_block ?_
  refine h_seq ?_
  refine h_reg ?_
  refine h_op (r_eql rfl rfl) ?_
  refine h_op (r_assign rfl) ?_
  refine h_nil ?_
  refine q_then ?_
  change H _ _ _ _ _ (.blk g5 (Item.cells ⟨3, zB32, zLeaf⟩) _ :: _) _
  refine h_no rfl ((show ¬ (3 : Int) = 1 by decide)) ?_
  refine h_seq ?_
  refine h_reg ?_
  refine h_op (r_eql rfl rfl) ?_
  refine h_op (r_assign rfl) ?_
  refine h_nil ?_
  refine q_then ?_
  refine h_yes rfl ((rfl : (3 : Int) = 3)) ?_
  refine h_reg ?_
  refine h_op (r_move rfl) ?_
  refine h_op (r_arr rfl) ?_
  refine h_op (r_loadr rfl) ?_
  refine h_op (r_field rfl) ?_
  refine h_opS (s_storer rfl rfl) ?_
  refine h_nil ?_
  refine q_block ?_
  refine q_then ?_
  refine h_seq ?_
  refine h_reg ?_
  refine h_op (r_loadr rfl) ?_
  refine h_opS (s_storer rfl rfl) ?_
  refine h_nil ?_
  refine q_then ?_
  refine h_ret ?_
  exact h_ret1 rfl (rv_row rfl) fun w s => ⟨(), rfl, s.res (List.nil_sublist _) (by simp)⟩
theorem item_bare (k : Int) (h1 : ¬ k = 1) (h3 : ¬ k = 3) (B : Option Addr) (m c : Nat) : Spec Tryd.prog 53 [.int .i64 k, .slice B m c].toArray [.zone false h] [] (fun _ : Unit => .agg (Item.cells ⟨k, zB32, zLeaf⟩).toArray) (fun _ => []) := by
  refine spec_of Tryd.func53 rfl (n := 28) rfl rfl ?_
  intro W
  refine h_seq ?_
  refine h_reg ?_
  refine h_opX (x_alloc) fun g4 => ?_
  refine h_nil ?_
  refine q_then ?_
  refine h_seq ?_
  refine h_reg ?_
  refine h_op (r_move rfl) ?_
  refine h_op (r_build rfl) ?_
  refine h_opX (x_alloc) fun g5 => ?_
  refine h_opS (s_storer rfl rfl) ?_
  refine h_nil ?_
  refine q_then ?_
  refine h_seq ?_
  refine h_seq ?_
  refine h_reg ?_
  refine h_op (r_move rfl) ?_
  refine h_nil ?_
  refine q_then ?_
  refine h_block ?_
  refine h_seq ?_
  refine h_reg ?_
  refine h_op (r_eql rfl rfl) ?_
  refine h_op (r_assign rfl) ?_
  refine h_nil ?_
  refine q_then ?_
  change H _ _ _ _ _ (.blk g5 (Item.cells ⟨k, zB32, zLeaf⟩) _ :: _) _
  refine h_no rfl (h1) ?_
  refine h_seq ?_
  refine h_reg ?_
  refine h_op (r_eql rfl rfl) ?_
  refine h_op (r_assign rfl) ?_
  refine h_nil ?_
  refine q_then ?_
  refine h_no rfl (h3) ?_
  refine h_skip ?_
  refine q_block ?_
  refine q_then ?_
  refine h_seq ?_
  refine h_reg ?_
  refine h_op (r_loadr rfl) ?_
  refine h_opS (s_storer rfl rfl) ?_
  refine h_nil ?_
  refine q_then ?_
  refine h_ret ?_
  exact h_ret1 rfl (rv_row rfl) fun w s => ⟨(), rfl, s.res (List.nil_sublist _) (by simp)⟩
end
end Go.Proofs.YtgfkbeipckbkiaaDoor
