/- The reference: parts of bytes, decoding of proofs; verify.Check, Accepts; The reference's Supports (joined texts: U97 U96 U45r) -/
import Derived.Test.YtgfkbeipckbkiaaGreatDoorY14
set_option linter.all false
/- U97 -/
namespace Go.Proofs.YtgfkbeipckbkiaaGreatDoor
set_option linter.unusedSimpArgs false
set_option linter.unusedVariables false
open Go.RowKit
def fillP (f : Nat → UInt8) (k : Nat) : List UInt8 := (List.range k).map f ++ List.replicate (32 - k) 0
theorem fillP_len (f : Nat → UInt8) {k : Nat} (h : k ≤ 32) : (fillP f k).length = 32 := by simp [fillP]; omega
theorem fillP_set (f : Nat → UInt8) {k : Nat} (h : k < 32) : (fillP f k).set k (f k) = fillP f (k + 1) := by
  unfold fillP
  rw [List.set_append_right _ _ (by simp), show 32 - k = (32 - (k + 1)) + 1 by omega, List.replicate_succ]
  simp only [List.length_map, List.length_range, Nat.sub_self, List.set_cons_zero]
  rw [List.range_succ, List.map_append, List.append_assoc]
  rfl
theorem fillP_all (l : List UInt8) (o : Nat) : fillP (fun j => l.getD (o + j) 0) 32 = (b32At l o).1 := by
  show (List.range 32).map _ ++ List.replicate 0 0 = _
  rw [List.replicate_zero, List.append_nil]
  rfl
theorem rPart_s (l : List UInt8) (A : Option Addr) (c i : Nat) (hi : i + 32 ≤ l.length) (hl : l.length ≤ 1000000000 := by omega) : Spec Tryz.prog 112 [.slice A l.length c, .int .i64 (i : Int)].toArray [.rd A (bc l)] [] (fun _ : Unit => .agg (b32At l i).cells.toArray) (fun _ => []) := by
  refine spec_of Tryz.func112 rfl (n := 20) rfl rfl ?_
  intro W
  refine h_pure (φ := ∃ b o, A = some ⟨b, o, none⟩) (fun w s => Rd.some (s.ok (.rd A (bc l)) (by simp)) (by rw [bc_length]; omega)) ?_
  rintro ⟨b, o, rfl⟩
  refine h_seq ?_
  refine h_reg ?_
  refine h_opX (x_alloc) fun g4 => ?_
  refine h_nil ?_
  refine q_then ?_
  refine h_seq ?_
  refine h_reg ?_
  refine h_opX (x_alloc) fun g5 => ?_
  refine h_nil ?_
  refine q_then ?_
  refine h_seq ?_
  refine h_seq ?_
  refine h_reg ?_
  refine h_op (r_assign rfl) ?_
  refine h_nil ?_
  refine q_then ?_
  refine h_block ?_
  change H _ _ _ _ _ (.blk g5 (bc (fillP (fun j => l.getD (i + j) 0) 0)) _ :: _) _
  refine h_loop (fun (k : Nat) => k ≤ 32) (fun (k : Nat) => [(6, .int .i64 (k : Int)), (5, .pointer (some ⟨g5, 0, none⟩)), (4, .pointer (some ⟨g4, 0, none⟩)), (0, .slice (some ⟨b, o, none⟩) l.length c), (1, .int .i64 (i : Int))]) (fun (k : Nat) => [.blk g5 (bc (fillP (fun j => l.getD (i + j) 0) k)) 38, .blk g4 zB32.cells 38, .rd (some ⟨b, o, none⟩) (bc l)]) (fun (k : Nat) => 32 - k) 0 ((show 0 ≤ 32 by omega)) ⟨rfl, rfl, rfl, rfl, rfl, trivial⟩ (same) ?_
  rintro k hk
  refine h_seq ?_
  refine h_seq ?_
  refine h_reg ?_
  refine h_op (r_move rfl) ?_
  refine h_op (r_lss rfl rfl) ?_
  refine h_nil ?_
  refine q_then ?_
  refine h_cond rfl (fun hlt => ?_) (fun hlt => ?_)
  · have hfl := fillP_len (fun j => l.getD (i + j) 0) (k := k) hk
    refine h_skip ?_
    refine q_then ?_
    refine h_seq ?_
    refine h_block ?_
    refine h_reg ?_
    refine h_op (r_move rfl) ?_
    refine h_op (r_move rfl) ?_
    refine h_op (r_move rfl) ?_
    refine h_op (r_move rfl) ?_
    refine h_op (r_int (r_add rfl rfl) (show _ = ((i + k : Nat) : Int) by omega)) ?_
    refine h_op (r_idx rfl rfl) ?_
    refine h_op (r_nth rfl (bc_at' (l := l) (i := i + k) (by omega))) ?_
    refine h_op (r_idxA rfl rfl) ?_
    refine h_opS (s_setB rfl rfl) ?_
    refine h_nil ?_
    refine q_block ?_
    refine q_then ?_
    refine h_reg ?_
    refine h_op (r_move rfl) ?_
    refine h_op (r_add rfl rfl) ?_
    refine h_op (r_assign rfl) ?_
    refine h_nil ?_
    change H _ _ _ _ _ (.blk g5 (bc ((fillP (fun j => l.getD (i + j) 0) k).set k (l.getD (i + k) 0))) _ :: _) _
    rw [fillP_set (fun j => l.getD (i + j) 0) (by omega)]
    exact h_back (k + 1) ((show k + 1 ≤ 32 by omega)) ((show 32 - (k + 1) < 32 - k by omega)) ⟨rfl, rfl, rfl, rfl, rfl, trivial⟩ (same)
  · obtain rfl : k = 32 := by omega
    rw [fillP_all]
    change H _ _ _ _ _ (.blk g5 (b32At l i).cells _ :: _) _
    refine h_exit ?_
    refine q_thenE ?_
    refine q_thenE ?_
    refine q_blockE ?_
    refine q_then ?_
    refine h_seq ?_
    refine h_reg ?_
    refine h_op (r_loadr rfl) ?_
    refine h_opS (s_storer rfl rfl) ?_
    refine h_nil ?_
    refine q_then ?_
    refine h_ret ?_
    exact h_ret1 rfl (rv_row rfl) fun w s => ⟨(), rfl, s.res (List.nil_sublist _) (by simp)⟩
theorem rOf_s (l : List UInt8) (A : Option Addr) (c : Nat) (hl : l.length = 32) : Spec Tryz.prog 77 [.slice A l.length c].toArray [.rd A (bc l)] [] (fun _ : Unit => .agg (keyOf l).cells.toArray) (fun _ => []) := by
  have hko : (b32At l 0) = keyOf l := by
    have h1 := b32At_drop (l := l) (o := 0) (by omega)
    rw [List.drop_zero, List.drop_of_length_le (by omega), List.append_nil] at h1
    unfold keyOf
    rw [dif_pos hl]
    exact Subtype.ext h1.symm
  rw [← hko]
  refine spec_of Tryz.func77 rfl (n := 16) rfl rfl ?_
  intro W
  refine h_pure (φ := ∃ b o, A = some ⟨b, o, none⟩) (fun w s => Rd.some (s.ok (.rd A (bc l)) (by simp)) (by rw [bc_length]; omega)) ?_
  rintro ⟨b, o, rfl⟩
  refine h_seq ?_
  refine h_reg ?_
  refine h_opX (x_alloc) fun g2 => ?_
  refine h_nil ?_
  refine q_then ?_
  refine h_seq ?_
  refine h_reg ?_
  refine h_opX (x_alloc) fun g3 => ?_
  refine h_nil ?_
  refine q_then ?_
  refine h_seq ?_
  refine h_seq ?_
  refine h_reg ?_
  refine h_op (r_assign rfl) ?_
  refine h_nil ?_
  refine q_then ?_
  refine h_block ?_
  change H _ _ _ _ _ (.blk g3 (bc (fillP (fun j => l.getD (0 + j) 0) 0)) _ :: _) _
  refine h_loop (fun (k : Nat) => k ≤ 32) (fun (k : Nat) => [(4, .int .i64 (k : Int)), (3, .pointer (some ⟨g3, 0, none⟩)), (2, .pointer (some ⟨g2, 0, none⟩)), (0, .slice (some ⟨b, o, none⟩) l.length c)]) (fun (k : Nat) => [.blk g3 (bc (fillP (fun j => l.getD (0 + j) 0) k)) 39, .blk g2 zB32.cells 39, .rd (some ⟨b, o, none⟩) (bc l)]) (fun (k : Nat) => 32 - k) 0 ((show 0 ≤ 32 by omega)) ⟨rfl, rfl, rfl, rfl, trivial⟩ (same) ?_
  rintro k hk
  refine h_seq ?_
  refine h_seq ?_
  refine h_reg ?_
  refine h_op (r_move rfl) ?_
  refine h_op (r_lss rfl rfl) ?_
  refine h_nil ?_
  refine q_then ?_
  refine h_cond rfl (fun hlt => ?_) (fun hlt => ?_)
  · have hfl := fillP_len (fun j => l.getD (0 + j) 0) (k := k) hk
    refine h_skip ?_
    refine q_then ?_
    refine h_seq ?_
    refine h_block ?_
    refine h_reg ?_
    refine h_op (r_move rfl) ?_
    refine h_op (r_move rfl) ?_
    refine h_op (r_move rfl) ?_
    refine h_op (r_idx rfl rfl) ?_
    refine h_op (r_nth rfl (bc_at' (l := l) (i := k) (by omega))) ?_
    refine h_op (r_idxA rfl rfl) ?_
    refine h_opS (s_setB rfl rfl) ?_
    refine h_nil ?_
    refine q_block ?_
    refine q_then ?_
    refine h_reg ?_
    refine h_op (r_move rfl) ?_
    refine h_op (r_add rfl rfl) ?_
    refine h_op (r_assign rfl) ?_
    refine h_nil ?_
    change H _ _ _ _ _ (.blk g3 (bc ((fillP (fun j => l.getD (0 + j) 0) k).set k (l.getD k 0))) _ :: _) _
    rw [show l.getD k 0 = l.getD (0 + k) 0 by rw [Nat.zero_add], fillP_set (fun j => l.getD (0 + j) 0) (by omega)]
    exact h_back (k + 1) ((show k + 1 ≤ 32 by omega)) ((show 32 - (k + 1) < 32 - k by omega)) ⟨rfl, rfl, rfl, rfl, trivial⟩ (same)
  · obtain rfl : k = 32 := by omega
    rw [fillP_all]
    change H _ _ _ _ _ (.blk g3 (b32At l 0).cells _ :: _) _
    refine h_exit ?_
    refine q_thenE ?_
    refine q_thenE ?_
    refine q_blockE ?_
    refine q_then ?_
    refine h_seq ?_
    refine h_reg ?_
    refine h_op (r_loadr rfl) ?_
    refine h_opS (s_storer rfl rfl) ?_
    refine h_nil ?_
    refine q_then ?_
    refine h_ret ?_
    exact h_ret1 rfl (rv_row rfl) fun w s => ⟨(), rfl, s.res (List.nil_sublist _) (by simp)⟩
theorem rDecode17_s (l : List UInt8) (hl : l.length ≤ 100000000) (B : Option Addr) (c : Nat) :
    Spec Tryz.prog 76 [.slice B l.length c].toArray [.rd B (bc l)] [] (decV (decB l)) (decN (decB l)) := by
  by_cases h36 : l.length < 36
  · have hE : decB l = .error 5 := by unfold decB; rw [if_pos h36]
    rw [hE]
    refine spec_of Tryz.func76 rfl (n := 83) rfl rfl ?_
    intro W
    refine h_seq ?_
    refine h_reg ?_
    refine h_opX (x_alloc) fun g2 => ?_
    refine h_op (r_assign rfl) ?_
    refine h_nil ?_
    refine q_then ?_
    refine h_seq ?_
    refine h_reg ?_
    refine h_opX (x_alloc) fun g4 => ?_
    refine h_nil ?_
    refine q_then ?_
    refine h_seq ?_
    refine h_seq ?_
    refine h_reg ?_
    refine h_op (r_move rfl) ?_
    refine h_op (r_len rfl) ?_
    refine h_op (r_bool (r_lss rfl rfl) (decide_eq_true (by omega))) ?_
    refine h_nil ?_
    refine q_then ?_
    refine h_condT rfl ?_
    refine h_seq ?_
    refine h_reg ?_
    refine h_op (r_loadr rfl) ?_
    refine h_opS (s_storer rfl rfl) ?_
    refine h_op (r_assign rfl) ?_
    refine h_nil ?_
    refine q_then ?_
    refine h_ret ?_
    refine q_thenR ?_
    exact h_ret2 rfl (rv_row rfl) rfl fun w s => ⟨(none, 0), rfl, s.res (List.nil_sublist _) (fun f hf => (List.not_mem_nil hf).elim)⟩
  · replace h36 : 36 ≤ l.length := by omega
    by_cases h01 : l.getD 0 0 = 1
    · have h0' : ((l.getD 0 0).toNat : Int) = 1 := by rw [h01]; rfl
      have h2 := (l.getD 2 0).toNat_lt
      have h3 := (l.getD 3 0).toNat_lt
      obtain ⟨d, hd⟩ : ∃ d, (l.getD 2 0).toNat * 256 + (l.getD 3 0).toNat = d := ⟨_, rfl⟩
      obtain ⟨k, hdK⟩ : ∃ k, (l.getD 1 0).toNat = k := ⟨_, rfl⟩
      have hdk : dK l = k := hdK
      by_cases hk2 : 1 < k
      · have hE : decB l = .error 7 := by unfold decB; rw [if_neg (by omega), if_neg (fun h => h h01), if_pos (by omega)]
        rw [hE]
        refine spec_of Tryz.func76 rfl (n := 83) rfl rfl ?_
        intro W
        refine h_pure (φ := ∃ b o, B = some ⟨b, o, none⟩) (fun w s => Rd.some (s.ok (.rd B (bc l)) (by simp)) (by rw [bc_length]; omega)) ?_
        rintro ⟨b, o, rfl⟩
        refine h_seq ?_
        refine h_reg ?_
        refine h_opX (x_alloc) fun g2 => ?_
        refine h_op (r_assign rfl) ?_
        refine h_nil ?_
        refine q_then ?_
        refine h_seq ?_
        refine h_reg ?_
        refine h_opX (x_alloc) fun g4 => ?_
        refine h_nil ?_
        refine q_then ?_
        refine h_seq ?_
        refine h_seq ?_
        refine h_reg ?_
        refine h_op (r_move rfl) ?_
        refine h_op (r_len rfl) ?_
        refine h_op (r_bool (r_lss rfl rfl) (decide_eq_false (by omega))) ?_
        refine h_nil ?_
        refine q_then ?_
        refine h_condF rfl ?_
        refine h_skip ?_
        refine q_then ?_
        refine h_seq ?_
        refine h_seq ?_
        refine h_reg ?_
        refine h_op (r_move rfl) ?_
        refine h_op (r_idx rfl rfl) ?_
        refine h_op (r_nth rfl (bc_at' (l := l) (i := 0) (by omega))) ?_
        refine h_op (r_bool (r_neq rfl rfl) (decide_eq_false (fun h => h h0'))) ?_
        refine h_nil ?_
        refine q_then ?_
        refine h_condF rfl ?_
        refine h_skip ?_
        refine q_then ?_
        refine h_seq ?_
        refine h_seq ?_
        refine h_reg ?_
        refine h_op (r_move rfl) ?_
        refine h_op (r_idx rfl rfl) ?_
        refine h_op (r_nth rfl (bc_at' (l := l) (i := 1) (by omega))) ?_
        refine h_op (r_bool (r_gtr rfl rfl) (decide_eq_true (by omega))) ?_
        refine h_nil ?_
        refine q_then ?_
        refine h_condT rfl ?_
        refine h_seq ?_
        refine h_reg ?_
        refine h_op (r_loadr rfl) ?_
        refine h_opS (s_storer rfl rfl) ?_
        refine h_op (r_assign rfl) ?_
        refine h_nil ?_
        refine q_then ?_
        refine h_ret ?_
        refine q_thenR ?_
        exact h_ret2 rfl (rv_row rfl) rfl fun w s => ⟨(none, 0), rfl, s.res (List.nil_sublist _) (fun f hf => (List.not_mem_nil hf).elim)⟩
      · rcases (by omega : k = 0 ∨ k = 1) with rfl | rfl
        · have hlf : dLf l = zLeaf := if_neg (by show ¬ (l.getD 1 0).toNat = 1; omega)
          have hbase : dBase l = 36 := by unfold dBase; omega
          refine spec_of Tryz.func76 rfl (n := 83) rfl rfl ?_
          intro W
          refine h_pure (φ := ∃ b o, B = some ⟨b, o, none⟩) (fun w s => Rd.some (s.ok (.rd B (bc l)) (by simp)) (by rw [bc_length]; omega)) ?_
          rintro ⟨b, o, rfl⟩
          refine h_seq ?_
          refine h_reg ?_
          refine h_opX (x_alloc) fun g2 => ?_
          refine h_op (r_assign rfl) ?_
          refine h_nil ?_
          refine q_then ?_
          refine h_seq ?_
          refine h_reg ?_
          refine h_opX (x_alloc) fun g4 => ?_
          refine h_nil ?_
          refine q_then ?_
          refine h_seq ?_
          refine h_seq ?_
          refine h_reg ?_
          refine h_op (r_move rfl) ?_
          refine h_op (r_len rfl) ?_
          refine h_op (r_bool (r_lss rfl rfl) (decide_eq_false (by omega))) ?_
          refine h_nil ?_
          refine q_then ?_
          refine h_condF rfl ?_
          refine h_skip ?_
          refine q_then ?_
          refine h_seq ?_
          refine h_seq ?_
          refine h_reg ?_
          refine h_op (r_move rfl) ?_
          refine h_op (r_idx rfl rfl) ?_
          refine h_op (r_nth rfl (bc_at' (l := l) (i := 0) (by omega))) ?_
          refine h_op (r_bool (r_neq rfl rfl) (decide_eq_false (fun h => h h0'))) ?_
          refine h_nil ?_
          refine q_then ?_
          refine h_condF rfl ?_
          refine h_skip ?_
          refine q_then ?_
          refine h_seq ?_
          refine h_seq ?_
          refine h_reg ?_
          refine h_op (r_move rfl) ?_
          refine h_op (r_idx rfl rfl) ?_
          refine h_op (r_nth rfl (bc_at' (l := l) (i := 1) (by omega))) ?_
          refine h_op (r_bool (r_gtr rfl rfl) (decide_eq_false (by omega))) ?_
          refine h_nil ?_
          refine q_then ?_
          refine h_condF rfl ?_
          refine h_skip ?_
          refine q_then ?_
          refine h_seq ?_
          refine h_join (fun (u : Nat) => [(5, .pointer (some ⟨u, 0, none⟩)), (4, .pointer (some ⟨g4, 0, none⟩)), (2, .pointer (some ⟨g2, 0, none⟩)), (0, .slice (some ⟨b, o, none⟩) l.length c)]) (fun (u : Nat) => [.blk u (Proof.cells ⟨((0 : Nat) : Int), (d : Int), zProof.leaf, b32At l 4, zProof.sibs⟩) 87, .blk g4 zProof.cells 87, .blk g2 zProof.cells 87, .rd (some ⟨b, o, none⟩) (bc l)]) (fun kk => ?_) ?_
          · refine ha_start [.rd (some ⟨b, o, none⟩) (bc l)] [] mixed (same) ?_
            refine ha_takeP 0 rfl (r_move rfl) ?_
            refine ha_takeP 1 rfl (r_idx rfl rfl) ?_
            refine ha_take 2 rfl (r_nth rfl (bc_at' (l := l) (i := 1) (by omega))) ?_
            refine ha_takeP 3 rfl (r_int (r_cUI rfl) (show _ = ((0 : Nat) : Int) from congrArg Nat.cast hdK)) ?_
            refine ha_takeP 4 rfl (r_move rfl) ?_
            refine ha_takeP 5 rfl (r_idx rfl rfl) ?_
            refine ha_take 6 rfl (r_nth rfl (bc_at' (l := l) (i := 2) (by omega))) ?_
            refine ha_takeP 7 rfl (r_int (r_cUI rfl) (show _ = (((l.getD 2 0).toNat : Nat) : Int) from rfl)) ?_
            refine ha_takeP 8 rfl (r_int (r_mul rfl rfl) (show _ = (((l.getD 2 0).toNat * 256 : Nat) : Int) by omega)) ?_
            refine ha_takeP 9 rfl (r_move rfl) ?_
            refine ha_takeP 10 rfl (r_idx rfl rfl) ?_
            refine ha_take 11 rfl (r_nth rfl (bc_at' (l := l) (i := 3) (by omega))) ?_
            refine ha_takeP 12 rfl (r_int (r_cUI rfl) (show _ = (((l.getD 3 0).toNat : Nat) : Int) from rfl)) ?_
            refine ha_takeP 13 rfl (r_int (r_add rfl rfl) (show _ = (d : Int) by omega)) ?_
            refine ha_takeP 14 rfl (r_move rfl) ?_
            refine ha_two 15 17 ?_ ?_
            · refine ho_C 15 rfl ((rPart_s l (some ⟨b, o, none⟩) c 4 (by omega)).comes) rfl rfl rfl (fun xx => same) fun _ => ?_
              refine ha_takeP 16 rfl (r_build rfl) ?_
              refine ha_one 17 ?_
              refine ho_X 17 rfl (rk (x_alloc)) (fun _ => same) fun g5 => ?_
              refine ha_one 18 ?_
              refine ho_SL 18 rfl (s_storer rfl rfl) ?_
              exact h_K (kk g5) (⟨rfl, rfl, rfl, rfl, trivial⟩) same
            · refine ho_X 17 rfl (rk (x_alloc)) (fun _ => same) fun g5 => ?_
              refine ha_one 15 ?_
              refine ho_C 15 rfl ((rPart_s l (some ⟨b, o, none⟩) c 4 (by omega)).comes) rfl rfl rfl (fun xx => same) fun _ => ?_
              refine ha_takeP 16 rfl (r_build rfl) ?_
              refine ha_one 18 ?_
              refine ho_SL 18 rfl (s_storer rfl rfl) ?_
              exact h_K (kk g5) (⟨rfl, rfl, rfl, rfl, trivial⟩) same
          rintro g5
          refine q_then ?_
          change H _ _ _ _ _ (.blk g5 (Proof.cells ⟨((0 : Nat) : Int), (d : Int), zLeaf, b32At l 4, ⟨none, 0, 0⟩⟩) _ :: _) _
          refine h_seq ?_
          refine h_reg ?_
          refine h_op (r_assign rfl) ?_
          refine h_nil ?_
          refine q_then ?_
          refine h_seq ?_
          refine h_seq ?_
          refine h_reg ?_
          refine h_op (r_field rfl) ?_
          refine h_op (r_loadc rfl) ?_
          refine h_op (r_bool (r_eql rfl rfl) (show _ = false from rfl)) ?_
          refine h_nil ?_
          refine q_then ?_
          refine h_condF rfl ?_
          refine h_skip ?_
          refine q_then ?_
          refine h_seq ?_
          refine h_block ?_
          refine h_nil_own 41 32 (xs := dgs (sibsAt l 36 0)) rfl ?_
          refine h_loop (fun (s : Nat × Option Addr × Nat) => s.1 ≤ 257 ∧ 36 + 32 * s.1 ≤ l.length) (fun (s : Nat × Option Addr × Nat) => [(6, .int .i64 ((36 + 32 * s.1 : Nat) : Int)), (5, .pointer (some ⟨g5, 0, none⟩)), (4, .pointer (some ⟨g4, 0, none⟩)), (2, .pointer (some ⟨g2, 0, none⟩)), (0, .slice (some ⟨b, o, none⟩) l.length c)]) (fun (s : Nat × Option Addr × Nat) => [.own (.slice s.2.1 s.1 s.2.2) s.1 41 32 (dgs (sibsAt l 36 s.1)), .blk g5 (Proof.cells ⟨((0 : Nat) : Int), (d : Int), zLeaf, b32At l 4, ⟨s.2.1, s.1, s.2.2⟩⟩) 87, .blk g4 zProof.cells 87, .blk g2 zProof.cells 87, .rd (some ⟨b, o, none⟩) (bc l)]) (fun (s : Nat × Option Addr × Nat) => 300 - s.1) (0, none, 0) (⟨Nat.zero_le _, by dsimp only; omega⟩) ⟨rfl, rfl, rfl, rfl, rfl, trivial⟩ (same) ?_
          rintro ⟨N, A, c9⟩ ⟨q1, q2⟩
          dsimp only at q1 q2 ⊢
          have htk : dgs (sibsAt l 36 N) ++ (b32At l (36 + 32 * N)).cells = dgs (sibsAt l 36 (N + 1)) := by rw [sibsAt_succ, dgs_append, dgs_one']
          by_cases hmore : 36 + 32 * N + 32 ≤ l.length
          · by_cases h6 : N ≤ 256
            · refine h_seq ?_
              refine h_seq ?_
              refine h_reg ?_
              refine h_op (r_move rfl) ?_
              refine h_op (r_int (r_add rfl rfl) (show _ = ((36 + 32 * N + 32 : Nat) : Int) by omega)) ?_
              refine h_op (r_move rfl) ?_
              refine h_op (r_len rfl) ?_
              refine h_op (r_bool (r_leq rfl rfl) (decide_eq_true (by omega))) ?_
              refine h_op (r_move rfl) ?_
              refine h_op (r_field rfl) ?_
              refine h_op (r_loadc rfl) ?_
              refine h_op (r_len rfl) ?_
              refine h_op (r_bool (r_leq rfl rfl) (decide_eq_true (show (N : Int) ≤ 256 by omega))) ?_
              refine h_op (r_pick rfl rfl) ?_
              refine h_nil ?_
              refine q_then ?_
              refine h_condT rfl ?_
              refine h_skip ?_
              refine q_then ?_
              refine h_block ?_
              refine h_seq ?_
              refine ha_start [.blk g5 (Proof.cells ⟨((0 : Nat) : Int), (d : Int), zLeaf, b32At l 4, ⟨A, N, c9⟩⟩) 87, .rd (some ⟨b, o, none⟩) (bc l)] [] mixed (same) ?_
              refine ha_takeP 0 rfl (r_field rfl) ?_
              refine ha_take 1 rfl (r_loadc rfl) ?_
              refine ha_takeP 2 rfl (r_move rfl) ?_
              refine ha_takeP 3 rfl (r_move rfl) ?_
              refine ha_one 4 ?_
              refine ho_C 4 rfl ((rPart_s l (some ⟨b, o, none⟩) c (36 + 32 * N) hmore).comes) rfl rfl rfl (fun xx => same) fun _ => ?_
              refine ha_one 5 ?_
              refine ho_X 5 rfl (rk (x_bsl rfl rfl)) (fun _ => same) fun g67 => ?_
              refine ha_one 6 ?_
              refine ho_X 6 rfl (rk (x_app rfl rfl (k := 32))) (fun _ => same) fun ⟨g68, c68⟩ => ?_
              refine ha_takeP 7 rfl (r_field rfl) ?_
              refine ha_one 8 ?_
              refine ho_SL 8 rfl (s_store rfl rfl rfl) ?_
              refine q_then ?_
              rw [htk]
              refine h_reg ?_
              refine h_op (r_move rfl) ?_
              refine h_op (r_int (r_add rfl rfl) (show _ = ((36 + 32 * (N + 1) : Nat) : Int) by omega)) ?_
              refine h_op (r_assign rfl) ?_
              refine h_nil ?_
              refine q_block ?_
              exact h_back (N + 1, some ⟨g68, 0, none⟩, c68) (⟨by dsimp only; omega, by dsimp only; omega⟩) ((show 300 - (N + 1) < 300 - N by omega)) ⟨rfl, rfl, rfl, rfl, rfl, trivial⟩ (same)
            · have hE := decB_bad (l := l) h36 h01 (by omega) (by omega)
              rw [hE]
              refine h_seq ?_
              refine h_seq ?_
              refine h_reg ?_
              refine h_op (r_move rfl) ?_
              refine h_op (r_int (r_add rfl rfl) (show _ = ((36 + 32 * N + 32 : Nat) : Int) by omega)) ?_
              refine h_op (r_move rfl) ?_
              refine h_op (r_len rfl) ?_
              refine h_op (r_bool (r_leq rfl rfl) (decide_eq_true (by omega))) ?_
              refine h_op (r_move rfl) ?_
              refine h_op (r_field rfl) ?_
              refine h_op (r_loadc rfl) ?_
              refine h_op (r_len rfl) ?_
              refine h_op (r_bool (r_leq rfl rfl) (decide_eq_false (show ¬ (N : Int) ≤ 256 by omega))) ?_
              refine h_op (r_pick rfl rfl) ?_
              refine h_nil ?_
              refine q_then ?_
              refine h_condF rfl ?_
              refine h_exit ?_
              refine q_thenE ?_
              refine q_thenE ?_
              refine q_blockE ?_
              refine q_then ?_
              refine h_seq ?_
              refine h_seq ?_
              refine h_reg ?_
              refine h_op (r_move rfl) ?_
              refine h_op (r_move rfl) ?_
              refine h_op (r_len rfl) ?_
              refine h_op (r_bool (r_neq rfl rfl) (decide_eq_true (by omega))) ?_
              refine h_op (r_move rfl) ?_
              refine h_opOff ?_
              refine h_opOff ?_
              refine h_opOff ?_
              refine h_op (r_pick rfl rfl) ?_
              refine h_nil ?_
              refine q_then ?_
              refine h_condT rfl ?_
              refine h_seq ?_
              refine h_reg ?_
              refine h_op (r_loadr rfl) ?_
              refine h_opS (s_storer rfl rfl) ?_
              refine h_op (r_assign rfl) ?_
              refine h_nil ?_
              refine q_then ?_
              refine h_ret ?_
              refine q_thenR ?_
              exact h_ret2 rfl (rv_row rfl) rfl fun w s => ⟨(none, 0), rfl, s.res (List.nil_sublist _) (fun f hf => (List.not_mem_nil hf).elim)⟩
          · by_cases hat : 36 + 32 * N = l.length
            · have hE := decB_end (l := l) h36 h01 (by omega) (N := N) (by omega) q1
              have hDP : ∀ A c, (dDP l N).pr A c = ⟨((0 : Nat) : Int), (d : Int), zLeaf, b32At l 4, ⟨A, N, c⟩⟩ := fun A c => by
                unfold DP.pr dDP
                rw [hlf, sibsAt_len, hdk, hd]
              have hss : (dDP l N).ss = sibsAt l 36 N := by show sibsAt l (dBase l) N = _; rw [hbase]
              have hcc := rCheck_s ⟨((0 : Nat) : Int), (d : Int), zLeaf, b32At l 4, ⟨A, N, c9⟩⟩
              have hca : checkP ⟨((0 : Nat) : Int), (d : Int), zLeaf, b32At l 4, ⟨A, N, c9⟩⟩ = checkP ((dDP l N).pr none 0) := by rw [hDP]; rfl
              refine h_seq ?_
              refine h_seq ?_
              refine h_reg ?_
              refine h_op (r_move rfl) ?_
              refine h_op (r_int (r_add rfl rfl) (show _ = ((36 + 32 * N + 32 : Nat) : Int) by omega)) ?_
              refine h_op (r_move rfl) ?_
              refine h_op (r_len rfl) ?_
              refine h_op (r_bool (r_leq rfl rfl) (decide_eq_false (by omega))) ?_
              refine h_op (r_move rfl) ?_
              refine h_opOff ?_
              refine h_opOff ?_
              refine h_opOff ?_
              refine h_opOff ?_
              refine h_op (r_pick rfl rfl) ?_
              refine h_nil ?_
              refine q_then ?_
              refine h_condF rfl ?_
              by_cases hck : checkP ((dDP l N).pr none 0) = 0
              · rw [if_pos hck] at hE
                rw [hE]
                rw [hca, hck] at hcc
                refine h_exit ?_
                refine q_thenE ?_
                refine q_thenE ?_
                refine q_blockE ?_
                refine q_then ?_
                refine h_seq ?_
                refine h_seq ?_
                refine h_reg ?_
                refine h_op (r_move rfl) ?_
                refine h_op (r_move rfl) ?_
                refine h_op (r_len rfl) ?_
                refine h_op (r_bool (r_neq rfl rfl) (decide_eq_false (by omega))) ?_
                refine h_op (r_move rfl) ?_
                refine h_op (r_loadr rfl) ?_
                refine h_call (hcc.comes) rfl rfl rfl fun _ => ?_
                refine h_op (r_bool (r_neq rfl rfl) (decide_eq_false (fun h => h rfl))) ?_
                refine h_op (r_pick rfl rfl) ?_
                refine h_nil ?_
                refine q_then ?_
                refine h_condF rfl ?_
                refine h_skip ?_
                refine q_then ?_
                refine h_seq ?_
                refine h_reg ?_
                refine h_op (r_loadr rfl) ?_
                refine h_opS (s_storer rfl rfl) ?_
                refine h_op (r_assign rfl) ?_
                refine h_nil ?_
                refine q_then ?_
                refine h_ret ?_
                refine h_ret2 rfl (rv_row rfl) rfl fun w s => ⟨(A, c9), ?_, ?_⟩
                · show _ = Ending.returned (.tuple #[.agg ((dDP l N).pr A c9).cells.toArray, .int .i64 0])
                  rw [hDP]
                · have hsl : (dDP l N).ss.length = N := by rw [hss, sibsAt_len]
                  show Rx _ _ _ [.own (.slice A (dDP l N).ss.length c9) (dDP l N).ss.length 41 32 (dgs (dDP l N).ss)]
                  rw [hsl, hss]
                  exact (same (L' := [.own (.slice A N c9) N 41 32 (dgs (sibsAt l 36 N))]) w s).res (List.Sublist.refl _) (by simp [Fa.wr])
              · rw [if_neg hck] at hE
                rw [hE]
                rw [hca] at hcc
                refine h_exit ?_
                refine q_thenE ?_
                refine q_thenE ?_
                refine q_blockE ?_
                refine q_then ?_
                refine h_seq ?_
                refine h_seq ?_
                refine h_reg ?_
                refine h_op (r_move rfl) ?_
                refine h_op (r_move rfl) ?_
                refine h_op (r_len rfl) ?_
                refine h_op (r_bool (r_neq rfl rfl) (decide_eq_false (by omega))) ?_
                refine h_op (r_move rfl) ?_
                refine h_op (r_loadr rfl) ?_
                refine h_call (hcc.comes) rfl rfl rfl fun _ => ?_
                refine h_op (r_bool (r_neq rfl rfl) (decide_eq_true hck)) ?_
                refine h_op (r_pick rfl rfl) ?_
                refine h_nil ?_
                refine q_then ?_
                refine h_condT rfl ?_
                refine h_seq ?_
                refine h_reg ?_
                refine h_op (r_loadr rfl) ?_
                refine h_opS (s_storer rfl rfl) ?_
                refine h_op (r_assign rfl) ?_
                refine h_nil ?_
                refine q_then ?_
                refine h_ret ?_
                refine q_thenR ?_
                exact h_ret2 rfl (rv_row rfl) rfl fun w s => ⟨(none, 0), rfl, s.res (List.nil_sublist _) (fun f hf => (List.not_mem_nil hf).elim)⟩
            · have hE := decB_bad (l := l) h36 h01 (by omega) (by omega)
              rw [hE]
              refine h_seq ?_
              refine h_seq ?_
              refine h_reg ?_
              refine h_op (r_move rfl) ?_
              refine h_op (r_int (r_add rfl rfl) (show _ = ((36 + 32 * N + 32 : Nat) : Int) by omega)) ?_
              refine h_op (r_move rfl) ?_
              refine h_op (r_len rfl) ?_
              refine h_op (r_bool (r_leq rfl rfl) (decide_eq_false (by omega))) ?_
              refine h_op (r_move rfl) ?_
              refine h_opOff ?_
              refine h_opOff ?_
              refine h_opOff ?_
              refine h_opOff ?_
              refine h_op (r_pick rfl rfl) ?_
              refine h_nil ?_
              refine q_then ?_
              refine h_condF rfl ?_
              refine h_exit ?_
              refine q_thenE ?_
              refine q_thenE ?_
              refine q_blockE ?_
              refine q_then ?_
              refine h_seq ?_
              refine h_seq ?_
              refine h_reg ?_
              refine h_op (r_move rfl) ?_
              refine h_op (r_move rfl) ?_
              refine h_op (r_len rfl) ?_
              refine h_op (r_bool (r_neq rfl rfl) (decide_eq_true (by omega))) ?_
              refine h_op (r_move rfl) ?_
              refine h_opOff ?_
              refine h_opOff ?_
              refine h_opOff ?_
              refine h_op (r_pick rfl rfl) ?_
              refine h_nil ?_
              refine q_then ?_
              refine h_condT rfl ?_
              refine h_seq ?_
              refine h_reg ?_
              refine h_op (r_loadr rfl) ?_
              refine h_opS (s_storer rfl rfl) ?_
              refine h_op (r_assign rfl) ?_
              refine h_nil ?_
              refine q_then ?_
              refine h_ret ?_
              refine q_thenR ?_
              exact h_ret2 rfl (rv_row rfl) rfl fun w s => ⟨(none, 0), rfl, s.res (List.nil_sublist _) (fun f hf => (List.not_mem_nil hf).elim)⟩
        · have hlf : dLf l = ⟨b32At l 36, b32At l 68⟩ := if_pos hdK
          have hbase : dBase l = 100 := by unfold dBase; omega
          by_cases h100 : 100 ≤ l.length
          · refine spec_of Tryz.func76 rfl (n := 83) rfl rfl ?_
            intro W
            refine h_pure (φ := ∃ b o, B = some ⟨b, o, none⟩) (fun w s => Rd.some (s.ok (.rd B (bc l)) (by simp)) (by rw [bc_length]; omega)) ?_
            rintro ⟨b, o, rfl⟩
            refine h_seq ?_
            refine h_reg ?_
            refine h_opX (x_alloc) fun g2 => ?_
            refine h_op (r_assign rfl) ?_
            refine h_nil ?_
            refine q_then ?_
            refine h_seq ?_
            refine h_reg ?_
            refine h_opX (x_alloc) fun g4 => ?_
            refine h_nil ?_
            refine q_then ?_
            refine h_seq ?_
            refine h_seq ?_
            refine h_reg ?_
            refine h_op (r_move rfl) ?_
            refine h_op (r_len rfl) ?_
            refine h_op (r_bool (r_lss rfl rfl) (decide_eq_false (by omega))) ?_
            refine h_nil ?_
            refine q_then ?_
            refine h_condF rfl ?_
            refine h_skip ?_
            refine q_then ?_
            refine h_seq ?_
            refine h_seq ?_
            refine h_reg ?_
            refine h_op (r_move rfl) ?_
            refine h_op (r_idx rfl rfl) ?_
            refine h_op (r_nth rfl (bc_at' (l := l) (i := 0) (by omega))) ?_
            refine h_op (r_bool (r_neq rfl rfl) (decide_eq_false (fun h => h h0'))) ?_
            refine h_nil ?_
            refine q_then ?_
            refine h_condF rfl ?_
            refine h_skip ?_
            refine q_then ?_
            refine h_seq ?_
            refine h_seq ?_
            refine h_reg ?_
            refine h_op (r_move rfl) ?_
            refine h_op (r_idx rfl rfl) ?_
            refine h_op (r_nth rfl (bc_at' (l := l) (i := 1) (by omega))) ?_
            refine h_op (r_bool (r_gtr rfl rfl) (decide_eq_false (by omega))) ?_
            refine h_nil ?_
            refine q_then ?_
            refine h_condF rfl ?_
            refine h_skip ?_
            refine q_then ?_
            refine h_seq ?_
            refine h_join (fun (u : Nat) => [(5, .pointer (some ⟨u, 0, none⟩)), (4, .pointer (some ⟨g4, 0, none⟩)), (2, .pointer (some ⟨g2, 0, none⟩)), (0, .slice (some ⟨b, o, none⟩) l.length c)]) (fun (u : Nat) => [.blk u (Proof.cells ⟨((1 : Nat) : Int), (d : Int), zProof.leaf, b32At l 4, zProof.sibs⟩) 87, .blk g4 zProof.cells 87, .blk g2 zProof.cells 87, .rd (some ⟨b, o, none⟩) (bc l)]) (fun kk => ?_) ?_
            · refine ha_start [.rd (some ⟨b, o, none⟩) (bc l)] [] mixed (same) ?_
              refine ha_takeP 0 rfl (r_move rfl) ?_
              refine ha_takeP 1 rfl (r_idx rfl rfl) ?_
              refine ha_take 2 rfl (r_nth rfl (bc_at' (l := l) (i := 1) (by omega))) ?_
              refine ha_takeP 3 rfl (r_int (r_cUI rfl) (show _ = ((1 : Nat) : Int) from congrArg Nat.cast hdK)) ?_
              refine ha_takeP 4 rfl (r_move rfl) ?_
              refine ha_takeP 5 rfl (r_idx rfl rfl) ?_
              refine ha_take 6 rfl (r_nth rfl (bc_at' (l := l) (i := 2) (by omega))) ?_
              refine ha_takeP 7 rfl (r_int (r_cUI rfl) (show _ = (((l.getD 2 0).toNat : Nat) : Int) from rfl)) ?_
              refine ha_takeP 8 rfl (r_int (r_mul rfl rfl) (show _ = (((l.getD 2 0).toNat * 256 : Nat) : Int) by omega)) ?_
              refine ha_takeP 9 rfl (r_move rfl) ?_
              refine ha_takeP 10 rfl (r_idx rfl rfl) ?_
              refine ha_take 11 rfl (r_nth rfl (bc_at' (l := l) (i := 3) (by omega))) ?_
              refine ha_takeP 12 rfl (r_int (r_cUI rfl) (show _ = (((l.getD 3 0).toNat : Nat) : Int) from rfl)) ?_
              refine ha_takeP 13 rfl (r_int (r_add rfl rfl) (show _ = (d : Int) by omega)) ?_
              refine ha_takeP 14 rfl (r_move rfl) ?_
              refine ha_two 15 17 ?_ ?_
              · refine ho_C 15 rfl ((rPart_s l (some ⟨b, o, none⟩) c 4 (by omega)).comes) rfl rfl rfl (fun xx => same) fun _ => ?_
                refine ha_takeP 16 rfl (r_build rfl) ?_
                refine ha_one 17 ?_
                refine ho_X 17 rfl (rk (x_alloc)) (fun _ => same) fun g5 => ?_
                refine ha_one 18 ?_
                refine ho_SL 18 rfl (s_storer rfl rfl) ?_
                exact h_K (kk g5) (⟨rfl, rfl, rfl, rfl, trivial⟩) same
              · refine ho_X 17 rfl (rk (x_alloc)) (fun _ => same) fun g5 => ?_
                refine ha_one 15 ?_
                refine ho_C 15 rfl ((rPart_s l (some ⟨b, o, none⟩) c 4 (by omega)).comes) rfl rfl rfl (fun xx => same) fun _ => ?_
                refine ha_takeP 16 rfl (r_build rfl) ?_
                refine ha_one 18 ?_
                refine ho_SL 18 rfl (s_storer rfl rfl) ?_
                exact h_K (kk g5) (⟨rfl, rfl, rfl, rfl, trivial⟩) same
            rintro g5
            refine q_then ?_
            change H _ _ _ _ _ (.blk g5 (Proof.cells ⟨((1 : Nat) : Int), (d : Int), zLeaf, b32At l 4, ⟨none, 0, 0⟩⟩) _ :: _) _
            refine h_seq ?_
            refine h_reg ?_
            refine h_op (r_assign rfl) ?_
            refine h_nil ?_
            refine q_then ?_
            refine h_seq ?_
            refine h_seq ?_
            refine h_reg ?_
            refine h_op (r_field rfl) ?_
            refine h_op (r_loadc rfl) ?_
            refine h_op (r_bool (r_eql rfl rfl) (show _ = true from rfl)) ?_
            refine h_nil ?_
            refine q_then ?_
            refine h_condT rfl ?_
            refine h_seq ?_
            refine h_seq ?_
            refine h_reg ?_
            refine h_op (r_move rfl) ?_
            refine h_op (r_len rfl) ?_
            refine h_op (r_bool (r_lss rfl rfl) (decide_eq_false (by omega))) ?_
            refine h_nil ?_
            refine q_then ?_
            refine h_condF rfl ?_
            refine h_skip ?_
            refine q_then ?_
            refine h_seq ?_
            refine h_reg ?_
            refine h_op (r_move rfl) ?_
            refine h_call ((rPart_s l (some ⟨b, o, none⟩) c 36 (by omega)).comes) rfl rfl rfl fun _ => ?_
            refine h_op (r_move rfl) ?_
            refine h_call ((rPart_s l (some ⟨b, o, none⟩) c 68 (by omega)).comes) rfl rfl rfl fun _ => ?_
            refine h_op (r_build rfl) ?_
            refine h_op (r_field rfl) ?_
            refine h_opS (s_storer rfl rfl) ?_
            refine h_nil ?_
            refine q_then ?_
            refine h_reg ?_
            refine h_op (r_assign rfl) ?_
            refine h_nil ?_
            refine q_then ?_
            refine h_seq ?_
            refine h_block ?_
            refine h_nil_own 41 32 (xs := dgs (sibsAt l 100 0)) rfl ?_
            refine h_loop (fun (s : Nat × Option Addr × Nat) => s.1 ≤ 257 ∧ 100 + 32 * s.1 ≤ l.length) (fun (s : Nat × Option Addr × Nat) => [(6, .int .i64 ((100 + 32 * s.1 : Nat) : Int)), (5, .pointer (some ⟨g5, 0, none⟩)), (4, .pointer (some ⟨g4, 0, none⟩)), (2, .pointer (some ⟨g2, 0, none⟩)), (0, .slice (some ⟨b, o, none⟩) l.length c)]) (fun (s : Nat × Option Addr × Nat) => [.own (.slice s.2.1 s.1 s.2.2) s.1 41 32 (dgs (sibsAt l 100 s.1)), .blk g5 (Proof.cells ⟨((1 : Nat) : Int), (d : Int), ⟨b32At l 36, b32At l 68⟩, b32At l 4, ⟨s.2.1, s.1, s.2.2⟩⟩) 87, .blk g4 zProof.cells 87, .blk g2 zProof.cells 87, .rd (some ⟨b, o, none⟩) (bc l)]) (fun (s : Nat × Option Addr × Nat) => 300 - s.1) (0, none, 0) (⟨Nat.zero_le _, by dsimp only; omega⟩) ⟨rfl, rfl, rfl, rfl, rfl, trivial⟩ (same) ?_
            rintro ⟨N, A, c9⟩ ⟨q1, q2⟩
            dsimp only at q1 q2 ⊢
            have htk : dgs (sibsAt l 100 N) ++ (b32At l (100 + 32 * N)).cells = dgs (sibsAt l 100 (N + 1)) := by rw [sibsAt_succ, dgs_append, dgs_one']
            by_cases hmore : 100 + 32 * N + 32 ≤ l.length
            · by_cases h6 : N ≤ 256
              · refine h_seq ?_
                refine h_seq ?_
                refine h_reg ?_
                refine h_op (r_move rfl) ?_
                refine h_op (r_int (r_add rfl rfl) (show _ = ((100 + 32 * N + 32 : Nat) : Int) by omega)) ?_
                refine h_op (r_move rfl) ?_
                refine h_op (r_len rfl) ?_
                refine h_op (r_bool (r_leq rfl rfl) (decide_eq_true (by omega))) ?_
                refine h_op (r_move rfl) ?_
                refine h_op (r_field rfl) ?_
                refine h_op (r_loadc rfl) ?_
                refine h_op (r_len rfl) ?_
                refine h_op (r_bool (r_leq rfl rfl) (decide_eq_true (show (N : Int) ≤ 256 by omega))) ?_
                refine h_op (r_pick rfl rfl) ?_
                refine h_nil ?_
                refine q_then ?_
                refine h_condT rfl ?_
                refine h_skip ?_
                refine q_then ?_
                refine h_block ?_
                refine h_seq ?_
                refine ha_start [.blk g5 (Proof.cells ⟨((1 : Nat) : Int), (d : Int), ⟨b32At l 36, b32At l 68⟩, b32At l 4, ⟨A, N, c9⟩⟩) 87, .rd (some ⟨b, o, none⟩) (bc l)] [] mixed (same) ?_
                refine ha_takeP 0 rfl (r_field rfl) ?_
                refine ha_take 1 rfl (r_loadc rfl) ?_
                refine ha_takeP 2 rfl (r_move rfl) ?_
                refine ha_takeP 3 rfl (r_move rfl) ?_
                refine ha_one 4 ?_
                refine ho_C 4 rfl ((rPart_s l (some ⟨b, o, none⟩) c (100 + 32 * N) hmore).comes) rfl rfl rfl (fun xx => same) fun _ => ?_
                refine ha_one 5 ?_
                refine ho_X 5 rfl (rk (x_bsl rfl rfl)) (fun _ => same) fun g67 => ?_
                refine ha_one 6 ?_
                refine ho_X 6 rfl (rk (x_app rfl rfl (k := 32))) (fun _ => same) fun ⟨g68, c68⟩ => ?_
                refine ha_takeP 7 rfl (r_field rfl) ?_
                refine ha_one 8 ?_
                refine ho_SL 8 rfl (s_store rfl rfl rfl) ?_
                refine q_then ?_
                rw [htk]
                refine h_reg ?_
                refine h_op (r_move rfl) ?_
                refine h_op (r_int (r_add rfl rfl) (show _ = ((100 + 32 * (N + 1) : Nat) : Int) by omega)) ?_
                refine h_op (r_assign rfl) ?_
                refine h_nil ?_
                refine q_block ?_
                exact h_back (N + 1, some ⟨g68, 0, none⟩, c68) (⟨by dsimp only; omega, by dsimp only; omega⟩) ((show 300 - (N + 1) < 300 - N by omega)) ⟨rfl, rfl, rfl, rfl, rfl, trivial⟩ (same)
              · have hE := decB_bad (l := l) h36 h01 (by omega) (by omega)
                rw [hE]
                refine h_seq ?_
                refine h_seq ?_
                refine h_reg ?_
                refine h_op (r_move rfl) ?_
                refine h_op (r_int (r_add rfl rfl) (show _ = ((100 + 32 * N + 32 : Nat) : Int) by omega)) ?_
                refine h_op (r_move rfl) ?_
                refine h_op (r_len rfl) ?_
                refine h_op (r_bool (r_leq rfl rfl) (decide_eq_true (by omega))) ?_
                refine h_op (r_move rfl) ?_
                refine h_op (r_field rfl) ?_
                refine h_op (r_loadc rfl) ?_
                refine h_op (r_len rfl) ?_
                refine h_op (r_bool (r_leq rfl rfl) (decide_eq_false (show ¬ (N : Int) ≤ 256 by omega))) ?_
                refine h_op (r_pick rfl rfl) ?_
                refine h_nil ?_
                refine q_then ?_
                refine h_condF rfl ?_
                refine h_exit ?_
                refine q_thenE ?_
                refine q_thenE ?_
                refine q_blockE ?_
                refine q_then ?_
                refine h_seq ?_
                refine h_seq ?_
                refine h_reg ?_
                refine h_op (r_move rfl) ?_
                refine h_op (r_move rfl) ?_
                refine h_op (r_len rfl) ?_
                refine h_op (r_bool (r_neq rfl rfl) (decide_eq_true (by omega))) ?_
                refine h_op (r_move rfl) ?_
                refine h_opOff ?_
                refine h_opOff ?_
                refine h_opOff ?_
                refine h_op (r_pick rfl rfl) ?_
                refine h_nil ?_
                refine q_then ?_
                refine h_condT rfl ?_
                refine h_seq ?_
                refine h_reg ?_
                refine h_op (r_loadr rfl) ?_
                refine h_opS (s_storer rfl rfl) ?_
                refine h_op (r_assign rfl) ?_
                refine h_nil ?_
                refine q_then ?_
                refine h_ret ?_
                refine q_thenR ?_
                exact h_ret2 rfl (rv_row rfl) rfl fun w s => ⟨(none, 0), rfl, s.res (List.nil_sublist _) (fun f hf => (List.not_mem_nil hf).elim)⟩
            · by_cases hat : 100 + 32 * N = l.length
              · have hE := decB_end (l := l) h36 h01 (by omega) (N := N) (by omega) q1
                have hDP : ∀ A c, (dDP l N).pr A c = ⟨((1 : Nat) : Int), (d : Int), ⟨b32At l 36, b32At l 68⟩, b32At l 4, ⟨A, N, c⟩⟩ := fun A c => by
                  unfold DP.pr dDP
                  rw [hlf, sibsAt_len, hdk, hd]
                have hss : (dDP l N).ss = sibsAt l 100 N := by show sibsAt l (dBase l) N = _; rw [hbase]
                have hcc := rCheck_s ⟨((1 : Nat) : Int), (d : Int), ⟨b32At l 36, b32At l 68⟩, b32At l 4, ⟨A, N, c9⟩⟩
                have hca : checkP ⟨((1 : Nat) : Int), (d : Int), ⟨b32At l 36, b32At l 68⟩, b32At l 4, ⟨A, N, c9⟩⟩ = checkP ((dDP l N).pr none 0) := by rw [hDP]; rfl
                refine h_seq ?_
                refine h_seq ?_
                refine h_reg ?_
                refine h_op (r_move rfl) ?_
                refine h_op (r_int (r_add rfl rfl) (show _ = ((100 + 32 * N + 32 : Nat) : Int) by omega)) ?_
                refine h_op (r_move rfl) ?_
                refine h_op (r_len rfl) ?_
                refine h_op (r_bool (r_leq rfl rfl) (decide_eq_false (by omega))) ?_
                refine h_op (r_move rfl) ?_
                refine h_opOff ?_
                refine h_opOff ?_
                refine h_opOff ?_
                refine h_opOff ?_
                refine h_op (r_pick rfl rfl) ?_
                refine h_nil ?_
                refine q_then ?_
                refine h_condF rfl ?_
                by_cases hck : checkP ((dDP l N).pr none 0) = 0
                · rw [if_pos hck] at hE
                  rw [hE]
                  rw [hca, hck] at hcc
                  refine h_exit ?_
                  refine q_thenE ?_
                  refine q_thenE ?_
                  refine q_blockE ?_
                  refine q_then ?_
                  refine h_seq ?_
                  refine h_seq ?_
                  refine h_reg ?_
                  refine h_op (r_move rfl) ?_
                  refine h_op (r_move rfl) ?_
                  refine h_op (r_len rfl) ?_
                  refine h_op (r_bool (r_neq rfl rfl) (decide_eq_false (by omega))) ?_
                  refine h_op (r_move rfl) ?_
                  refine h_op (r_loadr rfl) ?_
                  refine h_call (hcc.comes) rfl rfl rfl fun _ => ?_
                  refine h_op (r_bool (r_neq rfl rfl) (decide_eq_false (fun h => h rfl))) ?_
                  refine h_op (r_pick rfl rfl) ?_
                  refine h_nil ?_
                  refine q_then ?_
                  refine h_condF rfl ?_
                  refine h_skip ?_
                  refine q_then ?_
                  refine h_seq ?_
                  refine h_reg ?_
                  refine h_op (r_loadr rfl) ?_
                  refine h_opS (s_storer rfl rfl) ?_
                  refine h_op (r_assign rfl) ?_
                  refine h_nil ?_
                  refine q_then ?_
                  refine h_ret ?_
                  refine h_ret2 rfl (rv_row rfl) rfl fun w s => ⟨(A, c9), ?_, ?_⟩
                  · show _ = Ending.returned (.tuple #[.agg ((dDP l N).pr A c9).cells.toArray, .int .i64 0])
                    rw [hDP]
                  · have hsl : (dDP l N).ss.length = N := by rw [hss, sibsAt_len]
                    show Rx _ _ _ [.own (.slice A (dDP l N).ss.length c9) (dDP l N).ss.length 41 32 (dgs (dDP l N).ss)]
                    rw [hsl, hss]
                    exact (same (L' := [.own (.slice A N c9) N 41 32 (dgs (sibsAt l 100 N))]) w s).res (List.Sublist.refl _) (by simp [Fa.wr])
                · rw [if_neg hck] at hE
                  rw [hE]
                  rw [hca] at hcc
                  refine h_exit ?_
                  refine q_thenE ?_
                  refine q_thenE ?_
                  refine q_blockE ?_
                  refine q_then ?_
                  refine h_seq ?_
                  refine h_seq ?_
                  refine h_reg ?_
                  refine h_op (r_move rfl) ?_
                  refine h_op (r_move rfl) ?_
                  refine h_op (r_len rfl) ?_
                  refine h_op (r_bool (r_neq rfl rfl) (decide_eq_false (by omega))) ?_
                  refine h_op (r_move rfl) ?_
                  refine h_op (r_loadr rfl) ?_
                  refine h_call (hcc.comes) rfl rfl rfl fun _ => ?_
                  refine h_op (r_bool (r_neq rfl rfl) (decide_eq_true hck)) ?_
                  refine h_op (r_pick rfl rfl) ?_
                  refine h_nil ?_
                  refine q_then ?_
                  refine h_condT rfl ?_
                  refine h_seq ?_
                  refine h_reg ?_
                  refine h_op (r_loadr rfl) ?_
                  refine h_opS (s_storer rfl rfl) ?_
                  refine h_op (r_assign rfl) ?_
                  refine h_nil ?_
                  refine q_then ?_
                  refine h_ret ?_
                  refine q_thenR ?_
                  exact h_ret2 rfl (rv_row rfl) rfl fun w s => ⟨(none, 0), rfl, s.res (List.nil_sublist _) (fun f hf => (List.not_mem_nil hf).elim)⟩
              · have hE := decB_bad (l := l) h36 h01 (by omega) (by omega)
                rw [hE]
                refine h_seq ?_
                refine h_seq ?_
                refine h_reg ?_
                refine h_op (r_move rfl) ?_
                refine h_op (r_int (r_add rfl rfl) (show _ = ((100 + 32 * N + 32 : Nat) : Int) by omega)) ?_
                refine h_op (r_move rfl) ?_
                refine h_op (r_len rfl) ?_
                refine h_op (r_bool (r_leq rfl rfl) (decide_eq_false (by omega))) ?_
                refine h_op (r_move rfl) ?_
                refine h_opOff ?_
                refine h_opOff ?_
                refine h_opOff ?_
                refine h_opOff ?_
                refine h_op (r_pick rfl rfl) ?_
                refine h_nil ?_
                refine q_then ?_
                refine h_condF rfl ?_
                refine h_exit ?_
                refine q_thenE ?_
                refine q_thenE ?_
                refine q_blockE ?_
                refine q_then ?_
                refine h_seq ?_
                refine h_seq ?_
                refine h_reg ?_
                refine h_op (r_move rfl) ?_
                refine h_op (r_move rfl) ?_
                refine h_op (r_len rfl) ?_
                refine h_op (r_bool (r_neq rfl rfl) (decide_eq_true (by omega))) ?_
                refine h_op (r_move rfl) ?_
                refine h_opOff ?_
                refine h_opOff ?_
                refine h_opOff ?_
                refine h_op (r_pick rfl rfl) ?_
                refine h_nil ?_
                refine q_then ?_
                refine h_condT rfl ?_
                refine h_seq ?_
                refine h_reg ?_
                refine h_op (r_loadr rfl) ?_
                refine h_opS (s_storer rfl rfl) ?_
                refine h_op (r_assign rfl) ?_
                refine h_nil ?_
                refine q_then ?_
                refine h_ret ?_
                refine q_thenR ?_
                exact h_ret2 rfl (rv_row rfl) rfl fun w s => ⟨(none, 0), rfl, s.res (List.nil_sublist _) (fun f hf => (List.not_mem_nil hf).elim)⟩
          · have hE := decB_bad (l := l) h36 h01 (by omega) (.inl (by omega))
            rw [hE]
            refine spec_of Tryz.func76 rfl (n := 83) rfl rfl ?_
            intro W
            refine h_pure (φ := ∃ b o, B = some ⟨b, o, none⟩) (fun w s => Rd.some (s.ok (.rd B (bc l)) (by simp)) (by rw [bc_length]; omega)) ?_
            rintro ⟨b, o, rfl⟩
            refine h_seq ?_
            refine h_reg ?_
            refine h_opX (x_alloc) fun g2 => ?_
            refine h_op (r_assign rfl) ?_
            refine h_nil ?_
            refine q_then ?_
            refine h_seq ?_
            refine h_reg ?_
            refine h_opX (x_alloc) fun g4 => ?_
            refine h_nil ?_
            refine q_then ?_
            refine h_seq ?_
            refine h_seq ?_
            refine h_reg ?_
            refine h_op (r_move rfl) ?_
            refine h_op (r_len rfl) ?_
            refine h_op (r_bool (r_lss rfl rfl) (decide_eq_false (by omega))) ?_
            refine h_nil ?_
            refine q_then ?_
            refine h_condF rfl ?_
            refine h_skip ?_
            refine q_then ?_
            refine h_seq ?_
            refine h_seq ?_
            refine h_reg ?_
            refine h_op (r_move rfl) ?_
            refine h_op (r_idx rfl rfl) ?_
            refine h_op (r_nth rfl (bc_at' (l := l) (i := 0) (by omega))) ?_
            refine h_op (r_bool (r_neq rfl rfl) (decide_eq_false (fun h => h h0'))) ?_
            refine h_nil ?_
            refine q_then ?_
            refine h_condF rfl ?_
            refine h_skip ?_
            refine q_then ?_
            refine h_seq ?_
            refine h_seq ?_
            refine h_reg ?_
            refine h_op (r_move rfl) ?_
            refine h_op (r_idx rfl rfl) ?_
            refine h_op (r_nth rfl (bc_at' (l := l) (i := 1) (by omega))) ?_
            refine h_op (r_bool (r_gtr rfl rfl) (decide_eq_false (by omega))) ?_
            refine h_nil ?_
            refine q_then ?_
            refine h_condF rfl ?_
            refine h_skip ?_
            refine q_then ?_
            refine h_seq ?_
            refine h_join (fun (u : Nat) => [(5, .pointer (some ⟨u, 0, none⟩)), (4, .pointer (some ⟨g4, 0, none⟩)), (2, .pointer (some ⟨g2, 0, none⟩)), (0, .slice (some ⟨b, o, none⟩) l.length c)]) (fun (u : Nat) => [.blk u (Proof.cells ⟨((1 : Nat) : Int), (d : Int), zProof.leaf, b32At l 4, zProof.sibs⟩) 87, .blk g4 zProof.cells 87, .blk g2 zProof.cells 87, .rd (some ⟨b, o, none⟩) (bc l)]) (fun kk => ?_) ?_
            · refine ha_start [.rd (some ⟨b, o, none⟩) (bc l)] [] mixed (same) ?_
              refine ha_takeP 0 rfl (r_move rfl) ?_
              refine ha_takeP 1 rfl (r_idx rfl rfl) ?_
              refine ha_take 2 rfl (r_nth rfl (bc_at' (l := l) (i := 1) (by omega))) ?_
              refine ha_takeP 3 rfl (r_int (r_cUI rfl) (show _ = ((1 : Nat) : Int) from congrArg Nat.cast hdK)) ?_
              refine ha_takeP 4 rfl (r_move rfl) ?_
              refine ha_takeP 5 rfl (r_idx rfl rfl) ?_
              refine ha_take 6 rfl (r_nth rfl (bc_at' (l := l) (i := 2) (by omega))) ?_
              refine ha_takeP 7 rfl (r_int (r_cUI rfl) (show _ = (((l.getD 2 0).toNat : Nat) : Int) from rfl)) ?_
              refine ha_takeP 8 rfl (r_int (r_mul rfl rfl) (show _ = (((l.getD 2 0).toNat * 256 : Nat) : Int) by omega)) ?_
              refine ha_takeP 9 rfl (r_move rfl) ?_
              refine ha_takeP 10 rfl (r_idx rfl rfl) ?_
              refine ha_take 11 rfl (r_nth rfl (bc_at' (l := l) (i := 3) (by omega))) ?_
              refine ha_takeP 12 rfl (r_int (r_cUI rfl) (show _ = (((l.getD 3 0).toNat : Nat) : Int) from rfl)) ?_
              refine ha_takeP 13 rfl (r_int (r_add rfl rfl) (show _ = (d : Int) by omega)) ?_
              refine ha_takeP 14 rfl (r_move rfl) ?_
              refine ha_two 15 17 ?_ ?_
              · refine ho_C 15 rfl ((rPart_s l (some ⟨b, o, none⟩) c 4 (by omega)).comes) rfl rfl rfl (fun xx => same) fun _ => ?_
                refine ha_takeP 16 rfl (r_build rfl) ?_
                refine ha_one 17 ?_
                refine ho_X 17 rfl (rk (x_alloc)) (fun _ => same) fun g5 => ?_
                refine ha_one 18 ?_
                refine ho_SL 18 rfl (s_storer rfl rfl) ?_
                exact h_K (kk g5) (⟨rfl, rfl, rfl, rfl, trivial⟩) same
              · refine ho_X 17 rfl (rk (x_alloc)) (fun _ => same) fun g5 => ?_
                refine ha_one 15 ?_
                refine ho_C 15 rfl ((rPart_s l (some ⟨b, o, none⟩) c 4 (by omega)).comes) rfl rfl rfl (fun xx => same) fun _ => ?_
                refine ha_takeP 16 rfl (r_build rfl) ?_
                refine ha_one 18 ?_
                refine ho_SL 18 rfl (s_storer rfl rfl) ?_
                exact h_K (kk g5) (⟨rfl, rfl, rfl, rfl, trivial⟩) same
            rintro g5
            refine q_then ?_
            change H _ _ _ _ _ (.blk g5 (Proof.cells ⟨((1 : Nat) : Int), (d : Int), zLeaf, b32At l 4, ⟨none, 0, 0⟩⟩) _ :: _) _
            refine h_seq ?_
            refine h_reg ?_
            refine h_op (r_assign rfl) ?_
            refine h_nil ?_
            refine q_then ?_
            refine h_seq ?_
            refine h_seq ?_
            refine h_reg ?_
            refine h_op (r_field rfl) ?_
            refine h_op (r_loadc rfl) ?_
            refine h_op (r_bool (r_eql rfl rfl) (show _ = true from rfl)) ?_
            refine h_nil ?_
            refine q_then ?_
            refine h_condT rfl ?_
            refine h_seq ?_
            refine h_seq ?_
            refine h_reg ?_
            refine h_op (r_move rfl) ?_
            refine h_op (r_len rfl) ?_
            refine h_op (r_bool (r_lss rfl rfl) (decide_eq_true (by omega))) ?_
            refine h_nil ?_
            refine q_then ?_
            refine h_condT rfl ?_
            refine h_seq ?_
            refine h_reg ?_
            refine h_op (r_loadr rfl) ?_
            refine h_opS (s_storer rfl rfl) ?_
            refine h_op (r_assign rfl) ?_
            refine h_nil ?_
            refine q_then ?_
            refine h_ret ?_
            refine q_thenR ?_
            refine q_thenR ?_
            exact h_ret2 rfl (rv_row rfl) rfl fun w s => ⟨(none, 0), rfl, s.res (List.nil_sublist _) (fun f hf => (List.not_mem_nil hf).elim)⟩
    · have h0' : ¬ ((l.getD 0 0).toNat : Int) = 1 := fun e => h01 (UInt8.toNat_inj.1 (by rw [show (1 : UInt8).toNat = 1 from rfl]; omega))
      have hE : decB l = .error 6 := by unfold decB; rw [if_neg (by omega), if_pos h01]
      rw [hE]
      refine spec_of Tryz.func76 rfl (n := 83) rfl rfl ?_
      intro W
      refine h_pure (φ := ∃ b o, B = some ⟨b, o, none⟩) (fun w s => Rd.some (s.ok (.rd B (bc l)) (by simp)) (by rw [bc_length]; omega)) ?_
      rintro ⟨b, o, rfl⟩
      refine h_seq ?_
      refine h_reg ?_
      refine h_opX (x_alloc) fun g2 => ?_
      refine h_op (r_assign rfl) ?_
      refine h_nil ?_
      refine q_then ?_
      refine h_seq ?_
      refine h_reg ?_
      refine h_opX (x_alloc) fun g4 => ?_
      refine h_nil ?_
      refine q_then ?_
      refine h_seq ?_
      refine h_seq ?_
      refine h_reg ?_
      refine h_op (r_move rfl) ?_
      refine h_op (r_len rfl) ?_
      refine h_op (r_bool (r_lss rfl rfl) (decide_eq_false (by omega))) ?_
      refine h_nil ?_
      refine q_then ?_
      refine h_condF rfl ?_
      refine h_skip ?_
      refine q_then ?_
      refine h_seq ?_
      refine h_seq ?_
      refine h_reg ?_
      refine h_op (r_move rfl) ?_
      refine h_op (r_idx rfl rfl) ?_
      refine h_op (r_nth rfl (bc_at' (l := l) (i := 0) (by omega))) ?_
      refine h_op (r_bool (r_neq rfl rfl) (decide_eq_true h0')) ?_
      refine h_nil ?_
      refine q_then ?_
      refine h_condT rfl ?_
      refine h_seq ?_
      refine h_reg ?_
      refine h_op (r_loadr rfl) ?_
      refine h_opS (s_storer rfl rfl) ?_
      refine h_op (r_assign rfl) ?_
      refine h_nil ?_
      refine q_then ?_
      refine h_ret ?_
      refine q_thenR ?_
      exact h_ret2 rfl (rv_row rfl) rfl fun w s => ⟨(none, 0), rfl, s.res (List.nil_sublist _) (fun f hf => (List.not_mem_nil hf).elim)⟩
end Go.Proofs.YtgfkbeipckbkiaaGreatDoor
/- U96 -/
namespace Go.Proofs.YtgfkbeipckbkiaaGreatDoor
set_option linter.unusedSimpArgs false
set_option linter.unusedVariables false
open Go.RowKit
theorem r_ifnn {P : Program} {n : Nat} {D : List Deferred} {E : Env} {L : List Fa} {T T' : TypeId} {t : Nat} {u : TypeId} {v : Value} [hT : TIf P T] (hx : ev E (.tmp t) = some (.iface u v)) : Runs0 P n D E L (.binOp .neq T (.tmp t) (.const .nilIface) T') (.bool true) := fun a w ka s o ho =>
  run_bin ho (ka.ev hx) (v := .nilIface) rfl rfl (run_neq_held_nil w T u v hT.und)
theorem r_nilnn {P : Program} {n : Nat} {D : List Deferred} {E : Env} {L : List Fa} {T T' : TypeId} {t : Nat} [hT : TIf P T] (hx : ev E (.tmp t) = some .nilIface) : Runs0 P n D E L (.binOp .neq T (.tmp t) (.const .nilIface) T') (.bool false) := fun a w ka s o ho =>
  run_bin ho (ka.ev hx) (v := .nilIface) rfl rfl (run_neq_nil_nil w T hT.und)
/-- the code of what is found -/
def errE : Option (Nat × Int) → Int
  | none => 0
  | some (_, e) => e
section
variable (n : Nat) (hn : n ≤ 256) (h : Zh) [hT : RdZ h (some ⟨2, 0, none⟩) hashT] [hE : RdZ h (some ⟨0, 0, none⟩) [rty 76]] (gh gc k : Nat) (hk : k ≤ 100000000) (root : Sl) (c : Claim) (b : Sl) (rb kb vb bb : List UInt8) [hR : SlZ h root rb] [hK : SlZ h c.key kb] [hV : SlZ h c.value vb] [hB : SlZ h b bb] (hvl : vb.length ≤ 100000000) (hbl : bb.length ≤ 100000000)
include hn hk hvl hbl
theorem vCheck_s : Spec Tryz.prog 44 [.pointer (some ⟨gh, 0, none⟩), .slice root.A root.n root.c, .agg c.cells.toArray, .slice b.A b.n b.c].toArray [HR gh gc n] [.zone true h, CN gc k] (fun u : {u : Zh × Nat // LeZ h u.1 ∧ u.2 ≤ k + 259} => .int .i64 (errE (firstC (vcode n root c rb kb vb bb)))) (fun u => [.zone true u.1.1, CN gc u.1.2]) := by
  have hV := Verify_s n hn h gh gc k hk root c b rb kb vb bb hvl hbl
  generalize firstC (vcode n root c rb kb vb bb) = r at hV ⊢
  rcases r with _ | ⟨i, e⟩
  · replace hV : Spec Tryz.prog 36 [.pointer (some ⟨gh, 0, none⟩), .slice root.A root.n root.c, .agg c.cells.toArray, .slice b.A b.n b.c].toArray [HR gh gc n] [.zone true h, CN gc k] (fun u : {u : Nat × Zh × Nat // LeZ h u.2.1 ∧ u.2.2 ≤ k + 259} => .nilIface) (fun u => [.zone true u.1.2.1, CN gc u.1.2.2]) := hV
    refine spec_of Tryz.func44 rfl (n := 25) rfl rfl ?_
    intro W
    refine h_seq ?_
    refine h_reg ?_
    refine h_opX (x_box rfl) fun g6 => ?_
    refine h_op (r_assign rfl) ?_
    refine h_nil ?_
    refine q_then ?_
    refine h_seq ?_
    refine h_reg ?_
    refine h_opX (x_alloc) fun g9 => ?_
    refine h_nil ?_
    refine q_then ?_
    refine h_seq ?_
    refine h_seq ?_
    refine h_reg ?_
    refine h_op (r_move rfl) ?_
    refine h_op (r_move rfl) ?_
    refine h_op (r_loadr rfl) ?_
    refine h_op (r_move rfl) ?_
    refine h_call (hV.comes) rfl rfl rfl fun ⟨⟨g15, z, k'⟩, hz, hk'⟩ => ?_
    dsimp only at hz hk' ⊢
    refine h_op (r_assign rfl) ?_
    refine h_nil ?_
    refine q_then ?_
    refine h_seq ?_
    refine h_reg ?_
    refine h_op (r_move rfl) ?_
    refine h_op (r_nilnn rfl) ?_
    refine h_op (r_move rfl) ?_
    refine h_opOff ?_
    refine h_opOff ?_
    refine h_opOff ?_
    refine h_opOff ?_
    refine h_op (r_pick rfl rfl) ?_
    refine h_nil ?_
    refine q_then ?_
    refine h_condF rfl ?_
    refine h_skip ?_
    refine q_then ?_
    refine h_seq ?_
    refine h_reg ?_
    refine h_op (r_loadc rfl) ?_
    refine h_op (r_assign rfl) ?_
    refine h_nil ?_
    refine q_then ?_
    refine h_ret ?_
    exact h_ret1 rfl rfl fun w s => ⟨⟨(z, k'), hz, hk'⟩, rfl, (same (L' := [.zone true z, CN gc k']) w s).res (List.Sublist.refl _) (by simp [Fa.wr])⟩
  · replace hV : Spec Tryz.prog 36 [.pointer (some ⟨gh, 0, none⟩), .slice root.A root.n root.c, .agg c.cells.toArray, .slice b.A b.n b.c].toArray [HR gh gc n] [.zone true h, CN gc k] (fun u : {u : Nat × Zh × Nat // LeZ h u.2.1 ∧ u.2.2 ≤ k + 259} => .iface 162 (.pointer (some ⟨u.1.1, 0, none⟩))) (fun u => [.zone true u.1.2.1, CN gc u.1.2.2, .blk u.1.1 (fltC verifyB (i : Int) e) 166]) := hV
    refine spec_of Tryz.func44 rfl (n := 25) rfl rfl ?_
    intro W
    refine h_seq ?_
    refine h_reg ?_
    refine h_opX (x_box rfl) fun g6 => ?_
    refine h_op (r_assign rfl) ?_
    refine h_nil ?_
    refine q_then ?_
    refine h_seq ?_
    refine h_reg ?_
    refine h_opX (x_alloc) fun g9 => ?_
    refine h_nil ?_
    refine q_then ?_
    refine h_seq ?_
    refine h_seq ?_
    refine h_reg ?_
    refine h_op (r_move rfl) ?_
    refine h_op (r_move rfl) ?_
    refine h_op (r_loadr rfl) ?_
    refine h_op (r_move rfl) ?_
    refine h_call (hV.comes) rfl rfl rfl fun ⟨⟨g15, z, k'⟩, hz, hk'⟩ => ?_
    dsimp only at hz hk' ⊢
    have hEz : RdZ z (some ⟨0, 0, none⟩) [rty 76] := hE.mono hz
    refine h_op (r_assign rfl) ?_
    refine h_nil ?_
    refine q_then ?_
    refine h_seq ?_
    refine h_reg ?_
    refine h_op (r_move rfl) ?_
    refine h_op (r_ifnn rfl) ?_
    refine h_op (r_move rfl) ?_
    refine h_op (r_move rfl) ?_
    refine h_op (r_mkI rfl) ?_
    refine h_call ((as_s2 g15 g9 verifyB (i : Int) e).comes) rfl rfl rfl fun _ => ?_
    refine h_op (r_not rfl) ?_
    refine h_op (r_pick rfl rfl) ?_
    refine h_nil ?_
    refine q_then ?_
    refine h_condF rfl ?_
    refine h_skip ?_
    refine q_then ?_
    refine h_seq ?_
    refine h_reg ?_
    refine h_op (r_loadc rfl) ?_
    refine h_op (r_assign rfl) ?_
    refine h_nil ?_
    refine q_then ?_
    refine h_ret ?_
    exact h_ret1 rfl rfl fun w s => ⟨⟨(z, k'), hz, hk'⟩, rfl, (same (L' := [.zone true z, CN gc k']) w s).res (List.Sublist.refl _) (by simp [Fa.wr])⟩
end
/-- a proof whose form is right, as what is decoded -/
def dpOf (p : Proof) (ss : List B32) : DP := ⟨p.kind.toNat, p.depth.toNat, p.leaf, p.bitmap, ss⟩
theorem ok_kind {p : Proof} (h : checkP p = 0) : p.kind = 0 ∨ p.kind = 1 := by simpa [okJ] using checkP_zero h 0 (by omega)
theorem dpOf_pr {p : Proof} {ss : List B32} (hs : p.sibs.n = ss.length) (hc : checkP p = 0) : p = (dpOf p ss).pr p.sibs.A p.sibs.c := by
  have h1 := ok_depth hc
  have h2 := ok_kind hc
  obtain ⟨k, d, lf, bm, A, N, c⟩ := p
  dsimp only at hs h1 h2
  subst hs
  unfold DP.pr dpOf
  dsimp only
  rw [Int.toNat_of_nonneg (by omega), Int.toNat_of_nonneg (by omega)]
theorem checkP_sib (p : DP) (A A' : Option Addr) (c c' : Nat) : checkP (p.pr A c) = checkP (p.pr A' c') := rfl
section
variable (n : Nat) (hn : n ≤ 256) (h : Zh) [hT : RdZ h (some ⟨2, 0, none⟩) hashT] (gh gc k : Nat) (hk : k ≤ 100000000) (root : B32) (c : Claim) (kb vb : List UInt8) [hK : SlZ h c.key kb] [hV : SlZ h c.value vb] (hvl : vb.length ≤ 100000000) (p : Proof) (ss : List B32) (hs : p.sibs.n = ss.length) [hS : RdZ h p.sibs.A (dgs ss)]
include hn hk hvl hs
/-- whether a decoded proof shows a claim -/
def accV (n : Nat) (root : B32) (c : Claim) (kb vb : List UInt8) (p : Proof) (ss : List B32) : Bool := decide (claimE c = 0) && decide (checkP p = 0) && (supP p (keyOf kb) (valD n c.present vb) c.present && decide (rootP n (dpOf p ss) (keyOf kb) = root))
theorem Accepts_s : Spec Tryz.prog 43 [.pointer (some ⟨gh, 0, none⟩), .agg root.cells.toArray, .agg c.cells.toArray, .agg p.cells.toArray].toArray [HR gh gc n] [.zone true h, CN gc k] (fun u : {u : Zh × Nat // LeZ h u.1 ∧ u.2 ≤ k + 259} => .bool (accV n root c kb vb p ss)) (fun u => [.zone true u.1.1, CN gc u.1.2]) := by
  have hkn := hK.len
  have hC := Claim_s c
  have hCh := Check_s p
  refine spec_of Tryz.func43 rfl (n := 30) rfl rfl ?_
  intro W
  by_cases h1 : claimE c = 0
  · rw [h1] at hC
    have hk32 : kb.length = 32 := by
      unfold claimE at h1
      split at h1
      · omega
      · cases h1
    by_cases h2 : checkP p = 0
    · rw [h2] at hCh
      have hpe := dpOf_pr hs h2
      refine h_seq ?_
      refine h_reg ?_
      refine h_opX (x_box rfl) fun g5 => ?_
      refine h_opX (x_box rfl) fun g6 => ?_
      refine h_opX (x_box rfl) fun g7 => ?_
      refine h_op (r_assign rfl) ?_
      refine h_nil ?_
      refine q_then ?_
      refine h_seq ?_
      refine h_seq ?_
      refine h_reg ?_
      refine h_op (r_loadr rfl) ?_
      refine h_call (hC.comes) rfl rfl rfl fun _ => ?_
      refine h_op (r_bool (r_neq rfl rfl) rfl) ?_
      refine h_op (r_move rfl) ?_
      refine h_op (r_loadr rfl) ?_
      refine h_call (hCh.comes) rfl rfl rfl fun _ => ?_
      refine h_op (r_bool (r_neq rfl rfl) rfl) ?_
      refine h_op (r_pick rfl rfl) ?_
      refine h_nil ?_
      refine q_then ?_
      refine h_condF rfl ?_
      refine h_skip ?_
      refine q_then ?_
      refine h_seq ?_
      refine ha_start [.blk g5 root.cells 41, .blk g6 c.cells 70, .blk g7 p.cells 87] [] mixed (same) ?_
      refine ha_takeP 0 rfl (r_move rfl) ?_
      refine ha_takeP 1 rfl (r_slA rfl) ?_
      refine ha_take 2 rfl (r_loadr rfl) ?_
      refine ha_take 3 rfl (r_loadr rfl) ?_
      refine ha_takeP 4 rfl (r_build rfl) ?_
      refine ha_one 5 ?_
      refine ho_X 5 rfl (rk (x_box rfl)) (fun _ => same) fun g23 => ?_
      refine ha_takeP 6 rfl (r_assign rfl) ?_
      refine ha_done (by kernel_rfl) ?_
      refine q_then ?_
      change H _ _ _ _ _ (.blk g23 (Chk.cells ⟨some ⟨gh, 0, none⟩, ⟨some ⟨g5, 0, none⟩, 32, 32⟩, c, ⟨none, 0, 0⟩, p⟩) _ :: _) _
      refine h_freeze g5 (cs := root.cells) (T := 41) fun z hz hrz => ?_
      have hTz : RdZ z (some ⟨2, 0, none⟩) hashT := hT.mono hz
      have hKz : SlZ z c.key kb := hK.mono hz
      have hVz : SlZ z c.value vb := hV.mono hz
      have hSz : RdZ z p.sibs.A (dgs ss) := hS.mono hz
      have hRz : SlZ z ⟨some ⟨g5, 0, none⟩, 32, 32⟩ root.1 := ⟨root.2.symm, Nat.le_refl _, (fun h => by cases h), hrz⟩
      have hrk : keyOf root.1 = root := by unfold keyOf; rw [dif_pos root.2]
      have hsu := supports_s n hn z gh gc k g23 (by omega) ⟨some ⟨gh, 0, none⟩, ⟨some ⟨g5, 0, none⟩, 32, 32⟩, c, ⟨none, 0, 0⟩, p⟩ rfl kb vb hk32 hvl
      obtain ⟨bs, hbs⟩ : ∃ bs, supP p (keyOf kb) (valD n c.present vb) c.present = bs := ⟨_, rfl⟩
      rw [hbs] at hsu
      have hdd : (dpOf p ss).d ≤ 256 := by have h9 := ok_depth h2; show p.depth.toNat ≤ 256; omega
      have hck2 : checkP ((dpOf p ss).pr none 0) = 0 := by rw [checkP_sib _ none p.sibs.A 0 p.sibs.c, ← hpe]; exact h2
      have hle := leads_s n hn z gh gc (k + if c.present then 1 else 0) g23 (by split <;> omega) ⟨some ⟨gh, 0, none⟩, ⟨some ⟨g5, 0, none⟩, 32, 32⟩, c, ⟨none, 0, 0⟩, p⟩ rfl kb hk32 root.1 root.2 (dpOf p ss) p.sibs.A p.sibs.c hpe hck2
      rw [hrk] at hle
      rw [show accV n root c kb vb p ss = (bs && decide (rootP n (dpOf p ss) (keyOf kb) = root)) by unfold accV; rw [hbs, decide_eq_true h1, decide_eq_true h2]; rfl]
      cases bs
      · refine h_seq ?_
        refine h_reg ?_
        refine h_op (r_move rfl) ?_
        refine h_call (hsu.comes) rfl rfl rfl fun _ => ?_
        refine h_op (r_move rfl) ?_
        refine h_opOff ?_
        refine h_opOff ?_
        refine h_op (r_pick rfl rfl) ?_
        refine h_op (r_assign rfl) ?_
        refine h_nil ?_
        refine q_then ?_
        refine h_ret ?_
        exact h_ret1 rfl rfl fun w s => ⟨⟨(z, k + if c.present then 1 else 0), hz, by dsimp only; split <;> omega⟩, rfl, (same (L' := [.zone true z, CN gc (k + if c.present then 1 else 0)]) w s).res (List.Sublist.refl _) (by simp [Fa.wr])⟩
      · refine h_seq ?_
        refine h_reg ?_
        refine h_op (r_move rfl) ?_
        refine h_call (hsu.comes) rfl rfl rfl fun _ => ?_
        refine h_op (r_move rfl) ?_
        refine h_op (r_move rfl) ?_
        refine h_call (hle.comes) rfl rfl rfl fun _ => ?_
        refine h_op (r_pick rfl rfl) ?_
        refine h_op (r_assign rfl) ?_
        refine h_nil ?_
        refine q_then ?_
        refine h_ret ?_
        exact h_ret1 rfl rfl fun w s => ⟨⟨(z, (k + if c.present then 1 else 0) + 1 + (dpOf p ss).d + 1), hz, by dsimp only; split <;> omega⟩, rfl, (same (L' := [.zone true z, CN gc ((k + if c.present then 1 else 0) + 1 + (dpOf p ss).d + 1)]) w s).res (List.Sublist.refl _) (by simp [Fa.wr])⟩
    · rw [show accV n root c kb vb p ss = false by unfold accV; rw [decide_eq_false h2]; simp]
      refine h_seq ?_
      refine h_reg ?_
      refine h_opX (x_box rfl) fun g5 => ?_
      refine h_opX (x_box rfl) fun g6 => ?_
      refine h_opX (x_box rfl) fun g7 => ?_
      refine h_op (r_assign rfl) ?_
      refine h_nil ?_
      refine q_then ?_
      refine h_seq ?_
      refine h_seq ?_
      refine h_reg ?_
      refine h_op (r_loadr rfl) ?_
      refine h_call (hC.comes) rfl rfl rfl fun _ => ?_
      refine h_op (r_bool (r_neq rfl rfl) rfl) ?_
      refine h_op (r_move rfl) ?_
      refine h_op (r_loadr rfl) ?_
      refine h_call (hCh.comes) rfl rfl rfl fun _ => ?_
      refine h_op (r_bool (r_neq rfl rfl) (decide_eq_true h2)) ?_
      refine h_op (r_pick rfl rfl) ?_
      refine h_nil ?_
      refine q_then ?_
      refine h_condT rfl ?_
      refine h_seq ?_
      refine h_reg ?_
      refine h_op (r_assign rfl) ?_
      refine h_nil ?_
      refine q_then ?_
      refine h_ret ?_
      refine q_thenR ?_
      exact h_ret1 rfl rfl fun w s => ⟨⟨(h, k), LeZ.refl h, Nat.le_add_right _ _⟩, rfl, (same (L' := [.zone true h, CN gc k]) w s).res (List.Sublist.refl _) (by simp [Fa.wr])⟩
  · rw [show accV n root c kb vb p ss = false by unfold accV; rw [decide_eq_false h1]; simp]
    refine h_seq ?_
    refine h_reg ?_
    refine h_opX (x_box rfl) fun g5 => ?_
    refine h_opX (x_box rfl) fun g6 => ?_
    refine h_opX (x_box rfl) fun g7 => ?_
    refine h_op (r_assign rfl) ?_
    refine h_nil ?_
    refine q_then ?_
    refine h_seq ?_
    refine h_seq ?_
    refine h_reg ?_
    refine h_op (r_loadr rfl) ?_
    refine h_call (hC.comes) rfl rfl rfl fun _ => ?_
    refine h_op (r_bool (r_neq rfl rfl) (decide_eq_true h1)) ?_
    refine h_op (r_move rfl) ?_
    refine h_opOff ?_
    refine h_opOff ?_
    refine h_opOff ?_
    refine h_op (r_pick rfl rfl) ?_
    refine h_nil ?_
    refine q_then ?_
    refine h_condT rfl ?_
    refine h_seq ?_
    refine h_reg ?_
    refine h_op (r_assign rfl) ?_
    refine h_nil ?_
    refine q_then ?_
    refine h_ret ?_
    refine q_thenR ?_
    exact h_ret1 rfl rfl fun w s => ⟨⟨(h, k), LeZ.refl h, Nat.le_add_right _ _⟩, rfl, (same (L' := [.zone true h, CN gc k]) w s).res (List.Sublist.refl _) (by simp [Fa.wr])⟩
end
end Go.Proofs.YtgfkbeipckbkiaaGreatDoor
/- U45r -/
namespace Go.Proofs.YtgfkbeipckbkiaaGreatDoor
set_option linter.unusedSimpArgs false
set_option linter.unusedVariables false
open Go.RowKit
theorem rSupports_s (p : Proof) (key val : B32) (present : Bool) : Spec Tryz.prog 82 [.agg p.cells.toArray, .agg key.cells.toArray, .agg val.cells.toArray, .bool present].toArray [] [] (fun _ : Unit => .bool (supP p key val present)) (fun _ => []) := by
  have hlf : (p.leaf = ⟨key, val⟩) ↔ (p.leaf.key = key ∧ p.leaf.value = val) := by
    constructor
    · intro e; rw [e]; exact ⟨rfl, rfl⟩
    · rintro ⟨e1, e2⟩; rw [← e1, ← e2]
  unfold supP
  refine spec_of Tryz.func82 rfl (n := 52) rfl rfl ?_
  intro W
  rcases present with _ | _
  · rw [if_neg (by simp)]
    by_cases h0 : p.kind = 0
    · rw [if_neg (by omega), decide_eq_true h0]
      refine h_seq ?_
      refine h_reg ?_
      refine h_opX (x_box rfl) fun g4 => ?_
      refine h_opX (x_box rfl) fun g5 => ?_
      refine h_opX (x_box rfl) fun g6 => ?_
      refine h_op (r_assign rfl) ?_
      refine h_nil ?_
      refine q_then ?_
      refine h_seq ?_
      refine h_seq ?_
      refine h_reg ?_
      refine h_op (r_move rfl) ?_
      refine h_nil ?_
      refine q_then ?_
      refine h_condF rfl ?_
      refine h_skip ?_
      refine q_then ?_
      refine h_seq ?_
      refine ha_start [.blk g4 p.cells 87, .blk g5 key.cells 39] [] mixed (same) ?_
      refine ha_takeP 0 rfl (r_field rfl) ?_
      refine ha_take 1 rfl (r_loadc rfl) ?_
      refine ha_takeP 2 rfl (r_bool (r_eql rfl rfl) (decide_eq_true h0)) ?_
      refine ha_takeP 3 rfl (r_move rfl) ?_
      refine ha_off 4 rfl ?_
      refine ha_off 5 rfl ?_
      refine ha_off 6 rfl ?_
      refine ha_off 7 rfl ?_
      refine ha_off 8 rfl ?_
      refine ha_off 9 rfl ?_
      refine ha_off 10 rfl ?_
      refine ha_off 11 rfl ?_
      refine ha_off 12 rfl ?_
      refine ha_off 13 rfl ?_
      refine ha_off 14 rfl ?_
      refine ha_off 15 rfl ?_
      refine ha_off 16 rfl ?_
      refine ha_off 17 rfl ?_
      refine ha_off 18 rfl ?_
      refine ha_off 19 rfl ?_
      refine ha_off 20 rfl ?_
      refine ha_off 21 rfl ?_
      refine ha_off 22 rfl ?_
      refine ha_off 23 rfl ?_
      refine ha_takeP 24 rfl (r_pick rfl rfl) ?_
      refine ha_takeP 25 rfl (r_assign rfl) ?_
      refine ha_done (by kernel_rfl) ?_
      refine q_then ?_
      refine h_ret ?_
      exact h_ret1 rfl rfl fun w s => ⟨(), rfl, s.res (List.nil_sublist _) (by simp)⟩
    · by_cases h1 : p.kind = 1
      · rw [if_pos h1]
        by_cases h2 : p.leaf.key = key
        · rw [decide_eq_false (show ¬ (p.leaf.key ≠ key ∧ p.depth ≤ (common p.leaf.key key : Int)) from fun e => e.1 h2)]
          refine h_seq ?_
          refine h_reg ?_
          refine h_opX (x_box rfl) fun g4 => ?_
          refine h_opX (x_box rfl) fun g5 => ?_
          refine h_opX (x_box rfl) fun g6 => ?_
          refine h_op (r_assign rfl) ?_
          refine h_nil ?_
          refine q_then ?_
          refine h_seq ?_
          refine h_seq ?_
          refine h_reg ?_
          refine h_op (r_move rfl) ?_
          refine h_nil ?_
          refine q_then ?_
          refine h_condF rfl ?_
          refine h_skip ?_
          refine q_then ?_
          refine h_seq ?_
          refine ha_start [.blk g4 p.cells 87, .blk g5 key.cells 39] [] mixed (same) ?_
          refine ha_takeP 0 rfl (r_field rfl) ?_
          refine ha_take 1 rfl (r_loadc rfl) ?_
          refine ha_takeP 2 rfl (r_bool (r_eql rfl rfl) (decide_eq_false h0)) ?_
          refine ha_takeP 3 rfl (r_move rfl) ?_
          refine ha_takeP 4 rfl (r_field rfl) ?_
          refine ha_take 5 rfl (r_loadc rfl) ?_
          refine ha_takeP 6 rfl (r_bool (r_eql rfl rfl) (decide_eq_true h1)) ?_
          refine ha_takeP 7 rfl (r_move rfl) ?_
          refine ha_takeP 8 rfl (r_field rfl) ?_
          refine ha_takeP 9 rfl (r_field rfl) ?_
          refine ha_take 10 rfl (r_loadr rfl) ?_
          refine ha_take 11 rfl (r_loadr rfl) ?_
          refine ha_takeP 12 rfl (r_bool (r_ner rfl rfl) (decide_eq_false (fun e => e h2))) ?_
          refine ha_takeP 13 rfl (r_pick rfl rfl) ?_
          refine ha_takeP 14 rfl (r_move rfl) ?_
          refine ha_off 15 rfl ?_
          refine ha_off 16 rfl ?_
          refine ha_off 17 rfl ?_
          refine ha_off 18 rfl ?_
          refine ha_off 19 rfl ?_
          refine ha_off 20 rfl ?_
          refine ha_off 21 rfl ?_
          refine ha_off 22 rfl ?_
          refine ha_takeP 23 rfl (r_pick rfl rfl) ?_
          refine ha_takeP 24 rfl (r_pick rfl rfl) ?_
          refine ha_takeP 25 rfl (r_assign rfl) ?_
          refine ha_done (by kernel_rfl) ?_
          refine q_then ?_
          refine h_ret ?_
          exact h_ret1 rfl rfl fun w s => ⟨(), rfl, s.res (List.nil_sublist _) (by simp)⟩
        · refine h_seq ?_
          refine h_reg ?_
          refine h_opX (x_box rfl) fun g4 => ?_
          refine h_opX (x_box rfl) fun g5 => ?_
          refine h_opX (x_box rfl) fun g6 => ?_
          refine h_op (r_assign rfl) ?_
          refine h_nil ?_
          refine q_then ?_
          refine h_seq ?_
          refine h_seq ?_
          refine h_reg ?_
          refine h_op (r_move rfl) ?_
          refine h_nil ?_
          refine q_then ?_
          refine h_condF rfl ?_
          refine h_skip ?_
          refine q_then ?_
          refine h_seq ?_
          refine ha_start [.blk g4 p.cells 87, .blk g5 key.cells 39] [] mixed (same) ?_
          refine ha_takeP 0 rfl (r_field rfl) ?_
          refine ha_take 1 rfl (r_loadc rfl) ?_
          refine ha_takeP 2 rfl (r_bool (r_eql rfl rfl) (decide_eq_false h0)) ?_
          refine ha_takeP 3 rfl (r_move rfl) ?_
          refine ha_takeP 4 rfl (r_field rfl) ?_
          refine ha_take 5 rfl (r_loadc rfl) ?_
          refine ha_takeP 6 rfl (r_bool (r_eql rfl rfl) (decide_eq_true h1)) ?_
          refine ha_takeP 7 rfl (r_move rfl) ?_
          refine ha_takeP 8 rfl (r_field rfl) ?_
          refine ha_takeP 9 rfl (r_field rfl) ?_
          refine ha_take 10 rfl (r_loadr rfl) ?_
          refine ha_take 11 rfl (r_loadr rfl) ?_
          refine ha_takeP 12 rfl (r_bool (r_ner rfl rfl) (decide_eq_true h2)) ?_
          refine ha_takeP 13 rfl (r_pick rfl rfl) ?_
          refine ha_takeP 14 rfl (r_move rfl) ?_
          refine ha_takeP 15 rfl (r_field rfl) ?_
          refine ha_takeP 16 rfl (r_field rfl) ?_
          refine ha_take 17 rfl (r_loadr rfl) ?_
          refine ha_take 18 rfl (r_loadr rfl) ?_
          refine ha_takeP 20 rfl (r_field rfl) ?_
          refine ha_take 21 rfl (r_loadc rfl) ?_
          refine ha_one 19 ?_
          refine ho_C 19 rfl ((refCommon_s p.leaf.key key).comes) rfl rfl rfl (fun xx => same) fun _ => ?_
          refine ha_takeP 22 rfl (r_geq rfl rfl) ?_
          refine ha_takeP 23 rfl (r_pick rfl rfl) ?_
          refine ha_takeP 24 rfl (r_pick rfl rfl) ?_
          refine ha_takeP 25 rfl (r_assign rfl) ?_
          refine ha_done (by kernel_rfl) ?_
          refine q_then ?_
          refine h_ret ?_
          exact h_ret1 rfl rfl fun w s => ⟨(), by simp [h2], s.res (List.nil_sublist _) (by simp)⟩
      · rw [if_neg h1, decide_eq_false h0]
        refine h_seq ?_
        refine h_reg ?_
        refine h_opX (x_box rfl) fun g4 => ?_
        refine h_opX (x_box rfl) fun g5 => ?_
        refine h_opX (x_box rfl) fun g6 => ?_
        refine h_op (r_assign rfl) ?_
        refine h_nil ?_
        refine q_then ?_
        refine h_seq ?_
        refine h_seq ?_
        refine h_reg ?_
        refine h_op (r_move rfl) ?_
        refine h_nil ?_
        refine q_then ?_
        refine h_condF rfl ?_
        refine h_skip ?_
        refine q_then ?_
        refine h_seq ?_
        refine ha_start [.blk g4 p.cells 87, .blk g5 key.cells 39] [] mixed (same) ?_
        refine ha_takeP 0 rfl (r_field rfl) ?_
        refine ha_take 1 rfl (r_loadc rfl) ?_
        refine ha_takeP 2 rfl (r_bool (r_eql rfl rfl) (decide_eq_false h0)) ?_
        refine ha_takeP 3 rfl (r_move rfl) ?_
        refine ha_takeP 4 rfl (r_field rfl) ?_
        refine ha_take 5 rfl (r_loadc rfl) ?_
        refine ha_takeP 6 rfl (r_bool (r_eql rfl rfl) (decide_eq_false h1)) ?_
        refine ha_takeP 7 rfl (r_move rfl) ?_
        refine ha_off 8 rfl ?_
        refine ha_off 9 rfl ?_
        refine ha_off 10 rfl ?_
        refine ha_off 11 rfl ?_
        refine ha_off 12 rfl ?_
        refine ha_takeP 13 rfl (r_pick rfl rfl) ?_
        refine ha_takeP 14 rfl (r_move rfl) ?_
        refine ha_off 15 rfl ?_
        refine ha_off 16 rfl ?_
        refine ha_off 17 rfl ?_
        refine ha_off 18 rfl ?_
        refine ha_off 19 rfl ?_
        refine ha_off 20 rfl ?_
        refine ha_off 21 rfl ?_
        refine ha_off 22 rfl ?_
        refine ha_takeP 23 rfl (r_pick rfl rfl) ?_
        refine ha_takeP 24 rfl (r_pick rfl rfl) ?_
        refine ha_takeP 25 rfl (r_assign rfl) ?_
        refine ha_done (by kernel_rfl) ?_
        refine q_then ?_
        refine h_ret ?_
        exact h_ret1 rfl rfl fun w s => ⟨(), rfl, s.res (List.nil_sublist _) (by simp)⟩
  · rw [if_pos rfl]
    by_cases h1 : p.kind = 1
    · by_cases h2 : p.leaf.key = key
      · refine h_seq ?_
        refine h_reg ?_
        refine h_opX (x_box rfl) fun g4 => ?_
        refine h_opX (x_box rfl) fun g5 => ?_
        refine h_opX (x_box rfl) fun g6 => ?_
        refine h_op (r_assign rfl) ?_
        refine h_nil ?_
        refine q_then ?_
        refine h_seq ?_
        refine h_seq ?_
        refine h_reg ?_
        refine h_op (r_move rfl) ?_
        refine h_nil ?_
        refine q_then ?_
        refine h_condT rfl ?_
        refine h_seq ?_
        refine h_reg ?_
        refine h_op (r_field rfl) ?_
        refine h_op (r_loadc rfl) ?_
        refine h_op (r_bool (r_eql rfl rfl) (decide_eq_true h1)) ?_
        refine h_op (r_move rfl) ?_
        refine h_op (r_field rfl) ?_
        refine h_op (r_field rfl) ?_
        refine h_op (r_loadr rfl) ?_
        refine h_op (r_loadr rfl) ?_
        refine h_op (r_bool (r_eqr rfl rfl) (decide_eq_true h2)) ?_
        refine h_op (r_pick rfl rfl) ?_
        refine h_op (r_move rfl) ?_
        refine h_op (r_field rfl) ?_
        refine h_op (r_field rfl) ?_
        refine h_op (r_loadr rfl) ?_
        refine h_op (r_loadr rfl) ?_
        refine h_op (r_eqr rfl rfl) ?_
        refine h_op (r_pick rfl rfl) ?_
        refine h_op (r_assign rfl) ?_
        refine h_nil ?_
        refine q_then ?_
        refine h_ret ?_
        refine q_thenR ?_
        exact h_ret1 rfl rfl fun w s => ⟨(), by simp [h1, h2, hlf], s.res (List.nil_sublist _) (by simp)⟩
      · rw [decide_eq_false (show ¬ (p.kind = 1 ∧ p.leaf = ⟨key, val⟩) from fun e => h2 (hlf.1 e.2).1)]
        refine h_seq ?_
        refine h_reg ?_
        refine h_opX (x_box rfl) fun g4 => ?_
        refine h_opX (x_box rfl) fun g5 => ?_
        refine h_opX (x_box rfl) fun g6 => ?_
        refine h_op (r_assign rfl) ?_
        refine h_nil ?_
        refine q_then ?_
        refine h_seq ?_
        refine h_seq ?_
        refine h_reg ?_
        refine h_op (r_move rfl) ?_
        refine h_nil ?_
        refine q_then ?_
        refine h_condT rfl ?_
        refine h_seq ?_
        refine h_reg ?_
        refine h_op (r_field rfl) ?_
        refine h_op (r_loadc rfl) ?_
        refine h_op (r_bool (r_eql rfl rfl) (decide_eq_true h1)) ?_
        refine h_op (r_move rfl) ?_
        refine h_op (r_field rfl) ?_
        refine h_op (r_field rfl) ?_
        refine h_op (r_loadr rfl) ?_
        refine h_op (r_loadr rfl) ?_
        refine h_op (r_bool (r_eqr rfl rfl) (decide_eq_false h2)) ?_
        refine h_op (r_pick rfl rfl) ?_
        refine h_op (r_move rfl) ?_
        refine h_opOff ?_
        refine h_opOff ?_
        refine h_opOff ?_
        refine h_opOff ?_
        refine h_opOff ?_
        refine h_op (r_pick rfl rfl) ?_
        refine h_op (r_assign rfl) ?_
        refine h_nil ?_
        refine q_then ?_
        refine h_ret ?_
        refine q_thenR ?_
        exact h_ret1 rfl rfl fun w s => ⟨(), rfl, s.res (List.nil_sublist _) (by simp)⟩
    · rw [decide_eq_false (show ¬ (p.kind = 1 ∧ p.leaf = ⟨key, val⟩) from fun e => h1 e.1)]
      refine h_seq ?_
      refine h_reg ?_
      refine h_opX (x_box rfl) fun g4 => ?_
      refine h_opX (x_box rfl) fun g5 => ?_
      refine h_opX (x_box rfl) fun g6 => ?_
      refine h_op (r_assign rfl) ?_
      refine h_nil ?_
      refine q_then ?_
      refine h_seq ?_
      refine h_seq ?_
      refine h_reg ?_
      refine h_op (r_move rfl) ?_
      refine h_nil ?_
      refine q_then ?_
      refine h_condT rfl ?_
      refine h_seq ?_
      refine h_reg ?_
      refine h_op (r_field rfl) ?_
      refine h_op (r_loadc rfl) ?_
      refine h_op (r_bool (r_eql rfl rfl) (decide_eq_false h1)) ?_
      refine h_op (r_move rfl) ?_
      refine h_opOff ?_
      refine h_opOff ?_
      refine h_opOff ?_
      refine h_opOff ?_
      refine h_opOff ?_
      refine h_op (r_pick rfl rfl) ?_
      refine h_op (r_move rfl) ?_
      refine h_opOff ?_
      refine h_opOff ?_
      refine h_opOff ?_
      refine h_opOff ?_
      refine h_opOff ?_
      refine h_op (r_pick rfl rfl) ?_
      refine h_op (r_assign rfl) ?_
      refine h_nil ?_
      refine q_then ?_
      refine h_ret ?_
      refine q_thenR ?_
      exact h_ret1 rfl rfl fun w s => ⟨(), rfl, s.res (List.nil_sublist _) (by simp)⟩
end Go.Proofs.YtgfkbeipckbkiaaGreatDoor
