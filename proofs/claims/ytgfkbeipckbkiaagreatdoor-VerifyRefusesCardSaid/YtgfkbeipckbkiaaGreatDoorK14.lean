/- codec.Decode, of all bytes; Interface values held against nil (joined texts: U91 N14) -/
import Derived.Test.YtgfkbeipckbkiaaGreatDoorK13
import Derived.WideLaws
set_option linter.all false
/- U91 -/
namespace Go.Proofs.YtgfkbeipckbkiaaGreatDoor
set_option linter.unusedSimpArgs false
set_option linter.unusedVariables false
open Go.RowKit
theorem cpart_short (h : Zh) (r : List UInt8) (A : Option Addr) (c g : Nat) (b : Bool) (hb : r.length < 32) :
    Spec Tryz.prog 152 [.pointer (some ⟨g, 0, none⟩)].toArray [.zone false h] [.blk g [.slice A r.length c, .bool b] 241] (fun _ : Unit => .agg zB32.cells.toArray) (fun _ => [.blk g [.slice A r.length c, .bool true] 241]) := by
  refine spec_of Tryz.func152 rfl (n := 28) rfl rfl ?_
  intro W
  refine h_seq ?_
  refine h_reg ?_
  refine h_opX (x_alloc) fun g2 => ?_
  refine h_nil ?_
  refine q_then ?_
  refine h_seq ?_
  refine h_seq ?_
  refine h_reg ?_
  refine h_op (r_move rfl) ?_
  refine h_op (r_nilc rfl) ?_
  refine h_op (r_field rfl) ?_
  refine h_op (r_loadc rfl) ?_
  refine h_op (r_len rfl) ?_
  refine h_op (r_bool (r_lss rfl rfl) (decide_eq_true (by omega))) ?_
  refine h_nil ?_
  refine q_then ?_
  refine h_condT rfl ?_
  refine h_seq ?_
  refine h_reg ?_
  refine h_op (r_move rfl) ?_
  refine h_op (r_nilc rfl) ?_
  refine h_op (r_field rfl) ?_
  refine h_opS (s_store rfl rfl rfl) ?_
  refine h_nil ?_
  refine q_then ?_
  refine h_seq ?_
  refine h_reg ?_
  refine h_op (r_loadr rfl) ?_
  refine h_opS (s_storer rfl rfl) ?_
  refine h_nil ?_
  refine q_then ?_
  refine h_ret ?_
  refine q_thenR ?_
  exact h_ret1 rfl (rv_row rfl) fun w s => ⟨(), rfl, (same (L' := [.blk g [.slice A r.length c, .bool true] 241]) w s).res (List.Sublist.refl _) (by simp [Fa.wr])⟩
theorem Decode_s (h : Zh) (l : List UInt8) (hl : l.length ≤ 100000000) (B : Option Addr) (c : Nat) (hcap : l.length ≤ c) [hB : RdZ h B (bc l)] :
    Spec Tryz.prog 118 [.slice B l.length c].toArray [.zone false h] [] (decV (decB l)) (decN (decB l)) := by
  by_cases h36 : l.length < 36
  · have hE : decB l = .error 5 := by unfold decB; rw [if_pos h36]
    rw [hE]
    refine spec_of Tryz.func118 rfl (n := 104) rfl rfl ?_
    intro W
    refine h_seq ?_
    refine h_reg ?_
    refine h_opX (x_alloc) fun g2 => ?_
    refine h_op (r_assign rfl) ?_
    refine h_nil ?_
    refine q_then ?_
    refine h_seq ?_
    refine h_seq ?_
    refine h_reg ?_
    refine h_op (r_move rfl) ?_
    refine h_op (r_len rfl) ?_
    refine h_op (r_bool (r_lss rfl rfl) (decide_eq_true (by omega))) ?_
    refine h_nil ?_
    refine q_then ?_
    refine h_condT rfl ?_
    refine h_seq ?_
    refine h_reg ?_
    refine h_op (r_build rfl) ?_
    refine h_opS (s_storer rfl rfl) ?_
    refine h_op (r_assign rfl) ?_
    refine h_nil ?_
    refine q_then ?_
    refine h_ret ?_
    refine q_thenR ?_
    exact h_ret2 rfl (rv_row rfl) rfl fun w s => ⟨(none, 0), rfl, s.res (List.nil_sublist _) (fun f hf => (List.not_mem_nil hf).elim)⟩
  · replace h36 : 36 ≤ l.length := by omega
    obtain ⟨b, o, rfl, -⟩ := hB.at_ 0 _ (List.getElem?_eq_getElem (by rw [bc_length]; omega))
    by_cases h01 : l.getD 0 0 = 1
    · have hK := cKind_s l (some ⟨b, o, none⟩) c (by omega) h01
      have h2 := (l.getD 2 0).toNat_lt
      have h3 := (l.getD 3 0).toNat_lt
      obtain ⟨d, hd⟩ : ∃ d, (l.getD 2 0).toNat * 256 + (l.getD 3 0).toNat = d := ⟨_, rfl⟩
      obtain ⟨k, hdK⟩ : ∃ k, (l.getD 1 0).toNat = k := ⟨_, rfl⟩
      rw [hdK] at hK
      have h4 : l.length - 4 = 32 + (l.drop 36).length := by rw [List.length_drop]; omega
      have hdr4 := b32At_drop (l := l) (o := 4) (by omega)
      have hz : RdZ h (cutA (some ⟨b, o, none⟩) c 4 1) (bc ((b32At l 4).1 ++ l.drop 36)) := by
        refine cutZ (l := l.take 4) ?_ (by rw [List.length_take]; omega) (by omega) (by rw [List.length_append, (b32At l 4).2, ← h4]; omega)
        rw [← hdr4, List.take_append_drop]
        exact hB
      have hc4 : 32 + (l.drop 36).length ≤ c - 4 := by omega
      by_cases hk2 : 1 < k
      · have hE : decB l = .error 7 := by unfold decB; rw [if_neg (by omega), if_neg (fun h => h h01), if_pos (show 1 < (l.getD 1 0).toNat by omega)]
        rw [hE]
        refine spec_of Tryz.func118 rfl (n := 104) rfl rfl ?_
        intro W
        refine h_seq ?_
        refine h_reg ?_
        refine h_opX (x_alloc) fun g2 => ?_
        refine h_op (r_assign rfl) ?_
        refine h_nil ?_
        refine q_then ?_
        refine h_seq ?_
        refine h_seq ?_
        refine h_reg ?_
        refine h_op (r_move rfl) ?_
        refine h_op (r_len rfl) ?_
        refine h_op (r_bool (r_lss rfl rfl) (decide_eq_false (by omega))) ?_
        refine h_nil ?_
        refine q_then ?_
        refine h_condF rfl ?_
        refine h_skip ?_
        refine q_then ?_
        refine h_seq ?_
        refine h_reg ?_
        refine h_op (r_move rfl) ?_
        refine h_call (hK.comes) rfl rfl rfl fun _ => ?_
        refine h_op (r_move rfl) ?_
        refine h_op (r_extract rfl rfl) ?_
        refine h_op (r_extract rfl rfl) ?_
        refine h_op (r_assign rfl) ?_
        refine h_op (r_assign rfl) ?_
        refine h_nil ?_
        refine q_then ?_
        refine h_seq ?_
        refine h_seq ?_
        refine h_reg ?_
        refine h_op (r_move rfl) ?_
        refine h_op (r_neq rfl rfl) ?_
        refine h_nil ?_
        refine q_then ?_
        refine h_no rfl ((fun h => h rfl)) ?_
        refine h_skip ?_
        refine q_then ?_
        refine h_seq ?_
        refine h_seq ?_
        refine h_reg ?_
        refine h_op (r_move rfl) ?_
        refine h_op (r_bool (r_neq rfl rfl) (decide_eq_true (by omega))) ?_
        refine h_op (r_move rfl) ?_
        refine h_op (r_move rfl) ?_
        refine h_op (r_bool (r_neq rfl rfl) (decide_eq_true (by omega))) ?_
        refine h_op (r_pick rfl rfl) ?_
        refine h_nil ?_
        refine q_then ?_
        refine h_condT rfl ?_
        refine h_seq ?_
        refine h_reg ?_
        refine h_op (r_build rfl) ?_
        refine h_opS (s_storer rfl rfl) ?_
        refine h_op (r_assign rfl) ?_
        refine h_nil ?_
        refine q_then ?_
        refine h_ret ?_
        refine q_thenR ?_
        exact h_ret2 rfl (rv_row rfl) rfl fun w s => ⟨(none, 0), rfl, s.res (List.nil_sublist _) (fun f hf => (List.not_mem_nil hf).elim)⟩
      · rcases (by omega : k = 0 ∨ k = 1) with rfl | rfl
        · have hlf : dLf l = zLeaf := if_neg (by show ¬ (l.getD 1 0).toNat = 1; omega)
          have hdk : dK l = 0 := hdK
          have hbase : dBase l = 36 := by unfold dBase; omega
          refine spec_of Tryz.func118 rfl (n := 104) rfl rfl ?_
          intro W
          refine h_seq ?_
          refine h_reg ?_
          refine h_opX (x_alloc) fun g2 => ?_
          refine h_op (r_assign rfl) ?_
          refine h_nil ?_
          refine q_then ?_
          refine h_seq ?_
          refine h_seq ?_
          refine h_reg ?_
          refine h_op (r_move rfl) ?_
          refine h_op (r_len rfl) ?_
          refine h_op (r_bool (r_lss rfl rfl) (decide_eq_false (by omega))) ?_
          refine h_nil ?_
          refine q_then ?_
          refine h_condF rfl ?_
          refine h_skip ?_
          refine q_then ?_
          refine h_seq ?_
          refine h_reg ?_
          refine h_op (r_move rfl) ?_
          refine h_call (hK.comes) rfl rfl rfl fun _ => ?_
          refine h_op (r_move rfl) ?_
          refine h_op (r_extract rfl rfl) ?_
          refine h_op (r_extract rfl rfl) ?_
          refine h_op (r_assign rfl) ?_
          refine h_op (r_assign rfl) ?_
          refine h_nil ?_
          refine q_then ?_
          refine h_seq ?_
          refine h_seq ?_
          refine h_reg ?_
          refine h_op (r_move rfl) ?_
          refine h_op (r_neq rfl rfl) ?_
          refine h_nil ?_
          refine q_then ?_
          refine h_no rfl ((fun h => h rfl)) ?_
          refine h_skip ?_
          refine q_then ?_
          refine h_seq ?_
          refine h_seq ?_
          refine h_reg ?_
          refine h_op (r_move rfl) ?_
          refine h_op (r_bool (r_neq rfl rfl) (show _ = false from rfl)) ?_
          refine h_op (r_move rfl) ?_
          refine h_opOff ?_
          refine h_opOff ?_
          refine h_op (r_pick rfl rfl) ?_
          refine h_nil ?_
          refine q_then ?_
          refine h_condF rfl ?_
          refine h_skip ?_
          refine q_then ?_
          refine h_seq ?_
          refine h_reg ?_
          refine h_op (r_move rfl) ?_
          refine h_op (r_as (r_slL rfl rfl) (show _ = Value.slice (cutA (some ⟨b, o, none⟩) c 4 1) (32 + (l.drop 36).length) (c - 4) by rw [h4])) ?_
          refine h_op (r_build rfl) ?_
          refine h_opX (x_box rfl) fun g32 => ?_
          refine h_op (r_assign rfl) ?_
          refine h_nil ?_
          refine q_then ?_
          refine h_seq ?_
          refine h_reg ?_
          refine h_op (r_move rfl) ?_
          refine h_op (r_func rfl rfl) ?_
          refine h_op (r_assign rfl) ?_
          refine h_nil ?_
          refine q_then ?_
          refine h_seq ?_
          refine h_join (fun (u : {y : Option Addr × Nat // RdZ h y.1 (bc (l.drop 36)) ∧ (l.drop 36).length ≤ y.2} × Nat) => [(8, .pointer (some ⟨u.2, 0, none⟩)), (7, .func (.func 152) [.pointer (some ⟨g32, 0, none⟩)].toArray #[]), (6, .pointer (some ⟨g32, 0, none⟩)), (4, .int .i64 ((0 : Nat) : Int)), (2, .pointer (some ⟨g2, 0, none⟩))]) (fun (u : {y : Option Addr × Nat // RdZ h y.1 (bc (l.drop 36)) ∧ (l.drop 36).length ≤ y.2} × Nat) => [.blk u.2 (Proof.cells ⟨((0 : Nat) : Int), (d : Int), zProof.leaf, b32At l 4, zProof.sibs⟩) 87, .blk g32 [.slice u.1.1.1 (l.drop 36).length u.1.1.2, .bool false] 241, .blk g2 zProof.cells 87, .zone false h]) (fun kk => ?_) ?_
          · refine ha_start [.zone false h] [] mixed (same) ?_
            refine ha_takeP 0 rfl (r_move rfl) ?_
            refine ha_takeP 1 rfl (r_move rfl) ?_
            refine ha_takeP 2 rfl (r_idx rfl rfl) ?_
            refine ha_take 3 rfl (r_nth rfl (bc_at' (l := l) (i := 2) (by omega))) ?_
            refine ha_takeP 4 rfl (r_int (r_cUI rfl) (show _ = (((l.getD 2 0).toNat : Nat) : Int) from rfl)) ?_
            refine ha_takeP 5 rfl (r_shl8 rfl rfl) ?_
            refine ha_takeP 6 rfl (r_move rfl) ?_
            refine ha_takeP 7 rfl (r_idx rfl rfl) ?_
            refine ha_take 8 rfl (r_nth rfl (bc_at' (l := l) (i := 3) (by omega))) ?_
            refine ha_takeP 9 rfl (r_int (r_cUI rfl) (show _ = (((l.getD 3 0).toNat : Nat) : Int) from rfl)) ?_
            refine ha_takeP 10 rfl (r_int (r_or8 rfl rfl) (show _ = (d : Int) by omega)) ?_
            refine ha_takeP 11 rfl (r_move rfl) ?_
            refine ha_two 12 14 ?_ ?_
            · refine ho_C 12 rfl ((cpart_s h (b32At l 4) (l.drop 36) (cutA (some ⟨b, o, none⟩) c 4 1) (c - 4) g32 hc4 (by omega)).comes) rfl rfl rfl (fun xx => same) fun y47 => ?_
              refine ha_takeP 13 rfl (r_build rfl) ?_
              refine ha_one 14 ?_
              refine ho_X 14 rfl (rk (x_alloc)) (fun _ => same) fun g8 => ?_
              refine ha_one 15 ?_
              refine ho_SL 15 rfl (s_storer rfl rfl) ?_
              exact h_K (kk (y47, g8)) (⟨rfl, rfl, rfl, rfl, rfl, trivial⟩) same
            · refine ho_X 14 rfl (rk (x_alloc)) (fun _ => same) fun g8 => ?_
              refine ha_one 12 ?_
              refine ho_C 12 rfl ((cpart_s h (b32At l 4) (l.drop 36) (cutA (some ⟨b, o, none⟩) c 4 1) (c - 4) g32 hc4 (by omega)).comes) rfl rfl rfl (fun xx => same) fun y47 => ?_
              refine ha_takeP 13 rfl (r_build rfl) ?_
              refine ha_one 15 ?_
              refine ho_SL 15 rfl (s_storer rfl rfl) ?_
              exact h_K (kk (y47, g8)) (⟨rfl, rfl, rfl, rfl, rfl, trivial⟩) same
          rintro ⟨⟨⟨A47, c47⟩, hz0, hc0⟩, g8⟩
          refine q_then ?_
          dsimp only at hz0 hc0 ⊢
          change H _ _ _ _ _ (.blk g8 (Proof.cells ⟨((0 : Nat) : Int), (d : Int), zLeaf, b32At l 4, ⟨none, 0, 0⟩⟩) _ :: _) _
          refine h_seq ?_
          refine h_seq ?_
          refine h_reg ?_
          refine h_op (r_move rfl) ?_
          refine h_op (r_bool (r_eql rfl rfl) (show _ = false from rfl)) ?_
          refine h_nil ?_
          refine q_then ?_
          refine h_condF rfl ?_
          refine h_skip ?_
          refine q_then ?_
          refine h_seq ?_
          refine h_block ?_
          refine h_nil_own 41 32 (xs := dgs []) rfl ?_
          refine h_loop (fun (s : List UInt8 × Bool × Option Addr × Nat × List B32 × Option Addr × Nat) => RdZ h s.2.2.1 (bc s.1) ∧ s.1.length ≤ s.2.2.2.1 ∧ s.1.length ≤ l.length ∧ s.2.2.2.2.1.length ≤ 257 ∧ (s.2.1 = false → 36 + 32 * s.2.2.2.2.1.length ≤ l.length ∧ s.1 = l.drop (36 + 32 * s.2.2.2.2.1.length) ∧ s.2.2.2.2.1 = sibsAt l 36 s.2.2.2.2.1.length) ∧ (s.2.1 = true → decB l = .error 5)) (fun (s : List UInt8 × Bool × Option Addr × Nat × List B32 × Option Addr × Nat) => [(8, .pointer (some ⟨g8, 0, none⟩)), (7, .func (.func 152) [.pointer (some ⟨g32, 0, none⟩)].toArray #[]), (6, .pointer (some ⟨g32, 0, none⟩)), (2, .pointer (some ⟨g2, 0, none⟩))]) (fun (s : List UInt8 × Bool × Option Addr × Nat × List B32 × Option Addr × Nat) => [.own (.slice s.2.2.2.2.2.1 s.2.2.2.2.1.length s.2.2.2.2.2.2) s.2.2.2.2.1.length 41 32 (dgs s.2.2.2.2.1), .blk g8 (Proof.cells ⟨((0 : Nat) : Int), (d : Int), zLeaf, b32At l 4, ⟨s.2.2.2.2.2.1, s.2.2.2.2.1.length, s.2.2.2.2.2.2⟩⟩) 87, .blk g32 [.slice s.2.2.1 s.1.length s.2.2.2.1, .bool s.2.1] 241, .blk g2 zProof.cells 87, .zone false h]) (fun (s : List UInt8 × Bool × Option Addr × Nat × List B32 × Option Addr × Nat) => s.1.length + (if s.2.1 then 0 else 1)) (l.drop 36, false, A47, c47, [], none, 0) (⟨hz0, hc0, by dsimp only; rw [List.length_drop]; omega, Nat.zero_le _, fun _ => ⟨by dsimp only; show 36 + 32 * 0 ≤ _; omega, rfl, rfl⟩, fun h => by cases h⟩) ⟨rfl, rfl, rfl, rfl, trivial⟩ (same) ?_
          rintro ⟨r, b', Ar, cr, ss, A, c9⟩ ⟨q1, q2, q3, q4, q5, q6⟩
          dsimp only at q1 q2 q3 q4 q5 q6 ⊢
          by_cases hr0 : 0 < r.length
          · cases b'
            · obtain ⟨q7, q8, q9⟩ := q5 rfl
              have hrl : r.length = l.length - (36 + 32 * ss.length) := by rw [q8, List.length_drop]
              by_cases h6 : ss.length ≤ 256
              · refine h_seq ?_
                refine h_seq ?_
                refine h_reg ?_
                refine h_op (r_move rfl) ?_
                refine h_op (r_nilc rfl) ?_
                refine h_op (r_field rfl) ?_
                refine h_op (r_loadc rfl) ?_
                refine h_op (r_len rfl) ?_
                refine h_op (r_bool (r_gtr rfl rfl) (decide_eq_true (by omega))) ?_
                refine h_op (r_move rfl) ?_
                refine h_op (r_move rfl) ?_
                refine h_op (r_nilc rfl) ?_
                refine h_op (r_field rfl) ?_
                refine h_op (r_loadc rfl) ?_
                refine h_op (r_not rfl) ?_
                refine h_op (r_pick rfl rfl) ?_
                refine h_op (r_move rfl) ?_
                refine h_op (r_field rfl) ?_
                refine h_op (r_loadc rfl) ?_
                refine h_op (r_len rfl) ?_
                refine h_op (r_bool (r_leq rfl rfl) (decide_eq_true (show (ss.length : Int) ≤ 256 by omega))) ?_
                refine h_op (r_pick rfl rfl) ?_
                refine h_nil ?_
                refine q_then ?_
                refine h_condT rfl ?_
                refine h_skip ?_
                refine q_then ?_
                refine h_block ?_
                by_cases h32 : 32 ≤ r.length
                · have hdr := b32At_drop (l := l) (o := 36 + 32 * ss.length) (by omega)
                  have hx := (b32At l (36 + 32 * ss.length)).2
                  have hl2 : r.length = 32 + (l.drop (36 + 32 * ss.length + 32)).length := by rw [q8, hdr, List.length_append, hx]
                  rw [q8, hdr] at q1
                  have htk : dgs ss ++ (b32At l (36 + 32 * ss.length)).cells = dgs (ss ++ [b32At l (36 + 32 * ss.length)]) := by rw [dgs_append, dgs_one']
                  have hlx : ss.length + 1 = (ss ++ [b32At l (36 + 32 * ss.length)]).length := by rw [List.length_append]; rfl
                  have hsc := sibsAt_succ l 36 ss.length
                  rw [← q9] at hsc
                  rw [hl2]
                  rw [hl2] at q2
                  refine ha_start [.blk g8 (Proof.cells ⟨((0 : Nat) : Int), (d : Int), zLeaf, b32At l 4, ⟨A, ss.length, c9⟩⟩) 87] [] mixed (same) ?_
                  refine ha_takeP 0 rfl (r_field rfl) ?_
                  refine ha_take 1 rfl (r_loadc rfl) ?_
                  refine ha_takeP 2 rfl (r_move rfl) ?_
                  refine ha_one 3 ?_
                  refine ho_C 3 rfl ((cpart_s h (b32At l (36 + 32 * ss.length)) (l.drop (36 + 32 * ss.length + 32)) Ar cr g32 q2 (by omega)).comes) rfl rfl rfl (fun xx => same) fun ⟨⟨Ar2, cr2⟩, hz5, hc5⟩ => ?_
                  refine ha_one 4 ?_
                  refine ho_X 4 rfl (rk (x_bsl rfl rfl)) (fun _ => same) fun g82 => ?_
                  refine ha_one 5 ?_
                  refine ho_X 5 rfl (rk (x_app rfl rfl (k := 32))) (fun _ => same) fun ⟨g83, c83⟩ => ?_
                  refine ha_takeP 6 rfl (r_field rfl) ?_
                  refine ha_one 7 ?_
                  refine ho_SL 7 rfl (s_store rfl rfl rfl) ?_
                  refine q_block ?_
                  rw [htk, hlx]
                  exact h_back (l.drop (36 + 32 * ss.length + 32), false, Ar2, cr2, ss ++ [b32At l (36 + 32 * ss.length)], some ⟨g83, 0, none⟩, c83) (⟨hz5, hc5, by dsimp only; omega, by dsimp only; omega, fun _ => ⟨by dsimp only; omega, by dsimp only; rw [← hlx, show 36 + 32 * (ss.length + 1) = 36 + 32 * ss.length + 32 by omega], by dsimp only; rw [← hlx, hsc]⟩, fun h => by cases h⟩) ((show (l.drop (36 + 32 * ss.length + 32)).length + 1 < r.length + 1 by omega)) ⟨rfl, rfl, rfl, rfl, trivial⟩ (same)
                · have hE := decB_bad (l := l) h36 h01 (by omega) (.inr (.inl (by omega)))
                  have htk : dgs ss ++ zB32.cells = dgs (ss ++ [zB32]) := by rw [dgs_append, dgs_one']
                  have hlx : ss.length + 1 = (ss ++ [zB32]).length := by rw [List.length_append]; rfl
                  refine ha_start [.blk g8 (Proof.cells ⟨((0 : Nat) : Int), (d : Int), zLeaf, b32At l 4, ⟨A, ss.length, c9⟩⟩) 87] [] mixed (same) ?_
                  refine ha_takeP 0 rfl (r_field rfl) ?_
                  refine ha_take 1 rfl (r_loadc rfl) ?_
                  refine ha_takeP 2 rfl (r_move rfl) ?_
                  refine ha_one 3 ?_
                  refine ho_C 3 rfl ((cpart_short h r Ar cr g32 false (by omega)).comes) rfl rfl rfl (fun xx => same) fun _ => ?_
                  refine ha_one 4 ?_
                  refine ho_X 4 rfl (rk (x_bsl rfl rfl)) (fun _ => same) fun g82 => ?_
                  refine ha_one 5 ?_
                  refine ho_X 5 rfl (rk (x_app rfl rfl (k := 32))) (fun _ => same) fun ⟨g83, c83⟩ => ?_
                  refine ha_takeP 6 rfl (r_field rfl) ?_
                  refine ha_one 7 ?_
                  refine ho_SL 7 rfl (s_store rfl rfl rfl) ?_
                  refine q_block ?_
                  rw [htk, hlx]
                  exact h_back (r, true, Ar, cr, ss ++ [zB32], some ⟨g83, 0, none⟩, c83) (⟨q1, q2, q3, by dsimp only; omega, (fun h => by cases h), fun _ => hE⟩) ((show r.length + 0 < r.length + 1 by omega)) ⟨rfl, rfl, rfl, rfl, trivial⟩ (same)
              · have hE := decB_bad (l := l) h36 h01 (by omega) (by have : dBase l = 36 := by (unfold dBase; omega)
                                                                    omega)
                rw [hE]
                refine h_seq ?_
                refine h_seq ?_
                refine h_reg ?_
                refine h_op (r_move rfl) ?_
                refine h_op (r_nilc rfl) ?_
                refine h_op (r_field rfl) ?_
                refine h_op (r_loadc rfl) ?_
                refine h_op (r_len rfl) ?_
                refine h_op (r_bool (r_gtr rfl rfl) (decide_eq_true (by omega))) ?_
                refine h_op (r_move rfl) ?_
                refine h_op (r_move rfl) ?_
                refine h_op (r_nilc rfl) ?_
                refine h_op (r_field rfl) ?_
                refine h_op (r_loadc rfl) ?_
                refine h_op (r_not rfl) ?_
                refine h_op (r_pick rfl rfl) ?_
                refine h_op (r_move rfl) ?_
                refine h_op (r_field rfl) ?_
                refine h_op (r_loadc rfl) ?_
                refine h_op (r_len rfl) ?_
                refine h_op (r_bool (r_leq rfl rfl) (decide_eq_false (show ¬ (ss.length : Int) ≤ 256 by omega))) ?_
                refine h_op (r_pick rfl rfl) ?_
                refine h_nil ?_
                refine q_then ?_
                refine h_condF rfl ?_
                refine h_exit ?_
                refine q_thenE ?_
                refine q_thenE ?_
                refine q_blockE ?_
                refine q_then ?_
                refine h_seq ?_
                refine h_seq ?_
                refine h_reg ?_
                refine h_op (r_move rfl) ?_
                refine h_op (r_nilc rfl) ?_
                refine h_op (r_field rfl) ?_
                refine h_op (r_loadc rfl) ?_
                refine h_op (r_move rfl) ?_
                refine h_op (r_move rfl) ?_
                refine h_op (r_nilc rfl) ?_
                refine h_op (r_field rfl) ?_
                refine h_op (r_loadc rfl) ?_
                refine h_op (r_len rfl) ?_
                refine h_op (r_bool (r_gtr rfl rfl) (decide_eq_true (by omega))) ?_
                refine h_op (r_pick rfl rfl) ?_
                refine h_op (r_move rfl) ?_
                refine h_opOff ?_
                refine h_opOff ?_
                refine h_opOff ?_
                refine h_op (r_pick rfl rfl) ?_
                refine h_nil ?_
                refine q_then ?_
                refine h_condT rfl ?_
                refine h_seq ?_
                refine h_reg ?_
                refine h_op (r_build rfl) ?_
                refine h_opS (s_storer rfl rfl) ?_
                refine h_op (r_assign rfl) ?_
                refine h_nil ?_
                refine q_then ?_
                refine h_ret ?_
                refine q_thenR ?_
                exact h_ret2 rfl (rv_row rfl) rfl fun w s => ⟨(none, 0), rfl, s.res (List.nil_sublist _) (fun f hf => (List.not_mem_nil hf).elim)⟩
            · rw [q6 rfl]
              refine h_seq ?_
              refine h_seq ?_
              refine h_reg ?_
              refine h_op (r_move rfl) ?_
              refine h_op (r_nilc rfl) ?_
              refine h_op (r_field rfl) ?_
              refine h_op (r_loadc rfl) ?_
              refine h_op (r_len rfl) ?_
              refine h_op (r_bool (r_gtr rfl rfl) (decide_eq_true (by omega))) ?_
              refine h_op (r_move rfl) ?_
              refine h_op (r_move rfl) ?_
              refine h_op (r_nilc rfl) ?_
              refine h_op (r_field rfl) ?_
              refine h_op (r_loadc rfl) ?_
              refine h_op (r_not rfl) ?_
              refine h_op (r_pick rfl rfl) ?_
              refine h_op (r_move rfl) ?_
              refine h_opOff ?_
              refine h_opOff ?_
              refine h_opOff ?_
              refine h_opOff ?_
              refine h_op (r_pick rfl rfl) ?_
              refine h_nil ?_
              refine q_then ?_
              refine h_condF rfl ?_
              refine h_exit ?_
              refine q_thenE ?_
              refine q_thenE ?_
              refine q_blockE ?_
              refine q_then ?_
              refine h_seq ?_
              refine h_seq ?_
              refine h_reg ?_
              refine h_op (r_move rfl) ?_
              refine h_op (r_nilc rfl) ?_
              refine h_op (r_field rfl) ?_
              refine h_op (r_loadc rfl) ?_
              refine h_op (r_move rfl) ?_
              refine h_opOff ?_
              refine h_opOff ?_
              refine h_opOff ?_
              refine h_opOff ?_
              refine h_opOff ?_
              refine h_opOff ?_
              refine h_op (r_pick rfl rfl) ?_
              refine h_op (r_move rfl) ?_
              refine h_opOff ?_
              refine h_opOff ?_
              refine h_opOff ?_
              refine h_op (r_pick rfl rfl) ?_
              refine h_nil ?_
              refine q_then ?_
              refine h_condT rfl ?_
              refine h_seq ?_
              refine h_reg ?_
              refine h_op (r_build rfl) ?_
              refine h_opS (s_storer rfl rfl) ?_
              refine h_op (r_assign rfl) ?_
              refine h_nil ?_
              refine q_then ?_
              refine h_ret ?_
              refine q_thenR ?_
              exact h_ret2 rfl (rv_row rfl) rfl fun w s => ⟨(none, 0), rfl, s.res (List.nil_sublist _) (fun f hf => (List.not_mem_nil hf).elim)⟩
          · cases b'
            · obtain ⟨q7, q8, q9⟩ := q5 rfl
              have hrl : r.length = l.length - (36 + 32 * ss.length) := by rw [q8, List.length_drop]
              have hE := decB_end (l := l) h36 h01 (by omega) (N := ss.length) (by unfold dBase; omega) q4
              have hDP : ∀ A c, (dDP l ss.length).pr A c = ⟨((0 : Nat) : Int), (d : Int), zLeaf, b32At l 4, ⟨A, ss.length, c⟩⟩ := fun A c => by
                unfold DP.pr dDP
                rw [hlf, sibsAt_len, hdk, hd]
              have hss : (dDP l ss.length).ss = ss := by show sibsAt l (dBase l) ss.length = ss; rw [show dBase l = 36 by unfold dBase; omega]; exact q9.symm
              have hcc := Check_s ⟨((0 : Nat) : Int), (d : Int), zLeaf, b32At l 4, ⟨A, ss.length, c9⟩⟩
              have hca : checkP ⟨((0 : Nat) : Int), (d : Int), zLeaf, b32At l 4, ⟨A, ss.length, c9⟩⟩ = checkP ((dDP l ss.length).pr none 0) := by rw [hDP]; rfl
              refine h_seq ?_
              refine h_seq ?_
              refine h_reg ?_
              refine h_op (r_move rfl) ?_
              refine h_op (r_nilc rfl) ?_
              refine h_op (r_field rfl) ?_
              refine h_op (r_loadc rfl) ?_
              refine h_op (r_len rfl) ?_
              refine h_op (r_bool (r_gtr rfl rfl) (decide_eq_false (by omega))) ?_
              refine h_op (r_move rfl) ?_
              refine h_opOff ?_
              refine h_opOff ?_
              refine h_opOff ?_
              refine h_opOff ?_
              refine h_opOff ?_
              refine h_op (r_pick rfl rfl) ?_
              refine h_op (r_move rfl) ?_
              refine h_opOff ?_
              refine h_opOff ?_
              refine h_opOff ?_
              refine h_opOff ?_
              refine h_op (r_pick rfl rfl) ?_
              refine h_nil ?_
              refine q_then ?_
              refine h_condF rfl ?_
              by_cases hck : checkP ((dDP l ss.length).pr none 0) = 0
              · rw [if_pos hck] at hE
                rw [hE]
                rw [hca, hck] at hcc
                refine h_exit ?_
                refine q_thenE ?_
                refine q_thenE ?_
                refine q_blockE ?_
                refine q_then ?_
                refine h_seq ?_
                refine h_seq ?_
                refine h_reg ?_
                refine h_op (r_move rfl) ?_
                refine h_op (r_nilc rfl) ?_
                refine h_op (r_field rfl) ?_
                refine h_op (r_loadc rfl) ?_
                refine h_op (r_move rfl) ?_
                refine h_op (r_move rfl) ?_
                refine h_op (r_nilc rfl) ?_
                refine h_op (r_field rfl) ?_
                refine h_op (r_loadc rfl) ?_
                refine h_op (r_len rfl) ?_
                refine h_op (r_bool (r_gtr rfl rfl) (decide_eq_false (by omega))) ?_
                refine h_op (r_pick rfl rfl) ?_
                refine h_op (r_move rfl) ?_
                refine h_op (r_loadr rfl) ?_
                refine h_call (hcc.comes) rfl rfl rfl fun _ => ?_
                refine h_op (r_bool (r_neq rfl rfl) (decide_eq_false (fun h => h rfl))) ?_
                refine h_op (r_pick rfl rfl) ?_
                refine h_nil ?_
                refine q_then ?_
                refine h_condF rfl ?_
                refine h_skip ?_
                refine q_then ?_
                refine h_seq ?_
                refine h_reg ?_
                refine h_op (r_loadr rfl) ?_
                refine h_opS (s_storer rfl rfl) ?_
                refine h_op (r_assign rfl) ?_
                refine h_nil ?_
                refine q_then ?_
                refine h_ret ?_
                refine h_ret2 rfl (rv_row rfl) rfl fun w s => ⟨(A, c9), ?_, ?_⟩
                · show _ = Ending.returned (.tuple #[.agg ((dDP l ss.length).pr A c9).cells.toArray, .int .i64 0])
                  rw [hDP]
                · show Rx _ _ _ [.own (.slice A (dDP l ss.length).ss.length c9) (dDP l ss.length).ss.length 41 32 (dgs (dDP l ss.length).ss)]
                  rw [hss]
                  exact (same (L' := [.own (.slice A ss.length c9) ss.length 41 32 (dgs ss)]) w s).res (List.Sublist.refl _) (by simp [Fa.wr])
              · rw [if_neg hck] at hE
                rw [hE]
                rw [hca] at hcc
                refine h_exit ?_
                refine q_thenE ?_
                refine q_thenE ?_
                refine q_blockE ?_
                refine q_then ?_
                refine h_seq ?_
                refine h_seq ?_
                refine h_reg ?_
                refine h_op (r_move rfl) ?_
                refine h_op (r_nilc rfl) ?_
                refine h_op (r_field rfl) ?_
                refine h_op (r_loadc rfl) ?_
                refine h_op (r_move rfl) ?_
                refine h_op (r_move rfl) ?_
                refine h_op (r_nilc rfl) ?_
                refine h_op (r_field rfl) ?_
                refine h_op (r_loadc rfl) ?_
                refine h_op (r_len rfl) ?_
                refine h_op (r_bool (r_gtr rfl rfl) (decide_eq_false (by omega))) ?_
                refine h_op (r_pick rfl rfl) ?_
                refine h_op (r_move rfl) ?_
                refine h_op (r_loadr rfl) ?_
                refine h_call (hcc.comes) rfl rfl rfl fun _ => ?_
                refine h_op (r_bool (r_neq rfl rfl) (decide_eq_true hck)) ?_
                refine h_op (r_pick rfl rfl) ?_
                refine h_nil ?_
                refine q_then ?_
                refine h_condT rfl ?_
                refine h_seq ?_
                refine h_reg ?_
                refine h_op (r_build rfl) ?_
                refine h_opS (s_storer rfl rfl) ?_
                refine h_op (r_assign rfl) ?_
                refine h_nil ?_
                refine q_then ?_
                refine h_ret ?_
                refine q_thenR ?_
                exact h_ret2 rfl (rv_row rfl) rfl fun w s => ⟨(none, 0), rfl, s.res (List.nil_sublist _) (fun f hf => (List.not_mem_nil hf).elim)⟩
            · rw [q6 rfl]
              refine h_seq ?_
              refine h_seq ?_
              refine h_reg ?_
              refine h_op (r_move rfl) ?_
              refine h_op (r_nilc rfl) ?_
              refine h_op (r_field rfl) ?_
              refine h_op (r_loadc rfl) ?_
              refine h_op (r_len rfl) ?_
              refine h_op (r_bool (r_gtr rfl rfl) (decide_eq_false (by omega))) ?_
              refine h_op (r_move rfl) ?_
              refine h_opOff ?_
              refine h_opOff ?_
              refine h_opOff ?_
              refine h_opOff ?_
              refine h_opOff ?_
              refine h_op (r_pick rfl rfl) ?_
              refine h_op (r_move rfl) ?_
              refine h_opOff ?_
              refine h_opOff ?_
              refine h_opOff ?_
              refine h_opOff ?_
              refine h_op (r_pick rfl rfl) ?_
              refine h_nil ?_
              refine q_then ?_
              refine h_condF rfl ?_
              refine h_exit ?_
              refine q_thenE ?_
              refine q_thenE ?_
              refine q_blockE ?_
              refine q_then ?_
              refine h_seq ?_
              refine h_seq ?_
              refine h_reg ?_
              refine h_op (r_move rfl) ?_
              refine h_op (r_nilc rfl) ?_
              refine h_op (r_field rfl) ?_
              refine h_op (r_loadc rfl) ?_
              refine h_op (r_move rfl) ?_
              refine h_opOff ?_
              refine h_opOff ?_
              refine h_opOff ?_
              refine h_opOff ?_
              refine h_opOff ?_
              refine h_opOff ?_
              refine h_op (r_pick rfl rfl) ?_
              refine h_op (r_move rfl) ?_
              refine h_opOff ?_
              refine h_opOff ?_
              refine h_opOff ?_
              refine h_op (r_pick rfl rfl) ?_
              refine h_nil ?_
              refine q_then ?_
              refine h_condT rfl ?_
              refine h_seq ?_
              refine h_reg ?_
              refine h_op (r_build rfl) ?_
              refine h_opS (s_storer rfl rfl) ?_
              refine h_op (r_assign rfl) ?_
              refine h_nil ?_
              refine q_then ?_
              refine h_ret ?_
              refine q_thenR ?_
              exact h_ret2 rfl (rv_row rfl) rfl fun w s => ⟨(none, 0), rfl, s.res (List.nil_sublist _) (fun f hf => (List.not_mem_nil hf).elim)⟩
        · have hlf : dLf l = ⟨b32At l 36, b32At l 68⟩ := if_pos hdK
          have hdk : dK l = 1 := hdK
          have hbase : dBase l = 100 := by unfold dBase; omega
          refine spec_of Tryz.func118 rfl (n := 104) rfl rfl ?_
          intro W
          refine h_seq ?_
          refine h_reg ?_
          refine h_opX (x_alloc) fun g2 => ?_
          refine h_op (r_assign rfl) ?_
          refine h_nil ?_
          refine q_then ?_
          refine h_seq ?_
          refine h_seq ?_
          refine h_reg ?_
          refine h_op (r_move rfl) ?_
          refine h_op (r_len rfl) ?_
          refine h_op (r_bool (r_lss rfl rfl) (decide_eq_false (by omega))) ?_
          refine h_nil ?_
          refine q_then ?_
          refine h_condF rfl ?_
          refine h_skip ?_
          refine q_then ?_
          refine h_seq ?_
          refine h_reg ?_
          refine h_op (r_move rfl) ?_
          refine h_call (hK.comes) rfl rfl rfl fun _ => ?_
          refine h_op (r_move rfl) ?_
          refine h_op (r_extract rfl rfl) ?_
          refine h_op (r_extract rfl rfl) ?_
          refine h_op (r_assign rfl) ?_
          refine h_op (r_assign rfl) ?_
          refine h_nil ?_
          refine q_then ?_
          refine h_seq ?_
          refine h_seq ?_
          refine h_reg ?_
          refine h_op (r_move rfl) ?_
          refine h_op (r_neq rfl rfl) ?_
          refine h_nil ?_
          refine q_then ?_
          refine h_no rfl ((fun h => h rfl)) ?_
          refine h_skip ?_
          refine q_then ?_
          refine h_seq ?_
          refine h_seq ?_
          refine h_reg ?_
          refine h_op (r_move rfl) ?_
          refine h_op (r_bool (r_neq rfl rfl) (show _ = true from rfl)) ?_
          refine h_op (r_move rfl) ?_
          refine h_op (r_move rfl) ?_
          refine h_op (r_bool (r_neq rfl rfl) (show _ = false from rfl)) ?_
          refine h_op (r_pick rfl rfl) ?_
          refine h_nil ?_
          refine q_then ?_
          refine h_condF rfl ?_
          refine h_skip ?_
          refine q_then ?_
          refine h_seq ?_
          refine h_reg ?_
          refine h_op (r_move rfl) ?_
          refine h_op (r_as (r_slL rfl rfl) (show _ = Value.slice (cutA (some ⟨b, o, none⟩) c 4 1) (32 + (l.drop 36).length) (c - 4) by rw [h4])) ?_
          refine h_op (r_build rfl) ?_
          refine h_opX (x_box rfl) fun g32 => ?_
          refine h_op (r_assign rfl) ?_
          refine h_nil ?_
          refine q_then ?_
          refine h_seq ?_
          refine h_reg ?_
          refine h_op (r_move rfl) ?_
          refine h_op (r_func rfl rfl) ?_
          refine h_op (r_assign rfl) ?_
          refine h_nil ?_
          refine q_then ?_
          refine h_seq ?_
          refine h_join (fun (u : {y : Option Addr × Nat // RdZ h y.1 (bc (l.drop 36)) ∧ (l.drop 36).length ≤ y.2} × Nat) => [(8, .pointer (some ⟨u.2, 0, none⟩)), (7, .func (.func 152) [.pointer (some ⟨g32, 0, none⟩)].toArray #[]), (6, .pointer (some ⟨g32, 0, none⟩)), (4, .int .i64 ((1 : Nat) : Int)), (2, .pointer (some ⟨g2, 0, none⟩))]) (fun (u : {y : Option Addr × Nat // RdZ h y.1 (bc (l.drop 36)) ∧ (l.drop 36).length ≤ y.2} × Nat) => [.blk u.2 (Proof.cells ⟨((1 : Nat) : Int), (d : Int), zProof.leaf, b32At l 4, zProof.sibs⟩) 87, .blk g32 [.slice u.1.1.1 (l.drop 36).length u.1.1.2, .bool false] 241, .blk g2 zProof.cells 87, .zone false h]) (fun kk => ?_) ?_
          · refine ha_start [.zone false h] [] mixed (same) ?_
            refine ha_takeP 0 rfl (r_move rfl) ?_
            refine ha_takeP 1 rfl (r_move rfl) ?_
            refine ha_takeP 2 rfl (r_idx rfl rfl) ?_
            refine ha_take 3 rfl (r_nth rfl (bc_at' (l := l) (i := 2) (by omega))) ?_
            refine ha_takeP 4 rfl (r_int (r_cUI rfl) (show _ = (((l.getD 2 0).toNat : Nat) : Int) from rfl)) ?_
            refine ha_takeP 5 rfl (r_shl8 rfl rfl) ?_
            refine ha_takeP 6 rfl (r_move rfl) ?_
            refine ha_takeP 7 rfl (r_idx rfl rfl) ?_
            refine ha_take 8 rfl (r_nth rfl (bc_at' (l := l) (i := 3) (by omega))) ?_
            refine ha_takeP 9 rfl (r_int (r_cUI rfl) (show _ = (((l.getD 3 0).toNat : Nat) : Int) from rfl)) ?_
            refine ha_takeP 10 rfl (r_int (r_or8 rfl rfl) (show _ = (d : Int) by omega)) ?_
            refine ha_takeP 11 rfl (r_move rfl) ?_
            refine ha_two 12 14 ?_ ?_
            · refine ho_C 12 rfl ((cpart_s h (b32At l 4) (l.drop 36) (cutA (some ⟨b, o, none⟩) c 4 1) (c - 4) g32 hc4 (by omega)).comes) rfl rfl rfl (fun xx => same) fun y47 => ?_
              refine ha_takeP 13 rfl (r_build rfl) ?_
              refine ha_one 14 ?_
              refine ho_X 14 rfl (rk (x_alloc)) (fun _ => same) fun g8 => ?_
              refine ha_one 15 ?_
              refine ho_SL 15 rfl (s_storer rfl rfl) ?_
              exact h_K (kk (y47, g8)) (⟨rfl, rfl, rfl, rfl, rfl, trivial⟩) same
            · refine ho_X 14 rfl (rk (x_alloc)) (fun _ => same) fun g8 => ?_
              refine ha_one 12 ?_
              refine ho_C 12 rfl ((cpart_s h (b32At l 4) (l.drop 36) (cutA (some ⟨b, o, none⟩) c 4 1) (c - 4) g32 hc4 (by omega)).comes) rfl rfl rfl (fun xx => same) fun y47 => ?_
              refine ha_takeP 13 rfl (r_build rfl) ?_
              refine ha_one 15 ?_
              refine ho_SL 15 rfl (s_storer rfl rfl) ?_
              exact h_K (kk (y47, g8)) (⟨rfl, rfl, rfl, rfl, rfl, trivial⟩) same
          rintro ⟨⟨⟨A47, c47⟩, hz0, hc0⟩, g8⟩
          refine q_then ?_
          dsimp only at hz0 hc0 ⊢
          change H _ _ _ _ _ (.blk g8 (Proof.cells ⟨((1 : Nat) : Int), (d : Int), zLeaf, b32At l 4, ⟨none, 0, 0⟩⟩) _ :: _) _
          refine h_seq ?_
          refine h_seq ?_
          refine h_reg ?_
          refine h_op (r_move rfl) ?_
          refine h_op (r_bool (r_eql rfl rfl) (show _ = true from rfl)) ?_
          refine h_nil ?_
          refine q_then ?_
          refine h_condT rfl ?_
          refine h_seq ?_
          refine h_reg ?_
          refine h_op (r_move rfl) ?_
          by_cases h68 : 68 ≤ l.length
          · have hdr36 := b32At_drop (l := l) (o := 36) (by omega)
            have hl36 : (l.drop 36).length = 32 + (l.drop 68).length := by rw [List.length_drop, List.length_drop]; omega
            rw [hdr36] at hz0
            rw [hl36] at hc0 ⊢
            refine h_call ((cpart_s h (b32At l 36) (l.drop 68) A47 c47 g32 hc0 (by omega)).comes) rfl rfl rfl fun ⟨⟨A52, c52⟩, hz2, hc2⟩ => ?_
            dsimp only at hz2 hc2 ⊢
            refine h_op (r_field rfl) ?_
            refine h_op (r_field rfl) ?_
            refine h_opS (s_storer rfl rfl) ?_
            refine h_nil ?_
            refine q_then ?_
            refine h_reg ?_
            refine h_op (r_move rfl) ?_
            by_cases h100 : 100 ≤ l.length
            · have hdr68 := b32At_drop (l := l) (o := 68) (by omega)
              have hl68 : (l.drop 68).length = 32 + (l.drop 100).length := by rw [List.length_drop, List.length_drop]; omega
              rw [hdr68] at hz2
              rw [hl68] at hc2 ⊢
              refine h_call ((cpart_s h (b32At l 68) (l.drop 100) A52 c52 g32 hc2 (by omega)).comes) rfl rfl rfl fun ⟨⟨A56, c56⟩, hz3, hc3⟩ => ?_
              dsimp only at hz3 hc3 ⊢
              refine h_op (r_field rfl) ?_
              refine h_op (r_field rfl) ?_
              refine h_opS (s_storer rfl rfl) ?_
              refine h_nil ?_
              refine q_then ?_
              refine h_seq ?_
              refine h_block ?_
              refine h_nil_own 41 32 (xs := dgs []) rfl ?_
              refine h_loop (fun (s : List UInt8 × Bool × Option Addr × Nat × List B32 × Option Addr × Nat) => RdZ h s.2.2.1 (bc s.1) ∧ s.1.length ≤ s.2.2.2.1 ∧ s.1.length ≤ l.length ∧ s.2.2.2.2.1.length ≤ 257 ∧ (s.2.1 = false → 100 + 32 * s.2.2.2.2.1.length ≤ l.length ∧ s.1 = l.drop (100 + 32 * s.2.2.2.2.1.length) ∧ s.2.2.2.2.1 = sibsAt l 100 s.2.2.2.2.1.length) ∧ (s.2.1 = true → decB l = .error 5)) (fun (s : List UInt8 × Bool × Option Addr × Nat × List B32 × Option Addr × Nat) => [(8, .pointer (some ⟨g8, 0, none⟩)), (7, .func (.func 152) [.pointer (some ⟨g32, 0, none⟩)].toArray #[]), (6, .pointer (some ⟨g32, 0, none⟩)), (2, .pointer (some ⟨g2, 0, none⟩))]) (fun (s : List UInt8 × Bool × Option Addr × Nat × List B32 × Option Addr × Nat) => [.own (.slice s.2.2.2.2.2.1 s.2.2.2.2.1.length s.2.2.2.2.2.2) s.2.2.2.2.1.length 41 32 (dgs s.2.2.2.2.1), .blk g8 (Proof.cells ⟨((1 : Nat) : Int), (d : Int), ⟨b32At l 36, b32At l 68⟩, b32At l 4, ⟨s.2.2.2.2.2.1, s.2.2.2.2.1.length, s.2.2.2.2.2.2⟩⟩) 87, .blk g32 [.slice s.2.2.1 s.1.length s.2.2.2.1, .bool s.2.1] 241, .blk g2 zProof.cells 87, .zone false h]) (fun (s : List UInt8 × Bool × Option Addr × Nat × List B32 × Option Addr × Nat) => s.1.length + (if s.2.1 then 0 else 1)) (l.drop 100, false, A56, c56, [], none, 0) (⟨hz3, hc3, by dsimp only; rw [List.length_drop]; omega, Nat.zero_le _, fun _ => ⟨by dsimp only; show 100 + 32 * 0 ≤ _; omega, rfl, rfl⟩, fun h => by cases h⟩) ⟨rfl, rfl, rfl, rfl, trivial⟩ (same) ?_
              rintro ⟨r, b', Ar, cr, ss, A, c9⟩ ⟨q1, q2, q3, q4, q5, q6⟩
              dsimp only at q1 q2 q3 q4 q5 q6 ⊢
              by_cases hr0 : 0 < r.length
              · cases b'
                · obtain ⟨q7, q8, q9⟩ := q5 rfl
                  have hrl : r.length = l.length - (100 + 32 * ss.length) := by rw [q8, List.length_drop]
                  by_cases h6 : ss.length ≤ 256
                  · refine h_seq ?_
                    refine h_seq ?_
                    refine h_reg ?_
                    refine h_op (r_move rfl) ?_
                    refine h_op (r_nilc rfl) ?_
                    refine h_op (r_field rfl) ?_
                    refine h_op (r_loadc rfl) ?_
                    refine h_op (r_len rfl) ?_
                    refine h_op (r_bool (r_gtr rfl rfl) (decide_eq_true (by omega))) ?_
                    refine h_op (r_move rfl) ?_
                    refine h_op (r_move rfl) ?_
                    refine h_op (r_nilc rfl) ?_
                    refine h_op (r_field rfl) ?_
                    refine h_op (r_loadc rfl) ?_
                    refine h_op (r_not rfl) ?_
                    refine h_op (r_pick rfl rfl) ?_
                    refine h_op (r_move rfl) ?_
                    refine h_op (r_field rfl) ?_
                    refine h_op (r_loadc rfl) ?_
                    refine h_op (r_len rfl) ?_
                    refine h_op (r_bool (r_leq rfl rfl) (decide_eq_true (show (ss.length : Int) ≤ 256 by omega))) ?_
                    refine h_op (r_pick rfl rfl) ?_
                    refine h_nil ?_
                    refine q_then ?_
                    refine h_condT rfl ?_
                    refine h_skip ?_
                    refine q_then ?_
                    refine h_block ?_
                    by_cases h32 : 32 ≤ r.length
                    · have hdr := b32At_drop (l := l) (o := 100 + 32 * ss.length) (by omega)
                      have hx := (b32At l (100 + 32 * ss.length)).2
                      have hl2 : r.length = 32 + (l.drop (100 + 32 * ss.length + 32)).length := by rw [q8, hdr, List.length_append, hx]
                      rw [q8, hdr] at q1
                      have htk : dgs ss ++ (b32At l (100 + 32 * ss.length)).cells = dgs (ss ++ [b32At l (100 + 32 * ss.length)]) := by rw [dgs_append, dgs_one']
                      have hlx : ss.length + 1 = (ss ++ [b32At l (100 + 32 * ss.length)]).length := by rw [List.length_append]; rfl
                      have hsc := sibsAt_succ l 100 ss.length
                      rw [← q9] at hsc
                      rw [hl2]
                      rw [hl2] at q2
                      refine ha_start [.blk g8 (Proof.cells ⟨((1 : Nat) : Int), (d : Int), ⟨b32At l 36, b32At l 68⟩, b32At l 4, ⟨A, ss.length, c9⟩⟩) 87] [] mixed (same) ?_
                      refine ha_takeP 0 rfl (r_field rfl) ?_
                      refine ha_take 1 rfl (r_loadc rfl) ?_
                      refine ha_takeP 2 rfl (r_move rfl) ?_
                      refine ha_one 3 ?_
                      refine ho_C 3 rfl ((cpart_s h (b32At l (100 + 32 * ss.length)) (l.drop (100 + 32 * ss.length + 32)) Ar cr g32 q2 (by omega)).comes) rfl rfl rfl (fun xx => same) fun ⟨⟨Ar2, cr2⟩, hz5, hc5⟩ => ?_
                      refine ha_one 4 ?_
                      refine ho_X 4 rfl (rk (x_bsl rfl rfl)) (fun _ => same) fun g82 => ?_
                      refine ha_one 5 ?_
                      refine ho_X 5 rfl (rk (x_app rfl rfl (k := 32))) (fun _ => same) fun ⟨g83, c83⟩ => ?_
                      refine ha_takeP 6 rfl (r_field rfl) ?_
                      refine ha_one 7 ?_
                      refine ho_SL 7 rfl (s_store rfl rfl rfl) ?_
                      refine q_block ?_
                      rw [htk, hlx]
                      exact h_back (l.drop (100 + 32 * ss.length + 32), false, Ar2, cr2, ss ++ [b32At l (100 + 32 * ss.length)], some ⟨g83, 0, none⟩, c83) (⟨hz5, hc5, by dsimp only; omega, by dsimp only; omega, fun _ => ⟨by dsimp only; omega, by dsimp only; rw [← hlx, show 100 + 32 * (ss.length + 1) = 100 + 32 * ss.length + 32 by omega], by dsimp only; rw [← hlx, hsc]⟩, fun h => by cases h⟩) ((show (l.drop (100 + 32 * ss.length + 32)).length + 1 < r.length + 1 by omega)) ⟨rfl, rfl, rfl, rfl, trivial⟩ (same)
                    · have hE := decB_bad (l := l) h36 h01 (by omega) (.inr (.inl (by omega)))
                      have htk : dgs ss ++ zB32.cells = dgs (ss ++ [zB32]) := by rw [dgs_append, dgs_one']
                      have hlx : ss.length + 1 = (ss ++ [zB32]).length := by rw [List.length_append]; rfl
                      refine ha_start [.blk g8 (Proof.cells ⟨((1 : Nat) : Int), (d : Int), ⟨b32At l 36, b32At l 68⟩, b32At l 4, ⟨A, ss.length, c9⟩⟩) 87] [] mixed (same) ?_
                      refine ha_takeP 0 rfl (r_field rfl) ?_
                      refine ha_take 1 rfl (r_loadc rfl) ?_
                      refine ha_takeP 2 rfl (r_move rfl) ?_
                      refine ha_one 3 ?_
                      refine ho_C 3 rfl ((cpart_short h r Ar cr g32 false (by omega)).comes) rfl rfl rfl (fun xx => same) fun _ => ?_
                      refine ha_one 4 ?_
                      refine ho_X 4 rfl (rk (x_bsl rfl rfl)) (fun _ => same) fun g82 => ?_
                      refine ha_one 5 ?_
                      refine ho_X 5 rfl (rk (x_app rfl rfl (k := 32))) (fun _ => same) fun ⟨g83, c83⟩ => ?_
                      refine ha_takeP 6 rfl (r_field rfl) ?_
                      refine ha_one 7 ?_
                      refine ho_SL 7 rfl (s_store rfl rfl rfl) ?_
                      refine q_block ?_
                      rw [htk, hlx]
                      exact h_back (r, true, Ar, cr, ss ++ [zB32], some ⟨g83, 0, none⟩, c83) (⟨q1, q2, q3, by dsimp only; omega, (fun h => by cases h), fun _ => hE⟩) ((show r.length + 0 < r.length + 1 by omega)) ⟨rfl, rfl, rfl, rfl, trivial⟩ (same)
                  · have hE := decB_bad (l := l) h36 h01 (by omega) (by have : dBase l = 100 := by (unfold dBase; omega)
                                                                        omega)
                    rw [hE]
                    refine h_seq ?_
                    refine h_seq ?_
                    refine h_reg ?_
                    refine h_op (r_move rfl) ?_
                    refine h_op (r_nilc rfl) ?_
                    refine h_op (r_field rfl) ?_
                    refine h_op (r_loadc rfl) ?_
                    refine h_op (r_len rfl) ?_
                    refine h_op (r_bool (r_gtr rfl rfl) (decide_eq_true (by omega))) ?_
                    refine h_op (r_move rfl) ?_
                    refine h_op (r_move rfl) ?_
                    refine h_op (r_nilc rfl) ?_
                    refine h_op (r_field rfl) ?_
                    refine h_op (r_loadc rfl) ?_
                    refine h_op (r_not rfl) ?_
                    refine h_op (r_pick rfl rfl) ?_
                    refine h_op (r_move rfl) ?_
                    refine h_op (r_field rfl) ?_
                    refine h_op (r_loadc rfl) ?_
                    refine h_op (r_len rfl) ?_
                    refine h_op (r_bool (r_leq rfl rfl) (decide_eq_false (show ¬ (ss.length : Int) ≤ 256 by omega))) ?_
                    refine h_op (r_pick rfl rfl) ?_
                    refine h_nil ?_
                    refine q_then ?_
                    refine h_condF rfl ?_
                    refine h_exit ?_
                    refine q_thenE ?_
                    refine q_thenE ?_
                    refine q_blockE ?_
                    refine q_then ?_
                    refine h_seq ?_
                    refine h_seq ?_
                    refine h_reg ?_
                    refine h_op (r_move rfl) ?_
                    refine h_op (r_nilc rfl) ?_
                    refine h_op (r_field rfl) ?_
                    refine h_op (r_loadc rfl) ?_
                    refine h_op (r_move rfl) ?_
                    refine h_op (r_move rfl) ?_
                    refine h_op (r_nilc rfl) ?_
                    refine h_op (r_field rfl) ?_
                    refine h_op (r_loadc rfl) ?_
                    refine h_op (r_len rfl) ?_
                    refine h_op (r_bool (r_gtr rfl rfl) (decide_eq_true (by omega))) ?_
                    refine h_op (r_pick rfl rfl) ?_
                    refine h_op (r_move rfl) ?_
                    refine h_opOff ?_
                    refine h_opOff ?_
                    refine h_opOff ?_
                    refine h_op (r_pick rfl rfl) ?_
                    refine h_nil ?_
                    refine q_then ?_
                    refine h_condT rfl ?_
                    refine h_seq ?_
                    refine h_reg ?_
                    refine h_op (r_build rfl) ?_
                    refine h_opS (s_storer rfl rfl) ?_
                    refine h_op (r_assign rfl) ?_
                    refine h_nil ?_
                    refine q_then ?_
                    refine h_ret ?_
                    refine q_thenR ?_
                    exact h_ret2 rfl (rv_row rfl) rfl fun w s => ⟨(none, 0), rfl, s.res (List.nil_sublist _) (fun f hf => (List.not_mem_nil hf).elim)⟩
                · rw [q6 rfl]
                  refine h_seq ?_
                  refine h_seq ?_
                  refine h_reg ?_
                  refine h_op (r_move rfl) ?_
                  refine h_op (r_nilc rfl) ?_
                  refine h_op (r_field rfl) ?_
                  refine h_op (r_loadc rfl) ?_
                  refine h_op (r_len rfl) ?_
                  refine h_op (r_bool (r_gtr rfl rfl) (decide_eq_true (by omega))) ?_
                  refine h_op (r_move rfl) ?_
                  refine h_op (r_move rfl) ?_
                  refine h_op (r_nilc rfl) ?_
                  refine h_op (r_field rfl) ?_
                  refine h_op (r_loadc rfl) ?_
                  refine h_op (r_not rfl) ?_
                  refine h_op (r_pick rfl rfl) ?_
                  refine h_op (r_move rfl) ?_
                  refine h_opOff ?_
                  refine h_opOff ?_
                  refine h_opOff ?_
                  refine h_opOff ?_
                  refine h_op (r_pick rfl rfl) ?_
                  refine h_nil ?_
                  refine q_then ?_
                  refine h_condF rfl ?_
                  refine h_exit ?_
                  refine q_thenE ?_
                  refine q_thenE ?_
                  refine q_blockE ?_
                  refine q_then ?_
                  refine h_seq ?_
                  refine h_seq ?_
                  refine h_reg ?_
                  refine h_op (r_move rfl) ?_
                  refine h_op (r_nilc rfl) ?_
                  refine h_op (r_field rfl) ?_
                  refine h_op (r_loadc rfl) ?_
                  refine h_op (r_move rfl) ?_
                  refine h_opOff ?_
                  refine h_opOff ?_
                  refine h_opOff ?_
                  refine h_opOff ?_
                  refine h_opOff ?_
                  refine h_opOff ?_
                  refine h_op (r_pick rfl rfl) ?_
                  refine h_op (r_move rfl) ?_
                  refine h_opOff ?_
                  refine h_opOff ?_
                  refine h_opOff ?_
                  refine h_op (r_pick rfl rfl) ?_
                  refine h_nil ?_
                  refine q_then ?_
                  refine h_condT rfl ?_
                  refine h_seq ?_
                  refine h_reg ?_
                  refine h_op (r_build rfl) ?_
                  refine h_opS (s_storer rfl rfl) ?_
                  refine h_op (r_assign rfl) ?_
                  refine h_nil ?_
                  refine q_then ?_
                  refine h_ret ?_
                  refine q_thenR ?_
                  exact h_ret2 rfl (rv_row rfl) rfl fun w s => ⟨(none, 0), rfl, s.res (List.nil_sublist _) (fun f hf => (List.not_mem_nil hf).elim)⟩
              · cases b'
                · obtain ⟨q7, q8, q9⟩ := q5 rfl
                  have hrl : r.length = l.length - (100 + 32 * ss.length) := by rw [q8, List.length_drop]
                  have hE := decB_end (l := l) h36 h01 (by omega) (N := ss.length) (by unfold dBase; omega) q4
                  have hDP : ∀ A c, (dDP l ss.length).pr A c = ⟨((1 : Nat) : Int), (d : Int), ⟨b32At l 36, b32At l 68⟩, b32At l 4, ⟨A, ss.length, c⟩⟩ := fun A c => by
                    unfold DP.pr dDP
                    rw [hlf, sibsAt_len, hdk, hd]
                  have hss : (dDP l ss.length).ss = ss := by show sibsAt l (dBase l) ss.length = ss; rw [show dBase l = 100 by unfold dBase; omega]; exact q9.symm
                  have hcc := Check_s ⟨((1 : Nat) : Int), (d : Int), ⟨b32At l 36, b32At l 68⟩, b32At l 4, ⟨A, ss.length, c9⟩⟩
                  have hca : checkP ⟨((1 : Nat) : Int), (d : Int), ⟨b32At l 36, b32At l 68⟩, b32At l 4, ⟨A, ss.length, c9⟩⟩ = checkP ((dDP l ss.length).pr none 0) := by rw [hDP]; rfl
                  refine h_seq ?_
                  refine h_seq ?_
                  refine h_reg ?_
                  refine h_op (r_move rfl) ?_
                  refine h_op (r_nilc rfl) ?_
                  refine h_op (r_field rfl) ?_
                  refine h_op (r_loadc rfl) ?_
                  refine h_op (r_len rfl) ?_
                  refine h_op (r_bool (r_gtr rfl rfl) (decide_eq_false (by omega))) ?_
                  refine h_op (r_move rfl) ?_
                  refine h_opOff ?_
                  refine h_opOff ?_
                  refine h_opOff ?_
                  refine h_opOff ?_
                  refine h_opOff ?_
                  refine h_op (r_pick rfl rfl) ?_
                  refine h_op (r_move rfl) ?_
                  refine h_opOff ?_
                  refine h_opOff ?_
                  refine h_opOff ?_
                  refine h_opOff ?_
                  refine h_op (r_pick rfl rfl) ?_
                  refine h_nil ?_
                  refine q_then ?_
                  refine h_condF rfl ?_
                  by_cases hck : checkP ((dDP l ss.length).pr none 0) = 0
                  · rw [if_pos hck] at hE
                    rw [hE]
                    rw [hca, hck] at hcc
                    refine h_exit ?_
                    refine q_thenE ?_
                    refine q_thenE ?_
                    refine q_blockE ?_
                    refine q_then ?_
                    refine h_seq ?_
                    refine h_seq ?_
                    refine h_reg ?_
                    refine h_op (r_move rfl) ?_
                    refine h_op (r_nilc rfl) ?_
                    refine h_op (r_field rfl) ?_
                    refine h_op (r_loadc rfl) ?_
                    refine h_op (r_move rfl) ?_
                    refine h_op (r_move rfl) ?_
                    refine h_op (r_nilc rfl) ?_
                    refine h_op (r_field rfl) ?_
                    refine h_op (r_loadc rfl) ?_
                    refine h_op (r_len rfl) ?_
                    refine h_op (r_bool (r_gtr rfl rfl) (decide_eq_false (by omega))) ?_
                    refine h_op (r_pick rfl rfl) ?_
                    refine h_op (r_move rfl) ?_
                    refine h_op (r_loadr rfl) ?_
                    refine h_call (hcc.comes) rfl rfl rfl fun _ => ?_
                    refine h_op (r_bool (r_neq rfl rfl) (decide_eq_false (fun h => h rfl))) ?_
                    refine h_op (r_pick rfl rfl) ?_
                    refine h_nil ?_
                    refine q_then ?_
                    refine h_condF rfl ?_
                    refine h_skip ?_
                    refine q_then ?_
                    refine h_seq ?_
                    refine h_reg ?_
                    refine h_op (r_loadr rfl) ?_
                    refine h_opS (s_storer rfl rfl) ?_
                    refine h_op (r_assign rfl) ?_
                    refine h_nil ?_
                    refine q_then ?_
                    refine h_ret ?_
                    refine h_ret2 rfl (rv_row rfl) rfl fun w s => ⟨(A, c9), ?_, ?_⟩
                    · show _ = Ending.returned (.tuple #[.agg ((dDP l ss.length).pr A c9).cells.toArray, .int .i64 0])
                      rw [hDP]
                    · show Rx _ _ _ [.own (.slice A (dDP l ss.length).ss.length c9) (dDP l ss.length).ss.length 41 32 (dgs (dDP l ss.length).ss)]
                      rw [hss]
                      exact (same (L' := [.own (.slice A ss.length c9) ss.length 41 32 (dgs ss)]) w s).res (List.Sublist.refl _) (by simp [Fa.wr])
                  · rw [if_neg hck] at hE
                    rw [hE]
                    rw [hca] at hcc
                    refine h_exit ?_
                    refine q_thenE ?_
                    refine q_thenE ?_
                    refine q_blockE ?_
                    refine q_then ?_
                    refine h_seq ?_
                    refine h_seq ?_
                    refine h_reg ?_
                    refine h_op (r_move rfl) ?_
                    refine h_op (r_nilc rfl) ?_
                    refine h_op (r_field rfl) ?_
                    refine h_op (r_loadc rfl) ?_
                    refine h_op (r_move rfl) ?_
                    refine h_op (r_move rfl) ?_
                    refine h_op (r_nilc rfl) ?_
                    refine h_op (r_field rfl) ?_
                    refine h_op (r_loadc rfl) ?_
                    refine h_op (r_len rfl) ?_
                    refine h_op (r_bool (r_gtr rfl rfl) (decide_eq_false (by omega))) ?_
                    refine h_op (r_pick rfl rfl) ?_
                    refine h_op (r_move rfl) ?_
                    refine h_op (r_loadr rfl) ?_
                    refine h_call (hcc.comes) rfl rfl rfl fun _ => ?_
                    refine h_op (r_bool (r_neq rfl rfl) (decide_eq_true hck)) ?_
                    refine h_op (r_pick rfl rfl) ?_
                    refine h_nil ?_
                    refine q_then ?_
                    refine h_condT rfl ?_
                    refine h_seq ?_
                    refine h_reg ?_
                    refine h_op (r_build rfl) ?_
                    refine h_opS (s_storer rfl rfl) ?_
                    refine h_op (r_assign rfl) ?_
                    refine h_nil ?_
                    refine q_then ?_
                    refine h_ret ?_
                    refine q_thenR ?_
                    exact h_ret2 rfl (rv_row rfl) rfl fun w s => ⟨(none, 0), rfl, s.res (List.nil_sublist _) (fun f hf => (List.not_mem_nil hf).elim)⟩
                · rw [q6 rfl]
                  refine h_seq ?_
                  refine h_seq ?_
                  refine h_reg ?_
                  refine h_op (r_move rfl) ?_
                  refine h_op (r_nilc rfl) ?_
                  refine h_op (r_field rfl) ?_
                  refine h_op (r_loadc rfl) ?_
                  refine h_op (r_len rfl) ?_
                  refine h_op (r_bool (r_gtr rfl rfl) (decide_eq_false (by omega))) ?_
                  refine h_op (r_move rfl) ?_
                  refine h_opOff ?_
                  refine h_opOff ?_
                  refine h_opOff ?_
                  refine h_opOff ?_
                  refine h_opOff ?_
                  refine h_op (r_pick rfl rfl) ?_
                  refine h_op (r_move rfl) ?_
                  refine h_opOff ?_
                  refine h_opOff ?_
                  refine h_opOff ?_
                  refine h_opOff ?_
                  refine h_op (r_pick rfl rfl) ?_
                  refine h_nil ?_
                  refine q_then ?_
                  refine h_condF rfl ?_
                  refine h_exit ?_
                  refine q_thenE ?_
                  refine q_thenE ?_
                  refine q_blockE ?_
                  refine q_then ?_
                  refine h_seq ?_
                  refine h_seq ?_
                  refine h_reg ?_
                  refine h_op (r_move rfl) ?_
                  refine h_op (r_nilc rfl) ?_
                  refine h_op (r_field rfl) ?_
                  refine h_op (r_loadc rfl) ?_
                  refine h_op (r_move rfl) ?_
                  refine h_opOff ?_
                  refine h_opOff ?_
                  refine h_opOff ?_
                  refine h_opOff ?_
                  refine h_opOff ?_
                  refine h_opOff ?_
                  refine h_op (r_pick rfl rfl) ?_
                  refine h_op (r_move rfl) ?_
                  refine h_opOff ?_
                  refine h_opOff ?_
                  refine h_opOff ?_
                  refine h_op (r_pick rfl rfl) ?_
                  refine h_nil ?_
                  refine q_then ?_
                  refine h_condT rfl ?_
                  refine h_seq ?_
                  refine h_reg ?_
                  refine h_op (r_build rfl) ?_
                  refine h_opS (s_storer rfl rfl) ?_
                  refine h_op (r_assign rfl) ?_
                  refine h_nil ?_
                  refine q_then ?_
                  refine h_ret ?_
                  refine q_thenR ?_
                  exact h_ret2 rfl (rv_row rfl) rfl fun w s => ⟨(none, 0), rfl, s.res (List.nil_sublist _) (fun f hf => (List.not_mem_nil hf).elim)⟩
            · have hEb := decB_bad (l := l) h36 h01 (by omega) (.inl (by omega))
              refine h_call ((cpart_short h (l.drop 68) A52 c52 g32 false (by rw [List.length_drop]; omega)).comes) rfl rfl rfl fun _ => ?_
              refine h_op (r_field rfl) ?_
              refine h_op (r_field rfl) ?_
              refine h_opS (s_storer rfl rfl) ?_
              refine h_nil ?_
              refine q_then ?_
              refine h_seq ?_
              refine h_block ?_
              rw [hEb]
              by_cases hr0 : 0 < (l.drop 68).length
              · refine h_loop (fun (s : Unit) => True) (fun (s : Unit) => [(8, .pointer (some ⟨g8, 0, none⟩)), (7, .func (.func 152) [.pointer (some ⟨g32, 0, none⟩)].toArray #[]), (6, .pointer (some ⟨g32, 0, none⟩)), (2, .pointer (some ⟨g2, 0, none⟩))]) (fun (s : Unit) => [.blk g32 [.slice A52 (l.drop 68).length c52, .bool true] 241, .blk g2 zProof.cells 87]) (fun (s : Unit) => 0) () (trivial) ⟨rfl, rfl, rfl, rfl, trivial⟩ (same) ?_
                rintro _ _
                refine h_seq ?_
                refine h_seq ?_
                refine h_reg ?_
                refine h_op (r_move rfl) ?_
                refine h_op (r_nilc rfl) ?_
                refine h_op (r_field rfl) ?_
                refine h_op (r_loadc rfl) ?_
                refine h_op (r_len rfl) ?_
                refine h_op (r_bool (r_gtr rfl rfl) (decide_eq_true (by omega))) ?_
                refine h_op (r_move rfl) ?_
                refine h_op (r_move rfl) ?_
                refine h_op (r_nilc rfl) ?_
                refine h_op (r_field rfl) ?_
                refine h_op (r_loadc rfl) ?_
                refine h_op (r_not rfl) ?_
                refine h_op (r_pick rfl rfl) ?_
                refine h_op (r_move rfl) ?_
                refine h_opOff ?_
                refine h_opOff ?_
                refine h_opOff ?_
                refine h_opOff ?_
                refine h_op (r_pick rfl rfl) ?_
                refine h_nil ?_
                refine q_then ?_
                refine h_condF rfl ?_
                refine h_exit ?_
                refine q_thenE ?_
                refine q_thenE ?_
                refine q_blockE ?_
                refine q_then ?_
                refine h_seq ?_
                refine h_seq ?_
                refine h_reg ?_
                refine h_op (r_move rfl) ?_
                refine h_op (r_nilc rfl) ?_
                refine h_op (r_field rfl) ?_
                refine h_op (r_loadc rfl) ?_
                refine h_op (r_move rfl) ?_
                refine h_opOff ?_
                refine h_opOff ?_
                refine h_opOff ?_
                refine h_opOff ?_
                refine h_opOff ?_
                refine h_opOff ?_
                refine h_op (r_pick rfl rfl) ?_
                refine h_op (r_move rfl) ?_
                refine h_opOff ?_
                refine h_opOff ?_
                refine h_opOff ?_
                refine h_op (r_pick rfl rfl) ?_
                refine h_nil ?_
                refine q_then ?_
                refine h_condT rfl ?_
                refine h_seq ?_
                refine h_reg ?_
                refine h_op (r_build rfl) ?_
                refine h_opS (s_storer rfl rfl) ?_
                refine h_op (r_assign rfl) ?_
                refine h_nil ?_
                refine q_then ?_
                refine h_ret ?_
                refine q_thenR ?_
                exact h_ret2 rfl (rv_row rfl) rfl fun w s => ⟨(none, 0), rfl, s.res (List.nil_sublist _) (fun f hf => (List.not_mem_nil hf).elim)⟩
              · refine h_loop (fun (s : Unit) => True) (fun (s : Unit) => [(8, .pointer (some ⟨g8, 0, none⟩)), (7, .func (.func 152) [.pointer (some ⟨g32, 0, none⟩)].toArray #[]), (6, .pointer (some ⟨g32, 0, none⟩)), (2, .pointer (some ⟨g2, 0, none⟩))]) (fun (s : Unit) => [.blk g32 [.slice A52 (l.drop 68).length c52, .bool true] 241, .blk g2 zProof.cells 87]) (fun (s : Unit) => 0) () (trivial) ⟨rfl, rfl, rfl, rfl, trivial⟩ (same) ?_
                rintro _ _
                refine h_seq ?_
                refine h_seq ?_
                refine h_reg ?_
                refine h_op (r_move rfl) ?_
                refine h_op (r_nilc rfl) ?_
                refine h_op (r_field rfl) ?_
                refine h_op (r_loadc rfl) ?_
                refine h_op (r_len rfl) ?_
                refine h_op (r_bool (r_gtr rfl rfl) (decide_eq_false (by omega))) ?_
                refine h_op (r_move rfl) ?_
                refine h_opOff ?_
                refine h_opOff ?_
                refine h_opOff ?_
                refine h_opOff ?_
                refine h_opOff ?_
                refine h_op (r_pick rfl rfl) ?_
                refine h_op (r_move rfl) ?_
                refine h_opOff ?_
                refine h_opOff ?_
                refine h_opOff ?_
                refine h_opOff ?_
                refine h_op (r_pick rfl rfl) ?_
                refine h_nil ?_
                refine q_then ?_
                refine h_condF rfl ?_
                refine h_exit ?_
                refine q_thenE ?_
                refine q_thenE ?_
                refine q_blockE ?_
                refine q_then ?_
                refine h_seq ?_
                refine h_seq ?_
                refine h_reg ?_
                refine h_op (r_move rfl) ?_
                refine h_op (r_nilc rfl) ?_
                refine h_op (r_field rfl) ?_
                refine h_op (r_loadc rfl) ?_
                refine h_op (r_move rfl) ?_
                refine h_opOff ?_
                refine h_opOff ?_
                refine h_opOff ?_
                refine h_opOff ?_
                refine h_opOff ?_
                refine h_opOff ?_
                refine h_op (r_pick rfl rfl) ?_
                refine h_op (r_move rfl) ?_
                refine h_opOff ?_
                refine h_opOff ?_
                refine h_opOff ?_
                refine h_op (r_pick rfl rfl) ?_
                refine h_nil ?_
                refine q_then ?_
                refine h_condT rfl ?_
                refine h_seq ?_
                refine h_reg ?_
                refine h_op (r_build rfl) ?_
                refine h_opS (s_storer rfl rfl) ?_
                refine h_op (r_assign rfl) ?_
                refine h_nil ?_
                refine q_then ?_
                refine h_ret ?_
                refine q_thenR ?_
                exact h_ret2 rfl (rv_row rfl) rfl fun w s => ⟨(none, 0), rfl, s.res (List.nil_sublist _) (fun f hf => (List.not_mem_nil hf).elim)⟩
          · have hEb := decB_bad (l := l) h36 h01 (by omega) (.inl (by omega))
            refine h_call ((cpart_short h (l.drop 36) A47 c47 g32 false (by rw [List.length_drop]; omega)).comes) rfl rfl rfl fun _ => ?_
            refine h_op (r_field rfl) ?_
            refine h_op (r_field rfl) ?_
            refine h_opS (s_storer rfl rfl) ?_
            refine h_nil ?_
            refine q_then ?_
            refine h_reg ?_
            refine h_op (r_move rfl) ?_
            refine h_call ((cpart_short h (l.drop 36) A47 c47 g32 true (by rw [List.length_drop]; omega)).comes) rfl rfl rfl fun _ => ?_
            refine h_op (r_field rfl) ?_
            refine h_op (r_field rfl) ?_
            refine h_opS (s_storer rfl rfl) ?_
            refine h_nil ?_
            refine q_then ?_
            refine h_seq ?_
            refine h_block ?_
            rw [hEb]
            by_cases hr0 : 0 < (l.drop 36).length
            · refine h_loop (fun (s : Unit) => True) (fun (s : Unit) => [(8, .pointer (some ⟨g8, 0, none⟩)), (7, .func (.func 152) [.pointer (some ⟨g32, 0, none⟩)].toArray #[]), (6, .pointer (some ⟨g32, 0, none⟩)), (2, .pointer (some ⟨g2, 0, none⟩))]) (fun (s : Unit) => [.blk g32 [.slice A47 (l.drop 36).length c47, .bool true] 241, .blk g2 zProof.cells 87]) (fun (s : Unit) => 0) () (trivial) ⟨rfl, rfl, rfl, rfl, trivial⟩ (same) ?_
              rintro _ _
              refine h_seq ?_
              refine h_seq ?_
              refine h_reg ?_
              refine h_op (r_move rfl) ?_
              refine h_op (r_nilc rfl) ?_
              refine h_op (r_field rfl) ?_
              refine h_op (r_loadc rfl) ?_
              refine h_op (r_len rfl) ?_
              refine h_op (r_bool (r_gtr rfl rfl) (decide_eq_true (by omega))) ?_
              refine h_op (r_move rfl) ?_
              refine h_op (r_move rfl) ?_
              refine h_op (r_nilc rfl) ?_
              refine h_op (r_field rfl) ?_
              refine h_op (r_loadc rfl) ?_
              refine h_op (r_not rfl) ?_
              refine h_op (r_pick rfl rfl) ?_
              refine h_op (r_move rfl) ?_
              refine h_opOff ?_
              refine h_opOff ?_
              refine h_opOff ?_
              refine h_opOff ?_
              refine h_op (r_pick rfl rfl) ?_
              refine h_nil ?_
              refine q_then ?_
              refine h_condF rfl ?_
              refine h_exit ?_
              refine q_thenE ?_
              refine q_thenE ?_
              refine q_blockE ?_
              refine q_then ?_
              refine h_seq ?_
              refine h_seq ?_
              refine h_reg ?_
              refine h_op (r_move rfl) ?_
              refine h_op (r_nilc rfl) ?_
              refine h_op (r_field rfl) ?_
              refine h_op (r_loadc rfl) ?_
              refine h_op (r_move rfl) ?_
              refine h_opOff ?_
              refine h_opOff ?_
              refine h_opOff ?_
              refine h_opOff ?_
              refine h_opOff ?_
              refine h_opOff ?_
              refine h_op (r_pick rfl rfl) ?_
              refine h_op (r_move rfl) ?_
              refine h_opOff ?_
              refine h_opOff ?_
              refine h_opOff ?_
              refine h_op (r_pick rfl rfl) ?_
              refine h_nil ?_
              refine q_then ?_
              refine h_condT rfl ?_
              refine h_seq ?_
              refine h_reg ?_
              refine h_op (r_build rfl) ?_
              refine h_opS (s_storer rfl rfl) ?_
              refine h_op (r_assign rfl) ?_
              refine h_nil ?_
              refine q_then ?_
              refine h_ret ?_
              refine q_thenR ?_
              exact h_ret2 rfl (rv_row rfl) rfl fun w s => ⟨(none, 0), rfl, s.res (List.nil_sublist _) (fun f hf => (List.not_mem_nil hf).elim)⟩
            · refine h_loop (fun (s : Unit) => True) (fun (s : Unit) => [(8, .pointer (some ⟨g8, 0, none⟩)), (7, .func (.func 152) [.pointer (some ⟨g32, 0, none⟩)].toArray #[]), (6, .pointer (some ⟨g32, 0, none⟩)), (2, .pointer (some ⟨g2, 0, none⟩))]) (fun (s : Unit) => [.blk g32 [.slice A47 (l.drop 36).length c47, .bool true] 241, .blk g2 zProof.cells 87]) (fun (s : Unit) => 0) () (trivial) ⟨rfl, rfl, rfl, rfl, trivial⟩ (same) ?_
              rintro _ _
              refine h_seq ?_
              refine h_seq ?_
              refine h_reg ?_
              refine h_op (r_move rfl) ?_
              refine h_op (r_nilc rfl) ?_
              refine h_op (r_field rfl) ?_
              refine h_op (r_loadc rfl) ?_
              refine h_op (r_len rfl) ?_
              refine h_op (r_bool (r_gtr rfl rfl) (decide_eq_false (by omega))) ?_
              refine h_op (r_move rfl) ?_
              refine h_opOff ?_
              refine h_opOff ?_
              refine h_opOff ?_
              refine h_opOff ?_
              refine h_opOff ?_
              refine h_op (r_pick rfl rfl) ?_
              refine h_op (r_move rfl) ?_
              refine h_opOff ?_
              refine h_opOff ?_
              refine h_opOff ?_
              refine h_opOff ?_
              refine h_op (r_pick rfl rfl) ?_
              refine h_nil ?_
              refine q_then ?_
              refine h_condF rfl ?_
              refine h_exit ?_
              refine q_thenE ?_
              refine q_thenE ?_
              refine q_blockE ?_
              refine q_then ?_
              refine h_seq ?_
              refine h_seq ?_
              refine h_reg ?_
              refine h_op (r_move rfl) ?_
              refine h_op (r_nilc rfl) ?_
              refine h_op (r_field rfl) ?_
              refine h_op (r_loadc rfl) ?_
              refine h_op (r_move rfl) ?_
              refine h_opOff ?_
              refine h_opOff ?_
              refine h_opOff ?_
              refine h_opOff ?_
              refine h_opOff ?_
              refine h_opOff ?_
              refine h_op (r_pick rfl rfl) ?_
              refine h_op (r_move rfl) ?_
              refine h_opOff ?_
              refine h_opOff ?_
              refine h_opOff ?_
              refine h_op (r_pick rfl rfl) ?_
              refine h_nil ?_
              refine q_then ?_
              refine h_condT rfl ?_
              refine h_seq ?_
              refine h_reg ?_
              refine h_op (r_build rfl) ?_
              refine h_opS (s_storer rfl rfl) ?_
              refine h_op (r_assign rfl) ?_
              refine h_nil ?_
              refine q_then ?_
              refine h_ret ?_
              refine q_thenR ?_
              exact h_ret2 rfl (rv_row rfl) rfl fun w s => ⟨(none, 0), rfl, s.res (List.nil_sublist _) (fun f hf => (List.not_mem_nil hf).elim)⟩
    · have hE : decB l = .error 6 := by unfold decB; rw [if_neg (by omega), if_pos h01]
      rw [hE]
      refine spec_of Tryz.func118 rfl (n := 104) rfl rfl ?_
      intro W
      refine h_seq ?_
      refine h_reg ?_
      refine h_opX (x_alloc) fun g2 => ?_
      refine h_op (r_assign rfl) ?_
      refine h_nil ?_
      refine q_then ?_
      refine h_seq ?_
      refine h_seq ?_
      refine h_reg ?_
      refine h_op (r_move rfl) ?_
      refine h_op (r_len rfl) ?_
      refine h_op (r_bool (r_lss rfl rfl) (decide_eq_false (by omega))) ?_
      refine h_nil ?_
      refine q_then ?_
      refine h_condF rfl ?_
      refine h_skip ?_
      refine q_then ?_
      refine h_seq ?_
      refine h_reg ?_
      refine h_op (r_move rfl) ?_
      refine h_call ((cKind_first l (some ⟨b, o, none⟩) c (by omega) h01).comes) rfl rfl rfl fun _ => ?_
      refine h_op (r_move rfl) ?_
      refine h_op (r_extract rfl rfl) ?_
      refine h_op (r_extract rfl rfl) ?_
      refine h_op (r_assign rfl) ?_
      refine h_op (r_assign rfl) ?_
      refine h_nil ?_
      refine q_then ?_
      refine h_seq ?_
      refine h_seq ?_
      refine h_reg ?_
      refine h_op (r_move rfl) ?_
      refine h_op (r_neq rfl rfl) ?_
      refine h_nil ?_
      refine q_then ?_
      refine h_yes rfl ((show ¬ (6 : Int) = 0 by decide)) ?_
      refine h_seq ?_
      refine h_reg ?_
      refine h_op (r_build rfl) ?_
      refine h_op (r_move rfl) ?_
      refine h_opS (s_storer rfl rfl) ?_
      refine h_op (r_assign rfl) ?_
      refine h_nil ?_
      refine q_then ?_
      refine h_ret ?_
      refine q_thenR ?_
      exact h_ret2 rfl (rv_row rfl) rfl fun w s => ⟨(none, 0), rfl, s.res (List.nil_sublist _) (fun f hf => (List.not_mem_nil hf).elim)⟩
end Go.Proofs.YtgfkbeipckbkiaaGreatDoor
/- N14 -/
namespace Go.Proofs.YtgfkbeipckbkiaaGreatDoor
set_option linter.unusedSimpArgs false
set_option linter.unusedVariables false
open Go.RowKit
class TIf (P : Program) (T : TypeId) : Prop where
  und : P.underlying T = some (.interface (P.methodsAt T))
section
variable {P : Program} {n : Nat} {D : List Deferred} {E : Env} {L : List Fa} {T T' : TypeId} {t : Nat}
theorem r_ifnil {u : TypeId} {v : Value} [hT : TIf P T] (hx : ev E (.tmp t) = some (.iface u v)) : Runs0 P n D E L (.binOp .eql T (.tmp t) (.const .nilIface) T') (.bool false) := fun a w ka s o ho =>
  run_bin ho (ka.ev hx) (v := .nilIface) rfl rfl (run_eql_held_nil w T u v hT.und)
theorem r_nilnil [hT : TIf P T] (hx : ev E (.tmp t) = some .nilIface) : Runs0 P n D E L (.binOp .eql T (.tmp t) (.const .nilIface) T') (.bool true) := fun a w ka s o ho =>
  run_bin ho (ka.ev hx) (v := .nilIface) rfl rfl (run_eql_nil_nil w T hT.und)
end
end Go.Proofs.YtgfkbeipckbkiaaGreatDoor
