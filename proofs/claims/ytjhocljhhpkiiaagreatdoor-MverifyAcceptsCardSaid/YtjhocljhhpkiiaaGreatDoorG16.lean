/- The reference: decoding of multiproofs, all bytes; mverify: show; mverify: show, all of it; multi.add, the cases of one item; multi.add: all trees; multi.Prove; multiproofs: the reference's Same; law19.Few; law15.alive: it is true; law19.alive: it is true; law19: MultiChecks, MultiRoots are true; mverify: Verify, Check, Accepts (joined texts: U121 U122 U123 U72 U73 U74 U79 U47 U81 U82 U124) -/
import Derived.Test.YtjhocljhhpkiiaaGreatDoorG15
set_option linter.all false
/- U121 -/
namespace Go.Proofs.YtjhocljhhpkiiaaGreatDoor
set_option linter.unusedSimpArgs false
set_option linter.unusedVariables false
open Go.RowKit
def decMN : Except Int (List Item) → Option Addr → Nat → List Fa
  | .ok l, A, c => [.own (.slice A l.length c) l.length 126 97 (its l)]
  | .error _, _, _ => []
theorem b32At_dropped (l : List UInt8) (m o : Nat) : b32At (l.drop m) o = b32At l (m + o) := by
  apply Subtype.ext
  show (List.range 32).map (fun j => (l.drop m).getD (o + j) 0) = (List.range 32).map (fun j => l.getD (m + o + j) 0)
  refine List.map_congr_left fun j _ => ?_
  simp [List.getD_eq_getElem?_getD, Nat.add_assoc]
theorem rDecode20_s (bb : List UInt8) (hbl : bb.length ≤ 900000) (B : Option Addr) (c : Nat) :
    Spec Tryz.prog 53 [.slice B bb.length c].toArray [.rd B (bc bb)] [] (fun u : Option Addr × Nat => decMV (decM bb) u.1 u.2) (fun u => decMN (decM bb) u.1 u.2) := by
  by_cases hs : bb.length < 6
  · have e : decM bb = .error 5 := by unfold decM; rw [if_pos hs]
    rw [e]
    refine spec_of Tryz.func53 rfl (n := 100) rfl rfl ?_
    intro W
    refine h_seq ?_
    refine h_reg ?_
    refine h_op (r_assign rfl) ?_
    refine h_op (r_assign rfl) ?_
    refine h_nil ?_
    refine q_then ?_
    refine h_seq ?_
    refine h_seq ?_
    refine h_reg ?_
    refine h_op (r_move rfl) ?_
    refine h_op (r_len rfl) ?_
    refine h_op (r_lss rfl rfl) ?_
    refine h_nil ?_
    refine q_then ?_
    refine h_yes rfl ((show ((bb.length : Nat) : Int) < 6 by omega)) ?_
    refine h_seq ?_
    refine h_reg ?_
    refine h_op (r_assign rfl) ?_
    refine h_op (r_assign rfl) ?_
    refine h_nil ?_
    refine q_then ?_
    refine h_ret ?_
    refine q_thenR ?_
    exact h_ret2 rfl rfl rfl fun w s => ⟨(none, 0), rfl, s.res (List.nil_sublist _) (fun f hf => (List.not_mem_nil hf).elim)⟩
  replace hs : 6 ≤ bb.length := by omega
  by_cases h1 : bb.getD 0 0 = 1
  · by_cases h2 : bb.getD 1 0 = 2
    · obtain ⟨r, hr⟩ : ∃ r, decM bb = r := ⟨_, rfl⟩
      rw [hr]
      unfold decM at hr
      rw [if_neg (by omega), if_neg (fun h => h h1), if_neg (fun h => h h2)] at hr
      refine spec_of Tryz.func53 rfl (n := 100) rfl rfl ?_
      intro W
      refine h_pure (φ := ∃ b o, B = some ⟨b, o, none⟩) (fun w s => Rd.some (s.ok (.rd B (bc bb)) (by simp)) (by rw [bc_length]; omega)) ?_
      rintro ⟨b, o, rfl⟩
      refine h_seq ?_
      refine h_reg ?_
      refine h_op (r_assign rfl) ?_
      refine h_op (r_assign rfl) ?_
      refine h_nil ?_
      refine q_then ?_
      refine h_seq ?_
      refine h_seq ?_
      refine h_reg ?_
      refine h_op (r_move rfl) ?_
      refine h_op (r_len rfl) ?_
      refine h_op (r_lss rfl rfl) ?_
      refine h_nil ?_
      refine q_then ?_
      refine h_no rfl ((show ¬ ((bb.length : Nat) : Int) < 6 by omega)) ?_
      refine h_skip ?_
      refine q_then ?_
      refine h_seq ?_
      refine h_seq ?_
      refine h_reg ?_
      refine h_op (r_move rfl) ?_
      refine h_op (r_idx rfl rfl) ?_
      refine h_op (r_as (r_nth rfl (bc_at' (l := bb) (i := 0) (by omega))) (show _ = Value.int .u8 1 by rw [h1]; rfl)) ?_
      refine h_op (r_neq rfl rfl) ?_
      refine h_nil ?_
      refine q_then ?_
      refine h_no rfl ((fun h => h rfl)) ?_
      refine h_skip ?_
      refine q_then ?_
      refine h_seq ?_
      refine h_seq ?_
      refine h_reg ?_
      refine h_op (r_move rfl) ?_
      refine h_op (r_idx rfl rfl) ?_
      refine h_op (r_as (r_nth rfl (bc_at' (l := bb) (i := 1) (by omega))) (show _ = Value.int .u8 2 by rw [h2]; rfl)) ?_
      refine h_op (r_neq rfl rfl) ?_
      refine h_nil ?_
      refine q_then ?_
      refine h_no rfl ((fun h => h rfl)) ?_
      refine h_skip ?_
      refine q_then ?_
      refine h_seq ?_
      refine h_reg ?_
      refine h_op (r_assign rfl) ?_
      refine h_nil ?_
      refine q_then ?_
      refine h_seq ?_
      refine h_reg ?_
      refine h_op (r_assign rfl) ?_
      refine h_nil ?_
      refine q_then ?_
      refine h_seq ?_
      refine h_block ?_
      refine h_nil_own 126 97 (xs := its []) rfl ?_
      refine h_loop (fun (s : Nat × List Item × Option Addr × Nat) => (6 ≤ s.1 ∧ s.1 ≤ bb.length) ∧ s.2.1.length ≤ s.1 ∧ itsD (bb.drop 6) = (itsD (bb.drop s.1)).map (s.2.1 ++ ·)) (fun (s : Nat × List Item × Option Addr × Nat) => [(5, .int .i64 (s.1 : Int)), (4, .slice s.2.2.1 s.2.1.length s.2.2.2), (0, .slice (some ⟨b, o, none⟩) bb.length c)]) (fun (s : Nat × List Item × Option Addr × Nat) => [.own (.slice s.2.2.1 s.2.1.length s.2.2.2) s.2.1.length 126 97 (its s.2.1), .rd (some ⟨b, o, none⟩) (bc bb)]) (fun (s : Nat × List Item × Option Addr × Nat) => bb.length - s.1) (6, [], none, 0) (⟨⟨Nat.le_refl _, hs⟩, Nat.zero_le _, by simp⟩) ⟨rfl, rfl, rfl, trivial⟩ (same) ?_
      rintro ⟨q, l0, A, c9⟩ ⟨⟨hq6, hq⟩, hlq, hit⟩
      dsimp only at hq6 hq hlq hit ⊢
      refine h_seq ?_
      refine h_seq ?_
      refine h_reg ?_
      refine h_op (r_move rfl) ?_
      refine h_op (r_move rfl) ?_
      refine h_op (r_len rfl) ?_
      refine h_op (r_lss rfl rfl) ?_
      refine h_nil ?_
      refine q_then ?_
      refine h_cond rfl (fun hlt => ?_) (fun hlt => ?_)
      · have hq2 : q < bb.length := by omega
        have hd : bb.drop q = bb.getD q 0 :: bb.drop (q + 1) := by rw [List.drop_eq_getElem_cons hq2, List.getD_eq_getElem?_getD, List.getElem?_eq_getElem hq2]; rfl
        have hrl : (bb.drop (q + 1)).length = bb.length - (q + 1) := List.length_drop
        have hkl := (bb.getD q 0).toNat_lt
        have hb0 : b32At (bb.drop (q + 1)) 0 = b32At bb (q + 1) := b32At_dropped bb (q + 1) 0
        have hb32 : b32At (bb.drop (q + 1)) 32 = b32At bb (q + 1 + 32) := b32At_dropped bb (q + 1) 32
        have hbq := bc_at' (l := bb) (i := q) hq2
        have hdd : ∀ p, (bb.drop (q + 1)).drop p = bb.drop (q + 1 + p) := fun p => List.drop_drop
        rw [hd, itsD_cons] at hit
        unfold itemB at hit
        rw [hb0, hb32, hrl] at hit
        simp only [hdd] at hit
        generalize bb.getD q 0 = k at *
        have hits : ∀ x : Item, its l0 ++ x.cells = its (l0 ++ [x]) := fun x => by unfold its; rw [List.flatMap_append]; simp
        have hnl : ∀ x : Item, (l0 ++ [x]).length = l0.length + 1 := fun x => by simp
        refine h_skip ?_
        refine q_then ?_
        refine h_block ?_
        refine h_seq ?_
        refine h_reg ?_
        refine h_op (r_move rfl) ?_
        refine h_op (r_move rfl) ?_
        refine h_op (r_idx rfl rfl) ?_
        refine h_op (r_nth rfl hbq) ?_
        refine h_op (r_int (r_cUI rfl) (show _ = (k.toNat : Int) from rfl)) ?_
        refine h_op (r_build rfl) ?_
        refine h_opX (x_alloc) fun g6 => ?_
        refine h_opS (s_storer rfl rfl) ?_
        refine h_nil ?_
        refine q_then ?_
        refine h_seq ?_
        refine h_reg ?_
        refine h_op (r_move rfl) ?_
        refine h_op (r_int (r_add rfl rfl) (show _ = ((q + 1 : Nat) : Int) by omega)) ?_
        refine h_op (r_assign rfl) ?_
        refine h_nil ?_
        refine q_then ?_
        refine h_seq ?_
        refine h_seq ?_
        refine h_reg ?_
        change H _ _ _ _ _ (.blk g6 (Item.cells ⟨(k.toNat : Int), zB32, zLeaf⟩) _ :: _) _
        by_cases hk1 : k.toNat = 1
        · have hpb : payB k = 64 := by unfold payB payN; rw [if_pos (by omega)]
          rw [hpb, if_pos hk1] at hit
          rw [hk1]
          refine h_op (r_field rfl) ?_
          refine h_op (r_loadc rfl) ?_
          refine h_op (r_bool (r_eql rfl rfl) (decide_eq_true (show ((1 : Nat) : Int) = 1 from rfl))) ?_
          refine h_nil ?_
          refine q_then ?_
          refine h_condT rfl ?_
          by_cases hp : bb.length - (q + 1) < 64
          · rw [if_pos hp] at hit
            obtain rfl : Except.error 5 = r := by rw [← hr, hit]; rfl
            refine h_seq ?_
            refine h_seq ?_
            refine h_reg ?_
            refine h_op (r_move rfl) ?_
            refine h_op (r_add rfl rfl) ?_
            refine h_op (r_move rfl) ?_
            refine h_op (r_len rfl) ?_
            refine h_op (r_bool (r_gtr rfl rfl) (decide_eq_true (by omega))) ?_
            refine h_nil ?_
            refine q_then ?_
            refine h_condT rfl ?_
            refine h_seq ?_
            refine h_reg ?_
            refine h_op (r_assign rfl) ?_
            refine h_op (r_assign rfl) ?_
            refine h_nil ?_
            refine q_then ?_
            refine h_ret ?_
            refine q_thenR ?_
            refine q_thenR ?_
            refine q_blockR ?_
            refine q_thenR ?_
            refine q_blockR ?_
            refine q_thenR ?_
            exact h_ret2 rfl rfl rfl fun w s => ⟨(none, 0), rfl, s.res (List.nil_sublist _) (fun f hf => (List.not_mem_nil hf).elim)⟩
          · rw [if_neg hp] at hit
            refine h_seq ?_
            refine h_seq ?_
            refine h_reg ?_
            refine h_op (r_move rfl) ?_
            refine h_op (r_add rfl rfl) ?_
            refine h_op (r_move rfl) ?_
            refine h_op (r_len rfl) ?_
            refine h_op (r_bool (r_gtr rfl rfl) (decide_eq_false (by omega))) ?_
            refine h_nil ?_
            refine q_then ?_
            refine h_condF rfl ?_
            refine h_skip ?_
            refine q_then ?_
            refine h_seq ?_
            refine h_reg ?_
            refine h_op (r_move rfl) ?_
            refine h_op (r_move rfl) ?_
            refine h_call ((rPart_s bb (some ⟨b, o, none⟩) c (q + 1) (by omega)).comes) rfl rfl rfl fun _ => ?_
            refine h_op (r_move rfl) ?_
            refine h_op (r_move rfl) ?_
            refine h_op (r_int (r_add rfl rfl) (show _ = ((q + 1 + 32 : Nat) : Int) by omega)) ?_
            refine h_call ((rPart_s bb (some ⟨b, o, none⟩) c (q + 1 + 32) (by omega)).comes) rfl rfl rfl fun _ => ?_
            refine h_op (r_build rfl) ?_
            refine h_op (r_field rfl) ?_
            refine h_opS (s_storer rfl rfl) ?_
            refine h_nil ?_
            refine q_then ?_
            refine h_reg ?_
            refine h_op (r_move rfl) ?_
            refine h_op (r_int (r_add rfl rfl) (show _ = ((q + 1 + 64 : Nat) : Int) by omega)) ?_
            refine h_op (r_assign rfl) ?_
            refine h_nil ?_
            refine q_then ?_
            refine h_seq ?_
            refine h_seq ?_
            refine h_reg ?_
            refine h_op (r_field rfl) ?_
            refine h_op (r_loadc rfl) ?_
            refine h_op (r_bool (r_eql rfl rfl) (show _ = false from rfl)) ?_
            refine h_nil ?_
            refine q_then ?_
            change H _ _ _ _ _ (.blk g6 (Item.cells ⟨1, zB32, ⟨b32At bb (q + 1), b32At bb (q + 1 + 32)⟩⟩) _ :: _) _
            refine h_condF rfl ?_
            refine h_skip ?_
            refine q_then ?_
            refine h_reg ?_
            refine h_op (r_move rfl) ?_
            refine h_op (r_loadr rfl) ?_
            refine h_opX (x_bsl rfl rfl) fun g66 => ?_
            refine h_opX (x_app rfl rfl (k := 97)) fun ⟨g67, c67⟩ => ?_
            refine h_op (r_assign rfl) ?_
            refine h_nil ?_
            refine q_block ?_
            rw [hits ⟨1, zB32, ⟨b32At bb (q + 1), b32At bb (q + 1 + 32)⟩⟩, ← hnl ⟨1, zB32, ⟨b32At bb (q + 1), b32At bb (q + 1 + 32)⟩⟩]
            exact h_back (q + 1 + 64, l0 ++ [⟨1, zB32, ⟨b32At bb (q + 1), b32At bb (q + 1 + 32)⟩⟩], some ⟨g67, 0, none⟩, c67) (⟨⟨by dsimp only; omega, by dsimp only; omega⟩, by dsimp only; rw [List.length_append, List.length_singleton]; omega, by dsimp only; rw [hit, Option.map_map]; congr 1; funext m; simp⟩) ((show bb.length - (q + 1 + 64) < bb.length - q by omega)) ⟨rfl, rfl, rfl, trivial⟩ (same)
        · by_cases hk3 : k.toNat = 3
          · have hpb : payB k = 32 := by unfold payB payN; rw [if_neg (by omega), if_pos (by omega)]
            rw [hpb, if_neg hk1, if_pos hk3] at hit
            rw [hk3]
            refine h_op (r_field rfl) ?_
            refine h_op (r_loadc rfl) ?_
            refine h_op (r_bool (r_eql rfl rfl) (decide_eq_false (show ¬ ((3 : Nat) : Int) = 1 by decide))) ?_
            refine h_nil ?_
            refine q_then ?_
            refine h_condF rfl ?_
            refine h_skip ?_
            refine q_then ?_
            refine h_seq ?_
            refine h_seq ?_
            refine h_reg ?_
            refine h_op (r_field rfl) ?_
            refine h_op (r_loadc rfl) ?_
            refine h_op (r_bool (r_eql rfl rfl) (decide_eq_true (show ((3 : Nat) : Int) = 3 from rfl))) ?_
            refine h_nil ?_
            refine q_then ?_
            refine h_condT rfl ?_
            by_cases hp : bb.length - (q + 1) < 32
            · rw [if_pos hp] at hit
              obtain rfl : Except.error 5 = r := by rw [← hr, hit]; rfl
              refine h_seq ?_
              refine h_seq ?_
              refine h_reg ?_
              refine h_op (r_move rfl) ?_
              refine h_op (r_add rfl rfl) ?_
              refine h_op (r_move rfl) ?_
              refine h_op (r_len rfl) ?_
              refine h_op (r_bool (r_gtr rfl rfl) (decide_eq_true (by omega))) ?_
              refine h_nil ?_
              refine q_then ?_
              refine h_condT rfl ?_
              refine h_seq ?_
              refine h_reg ?_
              refine h_op (r_assign rfl) ?_
              refine h_op (r_assign rfl) ?_
              refine h_nil ?_
              refine q_then ?_
              refine h_ret ?_
              refine q_thenR ?_
              refine q_thenR ?_
              refine q_blockR ?_
              refine q_thenR ?_
              refine q_blockR ?_
              refine q_thenR ?_
              exact h_ret2 rfl rfl rfl fun w s => ⟨(none, 0), rfl, s.res (List.nil_sublist _) (fun f hf => (List.not_mem_nil hf).elim)⟩
            · rw [if_neg hp] at hit
              refine h_seq ?_
              refine h_seq ?_
              refine h_reg ?_
              refine h_op (r_move rfl) ?_
              refine h_op (r_add rfl rfl) ?_
              refine h_op (r_move rfl) ?_
              refine h_op (r_len rfl) ?_
              refine h_op (r_bool (r_gtr rfl rfl) (decide_eq_false (by omega))) ?_
              refine h_nil ?_
              refine q_then ?_
              refine h_condF rfl ?_
              refine h_skip ?_
              refine q_then ?_
              refine h_seq ?_
              refine h_reg ?_
              refine h_op (r_move rfl) ?_
              refine h_op (r_move rfl) ?_
              refine h_call ((rPart_s bb (some ⟨b, o, none⟩) c (q + 1) (by omega)).comes) rfl rfl rfl fun _ => ?_
              refine h_op (r_field rfl) ?_
              refine h_opS (s_storer rfl rfl) ?_
              refine h_nil ?_
              refine q_then ?_
              refine h_reg ?_
              refine h_op (r_move rfl) ?_
              refine h_op (r_int (r_add rfl rfl) (show _ = ((q + 1 + 32 : Nat) : Int) by omega)) ?_
              refine h_op (r_assign rfl) ?_
              refine h_nil ?_
              refine q_then ?_
              refine h_reg ?_
              change H _ _ _ _ _ (.blk g6 (Item.cells ⟨3, b32At bb (q + 1), zLeaf⟩) _ :: _) _
              refine h_op (r_move rfl) ?_
              refine h_op (r_loadr rfl) ?_
              refine h_opX (x_bsl rfl rfl) fun g66 => ?_
              refine h_opX (x_app rfl rfl (k := 97)) fun ⟨g67, c67⟩ => ?_
              refine h_op (r_assign rfl) ?_
              refine h_nil ?_
              refine q_block ?_
              rw [hits ⟨3, b32At bb (q + 1), zLeaf⟩, ← hnl ⟨3, b32At bb (q + 1), zLeaf⟩]
              exact h_back (q + 1 + 32, l0 ++ [⟨3, b32At bb (q + 1), zLeaf⟩], some ⟨g67, 0, none⟩, c67) (⟨⟨by dsimp only; omega, by dsimp only; omega⟩, by dsimp only; rw [List.length_append, List.length_singleton]; omega, by dsimp only; rw [hit, Option.map_map]; congr 1; funext m; simp⟩) ((show bb.length - (q + 1 + 32) < bb.length - q by omega)) ⟨rfl, rfl, rfl, trivial⟩ (same)
          · have hpb : payB k = 0 := by unfold payB payN; rw [if_neg (by omega), if_neg (by omega)]
            rw [hpb, if_neg hk1, if_neg hk3, if_neg (Nat.not_lt_zero _)] at hit
            refine h_op (r_field rfl) ?_
            refine h_op (r_loadc rfl) ?_
            refine h_op (r_bool (r_eql rfl rfl) (decide_eq_false (show ¬ (k.toNat : Int) = 1 by omega))) ?_
            refine h_nil ?_
            refine q_then ?_
            refine h_condF rfl ?_
            refine h_skip ?_
            refine q_then ?_
            refine h_seq ?_
            refine h_seq ?_
            refine h_reg ?_
            refine h_op (r_field rfl) ?_
            refine h_op (r_loadc rfl) ?_
            refine h_op (r_bool (r_eql rfl rfl) (decide_eq_false (show ¬ (k.toNat : Int) = 3 by omega))) ?_
            refine h_nil ?_
            refine q_then ?_
            refine h_condF rfl ?_
            refine h_skip ?_
            refine q_then ?_
            refine h_reg ?_
            refine h_op (r_move rfl) ?_
            refine h_op (r_loadr rfl) ?_
            refine h_opX (x_bsl rfl rfl) fun g66 => ?_
            refine h_opX (x_app rfl rfl (k := 97)) fun ⟨g67, c67⟩ => ?_
            refine h_op (r_assign rfl) ?_
            refine h_nil ?_
            refine q_block ?_
            rw [hits ⟨(k.toNat : Int), zB32, zLeaf⟩, ← hnl ⟨(k.toNat : Int), zB32, zLeaf⟩]
            exact h_back (q + 1 + 0, l0 ++ [⟨(k.toNat : Int), zB32, zLeaf⟩], some ⟨g67, 0, none⟩, c67) (⟨⟨by dsimp only; omega, by dsimp only; omega⟩, by dsimp only; rw [List.length_append, List.length_singleton]; omega, by dsimp only; rw [hit, Option.map_map]; congr 1; funext m; simp⟩) ((show bb.length - (q + 1 + 0) < bb.length - q by omega)) ⟨rfl, rfl, rfl, trivial⟩ (same)
      · obtain rfl : q = bb.length := by omega
        rw [List.drop_of_length_le (Nat.le_refl _), itsD_nil, Option.map_some, List.append_nil] at hit
        rw [hit] at hr
        dsimp only at hr
        have b2 := (bb.getD 2 0).toNat_lt
        have b3 := (bb.getD 3 0).toNat_lt
        have b4 := (bb.getD 4 0).toNat_lt
        have b5 := (bb.getD 5 0).toNat_lt
        have hch : cntH bb = (((bb.getD 2 0).toNat * 256 + (bb.getD 3 0).toNat) * 256 + (bb.getD 4 0).toNat) * 256 + (bb.getD 5 0).toNat := rfl
        have e2 := bc_at' (l := bb) (i := 2) (by omega)
        have e3 := bc_at' (l := bb) (i := 3) (by omega)
        have e4 := bc_at' (l := bb) (i := 4) (by omega)
        have e5 := bc_at' (l := bb) (i := 5) (by omega)
        generalize bb.getD 2 0 = x2 at *
        generalize bb.getD 3 0 = x3 at *
        generalize bb.getD 4 0 = x4 at *
        generalize bb.getD 5 0 = x5 at *
        generalize cntH bb = n at *
        refine h_exit ?_
        refine q_thenE ?_
        refine q_thenE ?_
        refine q_blockE ?_
        refine q_then ?_
        refine h_seq ?_
        refine ha_start [.rd (some ⟨b, o, none⟩) (bc bb)] [] mixed (same) ?_
        refine ha_takeP 0 rfl (r_move rfl) ?_
        refine ha_takeP 1 rfl (r_idx rfl rfl) ?_
        refine ha_take 2 rfl (r_nth rfl e2) ?_
        refine ha_takeP 3 rfl (r_int (r_cUI rfl) (show _ = ((x2.toNat : Nat) : Int) from rfl)) ?_
        refine ha_takeP 4 rfl (r_int (r_mul rfl rfl) (show _ = ((16777216 * x2.toNat : Nat) : Int) by omega)) ?_
        refine ha_takeP 5 rfl (r_move rfl) ?_
        refine ha_takeP 6 rfl (r_idx rfl rfl) ?_
        refine ha_take 7 rfl (r_nth rfl e3) ?_
        refine ha_takeP 8 rfl (r_int (r_cUI rfl) (show _ = ((x3.toNat : Nat) : Int) from rfl)) ?_
        refine ha_takeP 9 rfl (r_int (r_mul rfl rfl) (show _ = ((65536 * x3.toNat : Nat) : Int) by omega)) ?_
        refine ha_takeP 10 rfl (r_int (r_add rfl rfl) (show _ = ((16777216 * x2.toNat + 65536 * x3.toNat : Nat) : Int) by omega)) ?_
        refine ha_takeP 11 rfl (r_move rfl) ?_
        refine ha_takeP 12 rfl (r_idx rfl rfl) ?_
        refine ha_take 13 rfl (r_nth rfl e4) ?_
        refine ha_takeP 14 rfl (r_int (r_cUI rfl) (show _ = ((x4.toNat : Nat) : Int) from rfl)) ?_
        refine ha_takeP 15 rfl (r_int (r_mul rfl rfl) (show _ = ((256 * x4.toNat : Nat) : Int) by omega)) ?_
        refine ha_takeP 16 rfl (r_int (r_add rfl rfl) (show _ = ((16777216 * x2.toNat + 65536 * x3.toNat + 256 * x4.toNat : Nat) : Int) by omega)) ?_
        refine ha_takeP 17 rfl (r_move rfl) ?_
        refine ha_takeP 18 rfl (r_idx rfl rfl) ?_
        refine ha_take 19 rfl (r_nth rfl e5) ?_
        refine ha_takeP 20 rfl (r_int (r_cUI rfl) (show _ = ((x5.toNat : Nat) : Int) from rfl)) ?_
        refine ha_takeP 21 rfl (r_int (r_add rfl rfl) (show _ = ((n : Nat) : Int) by omega)) ?_
        refine ha_takeP 22 rfl (r_assign rfl) ?_
        refine ha_done (by kernel_rfl) ?_
        refine q_then ?_
        by_cases hcnt : l0.length = n
        · by_cases hc0 : checkM l0 = 0
          · obtain rfl : Except.ok l0 = r := by rw [← hr, if_pos ⟨hcnt, hc0⟩]
            have hC := rCheck19_s l0 A c9 (by omega)
            rw [hc0] at hC
            refine h_seq ?_
            refine h_seq ?_
            refine h_reg ?_
            refine h_op (r_move rfl) ?_
            refine h_op (r_move rfl) ?_
            refine h_op (r_len rfl) ?_
            refine h_op (r_bool (r_neq rfl rfl) (decide_eq_false (fun hh => hh (by omega)))) ?_
            refine h_op (r_move rfl) ?_
            refine h_op (r_move rfl) ?_
            refine h_call (hC.comes) rfl rfl rfl fun _ => ?_
            refine h_op (r_bool (r_neq rfl rfl) (decide_eq_false (fun h => h rfl))) ?_
            refine h_op (r_pick rfl rfl) ?_
            refine h_nil ?_
            refine q_then ?_
            refine h_condF rfl ?_
            refine h_skip ?_
            refine q_then ?_
            refine h_seq ?_
            refine h_reg ?_
            refine h_op (r_move rfl) ?_
            refine h_op (r_assign rfl) ?_
            refine h_op (r_assign rfl) ?_
            refine h_nil ?_
            refine q_then ?_
            refine h_ret ?_
            exact h_ret2 rfl rfl rfl fun w s => ⟨(A, c9), rfl, (same (L' := [.own (.slice A l0.length c9) l0.length 126 97 (its l0)]) w s).res (List.Sublist.refl _) (by simp [Fa.wr, decMN])⟩
          · obtain rfl : Except.error 5 = r := by rw [← hr, if_neg (fun hh => hc0 hh.2)]
            have hC := rCheck19_s l0 A c9 (by omega)
            refine h_seq ?_
            refine h_seq ?_
            refine h_reg ?_
            refine h_op (r_move rfl) ?_
            refine h_op (r_move rfl) ?_
            refine h_op (r_len rfl) ?_
            refine h_op (r_bool (r_neq rfl rfl) (decide_eq_false (fun hh => hh (by omega)))) ?_
            refine h_op (r_move rfl) ?_
            refine h_op (r_move rfl) ?_
            refine h_call (hC.comes) rfl rfl rfl fun _ => ?_
            refine h_op (r_bool (r_neq rfl rfl) (decide_eq_true hc0)) ?_
            refine h_op (r_pick rfl rfl) ?_
            refine h_nil ?_
            refine q_then ?_
            refine h_condT rfl ?_
            refine h_seq ?_
            refine h_reg ?_
            refine h_op (r_assign rfl) ?_
            refine h_op (r_assign rfl) ?_
            refine h_nil ?_
            refine q_then ?_
            refine h_ret ?_
            refine q_thenR ?_
            exact h_ret2 rfl rfl rfl fun w s => ⟨(none, 0), rfl, s.res (List.nil_sublist _) (fun f hf => (List.not_mem_nil hf).elim)⟩
        · obtain rfl : Except.error 5 = r := by rw [← hr, if_neg (fun hh => hcnt hh.1)]
          refine h_seq ?_
          refine h_seq ?_
          refine h_reg ?_
          refine h_op (r_move rfl) ?_
          refine h_op (r_move rfl) ?_
          refine h_op (r_len rfl) ?_
          refine h_op (r_bool (r_neq rfl rfl) (decide_eq_true (fun hh => hcnt (by omega)))) ?_
          refine h_op (r_move rfl) ?_
          refine h_opOff ?_
          refine h_opOff ?_
          refine h_opOff ?_
          refine h_op (r_pick rfl rfl) ?_
          refine h_nil ?_
          refine q_then ?_
          refine h_condT rfl ?_
          refine h_seq ?_
          refine h_reg ?_
          refine h_op (r_assign rfl) ?_
          refine h_op (r_assign rfl) ?_
          refine h_nil ?_
          refine q_then ?_
          refine h_ret ?_
          refine q_thenR ?_
          exact h_ret2 rfl rfl rfl fun w s => ⟨(none, 0), rfl, s.res (List.nil_sublist _) (fun f hf => (List.not_mem_nil hf).elim)⟩
    · have e : decM bb = .error 7 := by unfold decM; rw [if_neg (by omega), if_neg (fun h => h h1), if_pos h2]
      have hne : ¬ (((bb.getD 1 0).toNat : Nat) : Int) = 2 := fun e => h2 (UInt8.toNat_inj.1 (by show _ = 2; omega))
      rw [e]
      refine spec_of Tryz.func53 rfl (n := 100) rfl rfl ?_
      intro W
      refine h_pure (φ := ∃ b o, B = some ⟨b, o, none⟩) (fun w s => Rd.some (s.ok (.rd B (bc bb)) (by simp)) (by rw [bc_length]; omega)) ?_
      rintro ⟨b, o, rfl⟩
      refine h_seq ?_
      refine h_reg ?_
      refine h_op (r_assign rfl) ?_
      refine h_op (r_assign rfl) ?_
      refine h_nil ?_
      refine q_then ?_
      refine h_seq ?_
      refine h_seq ?_
      refine h_reg ?_
      refine h_op (r_move rfl) ?_
      refine h_op (r_len rfl) ?_
      refine h_op (r_lss rfl rfl) ?_
      refine h_nil ?_
      refine q_then ?_
      refine h_no rfl ((show ¬ ((bb.length : Nat) : Int) < 6 by omega)) ?_
      refine h_skip ?_
      refine q_then ?_
      refine h_seq ?_
      refine h_seq ?_
      refine h_reg ?_
      refine h_op (r_move rfl) ?_
      refine h_op (r_idx rfl rfl) ?_
      refine h_op (r_as (r_nth rfl (bc_at' (l := bb) (i := 0) (by omega))) (show _ = Value.int .u8 1 by rw [h1]; rfl)) ?_
      refine h_op (r_neq rfl rfl) ?_
      refine h_nil ?_
      refine q_then ?_
      refine h_no rfl ((fun h => h rfl)) ?_
      refine h_skip ?_
      refine q_then ?_
      refine h_seq ?_
      refine h_seq ?_
      refine h_reg ?_
      refine h_op (r_move rfl) ?_
      refine h_op (r_idx rfl rfl) ?_
      refine h_op (r_nth rfl (bc_at' (l := bb) (i := 1) (by omega))) ?_
      refine h_op (r_neq rfl rfl) ?_
      refine h_nil ?_
      refine q_then ?_
      refine h_yes rfl (hne) ?_
      refine h_seq ?_
      refine h_reg ?_
      refine h_op (r_assign rfl) ?_
      refine h_op (r_assign rfl) ?_
      refine h_nil ?_
      refine q_then ?_
      refine h_ret ?_
      refine q_thenR ?_
      exact h_ret2 rfl rfl rfl fun w s => ⟨(none, 0), rfl, s.res (List.nil_sublist _) (fun f hf => (List.not_mem_nil hf).elim)⟩
  · have e : decM bb = .error 6 := by unfold decM; rw [if_neg (by omega), if_pos h1]
    have hne : ¬ (((bb.getD 0 0).toNat : Nat) : Int) = 1 := fun e => h1 (UInt8.toNat_inj.1 (by show _ = 1; omega))
    rw [e]
    refine spec_of Tryz.func53 rfl (n := 100) rfl rfl ?_
    intro W
    refine h_pure (φ := ∃ b o, B = some ⟨b, o, none⟩) (fun w s => Rd.some (s.ok (.rd B (bc bb)) (by simp)) (by rw [bc_length]; omega)) ?_
    rintro ⟨b, o, rfl⟩
    refine h_seq ?_
    refine h_reg ?_
    refine h_op (r_assign rfl) ?_
    refine h_op (r_assign rfl) ?_
    refine h_nil ?_
    refine q_then ?_
    refine h_seq ?_
    refine h_seq ?_
    refine h_reg ?_
    refine h_op (r_move rfl) ?_
    refine h_op (r_len rfl) ?_
    refine h_op (r_lss rfl rfl) ?_
    refine h_nil ?_
    refine q_then ?_
    refine h_no rfl ((show ¬ ((bb.length : Nat) : Int) < 6 by omega)) ?_
    refine h_skip ?_
    refine q_then ?_
    refine h_seq ?_
    refine h_seq ?_
    refine h_reg ?_
    refine h_op (r_move rfl) ?_
    refine h_op (r_idx rfl rfl) ?_
    refine h_op (r_nth rfl (bc_at' (l := bb) (i := 0) (by omega))) ?_
    refine h_op (r_neq rfl rfl) ?_
    refine h_nil ?_
    refine q_then ?_
    refine h_yes rfl (hne) ?_
    refine h_seq ?_
    refine h_reg ?_
    refine h_op (r_assign rfl) ?_
    refine h_op (r_assign rfl) ?_
    refine h_nil ?_
    refine q_then ?_
    refine h_ret ?_
    refine q_thenR ?_
    exact h_ret2 rfl rfl rfl fun w s => ⟨(none, 0), rfl, s.res (List.nil_sublist _) (fun f hf => (List.not_mem_nil hf).elim)⟩
end Go.Proofs.YtjhocljhhpkiiaaGreatDoor
/- U122 -/
namespace Go.Proofs.YtjhocljhhpkiiaaGreatDoor
set_option linter.unusedSimpArgs false
set_option linter.unusedVariables false
open Go.RowKit
theorem keysC_getD {l : List CB} {k : Nat} (h : k < l.length) : (keysC l).getD k zB32 = keyOf (l.getD k zCB).kb := by
  rw [List.getD_eq_getElem?_getD, keysC_get h]; rfl
section
variable (n : Nat) (hn : n ≤ 256) (h : Zh) [hT : RdZ h (some ⟨1, 0, none⟩) hashT] (gh gc : Nat) (l : List CB) (A : Option Addr) (c : Nat) [hr : RdZ h A (cbs l)] (hz : ClsZ h l) (hvl : ∀ x ∈ l, x.vb.length ≤ 100000000) (hll : l.length ≤ 100000) (K : Option Addr) (kc : Nat) [hK : RdZ h K (dgs (keysC l))] (gl ph pk : Nat)
include hn hz hvl hll
omit hll in
theorem show1_s (k : Nat) (hk : k ≤ 1000000000) (i : Nat) (hi : i < l.length) (x : Item × Nat) (b : Bool) (hb : supP (endPr x) (keyOf (l.getD i zCB).kb) (valD n (l.getD i zCB).c.present (l.getD i zCB).vb) (l.getD i zCB).c.present = b) : Spec Tryz.prog 155 [.int .i64 (i : Int), .agg (End.cells ⟨x.1, (x.2 : Int)⟩).toArray, .pointer (some ⟨gl, 0, none⟩), .pointer (some ⟨ph, 0, none⟩), .pointer (some ⟨pk, 0, none⟩)].toArray [HR gh gc n, .zone false h, .rd (some ⟨gl, 0, none⟩) [.slice A l.length c], .rd (some ⟨ph, 0, none⟩) [.pointer (some ⟨gh, 0, none⟩)], .rd (some ⟨pk, 0, none⟩) [.slice K l.length kc]] [CN gc k] (fun _ : Unit => .int .i64 (if b then 0 else 12)) (fun _ => [CN gc (k + if (l.getD i zCB).c.present then 1 else 0)]) := by
  have hx := getD_get zCB hi
  have hvz := (hz.get hi).2
  have hvb := hvl _ (List.mem_of_getElem? hx)
  have hd := dgs_at (l := keysC l) (k := i) (by rw [keysC_len]; exact hi)
  rw [keysC_getD hi] at hd
  generalize l.getD i zCB = y at *
  have hvn := hvz.len
  have hVr : RdZ h y.c.value.A (bc y.vb) := hvz.rd
  have hVn := hvz.nil
  obtain ⟨bA, oA, rfl, -⟩ := hr.at_ (i * 3) _ (cbs_at hx 0 _ rfl)
  obtain ⟨bK, oK, rfl, -⟩ := hK.at_ (i * 32 + 0) _ (hd 0 _ (List.getElem?_eq_getElem (by rw [B32.cells_length]; decide)))
  have e1 := cbs_at hx 1 _ rfl
  have e2 := cbs_at hx 2 _ rfl
  obtain ⟨⟨ks, ⟨vA, vn, vc⟩, pr⟩, kb, vb⟩ := y
  dsimp only at hvn hVr hVn hvb hb hd e1 e2 ⊢
  subst hvn
  have hS := fun v => Supports_s (endPr x) (keyOf kb) v pr
  cases pr
  · refine spec_of Tryz.func155 rfl (n := 45) rfl rfl ?_
    intro W
    refine h_seq ?_
    refine h_reg ?_
    refine h_opX (x_box rfl) fun g6 => ?_
    refine h_op (r_assign rfl) ?_
    refine h_nil ?_
    refine q_then ?_
    refine h_seq ?_
    refine h_reg ?_
    refine h_opX (x_alloc) fun g8 => ?_
    refine h_nil ?_
    refine q_then ?_
    refine h_seq ?_
    refine h_seq ?_
    refine h_reg ?_
    refine h_op (r_loadc rfl) ?_
    refine h_op (r_move rfl) ?_
    refine h_op (r_idx rfl rfl) ?_
    refine h_op (r_field rfl (O' := oA + (i * 3 + 2)) (by omega)) ?_
    refine h_op (r_nth rfl e2) ?_
    refine h_nil ?_
    refine q_then ?_
    refine h_condF rfl ?_
    refine h_skip ?_
    refine q_then ?_
    refine h_seq ?_
    refine h_reg ?_
    refine h_op (r_field rfl) ?_
    refine h_op (r_field rfl) ?_
    refine h_op (r_loadc rfl) ?_
    refine h_op (r_field rfl) ?_
    refine h_op (r_loadc rfl) ?_
    refine h_op (r_field rfl) ?_
    refine h_op (r_field rfl) ?_
    refine h_op (r_loadr rfl) ?_
    refine h_op (r_build rfl) ?_
    refine h_opX (x_alloc) fun g9 => ?_
    refine h_opS (s_storer rfl rfl) ?_
    refine h_nil ?_
    refine q_then ?_
    refine h_seq ?_
    refine h_seq ?_
    change H _ _ _ _ _ (.blk g9 (endPr x).cells _ :: _) _
    have hS := hS zB32
    rw [show supP (endPr x) (keyOf kb) zB32 false = b from hb] at hS
    refine ha_start [.blk g9 (endPr x).cells 54, .blk g8 zB32.cells 42, .zone false h, .rd (some ⟨gl, 0, none⟩) [.slice (some ⟨bA, oA, none⟩) l.length c], .rd (some ⟨pk, 0, none⟩) [.slice (some ⟨bK, oK, none⟩) l.length kc]] [] mixed (same) ?_
    refine ha_take 0 rfl (r_loadr rfl) ?_
    refine ha_take 1 rfl (r_loadc rfl) ?_
    refine ha_takeP 2 rfl (r_move rfl) ?_
    refine ha_takeP 3 rfl (r_idx rfl rfl) ?_
    refine ha_take 4 rfl (r_nthr rfl (out := (keyOf kb).cells) (B32.cells_length _) hd) ?_
    refine ha_take 5 rfl (r_loadr rfl) ?_
    refine ha_take 6 rfl (r_loadc rfl) ?_
    refine ha_takeP 7 rfl (r_move rfl) ?_
    refine ha_takeP 8 rfl (r_idx rfl rfl) ?_
    refine ha_takeP 9 rfl (r_field rfl (O' := oA + (i * 3 + 2)) (by omega)) ?_
    refine ha_take 10 rfl (r_nth rfl e2) ?_
    refine ha_one 11 ?_
    refine ho_C 11 rfl (hS.comes) rfl rfl rfl (fun xx => same) fun _ => ?_
    refine ha_takeP 12 rfl (r_not rfl) ?_
    refine ha_done (by kernel_rfl) ?_
    refine q_then ?_
    cases b
    · refine h_condT rfl ?_
      refine h_seq ?_
      refine h_reg ?_
      refine h_op (r_assign rfl) ?_
      refine h_nil ?_
      refine q_then ?_
      refine h_ret ?_
      refine q_thenR ?_
      exact h_ret1 rfl rfl fun w s => ⟨(), rfl, (same (L' := [CN gc k]) w s).res (List.Sublist.refl _) (by simp [Fa.wr])⟩
    · refine h_condF rfl ?_
      refine h_skip ?_
      refine q_then ?_
      refine h_seq ?_
      refine h_reg ?_
      refine h_op (r_assign rfl) ?_
      refine h_nil ?_
      refine q_then ?_
      refine h_ret ?_
      exact h_ret1 rfl rfl fun w s => ⟨(), rfl, (same (L' := [CN gc k]) w s).res (List.Sublist.refl _) (by simp [Fa.wr])⟩
  · refine spec_of Tryz.func155 rfl (n := 45) rfl rfl ?_
    intro W
    refine h_seq ?_
    refine h_reg ?_
    refine h_opX (x_box rfl) fun g6 => ?_
    refine h_op (r_assign rfl) ?_
    refine h_nil ?_
    refine q_then ?_
    refine h_seq ?_
    refine h_reg ?_
    refine h_opX (x_alloc) fun g8 => ?_
    refine h_nil ?_
    refine q_then ?_
    refine h_seq ?_
    refine h_seq ?_
    refine h_reg ?_
    refine h_op (r_loadc rfl) ?_
    refine h_op (r_move rfl) ?_
    refine h_op (r_idx rfl rfl) ?_
    refine h_op (r_field rfl (O' := oA + (i * 3 + 2)) (by omega)) ?_
    refine h_op (r_nth rfl e2) ?_
    refine h_nil ?_
    refine q_then ?_
    refine h_condT rfl ?_
    refine ha_start [.zone false h, .rd (some ⟨gl, 0, none⟩) [.slice (some ⟨bA, oA, none⟩) l.length c], .rd (some ⟨ph, 0, none⟩) [.pointer (some ⟨gh, 0, none⟩)]] [] mixed (same) ?_
    refine ha_take 0 rfl (r_loadc rfl) ?_
    refine ha_take 1 rfl (r_loadc rfl) ?_
    refine ha_takeP 2 rfl (r_move rfl) ?_
    refine ha_takeP 3 rfl (r_idx rfl rfl) ?_
    refine ha_takeP 4 rfl (r_field rfl (O' := oA + (i * 3 + 1)) (by omega)) ?_
    refine ha_take 5 rfl (r_nth rfl e1) ?_
    refine ha_one 6 ?_
    refine ho_C 6 rfl ((pValue_s vb vA vc (fun e => by have := hVn e; omega) hvb).comes) rfl rfl rfl (fun xx => same) fun ⟨g21, c21⟩ => ?_
    refine ha_one 7 ?_
    refine ho_C 7 rfl ((HSum_s n hn gh gc k (by omega) (preV vb) (some ⟨g21, 0, none⟩) c21 (fun h => by cases h) (by show vb.length + 1 ≤ _; omega)).comes) rfl rfl rfl (fun xx => same) fun _ => ?_
    refine ha_one 8 ?_
    refine ho_SL 8 rfl (s_storer rfl rfl) ?_
    refine q_then ?_
    refine h_seq ?_
    refine h_reg ?_
    refine h_op (r_field rfl) ?_
    refine h_op (r_field rfl) ?_
    refine h_op (r_loadc rfl) ?_
    refine h_op (r_field rfl) ?_
    refine h_op (r_loadc rfl) ?_
    refine h_op (r_field rfl) ?_
    refine h_op (r_field rfl) ?_
    refine h_op (r_loadr rfl) ?_
    refine h_op (r_build rfl) ?_
    refine h_opX (x_alloc) fun g9 => ?_
    refine h_opS (s_storer rfl rfl) ?_
    refine h_nil ?_
    refine q_then ?_
    refine h_seq ?_
    refine h_seq ?_
    change H _ _ _ _ _ (.blk g9 (endPr x).cells _ :: _) _
    have hS := hS (sumB n (preV vb))
    rw [show supP (endPr x) (keyOf kb) (sumB n (preV vb)) true = b from hb] at hS
    refine ha_start [.blk g9 (endPr x).cells 54, .blk g8 (sumB n (preV vb)).cells 42, .zone false h, .rd (some ⟨gl, 0, none⟩) [.slice (some ⟨bA, oA, none⟩) l.length c], .rd (some ⟨pk, 0, none⟩) [.slice (some ⟨bK, oK, none⟩) l.length kc]] [] mixed (same) ?_
    refine ha_take 0 rfl (r_loadr rfl) ?_
    refine ha_take 1 rfl (r_loadc rfl) ?_
    refine ha_takeP 2 rfl (r_move rfl) ?_
    refine ha_takeP 3 rfl (r_idx rfl rfl) ?_
    refine ha_take 4 rfl (r_nthr rfl (out := (keyOf kb).cells) (B32.cells_length _) hd) ?_
    refine ha_take 5 rfl (r_loadr rfl) ?_
    refine ha_take 6 rfl (r_loadc rfl) ?_
    refine ha_takeP 7 rfl (r_move rfl) ?_
    refine ha_takeP 8 rfl (r_idx rfl rfl) ?_
    refine ha_takeP 9 rfl (r_field rfl (O' := oA + (i * 3 + 2)) (by omega)) ?_
    refine ha_take 10 rfl (r_nth rfl e2) ?_
    refine ha_one 11 ?_
    refine ho_C 11 rfl (hS.comes) rfl rfl rfl (fun xx => same) fun _ => ?_
    refine ha_takeP 12 rfl (r_not rfl) ?_
    refine ha_done (by kernel_rfl) ?_
    refine q_then ?_
    cases b
    · refine h_condT rfl ?_
      refine h_seq ?_
      refine h_reg ?_
      refine h_op (r_assign rfl) ?_
      refine h_nil ?_
      refine q_then ?_
      refine h_ret ?_
      refine q_thenR ?_
      exact h_ret1 rfl rfl fun w s => ⟨(), rfl, (same (L' := [CN gc (k + 1)]) w s).res (List.Sublist.refl _) (by simp [Fa.wr])⟩
    · refine h_condF rfl ?_
      refine h_skip ?_
      refine q_then ?_
      refine h_seq ?_
      refine h_reg ?_
      refine h_op (r_assign rfl) ?_
      refine h_nil ?_
      refine q_then ?_
      refine h_ret ?_
      exact h_ret1 rfl rfl fun w s => ⟨(), rfl, (same (L' := [CN gc (k + 1)]) w s).res (List.Sublist.refl _) (by simp [Fa.wr])⟩
theorem first3_s (k : Nat) (hk : k ≤ 100000000) (es : List (Item × Nat)) (E : Option Addr) (ec : Nat) [hE : RdZ h E (endC es)] (hel : es.length ≤ l.length) (r : Option (Nat × Int)) (hR : firstF (showE n es l) es.length 0 = r) : Spec Tryz.prog 154 [.slice E es.length ec, .func (.func 155) #[] #[.pointer (some ⟨gl, 0, none⟩), .pointer (some ⟨ph, 0, none⟩), .pointer (some ⟨pk, 0, none⟩)]].toArray [HR gh gc n, .zone false h, .rd (some ⟨gl, 0, none⟩) [.slice A l.length c], .rd (some ⟨ph, 0, none⟩) [.pointer (some ⟨gh, 0, none⟩)], .rd (some ⟨pk, 0, none⟩) [.slice K l.length kc]] [CN gc k] (fun u : {u : Nat × Nat // u.2 ≤ k + es.length} => errV r u.1.1) (fun u => CN gc u.1.2 :: errB r u.1.1) := by
  refine spec_of Tryz.func154 rfl (n := 25) rfl rfl ?_
  intro W
  refine h_seq ?_
  refine h_reg ?_
  refine h_op (r_assign rfl) ?_
  refine h_nil ?_
  refine q_then ?_
  refine h_seq ?_
  refine h_seq ?_
  refine h_reg ?_
  refine h_op (r_move rfl) ?_
  refine h_op (r_len rfl) ?_
  refine h_op (r_move rfl) ?_
  refine h_nil ?_
  refine q_then ?_
  refine h_block ?_
  refine h_loop (fun (s : Nat × Nat) => s.1 ≤ es.length ∧ s.2 ≤ k + s.1 ∧ ∀ j, j < s.1 → showE n es l j = 0) (fun (s : Nat × Nat) => [(10, .int .i64 (s.1 : Int)), (9, .int .i64 (es.length : Int)), (8, .slice E es.length ec), (1, .func (.func 155) #[] #[.pointer (some ⟨gl, 0, none⟩), .pointer (some ⟨ph, 0, none⟩), .pointer (some ⟨pk, 0, none⟩)])]) (fun (s : Nat × Nat) => [CN gc s.2, HR gh gc n, .zone false h, .rd (some ⟨gl, 0, none⟩) [.slice A l.length c], .rd (some ⟨ph, 0, none⟩) [.pointer (some ⟨gh, 0, none⟩)], .rd (some ⟨pk, 0, none⟩) [.slice K l.length kc]]) (fun (s : Nat × Nat) => es.length - s.1) (0, k) (⟨Nat.zero_le _, Nat.le_refl _, fun j hj => absurd hj (Nat.not_lt_zero _)⟩) ⟨rfl, rfl, rfl, rfl, trivial⟩ (same) ?_
  rintro ⟨i, k'⟩ ⟨hi, hk', hz'⟩
  dsimp only at hi hk' hz' ⊢
  refine h_seq ?_
  refine h_reg ?_
  refine h_op (r_lss rfl rfl) ?_
  refine h_nil ?_
  refine q_then ?_
  refine h_seq ?_
  refine h_cond rfl (fun hlt => ?_) (fun hlt => ?_)
  · have hi2 : i < es.length := by omega
    have hx := getD_get (zItem, 0) hi2
    have hz0 : ∀ j, 0 ≤ j → j < i → showE n es l j = 0 := fun j _ hj => hz' j hj
    have hs := show1_s n hn h gh gc l A c hz hvl K kc gl ph pk k' (by omega) i (by omega) (es.getD i (zItem, 0)) _ rfl
    change Spec _ _ _ _ _ (fun _ : Unit => .int .i64 (showE n es l i)) _ at hs
    obtain ⟨b, o, rfl, -⟩ := hE.at_ (i * 98) _ (endC_at hx 0 _ rfl)
    obtain ⟨p, hp, hpe⟩ : ∃ p, p ≤ 1 ∧ (if (l.getD i zCB).c.present = true then 1 else 0) = p := ⟨_, by split <;> omega, rfl⟩
    rw [hpe] at hs
    refine h_skip ?_
    refine q_then ?_
    refine h_seq ?_
    refine h_block ?_
    refine h_seq ?_
    refine h_reg ?_
    refine h_op (r_move rfl) ?_
    refine h_op (r_idx rfl rfl) ?_
    refine h_op (r_nthr rfl (out := End.cells ⟨(es.getD i (zItem, 0)).1, ((es.getD i (zItem, 0)).2 : Int)⟩) (End.cells_length _) (endC_at hx)) ?_
    refine h_opX (x_alloc) fun g6 => ?_
    refine h_op (r_assign rfl) ?_
    refine h_opS (s_storer rfl rfl) ?_
    refine h_nil ?_
    refine q_then ?_
    refine h_seq ?_
    refine h_reg ?_
    refine h_op (r_move rfl) ?_
    refine h_op (r_move rfl) ?_
    refine h_op (r_move rfl) ?_
    refine h_op (r_loadr rfl) ?_
    refine h_call (hs.comes) rfl rfl rfl fun _ => ?_
    by_cases h0 : showE n es l i = 0
    · rw [h0]
      refine h_call ((mFail_no (i : Int)).comes) rfl rfl rfl fun _ => ?_
      refine h_op (r_assign rfl) ?_
      refine h_nil ?_
      refine q_then ?_
      refine h_seq ?_
      refine h_reg ?_
      refine h_op (r_move rfl) ?_
      refine h_op (r_nilnn rfl) ?_
      refine h_nil ?_
      refine q_then ?_
      refine h_condF rfl ?_
      refine h_skip ?_
      refine q_block ?_
      refine q_then ?_
      refine h_reg ?_
      refine h_op (r_add rfl rfl) ?_
      refine h_op (r_move rfl) ?_
      refine h_nil ?_
      exact h_back (i + 1, k' + p) (⟨hi2, by dsimp only; omega, fun j hj => (Nat.lt_or_ge j i).elim (hz' j) fun h8 => by (obtain rfl : j = i := by (dsimp only at hj; omega)); exact h0⟩) ((show es.length - (i + 1) < es.length - i by omega)) ⟨rfl, rfl, rfl, rfl, trivial⟩ (same)
    · obtain rfl : some (i, showE n es l i) = r := by rw [← hR, firstF_some (showE n es l) i h0 es.length 0 (Nat.zero_le _) (by omega) hz0]
      refine h_call ((mFail_s (i : Int) (showE n es l i) h0).comes) rfl rfl rfl fun g20 => ?_
      refine h_op (r_assign rfl) ?_
      refine h_nil ?_
      refine q_then ?_
      refine h_seq ?_
      refine h_reg ?_
      refine h_op (r_move rfl) ?_
      refine h_op (r_ifnn rfl) ?_
      refine h_nil ?_
      refine q_then ?_
      refine h_condT rfl ?_
      refine h_seq ?_
      refine h_reg ?_
      refine h_op (r_move rfl) ?_
      refine h_op (r_assign rfl) ?_
      refine h_nil ?_
      refine q_then ?_
      refine h_ret ?_
      refine q_blockR ?_
      refine q_thenR ?_
      refine q_thenR ?_
      refine q_blockR ?_
      refine q_thenR ?_
      exact h_ret1 rfl rfl fun w s => ⟨⟨(g20, k' + p), by dsimp only; omega⟩, rfl, (same (L' := [CN gc (k' + p), .blk g20 (fltC batchB (i : Int) (showE n es l i)) 178]) w s).res (List.Sublist.refl _) (by simp [Fa.wr, errB])⟩
  · obtain rfl : i = es.length := by omega
    obtain rfl : none = r := by rw [← hR, firstF_none _ _ _ (fun j _ hj => hz' j (by omega))]
    refine h_exit ?_
    refine q_thenE ?_
    refine q_thenE ?_
    refine q_blockE ?_
    refine q_then ?_
    refine h_seq ?_
    refine h_reg ?_
    refine h_op (r_assign rfl) ?_
    refine h_nil ?_
    refine q_then ?_
    refine h_ret ?_
    exact h_ret1 rfl rfl fun w s => ⟨⟨(0, k'), hk'⟩, rfl, (same (L' := [CN gc k']) w s).res (List.Sublist.refl _) (by simp [Fa.wr, errB])⟩
end
end Go.Proofs.YtjhocljhhpkiiaaGreatDoor
/- U123 -/
namespace Go.Proofs.YtjhocljhhpkiiaaGreatDoor
set_option linter.unusedSimpArgs false
set_option linter.unusedVariables false
open Go.RowKit
theorem parse_cost {l : List Item} {t : Sub} (h : parseM l = .ok t) : t.cost ≤ l.length := by
  have h2 := readM_cost 256 l t [] (parse_ok h).1
  simpa using h2
section
variable (n : Nat) (hn : n ≤ 256) (h : Zh) [hT : RdZ h (some ⟨1, 0, none⟩) hashT] (gh gc : Nat) (l : List CB) (A : Option Addr) (c : Nat) [hr : RdZ h A (cbs l)] (hz : ClsZ h l) (hvl : ∀ x ∈ l, x.vb.length ≤ 100000000) (hll : l.length ≤ 100000) (K : Option Addr) (kc : Nat) [hK : RdZ h K (dgs (keysC l))] (hkc : l.length ≤ kc)
include hn hz hvl hll hkc
theorem show_s (k : Nat) (hk : k ≤ 100000000) (root : B32) (hC : claimsR l = none) (its0 : List Item) (I : Option Addr) (ic : Nat) [hI : RdZ h I (its its0)] (hic : its0.length ≤ ic) (hil : its0.length ≤ 1000000) (t : Sub) (hp : parseM its0 = .ok t) : Spec Tryz.prog 101 [.pointer (some ⟨gh, 0, none⟩), .agg root.cells.toArray, .slice A l.length c, .slice K l.length kc, .slice I its0.length ic].toArray [HR gh gc n] [.zone true h, CN gc k] (fun u : {u : Nat × Zh × Nat // LeZ h u.2.1 ∧ u.2.2 ≤ k + l.length + its0.length} => errV (showR n root l t) u.1.1) (fun u => .zone true u.1.2.1 :: CN gc u.1.2.2 :: errB (showR n root l t) u.1.1) := by
  have hke := (claimsR_ok hC).1
  have hkl := keysC_len l
  obtain ⟨es, b, hE⟩ : ∃ es b, endsM t (keysC l) 0 = (es, b) := ⟨_, _, rfl⟩
  have hel : es.length ≤ l.length := by
    have h1 := endsM_len t (keysC l) 0
    rw [hE, hkl] at h1
    exact h1
  have hEn := Ends_s h its0 I ic hic hil (keysC l) K kc t hp (by omega) (by omega) hke es b hE
  rw [hkl] at hEn
  have hcost := parse_cost hp
  obtain ⟨r, hR⟩ : ∃ r, showR n root l t = r := ⟨_, rfl⟩
  rw [hR]
  unfold showR at hR
  rw [hE] at hR
  dsimp only at hR
  cases b
  · obtain rfl : some (0, 12) = r := hR
    replace hEn : Spec Tryz.prog 153 [.slice I its0.length ic, .slice K l.length kc].toArray [.zone false h] [] (fun u : Option Addr × Nat => .tuple #[.slice none 0 0, .int .i64 12]) (fun u => []) := hEn
    refine spec_of Tryz.func101 rfl (n := 46) rfl rfl ?_
    intro W
    refine h_seq ?_
    refine h_reg ?_
    refine h_opX (x_box1 rfl) fun g5 => ?_
    refine h_opX (x_box rfl) fun g6 => ?_
    refine h_opX (x_box1 rfl) fun g7 => ?_
    refine h_opX (x_box1 rfl) fun g8 => ?_
    refine h_op (r_assign rfl) ?_
    refine h_nil ?_
    refine q_then ?_
    refine h_seq ?_
    refine h_reg ?_
    refine h_op (r_move rfl) ?_
    refine h_op (r_loadc rfl) ?_
    refine h_call (hEn.comes) rfl rfl rfl fun _ => ?_
    refine h_op (r_move rfl) ?_
    refine h_op (r_extract rfl rfl) ?_
    refine h_op (r_extract rfl rfl) ?_
    refine h_op (r_assign rfl) ?_
    refine h_op (r_assign rfl) ?_
    refine h_nil ?_
    refine q_then ?_
    refine h_seq ?_
    refine h_seq ?_
    refine h_reg ?_
    refine h_op (r_move rfl) ?_
    refine h_op (r_neq rfl rfl) ?_
    refine h_nil ?_
    refine q_then ?_
    refine h_yes rfl ((show ¬ (12 : Int) = 0 by decide)) ?_
    refine h_seq ?_
    refine h_reg ?_
    refine h_op (r_move rfl) ?_
    refine h_call ((mFail_s 0 12 (by decide)).comes) rfl rfl rfl fun g25 => ?_
    refine h_op (r_assign rfl) ?_
    refine h_nil ?_
    refine q_then ?_
    refine h_ret ?_
    refine q_thenR ?_
    exact h_ret1 rfl rfl fun w s => ⟨⟨(g25, h, k), LeZ.refl h, by dsimp only; omega⟩, rfl, (same (L' := [.zone true h, CN gc k, .blk g25 (fltC batchB 0 12) 178]) w s).res (List.Sublist.refl _) (by simp [Fa.wr, errB])⟩
  · rw [if_pos rfl] at hR
    replace hEn : Spec Tryz.prog 153 [.slice I its0.length ic, .slice K l.length kc].toArray [.zone false h] [] (fun u : Option Addr × Nat => .tuple #[.slice u.1 es.length u.2, .int .i64 0]) (fun u => [.own (.slice u.1 es.length u.2) es.length 250 98 (endC es)]) := hEn
    refine spec_of Tryz.func101 rfl (n := 46) rfl rfl ?_
    intro W
    refine h_seq ?_
    refine h_reg ?_
    refine h_opX (x_box1 rfl) fun g5 => ?_
    refine h_opX (x_box rfl) fun g6 => ?_
    refine h_opX (x_box1 rfl) fun g7 => ?_
    refine h_opX (x_box1 rfl) fun g8 => ?_
    refine h_op (r_assign rfl) ?_
    refine h_nil ?_
    refine q_then ?_
    refine h_seq ?_
    refine h_reg ?_
    refine h_op (r_move rfl) ?_
    refine h_op (r_loadc rfl) ?_
    refine h_call (hEn.comes) rfl rfl rfl fun ⟨A19, c19⟩ => ?_
    dsimp only
    refine h_freezeO (.slice A19 es.length c19) fun h2 B2 c2 e2 hle2 hlen2 hnil2 hz2 hr2 => ?_
    injection e2 with e2 _ e3
    subst e2 e3
    have hT2 : RdZ h2 (some ⟨1, 0, none⟩) hashT := hT.mono hz2
    have hr2' : RdZ h2 A (cbs l) := hr.mono hz2
    have hK2 : RdZ h2 K (dgs (keysC l)) := hK.mono hz2
    have hI2 : RdZ h2 I (its its0) := hI.mono hz2
    refine h_op (r_move rfl) ?_
    refine h_op (r_extract rfl rfl) ?_
    refine h_op (r_extract rfl rfl) ?_
    refine h_op (r_assign rfl) ?_
    refine h_op (r_assign rfl) ?_
    refine h_nil ?_
    refine q_then ?_
    refine h_seq ?_
    refine h_seq ?_
    refine h_reg ?_
    refine h_op (r_move rfl) ?_
    refine h_op (r_neq rfl rfl) ?_
    refine h_nil ?_
    refine q_then ?_
    refine h_no rfl ((fun h => h rfl)) ?_
    have hF := first3_s n hn h2 gh gc l A c (hz.mono hz2) hvl hll K kc g7 g5 g8 k hk es A19 c19 hel _ rfl
    obtain ⟨f, hf⟩ : ∃ f, firstF (showE n es l) es.length 0 = f := ⟨_, rfl⟩
    rw [hf] at hF hR
    rcases f with _ | ⟨i, e⟩
    · replace hF : Spec Tryz.prog 154 [.slice A19 es.length c19, .func (.func 155) #[] #[.pointer (some ⟨g7, 0, none⟩), .pointer (some ⟨g5, 0, none⟩), .pointer (some ⟨g8, 0, none⟩)]].toArray [HR gh gc n, .zone false h2, .rd (some ⟨g7, 0, none⟩) [.slice A l.length c], .rd (some ⟨g5, 0, none⟩) [.pointer (some ⟨gh, 0, none⟩)], .rd (some ⟨g8, 0, none⟩) [.slice K l.length kc]] [CN gc k] (fun u : {u : Nat × Nat // u.2 ≤ k + es.length} => .nilIface) (fun u => [CN gc u.1.2]) := hF
      refine h_skip ?_
      refine q_then ?_
      refine h_seq ?_
      refine h_reg ?_
      refine h_op (r_move rfl) ?_
      refine h_op (r_func rfl rfl) ?_
      refine h_call (hF.comes) rfl rfl rfl fun ⟨⟨g28, k1⟩, hk1⟩ => ?_
      dsimp only at hk1 ⊢
      have hRo := mRoot_s h2 n hn gh gc k1 (by omega) its0 I ic hic hil t hp
      refine h_op (r_assign rfl) ?_
      refine h_nil ?_
      refine q_then ?_
      refine h_seq ?_
      refine h_seq ?_
      refine h_reg ?_
      refine h_op (r_move rfl) ?_
      refine h_op (r_nilnn rfl) ?_
      refine h_nil ?_
      refine q_then ?_
      refine h_condF rfl ?_
      refine h_skip ?_
      refine q_then ?_
      refine h_seq ?_
      refine h_seq ?_
      refine h_reg ?_
      refine h_op (r_loadc rfl) ?_
      refine h_op (r_move rfl) ?_
      refine h_call (hRo.comes) rfl rfl rfl fun _ => ?_
      by_cases hd : dgS n t = root
      · obtain rfl : none = r := by rw [← hR]; dsimp only; rw [if_pos hd]
        refine h_op (r_move rfl) ?_
        refine h_op (r_extract rfl rfl) ?_
        refine h_op (r_extract rfl rfl) ?_
        refine h_opX (x_alloc) fun g14 => ?_
        refine h_opS (s_storer rfl rfl) ?_
        refine h_op (r_assign rfl) ?_
        refine h_nil ?_
        refine q_then ?_
        refine h_seq ?_
        refine h_reg ?_
        refine h_op (r_move rfl) ?_
        refine h_op (r_bool (r_neq rfl rfl) (decide_eq_false (fun h => h rfl))) ?_
        refine h_op (r_move rfl) ?_
        refine h_op (r_loadr rfl) ?_
        refine h_op (r_loadr rfl) ?_
        refine h_op (r_bool (r_ner rfl rfl) (decide_eq_false (fun h => h hd))) ?_
        refine h_op (r_pick rfl rfl) ?_
        refine h_nil ?_
        refine q_then ?_
        refine h_condF rfl ?_
        refine h_skip ?_
        refine q_then ?_
        refine h_seq ?_
        refine h_reg ?_
        refine h_op (r_assign rfl) ?_
        refine h_nil ?_
        refine q_then ?_
        refine h_ret ?_
        exact h_ret1 rfl rfl fun w s => ⟨⟨(0, h2, k1 + t.cost), hz2, by dsimp only; omega⟩, rfl, (same (L' := [.zone true h2, CN gc (k1 + t.cost)]) w s).res (List.Sublist.refl _) (by simp [Fa.wr, errB])⟩
      · obtain rfl : some (0, 13) = r := by rw [← hR]; dsimp only; rw [if_neg hd]
        refine h_op (r_move rfl) ?_
        refine h_op (r_extract rfl rfl) ?_
        refine h_op (r_extract rfl rfl) ?_
        refine h_opX (x_alloc) fun g14 => ?_
        refine h_opS (s_storer rfl rfl) ?_
        refine h_op (r_assign rfl) ?_
        refine h_nil ?_
        refine q_then ?_
        refine h_seq ?_
        refine h_reg ?_
        refine h_op (r_move rfl) ?_
        refine h_op (r_bool (r_neq rfl rfl) (decide_eq_false (fun h => h rfl))) ?_
        refine h_op (r_move rfl) ?_
        refine h_op (r_loadr rfl) ?_
        refine h_op (r_loadr rfl) ?_
        refine h_op (r_bool (r_ner rfl rfl) (decide_eq_true hd)) ?_
        refine h_op (r_pick rfl rfl) ?_
        refine h_nil ?_
        refine q_then ?_
        refine h_condT rfl ?_
        refine h_seq ?_
        refine h_reg ?_
        refine h_call ((mFail_s 0 13 (by decide)).comes) rfl rfl rfl fun g45 => ?_
        refine h_op (r_assign rfl) ?_
        refine h_nil ?_
        refine q_then ?_
        refine h_ret ?_
        refine q_thenR ?_
        exact h_ret1 rfl rfl fun w s => ⟨⟨(g45, h2, k1 + t.cost), hz2, by dsimp only; omega⟩, rfl, (same (L' := [.zone true h2, CN gc (k1 + t.cost), .blk g45 (fltC batchB 0 13) 178]) w s).res (List.Sublist.refl _) (by simp [Fa.wr, errB])⟩
    · obtain rfl : some (i, e) = r := hR
      replace hF : Spec Tryz.prog 154 [.slice A19 es.length c19, .func (.func 155) #[] #[.pointer (some ⟨g7, 0, none⟩), .pointer (some ⟨g5, 0, none⟩), .pointer (some ⟨g8, 0, none⟩)]].toArray [HR gh gc n, .zone false h2, .rd (some ⟨g7, 0, none⟩) [.slice A l.length c], .rd (some ⟨g5, 0, none⟩) [.pointer (some ⟨gh, 0, none⟩)], .rd (some ⟨g8, 0, none⟩) [.slice K l.length kc]] [CN gc k] (fun u : {u : Nat × Nat // u.2 ≤ k + es.length} => .iface 174 (.pointer (some ⟨u.1.1, 0, none⟩))) (fun u => [CN gc u.1.2, .blk u.1.1 (fltC batchB (i : Int) e) 178]) := hF
      refine h_skip ?_
      refine q_then ?_
      refine h_seq ?_
      refine h_reg ?_
      refine h_op (r_move rfl) ?_
      refine h_op (r_func rfl rfl) ?_
      refine h_call (hF.comes) rfl rfl rfl fun ⟨⟨g28, k1⟩, hk1⟩ => ?_
      dsimp only at hk1 ⊢
      refine h_op (r_assign rfl) ?_
      refine h_nil ?_
      refine q_then ?_
      refine h_seq ?_
      refine h_seq ?_
      refine h_reg ?_
      refine h_op (r_move rfl) ?_
      refine h_op (r_ifnn rfl) ?_
      refine h_nil ?_
      refine q_then ?_
      refine h_condT rfl ?_
      refine h_seq ?_
      refine h_reg ?_
      refine h_op (r_move rfl) ?_
      refine h_op (r_assign rfl) ?_
      refine h_nil ?_
      refine q_then ?_
      refine h_ret ?_
      refine q_thenR ?_
      exact h_ret1 rfl rfl fun w s => ⟨⟨(g28, h2, k1), hz2, by dsimp only; omega⟩, rfl, (same (L' := [.zone true h2, CN gc k1, .blk g28 (fltC batchB (i : Int) e) 178]) w s).res (List.Sublist.refl _) (by simp [Fa.wr, errB])⟩
end
end Go.Proofs.YtjhocljhhpkiiaaGreatDoor
/- U72 -/
namespace Go.Proofs.YtjhocljhhpkiiaaGreatDoor
set_option linter.unusedSimpArgs false
set_option linter.unusedVariables false
open Go.RowKit
end Go.Proofs.YtjhocljhhpkiiaaGreatDoor
/- U73 -/
namespace Go.Proofs.YtjhocljhhpkiiaaGreatDoor
set_option linter.unusedSimpArgs false
set_option linter.unusedVariables false
open Go.RowKit
end Go.Proofs.YtjhocljhhpkiiaaGreatDoor
/- U74 -/
namespace Go.Proofs.YtjhocljhhpkiiaaGreatDoor
set_option linter.unusedSimpArgs false
set_option linter.unusedVariables false
open Go.RowKit
end Go.Proofs.YtjhocljhhpkiiaaGreatDoor
/- U79 -/
namespace Go.Proofs.YtjhocljhhpkiiaaGreatDoor
set_option linter.unusedSimpArgs false
set_option linter.unusedVariables false
open Go.RowKit
theorem itemFields' : ∃ f1 f2 f3 : Field, Tryz.prog.underlying 126 = some (.struct #[f1, f2, f3]) ∧ (f1.name == "_") = false ∧ (f2.name == "_") = false ∧ (f3.name == "_") = false ∧ f1.type = 3 ∧ f2.type = 42 ∧ f3.type = 51 ∧ f1.offset = 0 ∧ f2.offset = 1 ∧ f3.offset = 33 :=
  ⟨_, _, _, Tryz.underlying126, by decide, by decide, by decide, rfl, rfl, rfl, rfl, rfl, rfl⟩
theorem eqItem' {w : World} (d : Nat) (x y : Item) : (Op.equalIn (d + 4) 126 (.agg x.cells.toArray) (.agg y.cells.toArray)).run Tryz.prog w = .ok (decide (x = y)) w := by
  obtain ⟨f1, f2, f3, hT, m1, m2, m3, t1, t2, t3, o1, o2, o3⟩ := itemFields'
  exact eq_Item d hT Tryz.stoodInHeld126 m1 m2 m3 t1 t2 t3 o1 o2 o3 Tryz.underlying3 Tryz.underlying42 Tryz.underlying5 (by kernel_rfl) (by kernel_rfl) (eqLeaf' d) Tryz.underlying51 rfl (by kernel_rfl) x y
instance (x y : Item) : TEq Tryz.prog 126 x.cells y.cells (decide (x = y)) := ⟨fun w d => eqItem' (d + 2) x y, Tryz.eqGuardType126⟩
theorem Few19_s (l : List Item) (A : Option Addr) (c : Nat) : Spec Tryz.prog 37 [.slice A l.length c].toArray [] [] (fun _ : Unit => .int .i64 (if l.length ≤ 1200 then 1 else 0)) (fun _ => []) := by
  refine spec_of Tryz.func37 rfl (n := 6) rfl rfl ?_
  intro W
  by_cases h : l.length ≤ 1200
  · rw [if_pos h]
    refine h_seq ?_
    refine h_reg ?_
    refine h_op (r_assign rfl) ?_
    refine h_nil ?_
    refine q_then ?_
    refine h_seq ?_
    refine h_seq ?_
    refine h_reg ?_
    refine h_op (r_move rfl) ?_
    refine h_op (r_len rfl) ?_
    refine h_op (r_gtr rfl rfl) ?_
    refine h_nil ?_
    refine q_then ?_
    refine h_no rfl ((by omega)) ?_
    refine h_skip ?_
    refine q_then ?_
    refine h_seq ?_
    refine h_reg ?_
    refine h_op (r_assign rfl) ?_
    refine h_nil ?_
    refine q_then ?_
    refine h_ret ?_
    exact h_ret1 rfl rfl fun w s => ⟨(), rfl, s.res (List.nil_sublist _) (by simp)⟩
  · rw [if_neg h]
    refine h_seq ?_
    refine h_reg ?_
    refine h_op (r_assign rfl) ?_
    refine h_nil ?_
    refine q_then ?_
    refine h_seq ?_
    refine h_seq ?_
    refine h_reg ?_
    refine h_op (r_move rfl) ?_
    refine h_op (r_len rfl) ?_
    refine h_op (r_gtr rfl rfl) ?_
    refine h_nil ?_
    refine q_then ?_
    refine h_yes rfl ((by omega)) ?_
    refine h_seq ?_
    refine h_reg ?_
    refine h_op (r_assign rfl) ?_
    refine h_nil ?_
    refine q_then ?_
    refine h_ret ?_
    refine q_thenR ?_
    exact h_ret1 rfl rfl fun w s => ⟨(), rfl, s.res (List.nil_sublist _) (by simp)⟩
end Go.Proofs.YtjhocljhhpkiiaaGreatDoor
/- U47 -/
namespace Go.Proofs.YtjhocljhhpkiiaaGreatDoor
set_option linter.unusedSimpArgs false
set_option linter.unusedVariables false
open Go.RowKit
end Go.Proofs.YtjhocljhhpkiiaaGreatDoor
/- U81 -/
namespace Go.Proofs.YtjhocljhhpkiiaaGreatDoor
set_option linter.unusedSimpArgs false
set_option linter.unusedVariables false
open Go.RowKit
def L1 : List En := [⟨⟨zB32, ⟨none, 0, 0⟩⟩, []⟩]
theorem rd1_pre {L : List Fa} {A : Option Addr} {cs ds : List Value} (h : Rd1 L (.rd A (cs ++ ds))) : Rd1 L (.rd A cs) := ⟨fun hw => by
  obtain ⟨h1, h2, h3⟩ := h.ok hw
  refine ⟨rfl, fun j v hv => h2 j v ?_, fun k hk => h3 k ⟨fun e => hk.1 (List.append_eq_nil_iff.1 e).1, hk.2⟩⟩
  rw [List.getElem?_append_left (List.getElem?_eq_some_iff.1 hv).1]
  exact hv⟩
instance (L : List Fa) (A : Option Addr) [h : Rd1 L (.rd A (ents L15))] : Rd1 L (.rd A (ents L1)) := rd1_pre (ds := ents (L15.drop 1)) h
end Go.Proofs.YtjhocljhhpkiiaaGreatDoor
/- U82 -/
namespace Go.Proofs.YtjhocljhhpkiiaaGreatDoor
set_option linter.unusedSimpArgs false
set_option linter.unusedVariables false
open Go.RowKit
theorem checkM_ok {l : List Item} {t : Sub} (h : parseM l = .ok t) : checkM l = 0 := by unfold checkM; rw [h]
theorem checkM_bad {l : List Item} {e : Int} (h : parseM l = .error e) : checkM l = e := by unfold checkM; rw [h]
theorem parse_err {l : List Item} {e : Int} (h : parseM l = .error e) : e ≠ 0 := by
  unfold parseM at h
  split at h
  · split at h
    · split at h
      · cases h
      · injection h with h; omega
    · injection h with h; omega
  · injection h with h; omega
end Go.Proofs.YtjhocljhhpkiiaaGreatDoor
/- U124 -/
namespace Go.Proofs.YtjhocljhhpkiiaaGreatDoor
set_option linter.unusedSimpArgs false
set_option linter.unusedVariables false
open Go.RowKit
def decLen (bb : List UInt8) : Nat := match decM bb with
  | .ok l => l.length
  | .error _ => 0
theorem decM_len {bb : List UInt8} {l : List Item} (h : decM bb = .ok l) : l.length ≤ bb.length := by
  unfold decM at h
  split at h
  · cases h
  · split at h
    · cases h
    · split at h
      · cases h
      · rcases hm : itsD (bb.drop 6) with _ | l'
        · rw [hm] at h; cases h
        · rw [hm] at h
          dsimp only at h
          split at h
          · injection h with h
            subst h
            have h1 := itsD_pos hm
            have h2 := lenI_cnt l'
            rw [List.length_drop] at h1
            omega
          · cases h
theorem as_nil (t : Nat) : Spec Tryz.prog 104 [.nilIface, .iface 176 (.pointer (some ⟨t, 0, none⟩))].toArray [] [] (fun _ : Unit => .bool false) (fun _ => []) := by
  refine spec_of Tryz.func104 rfl (n := 42) rfl rfl ?_
  intro W
  refine h_seq ?_
  refine h_reg ?_
  refine h_op (r_assign rfl) ?_
  refine h_nil ?_
  refine q_then ?_
  refine h_seq ?_
  refine h_seq ?_
  refine h_reg ?_
  refine h_op (r_move rfl) ?_
  refine h_op (r_nilnil rfl) ?_
  refine h_nil ?_
  refine q_then ?_
  refine h_condT rfl ?_
  refine h_seq ?_
  refine h_reg ?_
  refine h_op (r_assign rfl) ?_
  refine h_nil ?_
  refine q_then ?_
  refine h_ret ?_
  refine q_thenR ?_
  exact h_ret1 rfl rfl fun w s => ⟨(), rfl, s.res (List.nil_sublist _) (by simp)⟩
section
variable (n : Nat) (hn : n ≤ 256) (h : Zh) [hT : RdZ h (some ⟨1, 0, none⟩) hashT] (gh gc : Nat) (l : List CB) (A : Option Addr) (c : Nat) [hr : RdZ h A (cbs l)] (hz : ClsZ h l) (hvl : ∀ x ∈ l, x.vb.length ≤ 100000000) (hll : l.length ≤ 100000)
include hn hz hvl hll
theorem mVerify_s (k : Nat) (hk : k ≤ 100000000) (root b : Sl) (rb bb : List UInt8) [hRt : SlZ h root rb] [hB : SlZ h b bb] (hbl : bb.length ≤ 900000) : Spec Tryz.prog 50 [.pointer (some ⟨gh, 0, none⟩), .slice root.A root.n root.c, .slice A l.length c, .slice b.A b.n b.c].toArray [HR gh gc n] [.zone true h, CN gc k] (fun u : {u : Nat × Zh × Nat // LeZ h u.2.1 ∧ u.2.2 ≤ k + l.length + decLen bb} => errV (mverR n root rb l bb) u.1.1) (fun u => .zone true u.1.2.1 :: CN gc u.1.2.2 :: errB (mverR n root rb l bb) u.1.1) := by
  have hrn := hRt.len
  have hbn := hB.len
  have hbc := hB.cap
  have hRr : RdZ h root.A (bc rb) := hRt.rd
  have hBr : RdZ h b.A (bc bb) := hB.rd
  obtain ⟨rA, rn, rc⟩ := root
  obtain ⟨bA, bn, bc'⟩ := b
  dsimp only at hrn hbn hbc hRr hBr ⊢
  subst hrn hbn
  obtain ⟨r, hR⟩ : ∃ r, mverR n ⟨rA, rb.length, rc⟩ rb l bb = r := ⟨_, rfl⟩
  rw [hR]
  unfold mverR at hR
  dsimp only at hR
  have hC := mClaims_s h l A c (by omega) hz _ rfl
  refine spec_of Tryz.func50 rfl (n := 42) rfl rfl ?_
  intro W
  by_cases h32 : rb.length = 32
  · rw [if_pos h32] at hR
    refine h_seq ?_
    refine h_reg ?_
    refine h_op (r_assign rfl) ?_
    refine h_nil ?_
    refine q_then ?_
    refine h_seq ?_
    refine h_seq ?_
    refine h_reg ?_
    refine h_op (r_move rfl) ?_
    refine h_op (r_len rfl) ?_
    refine h_op (r_neq rfl rfl) ?_
    refine h_nil ?_
    refine q_then ?_
    refine h_no rfl ((fun hh => hh (show ((rb.length : Nat) : Int) = 32 by omega))) ?_
    refine h_skip ?_
    refine q_then ?_
    refine h_seq ?_
    refine h_reg ?_
    refine h_op (r_move rfl) ?_
    obtain ⟨r1, hr1⟩ : ∃ r1, claimsR l = r1 := ⟨_, rfl⟩
    rw [hr1] at hR hC
    rcases r1 with _ | ⟨i, e⟩
    · replace hC : Spec Tryz.prog 56 [.slice A l.length c].toArray [.zone false h] [] (fun g : Nat => .tuple #[.slice (some ⟨g, 0, none⟩) l.length l.length, .nilIface]) (fun g => [.own (.slice (some ⟨g, 0, none⟩) l.length l.length) l.length 35 32 (dgs (keysC l))]) := hC
      refine h_call (hC.comes) rfl rfl rfl fun g19 => ?_
      refine h_op (r_move rfl) ?_
      refine h_op (r_extract rfl rfl) ?_
      refine h_op (r_extract rfl rfl) ?_
      refine h_op (r_assign rfl) ?_
      refine h_op (r_assign rfl) ?_
      refine h_nil ?_
      refine q_then ?_
      refine h_seq ?_
      refine h_seq ?_
      refine h_reg ?_
      refine h_op (r_move rfl) ?_
      refine h_op (r_nilnn rfl) ?_
      refine h_nil ?_
      refine q_then ?_
      refine h_condF rfl ?_
      refine h_freezeO (.slice (some ⟨g19, 0, none⟩) l.length l.length) fun h2 B2 c2 e2 hle2 hlen2 hnil2 hz2 hr2 => ?_
      injection e2 with e2 _ e3
      subst e2 e3
      have hB2 : RdZ h2 bA (bc bb) := hBr.mono hz2
      have hD := mDecode_s h2 bb hbl bA bc' hbc
      rcases hd : decM bb with e | its0
      · have hne := decM_err hd
        rw [hd] at hR
        obtain rfl : some (0, e) = r := hR
        rw [hd] at hD
        replace hD : Spec Tryz.prog 103 [.slice bA bb.length bc'].toArray [] [.zone true h2] (fun u : {u : Zh × Option Addr × Nat // LeZ h2 u.1 ∧ ∀ l, Except.error e = .ok l → RdZ u.1 u.2.1 (its l) ∧ l.length ≤ u.2.2} => .tuple #[.slice none 0 0, .int .i64 e]) (fun u => [.zone true u.1.1]) := hD
        refine h_skip ?_
        refine q_then ?_
        refine h_seq ?_
        refine h_reg ?_
        refine h_op (r_move rfl) ?_
        refine h_call (hD.comes) rfl rfl rfl fun ⟨⟨h3, A3, c3⟩, hle3, _⟩ => ?_
        dsimp only at hle3 ⊢
        refine h_op (r_move rfl) ?_
        refine h_op (r_extract rfl rfl) ?_
        refine h_op (r_extract rfl rfl) ?_
        refine h_op (r_assign rfl) ?_
        refine h_op (r_assign rfl) ?_
        refine h_nil ?_
        refine q_then ?_
        refine h_seq ?_
        refine h_seq ?_
        refine h_reg ?_
        refine h_op (r_move rfl) ?_
        refine h_op (r_neq rfl rfl) ?_
        refine h_nil ?_
        refine q_then ?_
        refine h_yes rfl (hne) ?_
        refine h_seq ?_
        refine h_reg ?_
        refine h_op (r_move rfl) ?_
        refine h_call ((mFail_s 0 e hne).comes) rfl rfl rfl fun g33 => ?_
        refine h_op (r_assign rfl) ?_
        refine h_nil ?_
        refine q_then ?_
        refine h_ret ?_
        refine q_thenR ?_
        exact h_ret1 rfl rfl fun w s => ⟨⟨(g33, h3, k), hz2.trans hle3, by dsimp only; omega⟩, rfl, (same (L' := [.zone true h3, CN gc k, .blk g33 (fltC batchB 0 e) 178]) w s).res (List.Sublist.refl _) (by simp [Fa.wr, errB])⟩
      · have hil := decM_len hd
        obtain ⟨t, hp⟩ := checkM_parse (decM_ok hd)
        have hdl : decLen bb = its0.length := by unfold decLen; rw [hd]
        rw [hd] at hR
        dsimp only at hR
        rw [hp] at hR
        replace hR : showR n (keyOf rb) l t = r := hR
        rw [hd] at hD
        replace hD : Spec Tryz.prog 103 [.slice bA bb.length bc'].toArray [] [.zone true h2] (fun u : {u : Zh × Option Addr × Nat // LeZ h2 u.1 ∧ ∀ l, Except.ok its0 = .ok l → RdZ u.1 u.2.1 (its l) ∧ l.length ≤ u.2.2} => .tuple #[.slice u.1.2.1 its0.length u.1.2.2, .int .i64 0]) (fun u => [.zone true u.1.1]) := hD
        refine h_skip ?_
        refine q_then ?_
        refine h_seq ?_
        refine h_reg ?_
        refine h_op (r_move rfl) ?_
        refine h_call (hD.comes) rfl rfl rfl fun ⟨⟨h3, A3, c3⟩, hle3, h3i⟩ => ?_
        dsimp only at hle3 h3i ⊢
        obtain ⟨h3r, h3c⟩ := h3i its0 rfl
        have hle := hz2.trans hle3
        have hT3 : RdZ h3 (some ⟨1, 0, none⟩) hashT := hT.mono hle
        have hr3 : RdZ h3 A (cbs l) := hr.mono hle
        have hK3 : RdZ h3 (some ⟨g19, 0, none⟩) (dgs (keysC l)) := hr2.mono hle3
        have hRr3 : RdZ h3 rA (keyOf rb).cells := by rw [keyOf_cells h32]; exact hRr.mono hle
        have hS := show_s n hn h3 gh gc l A c (hz.mono hle) hvl hll (some ⟨g19, 0, none⟩) l.length (Nat.le_refl _) k hk (keyOf rb) hr1 its0 A3 c3 h3c (by omega) t hp
        rw [hR] at hS
        obtain ⟨bR, oR, rfl, -⟩ := hRr3.at_ 0 _ (List.getElem?_eq_getElem (by rw [B32.cells_length]; decide))
        refine h_op (r_move rfl) ?_
        refine h_op (r_extract rfl rfl) ?_
        refine h_op (r_extract rfl rfl) ?_
        refine h_op (r_assign rfl) ?_
        refine h_op (r_assign rfl) ?_
        refine h_nil ?_
        refine q_then ?_
        refine h_seq ?_
        refine h_seq ?_
        refine h_reg ?_
        refine h_op (r_move rfl) ?_
        refine h_op (r_neq rfl rfl) ?_
        refine h_nil ?_
        refine q_then ?_
        refine h_no rfl ((fun h => h rfl)) ?_
        refine h_skip ?_
        refine q_then ?_
        refine h_seq ?_
        refine h_reg ?_
        refine h_op (r_move rfl) ?_
        refine h_op (r_move rfl) ?_
        refine h_op (r_arr rfl (hm := show 32 ≤ rb.length by omega)) ?_
        refine h_op (r_loadr rfl) ?_
        refine h_op (r_move rfl) ?_
        refine h_op (r_move rfl) ?_
        refine h_op (r_move rfl) ?_
        refine h_call (hS.comes) rfl rfl rfl fun ⟨⟨g41, h4, k4⟩, hle4, hk4⟩ => ?_
        dsimp only at hle4 hk4 ⊢
        rcases r with _ | ⟨i9, e9⟩
        · change H _ _ _ _ _ (.zone true h4 :: CN gc k4 :: _) _
          refine h_op (r_assign rfl) ?_
          refine h_nil ?_
          refine q_then ?_
          refine h_ret ?_
          exact h_ret1 rfl rfl fun w s => ⟨⟨(0, h4, k4), hle.trans hle4, by dsimp only; omega⟩, rfl, (same (L' := [.zone true h4, CN gc k4]) w s).res (List.Sublist.refl _) (by simp [Fa.wr, errB])⟩
        · change H _ _ _ _ _ (.zone true h4 :: CN gc k4 :: .blk g41 (fltC batchB (i9 : Int) e9) _ :: _) _
          refine h_op (r_assign rfl) ?_
          refine h_nil ?_
          refine q_then ?_
          refine h_ret ?_
          exact h_ret1 rfl rfl fun w s => ⟨⟨(g41, h4, k4), hle.trans hle4, by dsimp only; omega⟩, rfl, (same (L' := [.zone true h4, CN gc k4, .blk g41 (fltC batchB (i9 : Int) e9) 178]) w s).res (List.Sublist.refl _) (by simp [Fa.wr, errB])⟩
    · replace hC : Spec Tryz.prog 56 [.slice A l.length c].toArray [.zone false h] [] (fun g : Nat => .tuple #[.slice none 0 0, .iface 174 (.pointer (some ⟨g, 0, none⟩))]) (fun g => [.blk g (fltC batchB (i : Int) e) 178]) := hC
      obtain rfl : some (i, e) = r := hR
      refine h_call (hC.comes) rfl rfl rfl fun g19 => ?_
      refine h_op (r_move rfl) ?_
      refine h_op (r_extract rfl rfl) ?_
      refine h_op (r_extract rfl rfl) ?_
      refine h_op (r_assign rfl) ?_
      refine h_op (r_assign rfl) ?_
      refine h_nil ?_
      refine q_then ?_
      refine h_seq ?_
      refine h_seq ?_
      refine h_reg ?_
      refine h_op (r_move rfl) ?_
      refine h_op (r_ifnn rfl) ?_
      refine h_nil ?_
      refine q_then ?_
      refine h_condT rfl ?_
      refine h_seq ?_
      refine h_reg ?_
      refine h_op (r_move rfl) ?_
      refine h_op (r_assign rfl) ?_
      refine h_nil ?_
      refine q_then ?_
      refine h_ret ?_
      refine q_thenR ?_
      exact h_ret1 rfl rfl fun w s => ⟨⟨(g19, h, k), LeZ.refl h, by dsimp only; omega⟩, rfl, (same (L' := [.zone true h, CN gc k, .blk g19 (fltC batchB (i : Int) e) 178]) w s).res (List.Sublist.refl _) (by simp [Fa.wr, errB])⟩
  · rw [if_neg h32] at hR
    subst hR
    refine h_seq ?_
    refine h_reg ?_
    refine h_op (r_assign rfl) ?_
    refine h_nil ?_
    refine q_then ?_
    refine h_seq ?_
    refine h_seq ?_
    refine h_reg ?_
    refine h_op (r_move rfl) ?_
    refine h_op (r_len rfl) ?_
    refine h_op (r_neq rfl rfl) ?_
    refine h_nil ?_
    refine q_then ?_
    refine h_yes rfl ((show ¬ ((rb.length : Nat) : Int) = 32 by omega)) ?_
    refine h_seq ?_
    refine h_reg ?_
    refine h_call ((mFail_s 0 4 (by decide)).comes) rfl rfl rfl fun g16 => ?_
    refine h_op (r_assign rfl) ?_
    refine h_nil ?_
    refine q_then ?_
    refine h_ret ?_
    refine q_thenR ?_
    exact h_ret1 rfl rfl fun w s => ⟨⟨(g16, h, k), LeZ.refl h, by dsimp only; omega⟩, rfl, (same (L' := [.zone true h, CN gc k, .blk g16 (fltC batchB 0 4) 178]) w s).res (List.Sublist.refl _) (by simp [Fa.wr, errB])⟩
theorem mvCheck_s [hE : RdZ h (some ⟨0, 0, none⟩) [rty 90]] (k : Nat) (hk : k ≤ 100000000) (root b : Sl) (rb bb : List UInt8) [hRt : SlZ h root rb] [hB : SlZ h b bb] (hbl : bb.length ≤ 900000) : Spec Tryz.prog 54 [.pointer (some ⟨gh, 0, none⟩), .slice root.A root.n root.c, .slice A l.length c, .slice b.A b.n b.c].toArray [HR gh gc n] [.zone true h, CN gc k] (fun u : {u : Zh × Nat // LeZ h u.1 ∧ u.2 ≤ k + l.length + decLen bb} => .int .i64 (errE (mverR n root rb l bb))) (fun u => [.zone true u.1.1, CN gc u.1.2]) := by
  have hV := mVerify_s n hn h gh gc l A c hz hvl hll k hk root b rb bb hbl
  generalize mverR n root rb l bb = r at hV ⊢
  rcases r with _ | ⟨i, e⟩
  · replace hV : Spec Tryz.prog 50 [.pointer (some ⟨gh, 0, none⟩), .slice root.A root.n root.c, .slice A l.length c, .slice b.A b.n b.c].toArray [HR gh gc n] [.zone true h, CN gc k] (fun u : {u : Nat × Zh × Nat // LeZ h u.2.1 ∧ u.2.2 ≤ k + l.length + decLen bb} => .nilIface) (fun u => [.zone true u.1.2.1, CN gc u.1.2.2]) := hV
    refine spec_of Tryz.func54 rfl (n := 21) rfl rfl ?_
    intro W
    refine h_seq ?_
    refine h_reg ?_
    refine h_op (r_assign rfl) ?_
    refine h_nil ?_
    refine q_then ?_
    refine h_seq ?_
    refine h_reg ?_
    refine h_opX (x_alloc) fun g9 => ?_
    refine h_nil ?_
    refine q_then ?_
    refine h_seq ?_
    refine h_seq ?_
    refine h_reg ?_
    refine h_op (r_move rfl) ?_
    refine h_op (r_move rfl) ?_
    refine h_op (r_move rfl) ?_
    refine h_op (r_move rfl) ?_
    refine h_call (hV.comes) rfl rfl rfl fun ⟨⟨g14, z, k'⟩, hz', hk'⟩ => ?_
    dsimp only at hz' hk' ⊢
    refine h_op (r_mkI rfl) ?_
    refine h_call ((as_nil g9).comes) rfl rfl rfl fun _ => ?_
    refine h_op (r_not rfl) ?_
    refine h_nil ?_
    refine q_then ?_
    refine h_condT rfl ?_
    refine h_seq ?_
    refine h_reg ?_
    refine h_op (r_assign rfl) ?_
    refine h_nil ?_
    refine q_then ?_
    refine h_ret ?_
    refine q_thenR ?_
    exact h_ret1 rfl rfl fun w s => ⟨⟨(z, k'), hz', hk'⟩, rfl, (same (L' := [.zone true z, CN gc k']) w s).res (List.Sublist.refl _) (by simp [Fa.wr])⟩
  · replace hV : Spec Tryz.prog 50 [.pointer (some ⟨gh, 0, none⟩), .slice root.A root.n root.c, .slice A l.length c, .slice b.A b.n b.c].toArray [HR gh gc n] [.zone true h, CN gc k] (fun u : {u : Nat × Zh × Nat // LeZ h u.2.1 ∧ u.2.2 ≤ k + l.length + decLen bb} => .iface 174 (.pointer (some ⟨u.1.1, 0, none⟩))) (fun u => [.zone true u.1.2.1, CN gc u.1.2.2, .blk u.1.1 (fltC batchB (i : Int) e) 178]) := hV
    refine spec_of Tryz.func54 rfl (n := 21) rfl rfl ?_
    intro W
    refine h_seq ?_
    refine h_reg ?_
    refine h_op (r_assign rfl) ?_
    refine h_nil ?_
    refine q_then ?_
    refine h_seq ?_
    refine h_reg ?_
    refine h_opX (x_alloc) fun g9 => ?_
    refine h_nil ?_
    refine q_then ?_
    refine h_seq ?_
    refine h_seq ?_
    refine h_reg ?_
    refine h_op (r_move rfl) ?_
    refine h_op (r_move rfl) ?_
    refine h_op (r_move rfl) ?_
    refine h_op (r_move rfl) ?_
    refine h_call (hV.comes) rfl rfl rfl fun ⟨⟨g14, z, k'⟩, hz', hk'⟩ => ?_
    dsimp only at hz' hk' ⊢
    have hEz : RdZ z (some ⟨0, 0, none⟩) [rty 90] := hE.mono hz'
    refine h_op (r_mkI rfl) ?_
    refine h_call ((as_s1 g14 g9).comes) rfl rfl rfl fun _ => ?_
    refine h_op (r_not rfl) ?_
    refine h_nil ?_
    refine q_then ?_
    refine h_condF rfl ?_
    refine h_skip ?_
    refine q_then ?_
    refine h_seq ?_
    refine h_reg ?_
    refine h_op (r_loadc rfl) ?_
    refine h_op (r_mkI rfl) ?_
    refine h_call ((Code_s g14 batchB (i : Int) e).comes) rfl rfl rfl fun _ => ?_
    refine h_op (r_assign rfl) ?_
    refine h_nil ?_
    refine q_then ?_
    refine h_ret ?_
    exact h_ret1 rfl rfl fun w s => ⟨⟨(z, k'), hz', hk'⟩, rfl, (same (L' := [.zone true z, CN gc k']) w s).res (List.Sublist.refl _) (by simp [Fa.wr])⟩
/-- whether decoded items show claims -/
def accM (n : Nat) (root : B32) (l : List CB) (its0 : List Item) : Bool := decide (claimsR l = none) && match parseM its0 with
  | .ok t => decide (showR n root l t = none)
  | .error _ => false
theorem mvAccepts_s (k : Nat) (hk : k ≤ 100000000) (root : B32) (its0 : List Item) (I : Option Addr) (ic : Nat) [hI : RdZ h I (its its0)] (hic : its0.length ≤ ic) (hil : its0.length ≤ 1000000) : Spec Tryz.prog 46 [.pointer (some ⟨gh, 0, none⟩), .agg root.cells.toArray, .slice A l.length c, .slice I its0.length ic].toArray [HR gh gc n] [.zone true h, CN gc k] (fun u : {u : Zh × Nat // LeZ h u.1 ∧ u.2 ≤ k + l.length + its0.length} => .bool (accM n root l its0)) (fun u => [.zone true u.1.1, CN gc u.1.2]) := by
  have hC := mClaims_s h l A c (by omega) hz _ rfl
  refine spec_of Tryz.func46 rfl (n := 32) rfl rfl ?_
  intro W
  refine h_seq ?_
  refine h_reg ?_
  refine h_opX (x_box rfl) fun g5 => ?_
  refine h_op (r_assign rfl) ?_
  refine h_nil ?_
  refine q_then ?_
  refine h_seq ?_
  refine h_reg ?_
  refine h_op (r_move rfl) ?_
  obtain ⟨r1, hr1⟩ : ∃ r1, claimsR l = r1 := ⟨_, rfl⟩
  rw [hr1] at hC
  rcases r1 with _ | ⟨i, e⟩
  · replace hC : Spec Tryz.prog 56 [.slice A l.length c].toArray [.zone false h] [] (fun g : Nat => .tuple #[.slice (some ⟨g, 0, none⟩) l.length l.length, .nilIface]) (fun g => [.own (.slice (some ⟨g, 0, none⟩) l.length l.length) l.length 35 32 (dgs (keysC l))]) := hC
    refine h_call (hC.comes) rfl rfl rfl fun g13 => ?_
    refine h_freezeO (.slice (some ⟨g13, 0, none⟩) l.length l.length) fun h2 B2 c2 e2 hle2 hlen2 hnil2 hz2 hr2 => ?_
    injection e2 with e2 _ e3
    subst e2 e3
    have hT2 : RdZ h2 (some ⟨1, 0, none⟩) hashT := hT.mono hz2
    have hr2' : RdZ h2 A (cbs l) := hr.mono hz2
    have hI2 : RdZ h2 I (its its0) := hI.mono hz2
    have hM := mCheck_s h2 its0 I ic hic hil
    rcases hp : parseM its0 with e | t
    · have hne := parse_err hp
      rw [checkM_bad hp] at hM
      rw [show accM n root l its0 = false by unfold accM; rw [hp]; exact Bool.and_false _]
      refine h_op (r_move rfl) ?_
      refine h_op (r_extract rfl rfl) ?_
      refine h_op (r_extract rfl rfl) ?_
      refine h_op (r_assign rfl) ?_
      refine h_op (r_assign rfl) ?_
      refine h_nil ?_
      refine q_then ?_
      refine h_seq ?_
      refine h_reg ?_
      refine h_op (r_move rfl) ?_
      refine h_op (r_nilnil rfl) ?_
      refine h_op (r_move rfl) ?_
      refine h_op (r_move rfl) ?_
      refine h_call (hM.comes) rfl rfl rfl fun _ => ?_
      refine h_op (r_bool (r_eql rfl rfl) (decide_eq_false hne)) ?_
      refine h_op (r_pick rfl rfl) ?_
      refine h_op (r_move rfl) ?_
      refine h_opOff ?_
      refine h_opOff ?_
      refine h_opOff ?_
      refine h_opOff ?_
      refine h_opOff ?_
      refine h_opOff ?_
      refine h_opOff ?_
      refine h_op (r_pick rfl rfl) ?_
      refine h_op (r_assign rfl) ?_
      refine h_nil ?_
      refine q_then ?_
      refine h_ret ?_
      exact h_ret1 rfl rfl fun w s => ⟨⟨(h2, k), hz2, by dsimp only; omega⟩, rfl, (same (L' := [.zone true h2, CN gc k]) w s).res (List.Sublist.refl _) (by simp [Fa.wr])⟩
    · rw [checkM_ok hp] at hM
      have hS := show_s n hn h2 gh gc l A c (hz.mono hz2) hvl hll (some ⟨g13, 0, none⟩) l.length (Nat.le_refl _) k hk root hr1 its0 I ic hic hil t hp
      have ha : accM n root l its0 = decide (showR n root l t = none) := by unfold accM; rw [hp, decide_eq_true hr1]; exact Bool.true_and _
      rw [ha]
      generalize showR n root l t = r at *
      refine h_op (r_move rfl) ?_
      refine h_op (r_extract rfl rfl) ?_
      refine h_op (r_extract rfl rfl) ?_
      refine h_op (r_assign rfl) ?_
      refine h_op (r_assign rfl) ?_
      refine h_nil ?_
      refine q_then ?_
      refine h_seq ?_
      refine h_reg ?_
      refine h_op (r_move rfl) ?_
      refine h_op (r_nilnil rfl) ?_
      refine h_op (r_move rfl) ?_
      refine h_op (r_move rfl) ?_
      refine h_call (hM.comes) rfl rfl rfl fun _ => ?_
      refine h_op (r_bool (r_eql rfl rfl) (decide_eq_true rfl)) ?_
      refine h_op (r_pick rfl rfl) ?_
      refine h_op (r_move rfl) ?_
      refine h_op (r_move rfl) ?_
      refine h_op (r_loadr rfl) ?_
      refine h_op (r_move rfl) ?_
      refine h_op (r_move rfl) ?_
      refine h_op (r_move rfl) ?_
      refine h_call (hS.comes) rfl rfl rfl fun ⟨⟨g29, h3, k3⟩, hle3, hk3⟩ => ?_
      dsimp only at hle3 hk3 ⊢
      rcases r with _ | ⟨i9, e9⟩
      · change H _ _ _ _ _ (.zone true h3 :: CN gc k3 :: _) _
        refine h_op (r_nilnil rfl) ?_
        refine h_op (r_pick rfl rfl) ?_
        refine h_op (r_assign rfl) ?_
        refine h_nil ?_
        refine q_then ?_
        refine h_ret ?_
        exact h_ret1 rfl rfl fun w s => ⟨⟨(h3, k3), hz2.trans hle3, by dsimp only; omega⟩, rfl, (same (L' := [.zone true h3, CN gc k3]) w s).res (List.Sublist.refl _) (by simp [Fa.wr])⟩
      · change H _ _ _ _ _ (.zone true h3 :: CN gc k3 :: .blk g29 (fltC batchB (i9 : Int) e9) _ :: _) _
        refine h_op (r_ifnil rfl) ?_
        refine h_op (r_pick rfl rfl) ?_
        refine h_op (r_assign rfl) ?_
        refine h_nil ?_
        refine q_then ?_
        refine h_ret ?_
        exact h_ret1 rfl rfl fun w s => ⟨⟨(h3, k3), hz2.trans hle3, by dsimp only; omega⟩, rfl, (same (L' := [.zone true h3, CN gc k3]) w s).res (List.Sublist.refl _) (by simp [Fa.wr])⟩
  · replace hC : Spec Tryz.prog 56 [.slice A l.length c].toArray [.zone false h] [] (fun g : Nat => .tuple #[.slice none 0 0, .iface 174 (.pointer (some ⟨g, 0, none⟩))]) (fun g => [.blk g (fltC batchB (i : Int) e) 178]) := hC
    rw [show accM n root l its0 = false by unfold accM; rw [hr1, decide_eq_false (by simp)]; rfl]
    refine h_call (hC.comes) rfl rfl rfl fun g13 => ?_
    refine h_op (r_move rfl) ?_
    refine h_op (r_extract rfl rfl) ?_
    refine h_op (r_extract rfl rfl) ?_
    refine h_op (r_assign rfl) ?_
    refine h_op (r_assign rfl) ?_
    refine h_nil ?_
    refine q_then ?_
    refine h_seq ?_
    refine h_reg ?_
    refine h_op (r_move rfl) ?_
    refine h_op (r_ifnil rfl) ?_
    refine h_op (r_move rfl) ?_
    refine h_opOff ?_
    refine h_opOff ?_
    refine h_opOff ?_
    refine h_op (r_pick rfl rfl) ?_
    refine h_op (r_move rfl) ?_
    refine h_opOff ?_
    refine h_opOff ?_
    refine h_opOff ?_
    refine h_opOff ?_
    refine h_opOff ?_
    refine h_opOff ?_
    refine h_opOff ?_
    refine h_op (r_pick rfl rfl) ?_
    refine h_op (r_assign rfl) ?_
    refine h_nil ?_
    refine q_then ?_
    refine h_ret ?_
    exact h_ret1 rfl rfl fun w s => ⟨⟨(h, k), LeZ.refl h, by dsimp only; omega⟩, rfl, (same (L' := [.zone true h, CN gc k]) w s).res (List.Sublist.refl _) (by simp [Fa.wr])⟩
end
end Go.Proofs.YtjhocljhhpkiiaaGreatDoor
