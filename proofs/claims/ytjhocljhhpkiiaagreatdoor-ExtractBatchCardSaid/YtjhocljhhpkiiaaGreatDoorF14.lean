/- mverify: fail, first over claims and over keys, Claims; mverify: Claims; The zero proof is well-formed; law16.alive: it is true; law16: FoldLeads is true; A proof's bytes, decoded; a claim against a map's proof: plain; The bytes of a multiproof decode to it: plain; The ends of keys, read: where what stands; What mverify computes: plain; mverify: show; mverify: show, all of it; multi.add, the cases of one item; multi.add: all trees; multi.Prove; multiproofs: the reference's Same; law19.Few; law15.alive: it is true; law19.alive: it is true; law19: MultiChecks, MultiRoots are true; mverify: Verify, Check, Accepts; law20.alive: it is true; The example of chapter 21: plain; law19: MultiLeads is true; The reference: claims' form, keys; slices.Equal of keys; A map's multiproof, against claims about the map: plain (joined texts: U119 U120 U26z U27 U55 E25 E28 E22 E30 U122 U123 U72 U73 U74 U79 U47 U81 U82 U124 U114 E31 U86 U125 E32) -/
import Derived.Test.YtjhocljhhpkiiaaGreatDoorF13
set_option linter.all false
/- U119 -/
namespace Go.Proofs.YtjhocljhhpkiiaaGreatDoor
open Go.RowKit
def batchB : ByteArray := ⟨#[98, 97, 116, 99, 104]⟩
def errB : Option (Nat × Int) → Nat → List Fa
 | none, _ => []
 | some (i, e), g => [.blk g (fltC batchB (i : Int) e) 178]
theorem mFail_no (i : Int) : Spec Tryz.prog 102 [.int .i64 i, .int .i64 0].toArray [] [] (fun _ : Unit => .nilIface) (fun _ => []) := by
 refine spec_of Tryz.func102 rfl (n := 11) rfl rfl ?_
 intro W
 refine yR ?_
 refine yS rfl ?_
 refine yN ?_
 refine h_seq ?_
 refine yR ?_
 refine yM rfl ?_
 refine h_op (r_eql rfl rfl) ?_
 refine yN ?_
 refine h_condT rfl ?_
 refine yR ?_
 refine yS rfl ?_
 refine yN ?_
 refine h_ret ?_
 refine q_thenR ?_
 exact h_ret1 rfl rfl fun w s => ⟨(), rfl, s.res (List.nil_sublist _) (by simp)⟩
theorem mFail_s (i : Int) (e : Int) (he : e ≠ 0) : Spec Tryz.prog 102 [.int .i64 i, .int .i64 e].toArray [] [] (fun g : Nat => .iface 174 (.pointer (some ⟨g, 0, none⟩))) (fun g => [.blk g (fltC batchB i e) 178]) := by
 refine spec_of Tryz.func102 rfl (n := 11) rfl rfl ?_
 intro W
 refine yR ?_
 refine yS rfl ?_
 refine yN ?_
 refine h_seq ?_
 refine yR ?_
 refine yM rfl ?_
 refine h_op (r_eql rfl rfl) ?_
 refine yN ?_
 refine h_no rfl (he) ?_
 refine h_skip ?_
 refine q_then ?_
 refine yR ?_
 refine yM rfl ?_
 refine yM rfl ?_
 refine h_op (r_mkI rfl) ?_
 refine h_call ((fNew_s batchB i e).comes) rfl rfl rfl fun g10 => ?_
 refine yS rfl ?_
 refine yN ?_
 refine h_ret ?_
 exact h_ret1 rfl rfl fun w s => ⟨g10, rfl, (same (L' := [.blk g10 (fltC batchB i e) 178]) w s).res (List.Sublist.refl _) (by simp [Fa.wr])⟩
theorem claims1_s (i : Int) (c : Claim) : Spec Tryz.prog 108 [.int .i64 i, .agg c.cells.toArray].toArray [] [] (fun _ : Unit => .int .i64 (claimE c)) (fun _ => []) := by
 refine spec_of Tryz.func108 rfl (n := 7) rfl rfl ?_
 intro W
 refine yR ?_
 refine h_opX (x_box rfl) fun g3 => ?_
 refine yS rfl ?_
 refine yN ?_
 refine yR ?_
 refine h_op (r_loadr rfl) ?_
 refine h_call ((Claim_s c).comes) rfl rfl rfl fun _ => ?_
 refine yS rfl ?_
 refine yN ?_
 refine h_ret ?_
 exact h_ret1 rfl rfl fun w s => ⟨(), rfl, s.res (List.nil_sublist _) (by simp)⟩
theorem first1_s (h : Zh) (l : List CB) (A : Option Addr) (c : Nat) [hr : RdZ h A (cbs l)] (hl : l.length ≤ 1000000000) (r : Option (Nat × Int)) (hR : firstF (fun i => claimE (l.getD i zCB).c) l.length 0 = r) : Spec Tryz.prog 107 [.slice A l.length c, .func (.func 108) #[] #[]].toArray [.zone false h] [] (fun g : Nat => errV r g) (fun g => errB r g) := by
 refine spec_of Tryz.func107 rfl (n := 25) rfl rfl ?_
 intro W
 refine yR ?_
 refine yS rfl ?_
 refine yN ?_
 refine h_seq ?_
 refine yR ?_
 refine yM rfl ?_
 refine h_op (r_len rfl) ?_
 refine yM rfl ?_
 refine yN ?_
 refine h_block ?_
 refine h_loop (fun (i : Nat) => i ≤ l.length ∧ ∀ j, j < i → claimE (l.getD j zCB).c = 0) (fun (i : Nat) => [(10, .int .i64 (i : Int)), (9, .int .i64 (l.length : Int)), (8, .slice A l.length c), (1, .func (.func 108) #[] #[])]) (fun (i : Nat) => [.zone false h]) (fun (i : Nat) => l.length - i) 0 (⟨Nat.zero_le _, fun j hj => absurd hj (Nat.not_lt_zero _)⟩) ⟨rfl, rfl, rfl, rfl, trivial⟩ (same) ?_
 rintro i ⟨hi, hz⟩
 refine yR ?_
 refine h_op (r_lss rfl rfl) ?_
 refine yN ?_
 refine h_seq ?_
 refine h_cond rfl (fun hlt => ?_) (fun hlt => ?_)
 ·have hi2 : i < l.length := by omega
  have hx := getD_get zCB hi2
  have hz0 : ∀ j, 0 ≤ j → j < i → claimE (l.getD j zCB).c = 0 := fun j _ hj => hz j hj
  obtain ⟨b, o, rfl, -⟩ := hr.at_ (i * 3) _ (cbs_at hx 0 _ rfl)
  have hs := firstF_some (fun i => claimE (l.getD i zCB).c) i
  generalize l.getD i zCB = x at *
  refine h_skip ?_
  refine q_then ?_
  refine h_seq ?_
  refine h_block ?_
  refine yR ?_
  refine yM rfl ?_
  refine h_op (r_idx rfl rfl) ?_
  refine h_op (r_nthr rfl (out := x.c.cells) (Claim.cells_length _) (cbs_at hx)) ?_
  refine h_opX (x_alloc) fun g6 => ?_
  refine yS rfl ?_
  refine h_opS (s_storer rfl rfl) ?_
  refine yN ?_
  refine yR ?_
  refine yM rfl ?_
  refine yM rfl ?_
  refine yM rfl ?_
  refine h_op (r_loadr rfl) ?_
  refine h_call ((claims1_s (i : Int) x.c).comes) rfl rfl rfl fun _ => ?_
  by_cases h0 : claimE x.c = 0
  ·rw [h0]
   refine h_call ((mFail_no (i : Int)).comes) rfl rfl rfl fun _ => ?_
   refine yS rfl ?_
   refine yN ?_
   refine yR ?_
   refine yM rfl ?_
   refine h_op (r_nilnn rfl) ?_
   refine yN ?_
   refine h_condF rfl ?_
   refine h_skip ?_
   refine q_block ?_
   refine q_then ?_
   refine h_reg ?_
   refine h_op (r_add rfl rfl) ?_
   refine yM rfl ?_
   refine h_nil ?_
   exact h_back (i + 1) (⟨hi2, fun j hj => (Nat.lt_or_ge j i).elim (hz j) fun h8 => by (obtain rfl : j = i := by omega); rw [List.getD_eq_getElem?_getD, hx]; exact h0⟩) ((show l.length - (i + 1) < l.length - i by omega)) ⟨rfl, rfl, rfl, rfl, trivial⟩ (same)
  ·have hxe : (l.getD i zCB) = x := by rw [List.getD_eq_getElem?_getD, hx]; rfl
   obtain rfl : some (i, claimE x.c) = r := by rw [← hR, firstF_some (fun i => claimE (l.getD i zCB).c) i (by rw [hxe]; exact h0) l.length 0 (Nat.zero_le _) (by omega) hz0, hxe]
   refine h_call ((mFail_s (i : Int) (claimE x.c) h0).comes) rfl rfl rfl fun g20 => ?_
   refine yS rfl ?_
   refine yN ?_
   refine yR ?_
   refine yM rfl ?_
   refine h_op (r_ifnn rfl) ?_
   refine yN ?_
   refine h_condT rfl ?_
   refine yR ?_
   refine yM rfl ?_
   refine yS rfl ?_
   refine yN ?_
   refine h_ret ?_
   refine q_blockR ?_
   refine q_thenR ?_
   refine q_thenR ?_
   refine q_blockR ?_
   refine q_thenR ?_
   exact h_ret1 rfl rfl fun w s => ⟨g20, rfl, (same (L' := [.blk g20 (fltC batchB (i : Int) (claimE x.c)) 178]) w s).res (List.Sublist.refl _) (by simp [Fa.wr, errB])⟩
 ·obtain rfl : i = l.length := by omega
  obtain rfl : none = r := by rw [← hR, firstF_none _ _ _ (fun j _ hj => hz j (by omega))]
  refine h_exit ?_
  refine q_thenE ?_
  refine q_thenE ?_
  refine q_blockE ?_
  refine q_then ?_
  refine yR ?_
  refine yS rfl ?_
  refine yN ?_
  refine h_ret ?_
  exact h_ret1 rfl rfl fun w s => ⟨0, rfl, s.res (List.nil_sublist _) (by simp [errB])⟩
theorem claims2_s (ks : List B32) (B : Option Addr) (cc : Nat) (g i : Nat) (hi : i < ks.length) (hl : ks.length ≤ 1000000000) : Spec Tryz.prog 110 [.int .i64 (i : Int), .agg (ks.getD i zB32).cells.toArray, .pointer (some ⟨g, 0, none⟩)].toArray [.rd (some ⟨g, 0, none⟩) [.slice B ks.length cc], .rd B (dgs ks)] [] (fun _ : Unit => .int .i64 (neighE ks i)) (fun _ => []) := by
 refine spec_of Tryz.func110 rfl (n := 27) rfl rfl ?_
 intro W
 refine yR ?_
 refine h_opX (x_box rfl) fun g4 => ?_
 refine yS rfl ?_
 refine yN ?_
 refine h_seq ?_
 refine h_block ?_
 refine h_seq ?_
 rcases i with _ | m
 ·refine ha_start [.rd (some ⟨g, 0, none⟩) [.slice B ks.length cc]] [] mixed (same) ?_
  refine ha_takeP 0 rfl (r_move rfl) ?_
  refine ha_takeP 1 rfl (r_bool (r_eql rfl rfl) rfl) ?_
  refine ha_takeP 2 rfl (r_move rfl) ?_
  refine ha_off 3 rfl ?_
  refine ha_off 4 rfl ?_
  refine ha_off 5 rfl ?_
  refine ha_off 6 rfl ?_
  refine ha_off 7 rfl ?_
  refine ha_off 8 rfl ?_
  refine ha_off 9 rfl ?_
  refine ha_off 10 rfl ?_
  refine ha_takeP 11 rfl (r_pick rfl rfl) ?_
  refine ha_takeP 12 rfl (r_assign rfl) ?_
  refine ha_done (by kernel_rfl) ?_
  refine q_then ?_
  refine h_condT rfl ?_
  refine yR ?_
  refine yS rfl ?_
  refine yN ?_
  refine h_ret ?_
  refine q_blockR ?_
  refine q_thenR ?_
  exact h_ret1 rfl rfl fun w s => ⟨(), rfl, s.res (List.nil_sublist _) (by simp)⟩
 ·have hn : neighE ks (m + 1) = if cmpB (ks.getD m zB32) (ks.getD (m + 1) zB32) < 0 then 0 else if ks.getD m zB32 = ks.getD (m + 1) zB32 then 9 else 8 := rfl
  have h1 := dgs_at (l := ks) (k := m) (by omega)
  rw [hn]
  generalize ks.getD (m + 1) zB32 = y at *
  generalize ks.getD m zB32 = x at *
  refine h_pure (φ := ∃ b o, B = some ⟨b, o, none⟩) (fun w s => Rd.some (s.ok (.rd B (dgs ks)) (by simp)) (by rw [dgs_len]; omega)) ?_
  rintro ⟨b, o, rfl⟩
  by_cases hc : cmpB x y < 0
  ·rw [if_pos hc]
   refine ha_start [.blk g4 y.cells 35, .rd (some ⟨g, 0, none⟩) [.slice (some ⟨b, o, none⟩) ks.length cc], .rd (some ⟨b, o, none⟩) (dgs ks)] [] mixed (same) ?_
   refine ha_takeP 0 rfl (r_move rfl) ?_
   refine ha_takeP 1 rfl (r_bool (r_eql rfl rfl) (decide_eq_false (by omega))) ?_
   refine ha_takeP 2 rfl (r_move rfl) ?_
   refine ha_take 3 rfl (r_loadc rfl) ?_
   refine ha_takeP 4 rfl (r_move rfl) ?_
   refine ha_takeP 5 rfl (r_subN rfl rfl (m := m) (hm := by omega)) ?_
   refine ha_takeP 6 rfl (r_idx rfl rfl) ?_
   refine ha_take 7 rfl (r_nthr rfl (out := x.cells) (B32.cells_length _) h1) ?_
   refine ha_take 8 rfl (r_loadr rfl) ?_
   refine ha_one 9 ?_
   refine ho_C 9 rfl ((kCompare_s x y).comes) rfl rfl rfl (fun xx => same) fun _ => ?_
   refine ha_takeP 10 rfl (r_bool (r_lss rfl rfl) (decide_eq_true hc)) ?_
   refine ha_takeP 11 rfl (r_pick rfl rfl) ?_
   refine ha_takeP 12 rfl (r_assign rfl) ?_
   refine ha_done (by kernel_rfl) ?_
   refine q_then ?_
   refine h_condT rfl ?_
   refine yR ?_
   refine yS rfl ?_
   refine yN ?_
   refine h_ret ?_
   refine q_blockR ?_
   refine q_thenR ?_
   exact h_ret1 rfl rfl fun w s => ⟨(), rfl, s.res (List.nil_sublist _) (by simp)⟩
  ·rw [if_neg hc]
   refine ha_start [.blk g4 y.cells 35, .rd (some ⟨g, 0, none⟩) [.slice (some ⟨b, o, none⟩) ks.length cc], .rd (some ⟨b, o, none⟩) (dgs ks)] [] mixed (same) ?_
   refine ha_takeP 0 rfl (r_move rfl) ?_
   refine ha_takeP 1 rfl (r_bool (r_eql rfl rfl) (decide_eq_false (by omega))) ?_
   refine ha_takeP 2 rfl (r_move rfl) ?_
   refine ha_take 3 rfl (r_loadc rfl) ?_
   refine ha_takeP 4 rfl (r_move rfl) ?_
   refine ha_takeP 5 rfl (r_subN rfl rfl (m := m) (hm := by omega)) ?_
   refine ha_takeP 6 rfl (r_idx rfl rfl) ?_
   refine ha_take 7 rfl (r_nthr rfl (out := x.cells) (B32.cells_length _) h1) ?_
   refine ha_take 8 rfl (r_loadr rfl) ?_
   refine ha_one 9 ?_
   refine ho_C 9 rfl ((kCompare_s x y).comes) rfl rfl rfl (fun xx => same) fun _ => ?_
   refine ha_takeP 10 rfl (r_bool (r_lss rfl rfl) (decide_eq_false hc)) ?_
   refine ha_takeP 11 rfl (r_pick rfl rfl) ?_
   refine ha_takeP 12 rfl (r_assign rfl) ?_
   refine ha_done (by kernel_rfl) ?_
   refine q_then ?_
   refine h_condF rfl ?_
   refine h_seq ?_
   by_cases he : x = y
   ·rw [if_pos he]
    refine ha_start [.blk g4 y.cells 35, .rd (some ⟨g, 0, none⟩) [.slice (some ⟨b, o, none⟩) ks.length cc], .rd (some ⟨b, o, none⟩) (dgs ks)] [] mixed (same) ?_
    refine ha_take 0 rfl (r_loadc rfl) ?_
    refine ha_takeP 1 rfl (r_move rfl) ?_
    refine ha_takeP 2 rfl (r_subN rfl rfl (m := m) (hm := by omega)) ?_
    refine ha_takeP 3 rfl (r_idx rfl rfl) ?_
    refine ha_take 4 rfl (r_nthr rfl (out := x.cells) (B32.cells_length _) h1) ?_
    refine ha_take 5 rfl (r_loadr rfl) ?_
    refine ha_takeP 6 rfl (r_bool (r_eqr rfl rfl) (decide_eq_true he)) ?_
    refine ha_takeP 7 rfl (r_assign rfl) ?_
    refine ha_done (by kernel_rfl) ?_
    refine q_then ?_
    refine h_condT rfl ?_
    refine yR ?_
    refine yS rfl ?_
    refine yN ?_
    refine h_ret ?_
    refine q_blockR ?_
    refine q_thenR ?_
    exact h_ret1 rfl rfl fun w s => ⟨(), rfl, s.res (List.nil_sublist _) (by simp)⟩
   ·rw [if_neg he]
    refine ha_start [.blk g4 y.cells 35, .rd (some ⟨g, 0, none⟩) [.slice (some ⟨b, o, none⟩) ks.length cc], .rd (some ⟨b, o, none⟩) (dgs ks)] [] mixed (same) ?_
    refine ha_take 0 rfl (r_loadc rfl) ?_
    refine ha_takeP 1 rfl (r_move rfl) ?_
    refine ha_takeP 2 rfl (r_subN rfl rfl (m := m) (hm := by omega)) ?_
    refine ha_takeP 3 rfl (r_idx rfl rfl) ?_
    refine ha_take 4 rfl (r_nthr rfl (out := x.cells) (B32.cells_length _) h1) ?_
    refine ha_take 5 rfl (r_loadr rfl) ?_
    refine ha_takeP 6 rfl (r_bool (r_eqr rfl rfl) (decide_eq_false he)) ?_
    refine ha_takeP 7 rfl (r_assign rfl) ?_
    refine ha_done (by kernel_rfl) ?_
    refine q_then ?_
    refine h_condF rfl ?_
    refine h_skip ?_
    refine q_block ?_
    refine q_then ?_
    refine yR ?_
    refine yS rfl ?_
    refine yN ?_
    refine h_ret ?_
    exact h_ret1 rfl rfl fun w s => ⟨(), rfl, s.res (List.nil_sublist _) (by simp)⟩
theorem first2_s (ks : List B32) (B : Option Addr) (cc g : Nat) (hl : ks.length ≤ 1000000000) (r : Option (Nat × Int)) (hR : firstF (neighE ks) ks.length 0 = r) : Spec Tryz.prog 109 [.slice B ks.length cc, .func (.func 110) #[] #[.pointer (some ⟨g, 0, none⟩)]].toArray [.rd (some ⟨g, 0, none⟩) [.slice B ks.length cc], .rd B (dgs ks)] [] (fun g : Nat => errV r g) (fun g => errB r g) := by
 refine spec_of Tryz.func109 rfl (n := 25) rfl rfl ?_
 intro W
 refine yR ?_
 refine yS rfl ?_
 refine yN ?_
 refine h_seq ?_
 refine yR ?_
 refine yM rfl ?_
 refine h_op (r_len rfl) ?_
 refine yM rfl ?_
 refine yN ?_
 refine h_block ?_
 refine h_loop (fun (i : Nat) => i ≤ ks.length ∧ ∀ j, j < i → neighE ks j = 0) (fun (i : Nat) => [(10, .int .i64 (i : Int)), (9, .int .i64 (ks.length : Int)), (8, .slice B ks.length cc), (1, .func (.func 110) #[] #[.pointer (some ⟨g, 0, none⟩)])]) (fun (i : Nat) => [.rd (some ⟨g, 0, none⟩) [.slice B ks.length cc], .rd B (dgs ks)]) (fun (i : Nat) => ks.length - i) 0 (⟨Nat.zero_le _, fun j hj => absurd hj (Nat.not_lt_zero _)⟩) ⟨rfl, rfl, rfl, rfl, trivial⟩ (same) ?_
 rintro i ⟨hi, hz⟩
 refine yR ?_
 refine h_op (r_lss rfl rfl) ?_
 refine yN ?_
 refine h_seq ?_
 refine h_cond rfl (fun hlt => ?_) (fun hlt => ?_)
 ·have hi2 : i < ks.length := by omega
  have hz0 : ∀ j, 0 ≤ j → j < i → neighE ks j = 0 := fun j _ hj => hz j hj
  have hd := dgs_at (l := ks) (k := i) hi2
  refine h_pure (φ := ∃ b o, B = some ⟨b, o, none⟩) (fun w s => Rd.some (s.ok (.rd B (dgs ks)) (by simp)) (by rw [dgs_len]; omega)) ?_
  rintro ⟨b, o, rfl⟩
  have hC := claims2_s ks (some ⟨b, o, none⟩) cc g i hi2 hl
  refine h_skip ?_
  refine q_then ?_
  refine h_seq ?_
  refine h_block ?_
  refine yR ?_
  refine yM rfl ?_
  refine h_op (r_idx rfl rfl) ?_
  refine h_op (r_nthr rfl (out := (ks.getD i zB32).cells) (B32.cells_length _) hd) ?_
  refine h_opX (x_alloc) fun g6 => ?_
  refine yS rfl ?_
  refine h_opS (s_storer rfl rfl) ?_
  refine yN ?_
  refine yR ?_
  refine yM rfl ?_
  refine yM rfl ?_
  refine yM rfl ?_
  refine h_op (r_loadr rfl) ?_
  refine h_call (hC.comes) rfl rfl rfl fun _ => ?_
  by_cases h0 : neighE ks i = 0
  ·rw [h0]
   refine h_call ((mFail_no (i : Int)).comes) rfl rfl rfl fun _ => ?_
   refine yS rfl ?_
   refine yN ?_
   refine yR ?_
   refine yM rfl ?_
   refine h_op (r_nilnn rfl) ?_
   refine yN ?_
   refine h_condF rfl ?_
   refine h_skip ?_
   refine q_block ?_
   refine q_then ?_
   refine h_reg ?_
   refine h_op (r_add rfl rfl) ?_
   refine yM rfl ?_
   refine h_nil ?_
   exact h_back (i + 1) (⟨hi2, fun j hj => (Nat.lt_or_ge j i).elim (hz j) fun h8 => by (obtain rfl : j = i := by omega); exact h0⟩) ((show ks.length - (i + 1) < ks.length - i by omega)) ⟨rfl, rfl, rfl, rfl, trivial⟩ (same)
  ·obtain rfl : some (i, neighE ks i) = r := by rw [← hR, firstF_some (neighE ks) i h0 ks.length 0 (Nat.zero_le _) (by omega) hz0]
   refine h_call ((mFail_s (i : Int) (neighE ks i) h0).comes) rfl rfl rfl fun g20 => ?_
   refine yS rfl ?_
   refine yN ?_
   refine yR ?_
   refine yM rfl ?_
   refine h_op (r_ifnn rfl) ?_
   refine yN ?_
   refine h_condT rfl ?_
   refine yR ?_
   refine yM rfl ?_
   refine yS rfl ?_
   refine yN ?_
   refine h_ret ?_
   refine q_blockR ?_
   refine q_thenR ?_
   refine q_thenR ?_
   refine q_blockR ?_
   refine q_thenR ?_
   exact h_ret1 rfl rfl fun w s => ⟨g20, rfl, (same (L' := [.blk g20 (fltC batchB (i : Int) (neighE ks i)) 178]) w s).res (List.Sublist.refl _) (by simp [Fa.wr, errB])⟩
 ·obtain rfl : i = ks.length := by omega
  obtain rfl : none = r := by rw [← hR, firstF_none _ _ _ (fun j _ hj => hz j (by omega))]
  refine h_exit ?_
  refine q_thenE ?_
  refine q_thenE ?_
  refine q_blockE ?_
  refine q_then ?_
  refine yR ?_
  refine yS rfl ?_
  refine yN ?_
  refine h_ret ?_
  exact h_ret1 rfl rfl fun w s => ⟨0, rfl, s.res (List.nil_sublist _) (by simp [errB])⟩
end Go.Proofs.YtjhocljhhpkiiaaGreatDoor
/- U120 -/
namespace Go.Proofs.YtjhocljhhpkiiaaGreatDoor
open Go.RowKit
def keysI (l : List CB) (k : Nat) : List B32 := (keysC l).take k ++ List.replicate (l.length - k) zB32
theorem keysI_len {l : List CB} {k : Nat} (h : k ≤ l.length) : (keysI l k).length = l.length := by
 unfold keysI
 rw [List.length_append, List.length_take, keysC_len, List.length_replicate]
 omega
theorem keysI_zero (l : List CB) : List.replicate l.length zB32 = keysI l 0 := by unfold keysI; simp
theorem keysI_all (l : List CB) : keysI l l.length = keysC l := by
 unfold keysI
 rw [Nat.sub_self, List.replicate_zero, List.append_nil, List.take_of_length_le (by rw [keysC_len]; exact Nat.le_refl _)]
theorem keysC_get {l : List CB} {k : Nat} (h : k < l.length) : (keysC l)[k]? = some (keyOf (l.getD k zCB).kb) := by
 unfold keysC
 rw [List.getElem?_map, getD_get zCB h]
 rfl
theorem keysI_set {l : List CB} {k : Nat} (h : k < l.length) : (keysI l k).set k (keyOf (l.getD k zCB).kb) = keysI l (k + 1) := by
 unfold keysI
 have h1 : ((keysC l).take k).length = k := by rw [List.length_take, keysC_len]; omega
 rw [List.set_append_right _ _ (by omega), h1, Nat.sub_self, show l.length - k = (l.length - (k + 1)) + 1 by omega, List.replicate_succ, List.set_cons_zero, List.take_add_one, keysC_get h]
 simp
def claimsV (n : Nat) : Option (Nat × Int) → Nat → Value
 | none, g => .tuple #[.slice (some ⟨g, 0, none⟩) n n, .nilIface]
 | some _, g => .tuple #[.slice none 0 0, .iface 174 (.pointer (some ⟨g, 0, none⟩))]
def claimsN (l : List CB) : Option (Nat × Int) → Nat → List Fa
 | none, g => [.own (.slice (some ⟨g, 0, none⟩) l.length l.length) l.length 35 32 (dgs (keysC l))]
 | some (i, e), g => [.blk g (fltC batchB (i : Int) e) 178]
section
variable (h : Zh) (l : List CB) (A : Option Addr) (c : Nat) [hr : RdZ h A (cbs l)] (hl : l.length ≤ 1000000000)
include hl
omit hr in
theorem Claims_early (e : Int) (hE : (l.length = 0 ∧ e = 10) ∨ (65535 < l.length ∧ e = 11)) : Spec Tryz.prog 56 [.slice A l.length c].toArray [.zone false h] [] (fun g : Nat => .tuple #[.slice none 0 0, .iface 174 (.pointer (some ⟨g, 0, none⟩))]) (fun g => [.blk g (fltC batchB 0 e) 178]) := by
 refine spec_of Tryz.func56 rfl (n := 49) rfl rfl ?_
 intro W
 rcases hE with ⟨h0, rfl⟩ | ⟨h0, rfl⟩
 ·refine h_seq ?_
  refine h_reg ?_
  refine yS rfl ?_
  refine yS rfl ?_
  refine yN ?_
  refine h_seq ?_
  refine h_block ?_
  refine yR ?_
  refine yM rfl ?_
  refine h_op (r_len rfl) ?_
  refine h_op (r_eql rfl rfl) ?_
  refine yS rfl ?_
  refine yN ?_
  refine h_yes rfl ((show ((l.length : Nat) : Int) = 0 by omega)) ?_
  refine yR ?_
  refine h_call ((mFail_s 0 10 (by decide)).comes) rfl rfl rfl fun g13 => ?_
  refine yS rfl ?_
  refine yS rfl ?_
  refine yN ?_
  refine h_ret ?_
  refine q_blockR ?_
  refine q_thenR ?_
  exact h_ret2 rfl rfl rfl fun w s => ⟨g13, rfl, (same (L' := [.blk g13 (fltC batchB 0 10) 178]) w s).res (List.Sublist.refl _) (by simp [Fa.wr])⟩
 ·refine h_seq ?_
  refine h_reg ?_
  refine yS rfl ?_
  refine yS rfl ?_
  refine yN ?_
  refine h_seq ?_
  refine h_block ?_
  refine yR ?_
  refine yM rfl ?_
  refine h_op (r_len rfl) ?_
  refine h_op (r_eql rfl rfl) ?_
  refine yS rfl ?_
  refine yN ?_
  refine h_no rfl ((show ¬ ((l.length : Nat) : Int) = 0 by omega)) ?_
  refine yR ?_
  refine yM rfl ?_
  refine h_op (r_len rfl) ?_
  refine h_op (r_gtr rfl rfl) ?_
  refine yS rfl ?_
  refine yN ?_
  refine h_yes rfl ((show (65535 : Int) < ((l.length : Nat) : Int) by omega)) ?_
  refine yR ?_
  refine h_call ((mFail_s 0 11 (by decide)).comes) rfl rfl rfl fun g18 => ?_
  refine yS rfl ?_
  refine yS rfl ?_
  refine yN ?_
  refine h_ret ?_
  refine q_blockR ?_
  refine q_thenR ?_
  exact h_ret2 rfl rfl rfl fun w s => ⟨g18, rfl, (same (L' := [.blk g18 (fltC batchB 0 11) 178]) w s).res (List.Sublist.refl _) (by simp [Fa.wr])⟩
theorem mClaims_s (hz : ClsZ h l) (r : Option (Nat × Int)) (hR : claimsR l = r) : Spec Tryz.prog 56 [.slice A l.length c].toArray [.zone false h] [] (fun g : Nat => claimsV l.length r g) (fun g => claimsN l r g) := by
 by_cases h0 : l.length = 0
 ·obtain rfl : some (0, 10) = r := by rw [← hR]; unfold claimsR; rw [if_pos h0]
  exact Claims_early h l A c hl 10 (.inl ⟨h0, rfl⟩)
 by_cases h1 : 65535 < l.length
 ·obtain rfl : some (0, 11) = r := by rw [← hR]; unfold claimsR; rw [if_neg h0, if_pos h1]
  exact Claims_early h l A c hl 11 (.inr ⟨h1, rfl⟩)
 have hR2 : (match firstF (fun i => claimE (l.getD i zCB).c) l.length 0 with | some r => some r | none => firstF (neighE (keysC l)) l.length 0) = r := by
  rw [← hR]
  unfold claimsR
  rw [if_neg h0, if_neg h1]
  rcases firstF (fun i => claimE (l.getD i zCB).c) l.length 0 with _ | _ <;> rfl
 have hF1 := first1_s h l A c hl _ rfl
 have hF2 := fun (B : Option Addr) (g : Nat) => first2_s (keysC l) B l.length g (by rw [keysC_len]; exact hl) _ rfl
 rw [keysC_len] at hF2
 have hok : firstF (fun i => claimE (l.getD i zCB).c) l.length 0 = none → ∀ i, i < l.length → (l.getD i zCB).kb.length = 32 := fun hn i hi => by
  have h1 := firstF_zero _ _ _ hn i (Nat.zero_le _) (by omega)
  have h2 := (hz.get hi).1.len
  unfold claimE at h1
  split at h1
  ·omega
  ·cases h1
 generalize firstF (fun i => claimE (l.getD i zCB).c) l.length 0 = r1 at *
 rcases r1 with _ | ⟨i1, e1⟩
 ·replace hok := hok rfl
  replace hF1 : Spec Tryz.prog 107 [.slice A l.length c, .func (.func 108) #[] #[]].toArray [.zone false h] [] (fun g : Nat => .nilIface) (fun g => []) := hF1
  replace hR2 : firstF (neighE (keysC l)) l.length 0 = r := hR2
  rw [hR2] at hF2
  refine spec_of Tryz.func56 rfl (n := 49) rfl rfl ?_
  intro W
  refine yR ?_
  refine yS rfl ?_
  refine yS rfl ?_
  refine yN ?_
  refine h_seq ?_
  refine h_block ?_
  refine yR ?_
  refine yM rfl ?_
  refine h_op (r_len rfl) ?_
  refine h_op (r_eql rfl rfl) ?_
  refine yS rfl ?_
  refine yN ?_
  refine h_no rfl ((show ¬ ((l.length : Nat) : Int) = 0 by omega)) ?_
  refine yR ?_
  refine yM rfl ?_
  refine h_op (r_len rfl) ?_
  refine h_op (r_gtr rfl rfl) ?_
  refine yS rfl ?_
  refine yN ?_
  refine h_no rfl ((show ¬ (65535 : Int) < ((l.length : Nat) : Int) by omega)) ?_
  refine h_skip ?_
  refine q_block ?_
  refine q_then ?_
  refine h_seq ?_
  refine yR ?_
  refine yM rfl ?_
  refine h_call (hF1.comes) rfl rfl rfl fun _ => ?_
  refine yS rfl ?_
  refine yN ?_
  refine yR ?_
  refine yM rfl ?_
  refine h_op (r_nilnn rfl) ?_
  refine yN ?_
  refine h_condF rfl ?_
  refine h_skip ?_
  refine q_then ?_
  refine yR ?_
  refine yM rfl ?_
  refine h_op (r_len rfl) ?_
  refine h_opX (x_make rfl rfl) fun g26 => ?_
  refine h_opX (x_alloc) fun g5 => ?_
  refine h_opS (s_store rfl rfl rfl) ?_
  refine yN ?_
  refine h_seq ?_
  refine yR ?_
  refine yM rfl ?_
  refine h_op (r_len rfl) ?_
  refine yM rfl ?_
  refine yN ?_
  refine h_block ?_
  rw [made_dgs, keysI_zero]
  refine h_loop (fun (k : Nat) => k ≤ l.length) (fun (k : Nat) => [(29, .int .i64 (k : Int)), (28, .int .i64 (l.length : Int)), (27, .slice A l.length c), (5, .pointer (some ⟨g5, 0, none⟩))]) (fun (k : Nat) => [.own (.slice (some ⟨g26, 0, none⟩) l.length l.length) l.length 35 32 (dgs (keysI l k)), .blk g5 [.slice (some ⟨g26, 0, none⟩) l.length l.length] 104, .zone false h]) (fun (k : Nat) => l.length - k) 0 ((show 0 ≤ _ from Nat.zero_le _)) ⟨rfl, rfl, rfl, rfl, trivial⟩ (same) ?_
  rintro k hk
  refine yR ?_
  refine h_op (r_lss rfl rfl) ?_
  refine yN ?_
  refine h_seq ?_
  refine h_cond rfl (fun hlt => ?_) (fun hlt => ?_)
  ·have hk2 : k < l.length := by omega
   have hx := getD_get zCB hk2
   have hkl := hok k hk2
   have hsk := (hz.get hk2).1
   have hset := dgs_set (keysI l k) k (keyOf (l.getD k zCB).kb) (by rw [keysI_len (by omega)]; exact hk2)
   rw [keysI_set hk2] at hset
   obtain ⟨b, o, rfl, -⟩ := hr.at_ (k * 3) _ (cbs_at hx 0 _ rfl)
   generalize l.getD k zCB = x at *
   have hkn := hsk.len
   obtain ⟨bK, oK, hKA, -⟩ := hsk.rd.at_ 0 _ (List.getElem?_eq_getElem (by rw [bc_length]; omega))
   have hKr : RdZ h (some ⟨bK, oK, none⟩) (keyOf x.kb).cells := by rw [keyOf_cells hkl, ← hKA]; exact hsk.rd
   refine h_skip ?_
   refine q_then ?_
   refine h_seq ?_
   refine h_block ?_
   refine yR ?_
   refine yM rfl ?_
   refine h_op (r_idx rfl rfl) ?_
   refine h_op (r_nthr rfl (out := x.c.cells) (Claim.cells_length _) (cbs_at hx)) ?_
   refine h_opX (x_alloc) fun g7 => ?_
   refine yS rfl ?_
   refine h_opS (s_storer rfl rfl) ?_
   refine yN ?_
   refine ha_start [.blk g5 [.slice (some ⟨g26, 0, none⟩) l.length l.length] 104, .blk g7 x.c.cells 25, .zone false h] [] mixed (same) ?_
   refine ha_take 0 rfl (r_loadc rfl) ?_
   refine ha_takeP 1 rfl (r_move rfl) ?_
   refine ha_takeP 2 rfl (r_field rfl) ?_
   refine ha_take 3 rfl (r_as (r_loadc rfl) (show _ = Value.slice (some ⟨bK, oK, none⟩) x.c.key.n x.c.key.c by rw [hKA])) ?_
   refine ha_takeP 4 rfl (r_arr rfl (hm := show 32 ≤ x.c.key.n by omega)) ?_
   refine ha_take 5 rfl (r_loadr rfl) ?_
   refine ha_takeP 6 rfl (r_idx rfl rfl) ?_
   refine ha_one 7 ?_
   refine ho_SL 7 rfl (s_setrO rfl rfl (by rw [dgs_len, keysI_len (by omega)]; omega) hset) ?_
   refine q_block ?_
   refine q_then ?_
   refine h_reg ?_
   refine h_op (r_add rfl rfl) ?_
   refine yM rfl ?_
   refine h_nil ?_
   exact h_back (k + 1) ((show k + 1 ≤ _ from hk2)) ((show l.length - (k + 1) < l.length - k by omega)) ⟨rfl, rfl, rfl, rfl, trivial⟩ (same)
  ·obtain rfl : k = l.length := by omega
   rw [keysI_all]
   rcases r with _ | ⟨i2, e2⟩
   ·replace hF2 : ∀ (B : Option Addr) (g : Nat), Spec Tryz.prog 109 [.slice B l.length l.length, .func (.func 110) #[] #[.pointer (some ⟨g, 0, none⟩)]].toArray [.rd (some ⟨g, 0, none⟩) [.slice B l.length l.length], .rd B (dgs (keysC l))] [] (fun g : Nat => .nilIface) (fun g => []) := hF2
    refine h_exit ?_
    refine q_thenE ?_
    refine q_thenE ?_
    refine q_blockE ?_
    refine q_then ?_
    refine yR ?_
    refine h_op (r_loadc rfl) ?_
    refine h_op (r_func rfl rfl) ?_
    refine h_call ((hF2 (some ⟨g26, 0, none⟩) g5).comes) rfl rfl rfl fun _ => ?_
    refine yS rfl ?_
    refine yN ?_
    refine h_seq ?_
    refine yR ?_
    refine yM rfl ?_
    refine h_op (r_nilnn rfl) ?_
    refine yN ?_
    refine h_condF rfl ?_
    refine h_skip ?_
    refine q_then ?_
    refine yR ?_
    refine h_op (r_loadc rfl) ?_
    refine yS rfl ?_
    refine yS rfl ?_
    refine yN ?_
    refine h_ret ?_
    exact h_ret2 rfl rfl rfl fun w s => ⟨g26, rfl, (same (L' := [.own (.slice (some ⟨g26, 0, none⟩) l.length l.length) l.length 35 32 (dgs (keysC l))]) w s).res (List.Sublist.refl _) (by simp [Fa.wr, claimsN])⟩
   ·replace hF2 : ∀ (B : Option Addr) (g : Nat), Spec Tryz.prog 109 [.slice B l.length l.length, .func (.func 110) #[] #[.pointer (some ⟨g, 0, none⟩)]].toArray [.rd (some ⟨g, 0, none⟩) [.slice B l.length l.length], .rd B (dgs (keysC l))] [] (fun g : Nat => .iface 174 (.pointer (some ⟨g, 0, none⟩))) (fun g => [.blk g (fltC batchB (i2 : Int) e2) 178]) := hF2
    refine h_exit ?_
    refine q_thenE ?_
    refine q_thenE ?_
    refine q_blockE ?_
    refine q_then ?_
    refine yR ?_
    refine h_op (r_loadc rfl) ?_
    refine h_op (r_func rfl rfl) ?_
    refine h_call ((hF2 (some ⟨g26, 0, none⟩) g5).comes) rfl rfl rfl fun g44 => ?_
    refine yS rfl ?_
    refine yN ?_
    refine h_seq ?_
    refine yR ?_
    refine yM rfl ?_
    refine h_op (r_ifnn rfl) ?_
    refine yN ?_
    refine h_condT rfl ?_
    refine yR ?_
    refine yM rfl ?_
    refine yS rfl ?_
    refine yS rfl ?_
    refine yN ?_
    refine h_ret ?_
    refine q_thenR ?_
    exact h_ret2 rfl rfl rfl fun w s => ⟨g44, rfl, (same (L' := [.blk g44 (fltC batchB (i2 : Int) e2) 178]) w s).res (List.Sublist.refl _) (by simp [Fa.wr, claimsN])⟩
 ·replace hF1 : Spec Tryz.prog 107 [.slice A l.length c, .func (.func 108) #[] #[]].toArray [.zone false h] [] (fun g : Nat => .iface 174 (.pointer (some ⟨g, 0, none⟩))) (fun g => [.blk g (fltC batchB (i1 : Int) e1) 178]) := hF1
  obtain rfl : some (i1, e1) = r := hR2
  refine spec_of Tryz.func56 rfl (n := 49) rfl rfl ?_
  intro W
  refine yR ?_
  refine yS rfl ?_
  refine yS rfl ?_
  refine yN ?_
  refine h_seq ?_
  refine h_block ?_
  refine yR ?_
  refine yM rfl ?_
  refine h_op (r_len rfl) ?_
  refine h_op (r_eql rfl rfl) ?_
  refine yS rfl ?_
  refine yN ?_
  refine h_no rfl ((show ¬ ((l.length : Nat) : Int) = 0 by omega)) ?_
  refine yR ?_
  refine yM rfl ?_
  refine h_op (r_len rfl) ?_
  refine h_op (r_gtr rfl rfl) ?_
  refine yS rfl ?_
  refine yN ?_
  refine h_no rfl ((show ¬ (65535 : Int) < ((l.length : Nat) : Int) by omega)) ?_
  refine h_skip ?_
  refine q_block ?_
  refine q_then ?_
  refine h_seq ?_
  refine yR ?_
  refine yM rfl ?_
  refine h_call (hF1.comes) rfl rfl rfl fun g20 => ?_
  refine yS rfl ?_
  refine yN ?_
  refine yR ?_
  refine yM rfl ?_
  refine h_op (r_ifnn rfl) ?_
  refine yN ?_
  refine h_condT rfl ?_
  refine yR ?_
  refine yM rfl ?_
  refine yS rfl ?_
  refine yS rfl ?_
  refine yN ?_
  refine h_ret ?_
  refine q_thenR ?_
  exact h_ret2 rfl rfl rfl fun w s => ⟨g20, rfl, (same (L' := [.blk g20 (fltC batchB (i1 : Int) e1) 178]) w s).res (List.Sublist.refl _) (by simp [Fa.wr, claimsN])⟩
end
end Go.Proofs.YtjhocljhhpkiiaaGreatDoor
/- U26z -/
namespace Go.Proofs.YtjhocljhhpkiiaaGreatDoor
open Go.RowKit
end Go.Proofs.YtjhocljhhpkiiaaGreatDoor
/- U27 -/
namespace Go.Proofs.YtjhocljhhpkiiaaGreatDoor
open Go.RowKit
end Go.Proofs.YtjhocljhhpkiiaaGreatDoor
/- U55 -/
namespace Go.Proofs.YtjhocljhhpkiiaaGreatDoor
open Go.RowKit
end Go.Proofs.YtjhocljhhpkiiaaGreatDoor
/- E25 -/
namespace Go.Proofs.YtjhocljhhpkiiaaGreatDoor
open Go.RowKit
end Go.Proofs.YtjhocljhhpkiiaaGreatDoor
/- E28 -/
namespace Go.Proofs.YtjhocljhhpkiiaaGreatDoor
open Go.RowKit
end Go.Proofs.YtjhocljhhpkiiaaGreatDoor
/- E22 -/
namespace Go.Proofs.YtjhocljhhpkiiaaGreatDoor
open Go.RowKit
theorem endC_at {l : List (Item × Nat)} {k : Nat} {x : Item × Nat} (h : l[k]? = some x) : ∀ j v, (End.cells ⟨x.1, (x.2 : Int)⟩)[j]? = some v → (endC l)[k * 98 + j]? = some v := by
 intro j v hv
 have hj : j < 98 := by have := (List.getElem?_eq_some_iff.1 hv).1; rw [End.cells_length] at this; exact this
 obtain ⟨h1, h2⟩ := List.getElem?_eq_some_iff.1 h
 have e : endC l = endC (l.take k) ++ (End.cells ⟨x.1, (x.2 : Int)⟩ ++ endC (l.drop (k + 1))) := by
  conv => lhs; rw [← List.take_append_drop k l, List.drop_eq_getElem_cons h1, h2]
  unfold endC
  rw [List.flatMap_append, List.flatMap_cons]
 rw [e, List.getElem?_append_right (by rw [endC_len, List.length_take]; omega), endC_len, List.length_take, Nat.min_eq_left (by omega), Nat.add_sub_cancel_left, List.getElem?_append_left (by rw [End.cells_length]; exact hj)]
 exact hv
theorem loc_way {m : List En} (h : Alike m 0) (key : B32) : ∃ D, WayTo key (mkT m 0) D ∧ loc key (mkT m 0) 0 = (wayK key (mkT m 0) D, D) := by
 obtain ⟨D, h1, h2, _, _, h5⟩ := wayTo_mkT (key := key) h
 refine ⟨D, h1, ?_⟩
 have := loc_mkT (k := key) h 256 0 (by omega) (by omega)
 rw [show atM key m 0 = m from rfl, h2] at this
 rw [this, h5 D (Nat.le_refl _)]
end Go.Proofs.YtjhocljhhpkiiaaGreatDoor
/- E30 -/
namespace Go.Proofs.YtjhocljhhpkiiaaGreatDoor
open Go.RowKit
def endPr (x : Item × Nat) : Proof := ⟨x.1.kind, (x.2 : Int), x.1.leaf, zB32, ⟨none, 0, 0⟩⟩
def showE (n : Nat) (es : List (Item × Nat)) (l : List CB) (i : Nat) : Int :=
 if supP (endPr (es.getD i (zItem, 0))) (keyOf (l.getD i zCB).kb) (valD n (l.getD i zCB).c.present (l.getD i zCB).vb) (l.getD i zCB).c.present then 0 else 12
def showR (n : Nat) (root : B32) (l : List CB) (t : Sub) : Option (Nat × Int) :=
 if (endsM t (keysC l) 0).2 then
  match firstF (showE n (endsM t (keysC l) 0).1 l) (endsM t (keysC l) 0).1.length 0 with
  | some r => some r
  | none => if dgS n t = root then none else some (0, 13)
 else some (0, 12)
end Go.Proofs.YtjhocljhhpkiiaaGreatDoor
/- U122 -/
namespace Go.Proofs.YtjhocljhhpkiiaaGreatDoor
open Go.RowKit
theorem keysC_getD {l : List CB} {k : Nat} (h : k < l.length) : (keysC l).getD k zB32 = keyOf (l.getD k zCB).kb := by
 rw [List.getD_eq_getElem?_getD, keysC_get h]; rfl
section
variable (n : Nat) (hn : n ≤ 256) (h : Zh) [hT : RdZ h (some ⟨1, 0, none⟩) hashT] (gh gc : Nat) (l : List CB) (A : Option Addr) (c : Nat) [hr : RdZ h A (cbs l)] (hz : ClsZ h l) (hvl : ∀ x ∈ l, x.vb.length ≤ 100000000) (hll : l.length ≤ 100000) (K : Option Addr) (kc : Nat) [hK : RdZ h K (dgs (keysC l))] (gl ph pk : Nat)
include hn hz hvl hll
omit hll in
theorem show1_s (k : Nat) (hk : k ≤ 1000000000) (i : Nat) (hi : i < l.length) (x : Item × Nat) (b : Bool) (hb : supP (endPr x) (keyOf (l.getD i zCB).kb) (valD n (l.getD i zCB).c.present (l.getD i zCB).vb) (l.getD i zCB).c.present = b) : Spec Tryz.prog 155 [.int .i64 (i : Int), .agg (End.cells ⟨x.1, (x.2 : Int)⟩).toArray, .pointer (some ⟨gl, 0, none⟩), .pointer (some ⟨ph, 0, none⟩), .pointer (some ⟨pk, 0, none⟩)].toArray [HR gh gc n, .zone false h, .rd (some ⟨gl, 0, none⟩) [.slice A l.length c], .rd (some ⟨ph, 0, none⟩) [.pointer (some ⟨gh, 0, none⟩)], .rd (some ⟨pk, 0, none⟩) [.slice K l.length kc]] [CN gc k] (fun _ : Unit => .int .i64 (if b then 0 else 12)) (fun _ => [CN gc (k + if (l.getD i zCB).c.present then 1 else 0)]) := by
 have hx := getD_get zCB hi
 have hvz := (hz.get hi).2
 have hvb := hvl _ (List.mem_of_getElem? hx)
 have hd := dgs_at (l := keysC l) (k := i) (by rw [keysC_len]; exact hi)
 rw [keysC_getD hi] at hd
 generalize l.getD i zCB = y at *
 have hvn := hvz.len
 have hVr : RdZ h y.c.value.A (bc y.vb) := hvz.rd
 have hVn := hvz.nil
 obtain ⟨bA, oA, rfl, -⟩ := hr.at_ (i * 3) _ (cbs_at hx 0 _ rfl)
 obtain ⟨bK, oK, rfl, -⟩ := hK.at_ (i * 32 + 0) _ (hd 0 _ (List.getElem?_eq_getElem (by rw [B32.cells_length]; decide)))
 have e1 := cbs_at hx 1 _ rfl
 have e2 := cbs_at hx 2 _ rfl
 obtain ⟨⟨ks, ⟨vA, vn, vc⟩, pr⟩, kb, vb⟩ := y
 dsimp only at hvn hVr hVn hvb hb hd e1 e2 ⊢
 subst hvn
 have hS := fun v => Supports_s (endPr x) (keyOf kb) v pr
 cases pr
 ·refine spec_of Tryz.func155 rfl (n := 45) rfl rfl ?_
  intro W
  refine yR ?_
  refine h_opX (x_box rfl) fun g6 => ?_
  refine yS rfl ?_
  refine yN ?_
  refine yR ?_
  refine h_opX (x_alloc) fun g8 => ?_
  refine yN ?_
  refine h_seq ?_
  refine yR ?_
  refine h_op (r_loadc rfl) ?_
  refine yM rfl ?_
  refine h_op (r_idx rfl rfl) ?_
  refine h_op (r_field rfl (O' := oA + (i * 3 + 2)) (by omega)) ?_
  refine h_op (r_nth rfl e2) ?_
  refine yN ?_
  refine h_condF rfl ?_
  refine h_skip ?_
  refine q_then ?_
  refine yR ?_
  refine h_op (r_field rfl) ?_
  refine h_op (r_field rfl) ?_
  refine h_op (r_loadc rfl) ?_
  refine h_op (r_field rfl) ?_
  refine h_op (r_loadc rfl) ?_
  refine h_op (r_field rfl) ?_
  refine h_op (r_field rfl) ?_
  refine h_op (r_loadr rfl) ?_
  refine h_op (r_build rfl) ?_
  refine h_opX (x_alloc) fun g9 => ?_
  refine h_opS (s_storer rfl rfl) ?_
  refine yN ?_
  refine h_seq ?_
  refine h_seq ?_
  change H _ _ _ _ _ (.blk g9 (endPr x).cells _ :: _) _
  have hS := hS zB32
  rw [show supP (endPr x) (keyOf kb) zB32 false = b from hb] at hS
  refine ha_start [.blk g9 (endPr x).cells 54, .blk g8 zB32.cells 42, .zone false h, .rd (some ⟨gl, 0, none⟩) [.slice (some ⟨bA, oA, none⟩) l.length c], .rd (some ⟨pk, 0, none⟩) [.slice (some ⟨bK, oK, none⟩) l.length kc]] [] mixed (same) ?_
  refine ha_take 0 rfl (r_loadr rfl) ?_
  refine ha_take 1 rfl (r_loadc rfl) ?_
  refine ha_takeP 2 rfl (r_move rfl) ?_
  refine ha_takeP 3 rfl (r_idx rfl rfl) ?_
  refine ha_take 4 rfl (r_nthr rfl (out := (keyOf kb).cells) (B32.cells_length _) hd) ?_
  refine ha_take 5 rfl (r_loadr rfl) ?_
  refine ha_take 6 rfl (r_loadc rfl) ?_
  refine ha_takeP 7 rfl (r_move rfl) ?_
  refine ha_takeP 8 rfl (r_idx rfl rfl) ?_
  refine ha_takeP 9 rfl (r_field rfl (O' := oA + (i * 3 + 2)) (by omega)) ?_
  refine ha_take 10 rfl (r_nth rfl e2) ?_
  refine ha_one 11 ?_
  refine ho_C 11 rfl (hS.comes) rfl rfl rfl (fun xx => same) fun _ => ?_
  refine ha_takeP 12 rfl (r_not rfl) ?_
  refine ha_done (by kernel_rfl) ?_
  refine q_then ?_
  cases b
  ·refine h_condT rfl ?_
   refine yR ?_
   refine yS rfl ?_
   refine yN ?_
   refine h_ret ?_
   refine q_thenR ?_
   exact h_ret1 rfl rfl fun w s => ⟨(), rfl, (same (L' := [CN gc k]) w s).res (List.Sublist.refl _) (by simp [Fa.wr])⟩
  ·refine h_condF rfl ?_
   refine h_skip ?_
   refine q_then ?_
   refine yR ?_
   refine yS rfl ?_
   refine yN ?_
   refine h_ret ?_
   exact h_ret1 rfl rfl fun w s => ⟨(), rfl, (same (L' := [CN gc k]) w s).res (List.Sublist.refl _) (by simp [Fa.wr])⟩
 ·refine spec_of Tryz.func155 rfl (n := 45) rfl rfl ?_
  intro W
  refine yR ?_
  refine h_opX (x_box rfl) fun g6 => ?_
  refine yS rfl ?_
  refine yN ?_
  refine yR ?_
  refine h_opX (x_alloc) fun g8 => ?_
  refine yN ?_
  refine h_seq ?_
  refine yR ?_
  refine h_op (r_loadc rfl) ?_
  refine yM rfl ?_
  refine h_op (r_idx rfl rfl) ?_
  refine h_op (r_field rfl (O' := oA + (i * 3 + 2)) (by omega)) ?_
  refine h_op (r_nth rfl e2) ?_
  refine yN ?_
  refine h_condT rfl ?_
  refine ha_start [.zone false h, .rd (some ⟨gl, 0, none⟩) [.slice (some ⟨bA, oA, none⟩) l.length c], .rd (some ⟨ph, 0, none⟩) [.pointer (some ⟨gh, 0, none⟩)]] [] mixed (same) ?_
  refine ha_take 0 rfl (r_loadc rfl) ?_
  refine ha_take 1 rfl (r_loadc rfl) ?_
  refine ha_takeP 2 rfl (r_move rfl) ?_
  refine ha_takeP 3 rfl (r_idx rfl rfl) ?_
  refine ha_takeP 4 rfl (r_field rfl (O' := oA + (i * 3 + 1)) (by omega)) ?_
  refine ha_take 5 rfl (r_nth rfl e1) ?_
  refine ha_one 6 ?_
  refine ho_C 6 rfl ((pValue_s vb vA vc (fun e => by have := hVn e; omega) hvb).comes) rfl rfl rfl (fun xx => same) fun ⟨g21, c21⟩ => ?_
  refine ha_one 7 ?_
  refine ho_C 7 rfl ((HSum_s n hn gh gc k (by omega) (preV vb) (some ⟨g21, 0, none⟩) c21 (fun h => by cases h) (by show vb.length + 1 ≤ _; omega)).comes) rfl rfl rfl (fun xx => same) fun _ => ?_
  refine ha_one 8 ?_
  refine ho_SL 8 rfl (s_storer rfl rfl) ?_
  refine q_then ?_
  refine yR ?_
  refine h_op (r_field rfl) ?_
  refine h_op (r_field rfl) ?_
  refine h_op (r_loadc rfl) ?_
  refine h_op (r_field rfl) ?_
  refine h_op (r_loadc rfl) ?_
  refine h_op (r_field rfl) ?_
  refine h_op (r_field rfl) ?_
  refine h_op (r_loadr rfl) ?_
  refine h_op (r_build rfl) ?_
  refine h_opX (x_alloc) fun g9 => ?_
  refine h_opS (s_storer rfl rfl) ?_
  refine yN ?_
  refine h_seq ?_
  refine h_seq ?_
  change H _ _ _ _ _ (.blk g9 (endPr x).cells _ :: _) _
  have hS := hS (sumB n (preV vb))
  rw [show supP (endPr x) (keyOf kb) (sumB n (preV vb)) true = b from hb] at hS
  refine ha_start [.blk g9 (endPr x).cells 54, .blk g8 (sumB n (preV vb)).cells 42, .zone false h, .rd (some ⟨gl, 0, none⟩) [.slice (some ⟨bA, oA, none⟩) l.length c], .rd (some ⟨pk, 0, none⟩) [.slice (some ⟨bK, oK, none⟩) l.length kc]] [] mixed (same) ?_
  refine ha_take 0 rfl (r_loadr rfl) ?_
  refine ha_take 1 rfl (r_loadc rfl) ?_
  refine ha_takeP 2 rfl (r_move rfl) ?_
  refine ha_takeP 3 rfl (r_idx rfl rfl) ?_
  refine ha_take 4 rfl (r_nthr rfl (out := (keyOf kb).cells) (B32.cells_length _) hd) ?_
  refine ha_take 5 rfl (r_loadr rfl) ?_
  refine ha_take 6 rfl (r_loadc rfl) ?_
  refine ha_takeP 7 rfl (r_move rfl) ?_
  refine ha_takeP 8 rfl (r_idx rfl rfl) ?_
  refine ha_takeP 9 rfl (r_field rfl (O' := oA + (i * 3 + 2)) (by omega)) ?_
  refine ha_take 10 rfl (r_nth rfl e2) ?_
  refine ha_one 11 ?_
  refine ho_C 11 rfl (hS.comes) rfl rfl rfl (fun xx => same) fun _ => ?_
  refine ha_takeP 12 rfl (r_not rfl) ?_
  refine ha_done (by kernel_rfl) ?_
  refine q_then ?_
  cases b
  ·refine h_condT rfl ?_
   refine yR ?_
   refine yS rfl ?_
   refine yN ?_
   refine h_ret ?_
   refine q_thenR ?_
   exact h_ret1 rfl rfl fun w s => ⟨(), rfl, (same (L' := [CN gc (k + 1)]) w s).res (List.Sublist.refl _) (by simp [Fa.wr])⟩
  ·refine h_condF rfl ?_
   refine h_skip ?_
   refine q_then ?_
   refine yR ?_
   refine yS rfl ?_
   refine yN ?_
   refine h_ret ?_
   exact h_ret1 rfl rfl fun w s => ⟨(), rfl, (same (L' := [CN gc (k + 1)]) w s).res (List.Sublist.refl _) (by simp [Fa.wr])⟩
theorem first3_s (k : Nat) (hk : k ≤ 100000000) (es : List (Item × Nat)) (E : Option Addr) (ec : Nat) [hE : RdZ h E (endC es)] (hel : es.length ≤ l.length) (r : Option (Nat × Int)) (hR : firstF (showE n es l) es.length 0 = r) : Spec Tryz.prog 154 [.slice E es.length ec, .func (.func 155) #[] #[.pointer (some ⟨gl, 0, none⟩), .pointer (some ⟨ph, 0, none⟩), .pointer (some ⟨pk, 0, none⟩)]].toArray [HR gh gc n, .zone false h, .rd (some ⟨gl, 0, none⟩) [.slice A l.length c], .rd (some ⟨ph, 0, none⟩) [.pointer (some ⟨gh, 0, none⟩)], .rd (some ⟨pk, 0, none⟩) [.slice K l.length kc]] [CN gc k] (fun u : {u : Nat × Nat // u.2 ≤ k + es.length} => errV r u.1.1) (fun u => CN gc u.1.2 :: errB r u.1.1) := by
 refine spec_of Tryz.func154 rfl (n := 25) rfl rfl ?_
 intro W
 refine yR ?_
 refine yS rfl ?_
 refine yN ?_
 refine h_seq ?_
 refine yR ?_
 refine yM rfl ?_
 refine h_op (r_len rfl) ?_
 refine yM rfl ?_
 refine yN ?_
 refine h_block ?_
 refine h_loop (fun (s : Nat × Nat) => s.1 ≤ es.length ∧ s.2 ≤ k + s.1 ∧ ∀ j, j < s.1 → showE n es l j = 0) (fun (s : Nat × Nat) => [(10, .int .i64 (s.1 : Int)), (9, .int .i64 (es.length : Int)), (8, .slice E es.length ec), (1, .func (.func 155) #[] #[.pointer (some ⟨gl, 0, none⟩), .pointer (some ⟨ph, 0, none⟩), .pointer (some ⟨pk, 0, none⟩)])]) (fun (s : Nat × Nat) => [CN gc s.2, HR gh gc n, .zone false h, .rd (some ⟨gl, 0, none⟩) [.slice A l.length c], .rd (some ⟨ph, 0, none⟩) [.pointer (some ⟨gh, 0, none⟩)], .rd (some ⟨pk, 0, none⟩) [.slice K l.length kc]]) (fun (s : Nat × Nat) => es.length - s.1) (0, k) (⟨Nat.zero_le _, Nat.le_refl _, fun j hj => absurd hj (Nat.not_lt_zero _)⟩) ⟨rfl, rfl, rfl, rfl, trivial⟩ (same) ?_
 rintro ⟨i, k'⟩ ⟨hi, hk', hz'⟩
 dsimp only at hi hk' hz' ⊢
 refine yR ?_
 refine h_op (r_lss rfl rfl) ?_
 refine yN ?_
 refine h_seq ?_
 refine h_cond rfl (fun hlt => ?_) (fun hlt => ?_)
 ·have hi2 : i < es.length := by omega
  have hx := getD_get (zItem, 0) hi2
  have hz0 : ∀ j, 0 ≤ j → j < i → showE n es l j = 0 := fun j _ hj => hz' j hj
  have hs := show1_s n hn h gh gc l A c hz hvl K kc gl ph pk k' (by omega) i (by omega) (es.getD i (zItem, 0)) _ rfl
  change Spec _ _ _ _ _ (fun _ : Unit => .int .i64 (showE n es l i)) _ at hs
  obtain ⟨b, o, rfl, -⟩ := hE.at_ (i * 98) _ (endC_at hx 0 _ rfl)
  obtain ⟨p, hp, hpe⟩ : ∃ p, p ≤ 1 ∧ (if (l.getD i zCB).c.present = true then 1 else 0) = p := ⟨_, by split <;> omega, rfl⟩
  rw [hpe] at hs
  refine h_skip ?_
  refine q_then ?_
  refine h_seq ?_
  refine h_block ?_
  refine yR ?_
  refine yM rfl ?_
  refine h_op (r_idx rfl rfl) ?_
  refine h_op (r_nthr rfl (out := End.cells ⟨(es.getD i (zItem, 0)).1, ((es.getD i (zItem, 0)).2 : Int)⟩) (End.cells_length _) (endC_at hx)) ?_
  refine h_opX (x_alloc) fun g6 => ?_
  refine yS rfl ?_
  refine h_opS (s_storer rfl rfl) ?_
  refine yN ?_
  refine yR ?_
  refine yM rfl ?_
  refine yM rfl ?_
  refine yM rfl ?_
  refine h_op (r_loadr rfl) ?_
  refine h_call (hs.comes) rfl rfl rfl fun _ => ?_
  by_cases h0 : showE n es l i = 0
  ·rw [h0]
   refine h_call ((mFail_no (i : Int)).comes) rfl rfl rfl fun _ => ?_
   refine yS rfl ?_
   refine yN ?_
   refine yR ?_
   refine yM rfl ?_
   refine h_op (r_nilnn rfl) ?_
   refine yN ?_
   refine h_condF rfl ?_
   refine h_skip ?_
   refine q_block ?_
   refine q_then ?_
   refine h_reg ?_
   refine h_op (r_add rfl rfl) ?_
   refine yM rfl ?_
   refine h_nil ?_
   exact h_back (i + 1, k' + p) (⟨hi2, by dsimp only; omega, fun j hj => (Nat.lt_or_ge j i).elim (hz' j) fun h8 => by (obtain rfl : j = i := by (dsimp only at hj; omega)); exact h0⟩) ((show es.length - (i + 1) < es.length - i by omega)) ⟨rfl, rfl, rfl, rfl, trivial⟩ (same)
  ·obtain rfl : some (i, showE n es l i) = r := by rw [← hR, firstF_some (showE n es l) i h0 es.length 0 (Nat.zero_le _) (by omega) hz0]
   refine h_call ((mFail_s (i : Int) (showE n es l i) h0).comes) rfl rfl rfl fun g20 => ?_
   refine yS rfl ?_
   refine yN ?_
   refine yR ?_
   refine yM rfl ?_
   refine h_op (r_ifnn rfl) ?_
   refine yN ?_
   refine h_condT rfl ?_
   refine yR ?_
   refine yM rfl ?_
   refine yS rfl ?_
   refine yN ?_
   refine h_ret ?_
   refine q_blockR ?_
   refine q_thenR ?_
   refine q_thenR ?_
   refine q_blockR ?_
   refine q_thenR ?_
   exact h_ret1 rfl rfl fun w s => ⟨⟨(g20, k' + p), by dsimp only; omega⟩, rfl, (same (L' := [CN gc (k' + p), .blk g20 (fltC batchB (i : Int) (showE n es l i)) 178]) w s).res (List.Sublist.refl _) (by simp [Fa.wr, errB])⟩
 ·obtain rfl : i = es.length := by omega
  obtain rfl : none = r := by rw [← hR, firstF_none _ _ _ (fun j _ hj => hz' j (by omega))]
  refine h_exit ?_
  refine q_thenE ?_
  refine q_thenE ?_
  refine q_blockE ?_
  refine q_then ?_
  refine yR ?_
  refine yS rfl ?_
  refine yN ?_
  refine h_ret ?_
  exact h_ret1 rfl rfl fun w s => ⟨⟨(0, k'), hk'⟩, rfl, (same (L' := [CN gc k']) w s).res (List.Sublist.refl _) (by simp [Fa.wr, errB])⟩
end
end Go.Proofs.YtjhocljhhpkiiaaGreatDoor
/- U123 -/
namespace Go.Proofs.YtjhocljhhpkiiaaGreatDoor
open Go.RowKit
theorem parse_cost {l : List Item} {t : Sub} (h : parseM l = .ok t) : t.cost ≤ l.length := by
 have h2 := readM_cost 256 l t [] (parse_ok h).1
 simpa using h2
section
variable (n : Nat) (hn : n ≤ 256) (h : Zh) [hT : RdZ h (some ⟨1, 0, none⟩) hashT] (gh gc : Nat) (l : List CB) (A : Option Addr) (c : Nat) [hr : RdZ h A (cbs l)] (hz : ClsZ h l) (hvl : ∀ x ∈ l, x.vb.length ≤ 100000000) (hll : l.length ≤ 100000) (K : Option Addr) (kc : Nat) [hK : RdZ h K (dgs (keysC l))] (hkc : l.length ≤ kc)
include hn hz hvl hll hkc
theorem show_s (k : Nat) (hk : k ≤ 100000000) (root : B32) (hC : claimsR l = none) (its0 : List Item) (I : Option Addr) (ic : Nat) [hI : RdZ h I (its its0)] (hic : its0.length ≤ ic) (hil : its0.length ≤ 1000000) (t : Sub) (hp : parseM its0 = .ok t) : Spec Tryz.prog 101 [.pointer (some ⟨gh, 0, none⟩), .agg root.cells.toArray, .slice A l.length c, .slice K l.length kc, .slice I its0.length ic].toArray [HR gh gc n] [.zone true h, CN gc k] (fun u : {u : Nat × Zh × Nat // LeZ h u.2.1 ∧ u.2.2 ≤ k + l.length + its0.length} => errV (showR n root l t) u.1.1) (fun u => .zone true u.1.2.1 :: CN gc u.1.2.2 :: errB (showR n root l t) u.1.1) := by
 have hke := (claimsR_ok hC).1
 have hkl := keysC_len l
 obtain ⟨es, b, hE⟩ : ∃ es b, endsM t (keysC l) 0 = (es, b) := ⟨_, _, rfl⟩
 have hel : es.length ≤ l.length := by
  have h1 := endsM_len t (keysC l) 0
  rw [hE, hkl] at h1
  exact h1
 have hEn := Ends_s h its0 I ic hic hil (keysC l) K kc t hp (by omega) (by omega) hke es b hE
 rw [hkl] at hEn
 have hcost := parse_cost hp
 obtain ⟨r, hR⟩ : ∃ r, showR n root l t = r := ⟨_, rfl⟩
 rw [hR]
 unfold showR at hR
 rw [hE] at hR
 dsimp only at hR
 cases b
 ·obtain rfl : some (0, 12) = r := hR
  replace hEn : Spec Tryz.prog 153 [.slice I its0.length ic, .slice K l.length kc].toArray [.zone false h] [] (fun u : Option Addr × Nat => .tuple #[.slice none 0 0, .int .i64 12]) (fun u => []) := hEn
  refine spec_of Tryz.func101 rfl (n := 46) rfl rfl ?_
  intro W
  refine yR ?_
  refine h_opX (x_box1 rfl) fun g5 => ?_
  refine h_opX (x_box rfl) fun g6 => ?_
  refine h_opX (x_box1 rfl) fun g7 => ?_
  refine h_opX (x_box1 rfl) fun g8 => ?_
  refine yS rfl ?_
  refine yN ?_
  refine yR ?_
  refine yM rfl ?_
  refine h_op (r_loadc rfl) ?_
  refine h_call (hEn.comes) rfl rfl rfl fun _ => ?_
  refine yM rfl ?_
  refine h_op (r_extract rfl rfl) ?_
  refine h_op (r_extract rfl rfl) ?_
  refine yS rfl ?_
  refine yS rfl ?_
  refine yN ?_
  refine h_seq ?_
  refine yR ?_
  refine yM rfl ?_
  refine h_op (r_neq rfl rfl) ?_
  refine yN ?_
  refine h_yes rfl ((show ¬ (12 : Int) = 0 by decide)) ?_
  refine yR ?_
  refine yM rfl ?_
  refine h_call ((mFail_s 0 12 (by decide)).comes) rfl rfl rfl fun g25 => ?_
  refine yS rfl ?_
  refine yN ?_
  refine h_ret ?_
  refine q_thenR ?_
  exact h_ret1 rfl rfl fun w s => ⟨⟨(g25, h, k), LeZ.refl h, by dsimp only; omega⟩, rfl, (same (L' := [.zone true h, CN gc k, .blk g25 (fltC batchB 0 12) 178]) w s).res (List.Sublist.refl _) (by simp [Fa.wr, errB])⟩
 ·rw [if_pos rfl] at hR
  replace hEn : Spec Tryz.prog 153 [.slice I its0.length ic, .slice K l.length kc].toArray [.zone false h] [] (fun u : Option Addr × Nat => .tuple #[.slice u.1 es.length u.2, .int .i64 0]) (fun u => [.own (.slice u.1 es.length u.2) es.length 250 98 (endC es)]) := hEn
  refine spec_of Tryz.func101 rfl (n := 46) rfl rfl ?_
  intro W
  refine yR ?_
  refine h_opX (x_box1 rfl) fun g5 => ?_
  refine h_opX (x_box rfl) fun g6 => ?_
  refine h_opX (x_box1 rfl) fun g7 => ?_
  refine h_opX (x_box1 rfl) fun g8 => ?_
  refine yS rfl ?_
  refine yN ?_
  refine yR ?_
  refine yM rfl ?_
  refine h_op (r_loadc rfl) ?_
  refine h_call (hEn.comes) rfl rfl rfl fun ⟨A19, c19⟩ => ?_
  dsimp only
  refine h_freezeO (.slice A19 es.length c19) fun h2 B2 c2 e2 hle2 hlen2 hnil2 hz2 hr2 => ?_
  injection e2 with e2 _ e3
  subst e2 e3
  have hT2 : RdZ h2 (some ⟨1, 0, none⟩) hashT := hT.mono hz2
  have hr2' : RdZ h2 A (cbs l) := hr.mono hz2
  have hK2 : RdZ h2 K (dgs (keysC l)) := hK.mono hz2
  have hI2 : RdZ h2 I (its its0) := hI.mono hz2
  refine yM rfl ?_
  refine h_op (r_extract rfl rfl) ?_
  refine h_op (r_extract rfl rfl) ?_
  refine yS rfl ?_
  refine yS rfl ?_
  refine yN ?_
  refine h_seq ?_
  refine yR ?_
  refine yM rfl ?_
  refine h_op (r_neq rfl rfl) ?_
  refine yN ?_
  refine h_no rfl ((fun h => h rfl)) ?_
  have hF := first3_s n hn h2 gh gc l A c (hz.mono hz2) hvl hll K kc g7 g5 g8 k hk es A19 c19 hel _ rfl
  obtain ⟨f, hf⟩ : ∃ f, firstF (showE n es l) es.length 0 = f := ⟨_, rfl⟩
  rw [hf] at hF hR
  rcases f with _ | ⟨i, e⟩
  ·replace hF : Spec Tryz.prog 154 [.slice A19 es.length c19, .func (.func 155) #[] #[.pointer (some ⟨g7, 0, none⟩), .pointer (some ⟨g5, 0, none⟩), .pointer (some ⟨g8, 0, none⟩)]].toArray [HR gh gc n, .zone false h2, .rd (some ⟨g7, 0, none⟩) [.slice A l.length c], .rd (some ⟨g5, 0, none⟩) [.pointer (some ⟨gh, 0, none⟩)], .rd (some ⟨g8, 0, none⟩) [.slice K l.length kc]] [CN gc k] (fun u : {u : Nat × Nat // u.2 ≤ k + es.length} => .nilIface) (fun u => [CN gc u.1.2]) := hF
   refine h_skip ?_
   refine q_then ?_
   refine yR ?_
   refine yM rfl ?_
   refine h_op (r_func rfl rfl) ?_
   refine h_call (hF.comes) rfl rfl rfl fun ⟨⟨g28, k1⟩, hk1⟩ => ?_
   dsimp only at hk1 ⊢
   have hRo := mRoot_s h2 n hn gh gc k1 (by omega) its0 I ic hic hil t hp
   refine yS rfl ?_
   refine yN ?_
   refine h_seq ?_
   refine yR ?_
   refine yM rfl ?_
   refine h_op (r_nilnn rfl) ?_
   refine yN ?_
   refine h_condF rfl ?_
   refine h_skip ?_
   refine q_then ?_
   refine h_seq ?_
   refine yR ?_
   refine h_op (r_loadc rfl) ?_
   refine yM rfl ?_
   refine h_call (hRo.comes) rfl rfl rfl fun _ => ?_
   by_cases hd : dgS n t = root
   ·obtain rfl : none = r := by rw [← hR]; dsimp only; rw [if_pos hd]
    refine yM rfl ?_
    refine h_op (r_extract rfl rfl) ?_
    refine h_op (r_extract rfl rfl) ?_
    refine h_opX (x_alloc) fun g14 => ?_
    refine h_opS (s_storer rfl rfl) ?_
    refine yS rfl ?_
    refine yN ?_
    refine yR ?_
    refine yM rfl ?_
    refine h_op (r_bool (r_neq rfl rfl) (decide_eq_false (fun h => h rfl))) ?_
    refine yM rfl ?_
    refine h_op (r_loadr rfl) ?_
    refine h_op (r_loadr rfl) ?_
    refine h_op (r_bool (r_ner rfl rfl) (decide_eq_false (fun h => h hd))) ?_
    refine h_op (r_pick rfl rfl) ?_
    refine yN ?_
    refine h_condF rfl ?_
    refine h_skip ?_
    refine q_then ?_
    refine yR ?_
    refine yS rfl ?_
    refine yN ?_
    refine h_ret ?_
    exact h_ret1 rfl rfl fun w s => ⟨⟨(0, h2, k1 + t.cost), hz2, by dsimp only; omega⟩, rfl, (same (L' := [.zone true h2, CN gc (k1 + t.cost)]) w s).res (List.Sublist.refl _) (by simp [Fa.wr, errB])⟩
   ·obtain rfl : some (0, 13) = r := by rw [← hR]; dsimp only; rw [if_neg hd]
    refine yM rfl ?_
    refine h_op (r_extract rfl rfl) ?_
    refine h_op (r_extract rfl rfl) ?_
    refine h_opX (x_alloc) fun g14 => ?_
    refine h_opS (s_storer rfl rfl) ?_
    refine yS rfl ?_
    refine yN ?_
    refine yR ?_
    refine yM rfl ?_
    refine h_op (r_bool (r_neq rfl rfl) (decide_eq_false (fun h => h rfl))) ?_
    refine yM rfl ?_
    refine h_op (r_loadr rfl) ?_
    refine h_op (r_loadr rfl) ?_
    refine h_op (r_bool (r_ner rfl rfl) (decide_eq_true hd)) ?_
    refine h_op (r_pick rfl rfl) ?_
    refine yN ?_
    refine h_condT rfl ?_
    refine yR ?_
    refine h_call ((mFail_s 0 13 (by decide)).comes) rfl rfl rfl fun g45 => ?_
    refine yS rfl ?_
    refine yN ?_
    refine h_ret ?_
    refine q_thenR ?_
    exact h_ret1 rfl rfl fun w s => ⟨⟨(g45, h2, k1 + t.cost), hz2, by dsimp only; omega⟩, rfl, (same (L' := [.zone true h2, CN gc (k1 + t.cost), .blk g45 (fltC batchB 0 13) 178]) w s).res (List.Sublist.refl _) (by simp [Fa.wr, errB])⟩
  ·obtain rfl : some (i, e) = r := hR
   replace hF : Spec Tryz.prog 154 [.slice A19 es.length c19, .func (.func 155) #[] #[.pointer (some ⟨g7, 0, none⟩), .pointer (some ⟨g5, 0, none⟩), .pointer (some ⟨g8, 0, none⟩)]].toArray [HR gh gc n, .zone false h2, .rd (some ⟨g7, 0, none⟩) [.slice A l.length c], .rd (some ⟨g5, 0, none⟩) [.pointer (some ⟨gh, 0, none⟩)], .rd (some ⟨g8, 0, none⟩) [.slice K l.length kc]] [CN gc k] (fun u : {u : Nat × Nat // u.2 ≤ k + es.length} => .iface 174 (.pointer (some ⟨u.1.1, 0, none⟩))) (fun u => [CN gc u.1.2, .blk u.1.1 (fltC batchB (i : Int) e) 178]) := hF
   refine h_skip ?_
   refine q_then ?_
   refine yR ?_
   refine yM rfl ?_
   refine h_op (r_func rfl rfl) ?_
   refine h_call (hF.comes) rfl rfl rfl fun ⟨⟨g28, k1⟩, hk1⟩ => ?_
   dsimp only at hk1 ⊢
   refine yS rfl ?_
   refine yN ?_
   refine h_seq ?_
   refine yR ?_
   refine yM rfl ?_
   refine h_op (r_ifnn rfl) ?_
   refine yN ?_
   refine h_condT rfl ?_
   refine yR ?_
   refine yM rfl ?_
   refine yS rfl ?_
   refine yN ?_
   refine h_ret ?_
   refine q_thenR ?_
   exact h_ret1 rfl rfl fun w s => ⟨⟨(g28, h2, k1), hz2, by dsimp only; omega⟩, rfl, (same (L' := [.zone true h2, CN gc k1, .blk g28 (fltC batchB (i : Int) e) 178]) w s).res (List.Sublist.refl _) (by simp [Fa.wr, errB])⟩
end
end Go.Proofs.YtjhocljhhpkiiaaGreatDoor
/- U72 -/
namespace Go.Proofs.YtjhocljhhpkiiaaGreatDoor
open Go.RowKit
end Go.Proofs.YtjhocljhhpkiiaaGreatDoor
/- U73 -/
namespace Go.Proofs.YtjhocljhhpkiiaaGreatDoor
open Go.RowKit
end Go.Proofs.YtjhocljhhpkiiaaGreatDoor
/- U74 -/
namespace Go.Proofs.YtjhocljhhpkiiaaGreatDoor
open Go.RowKit
end Go.Proofs.YtjhocljhhpkiiaaGreatDoor
/- U79 -/
namespace Go.Proofs.YtjhocljhhpkiiaaGreatDoor
open Go.RowKit
theorem Few19_s (l : List Item) (A : Option Addr) (c : Nat) : Spec Tryz.prog 37 [.slice A l.length c].toArray [] [] (fun _ : Unit => .int .i64 (if l.length ≤ 1200 then 1 else 0)) (fun _ => []) := by
 refine spec_of Tryz.func37 rfl (n := 6) rfl rfl ?_
 intro W
 by_cases h : l.length ≤ 1200
 ·rw [if_pos h]
  refine yR ?_
  refine yS rfl ?_
  refine yN ?_
  refine h_seq ?_
  refine yR ?_
  refine yM rfl ?_
  refine h_op (r_len rfl) ?_
  refine h_op (r_gtr rfl rfl) ?_
  refine yN ?_
  refine h_no rfl ((by omega)) ?_
  refine h_skip ?_
  refine q_then ?_
  refine yR ?_
  refine yS rfl ?_
  refine yN ?_
  refine h_ret ?_
  exact h_ret1 rfl rfl fun w s => ⟨(), rfl, s.res (List.nil_sublist _) (by simp)⟩
 ·rw [if_neg h]
  refine yR ?_
  refine yS rfl ?_
  refine yN ?_
  refine h_seq ?_
  refine yR ?_
  refine yM rfl ?_
  refine h_op (r_len rfl) ?_
  refine h_op (r_gtr rfl rfl) ?_
  refine yN ?_
  refine h_yes rfl ((by omega)) ?_
  refine yR ?_
  refine yS rfl ?_
  refine yN ?_
  refine h_ret ?_
  refine q_thenR ?_
  exact h_ret1 rfl rfl fun w s => ⟨(), rfl, s.res (List.nil_sublist _) (by simp)⟩
end Go.Proofs.YtjhocljhhpkiiaaGreatDoor
/- U47 -/
namespace Go.Proofs.YtjhocljhhpkiiaaGreatDoor
open Go.RowKit
theorem fill_kB (x : UInt8) : Instr.fill (plArr 1) zB32.cells.toArray [(0, Value.int .u8 (x.toNat : Int))] = some (kB x).cells.toArray := by kernel_rfl
end Go.Proofs.YtjhocljhhpkiiaaGreatDoor
/- U81 -/
namespace Go.Proofs.YtjhocljhhpkiiaaGreatDoor
open Go.RowKit
def L1 : List En := [⟨⟨zB32, ⟨none, 0, 0⟩⟩, []⟩]
end Go.Proofs.YtjhocljhhpkiiaaGreatDoor
/- U82 -/
namespace Go.Proofs.YtjhocljhhpkiiaaGreatDoor
open Go.RowKit
theorem checkM_ok {l : List Item} {t : Sub} (h : parseM l = .ok t) : checkM l = 0 := by unfold checkM; rw [h]
theorem checkM_bad {l : List Item} {e : Int} (h : parseM l = .error e) : checkM l = e := by unfold checkM; rw [h]
theorem parse_err {l : List Item} {e : Int} (h : parseM l = .error e) : e ≠ 0 := by
 unfold parseM at h
 split at h
 ·split at h
  ·split at h
   ·cases h
   ·injection h with h; omega
  ·injection h with h; omega
 ·injection h with h; omega
end Go.Proofs.YtjhocljhhpkiiaaGreatDoor
/- U124 -/
namespace Go.Proofs.YtjhocljhhpkiiaaGreatDoor
open Go.RowKit
section
variable (n : Nat) (hn : n ≤ 256) (h : Zh) [hT : RdZ h (some ⟨1, 0, none⟩) hashT] (gh gc : Nat) (l : List CB) (A : Option Addr) (c : Nat) [hr : RdZ h A (cbs l)] (hz : ClsZ h l) (hvl : ∀ x ∈ l, x.vb.length ≤ 100000000) (hll : l.length ≤ 100000)
include hn hz hvl hll
def accM (n : Nat) (root : B32) (l : List CB) (its0 : List Item) : Bool := decide (claimsR l = none) && match parseM its0 with
 | .ok t => decide (showR n root l t = none)
 | .error _ => false
theorem mvAccepts_s (k : Nat) (hk : k ≤ 100000000) (root : B32) (its0 : List Item) (I : Option Addr) (ic : Nat) [hI : RdZ h I (its its0)] (hic : its0.length ≤ ic) (hil : its0.length ≤ 1000000) : Spec Tryz.prog 46 [.pointer (some ⟨gh, 0, none⟩), .agg root.cells.toArray, .slice A l.length c, .slice I its0.length ic].toArray [HR gh gc n] [.zone true h, CN gc k] (fun u : {u : Zh × Nat // LeZ h u.1 ∧ u.2 ≤ k + l.length + its0.length} => .bool (accM n root l its0)) (fun u => [.zone true u.1.1, CN gc u.1.2]) := by
 have hC := mClaims_s h l A c (by omega) hz _ rfl
 refine spec_of Tryz.func46 rfl (n := 32) rfl rfl ?_
 intro W
 refine yR ?_
 refine h_opX (x_box rfl) fun g5 => ?_
 refine yS rfl ?_
 refine yN ?_
 refine yR ?_
 refine yM rfl ?_
 obtain ⟨r1, hr1⟩ : ∃ r1, claimsR l = r1 := ⟨_, rfl⟩
 rw [hr1] at hC
 rcases r1 with _ | ⟨i, e⟩
 ·replace hC : Spec Tryz.prog 56 [.slice A l.length c].toArray [.zone false h] [] (fun g : Nat => .tuple #[.slice (some ⟨g, 0, none⟩) l.length l.length, .nilIface]) (fun g => [.own (.slice (some ⟨g, 0, none⟩) l.length l.length) l.length 35 32 (dgs (keysC l))]) := hC
  refine h_call (hC.comes) rfl rfl rfl fun g13 => ?_
  refine h_freezeO (.slice (some ⟨g13, 0, none⟩) l.length l.length) fun h2 B2 c2 e2 hle2 hlen2 hnil2 hz2 hr2 => ?_
  injection e2 with e2 _ e3
  subst e2 e3
  have hT2 : RdZ h2 (some ⟨1, 0, none⟩) hashT := hT.mono hz2
  have hr2' : RdZ h2 A (cbs l) := hr.mono hz2
  have hI2 : RdZ h2 I (its its0) := hI.mono hz2
  have hM := mCheck_s h2 its0 I ic hic hil
  rcases hp : parseM its0 with e | t
  ·have hne := parse_err hp
   rw [checkM_bad hp] at hM
   rw [show accM n root l its0 = false by unfold accM; rw [hp]; exact Bool.and_false _]
   refine yM rfl ?_
   refine h_op (r_extract rfl rfl) ?_
   refine h_op (r_extract rfl rfl) ?_
   refine yS rfl ?_
   refine yS rfl ?_
   refine yN ?_
   refine yR ?_
   refine yM rfl ?_
   refine h_op (r_nilnil rfl) ?_
   refine yM rfl ?_
   refine yM rfl ?_
   refine h_call (hM.comes) rfl rfl rfl fun _ => ?_
   refine h_op (r_bool (r_eql rfl rfl) (decide_eq_false hne)) ?_
   refine h_op (r_pick rfl rfl) ?_
   refine yM rfl ?_
   refine h_opOff ?_
   refine h_opOff ?_
   refine h_opOff ?_
   refine h_opOff ?_
   refine h_opOff ?_
   refine h_opOff ?_
   refine h_opOff ?_
   refine h_op (r_pick rfl rfl) ?_
   refine yS rfl ?_
   refine yN ?_
   refine h_ret ?_
   exact h_ret1 rfl rfl fun w s => ⟨⟨(h2, k), hz2, by dsimp only; omega⟩, rfl, (same (L' := [.zone true h2, CN gc k]) w s).res (List.Sublist.refl _) (by simp [Fa.wr])⟩
  ·rw [checkM_ok hp] at hM
   have hS := show_s n hn h2 gh gc l A c (hz.mono hz2) hvl hll (some ⟨g13, 0, none⟩) l.length (Nat.le_refl _) k hk root hr1 its0 I ic hic hil t hp
   have ha : accM n root l its0 = decide (showR n root l t = none) := by unfold accM; rw [hp, decide_eq_true hr1]; exact Bool.true_and _
   rw [ha]
   generalize showR n root l t = r at *
   refine yM rfl ?_
   refine h_op (r_extract rfl rfl) ?_
   refine h_op (r_extract rfl rfl) ?_
   refine yS rfl ?_
   refine yS rfl ?_
   refine yN ?_
   refine yR ?_
   refine yM rfl ?_
   refine h_op (r_nilnil rfl) ?_
   refine yM rfl ?_
   refine yM rfl ?_
   refine h_call (hM.comes) rfl rfl rfl fun _ => ?_
   refine h_op (r_bool (r_eql rfl rfl) (decide_eq_true rfl)) ?_
   refine h_op (r_pick rfl rfl) ?_
   refine yM rfl ?_
   refine yM rfl ?_
   refine h_op (r_loadr rfl) ?_
   refine yM rfl ?_
   refine yM rfl ?_
   refine yM rfl ?_
   refine h_call (hS.comes) rfl rfl rfl fun ⟨⟨g29, h3, k3⟩, hle3, hk3⟩ => ?_
   dsimp only at hle3 hk3 ⊢
   rcases r with _ | ⟨i9, e9⟩
   ·change H _ _ _ _ _ (.zone true h3 :: CN gc k3 :: _) _
    refine h_op (r_nilnil rfl) ?_
    refine h_op (r_pick rfl rfl) ?_
    refine yS rfl ?_
    refine yN ?_
    refine h_ret ?_
    exact h_ret1 rfl rfl fun w s => ⟨⟨(h3, k3), hz2.trans hle3, by dsimp only; omega⟩, rfl, (same (L' := [.zone true h3, CN gc k3]) w s).res (List.Sublist.refl _) (by simp [Fa.wr])⟩
   ·change H _ _ _ _ _ (.zone true h3 :: CN gc k3 :: .blk g29 (fltC batchB (i9 : Int) e9) _ :: _) _
    refine h_op (r_ifnil rfl) ?_
    refine h_op (r_pick rfl rfl) ?_
    refine yS rfl ?_
    refine yN ?_
    refine h_ret ?_
    exact h_ret1 rfl rfl fun w s => ⟨⟨(h3, k3), hz2.trans hle3, by dsimp only; omega⟩, rfl, (same (L' := [.zone true h3, CN gc k3]) w s).res (List.Sublist.refl _) (by simp [Fa.wr])⟩
 ·replace hC : Spec Tryz.prog 56 [.slice A l.length c].toArray [.zone false h] [] (fun g : Nat => .tuple #[.slice none 0 0, .iface 174 (.pointer (some ⟨g, 0, none⟩))]) (fun g => [.blk g (fltC batchB (i : Int) e) 178]) := hC
  rw [show accM n root l its0 = false by unfold accM; rw [hr1, decide_eq_false (by simp)]; rfl]
  refine h_call (hC.comes) rfl rfl rfl fun g13 => ?_
  refine yM rfl ?_
  refine h_op (r_extract rfl rfl) ?_
  refine h_op (r_extract rfl rfl) ?_
  refine yS rfl ?_
  refine yS rfl ?_
  refine yN ?_
  refine yR ?_
  refine yM rfl ?_
  refine h_op (r_ifnil rfl) ?_
  refine yM rfl ?_
  refine h_opOff ?_
  refine h_opOff ?_
  refine h_opOff ?_
  refine h_op (r_pick rfl rfl) ?_
  refine yM rfl ?_
  refine h_opOff ?_
  refine h_opOff ?_
  refine h_opOff ?_
  refine h_opOff ?_
  refine h_opOff ?_
  refine h_opOff ?_
  refine h_opOff ?_
  refine h_op (r_pick rfl rfl) ?_
  refine yS rfl ?_
  refine yN ?_
  refine h_ret ?_
  exact h_ret1 rfl rfl fun w s => ⟨⟨(h, k), LeZ.refl h, by dsimp only; omega⟩, rfl, (same (L' := [.zone true h, CN gc k]) w s).res (List.Sublist.refl _) (by simp [Fa.wr])⟩
end
end Go.Proofs.YtjhocljhhpkiiaaGreatDoor
/- U114 -/
namespace Go.Proofs.YtjhocljhhpkiiaaGreatDoor
open Go.RowKit
end Go.Proofs.YtjhocljhhpkiiaaGreatDoor
/- E31 -/
namespace Go.Proofs.YtjhocljhhpkiiaaGreatDoor
open Go.RowKit
abbrev cb21 (B : Option Addr) (c : Nat) : CB := ⟨⟨⟨B, 32, c⟩, ⟨none, 0, 0⟩, false⟩, kb18, []⟩
theorem claims21 (B : Option Addr) (c : Nat) : claimsR [cb21 B c] = none := rfl
theorem parse21 : parseM [zItem] = .ok (.one zItem) := by kernel_rfl
theorem ends21 (ks : List B32) (h : ks.length = 1) : endsM (.one zItem) ks 0 = (ks.map fun _ => (zItem, 0), true) := by
 unfold endsM
 rfl
end Go.Proofs.YtjhocljhhpkiiaaGreatDoor
/- U86 -/
namespace Go.Proofs.YtjhocljhhpkiiaaGreatDoor
open Go.RowKit
end Go.Proofs.YtjhocljhhpkiiaaGreatDoor
/- U125 -/
namespace Go.Proofs.YtjhocljhhpkiiaaGreatDoor
open Go.RowKit
theorem cmpL_eq : ∀ {a b : List UInt8}, a.length = b.length → (cmpL a b = 0 ↔ a = b)
 | [], [], _ => by simp [cmpL]
 | [], _ :: _, h => by cases h
 | _ :: _, [], h => by cases h
 | x :: a, y :: b, h => by
  have ih := cmpL_eq (a := a) (b := b) (by simpa using h)
  unfold cmpL
  by_cases h1 : x < y
  ·rw [if_pos h1]
   refine ⟨fun h => absurd h (by decide), fun h => ?_⟩
   injection h with h _
   subst h
   exact absurd h1 (UInt8.lt_irrefl x)
  ·rw [if_neg h1]
   by_cases h2 : y < x
   ·rw [if_pos h2]
    refine ⟨fun h => absurd h (by decide), fun h => ?_⟩
    injection h with h _
    subst h
    exact absurd h2 (UInt8.lt_irrefl x)
   ·rw [if_neg h2, ih]
    have hxy : x = y := UInt8.le_antisymm (UInt8.not_lt.1 h2) (UInt8.not_lt.1 h1)
    subst hxy
    simp
theorem cmpB_eq {a b : B32} : cmpB a b = 0 ↔ a = b := (cmpL_eq (by rw [a.2, b.2])).trans ⟨fun h => Subtype.ext h, fun h => congrArg Subtype.val h⟩
section
variable (h : Zh) (l : List CB) (A : Option Addr) (c : Nat) [hr : RdZ h A (cbs l)] (hl : l.length ≤ 1000000000) (hz : ClsZ h l)
include hl hz
theorem rClaims21_s (r : Option (Nat × Int)) (hR : claimsR l = r) : Spec Tryz.prog 39 [.slice A l.length c].toArray [.zone false h] [] (fun _ : Unit => .tuple #[.int .i64 (scOf r).1, .int .i64 (scOf r).2]) (fun _ => []) := by
 unfold claimsR at hR
 by_cases h0 : l.length = 0
 ·rw [if_pos h0] at hR
  subst hR
  refine spec_of Tryz.func39 rfl (n := 59) rfl rfl ?_
  intro W
  refine yR ?_
  refine yS rfl ?_
  refine yS rfl ?_
  refine yN ?_
  refine h_seq ?_
  refine yR ?_
  refine yM rfl ?_
  refine h_op (r_len rfl) ?_
  refine h_op (r_eql rfl rfl) ?_
  refine yN ?_
  refine h_yes rfl ((show ((l.length : Nat) : Int) = 0 by omega)) ?_
  refine yR ?_
  refine yS rfl ?_
  refine yS rfl ?_
  refine yN ?_
  refine h_ret ?_
  refine q_thenR ?_
  exact h_ret2 rfl rfl rfl fun w s => ⟨(), rfl, s.res (List.nil_sublist _) (by simp)⟩
 rw [if_neg h0] at hR
 by_cases h1 : 65535 < l.length
 ·rw [if_pos h1] at hR
  subst hR
  refine spec_of Tryz.func39 rfl (n := 59) rfl rfl ?_
  intro W
  refine yR ?_
  refine yS rfl ?_
  refine yS rfl ?_
  refine yN ?_
  refine h_seq ?_
  refine yR ?_
  refine yM rfl ?_
  refine h_op (r_len rfl) ?_
  refine h_op (r_eql rfl rfl) ?_
  refine yN ?_
  refine h_no rfl ((show ¬ ((l.length : Nat) : Int) = 0 by omega)) ?_
  refine h_skip ?_
  refine q_then ?_
  refine h_seq ?_
  refine yR ?_
  refine yM rfl ?_
  refine h_op (r_len rfl) ?_
  refine h_op (r_gtr rfl rfl) ?_
  refine yN ?_
  refine h_yes rfl ((show (65535 : Int) < ((l.length : Nat) : Int) by omega)) ?_
  refine yR ?_
  refine yS rfl ?_
  refine yS rfl ?_
  refine yN ?_
  refine h_ret ?_
  refine q_thenR ?_
  exact h_ret2 rfl rfl rfl fun w s => ⟨(), rfl, s.res (List.nil_sublist _) (by simp)⟩
 rw [if_neg h1] at hR
 refine spec_of Tryz.func39 rfl (n := 59) rfl rfl ?_
 intro W
 refine yR ?_
 refine yS rfl ?_
 refine yS rfl ?_
 refine yN ?_
 refine h_seq ?_
 refine yR ?_
 refine yM rfl ?_
 refine h_op (r_len rfl) ?_
 refine h_op (r_eql rfl rfl) ?_
 refine yN ?_
 refine h_no rfl ((show ¬ ((l.length : Nat) : Int) = 0 by omega)) ?_
 refine h_skip ?_
 refine q_then ?_
 refine h_seq ?_
 refine yR ?_
 refine yM rfl ?_
 refine h_op (r_len rfl) ?_
 refine h_op (r_gtr rfl rfl) ?_
 refine yN ?_
 refine h_no rfl ((show ¬ (65535 : Int) < ((l.length : Nat) : Int) by omega)) ?_
 refine h_skip ?_
 refine q_then ?_
 refine h_seq ?_
 refine yR ?_
 refine yS rfl ?_
 refine yN ?_
 refine h_block ?_
 refine h_loop (fun (i : Nat) => i ≤ l.length ∧ ∀ j, j < i → claimE (l.getD j zCB).c = 0) (fun (i : Nat) => [(4, .int .i64 (i : Int)), (0, .slice A l.length c)]) (fun (i : Nat) => [.zone false h]) (fun (i : Nat) => l.length - i) 0 (⟨Nat.zero_le _, fun j hj => absurd hj (Nat.not_lt_zero _)⟩) ⟨rfl, rfl, trivial⟩ (same) ?_
 rintro i ⟨hi, hz'⟩
 refine h_seq ?_
 refine yR ?_
 refine yM rfl ?_
 refine yM rfl ?_
 refine h_op (r_len rfl) ?_
 refine h_op (r_lss rfl rfl) ?_
 refine yN ?_
 refine h_cond rfl (fun hlt => ?_) (fun hlt => ?_)
 ·have hi2 : i < l.length := by omega
  have hx := getD_get zCB hi2
  have hz0 : ∀ j, 0 ≤ j → j < i → claimE (l.getD j zCB).c = 0 := fun j _ hj => hz' j hj
  obtain ⟨b, o, rfl, -⟩ := hr.at_ (i * 3) _ (cbs_at hx 0 _ rfl)
  have hxe : (l.getD i zCB).c = (l.getD i zCB).c := rfl
  obtain ⟨x, hxx⟩ : ∃ x, l.getD i zCB = x := ⟨_, rfl⟩
  rw [hxx] at hx
  refine h_skip ?_
  refine q_then ?_
  refine h_seq ?_
  refine h_block ?_
  refine yR ?_
  refine yM rfl ?_
  refine yM rfl ?_
  refine h_op (r_idx rfl rfl) ?_
  refine h_op (r_nthr rfl (out := x.c.cells) (Claim.cells_length _) (cbs_at hx)) ?_
  refine h_call ((rClaim18_s x.c).comes) rfl rfl rfl fun _ => ?_
  by_cases hc0 : claimE x.c = 0
  ·rw [hc0]
   refine yM rfl ?_
   refine h_op (r_extract rfl rfl) ?_
   refine h_op (r_extract rfl rfl) ?_
   refine yS rfl ?_
   refine yS rfl ?_
   refine yN ?_
   refine yR ?_
   refine yM rfl ?_
   refine h_op (r_neq rfl rfl) ?_
   refine yN ?_
   refine h_no rfl ((fun h => h rfl)) ?_
   refine h_skip ?_
   refine q_block ?_
   refine q_then ?_
   refine h_reg ?_
   refine yM rfl ?_
   refine h_op (r_add rfl rfl) ?_
   refine yS rfl ?_
   refine h_nil ?_
   exact h_back (i + 1) (⟨hi2, fun j hj => (Nat.lt_or_ge j i).elim (hz' j) fun h8 => by (obtain rfl : j = i := by omega); rw [hxx]; exact hc0⟩) ((show l.length - (i + 1) < l.length - i by omega)) ⟨rfl, rfl, trivial⟩ (same)
  ·rw [firstF_some (fun i => claimE (l.getD i zCB).c) i (by rw [hxx]; exact hc0) l.length 0 (Nat.zero_le _) (by omega) hz0, hxx] at hR
   dsimp only at hR
   subst hR
   refine yM rfl ?_
   refine h_op (r_extract rfl rfl) ?_
   refine h_op (r_extract rfl rfl) ?_
   refine yS rfl ?_
   refine yS rfl ?_
   refine yN ?_
   refine yR ?_
   refine yM rfl ?_
   refine h_op (r_neq rfl rfl) ?_
   refine yN ?_
   refine h_yes rfl (hc0) ?_
   refine yR ?_
   refine yM rfl ?_
   refine yM rfl ?_
   refine yS rfl ?_
   refine yS rfl ?_
   refine yN ?_
   refine h_ret ?_
   refine q_blockR ?_
   refine q_thenR ?_
   refine q_thenR ?_
   refine q_blockR ?_
   refine q_thenR ?_
   exact h_ret2 rfl rfl rfl fun w s => ⟨(), rfl, s.res (List.nil_sublist _) (by simp)⟩
 ·obtain rfl : i = l.length := by omega
  rw [firstF_none (fun i => claimE (l.getD i zCB).c) _ _ (fun j _ hj => hz' j (by omega))] at hR
  dsimp only at hR
  have hok : ∀ i, i < l.length → (l.getD i zCB).kb.length = 32 := fun i hi => by
   have h1 := hz' i hi
   have h2 := (hz.get hi).1.len
   unfold claimE at h1
   split at h1
   ·omega
   ·cases h1
  refine h_exit ?_
  refine q_thenE ?_
  refine q_thenE ?_
  refine q_blockE ?_
  refine q_then ?_
  refine h_seq ?_
  refine yR ?_
  refine yS rfl ?_
  refine yN ?_
  refine h_block ?_
  refine h_loop (fun (k : Nat) => (1 ≤ k ∧ k ≤ l.length) ∧ ∀ j, j < k → neighE (keysC l) j = 0) (fun (k : Nat) => [(7, .int .i64 (k : Int)), (0, .slice A l.length c)]) (fun (k : Nat) => [.zone false h]) (fun (k : Nat) => l.length - k) 1 (⟨⟨Nat.le_refl _, by omega⟩, fun j hj => by (obtain rfl : j = 0 := by omega); exact if_pos rfl⟩) ⟨rfl, rfl, trivial⟩ (same) ?_
  rintro k ⟨⟨hk1, hk⟩, hzk⟩
  refine h_seq ?_
  refine yR ?_
  refine yM rfl ?_
  refine yM rfl ?_
  refine h_op (r_len rfl) ?_
  refine h_op (r_lss rfl rfl) ?_
  refine yN ?_
  refine h_cond rfl (fun hlt2 => ?_) (fun hlt2 => ?_)
  ·obtain ⟨m, rfl⟩ : ∃ m, k = m + 1 := ⟨k - 1, by omega⟩
   have hm1 : m < l.length := by omega
   have hm2 : m + 1 < l.length := by omega
   have hx := getD_get zCB hm1
   have hy := getD_get zCB hm2
   have hxl := hok m hm1
   have hyl := hok (m + 1) hm2
   have hxz := (hz.get hm1).1
   have hyz := (hz.get hm2).1
   have hz0 : ∀ j, 0 ≤ j → j < m + 1 → neighE (keysC l) j = 0 := fun j _ hj => hzk j hj
   have hn : neighE (keysC l) (m + 1) = if cmpB ((keysC l).getD m zB32) ((keysC l).getD (m + 1) zB32) < 0 then 0 else if (keysC l).getD m zB32 = (keysC l).getD (m + 1) zB32 then 9 else 8 := rfl
   rw [List.getD_eq_getElem?_getD (l := keysC l), keysC_get hm1, List.getD_eq_getElem?_getD (l := keysC l), keysC_get hm2, Option.getD_some, Option.getD_some] at hn
   obtain ⟨b, o, rfl, -⟩ := hr.at_ (m * 3) _ (cbs_at hx 0 _ rfl)
   generalize l.getD m zCB = x at *
   generalize l.getD (m + 1) zCB = y at *
   have hxn := hxz.len
   have hyn := hyz.len
   have hxr : RdZ h x.c.key.A (bc x.kb) := hxz.rd
   have hyr : RdZ h y.c.key.A (bc y.kb) := hyz.rd
   have e1 := cbs_at hx 0 _ rfl
   have e2 := cbs_at hy 0 _ rfl
   obtain ⟨⟨⟨xA, xn, xc⟩, xv, xp⟩, xb, xw⟩ := x
   obtain ⟨⟨⟨yA, yn, yc⟩, yv, yp⟩, yb, yw⟩ := y
   dsimp only at hxl hyl hxn hyn hxr hyr e1 e2 hn
   subst hxn hyn
   generalize hkx : keyOf xb = kx at *
   generalize hky : keyOf yb = ky at *
   have o1 := rOf_s xb xA xc hxl
   have o2 := rOf_s yb yA yc hyl
   rw [hkx] at o1
   rw [hky] at o2
   refine h_skip ?_
   refine q_then ?_
   refine h_seq ?_
   refine h_block ?_
   refine h_seq ?_
   refine ha_start [.zone false h] [] mixed (same) ?_
   refine ha_takeP 0 rfl (r_move rfl) ?_
   refine ha_takeP 1 rfl (r_move rfl) ?_
   refine ha_takeP 2 rfl (r_subN rfl rfl (m := m) (hm := by omega)) ?_
   refine ha_takeP 3 rfl (r_idx rfl rfl) ?_
   refine ha_takeP 4 rfl (r_field rfl (O' := o + (m * 3 + 0)) (by omega)) ?_
   refine ha_take 5 rfl (r_nth rfl e1) ?_
   refine ha_takeP 7 rfl (r_move rfl) ?_
   refine ha_takeP 8 rfl (r_move rfl) ?_
   refine ha_takeP 9 rfl (r_idx rfl rfl) ?_
   refine ha_takeP 10 rfl (r_field rfl (O' := o + ((m + 1) * 3 + 0)) (by omega)) ?_
   refine ha_take 11 rfl (r_nth rfl e2) ?_
   refine ha_one 6 ?_
   refine ho_C 6 rfl (o1.comes) rfl rfl rfl (fun xx => same) fun _ => ?_
   refine ha_one 12 ?_
   refine ho_C 12 rfl (o2.comes) rfl rfl rfl (fun xx => same) fun _ => ?_
   refine ha_one 13 ?_
   refine ho_C 13 rfl ((Compare_s kx ky).comes) rfl rfl rfl (fun xx => same) fun _ => ?_
   refine ha_takeP 14 rfl (r_assign rfl) ?_
   refine ha_done (by kernel_rfl) ?_
   refine q_then ?_
   by_cases hlt0 : cmpB kx ky < 0
   ·rw [if_pos hlt0] at hn
    refine h_seq ?_
    refine yR ?_
    refine yM rfl ?_
    refine h_op (r_eql rfl rfl) ?_
    refine yN ?_
    refine h_no rfl ((show ¬ cmpB kx ky = 0 by omega)) ?_
    refine h_skip ?_
    refine q_then ?_
    refine yR ?_
    refine yM rfl ?_
    refine h_op (r_gtr rfl rfl) ?_
    refine yN ?_
    refine h_no rfl ((show ¬ (0 : Int) < cmpB kx ky by omega)) ?_
    refine h_skip ?_
    refine q_block ?_
    refine q_then ?_
    refine h_reg ?_
    refine yM rfl ?_
    refine h_op (r_add rfl rfl) ?_
    refine yS rfl ?_
    refine h_nil ?_
    exact h_back (m + 1 + 1) (⟨⟨by omega, by omega⟩, fun j hj => (Nat.lt_or_ge j (m + 1)).elim (hzk j) fun h8 => by (obtain rfl : j = m + 1 := by omega); exact hn⟩) ((show l.length - (m + 1 + 1) < l.length - (m + 1) by omega)) ⟨rfl, rfl, trivial⟩ (same)
   ·rw [if_neg hlt0] at hn
    by_cases he : kx = ky
    ·rw [if_pos he] at hn
     rw [firstF_some (neighE (keysC l)) (m + 1) (by rw [hn]; decide) l.length 0 (Nat.zero_le _) (by omega) hz0, hn] at hR
     subst hR
     refine h_seq ?_
     refine yR ?_
     refine yM rfl ?_
     refine h_op (r_eql rfl rfl) ?_
     refine yN ?_
     refine h_yes rfl ((cmpB_eq.2 he)) ?_
     refine yR ?_
     refine yM rfl ?_
     refine yS rfl ?_
     refine yS rfl ?_
     refine yN ?_
     refine h_ret ?_
     refine q_thenR ?_
     refine q_blockR ?_
     refine q_thenR ?_
     refine q_thenR ?_
     refine q_blockR ?_
     refine q_thenR ?_
     exact h_ret2 rfl rfl rfl fun w s => ⟨(), rfl, s.res (List.nil_sublist _) (by simp)⟩
    ·have hne : ¬ cmpB kx ky = 0 := fun h9 => he (cmpB_eq.1 h9)
     rw [if_neg he] at hn
     rw [firstF_some (neighE (keysC l)) (m + 1) (by rw [hn]; decide) l.length 0 (Nat.zero_le _) (by omega) hz0, hn] at hR
     subst hR
     refine h_seq ?_
     refine yR ?_
     refine yM rfl ?_
     refine h_op (r_eql rfl rfl) ?_
     refine yN ?_
     refine h_no rfl (hne) ?_
     refine h_skip ?_
     refine q_then ?_
     refine yR ?_
     refine yM rfl ?_
     refine h_op (r_gtr rfl rfl) ?_
     refine yN ?_
     refine h_yes rfl ((show (0 : Int) < cmpB kx ky by omega)) ?_
     refine yR ?_
     refine yM rfl ?_
     refine yS rfl ?_
     refine yS rfl ?_
     refine yN ?_
     refine h_ret ?_
     refine q_blockR ?_
     refine q_thenR ?_
     refine q_thenR ?_
     refine q_blockR ?_
     refine q_thenR ?_
     exact h_ret2 rfl rfl rfl fun w s => ⟨(), rfl, s.res (List.nil_sublist _) (by simp)⟩
  ·obtain rfl : k = l.length := by omega
   rw [firstF_none (neighE (keysC l)) _ _ (fun j _ hj => hzk j (by omega))] at hR
   subst hR
   refine h_exit ?_
   refine q_thenE ?_
   refine q_thenE ?_
   refine q_blockE ?_
   refine q_then ?_
   refine yR ?_
   refine yS rfl ?_
   refine yS rfl ?_
   refine yN ?_
   refine h_ret ?_
   exact h_ret2 rfl rfl rfl fun w s => ⟨(), rfl, s.res (List.nil_sublist _) (by simp)⟩
theorem rKeys21_s (hok : ∀ i, i < l.length → (l.getD i zCB).kb.length = 32) : Spec Tryz.prog 58 [.slice A l.length c].toArray [.zone false h] [] (fun u : Option Addr × Nat => .slice u.1 l.length u.2) (fun u => [.own (.slice u.1 l.length u.2) l.length 35 32 (dgs (keysC l))]) := by
 refine spec_of Tryz.func58 rfl (n := 21) rfl rfl ?_
 intro W
 refine yR ?_
 refine yS rfl ?_
 refine yN ?_
 refine yR ?_
 refine yS rfl ?_
 refine yN ?_
 refine h_seq ?_
 refine yR ?_
 refine yS rfl ?_
 refine yN ?_
 refine h_block ?_
 refine h_nil_own 35 32 (xs := dgs ((keysC l).take 0)) rfl ?_
 refine h_loop (fun (s : Nat × Option Addr × Nat) => s.1 ≤ l.length) (fun (s : Nat × Option Addr × Nat) => [(4, .int .i64 (s.1 : Int)), (3, .slice s.2.1 s.1 s.2.2), (0, .slice A l.length c)]) (fun (s : Nat × Option Addr × Nat) => [.own (.slice s.2.1 s.1 s.2.2) s.1 35 32 (dgs ((keysC l).take s.1)), .zone false h]) (fun (s : Nat × Option Addr × Nat) => l.length - s.1) (0, none, 0) ((show 0 ≤ _ from Nat.zero_le _)) ⟨rfl, rfl, rfl, trivial⟩ (same) ?_
 rintro ⟨k, A', c'⟩ hk
 dsimp only at hk ⊢
 refine h_seq ?_
 refine yR ?_
 refine yM rfl ?_
 refine yM rfl ?_
 refine h_op (r_len rfl) ?_
 refine h_op (r_lss rfl rfl) ?_
 refine yN ?_
 refine h_cond rfl (fun hlt => ?_) (fun hlt => ?_)
 ·have hk2 : k < l.length := by omega
  have hx := getD_get zCB hk2
  have hxl := hok k hk2
  have hxz := (hz.get hk2).1
  have hst : dgs ((keysC l).take k) ++ (keyOf (l.getD k zCB).kb).cells = dgs ((keysC l).take (k + 1)) := by
   rw [List.take_add_one, keysC_get hk2, Option.toList_some, dgs_append, dgs_one']
  obtain ⟨b, o, rfl, -⟩ := hr.at_ (k * 3) _ (cbs_at hx 0 _ rfl)
  generalize l.getD k zCB = x at *
  have hxn := hxz.len
  have hxr : RdZ h x.c.key.A (bc x.kb) := hxz.rd
  have e1 := cbs_at hx 0 _ rfl
  obtain ⟨⟨⟨xA, xn, xc⟩, xv, xp⟩, xb, xw⟩ := x
  dsimp only at hxl hxn hxr e1 hst
  subst hxn
  refine h_skip ?_
  refine q_then ?_
  refine h_seq ?_
  refine h_block ?_
  refine h_reg ?_
  refine yM rfl ?_
  refine yM rfl ?_
  refine yM rfl ?_
  refine h_op (r_idx rfl rfl) ?_
  refine h_op (r_field rfl (O' := o + (k * 3 + 0)) (by omega)) ?_
  refine h_op (r_nth rfl e1) ?_
  refine h_call ((rOf_s xb xA xc hxl).comes) rfl rfl rfl fun _ => ?_
  refine h_opX (x_bsl rfl rfl) fun g18 => ?_
  refine h_opX (x_app rfl rfl (k := 32)) fun ⟨g19, c19⟩ => ?_
  refine yS rfl ?_
  refine h_nil ?_
  refine q_block ?_
  refine q_then ?_
  refine h_reg ?_
  refine yM rfl ?_
  refine h_op (r_add rfl rfl) ?_
  refine yS rfl ?_
  refine h_nil ?_
  rw [hst]
  exact h_back (k + 1, some ⟨g19, 0, none⟩, c19) ((show k + 1 ≤ _ from hk2)) ((show l.length - (k + 1) < l.length - k by omega)) ⟨rfl, rfl, rfl, trivial⟩ (same)
 ·obtain rfl : k = l.length := by omega
  rw [List.take_of_length_le (by rw [keysC_len]; exact Nat.le_refl _)]
  refine h_exit ?_
  refine q_thenE ?_
  refine q_thenE ?_
  refine q_blockE ?_
  refine q_then ?_
  refine yR ?_
  refine yM rfl ?_
  refine yS rfl ?_
  refine yN ?_
  refine h_ret ?_
  exact h_ret1 rfl rfl fun w s => ⟨(A', c'), rfl, (same (L' := [.own (.slice A' l.length c') l.length 35 32 (dgs (keysC l))]) w s).res (List.Sublist.refl _) (by simp [Fa.wr])⟩
end
end Go.Proofs.YtjhocljhhpkiiaaGreatDoor
/- E32 -/
namespace Go.Proofs.YtjhocljhhpkiiaaGreatDoor
open Go.RowKit
structure MapCl (m : List En) (ks : List B32) (fl : Nat → Bool) (cl : List CB) : Prop where
 len : cl.length ≤ ks.length
 keys : keysC cl = ks.take cl.length
 at_ : ∀ (j : Nat) (x : CB), cl[j]? = some x → x.c.key.n = 32 ∧ x.c.value.n ≤ 200 ∧ x.vb.length ≤ 200 ∧ x.vb = getV (getE' m (keyOf x.kb)) ∧ x.c.present = ((getE' m (keyOf x.kb)).isSome != fl j)
theorem MapCl.nil (m : List En) (ks : List B32) (fl : Nat → Bool) : MapCl m ks fl [] := ⟨Nat.zero_le _, rfl, fun j x h => by simp at h⟩
theorem WayTo.unique {key : B32} {t : Tr} {D D' : Nat} (h : WayTo key t D) (h' : WayTo key t D') : D = D' := by
 rcases Nat.lt_trichotomy D D' with hl | hl | hl
 ·exact (h.end_ (h'.on D hl)).elim
 ·exact hl
 ·exact (h'.end_ (h.on D' hl)).elim
end Go.Proofs.YtjhocljhhpkiiaaGreatDoor
