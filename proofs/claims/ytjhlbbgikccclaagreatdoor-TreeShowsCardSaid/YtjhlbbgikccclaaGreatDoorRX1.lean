/- Put on an empty tree; TreeShows is true. -/
import Derived.Test.YtjhlbbgikccclaaGreatDoorR14
set_option linter.all false
namespace Go.Proofs.YtjhlbbgikccclaaGreatDoor
set_option linter.unusedSimpArgs false
set_option linter.unusedVariables false
open Go.RowKit
instance : Ent Tryz.prog 41 := ⟨enters_of Tryz.func41 (by kernel_rfl) rfl⟩
section
variable (A : Option Addr) (c : Nat) (kb : List UInt8) (hkb : kb.length = 32)
include hkb
theorem KOf_r : Spec Tryz.prog 162 [.slice A kb.length c].toArray [.rd A (keyOf kb).cells] [] (fun _ : Unit => .tuple #[.agg (keyOf kb).cells.toArray, .int .i64 0]) (fun _ => []) := by
  refine spec_of Tryz.func162 rfl (n := 11) rfl rfl ?_
  intro W
  refine h_seq ?_
  refine h_reg ?_
  refine h_opX (x_alloc) fun g2 => ?_
  refine h_op (r_assign rfl) ?_
  refine h_nil ?_
  refine q_then ?_
  refine h_seq ?_
  refine h_seq ?_
  refine h_reg ?_
  refine h_op (r_move rfl) ?_
  refine h_op (r_len rfl) ?_
  refine h_op (r_bool (r_neq rfl rfl) (decide_eq_false (show ¬ ¬ ((kb.length : Nat) : Int) = 32 by omega))) ?_
  refine h_nil ?_
  refine q_then ?_
  refine h_condF rfl ?_
  refine h_pure (φ := ∃ b o, A = some ⟨b, o, none⟩) (fun w s => Rd.some (s.ok (.rd A (keyOf kb).cells) (by simp)) (by rw [B32.cells_length]; decide)) ?_
  rintro ⟨b, o, rfl⟩
  refine h_skip ?_
  refine q_then ?_
  refine h_seq ?_
  refine h_reg ?_
  refine h_op (r_move rfl) ?_
  refine h_op (r_arr rfl (hm := by omega)) ?_
  refine h_op (r_loadr rfl) ?_
  refine h_opS (s_storer rfl rfl) ?_
  refine h_op (r_assign rfl) ?_
  refine h_nil ?_
  refine q_then ?_
  refine h_ret ?_
  exact h_ret2 rfl (rv_row rfl) rfl fun w s => ⟨(), rfl, s.res (List.nil_sublist _) (by simp)⟩
theorem TEntry_r (v : Sl) (hv : v.n ≤ 65535) : Spec Tryz.prog 108 [.slice A kb.length c, .slice v.A v.n v.c].toArray [.rd A (keyOf kb).cells] [] (fun _ : Unit => .tuple #[.agg (Entry.cells ⟨keyOf kb, v⟩).toArray, .int .i64 0]) (fun _ => []) := by
  refine spec_of Tryz.func108 rfl (n := 24) rfl rfl ?_
  intro W
  refine h_seq ?_
  refine h_reg ?_
  refine h_opX (x_alloc) fun g4 => ?_
  refine h_op (r_assign rfl) ?_
  refine h_nil ?_
  refine q_then ?_
  refine h_seq ?_
  refine h_reg ?_
  refine h_op (r_move rfl) ?_
  refine h_call ((KOf_r A c kb hkb).comes) rfl rfl rfl fun _ => ?_
  refine h_op (r_move rfl) ?_
  refine h_op (r_extract rfl rfl) ?_
  refine h_op (r_extract rfl rfl) ?_
  refine h_opX (x_alloc) fun g6 => ?_
  refine h_opS (s_storer rfl rfl) ?_
  refine h_op (r_assign rfl) ?_
  refine h_nil ?_
  refine q_then ?_
  refine h_seq ?_
  refine h_seq ?_
  refine h_reg ?_
  refine h_op (r_move rfl) ?_
  refine h_op (r_bool (r_eql rfl rfl) (show _ = true from rfl)) ?_
  refine h_op (r_move rfl) ?_
  refine h_op (r_move rfl) ?_
  refine h_op (r_len rfl) ?_
  refine h_op (r_bool (r_gtr rfl rfl) (decide_eq_false (by omega))) ?_
  refine h_op (r_pick rfl rfl) ?_
  refine h_nil ?_
  refine q_then ?_
  refine h_condF rfl ?_
  refine h_skip ?_
  refine q_then ?_
  refine h_seq ?_
  refine h_reg ?_
  refine h_op (r_loadr rfl) ?_
  refine h_op (r_move rfl) ?_
  refine h_op (r_build rfl) ?_
  refine h_op (r_move rfl) ?_
  refine h_opS (s_storer rfl rfl) ?_
  refine h_op (r_assign rfl) ?_
  refine h_nil ?_
  refine q_then ?_
  refine h_ret ?_
  exact h_ret2 rfl (rv_row rfl) rfl fun w s => ⟨(), rfl, s.res (List.nil_sublist _) (by simp)⟩
theorem tStart_r (t0 : Nat) (op : ByteArray) (v : Sl) (hv : v.n ≤ 65535) : Spec Tryz.prog 84 [.pointer (some ⟨t0, 0, none⟩), .string op, .slice A kb.length c, .slice v.A v.n v.c].toArray [.rd A (keyOf kb).cells] [] (fun _ : Unit => .tuple #[.agg (Entry.cells ⟨keyOf kb, v⟩).toArray, .nilIface]) (fun _ => []) := by
  refine spec_of Tryz.func84 rfl (n := 27) rfl rfl ?_
  intro W
  refine h_seq ?_
  refine h_reg ?_
  refine h_opX (x_alloc) fun g8 => ?_
  refine h_op (r_assign rfl) ?_
  refine h_nil ?_
  refine q_then ?_
  refine h_seq ?_
  refine h_seq ?_
  refine h_reg ?_
  refine h_op (r_move rfl) ?_
  refine h_op (r_nilR rfl rfl) ?_
  refine h_nil ?_
  refine q_then ?_
  refine h_condF rfl ?_
  refine h_skip ?_
  refine q_then ?_
  refine h_seq ?_
  refine h_reg ?_
  refine h_op (r_move rfl) ?_
  refine h_op (r_move rfl) ?_
  refine h_call ((TEntry_r A c kb hkb v hv).comes) rfl rfl rfl fun _ => ?_
  refine h_op (r_move rfl) ?_
  refine h_op (r_extract rfl rfl) ?_
  refine h_op (r_extract rfl rfl) ?_
  refine h_opX (x_alloc) fun g10 => ?_
  refine h_opS (s_storer rfl rfl) ?_
  refine h_op (r_assign rfl) ?_
  refine h_nil ?_
  refine q_then ?_
  refine h_seq ?_
  refine ha_start [.blk g10 (Entry.cells ⟨keyOf kb, v⟩) 89] [] mixed (same) ?_
  refine ha_take 0 rfl (r_loadr rfl) ?_
  refine ha_takeP 1 rfl (r_move rfl) ?_
  refine ha_takeP 2 rfl (r_move rfl) ?_
  refine ha_one 3 ?_
  refine ho_C 3 rfl ((tFail_no op 0).comes) rfl rfl rfl (fun xx => same) fun _ => ?_
  refine ha_one 4 ?_
  refine ho_S 4 rfl (s_storer rfl rfl) (same) ?_
  refine ha_takeP 5 rfl (r_assign rfl) ?_
  refine ha_done (by kernel_rfl) ?_
  refine q_then ?_
  refine h_ret ?_
  exact h_ret2 rfl (rv_row rfl) rfl fun w s => ⟨(), rfl, s.res (List.nil_sublist _) (by simp)⟩
end
section
variable (n : Nat) (hn : n ≤ 256) (gh gc k : Nat) (hk : k ≤ 100000000) (h : Zh) [hT : RdZ h (some ⟨1, 0, none⟩) hashT] (key : B32) (B : Option Addr) (c : Nat) (b : List UInt8) (hB : B = none → b.length = 0 ∧ c = 0) (hb : b.length ≤ 100000)
include hn hk hB hb
theorem NewLeaf_r : Spec Tryz.prog 172 [.pointer (some ⟨gh, 0, none⟩), .agg (Entry.cells ⟨key, ⟨B, b.length, c⟩⟩).toArray].toArray [HR gh gc n, .rd B (bc b)] [.zone true h, CN gc k] (fun x : {x : Zh × Option Addr // LeZ h x.1 ∧ TrZ n x.1 (.leaf key b) x.2} => .pointer x.1.2) (fun x => [.zone true x.1.1, CN gc (k + 2)]) := by
  refine spec_of Tryz.func172 rfl (n := 18) rfl rfl ?_
  intro W
  refine h_seq ?_
  refine h_reg ?_
  refine h_opX (x_box rfl) fun g3 => ?_
  refine h_op (r_assign rfl) ?_
  refine h_nil ?_
  refine q_then ?_
  refine h_seq ?_
  refine ha_start [.blk g3 (Entry.cells ⟨key, ⟨B, b.length, c⟩⟩) 89] [] mixed (same) ?_
  refine ha_takeP 0 rfl (r_move rfl) ?_
  refine ha_takeP 1 rfl (r_move rfl) ?_
  refine ha_takeP 2 rfl (r_field rfl) ?_
  refine ha_take 3 rfl (r_loadr rfl) ?_
  refine ha_takeP 4 rfl (r_field rfl) ?_
  refine ha_take 5 rfl (r_loadc rfl) ?_
  refine ha_takeP 7 rfl (r_field rfl) ?_
  refine ha_take 8 rfl (r_loadc rfl) ?_
  refine ha_one 6 ?_
  refine ho_C 6 rfl ((LeafOf_s n hn gh gc k (by omega) key b B c hB (by omega)).comes) rfl rfl rfl (fun xx => same) fun _ => ?_
  refine ha_one 9 ?_
  refine ho_C 9 rfl ((Clone_s b B c hB (by omega)).comes) rfl rfl rfl (fun xx => same) fun ⟨A14, c14⟩ => ?_
  refine ha_takeP 10 rfl (r_build rfl) ?_
  refine ha_takeP 11 rfl (r_mkI rfl) ?_
  refine ha_one 12 ?_
  refine ho_C 12 rfl ((with_s n hn gh gc (k + 1) (by omega) 281 316 (.agg (NLeaf.cells ⟨leafOf n key b, ⟨A14, b.length, c14⟩⟩).toArray) (preL (leafOf n key b)) (by rw [preL_len]; decide) (lpre_s ⟨leafOf n key b, ⟨A14, b.length, c14⟩⟩)).comes) rfl rfl rfl (fun xx => same) fun g17 => ?_
  refine ha_takeP 13 rfl (r_assign rfl) ?_
  refine ha_done (by kernel_rfl) ?_
  refine q_then ?_
  dsimp only
  refine h_freezeO (.slice A14 b.length c14) fun h1 B1 c1 e1 hle1 hlen1 hnil1 hz1 hr1 => ?_
  injection e1 with e1 _ e2
  subst e1 e2
  refine h_freeze g17 fun h2 hz2 hr2 => ?_
  refine h_ret ?_
  exact h_ret1 rfl rfl fun w s => ⟨⟨(h2, some ⟨g17, 0, none⟩), hz1.trans hz2, ⟨g17, ⟨A14, b.length, c14⟩, rfl, hr2, ⟨rfl, hle1, hnil1, hr1.mono hz2⟩⟩⟩, rfl, (same w s).res (List.Sublist.refl _) (by simp [Fa.wr])⟩
theorem PAt0_r : Spec Tryz.prog 142 [.pointer (some ⟨gh, 0, none⟩), .pointer none, .agg (Entry.cells ⟨key, ⟨B, b.length, c⟩⟩).toArray, .int .i64 0].toArray [HR gh gc n, .rd B (bc b)] [.zone true h, CN gc k]
      (fun u : {u : Zh × Option Addr × Nat // LeZ h u.1 ∧ TrZ n u.1 (.leaf key b) u.2.1 ∧ u.2.2 ≤ k + 1600} => .pointer u.1.2.1) (fun u => [.zone true u.1.1, CN gc u.1.2.2]) := by
  have ht : TrZ n h .nil none := ⟨rfl⟩
  have hD : WayTo key .nil 0 := ⟨Nat.zero_le _, (show (0 : Nat) ≠ 2 by decide), fun i hi => absurd hi (Nat.not_lt_zero i)⟩
  refine spec_of Tryz.func142 rfl (n := 59) rfl rfl ?_
  intro W
  refine h_seq ?_
  refine h_reg ?_
  refine h_opX (x_box1 rfl) fun g4 => ?_
  refine h_opX (x_box rfl) fun g6 => ?_
  refine h_opX (x_box1 rfl) fun g7 => ?_
  refine h_op (r_assign rfl) ?_
  refine h_nil ?_
  refine q_then ?_
  refine h_seq ?_
  refine h_reg ?_
  refine h_opX (x_alloc) fun g9 => ?_
  refine h_nil ?_
  refine q_then ?_
  refine h_seq ?_
  refine h_reg ?_
  refine h_op (r_loadc rfl) ?_
  refine h_op (r_assign rfl) ?_
  refine h_nil ?_
  refine q_then ?_
  refine h_seq ?_
  refine h_block ?_
  refine h_nil_own 31 1 (xs := ptrs (sibL h key none 0)) rfl ?_
  refine h_loop (fun (s' : Unit) => True) (fun (s' : Unit) => [(10, .int .i64 0), (1, .pointer none), (9, .pointer (some ⟨g9, 0, none⟩)), (4, .pointer (some ⟨g4, 0, none⟩)), (6, .pointer (some ⟨g6, 0, none⟩)), (7, .pointer (some ⟨g7, 0, none⟩))]) (fun (s' : Unit) => [.own (.slice none 0 0) 0 31 1 (ptrs (sibL h key none 0)), .blk g9 [.slice none 0 0] 195, .blk g6 (Entry.cells ⟨key, ⟨B, b.length, c⟩⟩) 89, .blk g4 [.pointer (some ⟨gh, 0, none⟩)] 56, .blk g7 [.int .i64 0] 3, .zone true h, CN gc k, HR gh gc n, .rd B (bc b)]) (fun (s' : Unit) => 0) () (trivial) ⟨rfl, rfl, rfl, rfl, rfl, rfl, trivial⟩ (same) ?_
  rintro s' -
  refine h_seq ?_
  refine h_seq ?_
  refine h_reg ?_
  refine h_op (r_move rfl) ?_
  refine h_call ((Kind_s n h .nil none).comes) rfl rfl rfl fun _ => ?_
  refine h_op (r_bool (r_eql rfl rfl) (show _ = false from rfl)) ?_
  refine h_nil ?_
  refine q_then ?_
  refine h_condF rfl ?_
  refine h_exit ?_
  refine q_thenE ?_
  refine q_thenE ?_
  refine q_blockE ?_
  refine q_then ?_
  refine h_seq ?_
  refine h_reg ?_
  refine h_op (r_func rfl rfl) ?_
  refine h_op (r_assign rfl) ?_
  refine h_nil ?_
  refine q_then ?_
  refine h_seq ?_
  refine h_reg ?_
  refine h_op (r_loadc rfl) ?_
  refine h_op (r_loadr rfl) ?_
  refine h_call ((NewLeaf_r n hn gh gc k hk h key B c b hB hb).comes) rfl rfl rfl fun ⟨⟨h1, p1⟩, hle1, ht1⟩ => ?_
  dsimp only at hle1 ht1 ⊢
  have hT1 : RdZ h1 (some ⟨1, 0, none⟩) hashT := hT.mono hle1
  have hlc : (Tr.leaf key b).cnt = 1 := rfl
  have hnc : Tr.nil.cnt = 0 := rfl
  refine h_op (r_assign rfl) ?_
  refine h_nil ?_
  refine q_then ?_
  refine h_seq ?_
  refine h_seq ?_
  have ht1n : TrZ n h1 .nil none := ⟨rfl⟩
  refine ha_start [.blk g6 (Entry.cells ⟨key, ⟨B, b.length, c⟩⟩) 89] [] mixed (same) ?_
  refine ha_takeP 0 rfl (r_move rfl) ?_
  refine ha_one 1 ?_
  refine ho_C 1 rfl ((Kind_s n h1 .nil none).comes) rfl rfl rfl (fun xx => same) fun _ => ?_
  refine ha_takeP 2 rfl (r_bool (r_eql rfl rfl) (show _ = true from rfl)) ?_
  refine ha_takeP 3 rfl (r_move rfl) ?_
  refine ha_off 4 rfl ?_
  refine ha_off 5 rfl ?_
  refine ha_off 6 rfl ?_
  refine ha_off 7 rfl ?_
  refine ha_off 8 rfl ?_
  refine ha_off 9 rfl ?_
  refine ha_takeP 10 rfl (r_pick rfl rfl) ?_
  refine ha_done (by kernel_rfl) ?_
  refine q_then ?_
  refine h_condT rfl ?_
  refine h_seq ?_
  refine h_reg ?_
  refine h_op (r_move rfl) ?_
  refine h_op (r_move rfl) ?_
  refine h_call ((up_s n hn gh gc (k + 2) (by omega) h1 h .nil none key ⟨B, b.length, c⟩ 0 hD (.leaf key b) p1 ⟨by omega, by omega⟩ none 0 g9 g4 g6 g7 (fun i hi => absurd hi (Nat.not_lt_zero i))).comes) rfl rfl rfl fun ⟨⟨h2, q2, k2⟩, hle2, ht2, hk2'⟩ => ?_
  dsimp only at hle2 ht2 hk2' ⊢
  refine h_op (r_assign rfl) ?_
  refine h_nil ?_
  refine q_then ?_
  refine h_ret ?_
  refine q_thenR ?_
  exact h_ret1 rfl rfl fun w s' => ⟨⟨(h2, q2, k2), hle1.trans hle2, ht2, by dsimp only; omega⟩, rfl, (same (L' := [.zone true h2, CN gc k2]) w s').res (List.Sublist.refl _) (by simp [Fa.wr])⟩
theorem PPut0_r : Spec Tryz.prog 85 [.pointer (some ⟨gh, 0, none⟩), .pointer none, .agg (Entry.cells ⟨key, ⟨B, b.length, c⟩⟩).toArray].toArray [HR gh gc n, .rd B (bc b)] [.zone true h, CN gc k]
      (fun u : {u : Zh × Option Addr × Nat // LeZ h u.1 ∧ TrZ n u.1 (.leaf key b) u.2.1 ∧ u.2.2 ≤ k + 1600} => .pointer u.1.2.1) (fun u => [.zone true u.1.1, CN gc u.1.2.2]) := by
  refine spec_of Tryz.func85 rfl (n := 11) rfl rfl ?_
  intro W
  refine h_seq ?_
  refine h_reg ?_
  refine h_opX (x_box rfl) fun g5 => ?_
  refine h_op (r_assign rfl) ?_
  refine h_nil ?_
  refine q_then ?_
  refine h_seq ?_
  refine h_reg ?_
  refine h_op (r_move rfl) ?_
  refine h_op (r_move rfl) ?_
  refine h_op (r_loadr rfl) ?_
  refine h_call ((PAt0_r n hn gh gc k hk h key B c b hB hb).comes) rfl rfl rfl fun ⟨⟨h1, q1, k1⟩, hle1, ht1, hk1⟩ => ?_
  dsimp only at hle1 ht1 hk1 ⊢
  refine h_op (r_assign rfl) ?_
  refine h_nil ?_
  refine q_then ?_
  refine h_ret ?_
  exact h_ret1 rfl rfl fun w s => ⟨⟨(h1, q1, k1), hle1, ht1, hk1⟩, rfl, (same (L' := [.zone true h1, CN gc k1]) w s).res (List.Sublist.refl _) (by simp [Fa.wr])⟩
end
theorem TPut0_r (n : Nat) (hn : n ≤ 256) (gh gc k : Nat) (hk : k ≤ 100000000) (h : Zh) [hT : RdZ h (some ⟨1, 0, none⟩) hashT] (t0 : Nat) (A : Option Addr) (cA : Nat) (kb : List UInt8) (hkb : kb.length = 32) (B : Option Addr) (c : Nat) (b : List UInt8) (hB : B = none → b.length = 0 ∧ c = 0) (hb : b.length ≤ 65535) :
    Spec Tryz.prog 36 [.pointer (some ⟨t0, 0, none⟩), .slice A kb.length cA, .slice B b.length c].toArray [HR gh gc n, .rd A (keyOf kb).cells, .rd B (bc b)] [.zone true h, CN gc k, TreeF t0 gh none] (fun u : {u : Zh × Option Addr × Nat // LeZ h u.1 ∧ TrZ n u.1 (.leaf (keyOf kb) b) u.2.1 ∧ u.2.2 ≤ k + 1600} => .nilIface) (fun u => [.zone true u.1.1, CN gc u.1.2.2, TreeF t0 gh u.1.2.1]) := by
  have hS := tStart_r A cA kb hkb t0 putB ⟨B, b.length, c⟩ hb
  have hP := PPut0_r n hn gh gc k hk h (keyOf kb) B c b hB (by omega)
  refine spec_of Tryz.func36 rfl (n := 32) rfl rfl ?_
  intro W
  refine h_seq ?_
  refine h_reg ?_
  refine h_op (r_assign rfl) ?_
  refine h_nil ?_
  refine q_then ?_
  refine h_seq ?_
  refine h_reg ?_
  refine h_op (r_move rfl) ?_
  refine h_op (r_move rfl) ?_
  refine h_op (r_move rfl) ?_
  refine h_call (hS.comes) rfl rfl rfl fun _ => ?_
  refine h_op (r_move rfl) ?_
  refine h_op (r_extract rfl rfl) ?_
  refine h_op (r_extract rfl rfl) ?_
  refine h_opX (x_alloc) fun g7 => ?_
  refine h_opS (s_storer rfl rfl) ?_
  refine h_op (r_assign rfl) ?_
  refine h_nil ?_
  refine q_then ?_
  refine h_seq ?_
  refine h_seq ?_
  refine h_reg ?_
  refine h_op (r_move rfl) ?_
  refine h_op (r_nilnil rfl) ?_
  refine h_nil ?_
  refine q_then ?_
  refine h_condT rfl ?_
  refine ha_start [.blk t0 [.pointer (some ⟨gh, 0, none⟩), .pointer none] 113, .blk g7 (Entry.cells ⟨keyOf kb, ⟨B, b.length, c⟩⟩) 89] [] mixed (same) ?_
  refine ha_takeP 0 rfl (r_move rfl) ?_
  refine ha_takeP 1 rfl (r_move rfl) ?_
  refine ha_takeP 2 rfl (r_nilc rfl) ?_
  refine ha_takeP 3 rfl (r_field rfl) ?_
  refine ha_take 4 rfl (r_loadc rfl) ?_
  refine ha_takeP 5 rfl (r_move rfl) ?_
  refine ha_takeP 6 rfl (r_nilc rfl) ?_
  refine ha_takeP 7 rfl (r_field rfl) ?_
  refine ha_take 8 rfl (r_loadc rfl) ?_
  refine ha_take 9 rfl (r_loadr rfl) ?_
  refine ha_one 10 ?_
  refine ho_C 10 rfl (hP.comes) rfl rfl rfl (fun xx => same) fun ⟨⟨h1, q, k1⟩, hle, htq, hk1⟩ => ?_
  refine ha_takeP 11 rfl (r_nilc rfl) ?_
  refine ha_takeP 12 rfl (r_field rfl) ?_
  refine ha_one 13 ?_
  refine ho_SL 13 rfl (s_store rfl rfl rfl) ?_
  refine q_then ?_
  dsimp only at hle htq hk1 ⊢
  refine h_seq ?_
  refine h_reg ?_
  refine h_op (r_move rfl) ?_
  refine h_op (r_assign rfl) ?_
  refine h_nil ?_
  refine q_then ?_
  refine h_ret ?_
  exact h_ret1 rfl rfl fun w s => ⟨⟨(h1, q, k1), hle, htq, hk1⟩, rfl, (same (L' := [.zone true h1, CN gc k1, TreeF t0 gh q]) w s).res (List.Sublist.refl _) (by simp [Fa.wr])⟩
end Go.Proofs.YtjhlbbgikccclaaGreatDoor
namespace Go.Proofs.YtjhlbbgikccclaaGreatDoor
set_option linter.unusedSimpArgs false
set_option linter.unusedVariables false
open Go.RowKit
section
variable (t0 gh : Nat) (p : Option Addr)
theorem THasher_s : Spec Tryz.prog 22 [.pointer (some ⟨t0, 0, none⟩)].toArray [.rd (some ⟨t0, 0, none⟩) [.pointer (some ⟨gh, 0, none⟩), .pointer p]] [] (fun _ : Unit => .pointer (some ⟨gh, 0, none⟩)) (fun _ => []) := by
  refine spec_of Tryz.func22 rfl (n := 9) rfl rfl ?_
  intro W
  refine h_seq ?_
  refine h_reg ?_
  refine h_op (r_assign rfl) ?_
  refine h_nil ?_
  refine q_then ?_
  refine h_seq ?_
  refine h_seq ?_
  refine h_reg ?_
  refine h_op (r_move rfl) ?_
  refine h_op (r_nilR rfl rfl) ?_
  refine h_nil ?_
  refine q_then ?_
  refine h_condF rfl ?_
  refine h_skip ?_
  refine q_then ?_
  refine h_seq ?_
  refine h_reg ?_
  refine h_op (r_move rfl) ?_
  refine h_op (r_nilc rfl) ?_
  refine h_op (r_field rfl) ?_
  refine h_op (r_loadc rfl) ?_
  refine h_op (r_assign rfl) ?_
  refine h_nil ?_
  refine q_then ?_
  refine h_ret ?_
  exact h_ret1 rfl rfl fun w s => ⟨(), rfl, s.res (List.nil_sublist _) (by simp)⟩
end
theorem HBits_s (n : Nat) (gh gc : Nat) : Spec Tryz.prog 41 [.pointer (some ⟨gh, 0, none⟩)].toArray [HR gh gc n] [] (fun _ : Unit => .int .i64 (n : Int)) (fun _ => []) := by
  refine spec_of Tryz.func41 rfl (n := 9) rfl rfl ?_
  intro W
  refine h_seq ?_
  refine h_reg ?_
  refine h_op (r_assign rfl) ?_
  refine h_nil ?_
  refine q_then ?_
  refine h_seq ?_
  refine h_seq ?_
  refine h_reg ?_
  refine h_op (r_move rfl) ?_
  refine h_op (r_nilR rfl rfl) ?_
  refine h_nil ?_
  refine q_then ?_
  refine h_condF rfl ?_
  refine h_skip ?_
  refine q_then ?_
  refine h_seq ?_
  refine h_reg ?_
  refine h_op (r_move rfl) ?_
  refine h_op (r_nilc rfl) ?_
  refine h_op (r_field rfl) ?_
  refine h_op (r_loadc rfl) ?_
  refine h_op (r_assign rfl) ?_
  refine h_nil ?_
  refine q_then ?_
  refine h_ret ?_
  exact h_ret1 rfl rfl fun w s => ⟨(), rfl, s.res (List.nil_sublist _) (by simp)⟩
theorem rRight13b_s (a b : Sl) : Spec Tryz.prog 37 [.slice a.A a.n a.c, .slice b.A b.n b.c].toArray [] [] (fun _ : Unit => .int .i64 (entE a.n b.n)) (fun _ => []) := by
  unfold entE
  by_cases h1 : a.n = 32
  · rw [if_pos h1]
    by_cases h2 : 65535 < b.n
    · rw [if_pos h2]
      refine spec_of Tryz.func37 rfl (n := 11) rfl rfl ?_
      intro W
      refine h_seq ?_
      refine h_reg ?_
      refine h_op (r_assign rfl) ?_
      refine h_nil ?_
      refine q_then ?_
      refine h_seq ?_
      refine h_seq ?_
      refine h_reg ?_
      refine h_op (r_move rfl) ?_
      refine h_op (r_len rfl) ?_
      refine h_op (r_bool (r_neq rfl rfl) (decide_eq_false (show ¬ ¬ ((a.n : Nat) : Int) = 32 by omega))) ?_
      refine h_nil ?_
      refine q_then ?_
      refine h_condF rfl ?_
      refine h_skip ?_
      refine q_then ?_
      refine h_seq ?_
      refine h_seq ?_
      refine h_reg ?_
      refine h_op (r_move rfl) ?_
      refine h_op (r_len rfl) ?_
      refine h_op (r_bool (r_gtr rfl rfl) (decide_eq_true (by omega))) ?_
      refine h_nil ?_
      refine q_then ?_
      refine h_condT rfl ?_
      refine h_seq ?_
      refine h_reg ?_
      refine h_op (r_assign rfl) ?_
      refine h_nil ?_
      refine q_then ?_
      refine h_ret ?_
      refine q_thenR ?_
      exact h_ret1 rfl rfl fun w s => ⟨(), rfl, s.res (List.nil_sublist _) (by simp)⟩
    · rw [if_neg h2]
      refine spec_of Tryz.func37 rfl (n := 11) rfl rfl ?_
      intro W
      refine h_seq ?_
      refine h_reg ?_
      refine h_op (r_assign rfl) ?_
      refine h_nil ?_
      refine q_then ?_
      refine h_seq ?_
      refine h_seq ?_
      refine h_reg ?_
      refine h_op (r_move rfl) ?_
      refine h_op (r_len rfl) ?_
      refine h_op (r_bool (r_neq rfl rfl) (decide_eq_false (show ¬ ¬ ((a.n : Nat) : Int) = 32 by omega))) ?_
      refine h_nil ?_
      refine q_then ?_
      refine h_condF rfl ?_
      refine h_skip ?_
      refine q_then ?_
      refine h_seq ?_
      refine h_seq ?_
      refine h_reg ?_
      refine h_op (r_move rfl) ?_
      refine h_op (r_len rfl) ?_
      refine h_op (r_bool (r_gtr rfl rfl) (decide_eq_false (by omega))) ?_
      refine h_nil ?_
      refine q_then ?_
      refine h_condF rfl ?_
      refine h_skip ?_
      refine q_then ?_
      refine h_seq ?_
      refine h_reg ?_
      refine h_op (r_assign rfl) ?_
      refine h_nil ?_
      refine q_then ?_
      refine h_ret ?_
      exact h_ret1 rfl rfl fun w s => ⟨(), rfl, s.res (List.nil_sublist _) (by simp)⟩
  · rw [if_neg h1]
    refine spec_of Tryz.func37 rfl (n := 11) rfl rfl ?_
    intro W
    refine h_seq ?_
    refine h_reg ?_
    refine h_op (r_assign rfl) ?_
    refine h_nil ?_
    refine q_then ?_
    refine h_seq ?_
    refine h_seq ?_
    refine h_reg ?_
    refine h_op (r_move rfl) ?_
    refine h_op (r_len rfl) ?_
    refine h_op (r_bool (r_neq rfl rfl) (decide_eq_true (show ¬ ((a.n : Nat) : Int) = 32 by omega))) ?_
    refine h_nil ?_
    refine q_then ?_
    refine h_condT rfl ?_
    refine h_seq ?_
    refine h_reg ?_
    refine h_op (r_assign rfl) ?_
    refine h_nil ?_
    refine q_then ?_
    refine h_ret ?_
    refine q_thenR ?_
    exact h_ret1 rfl rfl fun w s => ⟨(), rfl, s.res (List.nil_sublist _) (by simp)⟩
section
variable (h : Zh) [hT : RdZ h (some ⟨1, 0, none⟩) hashT] [hE : ERZ h] (i : Int) (x y : Sl) (xb yb : List UInt8) [hX : SlZ h x xb] [hY : SlZ h y yb]
include hT hE hX hY
set_option maxRecDepth 100000 in
theorem TreeShows_s : Spec Tryz.prog 7 [.int .i64 i, .slice x.A x.n x.c, .slice y.A y.n y.c].toArray [] [.zone true h] (fun _ : {x : Zh // LeZ h x} => .bool true) (fun x => [.zone true x.1]) := by
  have hxn := hX.len
  have hyn := hY.len
  have hxr : RdZ h x.A (bc xb) := hX.rd
  have hyr : RdZ h y.A (bc yb) := hY.rd
  have hRi := rRight13b_s x y
  have hXn : x.A = none → xb.length = 0 ∧ x.c = 0 := by rw [← hxn]; exact hX.nil
  have hYn : y.A = none → yb.length = 0 ∧ y.c = 0 := by rw [← hyn]; exact hY.nil
  by_cases hi : 0 ≤ i ∧ i ≤ 256
  · obtain ⟨n, rfl⟩ : ∃ n : Nat, i = (n : Int) := ⟨i.toNat, by omega⟩
    have hn : n ≤ 256 := by omega
    refine spec_of Tryz.func7 rfl (n := 154) rfl rfl ?_
    intro W
    refine h_seq ?_
    refine h_reg ?_
    refine h_op (r_assign rfl) ?_
    refine h_nil ?_
    refine q_then ?_
    refine h_seq ?_
    refine h_reg ?_
    refine h_op (r_move rfl) ?_
    refine h_call ((TNew_s n hn).comes) rfl rfl rfl fun ⟨t0, gh, gc⟩ => ?_
    dsimp only
    refine h_op (r_move rfl) ?_
    refine h_op (r_extract rfl rfl) ?_
    refine h_op (r_extract rfl rfl) ?_
    refine h_op (r_assign rfl) ?_
    refine h_op (r_assign rfl) ?_
    refine h_nil ?_
    refine q_then ?_
    refine h_seq ?_
    refine h_seq ?_
    refine h_reg ?_
    refine h_op (r_move rfl) ?_
    refine h_call ((Right_yes n hn).comes) rfl rfl rfl fun _ => ?_
    refine h_op (r_not rfl) ?_
    refine h_op (r_move rfl) ?_
    refine h_op (r_move rfl) ?_
    refine h_op (r_move rfl) ?_
    refine h_call (hRi.comes) rfl rfl rfl fun _ => ?_
    by_cases he : entE x.n y.n = 0
    · rw [he]
      by_cases h300 : 300 < y.n
      · refine h_op (r_bool (r_neq rfl rfl) (show _ = false from rfl)) ?_
        refine h_op (r_pick rfl rfl) ?_
        refine h_op (r_move rfl) ?_
        refine h_op (r_move rfl) ?_
        refine h_op (r_len rfl) ?_
        refine h_op (r_bool (r_gtr rfl rfl) (decide_eq_true (by omega))) ?_
        refine h_op (r_pick rfl rfl) ?_
        refine h_nil ?_
        refine q_then ?_
        refine h_condT rfl ?_
        refine h_seq ?_
        refine h_reg ?_
        refine h_call ((alive13_s h).comes) rfl rfl rfl fun ⟨z1, hz1⟩ => ?_
        dsimp only
        refine h_op (r_assign rfl) ?_
        refine h_nil ?_
        refine q_then ?_
        refine h_ret ?_
        refine q_thenR ?_
        exact h_ret1 rfl rfl fun w s => ⟨⟨z1, hz1⟩, rfl, (same (L' := [.zone true z1]) w s).res (List.Sublist.refl _) (by simp [Fa.wr])⟩
      · have hx32 : xb.length = 32 := by rw [← hxn]; exact entE_key he
        refine h_op (r_bool (r_neq rfl rfl) (show _ = false from rfl)) ?_
        refine h_op (r_pick rfl rfl) ?_
        refine h_op (r_move rfl) ?_
        refine h_op (r_move rfl) ?_
        refine h_op (r_len rfl) ?_
        refine h_op (r_bool (r_gtr rfl rfl) (decide_eq_false (by omega))) ?_
        refine h_op (r_pick rfl rfl) ?_
        refine h_nil ?_
        refine q_then ?_
        refine h_condF rfl ?_
        refine h_skip ?_
        refine q_then ?_
        refine h_seq ?_
        refine h_seq ?_
        refine h_reg ?_
        refine h_op (r_move rfl) ?_
        refine h_op (r_nilR rfl rfl) ?_
        refine h_op (r_move rfl) ?_
        refine h_op (r_move rfl) ?_
        refine h_op (r_neq rfl rfl) ?_
        refine h_op (r_pick rfl rfl) ?_
        refine h_nil ?_
        refine q_then ?_
        refine h_condF rfl ?_
        rw [show x.n = xb.length from hxn, show y.n = yb.length from hyn]
        refine h_skip ?_
        refine q_then ?_
        refine h_seq ?_
        refine h_reg ?_
        refine h_opX (x_bsl0 (xs := bc []) rfl) fun g48 => ?_
        refine h_op (r_move rfl) ?_
        refine h_opX (x_appAB (lx := []) (ly := xb) rfl rfl hXn rfl) fun ⟨A50, c50⟩ => ?_
        refine h_opX (x_bsl0 (xs := bc []) rfl) fun g51 => ?_
        refine h_op (r_move rfl) ?_
        refine h_opX (x_appAB (lx := []) (ly := yb) rfl rfl hYn rfl) fun ⟨A53, c53⟩ => ?_
        refine h_op (r_assign rfl) ?_
        refine h_op (r_assign rfl) ?_
        refine h_nil ?_
        refine q_then ?_
        refine h_seq ?_
        refine h_seq ?_
        refine h_reg ?_
        refine h_op (r_move rfl) ?_
        refine h_op (r_move rfl) ?_
        refine h_op (r_move rfl) ?_
        rw [List.nil_append, List.nil_append, show bc xb = (keyOf xb).cells from (keyOf_cells hx32).symm]
        have hP := fun A cA B cB hB => TPut0_r n hn gh gc 0 (by decide) h t0 A cA xb hx32 B cB yb hB (entE_val (kn := x.n) (by rw [← hyn]; exact he))
        refine h_pure (φ := A53 = none → yb.length = 0 ∧ c53 = 0) (fun w s' => (s'.ownLe (B := A53) (N := yb.length) (c := c53)).2.2) fun hBn => ?_
        refine h_call ((hP A50 c50 A53 c53 hBn).comes) rfl rfl rfl fun ⟨⟨z1, q, k1⟩, hz1, ht1, hk1⟩ => ?_
        dsimp only at hz1 ht1 hk1 ⊢
        have hxz1 : RdZ z1 x.A (bc xb) := hxr.mono hz1
        refine h_op (r_nilnn rfl) ?_
        refine h_nil ?_
        refine q_then ?_
        refine h_condF rfl ?_
        refine h_skip ?_
        refine q_then ?_
        refine h_seq ?_
        refine h_reg ?_
        refine h_op (r_move rfl) ?_
        refine h_call ((rOf_s xb x.A x.c hx32).comes) rfl rfl rfl fun _ => ?_
        refine h_op (r_move rfl) ?_
        refine h_op (r_build (out := Entry.cells ⟨keyOf xb, ⟨y.A, yb.length, y.c⟩⟩) rfl) ?_
        refine h_opX (x_bsl rfl rfl) fun g63 => ?_
        refine h_op (r_assign rfl) ?_
        refine h_nil ?_
        refine q_then ?_
        refine h_seq ?_
        refine h_reg ?_
        refine h_op (r_move rfl) ?_
        refine h_op (r_move rfl) ?_
        generalize he0 : (⟨⟨keyOf xb, ⟨y.A, yb.length, y.c⟩⟩, yb⟩ : En) = e0
        have hce : Entry.cells ⟨keyOf xb, ⟨y.A, yb.length, y.c⟩⟩ = ents [e0] := by rw [← he0]; simp [ents]
        rw [hce]
        refine h_freezeO (.slice (some ⟨g63, 0, none⟩) 1 1) fun z2 B2 c2 e2 _ _ _ hz2 hr2 => ?_
        injection e2 with e2 _ e2'
        subst e2 e2'
        have hz02 := hz1.trans hz2
        have hek : e0.key = keyOf xb := by rw [← he0]
        have hev : e0.val = yb := by rw [← he0]
        have hm0 : mkT [e0] 0 = .leaf (keyOf xb) yb := by rw [mkT_one e0 (by omega), hek, hev]
        have ht2 : TrZ n z2 (mkT [e0] 0) q := by rw [hm0]; exact ⟨ht1.ok.mono hz2⟩
        have hy2 : SlZ z2 ⟨y.A, yb.length, y.c⟩ yb := by
          have := hY.mono hz02
          obtain ⟨yA, yn, yc⟩ := y
          dsimp only at hyn ⊢
          subst hyn
          exact this
        have hyb : yb.length ≤ 300 := by omega
        have hv2 : ValsZ z2 [e0] := fun e hm => by
          rw [List.mem_singleton.1 hm, ← he0]
          exact ⟨hy2, by dsimp only; omega⟩
        have ho2 : OrdM [e0] := List.pairwise_singleton ..
        have hX2 : SlZ z2 ⟨x.A, xb.length, x.c⟩ xb := by
          have := hX.mono hz02
          obtain ⟨xA, xn, xc⟩ := x
          dsimp only at hxn ⊢
          subst hxn
          exact this
        have hG := TGet_ok n gh t0 z2 (m := [e0]) ho2.alike q ⟨x.A, xb.length, x.c⟩ xb hx32 (fun e hm => by rw [List.mem_singleton.1 hm, hev]; omega)
        have hget : getE' [e0] (keyOf xb) = some e0 := List.find?_cons_of_pos (decide_eq_true hek)
        rw [hget, show getV (some e0) = yb from hev] at hG
        refine h_call (hG.comes) rfl rfl rfl fun ⟨A68, c68⟩ => ?_
        dsimp only
        have hEs := TEntries_s t0 gh q n z2 (m := [e0]) ho2 (fun e hm => by rw [List.mem_singleton.1 hm, hev]; omega) (by show 1 ≤ 100000; decide)
        rw [hm0, show lvP z2 q 0 (.leaf (keyOf xb) yb) = [⟨q, 0, keyOf xb, yb⟩] from rfl] at hEs
        refine h_op (r_move rfl) ?_
        refine h_op (r_extract rfl rfl) ?_
        refine h_op (r_extract rfl rfl) ?_
        refine h_op (r_extract rfl rfl) ?_
        refine h_op (r_assign rfl) ?_
        refine h_op (r_assign rfl) ?_
        refine h_op (r_assign rfl) ?_
        refine h_nil ?_
        refine q_then ?_
        refine h_seq ?_
        refine h_reg ?_
        refine h_op (r_move rfl) ?_
        refine h_call (hEs.comes) rfl rfl rfl fun ⟨⟨us, Ao, co⟩, hok⟩ => ?_
        obtain ⟨u, rfl⟩ : ∃ u, us = [u] := List.length_eq_one_iff.1 hok.len
        have hu : u.2.2 = yb := by have := hok.val; simpa using this
        obtain ⟨Au, cu, lu⟩ := u
        obtain rfl : lu = yb := hu
        have h1l := hx32
        change H _ _ _ _ _ (.own (.slice Ao 1 co) 1 89 33 (ents [⟨⟨keyOf xb, ⟨Au, lu.length, cu⟩⟩, lu⟩]) :: .own (.slice Au lu.length cu) lu.length 5 1 (bc lu) :: .own (.slice A68 lu.length c68) lu.length 5 1 (bc lu) :: _) _
        refine h_op (r_assign rfl) ?_
        refine h_nil ?_
        refine q_then ?_
        refine h_seq ?_
        refine h_seq ?_
        refine h_reg ?_
        refine h_op (r_move rfl) ?_
        refine h_op (r_move rfl) ?_
        refine h_op (r_move rfl) ?_
        refine h_opX (x_bsl rfl rfl) fun g76 => ?_
        refine h_op (r_len rfl) ?_
        refine h_op (r_move rfl) ?_
        refine h_nil ?_
        refine q_then ?_
        refine h_block ?_
        rw [show (keyOf xb).cells = bc xb from keyOf_cells hx32]
        refine h_loop (fun (s : Nat × List UInt8 × List UInt8 × List UInt8) => s.1 ≤ 3 ∧ s.2.1.length = xb.length ∧ s.2.2.1.length = lu.length ∧ s.2.2.2.length = lu.length) (fun (s : Nat × List UInt8 × List UInt8 × List UInt8) => [(78, .int .i64 (s.1 : Int)), (77, .int .i64 3), (76, .slice (some ⟨g76, 0, none⟩) 3 3), (0, .int .i64 (n : Int)), (7, .pointer (some ⟨t0, 0, none⟩)), (11, .slice (some ⟨g63, 0, none⟩) 1 1), (15, .slice Ao 1 co)]) (fun (s : Nat × List UInt8 × List UInt8 × List UInt8) => [.own (.slice A50 xb.length c50) xb.length 5 1 (bc s.2.1), .own (.slice A53 lu.length c53) lu.length 5 1 (bc s.2.2.1), .own (.slice A68 lu.length c68) lu.length 5 1 (bc s.2.2.2), .own (.slice (some ⟨g76, 0, none⟩) 3 3) 3 35 1 [.slice A50 xb.length c50, .slice A53 lu.length c53, .slice A68 lu.length c68], .own (.slice Ao 1 co) 1 89 33 (ents [⟨⟨keyOf xb, ⟨Au, lu.length, cu⟩⟩, lu⟩]), .own (.slice Au lu.length cu) lu.length 5 1 (bc lu), .zone true z2, CN gc k1, TreeF t0 gh q, HB gh gc n]) (fun (s : Nat × List UInt8 × List UInt8 × List UInt8) => 3 - s.1) (0, xb, lu, lu) (⟨Nat.zero_le _, rfl, rfl, rfl⟩) ⟨rfl, rfl, rfl, rfl, rfl, rfl, rfl, trivial⟩ (same) ?_
        rintro ⟨i3, l1, l2, l3⟩ ⟨hi3, hl1, hl2, hl3⟩
        dsimp only at hi3 hl1 hl2 hl3 ⊢
        refine h_seq ?_
        refine h_reg ?_
        refine h_op (r_lss rfl rfl) ?_
        refine h_nil ?_
        refine q_then ?_
        refine h_seq ?_
        refine h_cond rfl (fun hlt => ?_) (fun hlt => ?_)
        · have hi4 : i3 < 3 := by omega
          obtain rfl | rfl | rfl : i3 = 0 ∨ i3 = 1 ∨ i3 = 2 := by omega
          · refine h_skip ?_
            refine q_then ?_
            refine h_seq ?_
            refine h_block ?_
            refine h_seq ?_
            refine h_reg ?_
            refine h_op (r_idx rfl rfl) ?_
            refine h_op (r_nth rfl (show ([.slice A50 xb.length c50, .slice A53 lu.length c53, .slice A68 lu.length c68] : List Value)[0]? = some (.slice A50 xb.length c50) from rfl)) ?_
            refine h_op (r_assign rfl) ?_
            refine h_nil ?_
            refine q_then ?_
            refine h_seq ?_
            refine h_reg ?_
            refine h_op (r_move rfl) ?_
            refine h_op (r_len rfl) ?_
            refine h_op (r_move rfl) ?_
            refine h_nil ?_
            refine q_then ?_
            refine h_block ?_
            refine h_loop (fun (s2 : Nat × List UInt8) => s2.1 ≤ xb.length ∧ s2.2.length = xb.length) (fun (s2 : Nat × List UInt8) => [(84, .int .i64 (s2.1 : Int)), (83, .int .i64 (xb.length : Int)), (17, .slice A50 xb.length c50), (78, .int .i64 0), (77, .int .i64 3), (76, .slice (some ⟨g76, 0, none⟩) 3 3), (0, .int .i64 (n : Int)), (7, .pointer (some ⟨t0, 0, none⟩)), (11, .slice (some ⟨g63, 0, none⟩) 1 1), (15, .slice Ao 1 co)]) (fun (s2 : Nat × List UInt8) => [.own (.slice A50 xb.length c50) xb.length 5 1 (bc s2.2), .own (.slice A53 lu.length c53) lu.length 5 1 (bc l2), .own (.slice A68 lu.length c68) lu.length 5 1 (bc l3), .own (.slice (some ⟨g76, 0, none⟩) 3 3) 3 35 1 [.slice A50 xb.length c50, .slice A53 lu.length c53, .slice A68 lu.length c68], .own (.slice Ao 1 co) 1 89 33 (ents [⟨⟨keyOf xb, ⟨Au, lu.length, cu⟩⟩, lu⟩]), .own (.slice Au lu.length cu) lu.length 5 1 (bc lu), .zone true z2, CN gc k1, TreeF t0 gh q, HB gh gc n]) (fun (s2 : Nat × List UInt8) => xb.length - s2.1) (0, l1) (⟨Nat.zero_le _, hl1⟩) ⟨rfl, rfl, rfl, rfl, rfl, rfl, rfl, rfl, rfl, rfl, trivial⟩ (same) ?_
            rintro ⟨j, lj⟩ ⟨hj, hlj⟩
            dsimp only at hj hlj ⊢
            refine h_seq ?_
            refine h_reg ?_
            refine h_op (r_lss rfl rfl) ?_
            refine h_nil ?_
            refine q_then ?_
            refine h_seq ?_
            refine h_cond rfl (fun hlt2 => ?_) (fun hlt2 => ?_)
            · have hj2 : j < xb.length := by omega
              have hbj := bc_at' (l := lj) (i := j) (by omega)
              refine h_pure (φ := ∃ g, A50 = some ⟨g, 0, none⟩) (fun w s' => s'.ownSome (N := xb.length) (c := c50) (by omega)) ?_
              rintro ⟨gq, rfl⟩
              refine h_skip ?_
              refine q_then ?_
              refine h_seq ?_
              refine h_block ?_
              refine h_seq ?_
              refine h_reg ?_
              refine h_op (r_move rfl) ?_
              refine h_op (r_assign rfl) ?_
              refine h_nil ?_
              refine q_then ?_
              refine h_reg ?_
              refine h_op (r_move rfl) ?_
              refine h_op (r_move rfl) ?_
              refine h_op (r_idx rfl rfl) ?_
              refine h_op (r_nth rfl hbj) ?_
              refine h_op (r_addW rfl rfl) ?_
              refine h_op (r_idx rfl rfl) ?_
              refine h_opS (s_setBO rfl rfl) ?_
              refine h_nil ?_
              refine q_block ?_
              refine q_then ?_
              refine h_reg ?_
              refine h_op (r_add rfl rfl) ?_
              refine h_op (r_move rfl) ?_
              refine h_nil ?_
              exact h_back (j + 1, lj.set j (UInt8.ofBitVec ((lj.getD j 0).toBitVec + 1))) (⟨hj2, by dsimp only; rw [List.length_set]; exact hlj⟩) ((show xb.length - (j + 1) < xb.length - j by omega)) ⟨rfl, rfl, rfl, rfl, rfl, rfl, rfl, rfl, rfl, rfl, trivial⟩ (same)
            · obtain rfl : j = xb.length := by omega
              refine h_exit ?_
              refine q_thenE ?_
              refine q_thenE ?_
              refine q_blockE ?_
              refine q_block ?_
              refine q_then ?_
              refine h_reg ?_
              refine h_op (r_add rfl rfl) ?_
              refine h_op (r_move rfl) ?_
              refine h_nil ?_
              exact h_back (1, lj, l2, l3) (⟨show 1 ≤ 3 by decide, hlj, hl2, hl3⟩) ((show 3 - 1 < 3 - 0 by decide)) ⟨rfl, rfl, rfl, rfl, rfl, rfl, rfl, trivial⟩ (same)
          · refine h_skip ?_
            refine q_then ?_
            refine h_seq ?_
            refine h_block ?_
            refine h_seq ?_
            refine h_reg ?_
            refine h_op (r_idx rfl rfl) ?_
            refine h_op (r_nth rfl (show ([.slice A50 xb.length c50, .slice A53 lu.length c53, .slice A68 lu.length c68] : List Value)[1]? = some (.slice A53 lu.length c53) from rfl)) ?_
            refine h_op (r_assign rfl) ?_
            refine h_nil ?_
            refine q_then ?_
            refine h_seq ?_
            refine h_reg ?_
            refine h_op (r_move rfl) ?_
            refine h_op (r_len rfl) ?_
            refine h_op (r_move rfl) ?_
            refine h_nil ?_
            refine q_then ?_
            refine h_block ?_
            refine h_loop (fun (s2 : Nat × List UInt8) => s2.1 ≤ lu.length ∧ s2.2.length = lu.length) (fun (s2 : Nat × List UInt8) => [(84, .int .i64 (s2.1 : Int)), (83, .int .i64 (lu.length : Int)), (17, .slice A53 lu.length c53), (78, .int .i64 1), (77, .int .i64 3), (76, .slice (some ⟨g76, 0, none⟩) 3 3), (0, .int .i64 (n : Int)), (7, .pointer (some ⟨t0, 0, none⟩)), (11, .slice (some ⟨g63, 0, none⟩) 1 1), (15, .slice Ao 1 co)]) (fun (s2 : Nat × List UInt8) => [.own (.slice A53 lu.length c53) lu.length 5 1 (bc s2.2), .own (.slice A50 xb.length c50) xb.length 5 1 (bc l1), .own (.slice A68 lu.length c68) lu.length 5 1 (bc l3), .own (.slice (some ⟨g76, 0, none⟩) 3 3) 3 35 1 [.slice A50 xb.length c50, .slice A53 lu.length c53, .slice A68 lu.length c68], .own (.slice Ao 1 co) 1 89 33 (ents [⟨⟨keyOf xb, ⟨Au, lu.length, cu⟩⟩, lu⟩]), .own (.slice Au lu.length cu) lu.length 5 1 (bc lu), .zone true z2, CN gc k1, TreeF t0 gh q, HB gh gc n]) (fun (s2 : Nat × List UInt8) => lu.length - s2.1) (0, l2) (⟨Nat.zero_le _, hl2⟩) ⟨rfl, rfl, rfl, rfl, rfl, rfl, rfl, rfl, rfl, rfl, trivial⟩ (same) ?_
            rintro ⟨j, lj⟩ ⟨hj, hlj⟩
            dsimp only at hj hlj ⊢
            refine h_seq ?_
            refine h_reg ?_
            refine h_op (r_lss rfl rfl) ?_
            refine h_nil ?_
            refine q_then ?_
            refine h_seq ?_
            refine h_cond rfl (fun hlt2 => ?_) (fun hlt2 => ?_)
            · have hj2 : j < lu.length := by omega
              have hbj := bc_at' (l := lj) (i := j) (by omega)
              refine h_pure (φ := ∃ g, A53 = some ⟨g, 0, none⟩) (fun w s' => s'.ownSome (N := lu.length) (c := c53) (by omega)) ?_
              rintro ⟨gq, rfl⟩
              refine h_skip ?_
              refine q_then ?_
              refine h_seq ?_
              refine h_block ?_
              refine h_seq ?_
              refine h_reg ?_
              refine h_op (r_move rfl) ?_
              refine h_op (r_assign rfl) ?_
              refine h_nil ?_
              refine q_then ?_
              refine h_reg ?_
              refine h_op (r_move rfl) ?_
              refine h_op (r_move rfl) ?_
              refine h_op (r_idx rfl rfl) ?_
              refine h_op (r_nth rfl hbj) ?_
              refine h_op (r_addW rfl rfl) ?_
              refine h_op (r_idx rfl rfl) ?_
              refine h_opS (s_setBO rfl rfl) ?_
              refine h_nil ?_
              refine q_block ?_
              refine q_then ?_
              refine h_reg ?_
              refine h_op (r_add rfl rfl) ?_
              refine h_op (r_move rfl) ?_
              refine h_nil ?_
              exact h_back (j + 1, lj.set j (UInt8.ofBitVec ((lj.getD j 0).toBitVec + 1))) (⟨hj2, by dsimp only; rw [List.length_set]; exact hlj⟩) ((show lu.length - (j + 1) < lu.length - j by omega)) ⟨rfl, rfl, rfl, rfl, rfl, rfl, rfl, rfl, rfl, rfl, trivial⟩ (same)
            · obtain rfl : j = lu.length := by omega
              refine h_exit ?_
              refine q_thenE ?_
              refine q_thenE ?_
              refine q_blockE ?_
              refine q_block ?_
              refine q_then ?_
              refine h_reg ?_
              refine h_op (r_add rfl rfl) ?_
              refine h_op (r_move rfl) ?_
              refine h_nil ?_
              exact h_back (2, l1, lj, l3) (⟨show 2 ≤ 3 by decide, hl1, hlj, hl3⟩) ((show 3 - 2 < 3 - 1 by decide)) ⟨rfl, rfl, rfl, rfl, rfl, rfl, rfl, trivial⟩ (same)
          · refine h_skip ?_
            refine q_then ?_
            refine h_seq ?_
            refine h_block ?_
            refine h_seq ?_
            refine h_reg ?_
            refine h_op (r_idx rfl rfl) ?_
            refine h_op (r_nth rfl (show ([.slice A50 xb.length c50, .slice A53 lu.length c53, .slice A68 lu.length c68] : List Value)[2]? = some (.slice A68 lu.length c68) from rfl)) ?_
            refine h_op (r_assign rfl) ?_
            refine h_nil ?_
            refine q_then ?_
            refine h_seq ?_
            refine h_reg ?_
            refine h_op (r_move rfl) ?_
            refine h_op (r_len rfl) ?_
            refine h_op (r_move rfl) ?_
            refine h_nil ?_
            refine q_then ?_
            refine h_block ?_
            refine h_loop (fun (s2 : Nat × List UInt8) => s2.1 ≤ lu.length ∧ s2.2.length = lu.length) (fun (s2 : Nat × List UInt8) => [(84, .int .i64 (s2.1 : Int)), (83, .int .i64 (lu.length : Int)), (17, .slice A68 lu.length c68), (78, .int .i64 2), (77, .int .i64 3), (76, .slice (some ⟨g76, 0, none⟩) 3 3), (0, .int .i64 (n : Int)), (7, .pointer (some ⟨t0, 0, none⟩)), (11, .slice (some ⟨g63, 0, none⟩) 1 1), (15, .slice Ao 1 co)]) (fun (s2 : Nat × List UInt8) => [.own (.slice A68 lu.length c68) lu.length 5 1 (bc s2.2), .own (.slice A50 xb.length c50) xb.length 5 1 (bc l1), .own (.slice A53 lu.length c53) lu.length 5 1 (bc l2), .own (.slice (some ⟨g76, 0, none⟩) 3 3) 3 35 1 [.slice A50 xb.length c50, .slice A53 lu.length c53, .slice A68 lu.length c68], .own (.slice Ao 1 co) 1 89 33 (ents [⟨⟨keyOf xb, ⟨Au, lu.length, cu⟩⟩, lu⟩]), .own (.slice Au lu.length cu) lu.length 5 1 (bc lu), .zone true z2, CN gc k1, TreeF t0 gh q, HB gh gc n]) (fun (s2 : Nat × List UInt8) => lu.length - s2.1) (0, l3) (⟨Nat.zero_le _, hl3⟩) ⟨rfl, rfl, rfl, rfl, rfl, rfl, rfl, rfl, rfl, rfl, trivial⟩ (same) ?_
            rintro ⟨j, lj⟩ ⟨hj, hlj⟩
            dsimp only at hj hlj ⊢
            refine h_seq ?_
            refine h_reg ?_
            refine h_op (r_lss rfl rfl) ?_
            refine h_nil ?_
            refine q_then ?_
            refine h_seq ?_
            refine h_cond rfl (fun hlt2 => ?_) (fun hlt2 => ?_)
            · have hj2 : j < lu.length := by omega
              have hbj := bc_at' (l := lj) (i := j) (by omega)
              refine h_pure (φ := ∃ g, A68 = some ⟨g, 0, none⟩) (fun w s' => s'.ownSome (N := lu.length) (c := c68) (by omega)) ?_
              rintro ⟨gq, rfl⟩
              refine h_skip ?_
              refine q_then ?_
              refine h_seq ?_
              refine h_block ?_
              refine h_seq ?_
              refine h_reg ?_
              refine h_op (r_move rfl) ?_
              refine h_op (r_assign rfl) ?_
              refine h_nil ?_
              refine q_then ?_
              refine h_reg ?_
              refine h_op (r_move rfl) ?_
              refine h_op (r_move rfl) ?_
              refine h_op (r_idx rfl rfl) ?_
              refine h_op (r_nth rfl hbj) ?_
              refine h_op (r_addW rfl rfl) ?_
              refine h_op (r_idx rfl rfl) ?_
              refine h_opS (s_setBO rfl rfl) ?_
              refine h_nil ?_
              refine q_block ?_
              refine q_then ?_
              refine h_reg ?_
              refine h_op (r_add rfl rfl) ?_
              refine h_op (r_move rfl) ?_
              refine h_nil ?_
              exact h_back (j + 1, lj.set j (UInt8.ofBitVec ((lj.getD j 0).toBitVec + 1))) (⟨hj2, by dsimp only; rw [List.length_set]; exact hlj⟩) ((show lu.length - (j + 1) < lu.length - j by omega)) ⟨rfl, rfl, rfl, rfl, rfl, rfl, rfl, rfl, rfl, rfl, trivial⟩ (same)
            · obtain rfl : j = lu.length := by omega
              refine h_exit ?_
              refine q_thenE ?_
              refine q_thenE ?_
              refine q_blockE ?_
              refine q_block ?_
              refine q_then ?_
              refine h_reg ?_
              refine h_op (r_add rfl rfl) ?_
              refine h_op (r_move rfl) ?_
              refine h_nil ?_
              exact h_back (3, l1, l2, lj) (⟨show 3 ≤ 3 by decide, hl1, hl2, hlj⟩) ((show 3 - 3 < 3 - 2 by decide)) ⟨rfl, rfl, rfl, rfl, rfl, rfl, rfl, trivial⟩ (same)
        · refine h_exit ?_
          refine q_thenE ?_
          refine q_thenE ?_
          refine q_blockE ?_
          refine q_then ?_
          refine h_seq ?_
          refine h_seq ?_
          refine h_reg ?_
          refine h_op (r_move rfl) ?_
          refine h_op (r_len rfl) ?_
          refine h_op (r_move rfl) ?_
          refine h_nil ?_
          refine q_then ?_
          refine h_block ?_
          refine h_loop (fun (s : Nat × List UInt8) => s.1 ≤ 1 ∧ s.2.length = lu.length) (fun (s : Nat × List UInt8) => [(97, .int .i64 (s.1 : Int)), (96, .int .i64 1), (0, .int .i64 (n : Int)), (7, .pointer (some ⟨t0, 0, none⟩)), (11, .slice (some ⟨g63, 0, none⟩) 1 1), (15, .slice Ao 1 co)]) (fun (s : Nat × List UInt8) => [.own (.slice Ao 1 co) 1 89 33 (ents [⟨⟨keyOf xb, ⟨Au, lu.length, cu⟩⟩, lu⟩]), .own (.slice Au lu.length cu) lu.length 5 1 (bc s.2), .zone true z2, CN gc k1, TreeF t0 gh q, HB gh gc n]) (fun (s : Nat × List UInt8) => 1 - s.1) (0, lu) (⟨Nat.zero_le _, rfl⟩) ⟨rfl, rfl, rfl, rfl, rfl, rfl, trivial⟩ (same) ?_
          rintro ⟨i5, l5⟩ ⟨hi5, hl5⟩
          dsimp only at hi5 hl5 ⊢
          refine h_seq ?_
          refine h_reg ?_
          refine h_op (r_lss rfl rfl) ?_
          refine h_nil ?_
          refine q_then ?_
          refine h_seq ?_
          refine h_cond rfl (fun hlt5 => ?_) (fun hlt5 => ?_)
          · obtain rfl : i5 = 0 := by omega
            have hev0 := ents_val (l := [(⟨⟨keyOf xb, ⟨Au, lu.length, cu⟩⟩, lu⟩ : En)]) (k := 0) rfl
            refine h_pure (φ := ∃ g, Ao = some ⟨g, 0, none⟩) (fun w s' => s'.ownSome (N := 1) (c := co) (by omega)) ?_
            rintro ⟨go, rfl⟩
            refine h_skip ?_
            refine q_then ?_
            refine h_seq ?_
            refine h_block ?_
            refine h_seq ?_
            refine h_reg ?_
            refine h_op (r_move rfl) ?_
            refine h_op (r_assign rfl) ?_
            refine h_nil ?_
            refine q_then ?_
            refine h_seq ?_
            refine h_reg ?_
            refine h_op (r_move rfl) ?_
            refine h_op (r_move rfl) ?_
            refine h_op (r_idx rfl rfl) ?_
            refine h_op (r_field rfl (O' := 0 * 33 + 32) (by omega)) ?_
            refine h_op (r_nth rfl hev0) ?_
            refine h_op (r_len rfl) ?_
            refine h_op (r_move rfl) ?_
            refine h_nil ?_
            refine q_then ?_
            refine h_block ?_
            refine h_loop (fun (s : Nat × List UInt8) => s.1 ≤ lu.length ∧ s.2.length = lu.length) (fun (s : Nat × List UInt8) => [(106, .int .i64 (s.1 : Int)), (105, .int .i64 (lu.length : Int)), (19, .int .i64 0), (97, .int .i64 0), (96, .int .i64 1), (0, .int .i64 (n : Int)), (7, .pointer (some ⟨t0, 0, none⟩)), (11, .slice (some ⟨g63, 0, none⟩) 1 1), (15, .slice (some ⟨go, 0, none⟩) 1 co)]) (fun (s : Nat × List UInt8) => [.own (.slice (some ⟨go, 0, none⟩) 1 co) 1 89 33 (ents [⟨⟨keyOf xb, ⟨Au, lu.length, cu⟩⟩, lu⟩]), .own (.slice Au lu.length cu) lu.length 5 1 (bc s.2), .zone true z2, CN gc k1, TreeF t0 gh q, HB gh gc n]) (fun (s : Nat × List UInt8) => lu.length - s.1) (0, l5) (⟨Nat.zero_le _, hl5⟩) ⟨rfl, rfl, rfl, rfl, rfl, rfl, rfl, rfl, rfl, trivial⟩ (same) ?_
            rintro ⟨j, lj⟩ ⟨hj, hlj⟩
            dsimp only at hj hlj ⊢
            refine h_seq ?_
            refine h_reg ?_
            refine h_op (r_lss rfl rfl) ?_
            refine h_nil ?_
            refine q_then ?_
            refine h_seq ?_
            refine h_cond rfl (fun hlt6 => ?_) (fun hlt6 => ?_)
            · have hj2 : j < lu.length := by omega
              have hbj := bc_at' (l := lj) (i := j) (by omega)
              refine h_pure (φ := ∃ g, Au = some ⟨g, 0, none⟩) (fun w s' => s'.ownSome (N := lu.length) (c := cu) (by omega)) ?_
              rintro ⟨gu, rfl⟩
              refine h_skip ?_
              refine q_then ?_
              refine h_seq ?_
              refine h_block ?_
              refine h_seq ?_
              refine h_reg ?_
              refine h_op (r_move rfl) ?_
              refine h_op (r_assign rfl) ?_
              refine h_nil ?_
              refine q_then ?_
              refine h_reg ?_
              refine h_op (r_move rfl) ?_
              refine h_op (r_move rfl) ?_
              refine h_op (r_idx rfl rfl) ?_
              refine h_op (r_field rfl (O' := 0 * 33 + 32) (by omega)) ?_
              refine h_op (r_nth rfl hev0) ?_
              refine h_op (r_move rfl) ?_
              refine h_op (r_idx rfl rfl) ?_
              refine h_op (r_nth rfl hbj) ?_
              refine h_op (r_addW rfl rfl) ?_
              refine h_op (r_idx rfl rfl) ?_
              refine h_opS (s_setBO rfl rfl) ?_
              refine h_nil ?_
              refine q_block ?_
              refine q_then ?_
              refine h_reg ?_
              refine h_op (r_add rfl rfl) ?_
              refine h_op (r_move rfl) ?_
              refine h_nil ?_
              exact h_back (j + 1, lj.set j (UInt8.ofBitVec ((lj.getD j 0).toBitVec + 1))) (⟨hj2, by dsimp only; rw [List.length_set]; exact hlj⟩) ((show lu.length - (j + 1) < lu.length - j by omega)) ⟨rfl, rfl, rfl, rfl, rfl, rfl, rfl, rfl, rfl, trivial⟩ (same)
            · obtain rfl : j = lu.length := by omega
              refine h_exit ?_
              refine q_thenE ?_
              refine q_thenE ?_
              refine q_blockE ?_
              refine q_block ?_
              refine q_then ?_
              refine h_reg ?_
              refine h_op (r_add rfl rfl) ?_
              refine h_op (r_move rfl) ?_
              refine h_nil ?_
              exact h_back (1, lj) (⟨Nat.le_refl _, hlj⟩) ((show 1 - 1 < 1 - 0 by decide)) ⟨rfl, rfl, rfl, rfl, rfl, rfl, trivial⟩ (same)
          · have hT2 : RdZ z2 (some ⟨1, 0, none⟩) hashT := hT.mono hz02
            have hE2 : ERZ z2 := hE.mono hz02
            refine h_exit ?_
            refine q_thenE ?_
            refine q_thenE ?_
            refine q_blockE ?_
            refine q_then ?_
            refine h_seq ?_
            refine h_reg ?_
            refine h_op (r_move rfl) ?_
            refine h_call ((THasher_s t0 gh q).comes) rfl rfl rfl fun _ => ?_
            refine h_op (r_assign rfl) ?_
            refine h_nil ?_
            refine q_then ?_
            refine h_seq ?_
            refine h_seq ?_
            refine h_reg ?_
            refine h_op (r_move rfl) ?_
            refine h_op (r_nilR rfl rfl) ?_
            refine h_op (r_move rfl) ?_
            refine h_op (r_move rfl) ?_
            refine h_call ((HBits_s n gh gc).comes) rfl rfl rfl fun _ => ?_
            refine h_op (r_move rfl) ?_
            refine h_op (r_bool (r_neq rfl rfl) (decide_eq_false (fun h => h rfl))) ?_
            refine h_op (r_pick rfl rfl) ?_
            refine h_nil ?_
            refine q_then ?_
            refine h_condF rfl ?_
            refine h_skip ?_
            refine q_then ?_
            refine h_seq ?_
            refine h_reg ?_
            refine h_call ((alive13_s z2).comes) rfl rfl rfl fun ⟨z3, hz3⟩ => ?_
            dsimp only
            have hT3 : RdZ z3 (some ⟨1, 0, none⟩) hashT := hT2.mono hz3
            have ht3 : TrZ n z3 (mkT [e0] 0) q := ⟨ht2.ok.mono hz3⟩
            have hr3 : RdZ z3 (some ⟨g63, 0, none⟩) (ents [e0]) := hr2.mono hz3
            have hDf := Differs_s n hn gh gc t0 k1 (by omega) z3 (m := [e0]) ho2 (by show 1 ≤ 1000; decide) (hv2.mono hz3) q (some ⟨g63, 0, none⟩) 1
            refine h_op (r_move rfl) ?_
            refine h_op (r_move rfl) ?_
            refine h_op (r_move rfl) ?_
            refine h_op (r_move rfl) ?_
            refine h_call (hDf.comes) rfl rfl rfl fun ⟨⟨z4, k4⟩, hz4, hk4⟩ => ?_
            dsimp only at hz4 hk4 ⊢
            have hT4 : RdZ z4 (some ⟨1, 0, none⟩) hashT := hT3.mono hz4
            have ht4 : TrZ n z4 (mkT [e0] 0) q := ⟨ht3.ok.mono hz4⟩
            have hDg := Digest_s n hn gh gc k4 (by omega) z4 (mkT [e0] 0) q
            have hkd : (mkT [e0] 0).kind = 1 := by rw [hm0]; rfl
            rw [if_neg (show ¬ (mkT [e0] 0).kind = 0 by omega)] at hDg
            have hRt := TRoot_s t0 gh q n z4 (mkT [e0] 0) hn gc k4 (by omega)
            rw [if_neg (show ¬ (mkT [e0] 0).kind = 0 by omega)] at hRt
            have hLn := NLen_s n z4 (mkT [e0] 0) q
            rw [show (mkT [e0] 0).cnt = 1 by rw [hm0]; rfl] at hLn
            refine h_op (r_bool (r_eql rfl rfl) (show _ = true from rfl)) ?_
            refine h_op (r_pick rfl rfl) ?_
            refine h_op (r_move rfl) ?_
            refine h_op (r_move rfl) ?_
            refine h_op (r_move rfl) ?_
            refine h_call ((TNode_s t0 gh q).comes) rfl rfl rfl fun _ => ?_
            refine h_call (hDg.comes) rfl rfl rfl fun _ => ?_
            refine h_op (r_move rfl) ?_
            refine h_call (hRt.comes) rfl rfl rfl fun _ => ?_
            refine h_op (r_bool (r_eqr (p := dgT n (mkT [e0] 0) = dgT n (mkT [e0] 0)) rfl rfl) (decide_eq_true rfl)) ?_
            refine h_op (r_pick rfl rfl) ?_
            refine h_op (r_move rfl) ?_
            refine h_op (r_move rfl) ?_
            refine h_call ((TNode_s t0 gh q).comes) rfl rfl rfl fun _ => ?_
            refine h_call (hLn.comes) rfl rfl rfl fun _ => ?_
            refine h_op (r_bool (r_eql rfl rfl) (show _ = true from rfl)) ?_
            refine h_op (r_pick rfl rfl) ?_
            refine h_op (r_assign rfl) ?_
            refine h_nil ?_
            refine q_then ?_
            refine h_ret ?_
            exact h_ret1 rfl rfl fun w s => ⟨⟨z4, hz02.trans (hz3.trans hz4)⟩, rfl, (same (L' := [.zone true z4]) w s).res (List.Sublist.refl _) (by simp [Fa.wr])⟩
    · refine h_op (r_bool (r_neq rfl rfl) (decide_eq_true he)) ?_
      refine h_op (r_pick rfl rfl) ?_
      refine h_op (r_move rfl) ?_
      refine h_opOff ?_
      refine h_opOff ?_
      refine h_opOff ?_
      refine h_op (r_pick rfl rfl) ?_
      refine h_nil ?_
      refine q_then ?_
      refine h_condT rfl ?_
      refine h_seq ?_
      refine h_reg ?_
      refine h_call ((alive13_s h).comes) rfl rfl rfl fun ⟨z1, hz1⟩ => ?_
      dsimp only
      refine h_op (r_assign rfl) ?_
      refine h_nil ?_
      refine q_then ?_
      refine h_ret ?_
      refine q_thenR ?_
      exact h_ret1 rfl rfl fun w s => ⟨⟨z1, hz1⟩, rfl, (same (L' := [.zone true z1]) w s).res (List.Sublist.refl _) (by simp [Fa.wr])⟩
  · refine spec_of Tryz.func7 rfl (n := 154) rfl rfl ?_
    intro W
    refine h_seq ?_
    refine h_reg ?_
    refine h_op (r_assign rfl) ?_
    refine h_nil ?_
    refine q_then ?_
    refine h_seq ?_
    refine h_reg ?_
    refine h_op (r_move rfl) ?_
    refine h_call ((TNew_no i hi).comes) rfl rfl rfl fun _ => ?_
    refine h_op (r_move rfl) ?_
    refine h_op (r_extract rfl rfl) ?_
    refine h_op (r_extract rfl rfl) ?_
    refine h_op (r_assign rfl) ?_
    refine h_op (r_assign rfl) ?_
    refine h_nil ?_
    refine q_then ?_
    refine h_seq ?_
    refine h_seq ?_
    refine h_reg ?_
    refine h_op (r_move rfl) ?_
    refine h_call ((Right_no i hi).comes) rfl rfl rfl fun _ => ?_
    refine h_op (r_not rfl) ?_
    refine h_op (r_move rfl) ?_
    refine h_opOff ?_
    refine h_opOff ?_
    refine h_opOff ?_
    refine h_opOff ?_
    refine h_op (r_pick rfl rfl) ?_
    refine h_op (r_move rfl) ?_
    refine h_opOff ?_
    refine h_opOff ?_
    refine h_opOff ?_
    refine h_op (r_pick rfl rfl) ?_
    refine h_nil ?_
    refine q_then ?_
    refine h_condT rfl ?_
    refine h_seq ?_
    refine h_reg ?_
    refine h_call ((alive13_s h).comes) rfl rfl rfl fun ⟨z1, hz1⟩ => ?_
    dsimp only
    refine h_op (r_assign rfl) ?_
    refine h_nil ?_
    refine q_then ?_
    refine h_ret ?_
    refine q_thenR ?_
    exact h_ret1 rfl rfl fun w s => ⟨⟨z1, hz1⟩, rfl, (same (L' := [.zone true z1]) w s).res (List.Sublist.refl _) (by simp [Fa.wr])⟩
end
end Go.Proofs.YtjhlbbgikccclaaGreatDoor
