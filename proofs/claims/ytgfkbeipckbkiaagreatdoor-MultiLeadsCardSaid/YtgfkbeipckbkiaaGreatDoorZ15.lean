/- multiproofs: the reference's some, Prove; The reference's proof of a map: List, Bytes, End, Sibling; The reference's proof of a map; The laws' trees: inputs that they leave out; a key's way; law19: MultiProves is true; The ends of keys, read: where what stands; law19: MultiLeads is true; The subtrees on the way of a key, where they stand: plain; multiproofs: the reference's Way; fold: the end, Backward; fold.ways: what it yields; fold.Steps, fold.Root; slices.Reverse; fold.Preimages; fold.Preimages (joined texts: U78 U49 U50 U51t U85 E22 U86 E21 U76 U18 U19 U20 U21 U22) -/
import Derived.Test.YtgfkbeipckbkiaaGreatDoorZ14
set_option linter.all false
/- U78 -/
namespace Go.Proofs.YtgfkbeipckbkiaaGreatDoor
set_option linter.unusedSimpArgs false
set_option linter.unusedVariables false
open Go.RowKit
theorem any_keysP (p : B32) (d : Nat) : ∀ ks : List B32, (ks.any fun k => decide (d ≤ common k p)) = !(keysP ks p d).isEmpty
  | [] => rfl
  | k :: ks => by
    have ih := any_keysP p d ks
    unfold keysP at ih ⊢
    by_cases h : d ≤ common k p
    · simp [h]
    · rw [List.any_cons, ih, List.filter_cons_of_neg (by simp [h])]
      simp [h]
theorem some_s (ks : List B32) (K : Option Addr) (c : Nat) (p : B32) (d : Nat) (hl : ks.length ≤ 1000000000) : Spec Tryz.prog 59 [.slice K ks.length c, .agg p.cells.toArray, .int .i64 (d : Int)].toArray [.rd K (dgs ks)] [] (fun _ : Unit => .bool (!(keysP ks p d).isEmpty)) (fun _ => []) := by
  rw [← any_keysP]
  refine spec_of Tryz.func59 rfl (n := 22) rfl rfl ?_
  intro W
  refine h_seq ?_
  refine h_reg ?_
  refine h_opX (x_box rfl) fun g4 => ?_
  refine h_op (r_assign rfl) ?_
  refine h_nil ?_
  refine q_then ?_
  refine h_seq ?_
  refine h_seq ?_
  refine h_reg ?_
  refine h_op (r_assign rfl) ?_
  refine h_nil ?_
  refine q_then ?_
  refine h_block ?_
  refine h_loop (fun (k : Nat) => k ≤ ks.length ∧ ((ks.take k).any fun k => decide (d ≤ common k p)) = false) (fun (k : Nat) => [(7, .int .i64 (k : Int)), (0, .slice K ks.length c), (4, .pointer (some ⟨g4, 0, none⟩)), (2, .int .i64 (d : Int))]) (fun (k : Nat) => [.blk g4 p.cells 39, .rd K (dgs ks)]) (fun (k : Nat) => ks.length - k) 0 (⟨Nat.zero_le _, rfl⟩) ⟨rfl, rfl, rfl, rfl, trivial⟩ (same) ?_
  rintro k ⟨hk, he⟩
  refine h_seq ?_
  refine h_seq ?_
  refine h_reg ?_
  refine h_op (r_move rfl) ?_
  refine h_op (r_move rfl) ?_
  refine h_op (r_len rfl) ?_
  refine h_op (r_lss rfl rfl) ?_
  refine h_nil ?_
  refine q_then ?_
  refine h_cond rfl (fun hlt => ?_) (fun hlt => ?_)
  · have hk2 : k < ks.length := by omega
    have hd := dgs_at (l := ks) (k := k) hk2
    have hx : ks[k]? = some (ks.getD k zB32) := by rw [List.getD_eq_getElem?_getD, List.getElem?_eq_getElem hk2]; rfl
    refine h_pure (φ := ∃ b o, K = some ⟨b, o, none⟩) (fun w s => Rd.some (s.ok (.rd K (dgs ks)) (by simp)) (by rw [dgs_len]; omega)) ?_
    rintro ⟨b, o, rfl⟩
    refine h_skip ?_
    refine q_then ?_
    refine h_seq ?_
    refine h_block ?_
    refine h_seq ?_
    refine ha_start [.rd (some ⟨b, o, none⟩) (dgs ks), .blk g4 p.cells 39] [] mixed (same) ?_
    refine ha_takeP 0 rfl (r_move rfl) ?_
    refine ha_takeP 1 rfl (r_move rfl) ?_
    refine ha_takeP 2 rfl (r_idx rfl rfl) ?_
    refine ha_take 3 rfl (r_nthr rfl (out := (ks.getD k zB32).cells) (B32.cells_length _) hd) ?_
    refine ha_take 4 rfl (r_loadr rfl) ?_
    refine ha_takeP 6 rfl (r_move rfl) ?_
    refine ha_one 5 ?_
    refine ho_C 5 rfl ((refCommon_s (ks.getD k zB32) p).comes) rfl rfl rfl (fun _ => same) fun _ => ?_
    refine ha_takeP 7 rfl (r_geq rfl rfl) ?_
    refine ha_done (by kernel_rfl) ?_
    refine q_then ?_
    refine h_cond rfl (fun h3 => ?_) (fun h3 => ?_)
    · have hA : (ks.any fun k => decide (d ≤ common k p)) = true := List.any_eq_true.2 ⟨_, List.mem_of_getElem? hx, by simpa using h3⟩
      rw [hA]
      refine h_seq ?_
      refine h_reg ?_
      refine h_op (r_assign rfl) ?_
      refine h_nil ?_
      refine q_then ?_
      refine h_ret ?_
      refine q_blockR ?_
      refine q_thenR ?_
      refine q_thenR ?_
      refine q_blockR ?_
      refine q_thenR ?_
      exact h_ret1 rfl rfl fun w s => ⟨(), rfl, s.res (List.nil_sublist _) (by simp)⟩
    · refine h_skip ?_
      refine q_block ?_
      refine q_then ?_
      refine h_reg ?_
      refine h_op (r_move rfl) ?_
      refine h_op (r_add rfl rfl) ?_
      refine h_op (r_assign rfl) ?_
      refine h_nil ?_
      exact h_back (k + 1) (⟨by omega, by rw [List.take_add_one, hx, Option.toList_some, List.any_append, he, Bool.false_or, List.any_cons, List.any_nil, Bool.or_false]; exact decide_eq_false (by omega)⟩) ((show ks.length - (k + 1) < ks.length - k by omega)) ⟨rfl, rfl, rfl, rfl, trivial⟩ (same)
  · obtain rfl : k = ks.length := by omega
    rw [List.take_length] at he
    rw [he]
    refine h_exit ?_
    refine q_thenE ?_
    refine q_thenE ?_
    refine q_blockE ?_
    refine q_then ?_
    refine h_seq ?_
    refine h_reg ?_
    refine h_op (r_assign rfl) ?_
    refine h_nil ?_
    refine q_then ?_
    refine h_ret ?_
    exact h_ret1 rfl rfl fun w s => ⟨(), rfl, s.res (List.nil_sublist _) (by simp)⟩
theorem its_one' (l : List Item) : ∀ v ∈ its l, v.oneCell' = true := by
  intro v hv
  unfold its at hv
  obtain ⟨x, _, hx⟩ := List.mem_flatMap.1 hv
  exact Item.cells_one x v hx
theorem addT_le (n : Nat) {m : List En} {d : Nat} (hd : d ≤ 256) (ha : Alike m d) (hm : m.length ≤ 1000) (ks : List B32) : (addT n (mkT m d) ks d).length ≤ 512001 := by
  have h1 := addT_len n (mkT m d) ks d
  have h2 := mkT_sz hd ha
  have h3 : m.length * (256 - d) ≤ 1000 * 256 := Nat.mul_le_mul hm (by omega)
  omega
section
variable (n : Nat) (hn : n ≤ 256) (h : Zh) (ks : List B32) (K : Option Addr) (kc : Nat) (hkl : ks.length ≤ 1000000000)
/-- what a call of the reference's Prove brings -/
def RPrv (m : List En) (d : Nat) : Prop := m.length ≤ 1000 → ValsZ h m → ∀ p : B32, (∀ i, d ≤ i → i < 256 → bitAt p i = false) → ∀ (B : Option Addr) (c : Nat), Spec Tryz.prog 19 [.int .i64 (n : Int), .slice B m.length c, .slice K ks.length kc, .agg p.cells.toArray, .int .i64 (d : Int)].toArray [.rd B (ents m), .zone false h, .rd K (dgs ks)] [] (fun u : Nat × Nat => .slice (some ⟨u.1, 0, none⟩) (addT n (mkT m d) (keysP ks p d) d).length u.2) (fun u => [.own (.slice (some ⟨u.1, 0, none⟩) (addT n (mkT m d) (keysP ks p d) d).length u.2) (addT n (mkT m d) (keysP ks p d) d).length 53 97 (its (addT n (mkT m d) (keysP ks p d) d))])
include hn hkl
omit hn hkl in
theorem rPrv_nil (d : Nat) : RPrv n h ks K kc [] d := by
  intro _ _ p _ B c
  have e : addT n (mkT [] d) (keysP ks p d) d = [⟨0, zB32, zLeaf⟩] := by rw [mkT_nil]; unfold addT; rfl
  rw [e]
  show Spec _ _ _ _ _ (fun u : Nat × Nat => .slice (some ⟨u.1, 0, none⟩) 1 u.2) (fun u => [.own (.slice (some ⟨u.1, 0, none⟩) 1 u.2) 1 53 97 (its [⟨0, zB32, zLeaf⟩])])
  refine spec_of Tryz.func19 rfl (n := 69) rfl rfl ?_
  intro W
  refine h_seq ?_
  refine h_reg ?_
  refine h_opX (x_box rfl) fun g8 => ?_
  refine h_op (r_assign rfl) ?_
  refine h_nil ?_
  refine q_then ?_
  refine h_seq ?_
  refine h_seq ?_
  refine h_reg ?_
  refine h_op (r_move rfl) ?_
  refine h_op (r_len rfl) ?_
  refine h_op (r_bool (r_eql rfl rfl) (show _ = true from rfl)) ?_
  refine h_nil ?_
  refine q_then ?_
  refine h_condT rfl ?_
  refine h_seq ?_
  refine h_reg ?_
  refine h_op (r_build rfl) ?_
  refine h_opX (x_bsl rfl rfl) fun g16 => ?_
  refine h_op (r_assign rfl) ?_
  refine h_nil ?_
  refine q_then ?_
  refine h_ret ?_
  refine q_thenR ?_
  change H _ _ _ _ _ (.own _ _ _ _ (Item.cells ⟨0, zB32, zLeaf⟩) :: _) _
  rw [← its_one ⟨0, zB32, zLeaf⟩]
  exact h_ret1 rfl rfl fun w s => ⟨(g16, 1), rfl, (same w s).res (List.Sublist.refl _) (by simp [Fa.wr])⟩
theorem rPrv_sib (m : List En) (d : Nat) (hd : d ≤ 256) (ha : Alike m d) (hm : m.length ≤ 1000) (hv : ValsZ h m) (h0 : m.length ≠ 0) (p : B32) (hk0 : keysP ks p d = []) (B : Option Addr) (c : Nat) : Spec Tryz.prog 19 [.int .i64 (n : Int), .slice B m.length c, .slice K ks.length kc, .agg p.cells.toArray, .int .i64 (d : Int)].toArray [.rd B (ents m), .zone false h, .rd K (dgs ks)] [] (fun u : Nat × Nat => .slice (some ⟨u.1, 0, none⟩) 1 u.2) (fun u => [.own (.slice (some ⟨u.1, 0, none⟩) 1 u.2) 1 53 97 (its [⟨3, dgT n (mkT m d), zLeaf⟩])]) := by
  have hS := some_s ks K kc p d hkl
  rw [hk0] at hS
  have hR := Root_any n hn h hd ha (by omega) hv B c
  refine spec_of Tryz.func19 rfl (n := 69) rfl rfl ?_
  intro W
  refine h_seq ?_
  refine h_reg ?_
  refine h_opX (x_box rfl) fun g8 => ?_
  refine h_op (r_assign rfl) ?_
  refine h_nil ?_
  refine q_then ?_
  refine h_seq ?_
  refine h_seq ?_
  refine h_reg ?_
  refine h_op (r_move rfl) ?_
  refine h_op (r_len rfl) ?_
  refine h_op (r_eql rfl rfl) ?_
  refine h_nil ?_
  refine q_then ?_
  refine h_no rfl ((by omega)) ?_
  refine h_skip ?_
  refine q_then ?_
  refine h_seq ?_
  refine h_seq ?_
  refine h_reg ?_
  refine h_op (r_move rfl) ?_
  refine h_op (r_loadr rfl) ?_
  refine h_op (r_move rfl) ?_
  refine h_call (hS.comes) rfl rfl rfl fun _ => ?_
  refine h_op (r_not rfl) ?_
  refine h_nil ?_
  refine q_then ?_
  refine h_condT rfl ?_
  refine h_seq ?_
  refine h_reg ?_
  refine h_op (r_move rfl) ?_
  refine h_op (r_move rfl) ?_
  refine h_op (r_move rfl) ?_
  refine h_call (hR.comes) rfl rfl rfl fun _ => ?_
  refine h_op (r_build rfl) ?_
  refine h_opX (x_bsl rfl rfl) fun g27 => ?_
  refine h_op (r_assign rfl) ?_
  refine h_nil ?_
  refine q_then ?_
  refine h_ret ?_
  refine q_thenR ?_
  change H _ _ _ _ _ (.own _ _ _ _ (Item.cells ⟨3, dgT n (mkT m d), zLeaf⟩) :: _) _
  rw [← its_one ⟨3, dgT n (mkT m d), zLeaf⟩]
  exact h_ret1 rfl rfl fun w s => ⟨(g27, 1), rfl, (same w s).res (List.Sublist.refl _) (by simp [Fa.wr])⟩
theorem rPrv_leaf (e : En) (d : Nat) (hv : ValsZ h [e]) (p : B32) (hk0 : keysP ks p d ≠ []) (B : Option Addr) (c : Nat) : Spec Tryz.prog 19 [.int .i64 (n : Int), .slice B [e].length c, .slice K ks.length kc, .agg p.cells.toArray, .int .i64 (d : Int)].toArray [.rd B (ents [e]), .zone false h, .rd K (dgs ks)] [] (fun u : Nat × Nat => .slice (some ⟨u.1, 0, none⟩) 1 u.2) (fun u => [.own (.slice (some ⟨u.1, 0, none⟩) 1 u.2) 1 53 97 (its [⟨1, zB32, leafOf n e.key e.val⟩])]) := by
  have hS := some_s ks K kc p d hkl
  rw [show (!(keysP ks p d).isEmpty) = true by cases hh : keysP ks p d with | nil => exact (hk0 hh).elim | cons => rfl] at hS
  obtain ⟨hs, hvl⟩ := hv e (by simp)
  obtain ⟨⟨key, A, N, cc⟩, b⟩ := e
  obtain rfl : N = b.length := hs.len
  have hA : A = none → b.length = 0 ∧ cc = 0 := hs.nil
  have hrd : RdZ h A (bc b) := hs.rd
  dsimp only at hvl
  refine spec_of Tryz.func19 rfl (n := 69) rfl rfl ?_
  intro W
  refine h_seq ?_
  refine h_reg ?_
  refine h_opX (x_box rfl) fun g8 => ?_
  refine h_op (r_assign rfl) ?_
  refine h_nil ?_
  refine q_then ?_
  refine h_seq ?_
  refine h_seq ?_
  refine h_reg ?_
  refine h_op (r_move rfl) ?_
  refine h_op (r_len rfl) ?_
  refine h_op (r_bool (r_eql rfl rfl) (show _ = false by simp)) ?_
  refine h_nil ?_
  refine q_then ?_
  refine h_condF rfl ?_
  refine h_skip ?_
  refine q_then ?_
  refine h_seq ?_
  refine h_seq ?_
  refine h_reg ?_
  refine h_op (r_move rfl) ?_
  refine h_op (r_loadr rfl) ?_
  refine h_op (r_move rfl) ?_
  refine h_call (hS.comes) rfl rfl rfl fun _ => ?_
  refine h_op (r_not rfl) ?_
  refine h_nil ?_
  refine q_then ?_
  refine h_condF rfl ?_
  refine h_skip ?_
  refine q_then ?_
  refine h_seq ?_
  refine h_seq ?_
  refine h_reg ?_
  refine h_op (r_move rfl) ?_
  refine h_op (r_len rfl) ?_
  refine h_op (r_bool (r_eql rfl rfl) (show _ = true by simp)) ?_
  refine h_nil ?_
  refine q_then ?_
  refine h_condT rfl ?_
  refine h_pure (φ := ∃ b o, B = some ⟨b, o, none⟩) (fun w s => Rd.some (s.ok (.rd B (ents [⟨⟨key, ⟨A, b.length, cc⟩⟩, b⟩])) (by simp)) (by rw [ents_len]; exact Nat.zero_lt_succ _)) ?_
  rintro ⟨bb, o, rfl⟩
  refine h_seq ?_
  refine ha_start [.rd (some ⟨bb, o, none⟩) (ents [⟨⟨key, ⟨A, b.length, cc⟩⟩, b⟩]), .zone false h] [] mixed (same) ?_
  refine ha_takeP 0 rfl (r_move rfl) ?_
  refine ha_takeP 1 rfl (r_move rfl) ?_
  refine ha_takeP 2 rfl (r_idx rfl rfl (hm := by simp)) ?_
  refine ha_takeP 3 rfl (r_field rfl) ?_
  refine ha_take 4 rfl (r_nthr rfl (out := key.cells) (B32.cells_length _) (ents_key0 ⟨⟨key, ⟨A, b.length, cc⟩⟩, b⟩)) ?_
  refine ha_takeP 5 rfl (r_move rfl) ?_
  refine ha_takeP 6 rfl (r_idx rfl rfl (hm := by simp)) ?_
  refine ha_takeP 7 rfl (r_field rfl) ?_
  refine ha_take 8 rfl (r_nth rfl (ents_val0 ⟨⟨key, ⟨A, b.length, cc⟩⟩, b⟩)) ?_
  refine ha_one 9 ?_
  refine ho_C 9 rfl ((rLeafOf_s n hn key b A cc hA (by omega)).comes) rfl rfl rfl (fun _ => same) fun _ => ?_
  refine ha_takeP 10 rfl (r_build rfl) ?_
  refine ha_one 11 ?_
  refine ho_X 11 rfl (rk (x_bsl rfl rfl)) (fun _ => same) fun g42 => ?_
  refine ha_takeP 12 rfl (r_assign rfl) ?_
  refine ha_done (by kernel_rfl) ?_
  refine q_then ?_
  change H _ _ _ _ _ (.own _ _ _ _ (Item.cells ⟨1, zB32, leafOf n key b⟩) :: _) _
  rw [← its_one ⟨1, zB32, leafOf n key b⟩]
  refine h_ret ?_
  refine q_thenR ?_
  exact h_ret1 rfl rfl fun w s => ⟨(g42, 1), rfl, (same w s).res (List.Sublist.refl _) (by simp [Fa.wr])⟩
omit hn in
theorem rPrv_two (m : List En) (d : Nat) (ha : Alike m d) (hm2 : 1 < m.length) (hd : d < 256) (i1 : RPrv n h ks K kc (part m d false) (d + 1)) (i2 : RPrv n h ks K kc (part m d true) (d + 1)) (hm : m.length ≤ 1000) (hv : ValsZ h m) (p : B32) (hp0 : ∀ i, d ≤ i → i < 256 → bitAt p i = false) (hk0 : keysP ks p d ≠ []) (l1 l2 : List Item) (e1 : addT n (mkT (part m d false) (d + 1)) (keysP ks p (d + 1)) (d + 1) = l1) (e2 : addT n (mkT (part m d true) (d + 1)) (keysP ks (flipAt p d) (d + 1)) (d + 1) = l2) (B : Option Addr) (c : Nat) : Spec Tryz.prog 19 [.int .i64 (n : Int), .slice B m.length c, .slice K ks.length kc, .agg p.cells.toArray, .int .i64 (d : Int)].toArray [.rd B (ents m), .zone false h, .rd K (dgs ks)] [] (fun u : Nat × Nat => .slice (some ⟨u.1, 0, none⟩) (innerI :: (l1 ++ l2)).length u.2) (fun u => [.own (.slice (some ⟨u.1, 0, none⟩) (innerI :: (l1 ++ l2)).length u.2) (innerI :: (l1 ++ l2)).length 53 97 (its (innerI :: (l1 ++ l2)))]) := by
  have hS := some_s ks K kc p d hkl
  rw [show (!(keysP ks p d).isEmpty) = true by cases hh : keysP ks p d with | nil => exact (hk0 hh).elim | cons => rfl] at hS
  have p1 := part_le m d false
  have p2 := part_le m d true
  have q1 := addT_le n (by omega) (ha.part false) (by omega) (keysP ks p (d + 1))
  have q2 := addT_le n (by omega) (ha.part true) (by omega) (keysP ks (flipAt p d) (d + 1))
  have h1 := i1 (by omega) (hv.part d false) p (fun i a b => hp0 i (by omega) b)
  have h2 := i2 (by omega) (hv.part d true) (flipAt p d) (fun i a b => by rw [flipAt_bit p d i hd b, if_neg (by omega)]; exact hp0 i (by omega) b)
  rw [e1] at q1 h1
  rw [e2] at q2 h2
  have e3 : innerI :: (l1 ++ l2) = [innerI] ++ l1 ++ l2 := by simp
  rw [e3]
  have hz1 : 1 + l1.length = ([innerI] ++ l1).length := by simp only [List.length_append, List.length_cons, List.length_nil, Nat.zero_add]
  have hz2 : ([innerI] ++ l1).length + l2.length = ([innerI] ++ l1 ++ l2).length := by simp only [List.length_append]
  refine spec_of Tryz.func19 rfl (n := 69) rfl rfl ?_
  intro W
  refine h_seq ?_
  refine h_reg ?_
  refine h_opX (x_box rfl) fun g8 => ?_
  refine h_op (r_assign rfl) ?_
  refine h_nil ?_
  refine q_then ?_
  refine h_seq ?_
  refine h_seq ?_
  refine h_reg ?_
  refine h_op (r_move rfl) ?_
  refine h_op (r_len rfl) ?_
  refine h_op (r_eql rfl rfl) ?_
  refine h_nil ?_
  refine q_then ?_
  refine h_no rfl ((by omega)) ?_
  refine h_skip ?_
  refine q_then ?_
  refine h_seq ?_
  refine h_seq ?_
  refine h_reg ?_
  refine h_op (r_move rfl) ?_
  refine h_op (r_loadr rfl) ?_
  refine h_op (r_move rfl) ?_
  refine h_call (hS.comes) rfl rfl rfl fun _ => ?_
  refine h_op (r_not rfl) ?_
  refine h_nil ?_
  refine q_then ?_
  refine h_condF rfl ?_
  refine h_skip ?_
  refine q_then ?_
  refine h_seq ?_
  refine h_seq ?_
  refine h_reg ?_
  refine h_op (r_move rfl) ?_
  refine h_op (r_len rfl) ?_
  refine h_op (r_eql rfl rfl) ?_
  refine h_nil ?_
  refine q_then ?_
  refine h_no rfl ((by omega)) ?_
  refine h_skip ?_
  refine q_then ?_
  refine h_seq ?_
  refine h_reg ?_
  refine h_op (r_build rfl) ?_
  refine h_opX (x_bsl rfl rfl) fun g44 => ?_
  refine h_op (r_assign rfl) ?_
  refine h_nil ?_
  refine q_then ?_
  refine h_seq ?_
  change H _ _ _ _ _ (.own _ _ _ _ (Item.cells innerI) :: _) _
  rw [← its_one innerI]
  refine ha_start [.blk g8 p.cells 39, .zone false h, .rd K (dgs ks)] [] mixed (same) ?_
  refine ha_takeP 0 rfl (r_move rfl) ?_
  refine ha_takeP 1 rfl (r_move rfl) ?_
  refine ha_takeP 2 rfl (r_move rfl) ?_
  refine ha_takeP 3 rfl (r_move rfl) ?_
  refine ha_takeP 5 rfl (r_move rfl) ?_
  refine ha_take 6 rfl (r_loadr rfl) ?_
  refine ha_takeP 7 rfl (r_move rfl) ?_
  refine ha_takeP 8 rfl (r_add rfl rfl) ?_
  refine ha_one 4 ?_
  refine ho_C 4 rfl ((Part_s m B c d false hd (by omega)).comes) rfl rfl rfl (fun _ => same) fun ⟨A49, c49⟩ => ?_
  refine ha_one 9 ?_
  refine ho_C 9 rfl ((h1 A49 c49).comes) rfl rfl rfl (fun _ => same) fun ⟨g54, c54⟩ => ?_
  refine ha_one 10 ?_
  refine ho_X 10 rfl (rk (x_appA (cs := its l1) rfl rfl (fun h => by cases h) (by rw [its_len]) (its_one' _))) (fun _ => same) fun ⟨A55, c55⟩ => ?_
  refine ha_takeP 11 rfl (r_assign rfl) ?_
  refine ha_done (by kernel_rfl) ?_
  refine q_then ?_
  rw [its_app, hz1]
  refine h_seq ?_
  refine ha_start [.blk g8 p.cells 39, .zone false h, .rd K (dgs ks)] [] mixed (same) ?_
  refine ha_takeP 0 rfl (r_move rfl) ?_
  refine ha_takeP 1 rfl (r_move rfl) ?_
  refine ha_takeP 2 rfl (r_move rfl) ?_
  refine ha_takeP 3 rfl (r_move rfl) ?_
  refine ha_takeP 5 rfl (r_move rfl) ?_
  refine ha_take 6 rfl (r_loadr rfl) ?_
  refine ha_takeP 7 rfl (r_move rfl) ?_
  refine ha_takeP 9 rfl (r_move rfl) ?_
  refine ha_takeP 10 rfl (r_add rfl rfl) ?_
  refine ha_one 4 ?_
  refine ho_C 4 rfl ((Part_s m B c d true hd (by omega)).comes) rfl rfl rfl (fun _ => same) fun ⟨A60, c60⟩ => ?_
  refine ha_one 8 ?_
  refine ho_C 8 rfl ((refFlip_s p d hd).comes) rfl rfl rfl (fun _ => same) fun _ => ?_
  refine ha_one 11 ?_
  refine ho_C 11 rfl ((h2 A60 c60).comes) rfl rfl rfl (fun _ => same) fun ⟨g67, c67⟩ => ?_
  refine ha_one 12 ?_
  refine ho_X 12 rfl (rk (x_appA (cs := its l2) rfl rfl (fun h => by cases h) (by rw [its_len]) (its_one' _))) (fun _ => same) fun ⟨A68, c68⟩ => ?_
  refine ha_takeP 13 rfl (r_assign rfl) ?_
  refine ha_done (by kernel_rfl) ?_
  refine q_then ?_
  rw [its_app, hz2]
  refine h_ret ?_
  refine h_pure (φ := ∃ g, A68 = some ⟨g, 0, none⟩) (fun w s => s.ownSome (N := ([innerI] ++ l1 ++ l2).length) (c := c68) (by simp)) ?_
  rintro ⟨g, rfl⟩
  exact h_ret1 rfl rfl fun w s => ⟨(g, c68), rfl, (same w s).res (List.Sublist.refl _) (by simp [Fa.wr])⟩
theorem rPrv_s {m : List En} {d : Nat} (hd : d ≤ 256) (ha : Alike m d) : RPrv n h ks K kc m d := by
  refine parts_ind (p := fun m d => RPrv n h ks K kc m d) (fun d => rPrv_nil n h ks K kc d) ?_ ?_ (256 - d) m d (Nat.le_refl _) hd ha
  · intro e d hd hl hv p _ B c
    rw [mkT_one e hd]
    by_cases hk : keysP ks p d = []
    · have := rPrv_sib n hn h ks K kc hkl [e] d hd ⟨by simp, by simp⟩ hl hv (by simp) p hk B c
      rw [mkT_one e hd] at this
      rw [hk]
      exact this
    · have := rPrv_leaf n hn h ks K kc hkl e d hv p hk B c
      obtain ⟨x, l, hxl⟩ := List.exists_cons_of_ne_nil hk
      rw [hxl]
      exact this
  · intro m d ha hm2 hd i1 i2 hl hv p hp B c
    by_cases hk : keysP ks p d = []
    · have := rPrv_sib n hn h ks K kc hkl m d (by omega) ha hl hv (by omega) p hk B c
      rw [mkT_two hm2 (by omega)] at this ⊢
      rw [hk]
      exact this
    · have := rPrv_two n h ks K kc hkl m d ha hm2 hd i1 i2 hl hv p hp hk _ _ rfl rfl B c
      have hb : bitAt p d = false := hp d (Nat.le_refl _) hd
      rw [mkT_two hm2 (by omega)]
      have e : addT n (.node (mkT (part m d false) (d + 1)) (mkT (part m d true) (d + 1))) (keysP ks p d) d = innerI :: (addT n (mkT (part m d false) (d + 1)) (keysP ks p (d + 1)) (d + 1) ++ addT n (mkT (part m d true) (d + 1)) (keysP ks (flipAt p d) (d + 1)) (d + 1)) := by
        rw [← keysP_left hd hb, ← keysP_right hd hb]
        obtain ⟨x, l, hxl⟩ := List.exists_cons_of_ne_nil hk
        rw [hxl]
        conv => lhs; unfold addT
      rw [e]
      exact this
end
end Go.Proofs.YtgfkbeipckbkiaaGreatDoor
/- U49 -/
namespace Go.Proofs.YtgfkbeipckbkiaaGreatDoor
set_option linter.unusedSimpArgs false
set_option linter.unusedVariables false
open Go.RowKit
/-! sets of depths -/
/-! the way of a key -/
end Go.Proofs.YtgfkbeipckbkiaaGreatDoor
/- U50 -/
namespace Go.Proofs.YtgfkbeipckbkiaaGreatDoor
set_option linter.unusedSimpArgs false
set_option linter.unusedVariables false
open Go.RowKit
end Go.Proofs.YtgfkbeipckbkiaaGreatDoor
/- U51t -/
namespace Go.Proofs.YtgfkbeipckbkiaaGreatDoor
set_option linter.unusedSimpArgs false
set_option linter.unusedVariables false
open Go.RowKit
instance : TBool Tryz.prog 4 := ⟨Tryz.underlying4⟩
theorem New_no (i : Int) (h : ¬ (0 ≤ i ∧ i ≤ 256)) : Spec Tryz.prog 53 [.int .i64 i].toArray [] [] (fun _ : Unit => .tuple #[.pointer none, .int .i64 4]) (fun _ => []) := by
  refine spec_of Tryz.func53 rfl (n := 15) rfl rfl ?_
  intro W
  by_cases h0 : i < 0
  · refine h_seq ?_
    refine h_reg ?_
    refine h_op (r_assign rfl) ?_
    refine h_op (r_assign rfl) ?_
    refine h_nil ?_
    refine q_then ?_
    refine h_seq ?_
    refine h_seq ?_
    refine h_reg ?_
    refine h_op (r_move rfl) ?_
    refine h_op (r_bool (r_lss rfl rfl) (decide_eq_true h0)) ?_
    refine h_op (r_move rfl) ?_
    refine h_opOff ?_
    refine h_opOff ?_
    refine h_op (r_pick rfl rfl) ?_
    refine h_nil ?_
    refine q_then ?_
    refine h_condT rfl ?_
    refine h_seq ?_
    refine h_reg ?_
    refine h_op (r_assign rfl) ?_
    refine h_op (r_assign rfl) ?_
    refine h_nil ?_
    refine q_then ?_
    refine h_ret ?_
    refine q_thenR ?_
    exact h_ret2 rfl rfl rfl fun w s => ⟨(), rfl, s.res (List.nil_sublist _) (by simp)⟩
  · refine h_seq ?_
    refine h_reg ?_
    refine h_op (r_assign rfl) ?_
    refine h_op (r_assign rfl) ?_
    refine h_nil ?_
    refine q_then ?_
    refine h_seq ?_
    refine h_seq ?_
    refine h_reg ?_
    refine h_op (r_move rfl) ?_
    refine h_op (r_bool (r_lss rfl rfl) (decide_eq_false h0)) ?_
    refine h_op (r_move rfl) ?_
    refine h_op (r_move rfl) ?_
    refine h_op (r_bool (r_gtr rfl rfl) (decide_eq_true (by omega))) ?_
    refine h_op (r_pick rfl rfl) ?_
    refine h_nil ?_
    refine q_then ?_
    refine h_condT rfl ?_
    refine h_seq ?_
    refine h_reg ?_
    refine h_op (r_assign rfl) ?_
    refine h_op (r_assign rfl) ?_
    refine h_nil ?_
    refine q_then ?_
    refine h_ret ?_
    refine q_thenR ?_
    exact h_ret2 rfl rfl rfl fun w s => ⟨(), rfl, s.res (List.nil_sublist _) (by simp)⟩
theorem Hash_no (i : Int) (h : ¬ (0 ≤ i ∧ i ≤ 256)) : Spec Tryz.prog 13 [.int .i64 i].toArray [] [] (fun _ : Unit => .pointer none) (fun _ => []) := by
  refine spec_of Tryz.func13 rfl (n := 13) rfl rfl ?_
  intro W
  refine h_seq ?_
  refine h_reg ?_
  refine h_op (r_assign rfl) ?_
  refine h_nil ?_
  refine q_then ?_
  refine h_seq ?_
  refine h_reg ?_
  refine h_op (r_move rfl) ?_
  refine h_call ((New_no i h).comes) rfl rfl rfl fun _ => ?_
  refine h_op (r_move rfl) ?_
  refine h_op (r_extract rfl rfl) ?_
  refine h_op (r_extract rfl rfl) ?_
  refine h_op (r_assign rfl) ?_
  refine h_op (r_assign rfl) ?_
  refine h_nil ?_
  refine q_then ?_
  refine h_seq ?_
  refine h_seq ?_
  refine h_reg ?_
  refine h_op (r_move rfl) ?_
  refine h_op (r_neq rfl rfl) ?_
  refine h_nil ?_
  refine q_then ?_
  refine h_yes rfl ((by decide)) ?_
  refine h_seq ?_
  refine h_reg ?_
  refine h_op (r_assign rfl) ?_
  refine h_nil ?_
  refine q_then ?_
  refine h_ret ?_
  refine q_thenR ?_
  exact h_ret1 rfl rfl fun w s => ⟨(), rfl, s.res (List.nil_sublist _) (by simp)⟩
theorem Few_long (l : List En) (B : Option Addr) (c : Nat) (hl : 12 < l.length) : Spec Tryz.prog 50 [.slice B l.length c].toArray [.rd B (ents l)] [] (fun _ : Unit => .bool (fewM l)) (fun _ => []) := by
  unfold fewM
  rw [decide_eq_false (by omega), Bool.false_and]
  refine spec_of Tryz.func50 rfl (n := 20) rfl rfl ?_
  intro W
  refine h_seq ?_
  refine h_reg ?_
  refine h_op (r_assign rfl) ?_
  refine h_nil ?_
  refine q_then ?_
  refine h_seq ?_
  refine h_seq ?_
  refine h_reg ?_
  refine h_op (r_move rfl) ?_
  refine h_op (r_len rfl) ?_
  refine h_op (r_gtr rfl rfl) ?_
  refine h_nil ?_
  refine q_then ?_
  refine h_yes rfl ((by omega)) ?_
  refine h_seq ?_
  refine h_reg ?_
  refine h_op (r_assign rfl) ?_
  refine h_nil ?_
  refine q_then ?_
  refine h_ret ?_
  refine q_thenR ?_
  exact h_ret1 rfl rfl fun w s => ⟨(), rfl, s.res (List.nil_sublist _) (by simp)⟩
theorem Few_any (l : List En) (B : Option Addr) (c : Nat) : Spec Tryz.prog 50 [.slice B l.length c].toArray [.rd B (ents l)] [] (fun _ : Unit => .bool (fewM l)) (fun _ => []) := by
  by_cases hl : 12 < l.length
  · exact Few_long l B c hl
  · exact Few_s l B c (by omega)
theorem Tree_bits (i : Int) (hi : ¬ (0 ≤ i ∧ i ≤ 256)) (l : List En) (B : Option Addr) (c : Nat) : Spec Tryz.prog 12 [.int .i64 i, .slice B l.length c].toArray [] [] (fun _ : Unit => .tuple #[.slice none 0 0, .pointer none, .bool false]) (fun _ => []) := by
  refine spec_of Tryz.func12 rfl (n := 27) rfl rfl ?_
  intro W
  refine h_seq ?_
  refine h_reg ?_
  refine h_op (r_assign rfl) ?_
  refine h_op (r_assign rfl) ?_
  refine h_op (r_assign rfl) ?_
  refine h_nil ?_
  refine q_then ?_
  refine h_seq ?_
  refine h_seq ?_
  refine h_reg ?_
  refine h_op (r_move rfl) ?_
  refine h_call ((Right_no i hi).comes) rfl rfl rfl fun _ => ?_
  refine h_op (r_not rfl) ?_
  refine h_op (r_move rfl) ?_
  refine h_opOff ?_
  refine h_opOff ?_
  refine h_opOff ?_
  refine h_op (r_pick rfl rfl) ?_
  refine h_nil ?_
  refine q_then ?_
  refine h_condT rfl ?_
  refine h_seq ?_
  refine h_reg ?_
  refine h_op (r_assign rfl) ?_
  refine h_op (r_assign rfl) ?_
  refine h_op (r_assign rfl) ?_
  refine h_nil ?_
  refine q_then ?_
  refine h_ret ?_
  refine q_thenR ?_
  exact h_ret3 rfl rfl rfl rfl fun w s => ⟨(), rfl, s.res (List.nil_sublist _) (by simp)⟩
theorem Tree_few (n : Nat) (hn : n ≤ 256) (l : List En) (B : Option Addr) (c : Nat) (hf : fewM l = false) : Spec Tryz.prog 12 [.int .i64 (n : Int), .slice B l.length c].toArray [.rd B (ents l)] [] (fun _ : Unit => .tuple #[.slice none 0 0, .pointer none, .bool false]) (fun _ => []) := by
  refine spec_of Tryz.func12 rfl (n := 27) rfl rfl ?_
  intro W
  refine h_seq ?_
  refine h_reg ?_
  refine h_op (r_assign rfl) ?_
  refine h_op (r_assign rfl) ?_
  refine h_op (r_assign rfl) ?_
  refine h_nil ?_
  refine q_then ?_
  refine h_seq ?_
  refine h_seq ?_
  refine h_reg ?_
  refine h_op (r_move rfl) ?_
  refine h_call ((Right_yes n hn).comes) rfl rfl rfl fun _ => ?_
  refine h_op (r_not rfl) ?_
  refine h_op (r_move rfl) ?_
  refine h_op (r_move rfl) ?_
  refine h_call ((Few_any l B c).comes) rfl rfl rfl fun _ => ?_
  rw [hf]
  refine h_op (r_not rfl) ?_
  refine h_op (r_pick rfl rfl) ?_
  refine h_nil ?_
  refine q_then ?_
  refine h_condT rfl ?_
  refine h_seq ?_
  refine h_reg ?_
  refine h_op (r_assign rfl) ?_
  refine h_op (r_assign rfl) ?_
  refine h_op (r_assign rfl) ?_
  refine h_nil ?_
  refine q_then ?_
  refine h_ret ?_
  refine q_thenR ?_
  exact h_ret3 rfl rfl rfl rfl fun w s => ⟨(), rfl, s.res (List.nil_sublist _) (by simp)⟩
/-- entries whose values lie in memory -/
def SlsZ (h : Zh) (l : List En) : Prop := ∀ e ∈ l, SlZ h e.e.value e.val
theorem SlsZ.few {h : Zh} {l : List En} (x : SlsZ h l) (hf : fewM l = true) : ValsZ h l := fun e he => by
  unfold fewM at hf
  rw [Bool.and_eq_true, List.all_eq_true] at hf
  have h1 := of_decide_eq_true (hf.2 e he)
  have h2 := (x e he).len
  exact ⟨x e he, by omega⟩
theorem ValsZ.few {h h' : Zh} {l : List En} (x : ValsZ h l) (hl : LeZ h h') : ValsZ h' (ofM l) := (ValsZ.of x).mono hl
end Go.Proofs.YtgfkbeipckbkiaaGreatDoor
/- U85 -/
namespace Go.Proofs.YtgfkbeipckbkiaaGreatDoor
set_option linter.unusedSimpArgs false
set_option linter.unusedVariables false
open Go.RowKit
section
variable (h : Zh) [hT : RdZ h (some ⟨2, 0, none⟩) hashT]
theorem MultiProves_s (i : Int) (l : List En) (B : Option Addr) (c : Nat) [hB : RdZ h B (ents l)] (hv : SlsZ h l) (ks : List B32) (K : Option Addr) (kc : Nat) [hK : RdZ h K (dgs ks)] (hkc : ks.length ≤ kc) (hkl : ks.length ≤ 9223372036854775807) : Spec Tryz.prog 3 [.int .i64 i, .slice B l.length c, .slice K ks.length kc].toArray [] [.zone true h] (fun _ : {x : Zh // LeZ h x} => .bool true) (fun x => [.zone true x.1]) := by
  have hk1 := rKeys_s ks K kc hkl
  have hk2 := mKeys_s ks K kc hkl
  refine spec_of Tryz.func3 rfl (n := 71) rfl rfl ?_
  intro W
  by_cases hi : 0 ≤ i ∧ i ≤ 256
  · obtain ⟨n, rfl⟩ : ∃ n : Nat, i = (n : Int) := ⟨i.toNat, by omega⟩
    have hn : n ≤ 256 := by omega
    by_cases hf : fewM l = true
    · have hvl := hv.few hf
      have hal : Alike (ofM l) 0 := Alike.start (ofM_nodup l)
      have hlm : (ofM l).length ≤ 12 := Nat.le_trans (ofM_len l) (by unfold fewM at hf; rw [Bool.and_eq_true, decide_eq_true_eq] at hf; exact hf.1)
      have hht := mkT_ht (by omega) hal
      have hsz := mkT_sz (by omega) hal
      have hsz2 : (ofM l).length * (256 - 0) ≤ 12 * 256 := Nat.mul_le_mul hlm (by omega)
      refine h_seq ?_
      refine h_reg ?_
      refine h_op (r_assign rfl) ?_
      refine h_nil ?_
      refine q_then ?_
      refine h_seq ?_
      refine h_reg ?_
      refine h_op (r_move rfl) ?_
      refine h_op (r_move rfl) ?_
      refine h_call ((Tree_yes n hn l B c hf h hvl).comes) rfl rfl rfl fun ⟨⟨h1, q1, A1, c1⟩, hle1, ht1⟩ => ?_
      dsimp only at hle1 ht1 ⊢
      refine h_freezeO (.slice A1 (ofM l).length c1) fun h2 B2 c2 e2 hle2 hlen2 hnil2 hz2 hr2 => ?_
      injection e2 with e2 _ e3
      subst e2 e3
      have hT2 : RdZ h2 (some ⟨2, 0, none⟩) hashT := (hT.mono hle1).mono hz2
      have ht2 : TrZ n h2 (mkT (ofM l) 0) q1 := ⟨ht1.ok.mono hz2⟩
      have hv2 := ValsZ.few hvl (hle1.trans hz2)
      refine h_op (r_move rfl) ?_
      refine h_op (r_extract rfl rfl) ?_
      refine h_op (r_extract rfl rfl) ?_
      refine h_op (r_extract rfl rfl) ?_
      refine h_op (r_assign rfl) ?_
      refine h_op (r_assign rfl) ?_
      refine h_op (r_assign rfl) ?_
      refine h_nil ?_
      refine q_then ?_
      refine h_seq ?_
      refine h_reg ?_
      refine h_op (r_move rfl) ?_
      refine h_call ((Hash_s n hn).comes) rfl rfl rfl fun ⟨gh, gc⟩ => ?_
      dsimp only
      by_cases hk30 : ks.length ≤ 30
      · refine h_op (r_assign rfl) ?_
        refine h_nil ?_
        refine q_then ?_
        refine h_seq ?_
        refine h_seq ?_
        refine h_reg ?_
        refine h_op (r_move rfl) ?_
        refine h_op (r_not rfl) ?_
        refine h_op (r_move rfl) ?_
        refine h_op (r_move rfl) ?_
        refine h_op (r_len rfl) ?_
        refine h_op (r_bool (r_gtr rfl rfl) (decide_eq_false (by omega))) ?_
        refine h_op (r_pick rfl rfl) ?_
        refine h_nil ?_
        refine q_then ?_
        refine h_condF rfl ?_
        by_cases he : keysE ks = 0
        · rw [he] at hk1 hk2
          have hR := rPrv_s n hn h2 ks K kc (by omega) (d := 0) (by omega) hal (by omega) hv2 zB32 (fun i _ _ => bitAt_zero i) A1 c1
          rw [keysP_zero] at hR
          have hPr := mProve_s h2 ks K kc n hn gh gc 0 (by decide) (mkT (ofM l) 0) q1 ht2 hkc he (by omega) (by omega)
          have hal2 := addT_len n (mkT (ofM l) 0) ks 0
          generalize addT n (mkT (ofM l) 0) ks 0 = its0 at *
          refine h_skip ?_
          refine q_then ?_
          refine h_seq ?_
          refine h_reg ?_
          refine h_op (r_move rfl) ?_
          refine h_op (r_move rfl) ?_
          refine h_op (r_move rfl) ?_
          refine h_call (hPr.comes) rfl rfl rfl fun ⟨A35, c35⟩ => ?_
          refine h_op (r_move rfl) ?_
          refine h_op (r_extract rfl rfl) ?_
          refine h_op (r_extract rfl rfl) ?_
          refine h_op (r_assign rfl) ?_
          refine h_op (r_assign rfl) ?_
          refine h_nil ?_
          refine q_then ?_
          refine h_seq ?_
          refine h_reg ?_
          refine h_op (r_move rfl) ?_
          refine h_call (hk1.comes) rfl rfl rfl fun _ => ?_
          refine h_op (r_assign rfl) ?_
          refine h_nil ?_
          refine q_then ?_
          refine h_seq ?_
          refine h_seq ?_
          refine h_reg ?_
          refine h_op (r_move rfl) ?_
          refine h_call (hk2.comes) rfl rfl rfl fun _ => ?_
          refine h_op (r_move rfl) ?_
          refine h_op (r_neq rfl rfl) ?_
          refine h_nil ?_
          refine q_then ?_
          refine h_no rfl ((fun h => h rfl)) ?_
          refine h_skip ?_
          refine q_then ?_
          refine h_seq ?_
          refine h_seq ?_
          refine h_reg ?_
          refine h_op (r_move rfl) ?_
          refine h_op (r_neq rfl rfl) ?_
          refine h_nil ?_
          refine q_then ?_
          refine h_no rfl ((fun h => h rfl)) ?_
          refine h_skip ?_
          refine q_then ?_
          refine h_seq ?_
          refine h_reg ?_
          refine h_call ((alive19_s h2).comes) rfl rfl rfl fun ⟨h3, hle3⟩ => ?_
          dsimp only
          refine h_op (r_move rfl) ?_
          refine h_op (r_move rfl) ?_
          refine h_op (r_bool (r_eql rfl rfl) rfl) ?_
          refine h_op (r_pick rfl rfl) ?_
          refine h_op (r_move rfl) ?_
          refine h_op (r_move rfl) ?_
          refine h_op (r_move rfl) ?_
          refine h_op (r_move rfl) ?_
          refine h_op (r_move rfl) ?_
          refine h_op (r_build rfl) ?_
          refine h_call (hR.comes) rfl rfl rfl fun ⟨g68, c68⟩ => ?_
          refine h_call ((rSame19_yes its0 A35 (some ⟨g68, 0, none⟩) c35 c68 (by omega)).comes) rfl rfl rfl fun _ => ?_
          refine h_op (r_pick rfl rfl) ?_
          refine h_op (r_assign rfl) ?_
          refine h_nil ?_
          refine q_then ?_
          refine h_ret ?_
          exact h_ret1 rfl rfl fun w s => ⟨⟨h3, (hle1.trans hz2).trans hle3⟩, rfl, (same (L' := [.zone true h3]) w s).res (List.Sublist.refl _) (by simp [Fa.wr])⟩
        · have hPb := mProve_bad ks K kc q1 gh (by omega) he
          refine h_skip ?_
          refine q_then ?_
          refine h_seq ?_
          refine h_reg ?_
          refine h_op (r_move rfl) ?_
          refine h_op (r_move rfl) ?_
          refine h_op (r_move rfl) ?_
          refine h_call (hPb.comes) rfl rfl rfl fun _ => ?_
          refine h_op (r_move rfl) ?_
          refine h_op (r_extract rfl rfl) ?_
          refine h_op (r_extract rfl rfl) ?_
          refine h_op (r_assign rfl) ?_
          refine h_op (r_assign rfl) ?_
          refine h_nil ?_
          refine q_then ?_
          refine h_seq ?_
          refine h_reg ?_
          refine h_op (r_move rfl) ?_
          refine h_call (hk1.comes) rfl rfl rfl fun _ => ?_
          refine h_op (r_assign rfl) ?_
          refine h_nil ?_
          refine q_then ?_
          refine h_seq ?_
          refine h_seq ?_
          refine h_reg ?_
          refine h_op (r_move rfl) ?_
          refine h_call (hk2.comes) rfl rfl rfl fun _ => ?_
          refine h_op (r_move rfl) ?_
          refine h_op (r_neq rfl rfl) ?_
          refine h_nil ?_
          refine q_then ?_
          refine h_no rfl ((fun h => h rfl)) ?_
          refine h_skip ?_
          refine q_then ?_
          refine h_seq ?_
          refine h_seq ?_
          refine h_reg ?_
          refine h_op (r_move rfl) ?_
          refine h_op (r_neq rfl rfl) ?_
          refine h_nil ?_
          refine q_then ?_
          refine h_yes rfl (he) ?_
          refine h_seq ?_
          refine h_reg ?_
          refine h_call ((alive19_s h2).comes) rfl rfl rfl fun ⟨h3, hle3⟩ => ?_
          dsimp only
          refine h_op (r_move rfl) ?_
          refine h_op (r_move rfl) ?_
          refine h_op (r_len rfl) ?_
          refine h_op (r_bool (r_eql rfl rfl) rfl) ?_
          refine h_op (r_pick rfl rfl) ?_
          refine h_op (r_move rfl) ?_
          refine h_op (r_move rfl) ?_
          refine h_op (r_move rfl) ?_
          refine h_op (r_bool (r_eql rfl rfl) (decide_eq_true rfl)) ?_
          refine h_op (r_pick rfl rfl) ?_
          refine h_op (r_assign rfl) ?_
          refine h_nil ?_
          refine q_then ?_
          refine h_ret ?_
          refine q_thenR ?_
          exact h_ret1 rfl rfl fun w s => ⟨⟨h3, (hle1.trans hz2).trans hle3⟩, rfl, (same (L' := [.zone true h3]) w s).res (List.Sublist.refl _) (by simp [Fa.wr])⟩
      · refine h_op (r_assign rfl) ?_
        refine h_nil ?_
        refine q_then ?_
        refine h_seq ?_
        refine h_seq ?_
        refine h_reg ?_
        refine h_op (r_move rfl) ?_
        refine h_op (r_not rfl) ?_
        refine h_op (r_move rfl) ?_
        refine h_op (r_move rfl) ?_
        refine h_op (r_len rfl) ?_
        refine h_op (r_bool (r_gtr rfl rfl) (decide_eq_true (by omega))) ?_
        refine h_op (r_pick rfl rfl) ?_
        refine h_nil ?_
        refine q_then ?_
        refine h_condT rfl ?_
        refine h_seq ?_
        refine h_reg ?_
        refine h_call ((alive19_s h2).comes) rfl rfl rfl fun ⟨h3, hle3⟩ => ?_
        dsimp only
        refine h_op (r_assign rfl) ?_
        refine h_nil ?_
        refine q_then ?_
        refine h_ret ?_
        refine q_thenR ?_
        exact h_ret1 rfl rfl fun w s => ⟨⟨h3, (hle1.trans hz2).trans hle3⟩, rfl, (same (L' := [.zone true h3]) w s).res (List.Sublist.refl _) (by simp [Fa.wr])⟩
    · refine h_seq ?_
      refine h_reg ?_
      refine h_op (r_assign rfl) ?_
      refine h_nil ?_
      refine q_then ?_
      refine h_seq ?_
      refine h_reg ?_
      refine h_op (r_move rfl) ?_
      refine h_op (r_move rfl) ?_
      refine h_call ((Tree_few n hn l B c (by simpa using hf)).comes) rfl rfl rfl fun _ => ?_
      refine h_op (r_move rfl) ?_
      refine h_op (r_extract rfl rfl) ?_
      refine h_op (r_extract rfl rfl) ?_
      refine h_op (r_extract rfl rfl) ?_
      refine h_op (r_assign rfl) ?_
      refine h_op (r_assign rfl) ?_
      refine h_op (r_assign rfl) ?_
      refine h_nil ?_
      refine q_then ?_
      refine h_seq ?_
      refine h_reg ?_
      refine h_op (r_move rfl) ?_
      refine h_call ((Hash_s n hn).comes) rfl rfl rfl fun ⟨gh, gc⟩ => ?_
      dsimp only
      refine h_op (r_assign rfl) ?_
      refine h_nil ?_
      refine q_then ?_
      refine h_seq ?_
      refine h_seq ?_
      refine h_reg ?_
      refine h_op (r_move rfl) ?_
      refine h_op (r_not rfl) ?_
      refine h_op (r_move rfl) ?_
      refine h_opOff ?_
      refine h_opOff ?_
      refine h_opOff ?_
      refine h_op (r_pick rfl rfl) ?_
      refine h_nil ?_
      refine q_then ?_
      refine h_condT rfl ?_
      refine h_seq ?_
      refine h_reg ?_
      refine h_call ((alive19_s h).comes) rfl rfl rfl fun ⟨h1, hle1⟩ => ?_
      dsimp only
      refine h_op (r_assign rfl) ?_
      refine h_nil ?_
      refine q_then ?_
      refine h_ret ?_
      refine q_thenR ?_
      exact h_ret1 rfl rfl fun w s => ⟨⟨h1, hle1⟩, rfl, (same (L' := [.zone true h1]) w s).res (List.Sublist.refl _) (by simp [Fa.wr])⟩
  · refine h_seq ?_
    refine h_reg ?_
    refine h_op (r_assign rfl) ?_
    refine h_nil ?_
    refine q_then ?_
    refine h_seq ?_
    refine h_reg ?_
    refine h_op (r_move rfl) ?_
    refine h_op (r_move rfl) ?_
    refine h_call ((Tree_bits i hi l B c).comes) rfl rfl rfl fun _ => ?_
    refine h_op (r_move rfl) ?_
    refine h_op (r_extract rfl rfl) ?_
    refine h_op (r_extract rfl rfl) ?_
    refine h_op (r_extract rfl rfl) ?_
    refine h_op (r_assign rfl) ?_
    refine h_op (r_assign rfl) ?_
    refine h_op (r_assign rfl) ?_
    refine h_nil ?_
    refine q_then ?_
    refine h_seq ?_
    refine h_reg ?_
    refine h_op (r_move rfl) ?_
    refine h_call ((Hash_no i hi).comes) rfl rfl rfl fun _ => ?_
    refine h_op (r_assign rfl) ?_
    refine h_nil ?_
    refine q_then ?_
    refine h_seq ?_
    refine h_seq ?_
    refine h_reg ?_
    refine h_op (r_move rfl) ?_
    refine h_op (r_not rfl) ?_
    refine h_op (r_move rfl) ?_
    refine h_opOff ?_
    refine h_opOff ?_
    refine h_opOff ?_
    refine h_op (r_pick rfl rfl) ?_
    refine h_nil ?_
    refine q_then ?_
    refine h_condT rfl ?_
    refine h_seq ?_
    refine h_reg ?_
    refine h_call ((alive19_s h).comes) rfl rfl rfl fun ⟨h1, hle1⟩ => ?_
    dsimp only
    refine h_op (r_assign rfl) ?_
    refine h_nil ?_
    refine q_then ?_
    refine h_ret ?_
    refine q_thenR ?_
    exact h_ret1 rfl rfl fun w s => ⟨⟨h1, hle1⟩, rfl, (same (L' := [.zone true h1]) w s).res (List.Sublist.refl _) (by simp [Fa.wr])⟩
end
end Go.Proofs.YtgfkbeipckbkiaaGreatDoor
/- E22 -/
namespace Go.Proofs.YtgfkbeipckbkiaaGreatDoor
set_option linter.unusedSimpArgs false
set_option linter.unusedVariables false
open Go.RowKit
theorem endC_at {l : List (Item × Nat)} {k : Nat} {x : Item × Nat} (h : l[k]? = some x) : ∀ j v, (End.cells ⟨x.1, (x.2 : Int)⟩)[j]? = some v → (endC l)[k * 98 + j]? = some v := by
  intro j v hv
  have hj : j < 98 := by have := (List.getElem?_eq_some_iff.1 hv).1; rw [End.cells_length] at this; exact this
  obtain ⟨h1, h2⟩ := List.getElem?_eq_some_iff.1 h
  have e : endC l = endC (l.take k) ++ (End.cells ⟨x.1, (x.2 : Int)⟩ ++ endC (l.drop (k + 1))) := by
    conv => lhs; rw [← List.take_append_drop k l, List.drop_eq_getElem_cons h1, h2]
    unfold endC
    rw [List.flatMap_append, List.flatMap_cons]
  rw [e, List.getElem?_append_right (by rw [endC_len, List.length_take]; omega), endC_len, List.length_take, Nat.min_eq_left (by omega), Nat.add_sub_cancel_left, List.getElem?_append_left (by rw [End.cells_length]; exact hj)]
  exact hv
theorem endC_dep {l : List (Item × Nat)} {k : Nat} {x : Item × Nat} (h : l[k]? = some x) : (endC l)[k * 98 + 97]? = some (.int .i64 ((x.2 : Nat) : Int)) := endC_at h 97 _ (by
  unfold End.cells
  rw [List.getElem?_append_right (by rw [Item.cells_length]; exact Nat.le_refl _), Item.cells_length]
  rfl)
theorem endC_item {l : List (Item × Nat)} {k : Nat} {x : Item × Nat} (h : l[k]? = some x) : ∀ j v, x.1.cells[j]? = some v → (endC l)[k * 98 + j]? = some v := fun j v hv => endC_at h j v (by
  unfold End.cells
  rw [List.getElem?_append_left (List.getElem?_eq_some_iff.1 hv).1]
  exact hv)
theorem endC_kind {l : List (Item × Nat)} {k : Nat} {x : Item × Nat} (h : l[k]? = some x) : (endC l)[k * 98]? = some (.int .i64 x.1.kind) := endC_item h 0 _ rfl
theorem endC_leaf {l : List (Item × Nat)} {k : Nat} {x : Item × Nat} (h : l[k]? = some x) : ∀ j v, x.1.leaf.cells[j]? = some v → (endC l)[k * 98 + 33 + j]? = some v := fun j v hv => by
  rw [Nat.add_assoc]
  refine endC_item h (33 + j) v ?_
  have e : x.1.cells = (.int .i64 x.1.kind :: x.1.digest.cells) ++ x.1.leaf.cells := by simp [Item.cells]
  rw [e, List.getElem?_append_right (by simp [B32.cells_length]), show (Value.int .i64 x.1.kind :: x.1.digest.cells).length = 33 by simp [B32.cells_length], Nat.add_sub_cancel_left]
  exact hv
theorem itemT_kind (n : Nat) {t : Tr} (h : t.kind ≠ 2) : (itemT n t).kind = ((t.kind : Nat) : Int) := by cases t <;> first | rfl | exact (h rfl).elim
theorem itemT_leaf (n : Nat) {t : Tr} (h : t.kind ≠ 2) : (itemT n t).leaf = leafT n t := by cases t <;> first | rfl | exact (h rfl).elim
theorem loc_way {m : List En} (h : Alike m 0) (key : B32) : ∃ D, WayTo key (mkT m 0) D ∧ loc key (mkT m 0) 0 = (wayK key (mkT m 0) D, D) := by
  obtain ⟨D, h1, h2, _, _, h5⟩ := wayTo_mkT (key := key) h
  refine ⟨D, h1, ?_⟩
  have := loc_mkT (k := key) h 256 0 (by omega) (by omega)
  rw [show atM key m 0 = m from rfl, h2] at this
  rw [this, h5 D (Nat.le_refl _)]
end Go.Proofs.YtgfkbeipckbkiaaGreatDoor
/- U86 -/
namespace Go.Proofs.YtgfkbeipckbkiaaGreatDoor
set_option linter.unusedSimpArgs false
set_option linter.unusedVariables false
open Go.RowKit
section
variable (h : Zh) [hT : RdZ h (some ⟨2, 0, none⟩) hashT]
theorem MultiLeads_s (i : Int) (l : List En) (B : Option Addr) (c : Nat) [hB : RdZ h B (ents l)] (hv : SlsZ h l) (ks : List B32) (K : Option Addr) (kc : Nat) [hK : RdZ h K (dgs ks)] (hkc : ks.length ≤ kc) (hkl : ks.length ≤ 9223372036854775807) : Spec Tryz.prog 4 [.int .i64 i, .slice B l.length c, .slice K ks.length kc].toArray [] [.zone true h] (fun _ : {x : Zh // LeZ h x} => .bool true) (fun x => [.zone true x.1]) := by
  have hk1 := rKeys_s ks K kc hkl
  refine spec_of Tryz.func4 rfl (n := 142) rfl rfl ?_
  intro W
  by_cases hi : 0 ≤ i ∧ i ≤ 256
  · obtain ⟨n, rfl⟩ : ∃ n : Nat, i = (n : Int) := ⟨i.toNat, by omega⟩
    have hn : n ≤ 256 := by omega
    by_cases hf : fewM l = true
    · have hvl := hv.few hf
      have hal : Alike (ofM l) 0 := Alike.start (ofM_nodup l)
      have hlm : (ofM l).length ≤ 12 := Nat.le_trans (ofM_len l) (by unfold fewM at hf; rw [Bool.and_eq_true, decide_eq_true_eq] at hf; exact hf.1)
      have hht := mkT_ht (by omega) hal
      have hsz := mkT_sz (by omega) hal
      have hsz2 : (ofM l).length * (256 - 0) ≤ 12 * 256 := Nat.mul_le_mul hlm (by omega)
      refine h_seq ?_
      refine h_reg ?_
      refine h_op (r_assign rfl) ?_
      refine h_nil ?_
      refine q_then ?_
      refine h_seq ?_
      refine h_reg ?_
      refine h_op (r_move rfl) ?_
      refine h_op (r_move rfl) ?_
      refine h_call ((Tree_yes n hn l B c hf h hvl).comes) rfl rfl rfl fun ⟨⟨h1, q1, A1, c1⟩, hle1, ht1⟩ => ?_
      dsimp only at hle1 ht1 ⊢
      refine h_freezeO (.slice A1 (ofM l).length c1) fun h2 B2 c2 e2 hle2 hlen2 hnil2 hz2 hr2 => ?_
      injection e2 with e2 _ e3
      subst e2 e3
      have hT2 : RdZ h2 (some ⟨2, 0, none⟩) hashT := (hT.mono hle1).mono hz2
      have ht2 : TrZ n h2 (mkT (ofM l) 0) q1 := ⟨ht1.ok.mono hz2⟩
      have hv2 := ValsZ.few hvl (hle1.trans hz2)
      refine h_op (r_move rfl) ?_
      refine h_op (r_extract rfl rfl) ?_
      refine h_op (r_extract rfl rfl) ?_
      refine h_op (r_extract rfl rfl) ?_
      refine h_op (r_assign rfl) ?_
      refine h_op (r_assign rfl) ?_
      refine h_op (r_assign rfl) ?_
      refine h_nil ?_
      refine q_then ?_
      refine h_seq ?_
      refine h_reg ?_
      refine h_op (r_move rfl) ?_
      refine h_call ((Hash_s n hn).comes) rfl rfl rfl fun ⟨gh, gc⟩ => ?_
      dsimp only
      by_cases hk30 : ks.length ≤ 30
      · refine h_op (r_assign rfl) ?_
        refine h_nil ?_
        refine q_then ?_
        refine h_seq ?_
        refine h_seq ?_
        refine h_reg ?_
        refine h_op (r_move rfl) ?_
        refine h_op (r_not rfl) ?_
        refine h_op (r_move rfl) ?_
        refine h_op (r_move rfl) ?_
        refine h_op (r_len rfl) ?_
        refine h_op (r_bool (r_gtr rfl rfl) (decide_eq_false (by omega))) ?_
        refine h_op (r_pick rfl rfl) ?_
        refine h_op (r_move rfl) ?_
        refine h_op (r_move rfl) ?_
        by_cases he : keysE ks = 0
        · rw [he] at hk1
          have hks := keysE_ok he
          have hPr := mProve_s h2 ks K kc n hn gh gc 0 (by decide) (mkT (ofM l) 0) q1 ht2 hkc he (by omega) (by omega)
          have hal2 := addT_len n (mkT (ofM l) 0) ks 0
          have hap := addT_parse n hal ks
          have hsh := addT_short n (mkT (ofM l) 0) ks
          have hdg := subT_dg n (mkT (ofM l) 0) ks 0
          have hfit := subT_fits n (mkT (ofM l) 0) ks 0
          have hmap := endsM_map (subT n (mkT (ofM l) 0) ks 0) ks 0 hks.2.2 (fun _ _ _ _ i hi => absurd hi (by omega)) hfit
          have hEn0 : endsM (subT n (mkT (ofM l) 0) ks 0) ks 0 = (ks.map fun k => (itemT n (loc k (mkT (ofM l) 0) 0).1, (loc k (mkT (ofM l) 0) 0).2), true) := Prod.ext (by rw [hmap]; exact List.map_congr_left fun k hk => subT_end n k _ ks 0 hk) hfit
          have hRt := fun h' hv' => Root_any n hn h' (d := 0) (by omega) hal (by omega) hv' A1 c1
          have hloc := loc_way hal
          rw [show rootM n (ofM l) 0 = dgT n (mkT (ofM l) 0) from rfl] at hRt
          generalize hT0 : mkT (ofM l) 0 = T at *
          generalize addT n T ks 0 = its0 at *
          generalize subT n T ks 0 = S0 at *
          have h0 : 0 < (dgs ks).length := by rw [dgs_len]; omega
          obtain ⟨bK, oK, rfl, -⟩ := hK.at_ 0 _ (List.getElem?_eq_getElem h0)
          refine h_call (hk1.comes) rfl rfl rfl fun _ => ?_
          refine h_op (r_bool (r_neq rfl rfl) rfl) ?_
          refine h_op (r_pick rfl rfl) ?_
          refine h_nil ?_
          refine q_then ?_
          refine h_condF rfl ?_
          refine h_skip ?_
          refine q_then ?_
          refine h_seq ?_
          refine h_reg ?_
          refine h_op (r_move rfl) ?_
          refine h_op (r_move rfl) ?_
          refine h_op (r_move rfl) ?_
          refine h_call (hPr.comes) rfl rfl rfl fun ⟨A48, c48⟩ => ?_
          dsimp only
          refine h_freezeO (.slice A48 its0.length c48) fun h3 B3 c3 e3 hle3 hlen3 hnil3 hz3 hr3 => ?_
          injection e3 with e3 _ e3'
          subst e3 e3'
          have hT3 : RdZ h3 (some ⟨2, 0, none⟩) hashT := hT2.mono hz3
          have hK3 : RdZ h3 (some ⟨bK, oK, none⟩) (dgs ks) := hK.mono ((hle1.trans hz2).trans hz3)
          have hRo := mRoot_s h3 n hn gh gc 0 (by decide) its0 A48 c48 hle3 (by omega) S0 hap
          have hEs := Ends_s h3 its0 A48 c48 hle3 (by omega) ks (some ⟨bK, oK, none⟩) kc S0 hap hkc (by omega) he _ _ hEn0
          simp only [↓reduceIte, List.length_map] at hEs
          rw [hdg] at hRo
          have hRt := hRt h3 (hv2.mono hz3)
          refine h_op (r_move rfl) ?_
          refine h_op (r_extract rfl rfl) ?_
          refine h_op (r_extract rfl rfl) ?_
          refine h_op (r_assign rfl) ?_
          refine h_op (r_assign rfl) ?_
          refine h_nil ?_
          refine q_then ?_
          refine h_seq ?_
          refine h_reg ?_
          refine h_op (r_move rfl) ?_
          refine h_op (r_move rfl) ?_
          refine h_call (hRo.comes) rfl rfl rfl fun _ => ?_
          refine h_op (r_move rfl) ?_
          refine h_op (r_extract rfl rfl) ?_
          refine h_op (r_extract rfl rfl) ?_
          refine h_opX (x_alloc) fun g13 => ?_
          refine h_opS (s_storer rfl rfl) ?_
          refine h_op (r_assign rfl) ?_
          refine h_nil ?_
          refine q_then ?_
          refine h_seq ?_
          refine h_reg ?_
          refine h_op (r_move rfl) ?_
          refine h_op (r_move rfl) ?_
          refine h_call (hEs.comes) rfl rfl rfl fun ⟨A60, c60⟩ => ?_
          dsimp only
          refine h_pure (φ := ∃ g, A60 = some ⟨g, 0, none⟩) (fun w s => s.ownSome (N := ks.length) (c := c60) (by omega)) ?_
          rintro ⟨g60, rfl⟩
          refine h_op (r_move rfl) ?_
          refine h_op (r_extract rfl rfl) ?_
          refine h_op (r_extract rfl rfl) ?_
          refine h_op (r_assign rfl) ?_
          refine h_op (r_assign rfl) ?_
          refine h_nil ?_
          refine q_then ?_
          refine h_seq ?_
          refine h_seq ?_
          refine ha_start [.blk g13 (dgT n T).cells 41] [] mixed (same) ?_
          refine ha_takeP 0 rfl (r_move rfl) ?_
          refine ha_takeP 1 rfl (r_bool (r_neq rfl rfl) rfl) ?_
          refine ha_takeP 2 rfl (r_move rfl) ?_
          refine ha_takeP 3 rfl (r_move rfl) ?_
          refine ha_takeP 4 rfl (r_bool (r_neq rfl rfl) rfl) ?_
          refine ha_takeP 5 rfl (r_pick rfl rfl) ?_
          refine ha_takeP 6 rfl (r_move rfl) ?_
          refine ha_takeP 7 rfl (r_move rfl) ?_
          refine ha_takeP 8 rfl (r_bool (r_neq rfl rfl) rfl) ?_
          refine ha_takeP 9 rfl (r_pick rfl rfl) ?_
          refine ha_takeP 10 rfl (r_move rfl) ?_
          refine ha_take 11 rfl (r_loadr rfl) ?_
          refine ha_takeP 12 rfl (r_move rfl) ?_
          refine ha_takeP 13 rfl (r_move rfl) ?_
          refine ha_one 14 ?_
          refine ho_C 14 rfl (hRt.comes) rfl rfl rfl (fun _ => same) fun _ => ?_
          refine ha_takeP 15 rfl (r_bool (r_ner rfl rfl) (decide_eq_false (fun h => h rfl))) ?_
          refine ha_takeP 16 rfl (r_pick rfl rfl) ?_
          refine ha_takeP 17 rfl (r_move rfl) ?_
          refine ha_takeP 18 rfl (r_move rfl) ?_
          refine ha_takeP 19 rfl (r_len rfl) ?_
          refine ha_takeP 20 rfl (r_move rfl) ?_
          refine ha_takeP 21 rfl (r_len rfl) ?_
          refine ha_takeP 22 rfl (r_bool (r_neq rfl rfl) (decide_eq_false (fun h => h rfl))) ?_
          refine ha_takeP 23 rfl (r_pick rfl rfl) ?_
          refine ha_done (by kernel_rfl) ?_
          refine q_then ?_
          refine h_condF rfl ?_
          refine h_skip ?_
          refine q_then ?_
          refine h_seq ?_
          refine h_reg ?_
          refine h_op (r_assign rfl) ?_
          refine h_nil ?_
          refine q_then ?_
          refine h_seq ?_
          refine h_seq ?_
          refine h_reg ?_
          refine h_op (r_move rfl) ?_
          refine h_op (r_len rfl) ?_
          refine h_op (r_move rfl) ?_
          refine h_nil ?_
          refine q_then ?_
          refine h_block ?_
          refine h_loop (fun (k : Nat) => k ≤ ks.length) (fun (k : Nat) => [(89, .int .i64 (k : Int)), (88, .int .i64 (ks.length : Int)), (87, .slice (some ⟨bK, oK, none⟩) ks.length kc), (15, .slice (some ⟨g60, 0, none⟩) ks.length c60), (8, .pointer q1), (17, .int .i64 ((depS T (ks.take k) 0 : Nat) : Int)), (11, .slice A48 its0.length c48)]) (fun (k : Nat) => [.own (.slice (some ⟨g60, 0, none⟩) ks.length c60) ks.length 55 98 (endC (ks.map fun k => (itemT n (loc k T 0).1, (loc k T 0).2))), .zone true h3]) (fun (k : Nat) => ks.length - k) 0 ((show 0 ≤ _ from Nat.zero_le _)) ⟨rfl, rfl, rfl, rfl, rfl, rfl, rfl, trivial⟩ (same) ?_
          rintro k hk
          have hdep : ∀ ks' : List B32, depS T ks' 0 ≤ 256 * ks'.length := fun ks' => by
            induction ks' with
            | nil => exact Nat.le_refl _
            | cons a m ih =>
              obtain ⟨D, d1, d2⟩ := hloc a
              have := d1.le
              unfold depS at ih ⊢
              rw [List.map_cons, List.sum_cons, d2, List.length_cons]
              dsimp only
              omega
          refine h_seq ?_
          refine h_reg ?_
          refine h_op (r_lss rfl rfl) ?_
          refine h_nil ?_
          refine q_then ?_
          refine h_seq ?_
          refine h_cond rfl (fun hlt => ?_) (fun hlt => ?_)
          · have hk2 : k < ks.length := by omega
            have hd := dgs_at (l := ks) (k := k) hk2
            have hx : ks[k]? = some (ks.getD k zB32) := by rw [List.getD_eq_getElem?_getD, List.getElem?_eq_getElem hk2]; rfl
            generalize ks.getD k zB32 = key at *
            obtain ⟨D, hW, hlc⟩ := hloc key
            have hDl := hW.le
            have hxe : (ks.map fun k => (itemT n (loc k T 0).1, (loc k T 0).2))[k]? = some (itemT n (wayK key T D), D) := by rw [List.getElem?_map, hx, Option.map_some, hlc]
            have hki := itemT_kind n hW.end_
            have hle' := itemT_leaf n hW.end_
            have hnx : depS T (ks.take (k + 1)) 0 = depS T (ks.take k) 0 + D := by
              unfold depS
              rw [List.take_add_one, hx, Option.toList_some, List.map_append, List.sum_append, List.map_cons, List.map_nil, List.sum_cons, List.sum_nil, hlc]
              rfl
            have hdk := hdep (ks.take k)
            rw [List.length_take] at hdk
            have ekd := endC_kind hxe
            have edp := endC_dep hxe
            have elf := endC_leaf hxe
            dsimp only at ekd edp elf
            rw [hki] at ekd
            rw [hle'] at elf
            refine h_skip ?_
            refine q_then ?_
            refine h_seq ?_
            refine h_block ?_
            refine h_seq ?_
            refine h_reg ?_
            refine h_op (r_move rfl) ?_
            refine h_op (r_idx rfl rfl) ?_
            refine h_op (r_nthr rfl (out := key.cells) (B32.cells_length _) hd) ?_
            refine h_opX (x_alloc) fun g19 => ?_
            refine h_op (r_assign rfl) ?_
            refine h_opS (s_storer rfl rfl) ?_
            refine h_nil ?_
            refine q_then ?_
            refine h_seq ?_
            refine h_reg ?_
            refine h_op (r_move rfl) ?_
            refine h_op (r_loadr rfl) ?_
            refine h_call ((Locate_s n h3 T q1 key D hW).comes) rfl rfl rfl fun _ => ?_
            refine h_op (r_move rfl) ?_
            refine h_op (r_extract rfl rfl) ?_
            refine h_op (r_extract rfl rfl) ?_
            refine h_op (r_assign rfl) ?_
            refine h_op (r_assign rfl) ?_
            refine h_nil ?_
            refine q_then ?_
            refine h_seq ?_
            refine h_seq ?_
            refine ha_start [.own (.slice (some ⟨g60, 0, none⟩) ks.length c60) ks.length 55 98 (endC (ks.map fun k => (itemT n (loc k T 0).1, (loc k T 0).2)))] [] mixed (same) ?_
            refine ha_takeP 0 rfl (r_move rfl) ?_
            refine ha_takeP 1 rfl (r_move rfl) ?_
            refine ha_takeP 2 rfl (r_idx rfl rfl) ?_
            refine ha_takeP 3 rfl (r_field rfl) ?_
            refine ha_take 4 rfl (r_nth rfl edp) ?_
            refine ha_takeP 5 rfl (r_move rfl) ?_
            refine ha_takeP 6 rfl (r_bool (r_neq rfl rfl) (decide_eq_false (fun h => h rfl))) ?_
            refine ha_takeP 7 rfl (r_move rfl) ?_
            refine ha_takeP 8 rfl (r_move rfl) ?_
            refine ha_takeP 9 rfl (r_move rfl) ?_
            refine ha_takeP 10 rfl (r_idx rfl rfl) ?_
            refine ha_takeP 11 rfl (r_field rfl) ?_
            refine ha_takeP 12 rfl (r_field rfl) ?_
            refine ha_take 13 rfl (r_nth rfl ekd) ?_
            refine ha_takeP 14 rfl (r_move rfl) ?_
            refine ha_one 15 ?_
            refine ho_C 15 rfl ((Kind_s n h3 (wayK key T D) (wayQ h3 key q1 D)).comes) rfl rfl rfl (fun _ => same) fun _ => ?_
            refine ha_takeP 16 rfl (r_bool (r_neq rfl rfl) (decide_eq_false (fun h => h rfl))) ?_
            refine ha_takeP 17 rfl (r_pick rfl rfl) ?_
            refine ha_takeP 18 rfl (r_move rfl) ?_
            refine ha_takeP 19 rfl (r_move rfl) ?_
            refine ha_takeP 20 rfl (r_move rfl) ?_
            refine ha_takeP 21 rfl (r_idx rfl rfl) ?_
            refine ha_takeP 22 rfl (r_field rfl) ?_
            refine ha_takeP 23 rfl (r_field rfl) ?_
            refine ha_take 24 rfl (r_nthr rfl (out := (leafT n (wayK key T D)).cells) (Leaf.cells_length _) elf) ?_
            refine ha_takeP 25 rfl (r_move rfl) ?_
            refine ha_one 26 ?_
            refine ho_C 26 rfl ((Leaf_s n h3 (wayK key T D) (wayQ h3 key q1 D)).comes) rfl rfl rfl (fun _ => same) fun _ => ?_
            refine ha_takeP 27 rfl (r_bool (r_ner rfl rfl) (decide_eq_false (fun h => h rfl))) ?_
            refine ha_takeP 28 rfl (r_pick rfl rfl) ?_
            refine ha_done (by kernel_rfl) ?_
            refine q_then ?_
            refine h_condF rfl ?_
            refine h_skip ?_
            refine q_then ?_
            refine h_reg ?_
            refine h_op (r_move rfl) ?_
            refine h_op (r_move rfl) ?_
            refine h_op (r_add rfl rfl) ?_
            refine h_op (r_assign rfl) ?_
            refine h_nil ?_
            refine q_block ?_
            refine q_then ?_
            refine h_reg ?_
            refine h_op (r_add rfl rfl) ?_
            refine h_op (r_move rfl) ?_
            refine h_nil ?_
            exact h_back (k + 1) ((show k + 1 ≤ _ by omega)) ((show ks.length - (k + 1) < ks.length - k by omega)) ⟨rfl, rfl, rfl, rfl, rfl, aI rfl (by rw [hnx]; omega), rfl, trivial⟩ (same)
          · obtain rfl : k = ks.length := by omega
            rw [List.take_length]
            have hdk := hdep ks
            refine h_exit ?_
            refine q_thenE ?_
            refine q_thenE ?_
            refine q_blockE ?_
            refine q_then ?_
            refine h_seq ?_
            refine h_reg ?_
            refine h_call ((alive19_s h3).comes) rfl rfl rfl fun ⟨h4, hle4⟩ => ?_
            dsimp only
            refine h_op (r_move rfl) ?_
            refine h_op (r_move rfl) ?_
            refine h_op (r_len rfl) ?_
            refine h_op (r_move rfl) ?_
            refine h_op (r_mul rfl rfl) ?_
            refine h_op (r_add rfl rfl) ?_
            refine h_op (r_bool (r_leq rfl rfl) (decide_eq_true (by omega))) ?_
            refine h_op (r_pick rfl rfl) ?_
            refine h_op (r_assign rfl) ?_
            refine h_nil ?_
            refine q_then ?_
            refine h_ret ?_
            exact h_ret1 rfl rfl fun w s => ⟨⟨h4, ((hle1.trans hz2).trans hz3).trans hle4⟩, rfl, (same (L' := [.zone true h4]) w s).res (List.Sublist.refl _) (by simp [Fa.wr])⟩
        · refine h_call (hk1.comes) rfl rfl rfl fun _ => ?_
          refine h_op (r_bool (r_neq rfl rfl) (decide_eq_true he)) ?_
          refine h_op (r_pick rfl rfl) ?_
          refine h_nil ?_
          refine q_then ?_
          refine h_condT rfl ?_
          refine h_seq ?_
          refine h_reg ?_
          refine h_call ((alive19_s h2).comes) rfl rfl rfl fun ⟨h3, hle3⟩ => ?_
          dsimp only
          refine h_op (r_assign rfl) ?_
          refine h_nil ?_
          refine q_then ?_
          refine h_ret ?_
          refine q_thenR ?_
          exact h_ret1 rfl rfl fun w s => ⟨⟨h3, (hle1.trans hz2).trans hle3⟩, rfl, (same (L' := [.zone true h3]) w s).res (List.Sublist.refl _) (by simp [Fa.wr])⟩
      · refine h_op (r_assign rfl) ?_
        refine h_nil ?_
        refine q_then ?_
        refine h_seq ?_
        refine h_seq ?_
        refine h_reg ?_
        refine h_op (r_move rfl) ?_
        refine h_op (r_not rfl) ?_
        refine h_op (r_move rfl) ?_
        refine h_op (r_move rfl) ?_
        refine h_op (r_len rfl) ?_
        refine h_op (r_bool (r_gtr rfl rfl) (decide_eq_true (by omega))) ?_
        refine h_op (r_pick rfl rfl) ?_
        refine h_op (r_move rfl) ?_
        refine h_opOff ?_
        refine h_opOff ?_
        refine h_opOff ?_
        refine h_op (r_pick rfl rfl) ?_
        refine h_nil ?_
        refine q_then ?_
        refine h_condT rfl ?_
        refine h_seq ?_
        refine h_reg ?_
        refine h_call ((alive19_s h2).comes) rfl rfl rfl fun ⟨h3, hle3⟩ => ?_
        dsimp only
        refine h_op (r_assign rfl) ?_
        refine h_nil ?_
        refine q_then ?_
        refine h_ret ?_
        refine q_thenR ?_
        exact h_ret1 rfl rfl fun w s => ⟨⟨h3, (hle1.trans hz2).trans hle3⟩, rfl, (same (L' := [.zone true h3]) w s).res (List.Sublist.refl _) (by simp [Fa.wr])⟩
    · refine h_seq ?_
      refine h_reg ?_
      refine h_op (r_assign rfl) ?_
      refine h_nil ?_
      refine q_then ?_
      refine h_seq ?_
      refine h_reg ?_
      refine h_op (r_move rfl) ?_
      refine h_op (r_move rfl) ?_
      refine h_call ((Tree_few n hn l B c (by simpa using hf)).comes) rfl rfl rfl fun _ => ?_
      refine h_op (r_move rfl) ?_
      refine h_op (r_extract rfl rfl) ?_
      refine h_op (r_extract rfl rfl) ?_
      refine h_op (r_extract rfl rfl) ?_
      refine h_op (r_assign rfl) ?_
      refine h_op (r_assign rfl) ?_
      refine h_op (r_assign rfl) ?_
      refine h_nil ?_
      refine q_then ?_
      refine h_seq ?_
      refine h_reg ?_
      refine h_op (r_move rfl) ?_
      refine h_call ((Hash_s n hn).comes) rfl rfl rfl fun ⟨gh, gc⟩ => ?_
      dsimp only
      refine h_op (r_assign rfl) ?_
      refine h_nil ?_
      refine q_then ?_
      refine h_seq ?_
      refine h_seq ?_
      refine h_reg ?_
      refine h_op (r_move rfl) ?_
      refine h_op (r_not rfl) ?_
      refine h_op (r_move rfl) ?_
      refine h_opOff ?_
      refine h_opOff ?_
      refine h_opOff ?_
      refine h_op (r_pick rfl rfl) ?_
      refine h_op (r_move rfl) ?_
      refine h_opOff ?_
      refine h_opOff ?_
      refine h_opOff ?_
      refine h_op (r_pick rfl rfl) ?_
      refine h_nil ?_
      refine q_then ?_
      refine h_condT rfl ?_
      refine h_seq ?_
      refine h_reg ?_
      refine h_call ((alive19_s h).comes) rfl rfl rfl fun ⟨h1, hle1⟩ => ?_
      dsimp only
      refine h_op (r_assign rfl) ?_
      refine h_nil ?_
      refine q_then ?_
      refine h_ret ?_
      refine q_thenR ?_
      exact h_ret1 rfl rfl fun w s => ⟨⟨h1, hle1⟩, rfl, (same (L' := [.zone true h1]) w s).res (List.Sublist.refl _) (by simp [Fa.wr])⟩
  · refine h_seq ?_
    refine h_reg ?_
    refine h_op (r_assign rfl) ?_
    refine h_nil ?_
    refine q_then ?_
    refine h_seq ?_
    refine h_reg ?_
    refine h_op (r_move rfl) ?_
    refine h_op (r_move rfl) ?_
    refine h_call ((Tree_bits i hi l B c).comes) rfl rfl rfl fun _ => ?_
    refine h_op (r_move rfl) ?_
    refine h_op (r_extract rfl rfl) ?_
    refine h_op (r_extract rfl rfl) ?_
    refine h_op (r_extract rfl rfl) ?_
    refine h_op (r_assign rfl) ?_
    refine h_op (r_assign rfl) ?_
    refine h_op (r_assign rfl) ?_
    refine h_nil ?_
    refine q_then ?_
    refine h_seq ?_
    refine h_reg ?_
    refine h_op (r_move rfl) ?_
    refine h_call ((Hash_no i hi).comes) rfl rfl rfl fun _ => ?_
    refine h_op (r_assign rfl) ?_
    refine h_nil ?_
    refine q_then ?_
    refine h_seq ?_
    refine h_seq ?_
    refine h_reg ?_
    refine h_op (r_move rfl) ?_
    refine h_op (r_not rfl) ?_
    refine h_op (r_move rfl) ?_
    refine h_opOff ?_
    refine h_opOff ?_
    refine h_opOff ?_
    refine h_op (r_pick rfl rfl) ?_
    refine h_op (r_move rfl) ?_
    refine h_opOff ?_
    refine h_opOff ?_
    refine h_opOff ?_
    refine h_op (r_pick rfl rfl) ?_
    refine h_nil ?_
    refine q_then ?_
    refine h_condT rfl ?_
    refine h_seq ?_
    refine h_reg ?_
    refine h_call ((alive19_s h).comes) rfl rfl rfl fun ⟨h1, hle1⟩ => ?_
    dsimp only
    refine h_op (r_assign rfl) ?_
    refine h_nil ?_
    refine q_then ?_
    refine h_ret ?_
    refine q_thenR ?_
    exact h_ret1 rfl rfl fun w s => ⟨⟨h1, hle1⟩, rfl, (same (L' := [.zone true h1]) w s).res (List.Sublist.refl _) (by simp [Fa.wr])⟩
end
end Go.Proofs.YtgfkbeipckbkiaaGreatDoor
/- E21 -/
namespace Go.Proofs.YtgfkbeipckbkiaaGreatDoor
set_option linter.unusedSimpArgs false
set_option linter.unusedVariables false
open Go.RowKit
def Sub.ways (k : B32) : Sub → Nat → List Sub
  | .one x, _ => [.one x]
  | .two l r, d => .two l r :: if bitAt k d then r.ways k (d + 1) else l.ways k (d + 1)
theorem ways_len (k : B32) : ∀ (t : Sub) (d i : Nat), (t.ways k d).length = (t.way k d i).length
  | .one _, _, _ => rfl
  | .two l r, d, i => by
    show (if bitAt k d then r.ways k (d + 1) else l.ways k (d + 1)).length + 1 = (if bitAt k d then r.way k (d + 1) (i + 1 + l.sz) else l.way k (d + 1) (i + 1)).length + 1
    cases bitAt k d
    · exact congrArg (· + 1) (ways_len k l (d + 1) (i + 1))
    · exact congrArg (· + 1) (ways_len k r (d + 1) (i + 1 + l.sz))
theorem way_pos (k : B32) (t : Sub) (d i : Nat) : 0 < (t.way k d i).length := by cases t <;> exact Nat.succ_pos _
theorem way_depth (k : B32) : ∀ (t : Sub) (d i : Nat), (t.way k d i).length = (t.endI k d).2 - d + 1 ∧ d ≤ (t.endI k d).2 ∧ (t.endI k d).2 ≤ d + t.ht
  | .one _, d, i => ⟨by show 1 = d - d + 1; omega, Nat.le_refl _, Nat.le_refl _⟩
  | .two l r, d, i => by
    have h1 := way_depth k l (d + 1) (i + 1)
    have h2 := way_depth k r (d + 1) (i + 1 + l.sz)
    show (if bitAt k d then r.way k (d + 1) (i + 1 + l.sz) else l.way k (d + 1) (i + 1)).length + 1 = (if bitAt k d then r.endI k (d + 1) else l.endI k (d + 1)).2 - d + 1 ∧ d ≤ (if bitAt k d then r.endI k (d + 1) else l.endI k (d + 1)).2 ∧ (if bitAt k d then r.endI k (d + 1) else l.endI k (d + 1)).2 ≤ d + (max l.ht r.ht + 1)
    cases bitAt k d
    · obtain ⟨a, b, c⟩ := h1
      refine ⟨?_, ?_, ?_⟩ <;> simp only [Bool.false_eq_true, if_false] <;> omega
    · obtain ⟨a, b, c⟩ := h2
      refine ⟨?_, ?_, ?_⟩ <;> simp only [if_true] <;> omega
/-- where a subtree stands in the list -/
structure At (l : List Item) (s : Sub) (d i : Nat) : Prop where
  ok : s.ok
  ht : d + s.ht ≤ 256
  le : i ≤ l.length
  eq : ∃ rest, l.drop i = s.flat ++ rest
theorem At.start {l : List Item} {t : Sub} (h : parseM l = .ok t) : At l t 0 0 := by
  obtain ⟨h1, h2, h3⟩ := parse_flat h
  exact ⟨h2, by omega, Nat.zero_le _, [], by rw [List.drop_zero, List.append_nil]; exact h1⟩
theorem At.read {l : List Item} {s : Sub} {d i : Nat} (h : At l s d i) : ∃ rest, readM (256 - d) (l.drop i) = some (s, rest) ∧ l.length = i + s.sz + rest.length := by
  obtain ⟨rest, e⟩ := h.eq
  refine ⟨rest, ?_, ?_⟩
  · rw [e]; exact read_flat s _ _ h.ok (by have := h.ht; omega)
  · have := congrArg List.length e
    rw [List.length_drop, List.length_append, Sub.flat_len] at this
    have := h.le
    have := s.sz_pos
    omega
theorem At.lt {l : List Item} {s : Sub} {d i : Nat} (h : At l s d i) : i < l.length := by
  obtain ⟨rest, _, e⟩ := h.read
  have := s.sz_pos
  omega
theorem At.skip {l : List Item} {s : Sub} {d i : Nat} (h : At l s d i) : skipI l (readM (256 - d) (l.drop i)) = ((i + s.sz : Nat) : Int) := by
  obtain ⟨rest, e, e2⟩ := h.read
  rw [e]
  show (l.length : Int) - (rest.length : Int) = _
  omega
theorem At.one {l : List Item} {x : Item} {d i : Nat} (h : At l (.one x) d i) : l[i]? = some x := by
  obtain ⟨rest, e⟩ := h.eq
  have := congrArg (·[0]?) e
  simpa [List.getElem?_drop, Sub.flat] using this
theorem At.two {l : List Item} {a b : Sub} {d i : Nat} (h : At l (.two a b) d i) : l[i]? = some innerI ∧ At l a (d + 1) (i + 1) ∧ At l b (d + 1) (i + 1 + a.sz) := by
  obtain ⟨rest, e⟩ := h.eq
  have e' : l.drop i = innerI :: (a.flat ++ (b.flat ++ rest)) := by rw [e]; show innerI :: (a.flat ++ b.flat ++ rest) = _; rw [List.append_assoc]
  have hht : d + (max a.ht b.ht + 1) ≤ 256 := h.ht
  have hlt := h.lt
  have e1 : l.drop (i + 1) = a.flat ++ (b.flat ++ rest) := by
    rw [← List.drop_drop, e']; rfl
  have hl1 : l.length - (i + 1) = a.sz + (b.sz + rest.length) := by
    have := congrArg List.length e1
    rwa [List.length_drop, List.length_append, List.length_append, Sub.flat_len, Sub.flat_len] at this
  refine ⟨?_, ⟨h.ok.1, by omega, by omega, _, e1⟩, ⟨h.ok.2, by omega, by have := b.sz_pos; omega, rest, ?_⟩⟩
  · have := congrArg (·[0]?) e'
    simpa [List.getElem?_drop] using this
  · rw [← List.drop_drop, e1, ← a.flat_len, List.drop_left]
/-- the way at each place -/
theorem way_at (k : B32) {l : List Item} : ∀ {t : Sub} {d i : Nat}, At l t d i → ∀ {j w : Nat}, (t.way k d i)[j]? = some w → ∃ s, (t.ways k d)[j]? = some s ∧ At l s (d + j) w
  | .one x, d, i, h, j, w, hj => by
    cases j with
    | zero => obtain rfl : i = w := by simpa [Sub.way] using hj
              exact ⟨_, rfl, h⟩
    | succ j => simp [Sub.way] at hj
  | .two a b, d, i, h, j, w, hj => by
    obtain ⟨_, ha, hb⟩ := h.two
    cases j with
    | zero => obtain rfl : i = w := by simpa [Sub.way] using hj
              exact ⟨_, rfl, h⟩
    | succ j =>
      have e : (Sub.two a b).way k d i = i :: if bitAt k d then b.way k (d + 1) (i + 1 + a.sz) else a.way k (d + 1) (i + 1) := rfl
      have e2 : (Sub.two a b).ways k d = .two a b :: if bitAt k d then b.ways k (d + 1) else a.ways k (d + 1) := rfl
      rw [e, List.getElem?_cons_succ] at hj
      rw [e2]
      simp only [List.getElem?_cons_succ]
      cases hbit : bitAt k d
      · rw [hbit, if_neg (by simp)] at hj
        obtain ⟨s, h1, h2⟩ := way_at k ha hj
        exact ⟨s, by rw [if_neg (by simp)]; exact h1, by rw [show d + (j + 1) = d + 1 + j by omega]; exact h2⟩
      · rw [hbit, if_pos rfl] at hj
        obtain ⟨s, h1, h2⟩ := way_at k hb hj
        exact ⟨s, by rw [if_pos rfl]; exact h1, by rw [show d + (j + 1) = d + 1 + j by omega]; exact h2⟩
/-- the last one on the way -/
theorem way_last (k : B32) {l : List Item} : ∀ {t : Sub} {d i : Nat}, At l t d i → ∃ w, (t.way k d i)[(t.way k d i).length - 1]? = some w ∧ l[w]? = some (t.endI k d).1 ∧ w < l.length
  | .one x, d, i, h => ⟨i, rfl, h.one, h.lt⟩
  | .two a b, d, i, h => by
    obtain ⟨_, ha, hb⟩ := h.two
    have e : (Sub.two a b).way k d i = i :: if bitAt k d then b.way k (d + 1) (i + 1 + a.sz) else a.way k (d + 1) (i + 1) := rfl
    have e2 : (Sub.two a b).endI k d = if bitAt k d then b.endI k (d + 1) else a.endI k (d + 1) := rfl
    cases hbit : bitAt k d
    · obtain ⟨w, h1, h2, h3⟩ := way_last k ha
      have hp := way_pos k a (d + 1) (i + 1)
      refine ⟨w, ?_, by rw [e2, hbit]; exact h2, h3⟩
      rw [e, hbit, if_neg (by simp), List.length_cons, Nat.add_sub_cancel]
      obtain ⟨m, hm⟩ : ∃ m, (a.way k (d + 1) (i + 1)).length = m + 1 := ⟨_, (Nat.sub_add_cancel hp).symm⟩
      rw [hm] at h1 ⊢
      rw [List.getElem?_cons_succ]
      exact h1
    · obtain ⟨w, h1, h2, h3⟩ := way_last k hb
      have hp := way_pos k b (d + 1) (i + 1 + a.sz)
      refine ⟨w, ?_, by rw [e2, hbit]; exact h2, h3⟩
      rw [e, hbit, if_pos rfl, List.length_cons, Nat.add_sub_cancel]
      obtain ⟨m, hm⟩ : ∃ m, (b.way k (d + 1) (i + 1 + a.sz)).length = m + 1 := ⟨_, (Nat.sub_add_cancel hp).symm⟩
      rw [hm] at h1 ⊢
      rw [List.getElem?_cons_succ]
      exact h1
end Go.Proofs.YtgfkbeipckbkiaaGreatDoor
/- U76 -/
namespace Go.Proofs.YtgfkbeipckbkiaaGreatDoor
set_option linter.unusedSimpArgs false
set_option linter.unusedVariables false
open Go.RowKit
theorem Way_s (l : List Item) (A : Option Addr) (c : Nat) (hl : l.length ≤ 1000000) (t : Sub) (hp : parseM l = .ok t) (key : B32) : Spec Tryz.prog 30 [.slice A l.length c, .agg key.cells.toArray].toArray [.rd A (its l)] [] (fun u : Nat × Nat => .slice (some ⟨u.1, 0, none⟩) (t.way key 0 0).length u.2) (fun u => [.own (.slice (some ⟨u.1, 0, none⟩) (t.way key 0 0).length u.2) (t.way key 0 0).length 3 1 (ic (t.way key 0 0))]) := by
  have hst := At.start hp
  refine spec_of Tryz.func30 rfl (n := 36) rfl rfl ?_
  intro W
  refine h_pure (φ := ∃ b o, A = some ⟨b, o, none⟩) (fun w s => Rd.some (s.ok (.rd A (its l)) (by simp)) (by rw [its_len]; have := hst.lt; omega)) ?_
  rintro ⟨b, o, rfl⟩
  refine h_seq ?_
  refine h_reg ?_
  refine h_opX (x_box rfl) fun g3 => ?_
  refine h_op (r_assign rfl) ?_
  refine h_nil ?_
  refine q_then ?_
  refine h_seq ?_
  refine h_reg ?_
  refine h_op (r_assign rfl) ?_
  refine h_nil ?_
  refine q_then ?_
  refine h_seq ?_
  refine h_reg ?_
  refine h_opX (x_bslI [0] rfl) fun g9 => ?_
  refine h_op (r_assign rfl) ?_
  refine h_nil ?_
  refine q_then ?_
  refine h_seq ?_
  refine h_seq ?_
  refine h_reg ?_
  refine h_op (r_assign rfl) ?_
  refine h_nil ?_
  refine q_then ?_
  refine h_block ?_
  change H _ _ _ _ _ (.own (.slice (some ⟨g9, 0, none⟩) ([] ++ [0] : List Nat).length 1) ([] ++ [0] : List Nat).length _ _ (ic ([] ++ [0])) :: _) _
  refine h_loop (fun (s : Sub × Nat × Nat × List Nat × Nat × Nat) => At l s.1 s.2.1 s.2.2.1 ∧ t.way key 0 0 = s.2.2.2.1 ++ s.1.way key s.2.1 s.2.2.1 ∧ s.2.2.2.1.length = s.2.1) (fun (s : Sub × Nat × Nat × List Nat × Nat × Nat) => [(0, .slice (some ⟨b, o, none⟩) l.length c), (5, .int .i64 (s.2.2.1 : Int)), (6, .slice (some ⟨s.2.2.2.2.1, 0, none⟩) (s.2.2.2.1 ++ [s.2.2.1]).length s.2.2.2.2.2), (7, .int .i64 (s.2.1 : Int)), (3, .pointer (some ⟨g3, 0, none⟩))]) (fun (s : Sub × Nat × Nat × List Nat × Nat × Nat) => [.own (.slice (some ⟨s.2.2.2.2.1, 0, none⟩) (s.2.2.2.1 ++ [s.2.2.1]).length s.2.2.2.2.2) (s.2.2.2.1 ++ [s.2.2.1]).length 3 1 (ic (s.2.2.2.1 ++ [s.2.2.1])), .blk g3 key.cells 39, .rd (some ⟨b, o, none⟩) (its l)]) (fun (s : Sub × Nat × Nat × List Nat × Nat × Nat) => s.1.sz) (t, 0, 0, [], g9, 1) (⟨hst, rfl, rfl⟩) ⟨rfl, rfl, rfl, rfl, rfl, trivial⟩ (same) ?_
  rintro ⟨s, d, i, pre, g, c'⟩ ⟨ha, hw, hpl⟩
  dsimp only at ha hw hpl ⊢
  have hlt := ha.lt
  rcases s with x | ⟨s1, s2⟩
  · have hx := ha.one
    have hk : x.kind ≠ 2 := ha.ok.1
    have hki := its_kind hx
    replace hw : t.way key 0 0 = pre ++ [i] := hw
    rw [← hw]
    refine h_seq ?_
    refine h_seq ?_
    refine h_reg ?_
    refine h_op (r_move rfl) ?_
    refine h_op (r_move rfl) ?_
    refine h_op (r_idx rfl rfl) ?_
    refine h_op (r_field rfl) ?_
    refine h_op (r_nth rfl hki) ?_
    refine h_op (r_bool (r_eql rfl rfl) (decide_eq_false hk)) ?_
    refine h_nil ?_
    refine q_then ?_
    refine h_condF rfl ?_
    refine h_exit ?_
    refine q_thenE ?_
    refine q_thenE ?_
    refine q_blockE ?_
    refine q_then ?_
    refine h_seq ?_
    refine h_reg ?_
    refine h_op (r_move rfl) ?_
    refine h_op (r_assign rfl) ?_
    refine h_nil ?_
    refine q_then ?_
    refine h_ret ?_
    exact h_ret1 rfl rfl fun w s => ⟨(g, c'), rfl, (same w s).res (List.Sublist.refl _) (by simp [Fa.wr])⟩
  · obtain ⟨hx, h1, h2⟩ := ha.two
    have hki := its_kind hx
    have hht : d + (max s1.ht s2.ht + 1) ≤ 256 := ha.ht
    have hSk := Skip_s l (some ⟨b, o, none⟩) c hl (256 - (d + 1)) (by omega) (i + 1)
    rw [h1.skip, show (256 : Int) - ((256 - (d + 1) : Nat) : Int) = ((d + 1 : Nat) : Int) by omega] at hSk
    have hpl2 : (pre ++ [i]).length = d + 1 := by rw [List.length_append, hpl]; rfl
    have hl2 : ∀ j, (pre ++ [i]).length + 1 = (pre ++ [i] ++ [j]).length := fun j => by simp only [List.length_append, List.length_cons, List.length_nil]
    have hs2 := s2.sz_pos
    replace hw : t.way key 0 0 = pre ++ (i :: if bitAt key d then s2.way key (d + 1) (i + 1 + s1.sz) else s1.way key (d + 1) (i + 1)) := hw
    refine h_seq ?_
    refine h_seq ?_
    refine h_reg ?_
    refine h_op (r_move rfl) ?_
    refine h_op (r_move rfl) ?_
    refine h_op (r_idx rfl rfl) ?_
    refine h_op (r_field rfl) ?_
    refine h_op (r_nth rfl hki) ?_
    refine h_op (r_bool (r_eql rfl rfl) (show _ = true from rfl)) ?_
    refine h_nil ?_
    refine q_then ?_
    refine h_condT rfl ?_
    refine h_skip ?_
    refine q_then ?_
    refine h_seq ?_
    refine h_block ?_
    refine h_seq ?_
    refine h_reg ?_
    refine h_op (r_move rfl) ?_
    refine h_op (r_int (r_add rfl rfl) (show _ = ((i + 1 : Nat) : Int) by omega)) ?_
    refine h_op (r_assign rfl) ?_
    refine h_nil ?_
    refine q_then ?_
    refine h_seq ?_
    refine h_seq ?_
    refine h_reg ?_
    refine h_op (r_loadr rfl) ?_
    refine h_op (r_move rfl) ?_
    refine h_call ((refBit_s key d (by omega)).comes) rfl rfl rfl fun _ => ?_
    refine h_op (r_bool (r_eql rfl rfl) (bitN_one key d)) ?_
    refine h_nil ?_
    refine q_then ?_
    refine h_condB rfl (fun hb => ?_) (fun hb => ?_)
    · rw [hb, if_pos rfl] at hw
      refine h_reg ?_
      refine h_op (r_move rfl) ?_
      refine h_op (r_move rfl) ?_
      refine h_op (r_int (r_add rfl rfl) (show _ = ((i + 1 : Nat) : Int) by omega)) ?_
      refine h_op (r_move rfl) ?_
      refine h_op (r_int (r_add rfl rfl) (show _ = ((d + 1 : Nat) : Int) by omega)) ?_
      refine h_call (hSk.comes) rfl rfl rfl fun _ => ?_
      refine h_op (r_assign rfl) ?_
      refine h_nil ?_
      refine q_then ?_
      refine h_seq ?_
      refine h_reg ?_
      refine h_op (r_move rfl) ?_
      refine h_op (r_assign rfl) ?_
      refine h_nil ?_
      refine q_then ?_
      refine h_reg ?_
      refine h_op (r_move rfl) ?_
      refine h_op (r_move rfl) ?_
      refine h_opX (x_bsl rfl rfl) fun g33 => ?_
      refine h_opX (x_app1I rfl rfl) fun ⟨g34, c34⟩ => ?_
      refine h_op (r_assign rfl) ?_
      refine h_nil ?_
      refine q_block ?_
      refine q_then ?_
      refine h_reg ?_
      refine h_op (r_move rfl) ?_
      refine h_op (r_add rfl rfl) ?_
      refine h_op (r_assign rfl) ?_
      refine h_nil ?_
      rw [hl2 (i + 1 + s1.sz)]
      exact h_back (s2, d + 1, i + 1 + s1.sz, pre ++ [i], g34, c34) (⟨h2, by dsimp only; rw [hw]; simp, by dsimp only; rw [hpl2]⟩) ((show s2.sz < s1.sz + s2.sz + 1 by omega)) ⟨rfl, rfl, rfl, aI rfl (by dsimp only; omega), rfl, trivial⟩ (same)
    · rw [hb, if_neg (by simp)] at hw
      refine h_skip ?_
      refine q_then ?_
      refine h_seq ?_
      refine h_reg ?_
      refine h_op (r_move rfl) ?_
      refine h_op (r_assign rfl) ?_
      refine h_nil ?_
      refine q_then ?_
      refine h_reg ?_
      refine h_op (r_move rfl) ?_
      refine h_op (r_move rfl) ?_
      refine h_opX (x_bsl rfl rfl) fun g33 => ?_
      refine h_opX (x_app1I rfl rfl) fun ⟨g34, c34⟩ => ?_
      refine h_op (r_assign rfl) ?_
      refine h_nil ?_
      refine q_block ?_
      refine q_then ?_
      refine h_reg ?_
      refine h_op (r_move rfl) ?_
      refine h_op (r_add rfl rfl) ?_
      refine h_op (r_assign rfl) ?_
      refine h_nil ?_
      rw [hl2 (i + 1)]
      exact h_back (s1, d + 1, i + 1, pre ++ [i], g34, c34) (⟨h1, by dsimp only; rw [hw]; simp, by dsimp only; rw [hpl2]⟩) ((show s1.sz < s1.sz + s2.sz + 1 by omega)) ⟨rfl, rfl, rfl, aI rfl (by dsimp only; omega), rfl, trivial⟩ (same)
end Go.Proofs.YtgfkbeipckbkiaaGreatDoor
/- U18 -/
namespace Go.Proofs.YtgfkbeipckbkiaaGreatDoor
set_option linter.unusedSimpArgs false
set_option linter.unusedVariables false
open Go.RowKit
end Go.Proofs.YtgfkbeipckbkiaaGreatDoor
/- U19 -/
namespace Go.Proofs.YtgfkbeipckbkiaaGreatDoor
set_option linter.unusedSimpArgs false
set_option linter.unusedVariables false
open Go.RowKit
instance (a b : B32) : Row (a.cells ++ b.cells) 64 := ⟨by rw [List.length_append, B32.cells_length, B32.cells_length], fun v hv => (List.mem_append.1 hv).elim (B32.cells_one a v) (B32.cells_one b v)⟩
instance (a b c : B32) : SetAt (a.cells ++ b.cells) 0 c.cells (c.cells ++ b.cells) := ⟨by rw [List.take_zero, List.nil_append, Nat.zero_add, B32.cells_length, List.drop_append, List.drop_of_length_le (by rw [B32.cells_length]; exact Nat.le_refl _), B32.cells_length, Nat.sub_self, List.drop_zero, List.nil_append], by simp [B32.cells_length]⟩
instance (a b c : B32) : SetAt (a.cells ++ b.cells) 32 c.cells (a.cells ++ c.cells) := ⟨by rw [List.take_append_of_le_length (by rw [B32.cells_length]; exact Nat.le_refl _), List.take_of_length_le (by rw [B32.cells_length]; exact Nat.le_refl _), List.drop_of_length_le (by simp [B32.cells_length]), List.append_nil], by simp [B32.cells_length]⟩
instance (a b : B32) : RowAt (a.cells ++ b.cells) 0 32 a.cells := ⟨fun j v hv => by rw [Nat.zero_add, List.getElem?_append_left (List.getElem?_eq_some_iff.1 hv).1]; exact hv, B32.cells_length a⟩
instance (a b : B32) : RowAt (a.cells ++ b.cells) 32 32 b.cells := ⟨fun j v hv => by rw [List.getElem?_append_right (by rw [B32.cells_length]; omega), B32.cells_length, Nat.add_sub_cancel_left]; exact hv, B32.cells_length b⟩
instance : TZ Tryz.prog 137 (zB32.cells ++ zB32.cells) := ⟨⟨.agg (zB32.cells ++ zB32.cells).toArray, by kernel_rfl, rfl⟩⟩
instance : TB Tryz.prog 137 (zB32.cells ++ zB32.cells) (plArr 32) := ⟨fun w ps cells h => run_build_array Tryz.underlying137 (z := (zB32.cells ++ zB32.cells).toArray) (n := 64) (by kernel_rfl) (s := 32) (by kernel_rfl) h⟩
/-! tails -/
class TakeTl (m L : List Fa) (M : outParam (List Fa)) : Prop where
  perm : L.Perm (m ++ M)
instance (m R : List Fa) : TakeTl m (m ++ R) R := ⟨List.Perm.refl _⟩
instance (priority := 100) (m : List Fa) (f : Fa) (L M : List Fa) [h : TakeTl m L M] : TakeTl m (f :: L) (f :: M) := ⟨(h.perm.cons f).trans List.perm_middle.symm⟩
instance (priority := 5) (m L M : List Fa) [h : TakeTl m L M] : Take m L M := ⟨h.perm⟩
class RmOk (Rm : List Fa) : Prop where
  ok : ∀ r ∈ Rm, r.wr = false
instance (Rm : List Fa) [h : RmOk Rm] : Rds Rm Rm := ⟨fun hw r hr => ⟨h.ok r hr, hw.ok r hr, fun k hk => ⟨r, hr, hk⟩⟩⟩
instance (priority := 5) (Rm : List Fa) (f : Fa) (L : List Fa) [RmOk Rm] [h : Rds L Rm] : Rds (f :: L) Rm := ⟨fun hw r hr => by
  obtain ⟨h1, h2, h3⟩ := h.ok hw.tail r hr
  exact ⟨h1, h2, fun k hk => let ⟨g, hg, hgk⟩ := h3 k hk; ⟨g, List.mem_cons_of_mem _ hg, hgk⟩⟩⟩
end Go.Proofs.YtgfkbeipckbkiaaGreatDoor
/- U20 -/
namespace Go.Proofs.YtgfkbeipckbkiaaGreatDoor
set_option linter.unusedSimpArgs false
set_option linter.unusedVariables false
open Go.RowKit
end Go.Proofs.YtgfkbeipckbkiaaGreatDoor
/- U21 -/
namespace Go.Proofs.YtgfkbeipckbkiaaGreatDoor
set_option linter.unusedSimpArgs false
set_option linter.unusedVariables false
open Go.RowKit
end Go.Proofs.YtgfkbeipckbkiaaGreatDoor
/- U22 -/
namespace Go.Proofs.YtgfkbeipckbkiaaGreatDoor
set_option linter.unusedSimpArgs false
set_option linter.unusedVariables false
open Go.RowKit
instance (m : List Fa) : TakeTl m m [] := ⟨by rw [List.append_nil]⟩
/-- rows that are somewhere, with these bytes -/
def SegsOk (ys : List Seg) (ls : List (List UInt8)) : Prop := ys.map (fun x => x.2.2) = ls ∧ ∀ x ∈ ys, ∃ g, x.1 = some ⟨g, 0, none⟩
theorem SegsOk.len {ys : List Seg} {ls : List (List UInt8)} (h : SegsOk ys ls) : ys.length = ls.length := by rw [← h.1, List.length_map]
end Go.Proofs.YtgfkbeipckbkiaaGreatDoor
