/- multi: the ends of keys; The ends of keys, read: where what stands; What mverify computes: plain; multiproofs: the reference's Digest and Preimage; The subtrees on the way of a key, where they stand: plain; multiproofs: the reference's Way; multiproofs: the reference's Fits; The reference: the last steps of mverify (joined texts: U75 E22 E30 U68 E21 U76 U77 U126) -/
import Derived.Test.YtjhocljhhpkiiaaGreatDoorG13
set_option linter.all false
/- U75 -/
namespace Go.Proofs.YtjhocljhhpkiiaaGreatDoor
set_option linter.unusedSimpArgs false
set_option linter.unusedVariables false
open Go.RowKit
instance iU75_1 : TZero Tryz.prog 232 (.agg [.nilIface, .nilIface].toArray) := ⟨fun w => by kernel_rfl⟩
def endC (l : List (Item × Nat)) : List Value := l.flatMap fun x => End.cells ⟨x.1, (x.2 : Int)⟩
theorem endC_len (l : List (Item × Nat)) : (endC l).length = l.length * 98 := by
  unfold endC
  induction l with
  | nil => rfl
  | cons x l ih => rw [List.flatMap_cons, List.length_append, ih, List.length_cons, End.cells_length]; omega
theorem endC_snoc (l : List (Item × Nat)) (x : Item × Nat) : endC l ++ End.cells ⟨x.1, (x.2 : Int)⟩ = endC (l ++ [x]) := by unfold endC; rw [List.flatMap_append]; simp
section
variable (h : Zh)
theorem ends_one (x : Item) (ks : List B32) (B : Option Addr) (cc d : Nat) (hks : ks.length ≤ 100000) (out : List (Item × Nat)) (A : Option Addr) (c : Nat) (ho : out.length + ks.length ≤ 1000000) (b : Bool) (hb : (x.kind != 3 || ks.isEmpty) = b) : Spec Tryz.prog 205 [.slice A out.length c, .iface (Sub.one x).tag (Sub.one x).val, .slice B ks.length cc, .int .i64 (d : Int)].toArray [.zone false h] [.own (.slice A out.length c) out.length 250 98 (endC out)] (fun u : Option Addr × Nat => .tuple #[.slice u.1 (out ++ ks.map fun _ => (x, d)).length u.2, .bool b]) (fun u => [.own (.slice u.1 (out ++ ks.map fun _ => (x, d)).length u.2) (out ++ ks.map fun _ => (x, d)).length 250 98 (endC (out ++ ks.map fun _ => (x, d)))]) := by
  have ht : ∀ k, k < ks.length → (ks.take (k + 1)).map (fun _ => (x, d)) = (ks.take k).map (fun _ => (x, d)) ++ [(x, d)] := fun k hk => by rw [List.take_add_one, List.getElem?_eq_getElem hk, Option.toList_some, List.map_append]; rfl
  refine spec_of Tryz.func205 rfl (n := 79) rfl rfl ?_
  intro W
  change H _ _ _ _ (argsEnv 0 [.slice A out.length c, .iface 235 (.agg x.cells.toArray), .slice B ks.length cc, .int .i64 (d : Int)]) _ _
  refine h_seq ?_
  refine h_reg ?_
  refine h_op (r_assign rfl) ?_
  refine h_op (r_assign rfl) ?_
  refine h_nil ?_
  refine q_then ?_
  refine h_seq ?_
  refine h_seq ?_
  refine h_reg ?_
  refine h_op (r_move rfl) ?_
  refine h_nil ?_
  refine q_then ?_
  refine h_block ?_
  refine h_seq ?_
  refine h_reg ?_
  refine h_op (r_as2n rfl) ?_
  refine h_op (r_extract rfl rfl) ?_
  refine h_op (r_extract rfl rfl) ?_
  refine h_nil ?_
  refine q_then ?_
  refine h_condF rfl ?_
  refine h_seq ?_
  refine h_reg ?_
  refine h_op (r_as2 rfl) ?_
  refine h_op (r_extract rfl rfl) ?_
  refine h_op (r_extract rfl rfl) ?_
  refine h_nil ?_
  refine q_then ?_
  refine h_condT rfl ?_
  refine h_seq ?_
  refine h_reg ?_
  refine h_opX (x_alloc) fun g14 => ?_
  refine h_opS (s_storer rfl rfl) ?_
  refine h_nil ?_
  refine q_then ?_
  refine h_seq ?_
  refine h_seq ?_
  refine h_reg ?_
  refine h_op (r_move rfl) ?_
  refine h_op (r_len rfl) ?_
  refine h_op (r_move rfl) ?_
  refine h_nil ?_
  refine q_then ?_
  refine h_block ?_
  refine h_loop (fun (s : Nat × List (Item × Nat) × Option Addr × Nat) => s.1 ≤ ks.length ∧ s.2.1 = out ++ (ks.take s.1).map (fun _ => (x, d))) (fun (s : Nat × List (Item × Nat) × Option Addr × Nat) => [(58, .int .i64 (s.1 : Int)), (57, .int .i64 (ks.length : Int)), (0, .slice s.2.2.1 s.2.1.length s.2.2.2), (14, .pointer (some ⟨g14, 0, none⟩)), (3, .int .i64 (d : Int)), (2, .slice B ks.length cc)]) (fun (s : Nat × List (Item × Nat) × Option Addr × Nat) => [.own (.slice s.2.2.1 s.2.1.length s.2.2.2) s.2.1.length 250 98 (endC s.2.1), .blk g14 x.cells 235]) (fun (s : Nat × List (Item × Nat) × Option Addr × Nat) => ks.length - s.1) (0, out, A, c) (⟨Nat.zero_le _, by simp⟩) ⟨rfl, rfl, rfl, rfl, rfl, rfl, trivial⟩ (same) ?_
  rintro ⟨k, o, A', c'⟩ ⟨hk, he⟩
  dsimp only at hk he ⊢
  have hol : o.length = out.length + k := by rw [he, List.length_append, List.length_map, List.length_take]; omega
  refine h_seq ?_
  refine h_reg ?_
  refine h_op (r_lss rfl rfl) ?_
  refine h_nil ?_
  refine q_then ?_
  refine h_seq ?_
  refine h_cond rfl (fun hlt => ?_) (fun hlt => ?_)
  · have hk2 : k < ks.length := by omega
    have hl : o.length + 1 = (o ++ [(x, d)]).length := by rw [List.length_append]; rfl
    refine h_skip ?_
    refine q_then ?_
    refine h_seq ?_
    refine h_block ?_
    refine h_reg ?_
    refine h_op (r_move rfl) ?_
    refine h_op (r_field rfl) ?_
    refine h_op (r_loadr rfl) ?_
    refine h_op (r_move rfl) ?_
    refine h_op (r_build rfl) ?_
    refine h_opX (x_bsl rfl rfl) fun g65 => ?_
    refine h_opX (x_app rfl rfl (k := 98)) fun ⟨g66, c66⟩ => ?_
    refine h_op (r_assign rfl) ?_
    refine h_nil ?_
    refine q_block ?_
    refine q_then ?_
    refine h_reg ?_
    refine h_op (r_add rfl rfl) ?_
    refine h_op (r_move rfl) ?_
    refine h_nil ?_
    change H _ _ _ _ _ (.own _ _ _ _ (endC o ++ End.cells ⟨x, (d : Int)⟩) :: _) _
    rw [endC_snoc o (x, d), hl]
    exact h_back (k + 1, o ++ [(x, d)], some ⟨g66, 0, none⟩, c66) (⟨by dsimp only; omega, by dsimp only; rw [ht k hk2, he, List.append_assoc]⟩) ((show ks.length - (k + 1) < ks.length - k by omega)) ⟨rfl, rfl, rfl, rfl, rfl, rfl, trivial⟩ (same)
  · obtain rfl : k = ks.length := by omega
    rw [List.take_length] at he
    subst he
    by_cases h3 : x.kind = 3
    · have hb2 : decide ((ks.length : Int) = 0) = b := by
        rw [← hb, h3]
        cases ks <;> simp
        omega
      refine h_exit ?_
      refine q_thenE ?_
      refine q_thenE ?_
      refine q_blockE ?_
      refine q_then ?_
      refine h_seq ?_
      refine h_reg ?_
      refine h_op (r_move rfl) ?_
      refine h_op (r_field rfl) ?_
      refine h_op (r_field rfl) ?_
      refine h_op (r_loadc rfl) ?_
      refine h_op (r_bool (r_neq rfl rfl) (show _ = false by simp [h3])) ?_
      refine h_op (r_move rfl) ?_
      refine h_op (r_move rfl) ?_
      refine h_op (r_len rfl) ?_
      refine h_op (r_bool (r_eql rfl rfl) hb2) ?_
      refine h_op (r_pick rfl rfl) ?_
      refine h_op (r_assign rfl) ?_
      refine h_op (r_assign rfl) ?_
      refine h_nil ?_
      refine q_then ?_
      refine h_ret ?_
      refine q_blockR ?_
      refine q_thenR ?_
      exact h_ret2 rfl rfl rfl fun w s => ⟨(A', c'), rfl, (same w s).res (List.Sublist.refl _) (by simp [Fa.wr])⟩
    · obtain rfl : b = true := by rw [← hb]; simp [h3]
      refine h_exit ?_
      refine q_thenE ?_
      refine q_thenE ?_
      refine q_blockE ?_
      refine q_then ?_
      refine h_seq ?_
      refine h_reg ?_
      refine h_op (r_move rfl) ?_
      refine h_op (r_field rfl) ?_
      refine h_op (r_field rfl) ?_
      refine h_op (r_loadc rfl) ?_
      refine h_op (r_bool (r_neq rfl rfl) (show _ = true by simp [h3])) ?_
      refine h_op (r_move rfl) ?_
      refine h_opOff ?_
      refine h_opOff ?_
      refine h_opOff ?_
      refine h_op (r_pick rfl rfl) ?_
      refine h_op (r_assign rfl) ?_
      refine h_op (r_assign rfl) ?_
      refine h_nil ?_
      refine q_then ?_
      refine h_ret ?_
      refine q_blockR ?_
      refine q_thenR ?_
      exact h_ret2 rfl rfl rfl fun w s => ⟨(A', c'), rfl, (same w s).res (List.Sublist.refl _) (by simp [Fa.wr])⟩
theorem ends_none (l r : Sub) (B : Option Addr) (cc d : Nat) (out : List (Item × Nat)) (A : Option Addr) (c : Nat) : Spec Tryz.prog 205 [.slice A out.length c, .iface (Sub.two l r).tag (Sub.two l r).val, .slice B 0 cc, .int .i64 (d : Int)].toArray [.zone false h] [.own (.slice A out.length c) out.length 250 98 (endC out)] (fun u : Option Addr × Nat => .tuple #[.slice u.1 out.length u.2, .bool false]) (fun u => [.own (.slice u.1 out.length u.2) out.length 250 98 (endC out)]) := by
  refine spec_of Tryz.func205 rfl (n := 79) rfl rfl ?_
  intro W
  change H _ _ _ _ (argsEnv 0 [.slice A out.length c, .iface 232 (.agg [.iface l.tag l.val, .iface r.tag r.val].toArray), .slice B 0 cc, .int .i64 (d : Int)]) _ _
  refine h_seq ?_
  refine h_reg ?_
  refine h_op (r_assign rfl) ?_
  refine h_op (r_assign rfl) ?_
  refine h_nil ?_
  refine q_then ?_
  refine h_seq ?_
  refine h_seq ?_
  refine h_reg ?_
  refine h_op (r_move rfl) ?_
  refine h_nil ?_
  refine q_then ?_
  refine h_block ?_
  refine h_seq ?_
  refine h_reg ?_
  refine h_op (r_as2 rfl) ?_
  refine h_op (r_extract rfl rfl) ?_
  refine h_op (r_extract rfl rfl) ?_
  refine h_nil ?_
  refine q_then ?_
  refine h_condT rfl ?_
  refine h_seq ?_
  refine h_reg ?_
  refine h_opX (x_alloc) fun g10 => ?_
  refine h_opS (s_storer rfl rfl) ?_
  refine h_nil ?_
  refine q_then ?_
  refine h_seq ?_
  refine h_seq ?_
  refine h_reg ?_
  refine h_op (r_move rfl) ?_
  refine h_op (r_len rfl) ?_
  refine h_op (r_bool (r_eql rfl rfl) (show _ = true from rfl)) ?_
  refine h_nil ?_
  refine q_then ?_
  refine h_condT rfl ?_
  refine h_seq ?_
  refine h_reg ?_
  refine h_op (r_move rfl) ?_
  refine h_op (r_assign rfl) ?_
  refine h_op (r_assign rfl) ?_
  refine h_nil ?_
  refine q_then ?_
  refine h_ret ?_
  refine q_thenR ?_
  refine q_blockR ?_
  refine q_thenR ?_
  exact h_ret2 rfl rfl rfl fun w s => ⟨(A, c), rfl, (same w s).res (List.Sublist.refl _) (by simp [Fa.wr])⟩
/-- what a call of ends brings -/
def EndsS (t : Sub) : Prop := ∀ (ks : List B32) (B : Option Addr) (cc d : Nat), RdZ h B (dgs ks) → ks.length ≤ cc → ks.length ≤ 100000 → ks.Pairwise ltK → AlikeK ks d → d + t.ht ≤ 256 → ∀ (out : List (Item × Nat)) (A : Option Addr) (c : Nat), out.length + ks.length ≤ 1000000 →
  Spec Tryz.prog 205 [.slice A out.length c, .iface t.tag t.val, .slice B ks.length cc, .int .i64 (d : Int)].toArray [.zone false h] [.own (.slice A out.length c) out.length 250 98 (endC out)] (fun u : Option Addr × Nat => .tuple #[.slice u.1 (out ++ (endsM t ks d).1).length u.2, .bool (endsM t ks d).2]) (fun u => [.own (.slice u.1 (out ++ (endsM t ks d).1).length u.2) (out ++ (endsM t ks d).1).length 250 98 (endC (out ++ (endsM t ks d).1))])
theorem ends_two (l r : Sub) (ihl : EndsS h l) (ihr : EndsS h r) (ks : List B32) (B : Option Addr) (cc d m : Nat) (hB : RdZ h B (dgs ks)) (hcc : ks.length ≤ cc) (hks : ks.length ≤ 100000) (hne : ks.length ≠ 0) (ho : ks.Pairwise ltK) (ha : AlikeK ks d) (hd : d + (Sub.two l r).ht ≤ 256) (hm : m ≤ ks.length) (hp : ∀ j, j < ks.length → bitAt (ks.getD j zB32) d = decide (m ≤ j)) (h1 : ks.take m = keysB ks d false) (h2 : ks.drop m = keysB ks d true) (out : List (Item × Nat)) (A : Option Addr) (c : Nat) (hsz : out.length + ks.length ≤ 1000000) (e1 e2 : List (Item × Nat)) (b1 b2 : Bool) (he1 : endsM l (keysB ks d false) (d + 1) = (e1, b1)) (he2 : endsM r (keysB ks d true) (d + 1) = (e2, b2)) :
    Spec Tryz.prog 205 [.slice A out.length c, .iface (Sub.two l r).tag (Sub.two l r).val, .slice B ks.length cc, .int .i64 (d : Int)].toArray [.zone false h] [.own (.slice A out.length c) out.length 250 98 (endC out)] (fun u : Option Addr × Nat => .tuple #[.slice u.1 (out ++ if b1 then e1 ++ e2 else e1).length u.2, .bool (b1 && b2)]) (fun u => [.own (.slice u.1 (out ++ if b1 then e1 ++ e2 else e1).length u.2) (out ++ if b1 then e1 ++ e2 else e1).length 250 98 (endC (out ++ if b1 then e1 ++ e2 else e1))]) := by
  have hht : d + (max l.ht r.ht + 1) ≤ 256 := hd
  have h0 : 0 < (dgs ks).length := by rw [dgs_len]; omega
  obtain ⟨b, o, rfl, -⟩ := hB.at_ 0 _ (List.getElem?_eq_getElem h0)
  have hlm : (ks.take m).length = m := by rw [List.length_take, Nat.min_eq_left hm]
  have hle1 := endsM_len l (keysB ks d false) (d + 1)
  rw [he1, ← h1, hlm] at hle1
  dsimp only at hle1
  have hL := ihl (ks.take m) (some ⟨b, o, none⟩) m (d + 1) (dgs_takeZ hB m) (by omega) (by omega) (by rw [h1]; exact keysB_ord ho _) (by rw [h1]; exact keysB_alike ha _) (by omega) out A c (by omega)
  have hR := ihr (ks.drop m) (cutA (some ⟨b, o, none⟩) cc m 32) (cc - m) (d + 1) (dgs_dropZ hB hm hcc) (by rw [List.length_drop]; omega) (by rw [List.length_drop]; omega) (by rw [h2]; exact keysB_ord ho _) (by rw [h2]; exact keysB_alike ha _) (by omega) (out ++ e1)
  rw [hlm, h1, he1] at hL
  rw [List.length_drop] at hR
  simp only [h2, he2] at hR
  dsimp only at hL
  have hS := Split_s ks (some ⟨b, o, none⟩) cc d m (by omega) (by omega) hm hp
  refine spec_of Tryz.func205 rfl (n := 79) rfl rfl ?_
  intro W
  change H _ _ _ _ (argsEnv 0 [.slice A out.length c, .iface 232 (.agg [.iface l.tag l.val, .iface r.tag r.val].toArray), .slice (some ⟨b, o, none⟩) ks.length cc, .int .i64 (d : Int)]) _ _
  refine h_seq ?_
  refine h_reg ?_
  refine h_op (r_assign rfl) ?_
  refine h_op (r_assign rfl) ?_
  refine h_nil ?_
  refine q_then ?_
  refine h_seq ?_
  refine h_seq ?_
  refine h_reg ?_
  refine h_op (r_move rfl) ?_
  refine h_nil ?_
  refine q_then ?_
  refine h_block ?_
  refine h_seq ?_
  refine h_reg ?_
  refine h_op (r_as2 rfl) ?_
  refine h_op (r_extract rfl rfl) ?_
  refine h_op (r_extract rfl rfl) ?_
  refine h_nil ?_
  refine q_then ?_
  refine h_condT rfl ?_
  refine h_seq ?_
  refine h_reg ?_
  refine h_opX (x_alloc) fun g10 => ?_
  refine h_opS (s_storer rfl rfl) ?_
  refine h_nil ?_
  refine q_then ?_
  refine h_seq ?_
  refine h_seq ?_
  refine h_reg ?_
  refine h_op (r_move rfl) ?_
  refine h_op (r_len rfl) ?_
  refine h_op (r_bool (r_eql rfl rfl) (decide_eq_false (by omega))) ?_
  refine h_nil ?_
  refine q_then ?_
  refine h_condF rfl ?_
  refine h_skip ?_
  refine q_then ?_
  refine h_seq ?_
  refine h_reg ?_
  refine h_op (r_move rfl) ?_
  refine h_op (r_move rfl) ?_
  refine h_call (hS.comes) rfl rfl rfl fun _ => ?_
  refine h_op (r_assign rfl) ?_
  refine h_nil ?_
  refine q_then ?_
  refine h_seq ?_
  refine ha_start [.zone false h, .blk g10 [.iface l.tag l.val, .iface r.tag r.val] 232] [] mixed (same) ?_
  refine ha_takeP 0 rfl (r_move rfl) ?_
  refine ha_takeP 1 rfl (r_idxA rfl rfl) ?_
  refine ha_take 2 rfl (r_loadc rfl) ?_
  refine ha_takeP 3 rfl (r_move rfl) ?_
  refine ha_takeP 4 rfl (r_move rfl) ?_
  refine ha_takeP 5 rfl (r_move rfl) ?_
  refine ha_takeP 6 rfl (r_slHM rfl rfl rfl) ?_
  refine ha_takeP 7 rfl (r_move rfl) ?_
  refine ha_takeP 8 rfl (r_add rfl rfl) ?_
  refine ha_one 9 ?_
  refine ho_C 9 rfl (hL.comes) rfl rfl rfl (fun xx => same) fun ⟨A36, c36⟩ => ?_
  refine ha_takeP 10 rfl (r_move rfl) ?_
  refine ha_takeP 11 rfl (r_extract rfl rfl) ?_
  refine ha_takeP 12 rfl (r_extract rfl rfl) ?_
  refine ha_takeP 13 rfl (r_assign rfl) ?_
  refine ha_takeP 14 rfl (r_assign rfl) ?_
  refine ha_done (by kernel_rfl) ?_
  refine q_then ?_
  cases b1
  · refine h_seq ?_
    refine h_seq ?_
    refine h_reg ?_
    refine h_op (r_move rfl) ?_
    refine h_op (r_not rfl) ?_
    refine h_nil ?_
    refine q_then ?_
    refine h_condT rfl ?_
    refine h_seq ?_
    refine h_reg ?_
    refine h_op (r_move rfl) ?_
    refine h_op (r_assign rfl) ?_
    refine h_op (r_assign rfl) ?_
    refine h_nil ?_
    refine q_then ?_
    refine h_ret ?_
    refine q_thenR ?_
    refine q_blockR ?_
    refine q_thenR ?_
    rw [if_neg Bool.false_ne_true]
    exact h_ret2 rfl rfl rfl fun w s => ⟨(A36, c36), rfl, (same w s).res (List.Sublist.refl _) (by simp [Fa.wr])⟩
  · refine h_seq ?_
    refine h_seq ?_
    refine h_reg ?_
    refine h_op (r_move rfl) ?_
    refine h_op (r_not rfl) ?_
    refine h_nil ?_
    refine q_then ?_
    refine h_condF rfl ?_
    refine h_skip ?_
    refine q_then ?_
    refine h_seq ?_
    rw [if_pos rfl, ← List.append_assoc]
    refine ha_start [.zone false h, .blk g10 [.iface l.tag l.val, .iface r.tag r.val] 232] [] mixed (same) ?_
    refine ha_takeP 0 rfl (r_move rfl) ?_
    refine ha_takeP 1 rfl (r_idxA rfl rfl) ?_
    refine ha_take 2 rfl (r_loadc rfl) ?_
    refine ha_takeP 3 rfl (r_move rfl) ?_
    refine ha_takeP 4 rfl (r_move rfl) ?_
    refine ha_takeP 5 rfl (r_slL rfl rfl) ?_
    refine ha_takeP 6 rfl (r_move rfl) ?_
    refine ha_takeP 7 rfl (r_add rfl rfl) ?_
    refine ha_one 8 ?_
    refine ho_C 8 rfl ((hR A36 c36 (by rw [List.length_append]; omega)).comes) rfl rfl rfl (fun xx => same) fun ⟨A50, c50⟩ => ?_
    refine ha_takeP 9 rfl (r_extract rfl rfl) ?_
    refine ha_takeP 10 rfl (r_extract rfl rfl) ?_
    refine ha_takeP 11 rfl (r_assign rfl) ?_
    refine ha_takeP 12 rfl (r_assign rfl) ?_
    refine ha_done (by kernel_rfl) ?_
    refine q_then ?_
    refine h_ret ?_
    refine q_blockR ?_
    refine q_thenR ?_
    exact h_ret2 rfl rfl rfl fun w s => ⟨(A50, c50), rfl, (same w s).res (List.Sublist.refl _) (by simp [Fa.wr])⟩
theorem ends_s : ∀ t : Sub, EndsS h t
  | .one x => fun ks B cc d _ _ hks _ _ _ out A c ho => ends_one h x ks B cc d hks out A c ho _ rfl
  | .two l r => fun ks B cc d hB hcc hks hord hal hd out A c ho => by
    cases ks with
    | nil =>
      have h1 : endsM (.two l r) [] d = ([], false) := by unfold endsM; rfl
      rw [h1, List.append_nil]
      exact ends_none h l r B cc d out A c
    | cons x ks =>
      obtain ⟨m, m1, m2, m3, m4⟩ := split_at hord hal
      have h1 : endsM (.two l r) (x :: ks) d = (if (endsM l (keysB (x :: ks) d false) (d + 1)).2 then (endsM l (keysB (x :: ks) d false) (d + 1)).1 ++ (endsM r (keysB (x :: ks) d true) (d + 1)).1 else (endsM l (keysB (x :: ks) d false) (d + 1)).1, (endsM l (keysB (x :: ks) d false) (d + 1)).2 && (endsM r (keysB (x :: ks) d true) (d + 1)).2) := by
        conv => lhs; unfold endsM
        cases (endsM l (keysB (x :: ks) d false) (d + 1)).2 <;> simp
      rw [h1]
      exact ends_two h l r (ends_s l) (ends_s r) (x :: ks) B cc d m hB hcc hks (by simp) hord hal hd m1 m2 m3 m4 out A c ho _ _ _ _ rfl rfl
end
/-! Ends -/
section
variable (h : Zh) (l : List Item) (A : Option Addr) (c : Nat) [hr : RdZ h A (its l)] (hc : l.length ≤ c) (hl : l.length ≤ 1000000) (ks : List B32) (B : Option Addr) (cc : Nat) [hB : RdZ h B (dgs ks)]
include hc hl
theorem Ends_s (t : Sub) (hp : parseM l = .ok t) (hcc : ks.length ≤ cc) (hk : ks.length ≤ 100000) (he : keysE ks = 0) (es : List (Item × Nat)) (b : Bool) (hE : endsM t ks 0 = (es, b)) : Spec Tryz.prog 153 [.slice A l.length c, .slice B ks.length cc].toArray [.zone false h] [] (fun u : Option Addr × Nat => .tuple (if b then #[.slice u.1 es.length u.2, .int .i64 0] else #[.slice none 0 0, .int .i64 12])) (fun u => if b then [.own (.slice u.1 es.length u.2) es.length 250 98 (endC es)] else []) := by
  have hP := parse_s h l A c hc hl
  rw [hp] at hP
  obtain ⟨h1, h2, h3⟩ := keysE_ok he
  have hK := mKeys_s ks B cc (by omega)
  rw [he] at hK
  have hht := (parse_flat hp).2.2
  have hA := ends_s h t ks B cc 0 hB hcc hk h3 (fun _ _ _ _ i hi => absurd hi (by omega)) (by omega) [] none 0 (by simp; omega)
  rw [hE] at hA
  simp only [List.nil_append, List.length_nil] at hA
  refine spec_of Tryz.func153 rfl (n := 31) rfl rfl ?_
  intro W
  refine h_seq ?_
  refine h_reg ?_
  refine h_op (r_assign rfl) ?_
  refine h_op (r_assign rfl) ?_
  refine h_nil ?_
  refine q_then ?_
  refine h_seq ?_
  refine h_reg ?_
  refine h_op (r_move rfl) ?_
  refine h_call (hP.comes) rfl rfl rfl fun _ => ?_
  refine h_op (r_move rfl) ?_
  refine h_op (r_extract rfl rfl) ?_
  refine h_op (r_extract rfl rfl) ?_
  refine h_op (r_assign rfl) ?_
  refine h_op (r_assign rfl) ?_
  refine h_nil ?_
  refine q_then ?_
  refine h_seq ?_
  refine h_seq ?_
  refine h_reg ?_
  refine h_op (r_move rfl) ?_
  refine h_op (r_eql rfl rfl) ?_
  refine h_nil ?_
  refine q_then ?_
  refine h_yes rfl (rfl) ?_
  refine h_reg ?_
  refine h_op (r_move rfl) ?_
  refine h_call (hK.comes) rfl rfl rfl fun _ => ?_
  refine h_op (r_assign rfl) ?_
  refine h_nil ?_
  refine q_then ?_
  refine h_seq ?_
  refine h_seq ?_
  refine h_reg ?_
  refine h_op (r_move rfl) ?_
  refine h_op (r_neq rfl rfl) ?_
  refine h_nil ?_
  refine q_then ?_
  refine h_no rfl ((fun h => h rfl)) ?_
  refine h_skip ?_
  refine q_then ?_
  refine h_seq ?_
  refine h_reg ?_
  refine h_op (r_move rfl) ?_
  refine h_op (r_move rfl) ?_
  refine h_nil_own 250 98 (xs := endC []) rfl ?_
  refine h_call (hA.comes) rfl rfl rfl fun ⟨A25, c25⟩ => ?_
  cases b
  · refine h_op (r_move rfl) ?_
    refine h_op (r_extract rfl rfl) ?_
    refine h_op (r_extract rfl rfl) ?_
    refine h_op (r_assign rfl) ?_
    refine h_op (r_assign rfl) ?_
    refine h_nil ?_
    refine q_then ?_
    refine h_seq ?_
    refine h_seq ?_
    refine h_reg ?_
    refine h_op (r_move rfl) ?_
    refine h_op (r_not rfl) ?_
    refine h_nil ?_
    refine q_then ?_
    refine h_condT rfl ?_
    refine h_seq ?_
    refine h_reg ?_
    refine h_op (r_assign rfl) ?_
    refine h_op (r_assign rfl) ?_
    refine h_nil ?_
    refine q_then ?_
    refine h_ret ?_
    refine q_thenR ?_
    exact h_ret2 rfl rfl rfl fun w s => ⟨(none, 0), rfl, s.res (List.nil_sublist _) (by simp)⟩
  · refine h_op (r_move rfl) ?_
    refine h_op (r_extract rfl rfl) ?_
    refine h_op (r_extract rfl rfl) ?_
    refine h_op (r_assign rfl) ?_
    refine h_op (r_assign rfl) ?_
    refine h_nil ?_
    refine q_then ?_
    refine h_seq ?_
    refine h_seq ?_
    refine h_reg ?_
    refine h_op (r_move rfl) ?_
    refine h_op (r_not rfl) ?_
    refine h_nil ?_
    refine q_then ?_
    refine h_condF rfl ?_
    refine h_skip ?_
    refine q_then ?_
    refine h_seq ?_
    refine h_reg ?_
    refine h_op (r_move rfl) ?_
    refine h_op (r_assign rfl) ?_
    refine h_op (r_assign rfl) ?_
    refine h_nil ?_
    refine q_then ?_
    refine h_ret ?_
    exact h_ret2 rfl rfl rfl fun w s => ⟨(A25, c25), rfl, (same (L' := [.own (.slice A25 es.length c25) es.length 250 98 (endC es)]) w s).res (List.Sublist.refl _) (by simp [Fa.wr])⟩
end
end Go.Proofs.YtjhocljhhpkiiaaGreatDoor
/- E22 -/
namespace Go.Proofs.YtjhocljhhpkiiaaGreatDoor
set_option linter.unusedSimpArgs false
set_option linter.unusedVariables false
open Go.RowKit
theorem endC_at {l : List (Item × Nat)} {k : Nat} {x : Item × Nat} (h : l[k]? = some x) : ∀ j v, (End.cells ⟨x.1, (x.2 : Int)⟩)[j]? = some v → (endC l)[k * 98 + j]? = some v := by
  intro j v hv
  have hj : j < 98 := by have := (List.getElem?_eq_some_iff.1 hv).1; rw [End.cells_length] at this; exact this
  obtain ⟨h1, h2⟩ := List.getElem?_eq_some_iff.1 h
  have e : endC l = endC (l.take k) ++ (End.cells ⟨x.1, (x.2 : Int)⟩ ++ endC (l.drop (k + 1))) := by
    conv => lhs; rw [← List.take_append_drop k l, List.drop_eq_getElem_cons h1, h2]
    unfold endC
    rw [List.flatMap_append, List.flatMap_cons]
  rw [e, List.getElem?_append_right (by rw [endC_len, List.length_take]; omega), endC_len, List.length_take, Nat.min_eq_left (by omega), Nat.add_sub_cancel_left, List.getElem?_append_left (by rw [End.cells_length]; exact hj)]
  exact hv
end Go.Proofs.YtjhocljhhpkiiaaGreatDoor
/- E30 -/
namespace Go.Proofs.YtjhocljhhpkiiaaGreatDoor
set_option linter.unusedSimpArgs false
set_option linter.unusedVariables false
open Go.RowKit
/-- a way's end, as a proof -/
def endPr (x : Item × Nat) : Proof := ⟨x.1.kind, (x.2 : Int), x.1.leaf, zB32, ⟨none, 0, 0⟩⟩
instance : Inhabited (Item × Nat) := ⟨(zItem, 0)⟩
def showE (n : Nat) (es : List (Item × Nat)) (l : List CB) (i : Nat) : Int :=
  if supP (endPr (es.getD i (zItem, 0))) (keyOf (l.getD i zCB).kb) (valD n (l.getD i zCB).c.present (l.getD i zCB).vb) (l.getD i zCB).c.present then 0 else 12
/-- the first of the last three steps that fails, or nothing -/
def showR (n : Nat) (root : B32) (l : List CB) (t : Sub) : Option (Nat × Int) :=
  if (endsM t (keysC l) 0).2 then
    match firstF (showE n (endsM t (keysC l) 0).1 l) (endsM t (keysC l) 0).1.length 0 with
    | some r => some r
    | none => if dgS n t = root then none else some (0, 13)
  else some (0, 12)
/-- the first step that fails, with its index and its code, or nothing -/
def mverR (n : Nat) (root : Sl) (rb : List UInt8) (l : List CB) (bb : List UInt8) : Option (Nat × Int) :=
  if root.n = 32 then
    match claimsR l with
    | some r => some r
    | none => match decM bb with
      | .error e => some (0, e)
      | .ok its => match parseM its with
        | .error e => some (0, e)
        | .ok t => showR n (keyOf rb) l t
  else some (0, 4)
/-- what is decoded is well-formed -/
theorem decM_ok {bb : List UInt8} {its : List Item} (h : decM bb = .ok its) : checkM its = 0 := by
  unfold decM at h
  split at h
  · cases h
  · split at h
    · cases h
    · split at h
      · cases h
      · split at h
        · split at h
          · rename_i h2
            injection h with h
            subst h
            exact h2.2
          · cases h
        · cases h
theorem decM_err {bb : List UInt8} {e : Int} (h : decM bb = .error e) : e ≠ 0 := by
  unfold decM at h
  split at h
  · injection h with h; omega
  · split at h
    · injection h with h; omega
    · split at h
      · injection h with h; omega
      · split at h
        · split at h
          · cases h
          · injection h with h; omega
        · injection h with h; omega
theorem checkM_parse {its : List Item} (h : checkM its = 0) : ∃ t, parseM its = .ok t := by
  unfold checkM at h
  split at h
  · exact ⟨_, ‹_›⟩
  · rename_i c hc
    exfalso
    unfold parseM at hc
    split at hc
    · split at hc
      · split at hc
        · cases hc
        · injection hc with hc; omega
      · injection hc with hc; omega
    · injection hc with hc; omega
end Go.Proofs.YtjhocljhhpkiiaaGreatDoor
/- U68 -/
namespace Go.Proofs.YtjhocljhhpkiiaaGreatDoor
set_option linter.unusedSimpArgs false
set_option linter.unusedVariables false
open Go.RowKit
def preS (n : Nat) : Sub → List UInt8
  | .one x => preI x
  | .two l r => preN (dgS n l) (dgS n r)
theorem preS_len (n : Nat) (t : Sub) : (preS n t).length ≤ 65 := by
  cases t with
  | one x => exact preI_len x
  | two l r => show (preN _ _).length ≤ 65; rw [preN_len]; exact Nat.le_refl _
/-- what is read at an index -/
theorem readM_at {d : Nat} {l : List Item} {at_ : Nat} {t : Sub} {r : List Item} (h : readM d (l.drop at_) = some (t, r)) : ∃ x, l[at_]? = some x ∧ ((x.kind ≠ 2 ∧ t = .one x ∧ r = l.drop (at_ + 1)) ∨ (x.kind = 2 ∧ ∃ d' t1 t2 m, d = d' + 1 ∧ t = .two t1 t2 ∧ at_ + 1 ≤ m ∧ m ≤ l.length ∧ readM d' (l.drop (at_ + 1)) = some (t1, l.drop m) ∧ readM d' (l.drop m) = some (t2, r))) := by
  cases hx : l[at_]? with
  | none =>
    rw [List.drop_of_length_le (List.getElem?_eq_none_iff.1 hx)] at h
    cases d <;> cases h
  | some x =>
    refine ⟨x, rfl, ?_⟩
    have hat := (List.getElem?_eq_some_iff.1 hx).1
    rw [drop_get hx] at h
    by_cases hk : x.kind = 2
    · match d, h with
      | 0, h => unfold readM at h; rw [if_pos hk] at h; cases h
      | d + 1, h =>
        unfold readM at h
        rw [if_pos hk] at h
        obtain ⟨p, hp, h⟩ := Option.bind_eq_some_iff.1 h
        obtain ⟨q, hq, h⟩ := Option.bind_eq_some_iff.1 h
        obtain ⟨t1, r1⟩ := p
        obtain ⟨t2, r2⟩ := q
        obtain ⟨m, hm0, hml, rfl⟩ := readM_suffix d _ t1 r1 hp
        rw [List.length_drop] at hml
        simp only [Option.some.injEq, Prod.mk.injEq] at h
        rw [List.drop_drop] at hp hq
        refine .inr ⟨hk, d, t1, t2, at_ + 1 + m, rfl, h.1.symm, by omega, by omega, hp, ?_⟩
        rw [← h.2]
        exact hq
    · have h' : readM d (x :: l.drop (at_ + 1)) = some (.one x, l.drop (at_ + 1)) := by cases d <;> (unfold readM; rw [if_neg hk])
      rw [h'] at h
      simp only [Option.some.injEq, Prod.mk.injEq] at h
      exact .inl ⟨hk, h.1.symm, h.2.symm⟩
section
variable (n : Nat) (hn : n ≤ 256) (l : List Item) (A : Option Addr) (c : Nat) (hl : l.length ≤ 1000000) (hok : l.all kindOk = true)
def RDig (d at_ : Nat) (t : Sub) : Prop := Spec Tryz.prog 95 [.int .i64 (n : Int), .slice A l.length c, .int .i64 (at_ : Int), .int .i64 (256 - (d : Int))].toArray [.rd A (its l)] [] (fun _ : Unit => .agg (dgS n t).cells.toArray) (fun _ => [])
def RPre (d at_ : Nat) (t : Sub) : Prop := Spec Tryz.prog 43 [.int .i64 (n : Int), .slice A l.length c, .int .i64 (at_ : Int), .int .i64 (256 - (d : Int))].toArray [.rd A (its l)] [] (fun u : Nat × Nat => .slice (some ⟨u.1, 0, none⟩) (preS n t).length u.2) (fun u => [.own (.slice (some ⟨u.1, 0, none⟩) (preS n t).length u.2) (preS n t).length 5 1 (bc (preS n t))])
include hl hok
theorem rPre_one (d at_ : Nat) (x : Item) (hx : l[at_]? = some x) (hk2 : x.kind ≠ 2) (hk3 : x.kind ≠ 3) : RPre n l A c d at_ (.one x) := by
  have hat : at_ < l.length := (List.getElem?_eq_some_iff.1 hx).1
  have hki := its_kind hx
  have hlf := its_lf hx
  have hkd : x.kind = 0 ∨ x.kind = 1 := by
    have := List.all_eq_true.1 hok x (List.mem_of_getElem? hx)
    unfold kindOk at this
    simp at this
    omega
  show Spec _ _ _ _ _ (fun u : Nat × Nat => .slice (some ⟨u.1, 0, none⟩) (preI x).length u.2) (fun u => [.own (.slice (some ⟨u.1, 0, none⟩) (preI x).length u.2) (preI x).length 5 1 (bc (preI x))])
  refine spec_of Tryz.func43 rfl (n := 46) rfl rfl ?_
  intro W
  refine h_pure (φ := ∃ b o, A = some ⟨b, o, none⟩) (fun w s => Rd.some (s.ok (.rd A (its l)) (by simp)) (by rw [its_len]; omega)) ?_
  rintro ⟨b, o, rfl⟩
  by_cases h1 : x.kind = 1
  · rw [show preI x = preL x.leaf from if_pos h1]
    refine h_seq ?_
    refine h_reg ?_
    refine h_op (r_assign rfl) ?_
    refine h_nil ?_
    refine q_then ?_
    refine h_seq ?_
    refine h_seq ?_
    refine h_reg ?_
    refine h_op (r_move rfl) ?_
    refine h_op (r_move rfl) ?_
    refine h_op (r_idx rfl rfl) ?_
    refine h_op (r_field rfl) ?_
    refine h_op (r_nth rfl hki) ?_
    refine h_nil ?_
    refine q_then ?_
    refine h_block ?_
    refine h_seq ?_
    refine h_reg ?_
    refine h_op (r_bool (r_eql rfl rfl) (decide_eq_false (by omega))) ?_
    refine h_op (r_assign rfl) ?_
    refine h_nil ?_
    refine q_then ?_
    refine h_condF rfl ?_
    refine h_seq ?_
    refine h_reg ?_
    refine h_op (r_bool (r_eql rfl rfl) (decide_eq_true h1)) ?_
    refine h_op (r_assign rfl) ?_
    refine h_nil ?_
    refine q_then ?_
    refine h_condT rfl ?_
    refine h_seq ?_
    refine h_reg ?_
    refine h_op (r_move rfl) ?_
    refine h_op (r_move rfl) ?_
    refine h_op (r_idx rfl rfl) ?_
    refine h_op (r_field rfl (O' := o + (at_ * 97 + 33)) (by omega)) ?_
    refine h_op (r_nthr rfl (out := x.leaf.cells) (Leaf.cells_length _) hlf) ?_
    refine h_call ((rLeaf_s x.leaf).comes) rfl rfl rfl fun ⟨g25, c25⟩ => ?_
    refine h_op (r_assign rfl) ?_
    refine h_nil ?_
    refine q_then ?_
    refine h_ret ?_
    refine q_blockR ?_
    refine q_thenR ?_
    exact h_ret1 rfl rfl fun w s => ⟨(g25, c25), rfl, (same w s).res (List.Sublist.refl _) (by simp [Fa.wr])⟩
  · rw [show preI x = [3] from if_neg h1, show ([3] : List UInt8).length = 1 from rfl]
    refine h_seq ?_
    refine h_reg ?_
    refine h_op (r_assign rfl) ?_
    refine h_nil ?_
    refine q_then ?_
    refine h_seq ?_
    refine h_seq ?_
    refine h_reg ?_
    refine h_op (r_move rfl) ?_
    refine h_op (r_move rfl) ?_
    refine h_op (r_idx rfl rfl) ?_
    refine h_op (r_field rfl) ?_
    refine h_op (r_nth rfl hki) ?_
    refine h_nil ?_
    refine q_then ?_
    refine h_block ?_
    refine h_seq ?_
    refine h_reg ?_
    refine h_op (r_bool (r_eql rfl rfl) (decide_eq_true (by omega))) ?_
    refine h_op (r_assign rfl) ?_
    refine h_nil ?_
    refine q_then ?_
    refine h_condT rfl ?_
    refine h_seq ?_
    refine h_reg ?_
    refine h_opX (x_bslV (ys := [.int .u8 3]) (bc [3]) rfl rfl (bc_one _)) fun g17 => ?_
    refine h_op (r_assign rfl) ?_
    refine h_nil ?_
    refine q_then ?_
    refine h_ret ?_
    refine q_blockR ?_
    refine q_thenR ?_
    exact h_ret1 rfl rfl fun w s => ⟨(g17, 1), rfl, (same (L' := [.own (.slice (some ⟨g17, 0, none⟩) 1 1) 1 5 1 (bc [3])]) w s).res (List.Sublist.refl _) (by simp [Fa.wr])⟩
omit hok in
theorem rPre_two (d at_ : Nat) (hd : d < 256) (x : Item) (hx : l[at_]? = some x) (hk2 : x.kind = 2) (t1 t2 : Sub) (m : Nat) (h1 : readM d (l.drop (at_ + 1)) = some (t1, l.drop m)) (hm : at_ + 1 ≤ m ∧ m ≤ l.length) (hD1 : RDig n l A c d (at_ + 1) t1) (hD2 : RDig n l A c d m t2) : RPre n l A c (d + 1) at_ (.two t1 t2) := by
  have hat : at_ < l.length := (List.getElem?_eq_some_iff.1 hx).1
  have hki := its_kind hx
  have hSk := Skip_s l A c hl d (by omega) (at_ + 1)
  rw [h1, show skipI l (some (t1, l.drop m)) = (m : Int) by simp only [skipI, List.length_drop]; omega] at hSk
  unfold RDig at hD1 hD2
  show Spec _ _ _ _ _ (fun u : Nat × Nat => .slice (some ⟨u.1, 0, none⟩) (preN (dgS n t1) (dgS n t2)).length u.2) (fun u => [.own (.slice (some ⟨u.1, 0, none⟩) (preN (dgS n t1) (dgS n t2)).length u.2) (preN (dgS n t1) (dgS n t2)).length 5 1 (bc (preN (dgS n t1) (dgS n t2)))])
  refine spec_of Tryz.func43 rfl (n := 46) rfl rfl ?_
  intro W
  refine h_pure (φ := ∃ b o, A = some ⟨b, o, none⟩) (fun w s => Rd.some (s.ok (.rd A (its l)) (by simp)) (by rw [its_len]; omega)) ?_
  rintro ⟨b, o, rfl⟩
  refine h_seq ?_
  refine h_reg ?_
  refine h_op (r_assign rfl) ?_
  refine h_nil ?_
  refine q_then ?_
  refine h_seq ?_
  refine h_seq ?_
  refine h_reg ?_
  refine h_op (r_move rfl) ?_
  refine h_op (r_move rfl) ?_
  refine h_op (r_idx rfl rfl) ?_
  refine h_op (r_field rfl) ?_
  refine h_op (r_nth rfl hki) ?_
  refine h_nil ?_
  refine q_then ?_
  refine h_block ?_
  refine h_seq ?_
  refine h_reg ?_
  refine h_op (r_bool (r_eql rfl rfl) (decide_eq_false (by omega))) ?_
  refine h_op (r_assign rfl) ?_
  refine h_nil ?_
  refine q_then ?_
  refine h_condF rfl ?_
  refine h_seq ?_
  refine h_reg ?_
  refine h_op (r_bool (r_eql rfl rfl) (decide_eq_false (by omega))) ?_
  refine h_op (r_assign rfl) ?_
  refine h_nil ?_
  refine q_then ?_
  refine h_condF rfl ?_
  refine h_skip ?_
  refine q_block ?_
  refine q_then ?_
  refine h_seq ?_
  refine h_reg ?_
  refine h_op (r_move rfl) ?_
  refine h_op (r_move rfl) ?_
  refine h_op (r_int (r_add rfl rfl) (show _ = ((at_ + 1 : Nat) : Int) by omega)) ?_
  refine h_op (r_move rfl) ?_
  refine h_op (r_int (r_add rfl rfl) (show _ = 256 - (d : Int) by omega)) ?_
  refine h_call (hSk.comes) rfl rfl rfl fun _ => ?_
  refine h_op (r_assign rfl) ?_
  refine h_nil ?_
  refine q_then ?_
  refine h_seq ?_
  refine h_reg ?_
  refine h_op (r_move rfl) ?_
  refine h_op (r_move rfl) ?_
  refine h_op (r_move rfl) ?_
  refine h_op (r_int (r_add rfl rfl) (show _ = ((at_ + 1 : Nat) : Int) by omega)) ?_
  refine h_op (r_move rfl) ?_
  refine h_op (r_int (r_add rfl rfl) (show _ = 256 - (d : Int) by omega)) ?_
  refine h_call (hD1.comes) rfl rfl rfl fun _ => ?_
  refine h_op (r_move rfl) ?_
  refine h_op (r_move rfl) ?_
  refine h_op (r_move rfl) ?_
  refine h_op (r_move rfl) ?_
  refine h_op (r_int (r_add rfl rfl) (show _ = 256 - (d : Int) by omega)) ?_
  refine h_call (hD2.comes) rfl rfl rfl fun _ => ?_
  refine h_call ((rNode_s (dgS n t1) (dgS n t2)).comes) rfl rfl rfl fun ⟨g45, c45⟩ => ?_
  refine h_op (r_assign rfl) ?_
  refine h_nil ?_
  refine q_then ?_
  refine h_ret ?_
  exact h_ret1 rfl rfl fun w s => ⟨(g45, c45), rfl, (same w s).res (List.Sublist.refl _) (by simp [Fa.wr])⟩
include hn
omit hok hn in
theorem rDig_3 (d at_ : Nat) (x : Item) (hx : l[at_]? = some x) (hk3 : x.kind = 3) : RDig n l A c d at_ (.one x) := by
  have hat : at_ < l.length := (List.getElem?_eq_some_iff.1 hx).1
  have hki := its_kind hx
  have hdg := its_dg hx
  unfold RDig
  rw [show dgS n (.one x) = x.digest from if_pos hk3]
  refine spec_of Tryz.func95 rfl (n := 27) rfl rfl ?_
  intro W
  refine h_pure (φ := ∃ b o, A = some ⟨b, o, none⟩) (fun w s => Rd.some (s.ok (.rd A (its l)) (by simp)) (by rw [its_len]; omega)) ?_
  rintro ⟨b, o, rfl⟩
  refine h_seq ?_
  refine h_reg ?_
  refine h_opX (x_alloc) fun g8 => ?_
  refine h_nil ?_
  refine q_then ?_
  refine h_seq ?_
  refine h_seq ?_
  refine h_reg ?_
  refine h_op (r_move rfl) ?_
  refine h_op (r_move rfl) ?_
  refine h_op (r_idx rfl rfl) ?_
  refine h_op (r_field rfl) ?_
  refine h_op (r_nth rfl hki) ?_
  refine h_op (r_bool (r_eql rfl rfl) (decide_eq_true hk3)) ?_
  refine h_nil ?_
  refine q_then ?_
  refine h_condT rfl ?_
  refine h_seq ?_
  refine h_reg ?_
  refine h_op (r_move rfl) ?_
  refine h_op (r_move rfl) ?_
  refine h_op (r_idx rfl rfl) ?_
  refine h_op (r_field rfl (O' := o + (at_ * 97 + 1)) (by omega)) ?_
  refine h_op (r_nthr rfl (out := x.digest.cells) (B32.cells_length _) hdg) ?_
  refine h_opS (s_storer rfl rfl) ?_
  refine h_nil ?_
  refine q_then ?_
  refine h_ret ?_
  refine q_thenR ?_
  exact h_ret1 rfl (rv_row rfl) fun w s => ⟨(), rfl, s.res (List.nil_sublist _) (by simp)⟩
omit hok in
theorem rDig_pre (d at_ : Nat) (x : Item) (hx : l[at_]? = some x) (hk3 : x.kind ≠ 3) (t : Sub) (ht : dgS n t = sumB n (preS n t)) (hP : RPre n l A c d at_ t) : RDig n l A c d at_ t := by
  have hat : at_ < l.length := (List.getElem?_eq_some_iff.1 hx).1
  have hki := its_kind hx
  have hpl := preS_len n t
  unfold RPre at hP
  unfold RDig
  rw [ht]
  refine spec_of Tryz.func95 rfl (n := 27) rfl rfl ?_
  intro W
  refine h_pure (φ := ∃ b o, A = some ⟨b, o, none⟩) (fun w s => Rd.some (s.ok (.rd A (its l)) (by simp)) (by rw [its_len]; omega)) ?_
  rintro ⟨b, o, rfl⟩
  refine h_seq ?_
  refine h_reg ?_
  refine h_opX (x_alloc) fun g8 => ?_
  refine h_nil ?_
  refine q_then ?_
  refine h_seq ?_
  refine h_seq ?_
  refine h_reg ?_
  refine h_op (r_move rfl) ?_
  refine h_op (r_move rfl) ?_
  refine h_op (r_idx rfl rfl) ?_
  refine h_op (r_field rfl) ?_
  refine h_op (r_nth rfl hki) ?_
  refine h_op (r_bool (r_eql rfl rfl) (decide_eq_false hk3)) ?_
  refine h_nil ?_
  refine q_then ?_
  refine h_condF rfl ?_
  refine h_skip ?_
  refine q_then ?_
  refine h_seq ?_
  refine h_reg ?_
  refine h_op (r_move rfl) ?_
  refine h_op (r_move rfl) ?_
  refine h_op (r_move rfl) ?_
  refine h_op (r_move rfl) ?_
  refine h_op (r_move rfl) ?_
  refine h_call (hP.comes) rfl rfl rfl fun ⟨g25, c25⟩ => ?_
  refine h_call ((refSum5_s n hn (preS n t) (some ⟨g25, 0, none⟩) c25 (fun h => by cases h) (by omega)).comes) rfl rfl rfl fun _ => ?_
  refine h_opS (s_storer rfl rfl) ?_
  refine h_nil ?_
  refine q_then ?_
  refine h_ret ?_
  exact h_ret1 rfl (rv_row rfl) fun w s => ⟨(), rfl, s.res (List.nil_sublist _) (by simp)⟩
theorem rDig_s : ∀ (t : Sub) (d : Nat), d ≤ 256 → ∀ (at_ : Nat) (r : List Item), readM d (l.drop at_) = some (t, r) → RDig n l A c d at_ t
  | .one x, d, hd, at_, r, h => by
    obtain ⟨y, hy, ⟨hk, e, _⟩ | ⟨_, d', t1, t2, m, _, e, _⟩⟩ := readM_at h
    · injection e with e
      subst e
      by_cases h3 : x.kind = 3
      · exact rDig_3 n l A c hl d at_ x hy h3
      · exact rDig_pre n hn l A c hl d at_ x hy h3 _ (if_neg h3) (rPre_one n l A c hl hok d at_ x hy hk h3)
    · cases e
  | .two t1 t2, d, hd, at_, r, h => by
    obtain ⟨y, hy, ⟨hk, e, _⟩ | ⟨hk, d', t1', t2', m, rfl, e, hm1, hm2, h1, h2⟩⟩ := readM_at h
    · cases e
    · injection e with e1 e2
      subst e1 e2
      have i1 := rDig_s t1 d' (by omega) (at_ + 1) _ h1
      have i2 := rDig_s t2 d' (by omega) m _ h2
      exact rDig_pre n hn l A c hl (d' + 1) at_ y hy (by omega) _ rfl (rPre_two n l A c hl d' at_ (by omega) y hy hk t1 t2 m h1 ⟨hm1, hm2⟩ i1 i2)
end
end Go.Proofs.YtjhocljhhpkiiaaGreatDoor
/- E21 -/
namespace Go.Proofs.YtjhocljhhpkiiaaGreatDoor
set_option linter.unusedSimpArgs false
set_option linter.unusedVariables false
open Go.RowKit
theorem way_pos (k : B32) (t : Sub) (d i : Nat) : 0 < (t.way k d i).length := by cases t <;> exact Nat.succ_pos _
theorem way_depth (k : B32) : ∀ (t : Sub) (d i : Nat), (t.way k d i).length = (t.endI k d).2 - d + 1 ∧ d ≤ (t.endI k d).2 ∧ (t.endI k d).2 ≤ d + t.ht
  | .one _, d, i => ⟨by show 1 = d - d + 1; omega, Nat.le_refl _, Nat.le_refl _⟩
  | .two l r, d, i => by
    have h1 := way_depth k l (d + 1) (i + 1)
    have h2 := way_depth k r (d + 1) (i + 1 + l.sz)
    show (if bitAt k d then r.way k (d + 1) (i + 1 + l.sz) else l.way k (d + 1) (i + 1)).length + 1 = (if bitAt k d then r.endI k (d + 1) else l.endI k (d + 1)).2 - d + 1 ∧ d ≤ (if bitAt k d then r.endI k (d + 1) else l.endI k (d + 1)).2 ∧ (if bitAt k d then r.endI k (d + 1) else l.endI k (d + 1)).2 ≤ d + (max l.ht r.ht + 1)
    cases bitAt k d
    · obtain ⟨a, b, c⟩ := h1
      refine ⟨?_, ?_, ?_⟩ <;> simp only [Bool.false_eq_true, if_false] <;> omega
    · obtain ⟨a, b, c⟩ := h2
      refine ⟨?_, ?_, ?_⟩ <;> simp only [if_true] <;> omega
/-- where a subtree stands in the list -/
structure At (l : List Item) (s : Sub) (d i : Nat) : Prop where
  ok : s.ok
  ht : d + s.ht ≤ 256
  le : i ≤ l.length
  eq : ∃ rest, l.drop i = s.flat ++ rest
theorem At.start {l : List Item} {t : Sub} (h : parseM l = .ok t) : At l t 0 0 := by
  obtain ⟨h1, h2, h3⟩ := parse_flat h
  exact ⟨h2, by omega, Nat.zero_le _, [], by rw [List.drop_zero, List.append_nil]; exact h1⟩
theorem At.read {l : List Item} {s : Sub} {d i : Nat} (h : At l s d i) : ∃ rest, readM (256 - d) (l.drop i) = some (s, rest) ∧ l.length = i + s.sz + rest.length := by
  obtain ⟨rest, e⟩ := h.eq
  refine ⟨rest, ?_, ?_⟩
  · rw [e]; exact read_flat s _ _ h.ok (by have := h.ht; omega)
  · have := congrArg List.length e
    rw [List.length_drop, List.length_append, Sub.flat_len] at this
    have := h.le
    have := s.sz_pos
    omega
theorem At.lt {l : List Item} {s : Sub} {d i : Nat} (h : At l s d i) : i < l.length := by
  obtain ⟨rest, _, e⟩ := h.read
  have := s.sz_pos
  omega
theorem At.skip {l : List Item} {s : Sub} {d i : Nat} (h : At l s d i) : skipI l (readM (256 - d) (l.drop i)) = ((i + s.sz : Nat) : Int) := by
  obtain ⟨rest, e, e2⟩ := h.read
  rw [e]
  show (l.length : Int) - (rest.length : Int) = _
  omega
theorem At.one {l : List Item} {x : Item} {d i : Nat} (h : At l (.one x) d i) : l[i]? = some x := by
  obtain ⟨rest, e⟩ := h.eq
  have := congrArg (·[0]?) e
  simpa [List.getElem?_drop, Sub.flat] using this
theorem At.two {l : List Item} {a b : Sub} {d i : Nat} (h : At l (.two a b) d i) : l[i]? = some innerI ∧ At l a (d + 1) (i + 1) ∧ At l b (d + 1) (i + 1 + a.sz) := by
  obtain ⟨rest, e⟩ := h.eq
  have e' : l.drop i = innerI :: (a.flat ++ (b.flat ++ rest)) := by rw [e]; show innerI :: (a.flat ++ b.flat ++ rest) = _; rw [List.append_assoc]
  have hht : d + (max a.ht b.ht + 1) ≤ 256 := h.ht
  have hlt := h.lt
  have e1 : l.drop (i + 1) = a.flat ++ (b.flat ++ rest) := by
    rw [← List.drop_drop, e']; rfl
  have hl1 : l.length - (i + 1) = a.sz + (b.sz + rest.length) := by
    have := congrArg List.length e1
    rwa [List.length_drop, List.length_append, List.length_append, Sub.flat_len, Sub.flat_len] at this
  refine ⟨?_, ⟨h.ok.1, by omega, by omega, _, e1⟩, ⟨h.ok.2, by omega, by have := b.sz_pos; omega, rest, ?_⟩⟩
  · have := congrArg (·[0]?) e'
    simpa [List.getElem?_drop] using this
  · rw [← List.drop_drop, e1, ← a.flat_len, List.drop_left]
/-- the last one on the way -/
theorem way_last (k : B32) {l : List Item} : ∀ {t : Sub} {d i : Nat}, At l t d i → ∃ w, (t.way k d i)[(t.way k d i).length - 1]? = some w ∧ l[w]? = some (t.endI k d).1 ∧ w < l.length
  | .one x, d, i, h => ⟨i, rfl, h.one, h.lt⟩
  | .two a b, d, i, h => by
    obtain ⟨_, ha, hb⟩ := h.two
    have e : (Sub.two a b).way k d i = i :: if bitAt k d then b.way k (d + 1) (i + 1 + a.sz) else a.way k (d + 1) (i + 1) := rfl
    have e2 : (Sub.two a b).endI k d = if bitAt k d then b.endI k (d + 1) else a.endI k (d + 1) := rfl
    cases hbit : bitAt k d
    · obtain ⟨w, h1, h2, h3⟩ := way_last k ha
      have hp := way_pos k a (d + 1) (i + 1)
      refine ⟨w, ?_, by rw [e2, hbit]; exact h2, h3⟩
      rw [e, hbit, if_neg (by simp), List.length_cons, Nat.add_sub_cancel]
      obtain ⟨m, hm⟩ : ∃ m, (a.way k (d + 1) (i + 1)).length = m + 1 := ⟨_, (Nat.sub_add_cancel hp).symm⟩
      rw [hm] at h1 ⊢
      rw [List.getElem?_cons_succ]
      exact h1
    · obtain ⟨w, h1, h2, h3⟩ := way_last k hb
      have hp := way_pos k b (d + 1) (i + 1 + a.sz)
      refine ⟨w, ?_, by rw [e2, hbit]; exact h2, h3⟩
      rw [e, hbit, if_pos rfl, List.length_cons, Nat.add_sub_cancel]
      obtain ⟨m, hm⟩ : ∃ m, (b.way k (d + 1) (i + 1 + a.sz)).length = m + 1 := ⟨_, (Nat.sub_add_cancel hp).symm⟩
      rw [hm] at h1 ⊢
      rw [List.getElem?_cons_succ]
      exact h1
end Go.Proofs.YtjhocljhhpkiiaaGreatDoor
/- U76 -/
namespace Go.Proofs.YtjhocljhhpkiiaaGreatDoor
set_option linter.unusedSimpArgs false
set_option linter.unusedVariables false
open Go.RowKit
theorem Way_s (l : List Item) (A : Option Addr) (c : Nat) (hl : l.length ≤ 1000000) (t : Sub) (hp : parseM l = .ok t) (key : B32) : Spec Tryz.prog 42 [.slice A l.length c, .agg key.cells.toArray].toArray [.rd A (its l)] [] (fun u : Nat × Nat => .slice (some ⟨u.1, 0, none⟩) (t.way key 0 0).length u.2) (fun u => [.own (.slice (some ⟨u.1, 0, none⟩) (t.way key 0 0).length u.2) (t.way key 0 0).length 3 1 (ic (t.way key 0 0))]) := by
  have hst := At.start hp
  refine spec_of Tryz.func42 rfl (n := 36) rfl rfl ?_
  intro W
  refine h_pure (φ := ∃ b o, A = some ⟨b, o, none⟩) (fun w s => Rd.some (s.ok (.rd A (its l)) (by simp)) (by rw [its_len]; have := hst.lt; omega)) ?_
  rintro ⟨b, o, rfl⟩
  refine h_seq ?_
  refine h_reg ?_
  refine h_opX (x_box rfl) fun g3 => ?_
  refine h_op (r_assign rfl) ?_
  refine h_nil ?_
  refine q_then ?_
  refine h_seq ?_
  refine h_reg ?_
  refine h_op (r_assign rfl) ?_
  refine h_nil ?_
  refine q_then ?_
  refine h_seq ?_
  refine h_reg ?_
  refine h_opX (x_bslI [0] rfl) fun g9 => ?_
  refine h_op (r_assign rfl) ?_
  refine h_nil ?_
  refine q_then ?_
  refine h_seq ?_
  refine h_seq ?_
  refine h_reg ?_
  refine h_op (r_assign rfl) ?_
  refine h_nil ?_
  refine q_then ?_
  refine h_block ?_
  change H _ _ _ _ _ (.own (.slice (some ⟨g9, 0, none⟩) ([] ++ [0] : List Nat).length 1) ([] ++ [0] : List Nat).length _ _ (ic ([] ++ [0])) :: _) _
  refine h_loop (fun (s : Sub × Nat × Nat × List Nat × Nat × Nat) => At l s.1 s.2.1 s.2.2.1 ∧ t.way key 0 0 = s.2.2.2.1 ++ s.1.way key s.2.1 s.2.2.1 ∧ s.2.2.2.1.length = s.2.1) (fun (s : Sub × Nat × Nat × List Nat × Nat × Nat) => [(0, .slice (some ⟨b, o, none⟩) l.length c), (5, .int .i64 (s.2.2.1 : Int)), (6, .slice (some ⟨s.2.2.2.2.1, 0, none⟩) (s.2.2.2.1 ++ [s.2.2.1]).length s.2.2.2.2.2), (7, .int .i64 (s.2.1 : Int)), (3, .pointer (some ⟨g3, 0, none⟩))]) (fun (s : Sub × Nat × Nat × List Nat × Nat × Nat) => [.own (.slice (some ⟨s.2.2.2.2.1, 0, none⟩) (s.2.2.2.1 ++ [s.2.2.1]).length s.2.2.2.2.2) (s.2.2.2.1 ++ [s.2.2.1]).length 3 1 (ic (s.2.2.2.1 ++ [s.2.2.1])), .blk g3 key.cells 35, .rd (some ⟨b, o, none⟩) (its l)]) (fun (s : Sub × Nat × Nat × List Nat × Nat × Nat) => s.1.sz) (t, 0, 0, [], g9, 1) (⟨hst, rfl, rfl⟩) ⟨rfl, rfl, rfl, rfl, rfl, trivial⟩ (same) ?_
  rintro ⟨s, d, i, pre, g, c'⟩ ⟨ha, hw, hpl⟩
  dsimp only at ha hw hpl ⊢
  have hlt := ha.lt
  rcases s with x | ⟨s1, s2⟩
  · have hx := ha.one
    have hk : x.kind ≠ 2 := ha.ok.1
    have hki := its_kind hx
    replace hw : t.way key 0 0 = pre ++ [i] := hw
    rw [← hw]
    refine h_seq ?_
    refine h_seq ?_
    refine h_reg ?_
    refine h_op (r_move rfl) ?_
    refine h_op (r_move rfl) ?_
    refine h_op (r_idx rfl rfl) ?_
    refine h_op (r_field rfl) ?_
    refine h_op (r_nth rfl hki) ?_
    refine h_op (r_bool (r_eql rfl rfl) (decide_eq_false hk)) ?_
    refine h_nil ?_
    refine q_then ?_
    refine h_condF rfl ?_
    refine h_exit ?_
    refine q_thenE ?_
    refine q_thenE ?_
    refine q_blockE ?_
    refine q_then ?_
    refine h_seq ?_
    refine h_reg ?_
    refine h_op (r_move rfl) ?_
    refine h_op (r_assign rfl) ?_
    refine h_nil ?_
    refine q_then ?_
    refine h_ret ?_
    exact h_ret1 rfl rfl fun w s => ⟨(g, c'), rfl, (same w s).res (List.Sublist.refl _) (by simp [Fa.wr])⟩
  · obtain ⟨hx, h1, h2⟩ := ha.two
    have hki := its_kind hx
    have hht : d + (max s1.ht s2.ht + 1) ≤ 256 := ha.ht
    have hSk := Skip_s l (some ⟨b, o, none⟩) c hl (256 - (d + 1)) (by omega) (i + 1)
    rw [h1.skip, show (256 : Int) - ((256 - (d + 1) : Nat) : Int) = ((d + 1 : Nat) : Int) by omega] at hSk
    have hpl2 : (pre ++ [i]).length = d + 1 := by rw [List.length_append, hpl]; rfl
    have hl2 : ∀ j, (pre ++ [i]).length + 1 = (pre ++ [i] ++ [j]).length := fun j => by simp only [List.length_append, List.length_cons, List.length_nil]
    have hs2 := s2.sz_pos
    replace hw : t.way key 0 0 = pre ++ (i :: if bitAt key d then s2.way key (d + 1) (i + 1 + s1.sz) else s1.way key (d + 1) (i + 1)) := hw
    refine h_seq ?_
    refine h_seq ?_
    refine h_reg ?_
    refine h_op (r_move rfl) ?_
    refine h_op (r_move rfl) ?_
    refine h_op (r_idx rfl rfl) ?_
    refine h_op (r_field rfl) ?_
    refine h_op (r_nth rfl hki) ?_
    refine h_op (r_bool (r_eql rfl rfl) (show _ = true from rfl)) ?_
    refine h_nil ?_
    refine q_then ?_
    refine h_condT rfl ?_
    refine h_skip ?_
    refine q_then ?_
    refine h_seq ?_
    refine h_block ?_
    refine h_seq ?_
    refine h_reg ?_
    refine h_op (r_move rfl) ?_
    refine h_op (r_int (r_add rfl rfl) (show _ = ((i + 1 : Nat) : Int) by omega)) ?_
    refine h_op (r_assign rfl) ?_
    refine h_nil ?_
    refine q_then ?_
    refine h_seq ?_
    refine h_seq ?_
    refine h_reg ?_
    refine h_op (r_loadr rfl) ?_
    refine h_op (r_move rfl) ?_
    refine h_call ((refBit_s key d (by omega)).comes) rfl rfl rfl fun _ => ?_
    refine h_op (r_bool (r_eql rfl rfl) (bitN_one key d)) ?_
    refine h_nil ?_
    refine q_then ?_
    refine h_condB rfl (fun hb => ?_) (fun hb => ?_)
    · rw [hb, if_pos rfl] at hw
      refine h_reg ?_
      refine h_op (r_move rfl) ?_
      refine h_op (r_move rfl) ?_
      refine h_op (r_int (r_add rfl rfl) (show _ = ((i + 1 : Nat) : Int) by omega)) ?_
      refine h_op (r_move rfl) ?_
      refine h_op (r_int (r_add rfl rfl) (show _ = ((d + 1 : Nat) : Int) by omega)) ?_
      refine h_call (hSk.comes) rfl rfl rfl fun _ => ?_
      refine h_op (r_assign rfl) ?_
      refine h_nil ?_
      refine q_then ?_
      refine h_seq ?_
      refine h_reg ?_
      refine h_op (r_move rfl) ?_
      refine h_op (r_assign rfl) ?_
      refine h_nil ?_
      refine q_then ?_
      refine h_reg ?_
      refine h_op (r_move rfl) ?_
      refine h_op (r_move rfl) ?_
      refine h_opX (x_bsl rfl rfl) fun g33 => ?_
      refine h_opX (x_app1I rfl rfl) fun ⟨g34, c34⟩ => ?_
      refine h_op (r_assign rfl) ?_
      refine h_nil ?_
      refine q_block ?_
      refine q_then ?_
      refine h_reg ?_
      refine h_op (r_move rfl) ?_
      refine h_op (r_add rfl rfl) ?_
      refine h_op (r_assign rfl) ?_
      refine h_nil ?_
      rw [hl2 (i + 1 + s1.sz)]
      exact h_back (s2, d + 1, i + 1 + s1.sz, pre ++ [i], g34, c34) (⟨h2, by dsimp only; rw [hw]; simp, by dsimp only; rw [hpl2]⟩) ((show s2.sz < s1.sz + s2.sz + 1 by omega)) ⟨rfl, rfl, rfl, aI rfl (by dsimp only; omega), rfl, trivial⟩ (same)
    · rw [hb, if_neg (by simp)] at hw
      refine h_skip ?_
      refine q_then ?_
      refine h_seq ?_
      refine h_reg ?_
      refine h_op (r_move rfl) ?_
      refine h_op (r_assign rfl) ?_
      refine h_nil ?_
      refine q_then ?_
      refine h_reg ?_
      refine h_op (r_move rfl) ?_
      refine h_op (r_move rfl) ?_
      refine h_opX (x_bsl rfl rfl) fun g33 => ?_
      refine h_opX (x_app1I rfl rfl) fun ⟨g34, c34⟩ => ?_
      refine h_op (r_assign rfl) ?_
      refine h_nil ?_
      refine q_block ?_
      refine q_then ?_
      refine h_reg ?_
      refine h_op (r_move rfl) ?_
      refine h_op (r_add rfl rfl) ?_
      refine h_op (r_assign rfl) ?_
      refine h_nil ?_
      rw [hl2 (i + 1)]
      exact h_back (s1, d + 1, i + 1, pre ++ [i], g34, c34) (⟨h1, by dsimp only; rw [hw]; simp, by dsimp only; rw [hpl2]⟩) ((show s1.sz < s1.sz + s2.sz + 1 by omega)) ⟨rfl, rfl, rfl, aI rfl (by dsimp only; omega), rfl, trivial⟩ (same)
end Go.Proofs.YtjhocljhhpkiiaaGreatDoor
/- U77 -/
namespace Go.Proofs.YtjhocljhhpkiiaaGreatDoor
set_option linter.unusedSimpArgs false
set_option linter.unusedVariables false
open Go.RowKit
def bl (l : List Bool) : List Value := l.map Value.bool
theorem bl_len (l : List Bool) : (bl l).length = l.length := by simp [bl]
theorem bl_set (l : List Bool) (i : Nat) (b : Bool) : (bl l).set i (.bool b) = bl (l.set i b) := by unfold bl; rw [List.map_set]
theorem bl_at {l : List Bool} {i : Nat} {b : Bool} (h : l[i]? = some b) : (bl l)[i]? = some (.bool b) := by unfold bl; rw [List.getElem?_map, h]; rfl
/-- the items on the ways of keys, and on the first part of one more way -/
def seenW (N : Nat) (t : Sub) (ks : List B32) (w : List Nat) : List Bool := (List.range N).map fun p => decide ((∃ k ∈ ks, p ∈ t.way k 0 0) ∨ p ∈ w)
theorem seenW_len (N : Nat) (t : Sub) (ks : List B32) (w : List Nat) : (seenW N t ks w).length = N := by simp [seenW]
theorem seenW_get {N : Nat} {t : Sub} {ks : List B32} {w : List Nat} {p : Nat} (h : p < N) : (seenW N t ks w)[p]? = some (decide ((∃ k ∈ ks, p ∈ t.way k 0 0) ∨ p ∈ w)) := by
  unfold seenW
  rw [List.getElem?_map, List.getElem?_range h]
  rfl
theorem seenW_set {N : Nat} {t : Sub} {ks : List B32} {w : List Nat} {p : Nat} (hp : p < N) : (seenW N t ks w).set p true = seenW N t ks (w ++ [p]) := by
  apply List.ext_getElem?
  intro i
  rcases Nat.lt_or_ge i N with h | h
  · rw [seenW_get h, List.getElem?_set, seenW_len]
    by_cases e : p = i
    · subst e
      rw [if_pos rfl, if_pos hp]
      simp
    · rw [if_neg e, seenW_get h]
      have e' : ¬ i = p := fun h => e h.symm
      simp [e']
  · rw [List.getElem?_eq_none (by rw [List.length_set, seenW_len]; exact h), List.getElem?_eq_none (by rw [seenW_len]; exact h)]
theorem seenW_next (N : Nat) (t : Sub) {ks : List B32} {k : Nat} {x : B32} (h : ks[k]? = some x) : seenW N t (ks.take k) (t.way x 0 0) = seenW N t (ks.take (k + 1)) [] := by
  unfold seenW
  refine List.map_congr_left fun p _ => decide_eq_decide.2 ?_
  rw [List.take_add_one, h, Option.toList_some]
  constructor
  · rintro (⟨k', h1, h2⟩ | h1)
    · exact .inl ⟨k', List.mem_append_left _ h1, h2⟩
    · exact .inl ⟨x, List.mem_append_right _ (List.mem_singleton.2 rfl), h1⟩
  · rintro (⟨k', h1, h2⟩ | h1)
    · rcases List.mem_append.1 h1 with h1 | h1
      · exact .inl ⟨k', h1, h2⟩
      · obtain rfl := List.mem_singleton.1 h1
        exact .inr h2
    · cases h1
theorem take_get {l : List Nat} {j w : Nat} (h : l[j]? = some w) : l.take (j + 1) = l.take j ++ [w] := by rw [List.take_add_one, h]; rfl
theorem made_bl (N : Nat) (t : Sub) : (madeCells (Value.bool false).cells (N * 1)).toList = bl (seenW N t [] []) := by
  unfold bl seenW
  apply List.ext_getElem?
  intro i
  rw [Nat.mul_one]
  rcases Nat.lt_or_ge i N with h | h
  · rw [List.getElem?_map, List.getElem?_map, List.getElem?_range h]
    simp [madeCells, h, Value.cells, Nat.mod_one]
  · rw [List.getElem?_eq_none (by simpa [madeCells] using h), List.getElem?_eq_none (by simpa using h)]
theorem Fits_s (l : List Item) (A : Option Addr) (c : Nat) (hl : l.length ≤ 1000000) (t : Sub) (hp : parseM l = .ok t) (ks : List B32) (K : Option Addr) (kc : Nat) (hks : ks.length ≤ 1000000) (b : Bool) (hb : (endsM t ks 0).2 = b) : Spec Tryz.prog 94 [.slice A l.length c, .slice K ks.length kc].toArray [.rd A (its l), .rd K (dgs ks)] [] (fun _ : Unit => .bool b) (fun _ => []) := by
  have hst := At.start hp
  have hfl := (parse_flat hp).1
  have hfi := fits_iff t ks 0 0 hst.ok
  rw [hb] at hfi
  unfold fitsR at hfi
  rw [← hfl] at hfi
  refine spec_of Tryz.func94 rfl (n := 67) rfl rfl ?_
  intro W
  refine h_pure (φ := ∃ b o, A = some ⟨b, o, none⟩) (fun w s => Rd.some (s.ok (.rd A (its l)) (by simp)) (by rw [its_len]; have := hst.lt; omega)) ?_
  rintro ⟨bA, oA, rfl⟩
  refine h_seq ?_
  refine h_reg ?_
  refine h_op (r_assign rfl) ?_
  refine h_nil ?_
  refine q_then ?_
  refine h_seq ?_
  refine h_reg ?_
  refine h_op (r_move rfl) ?_
  refine h_op (r_len rfl) ?_
  refine h_opX (x_make rfl rfl) fun g12 => ?_
  refine h_op (r_assign rfl) ?_
  refine h_nil ?_
  refine q_then ?_
  refine h_seq ?_
  refine h_seq ?_
  refine h_reg ?_
  refine h_op (r_assign rfl) ?_
  refine h_nil ?_
  refine q_then ?_
  refine h_block ?_
  rw [made_bl l.length t]
  change H _ _ _ _ _ (.own _ _ _ _ (bl (seenW l.length t (ks.take 0) [])) :: _) _
  refine h_loop (fun (k : Nat) => k ≤ ks.length ∧ ∀ x ∈ ks.take k, (t.endI x 0).1.kind ≠ 3) (fun (k : Nat) => [(0, .slice (some ⟨bA, oA, none⟩) l.length c), (1, .slice K ks.length kc), (5, .slice (some ⟨g12, 0, none⟩) l.length l.length), (6, .int .i64 (k : Int))]) (fun (k : Nat) => [.own (.slice (some ⟨g12, 0, none⟩) l.length l.length) l.length 4 1 (bl (seenW l.length t (ks.take k) [])), .rd (some ⟨bA, oA, none⟩) (its l), .rd K (dgs ks)]) (fun (k : Nat) => ks.length - k) 0 (⟨Nat.zero_le _, by simp⟩) ⟨rfl, rfl, rfl, rfl, trivial⟩ (same) ?_
  rintro k ⟨hk, hall⟩
  refine h_seq ?_
  refine h_seq ?_
  refine h_reg ?_
  refine h_op (r_move rfl) ?_
  refine h_op (r_move rfl) ?_
  refine h_op (r_len rfl) ?_
  refine h_op (r_lss rfl rfl) ?_
  refine h_nil ?_
  refine q_then ?_
  refine h_cond rfl (fun hlt => ?_) (fun hlt => ?_)
  · have hk2 : k < ks.length := by omega
    have hd := dgs_at (l := ks) (k := k) hk2
    have hx : ks[k]? = some (ks.getD k zB32) := by rw [List.getD_eq_getElem?_getD, List.getElem?_eq_getElem hk2]; rfl
    generalize ks.getD k zB32 = key at *
    obtain ⟨wl, w1, w2, w3⟩ := way_last key hst
    have hwp := way_pos key t 0 0
    have hwd := way_depth key t 0 0
    have hht := hst.ht
    have hki := its_kind w2
    have hg : (t.way key 0 0).getD ((t.way key 0 0).length - 1) 0 = wl := by rw [List.getD_eq_getElem?_getD, w1]; rfl
    refine h_pure (φ := ∃ b o, K = some ⟨b, o, none⟩) (fun w s => Rd.some (s.ok (.rd K (dgs ks)) (by simp)) (by rw [dgs_len]; omega)) ?_
    rintro ⟨bK, oK, rfl⟩
    refine h_skip ?_
    refine q_then ?_
    refine h_seq ?_
    refine h_block ?_
    refine h_seq ?_
    refine h_reg ?_
    refine h_op (r_move rfl) ?_
    refine h_op (r_move rfl) ?_
    refine h_op (r_move rfl) ?_
    refine h_op (r_idx rfl rfl) ?_
    refine h_op (r_nthr rfl (out := key.cells) (B32.cells_length _) hd) ?_
    refine h_call ((Way_s l (some ⟨bA, oA, none⟩) c hl t hp key).comes) rfl rfl rfl fun ⟨g24, c24⟩ => ?_
    refine h_op (r_assign rfl) ?_
    refine h_nil ?_
    refine q_then ?_
    refine h_seq ?_
    refine h_seq ?_
    refine h_reg ?_
    refine h_op (r_move rfl) ?_
    refine h_op (r_move rfl) ?_
    refine h_op (r_move rfl) ?_
    refine h_op (r_len rfl) ?_
    refine h_op (r_subN rfl rfl (m := (t.way key 0 0).length - 1) (hm := by omega)) ?_
    refine h_op (r_idx rfl rfl) ?_
    refine h_op (r_int (r_nth rfl (ic_at (by omega))) (show _ = ((wl : Nat) : Int) by rw [hg])) ?_
    refine h_op (r_idx rfl rfl) ?_
    refine h_op (r_field rfl) ?_
    refine h_op (r_nth rfl hki) ?_
    refine h_op (r_eql rfl rfl) ?_
    refine h_nil ?_
    refine q_then ?_
    refine h_cond rfl (fun h3 => ?_) (fun h3 => ?_)
    · have hbf : b = false := by
        cases hbb : b
        · rfl
        · exact ((hfi.1 hbb).1 key (List.mem_of_getElem? hx) h3).elim
      rw [hbf]
      refine h_seq ?_
      refine h_reg ?_
      refine h_op (r_assign rfl) ?_
      refine h_nil ?_
      refine q_then ?_
      refine h_ret ?_
      refine q_thenR ?_
      refine q_blockR ?_
      refine q_thenR ?_
      refine q_thenR ?_
      refine q_blockR ?_
      refine q_thenR ?_
      exact h_ret1 rfl rfl fun w s => ⟨(), rfl, s.res (List.nil_sublist _) (by simp)⟩
    · refine h_skip ?_
      refine q_then ?_
      refine h_seq ?_
      refine h_reg ?_
      refine h_op (r_assign rfl) ?_
      refine h_nil ?_
      refine q_then ?_
      refine h_block ?_
      change H _ _ _ _ _ (_ :: .own _ _ _ _ (bl (seenW l.length t (ks.take k) ((t.way key 0 0).take 0))) :: _) _
      refine h_loop (fun (j : Nat) => j ≤ (t.way key 0 0).length) (fun (j : Nat) => [(0, .slice (some ⟨bA, oA, none⟩) l.length c), (1, .slice (some ⟨bK, oK, none⟩) ks.length kc), (5, .slice (some ⟨g12, 0, none⟩) l.length l.length), (6, .int .i64 (k : Int)), (7, .slice (some ⟨g24, 0, none⟩) (t.way key 0 0).length c24), (8, .int .i64 (j : Int))]) (fun (j : Nat) => [.own (.slice (some ⟨g12, 0, none⟩) l.length l.length) l.length 4 1 (bl (seenW l.length t (ks.take k) ((t.way key 0 0).take j))), .own (.slice (some ⟨g24, 0, none⟩) (t.way key 0 0).length c24) (t.way key 0 0).length 3 1 (ic (t.way key 0 0)), .rd (some ⟨bA, oA, none⟩) (its l), .rd (some ⟨bK, oK, none⟩) (dgs ks)]) (fun (j : Nat) => (t.way key 0 0).length - j) 0 ((show 0 ≤ _ from Nat.zero_le _)) ⟨rfl, rfl, rfl, rfl, rfl, rfl, trivial⟩ (same) ?_
      rintro j hj
      refine h_seq ?_
      refine h_seq ?_
      refine h_reg ?_
      refine h_op (r_move rfl) ?_
      refine h_op (r_move rfl) ?_
      refine h_op (r_len rfl) ?_
      refine h_op (r_lss rfl rfl) ?_
      refine h_nil ?_
      refine q_then ?_
      refine h_cond rfl (fun hlj => ?_) (fun hlj => ?_)
      · obtain ⟨p, hpj⟩ : ∃ p, (t.way key 0 0)[j]? = some p := ⟨_, List.getElem?_eq_getElem (by omega)⟩
        have hpl : p < l.length := by
          have := way_rng (List.mem_of_getElem? hpj)
          rw [hfl, Sub.flat_len]; omega
        have hgp : (t.way key 0 0).getD j 0 = p := by rw [List.getD_eq_getElem?_getD, hpj]; rfl
        have hset := (bl_set (seenW l.length t (ks.take k) ((t.way key 0 0).take j)) p true).trans (by rw [seenW_set hpl, ← take_get hpj])
        refine h_skip ?_
        refine q_then ?_
        refine h_seq ?_
        refine h_block ?_
        refine h_reg ?_
        refine h_op (r_move rfl) ?_
        refine h_op (r_move rfl) ?_
        refine h_op (r_move rfl) ?_
        refine h_op (r_idx rfl rfl) ?_
        refine h_op (r_int (r_nth rfl (ic_at (by omega))) (show _ = ((p : Nat) : Int) by rw [hgp])) ?_
        refine h_op (r_idx rfl rfl (hm := hpl)) ?_
        refine h_opS (s_setO rfl rfl rfl (by rw [bl_len, seenW_len]; omega) hset) ?_
        refine h_nil ?_
        refine q_block ?_
        refine q_then ?_
        refine h_reg ?_
        refine h_op (r_move rfl) ?_
        refine h_op (r_add rfl rfl) ?_
        refine h_op (r_assign rfl) ?_
        refine h_nil ?_
        exact h_back (j + 1) ((show j + 1 ≤ _ by omega)) ((show (t.way key 0 0).length - (j + 1) < (t.way key 0 0).length - j by omega)) ⟨rfl, rfl, rfl, rfl, rfl, rfl, trivial⟩ (same)
      · obtain rfl : j = (t.way key 0 0).length := by omega
        rw [List.take_length, seenW_next l.length t hx]
        refine h_exit ?_
        refine q_thenE ?_
        refine q_thenE ?_
        refine q_blockE ?_
        refine q_block ?_
        refine q_then ?_
        refine h_reg ?_
        refine h_op (r_move rfl) ?_
        refine h_op (r_add rfl rfl) ?_
        refine h_op (r_assign rfl) ?_
        refine h_nil ?_
        exact h_back (k + 1) (⟨by omega, fun x hxm => by rw [List.take_add_one, hx, Option.toList_some] at hxm; exact (List.mem_append.1 hxm).elim (hall x) (fun h1 => by rw [List.mem_singleton.1 h1]; exact h3)⟩) ((show ks.length - (k + 1) < ks.length - k by omega)) ⟨rfl, rfl, rfl, rfl, trivial⟩ (same)
  · obtain rfl : k = ks.length := by omega
    rw [List.take_length] at hall ⊢
    refine h_exit ?_
    refine q_thenE ?_
    refine q_thenE ?_
    refine q_blockE ?_
    refine q_then ?_
    refine h_seq ?_
    refine h_seq ?_
    refine h_reg ?_
    refine h_op (r_assign rfl) ?_
    refine h_nil ?_
    refine q_then ?_
    refine h_block ?_
    refine h_loop (fun (i : Nat) => i ≤ l.length ∧ ∀ j x, j < i → l[j]? = some x → x.kind = 2 → ∃ k ∈ ks, j ∈ t.way k 0 0) (fun (i : Nat) => [(0, .slice (some ⟨bA, oA, none⟩) l.length c), (5, .slice (some ⟨g12, 0, none⟩) l.length l.length), (9, .int .i64 (i : Int))]) (fun (i : Nat) => [.own (.slice (some ⟨g12, 0, none⟩) l.length l.length) l.length 4 1 (bl (seenW l.length t ks [])), .rd (some ⟨bA, oA, none⟩) (its l)]) (fun (i : Nat) => l.length - i) 0 (⟨Nat.zero_le _, fun j x h => absurd h (by omega)⟩) ⟨rfl, rfl, rfl, trivial⟩ (same) ?_
    rintro i ⟨hi, hin⟩
    refine h_seq ?_
    refine h_seq ?_
    refine h_reg ?_
    refine h_op (r_move rfl) ?_
    refine h_op (r_move rfl) ?_
    refine h_op (r_len rfl) ?_
    refine h_op (r_lss rfl rfl) ?_
    refine h_nil ?_
    refine q_then ?_
    refine h_cond rfl (fun hli => ?_) (fun hli => ?_)
    · obtain ⟨x, hx⟩ : ∃ x, l[i]? = some x := ⟨_, List.getElem?_eq_getElem (by omega)⟩
      have hki := its_kind hx
      have hsg := bl_at (seenW_get (N := l.length) (t := t) (ks := ks) (w := []) (p := i) (by omega))
      by_cases h2 : x.kind = 2
      · by_cases h3 : (∃ k ∈ ks, i ∈ t.way k 0 0) ∨ i ∈ ([] : List Nat)
        · rw [decide_eq_true h3] at hsg
          refine h_skip ?_
          refine q_then ?_
          refine h_seq ?_
          refine h_block ?_
          refine h_seq ?_
          refine h_reg ?_
          refine h_op (r_move rfl) ?_
          refine h_op (r_move rfl) ?_
          refine h_op (r_idx rfl rfl) ?_
          refine h_op (r_field rfl) ?_
          refine h_op (r_nth rfl hki) ?_
          refine h_op (r_bool (r_eql rfl rfl) (decide_eq_true h2)) ?_
          refine h_op (r_move rfl) ?_
          refine h_op (r_move rfl) ?_
          refine h_op (r_move rfl) ?_
          refine h_op (r_idx rfl rfl) ?_
          refine h_op (r_nth rfl hsg) ?_
          refine h_op (r_not rfl) ?_
          refine h_op (r_pick rfl rfl) ?_
          refine h_nil ?_
          refine q_then ?_
          refine h_condF rfl ?_
          refine h_skip ?_
          refine q_block ?_
          refine q_then ?_
          refine h_reg ?_
          refine h_op (r_move rfl) ?_
          refine h_op (r_add rfl rfl) ?_
          refine h_op (r_assign rfl) ?_
          refine h_nil ?_
          exact h_back (i + 1) (⟨by omega, fun j y h4 h5 h6 => (Nat.lt_or_ge j i).elim (fun h7 => hin j y h7 h5 h6) fun h7 => by (obtain rfl : j = i := (by omega)); exact h3.elim id (fun h => (List.not_mem_nil h).elim)⟩) ((show l.length - (i + 1) < l.length - i by omega)) ⟨rfl, rfl, rfl, trivial⟩ (same)
        · rw [decide_eq_false h3] at hsg
          have hbf : b = false := by
            cases hbb : b
            · rfl
            · obtain ⟨k, h4, h5⟩ := (hfi.1 hbb).2 i x hx h2
              rw [Nat.zero_add] at h5
              exact (h3 (.inl ⟨k, h4, h5⟩)).elim
          rw [hbf]
          refine h_skip ?_
          refine q_then ?_
          refine h_seq ?_
          refine h_block ?_
          refine h_seq ?_
          refine h_reg ?_
          refine h_op (r_move rfl) ?_
          refine h_op (r_move rfl) ?_
          refine h_op (r_idx rfl rfl) ?_
          refine h_op (r_field rfl) ?_
          refine h_op (r_nth rfl hki) ?_
          refine h_op (r_bool (r_eql rfl rfl) (decide_eq_true h2)) ?_
          refine h_op (r_move rfl) ?_
          refine h_op (r_move rfl) ?_
          refine h_op (r_move rfl) ?_
          refine h_op (r_idx rfl rfl) ?_
          refine h_op (r_nth rfl hsg) ?_
          refine h_op (r_not rfl) ?_
          refine h_op (r_pick rfl rfl) ?_
          refine h_nil ?_
          refine q_then ?_
          refine h_condT rfl ?_
          refine h_seq ?_
          refine h_reg ?_
          refine h_op (r_assign rfl) ?_
          refine h_nil ?_
          refine q_then ?_
          refine h_ret ?_
          refine q_blockR ?_
          refine q_thenR ?_
          refine q_thenR ?_
          refine q_blockR ?_
          refine q_thenR ?_
          exact h_ret1 rfl rfl fun w s => ⟨(), rfl, s.res (List.nil_sublist _) (by simp)⟩
      · refine h_skip ?_
        refine q_then ?_
        refine h_seq ?_
        refine h_block ?_
        refine h_seq ?_
        refine h_reg ?_
        refine h_op (r_move rfl) ?_
        refine h_op (r_move rfl) ?_
        refine h_op (r_idx rfl rfl) ?_
        refine h_op (r_field rfl) ?_
        refine h_op (r_nth rfl hki) ?_
        refine h_op (r_bool (r_eql rfl rfl) (decide_eq_false h2)) ?_
        refine h_op (r_move rfl) ?_
        refine h_opOff ?_
        refine h_opOff ?_
        refine h_opOff ?_
        refine h_opOff ?_
        refine h_opOff ?_
        refine h_op (r_pick rfl rfl) ?_
        refine h_nil ?_
        refine q_then ?_
        refine h_condF rfl ?_
        refine h_skip ?_
        refine q_block ?_
        refine q_then ?_
        refine h_reg ?_
        refine h_op (r_move rfl) ?_
        refine h_op (r_add rfl rfl) ?_
        refine h_op (r_assign rfl) ?_
        refine h_nil ?_
        exact h_back (i + 1) (⟨by omega, fun j y h4 h5 h6 => (Nat.lt_or_ge j i).elim (fun h7 => hin j y h7 h5 h6) fun h7 => by (obtain rfl : j = i := (by omega)); exact (h2 (by rw [hx] at h5; injection h5 with h5; rw [h5]; exact h6)).elim⟩) ((show l.length - (i + 1) < l.length - i by omega)) ⟨rfl, rfl, rfl, trivial⟩ (same)
    · obtain rfl : i = l.length := by omega
      have hbt : b = true := hfi.2 ⟨hall, fun j x h4 h5 => by rw [Nat.zero_add]; exact hin j x (List.getElem?_eq_some_iff.1 h4).1 h4 h5⟩
      rw [hbt]
      refine h_exit ?_
      refine q_thenE ?_
      refine q_thenE ?_
      refine q_blockE ?_
      refine q_then ?_
      refine h_seq ?_
      refine h_reg ?_
      refine h_op (r_assign rfl) ?_
      refine h_nil ?_
      refine q_then ?_
      refine h_ret ?_
      exact h_ret1 rfl rfl fun w s => ⟨(), rfl, s.res (List.nil_sublist _) (by simp)⟩
end Go.Proofs.YtjhocljhhpkiiaaGreatDoor
/- U126 -/
namespace Go.Proofs.YtjhocljhhpkiiaaGreatDoor
set_option linter.unusedSimpArgs false
set_option linter.unusedVariables false
open Go.RowKit
theorem keysC_mem32 {l : List CB} (h : claimsR l = none) {h' : Zh} (hz : ClsZ h' l) : ∀ i, i < l.length → (l.getD i zCB).kb.length = 32 := fun i hi => by
  have h1 := (claimsR_ok h).2 i hi
  have h2 := (hz.get hi).1.len
  unfold claimE at h1
  split at h1
  · omega
  · cases h1
section
variable (n : Nat) (hn : n ≤ 256) (h : Zh) (l : List CB) (A : Option Addr) (c : Nat) [hr : RdZ h A (cbs l)] (hz : ClsZ h l) (hvl : ∀ x ∈ l, x.vb.length ≤ 100000000)
include hn hz hvl
theorem rLast21_s (root : B32) (hC : claimsR l = none) (its0 : List Item) (I : Option Addr) (ic' : Nat) [hI : RdZ h I (its its0)] (hil : its0.length ≤ 1000000) (t : Sub) (hp : parseM its0 = .ok t) (r : Option (Nat × Int)) (hR : showR n root l t = r) : Spec Tryz.prog 41 [.int .i64 (n : Int), .agg root.cells.toArray, .slice A l.length c, .slice I its0.length ic'].toArray [.zone false h] [] (fun _ : Unit => .tuple #[.int .i64 (scOf r).1, .int .i64 (scOf r).2]) (fun _ => []) := by
  have hok := keysC_mem32 hC hz
  have hke := keysE_ok (claimsR_ok hC).1
  have hkl := keysC_len l
  have hKs := rKeys21_s h l A c (by omega) hz hok
  obtain ⟨b, hb⟩ : ∃ b, (endsM t (keysC l) 0).2 = b := ⟨_, rfl⟩
  have hF := fun K kc => Fits_s its0 I ic' hil t hp (keysC l) K kc (by omega) b hb
  rw [hkl] at hF
  have hst := At.start hp
  unfold showR at hR
  rw [hb] at hR
  cases b
  · obtain rfl : some (0, 12) = r := hR
    refine spec_of Tryz.func41 rfl (n := 87) rfl rfl ?_
    intro W
    refine h_seq ?_
    refine h_reg ?_
    refine h_opX (x_box rfl) fun g5 => ?_
    refine h_op (r_assign rfl) ?_
    refine h_op (r_assign rfl) ?_
    refine h_nil ?_
    refine q_then ?_
    refine h_seq ?_
    refine h_reg ?_
    refine h_op (r_move rfl) ?_
    refine h_call (hKs.comes) rfl rfl rfl fun ⟨A17, c17⟩ => ?_
    dsimp only
    refine h_op (r_assign rfl) ?_
    refine h_nil ?_
    refine q_then ?_
    refine h_seq ?_
    refine h_seq ?_
    refine h_reg ?_
    refine h_op (r_move rfl) ?_
    refine h_op (r_move rfl) ?_
    refine h_call ((hF A17 c17).comes) rfl rfl rfl fun _ => ?_
    refine h_op (r_not rfl) ?_
    refine h_nil ?_
    refine q_then ?_
    refine h_condT rfl ?_
    refine h_seq ?_
    refine h_reg ?_
    refine h_op (r_assign rfl) ?_
    refine h_op (r_assign rfl) ?_
    refine h_nil ?_
    refine q_then ?_
    refine h_ret ?_
    refine q_thenR ?_
    exact h_ret2 rfl rfl rfl fun w s => ⟨(), rfl, s.res (List.nil_sublist _) (by simp)⟩
  · rw [if_pos rfl] at hR
    have hmap := endsM_map t (keysC l) 0 hke.2.2 (fun _ _ _ _ i hi => absurd hi (by omega)) hb
    rw [hmap, List.length_map, hkl] at hR
    have hsh : ∀ i, i < l.length → showE n ((keysC l).map fun k => t.endI k 0) l i = if supP (endPr (t.endI (keyOf (l.getD i zCB).kb) 0)) (keyOf (l.getD i zCB).kb) (valD n (l.getD i zCB).c.present (l.getD i zCB).vb) (l.getD i zCB).c.present then 0 else 12 := fun i hi => by
      unfold showE
      rw [List.getD_eq_getElem?_getD (l := (keysC l).map _), List.getElem?_map, keysC_get hi]
      rfl
    have hpos : l.length ≠ 0 := by have := hke.1; omega
    generalize hes : ((keysC l).map fun k => t.endI k 0) = es at *
    refine spec_of Tryz.func41 rfl (n := 87) rfl rfl ?_
    intro W
    refine h_seq ?_
    refine h_reg ?_
    refine h_opX (x_box rfl) fun g5 => ?_
    refine h_op (r_assign rfl) ?_
    refine h_op (r_assign rfl) ?_
    refine h_nil ?_
    refine q_then ?_
    refine h_seq ?_
    refine h_reg ?_
    refine h_op (r_move rfl) ?_
    refine h_call (hKs.comes) rfl rfl rfl fun ⟨A17, c17⟩ => ?_
    dsimp only
    refine h_op (r_assign rfl) ?_
    refine h_nil ?_
    refine q_then ?_
    refine h_seq ?_
    refine h_seq ?_
    refine h_reg ?_
    refine h_op (r_move rfl) ?_
    refine h_op (r_move rfl) ?_
    refine h_call ((hF A17 c17).comes) rfl rfl rfl fun _ => ?_
    refine h_pure (φ := ∃ g, A17 = some ⟨g, 0, none⟩) (fun w s => s.ownSome (N := l.length) (c := c17) (by omega)) ?_
    rintro ⟨g17, rfl⟩
    obtain ⟨bI, oI, rfl, -⟩ : ∃ b o, I = some ⟨b, o, none⟩ ∧ True := by
      obtain ⟨b, o, e, -⟩ := hI.at_ 0 _ (List.getElem?_eq_getElem (by rw [its_len]; have := hst.lt; omega))
      exact ⟨b, o, e, trivial⟩
    refine h_op (r_not rfl) ?_
    refine h_nil ?_
    refine q_then ?_
    refine h_condF rfl ?_
    refine h_skip ?_
    refine q_then ?_
    refine h_seq ?_
    refine h_seq ?_
    refine h_reg ?_
    refine h_op (r_assign rfl) ?_
    refine h_nil ?_
    refine q_then ?_
    refine h_block ?_
    refine h_loop (fun (i : Nat) => i ≤ l.length ∧ ∀ j, j < i → showE n es l j = 0) (fun (i : Nat) => [(11, .int .i64 (i : Int)), (10, .slice (some ⟨g17, 0, none⟩) l.length c17), (2, .slice A l.length c), (3, .slice (some ⟨bI, oI, none⟩) its0.length ic'), (0, .int .i64 (n : Int)), (5, .pointer (some ⟨g5, 0, none⟩))]) (fun (i : Nat) => [.own (.slice (some ⟨g17, 0, none⟩) l.length c17) l.length 35 32 (dgs (keysC l)), .blk g5 root.cells 42, .zone false h]) (fun (i : Nat) => l.length - i) 0 (⟨Nat.zero_le _, fun j hj => absurd hj (Nat.not_lt_zero _)⟩) ⟨rfl, rfl, rfl, rfl, rfl, rfl, trivial⟩ (same) ?_
    rintro i ⟨hi, hzi⟩
    refine h_seq ?_
    refine h_seq ?_
    refine h_reg ?_
    refine h_op (r_move rfl) ?_
    refine h_op (r_move rfl) ?_
    refine h_op (r_len rfl) ?_
    refine h_op (r_lss rfl rfl) ?_
    refine h_nil ?_
    refine q_then ?_
    refine h_cond rfl (fun hlt => ?_) (fun hlt => ?_)
    · have hi2 : i < l.length := by omega
      have hx := getD_get zCB hi2
      have hz0 : ∀ j, 0 ≤ j → j < i → showE n es l j = 0 := fun j _ hj => hzi j hj
      have hshi := hsh i hi2
      have hvz := (hz.get hi2).2
      have hvb := hvl _ (List.mem_of_getElem? hx)
      have hd := dgs_at (l := keysC l) (k := i) (by rw [hkl]; exact hi2)
      rw [List.getD_eq_getElem?_getD, keysC_get hi2, Option.getD_some] at hd
      obtain ⟨bA, oA, rfl, -⟩ := hr.at_ (i * 3) _ (cbs_at hx 0 _ rfl)
      generalize l.getD i zCB = y at *
      have hvn := hvz.len
      have hVr : RdZ h y.c.value.A (bc y.vb) := hvz.rd
      have hVn := hvz.nil
      have e1 := cbs_at hx 1 _ rfl
      have e2 := cbs_at hx 2 _ rfl
      obtain ⟨⟨ks, ⟨vA, vn, vc⟩, pr⟩, kb, vb⟩ := y
      dsimp only at hvn hVr hVn hvb hd e1 e2 hshi
      subst hvn
      generalize keyOf kb = key at *
      obtain ⟨wl, w1, w2, w3⟩ := way_last key hst
      have hwp := way_pos key t 0 0
      have hwd := way_depth key t 0 0
      have hht := hst.ht
      have hg : (t.way key 0 0).getD ((t.way key 0 0).length - 1) 0 = wl := by rw [List.getD_eq_getElem?_getD, w1]; rfl
      have hWy := Way_s its0 (some ⟨bI, oI, none⟩) ic' hil t hp key
      obtain ⟨s, hs⟩ : ∃ s, supP (endPr (t.endI key 0)) key (valD n pr vb) pr = s := ⟨_, rfl⟩
      rw [hs] at hshi
      have hSu := rSupports_s (endPr (t.endI key 0)) key (valD n pr vb) pr
      rw [hs] at hSu
      have hLf := rLeafOf_s n hn key vb vA vc (fun e => by have := hVn e; omega) hvb
      refine h_skip ?_
      refine q_then ?_
      refine h_seq ?_
      refine h_block ?_
      refine h_seq ?_
      refine h_reg ?_
      refine h_op (r_move rfl) ?_
      refine h_op (r_move rfl) ?_
      refine h_op (r_move rfl) ?_
      refine h_op (r_idx rfl rfl) ?_
      refine h_op (r_nthr rfl (out := key.cells) (B32.cells_length _) hd) ?_
      refine h_call (hWy.comes) rfl rfl rfl fun ⟨g33, c33⟩ => ?_
      dsimp only
      refine h_op (r_assign rfl) ?_
      refine h_nil ?_
      refine q_then ?_
      refine h_seq ?_
      refine h_reg ?_
      refine h_op (r_move rfl) ?_
      refine h_op (r_move rfl) ?_
      refine h_op (r_move rfl) ?_
      refine h_op (r_len rfl) ?_
      refine h_op (r_subN rfl rfl (m := (t.way key 0 0).length - 1) (hm := by omega)) ?_
      refine h_op (r_idx rfl rfl) ?_
      refine h_op (r_int (r_nth rfl (ic_at (by omega))) (show _ = ((wl : Nat) : Int) by rw [hg])) ?_
      refine h_op (r_idx rfl rfl) ?_
      refine h_op (r_nthr rfl (out := (t.endI key 0).1.cells) (Item.cells_length _) (its_at w2)) ?_
      refine h_opX (x_alloc) fun g13 => ?_
      refine h_opS (s_storer rfl rfl) ?_
      refine h_nil ?_
      refine q_then ?_
      refine h_seq ?_
      refine h_reg ?_
      refine h_op (r_field rfl) ?_
      refine h_op (r_loadc rfl) ?_
      refine h_op (r_move rfl) ?_
      refine h_op (r_len rfl) ?_
      refine h_op (r_int (r_sub rfl rfl) (show _ = (((t.endI key 0).2 : Nat) : Int) by omega)) ?_
      refine h_op (r_field rfl) ?_
      refine h_op (r_loadr rfl) ?_
      refine h_op (r_build rfl) ?_
      refine h_opX (x_alloc) fun g14 => ?_
      refine h_opS (s_storer rfl rfl) ?_
      refine h_nil ?_
      refine q_then ?_
      refine h_seq ?_
      refine h_reg ?_
      refine h_opX (x_alloc) fun g15 => ?_
      refine h_nil ?_
      refine q_then ?_
      refine h_seq ?_
      refine h_seq ?_
      refine h_reg ?_
      change H _ _ _ _ _ (_ :: .blk g14 (endPr (t.endI key 0)).cells _ :: _) _
      cases pr
      · refine h_op (r_move rfl) ?_
        refine h_op (r_move rfl) ?_
        refine h_op (r_idx rfl rfl) ?_
        refine h_op (r_field rfl (O' := oA + (i * 3 + 2)) (by omega)) ?_
        refine h_op (r_nth rfl e2) ?_
        refine h_nil ?_
        refine q_then ?_
        refine h_condF rfl ?_
        refine h_skip ?_
        refine q_then ?_
        refine h_seq ?_
        change Spec _ _ ([.agg (endPr (t.endI key 0)).cells.toArray, .agg key.cells.toArray, .agg zB32.cells.toArray, .bool false] : List Value).toArray _ _ _ _ at hSu
        refine ha_start [.blk g15 zB32.cells 42, .blk g14 (endPr (t.endI key 0)).cells 54, .own (.slice (some ⟨g17, 0, none⟩) l.length c17) l.length 35 32 (dgs (keysC l)), .zone false h] [] mixed (same) ?_
        refine ha_take 0 rfl (r_loadr rfl) ?_
        refine ha_takeP 1 rfl (r_move rfl) ?_
        refine ha_takeP 2 rfl (r_move rfl) ?_
        refine ha_takeP 3 rfl (r_idx rfl rfl) ?_
        refine ha_take 4 rfl (r_nthr rfl (out := key.cells) (B32.cells_length _) hd) ?_
        refine ha_take 5 rfl (r_loadr rfl) ?_
        refine ha_takeP 6 rfl (r_move rfl) ?_
        refine ha_takeP 7 rfl (r_move rfl) ?_
        refine ha_takeP 8 rfl (r_idx rfl rfl) ?_
        refine ha_takeP 9 rfl (r_field rfl (O' := oA + (i * 3 + 2)) (by omega)) ?_
        refine ha_take 10 rfl (r_nth rfl e2) ?_
        refine ha_one 11 ?_
        refine ho_C 11 rfl (hSu.comes) rfl rfl rfl (fun xx => same) fun _ => ?_
        refine ha_takeP 12 rfl (r_not rfl) ?_
        refine ha_done (by kernel_rfl) ?_
        refine q_then ?_
        cases s
        · rw [firstF_some (showE n es l) i (by rw [hshi]; decide) l.length 0 (Nat.zero_le _) (by omega) hz0, hshi] at hR
          subst hR
          refine h_condT rfl ?_
          refine h_seq ?_
          refine h_reg ?_
          refine h_op (r_move rfl) ?_
          refine h_op (r_assign rfl) ?_
          refine h_op (r_assign rfl) ?_
          refine h_nil ?_
          refine q_then ?_
          refine h_ret ?_
          refine q_blockR ?_
          refine q_thenR ?_
          refine q_thenR ?_
          refine q_blockR ?_
          refine q_thenR ?_
          exact h_ret2 rfl rfl rfl fun w s => ⟨(), rfl, s.res (List.nil_sublist _) (by simp)⟩
        · refine h_condF rfl ?_
          refine h_skip ?_
          refine q_block ?_
          refine q_then ?_
          refine h_reg ?_
          refine h_op (r_move rfl) ?_
          refine h_op (r_add rfl rfl) ?_
          refine h_op (r_assign rfl) ?_
          refine h_nil ?_
          exact h_back (i + 1) (⟨hi2, fun j hj => (Nat.lt_or_ge j i).elim (hzi j) fun h8 => by (obtain rfl : j = i := by omega); exact hshi⟩) ((show l.length - (i + 1) < l.length - i by omega)) ⟨rfl, rfl, rfl, rfl, rfl, rfl, trivial⟩ (same)
      · refine h_op (r_move rfl) ?_
        refine h_op (r_move rfl) ?_
        refine h_op (r_idx rfl rfl) ?_
        refine h_op (r_field rfl (O' := oA + (i * 3 + 2)) (by omega)) ?_
        refine h_op (r_nth rfl e2) ?_
        refine h_nil ?_
        refine q_then ?_
        refine h_condT rfl ?_
        refine ha_start [.own (.slice (some ⟨g17, 0, none⟩) l.length c17) l.length 35 32 (dgs (keysC l)), .zone false h] [] mixed (same) ?_
        refine ha_takeP 0 rfl (r_move rfl) ?_
        refine ha_takeP 1 rfl (r_move rfl) ?_
        refine ha_takeP 2 rfl (r_move rfl) ?_
        refine ha_takeP 3 rfl (r_idx rfl rfl) ?_
        refine ha_take 4 rfl (r_nthr rfl (out := key.cells) (B32.cells_length _) hd) ?_
        refine ha_takeP 5 rfl (r_move rfl) ?_
        refine ha_takeP 6 rfl (r_move rfl) ?_
        refine ha_takeP 7 rfl (r_idx rfl rfl) ?_
        refine ha_takeP 8 rfl (r_field rfl (O' := oA + (i * 3 + 1)) (by omega)) ?_
        refine ha_take 9 rfl (r_nth rfl e1) ?_
        refine ha_one 10 ?_
        refine ho_C 10 rfl (hLf.comes) rfl rfl rfl (fun xx => same) fun _ => ?_
        refine ha_takeP 11 rfl (r_fldr rfl) ?_
        refine ha_one 12 ?_
        refine ho_SL 12 rfl (s_storer rfl rfl) ?_
        refine q_then ?_
        refine h_seq ?_
        change Spec _ _ ([.agg (endPr (t.endI key 0)).cells.toArray, .agg key.cells.toArray, .agg (leafOf n key vb).value.cells.toArray, .bool true] : List Value).toArray _ _ _ _ at hSu
        refine ha_start [.blk g15 (leafOf n key vb).value.cells 42, .blk g14 (endPr (t.endI key 0)).cells 54, .own (.slice (some ⟨g17, 0, none⟩) l.length c17) l.length 35 32 (dgs (keysC l)), .zone false h] [] mixed (same) ?_
        refine ha_take 0 rfl (r_loadr rfl) ?_
        refine ha_takeP 1 rfl (r_move rfl) ?_
        refine ha_takeP 2 rfl (r_move rfl) ?_
        refine ha_takeP 3 rfl (r_idx rfl rfl) ?_
        refine ha_take 4 rfl (r_nthr rfl (out := key.cells) (B32.cells_length _) hd) ?_
        refine ha_take 5 rfl (r_loadr rfl) ?_
        refine ha_takeP 6 rfl (r_move rfl) ?_
        refine ha_takeP 7 rfl (r_move rfl) ?_
        refine ha_takeP 8 rfl (r_idx rfl rfl) ?_
        refine ha_takeP 9 rfl (r_field rfl (O' := oA + (i * 3 + 2)) (by omega)) ?_
        refine ha_take 10 rfl (r_nth rfl e2) ?_
        refine ha_one 11 ?_
        refine ho_C 11 rfl (hSu.comes) rfl rfl rfl (fun xx => same) fun _ => ?_
        refine ha_takeP 12 rfl (r_not rfl) ?_
        refine ha_done (by kernel_rfl) ?_
        refine q_then ?_
        cases s
        · rw [firstF_some (showE n es l) i (by rw [hshi]; decide) l.length 0 (Nat.zero_le _) (by omega) hz0, hshi] at hR
          subst hR
          refine h_condT rfl ?_
          refine h_seq ?_
          refine h_reg ?_
          refine h_op (r_move rfl) ?_
          refine h_op (r_assign rfl) ?_
          refine h_op (r_assign rfl) ?_
          refine h_nil ?_
          refine q_then ?_
          refine h_ret ?_
          refine q_blockR ?_
          refine q_thenR ?_
          refine q_thenR ?_
          refine q_blockR ?_
          refine q_thenR ?_
          exact h_ret2 rfl rfl rfl fun w s => ⟨(), rfl, s.res (List.nil_sublist _) (by simp)⟩
        · refine h_condF rfl ?_
          refine h_skip ?_
          refine q_block ?_
          refine q_then ?_
          refine h_reg ?_
          refine h_op (r_move rfl) ?_
          refine h_op (r_add rfl rfl) ?_
          refine h_op (r_assign rfl) ?_
          refine h_nil ?_
          exact h_back (i + 1) (⟨hi2, fun j hj => (Nat.lt_or_ge j i).elim (hzi j) fun h8 => by (obtain rfl : j = i := by omega); exact hshi⟩) ((show l.length - (i + 1) < l.length - i by omega)) ⟨rfl, rfl, rfl, rfl, rfl, rfl, trivial⟩ (same)
    · obtain rfl : i = l.length := by omega
      rw [firstF_none (showE n es l) _ _ (fun j _ hj => hzi j (by omega))] at hR
      dsimp only at hR
      have hD := rDig_s n hn its0 (some ⟨bI, oI, none⟩) ic' hil (parse_ok hp).2.1 t 256 (by omega) 0 [] (parse_ok hp).1
      unfold RDig at hD
      by_cases hd : dgS n t = root
      · rw [if_pos hd] at hR
        subst hR
        refine h_exit ?_
        refine q_thenE ?_
        refine q_thenE ?_
        refine q_blockE ?_
        refine q_then ?_
        refine h_seq ?_
        refine h_seq ?_
        refine ha_start [.blk g5 root.cells 42] [] mixed (same) ?_
        refine ha_takeP 0 rfl (r_move rfl) ?_
        refine ha_takeP 1 rfl (r_move rfl) ?_
        refine ha_take 3 rfl (r_loadr rfl) ?_
        refine ha_one 2 ?_
        refine ho_C 2 rfl (hD.comes) rfl rfl rfl (fun xx => same) fun _ => ?_
        refine ha_takeP 4 rfl (r_bool (r_ner rfl rfl) (decide_eq_false (fun h => h hd))) ?_
        refine ha_done (by kernel_rfl) ?_
        refine q_then ?_
        refine h_condF rfl ?_
        refine h_skip ?_
        refine q_then ?_
        refine h_seq ?_
        refine h_reg ?_
        refine h_op (r_assign rfl) ?_
        refine h_op (r_assign rfl) ?_
        refine h_nil ?_
        refine q_then ?_
        refine h_ret ?_
        exact h_ret2 rfl rfl rfl fun w s => ⟨(), rfl, s.res (List.nil_sublist _) (by simp)⟩
      · rw [if_neg hd] at hR
        subst hR
        refine h_exit ?_
        refine q_thenE ?_
        refine q_thenE ?_
        refine q_blockE ?_
        refine q_then ?_
        refine h_seq ?_
        refine h_seq ?_
        refine ha_start [.blk g5 root.cells 42] [] mixed (same) ?_
        refine ha_takeP 0 rfl (r_move rfl) ?_
        refine ha_takeP 1 rfl (r_move rfl) ?_
        refine ha_take 3 rfl (r_loadr rfl) ?_
        refine ha_one 2 ?_
        refine ho_C 2 rfl (hD.comes) rfl rfl rfl (fun xx => same) fun _ => ?_
        refine ha_takeP 4 rfl (r_bool (r_ner rfl rfl) (decide_eq_true hd)) ?_
        refine ha_done (by kernel_rfl) ?_
        refine q_then ?_
        refine h_condT rfl ?_
        refine h_seq ?_
        refine h_reg ?_
        refine h_op (r_assign rfl) ?_
        refine h_op (r_assign rfl) ?_
        refine h_nil ?_
        refine q_then ?_
        refine h_ret ?_
        refine q_thenR ?_
        exact h_ret2 rfl rfl rfl fun w s => ⟨(), rfl, s.res (List.nil_sublist _) (by simp)⟩
end
end Go.Proofs.YtjhocljhhpkiiaaGreatDoor
