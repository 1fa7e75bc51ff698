/- The tree that grows out of a map; put: a key that is put into a tree; put: At, Put, All; Proofs compared, copied, held against a claim; Proofs copied, and held against a claim; A proof's siblings, expanded: the program; fold: the end, Backward; fold.ways: what it yields; fold.Steps, fold.Root; Booleans compared; small laws; Shifts by eight; a slice's first cells as an array; verify: the small steps, supports, leads (joined texts: U41 U42 U43 U44 U45 U17 U18 U19 U20 N12 N13 U90) -/
import Derived.Test.YtgfkbeipckbkiaaGreatDoorK11
set_option linter.all false
/- U41 -/
namespace Go.Proofs.YtgfkbeipckbkiaaGreatDoor
set_option linter.unusedSimpArgs false
set_option linter.unusedVariables false
open Go.RowKit
theorem mkT_cost {m : List En} {d : Nat} (hd : d ≤ 256) (ha : Alike m d) : (mkT m d).cost ≤ m.length * (4 * (257 - d)) := by
  refine parts_ind (p := fun m d => (mkT m d).cost ≤ m.length * (4 * (257 - d))) ?_ ?_ ?_ (256 - d) m d (Nat.le_refl _) hd ha
  · intro d
    rw [mkT_nil]; exact Nat.zero_le _
  · intro e d h
    rw [mkT_one e h]
    show 2 ≤ 1 * (4 * (257 - d))
    omega
  · intro m d _ hm hd i1 i2
    rw [mkT_two hm (by omega)]
    have hl := part_len m d
    have e1 := i01 ((mkT (part m d false) (d + 1)).kind = 0)
    have e2 := i01 ((mkT (part m d true) (d + 1)).kind = 0)
    have e3 : 4 * (257 - d) = 4 * (257 - (d + 1)) + 4 := by omega
    have e4 : m.length * (4 * (257 - d)) = (part m d false).length * (4 * (257 - (d + 1))) + (part m d true).length * (4 * (257 - (d + 1))) + m.length * 4 := by
      rw [e3, Nat.mul_add, ← hl, Nat.add_mul]
    rw [e4]
    show _ + _ + _ + _ + 1 ≤ _
    omega
theorem joinT_mk {m : List En} {d : Nat} (hm : 1 < m.length) (hd : d < 256) : joinT (mkT (part m d false) (d + 1)) (mkT (part m d true) (d + 1)) = mkT m d ∧ ∀ k, k + (mkT (part m d false) (d + 1)).cost + (mkT (part m d true) (d + 1)).cost + joinC (mkT (part m d false) (d + 1)) (mkT (part m d true) (d + 1)) = k + (mkT m d).cost := by
  have hl := part_len m d
  have k1 := mkT_kind (part m d false) (d := d + 1) (by omega)
  have k2 := mkT_kind (part m d true) (d := d + 1) (by omega)
  rw [mkT_two hm (by omega)]
  unfold joinT joinC
  rw [if_neg (by omega), if_neg (by omega), if_neg (by omega), if_neg (by omega)]
  refine ⟨rfl, fun k => ?_⟩
  show _ = k + (_ + _ + _ + _ + 1)
  omega
theorem Grow_any (n : Nat) (hn : n ≤ 256) (gh gc : Nat) {m : List En} {d : Nat} (hd : d ≤ 256) (ha : Alike m d) : m.length ≤ 1000000 → ∀ (h : Zh) (k : Nat) (B : Option Addr) (c : Nat), RdZ h (some ⟨2, 0, none⟩) hashT → ValsZ h m → k + (mkT m d).cost ≤ 10000000000 →
    Spec Tryz.prog 52 [.pointer (some ⟨gh, 0, none⟩), .slice B m.length c, .int .i64 (d : Int)].toArray [HR gh gc n, .rd B (ents m)] [.zone true h, CN gc k] (fun x : {x : Zh × Option Addr // LeZ h x.1 ∧ TrZ n x.1 (mkT m d) x.2} => .pointer x.1.2) (fun x => [.zone true x.1.1, CN gc (k + (mkT m d).cost)]) := by
  refine parts_ind (p := fun m d => m.length ≤ 1000000 → ∀ (h : Zh) (k : Nat) (B : Option Addr) (c : Nat), RdZ h (some ⟨2, 0, none⟩) hashT → ValsZ h m → k + (mkT m d).cost ≤ 10000000000 →
    Spec Tryz.prog 52 [.pointer (some ⟨gh, 0, none⟩), .slice B m.length c, .int .i64 (d : Int)].toArray [HR gh gc n, .rd B (ents m)] [.zone true h, CN gc k] (fun x : {x : Zh × Option Addr // LeZ h x.1 ∧ TrZ n x.1 (mkT m d) x.2} => .pointer x.1.2) (fun x => [.zone true x.1.1, CN gc (k + (mkT m d).cost)])) ?_ ?_ ?_ (256 - d) m d (Nat.le_refl _) hd ha
  · intro d _ h k B c hT _ _
    rw [mkT_nil]
    refine spec_of Tryz.func52 rfl (n := 34) rfl rfl ?_
    intro W
    refine h_seq ?_
    refine h_reg ?_
    refine h_op (r_assign rfl) ?_
    refine h_nil ?_
    refine q_then ?_
    refine h_seq ?_
    refine h_seq ?_
    refine h_reg ?_
    refine h_op (r_move rfl) ?_
    refine h_op (r_len rfl) ?_
    refine h_nil ?_
    refine q_then ?_
    refine h_block ?_
    refine h_seq ?_
    refine h_reg ?_
    refine h_op (r_bool (r_eql rfl rfl) (show _ = true by simp)) ?_
    refine h_op (r_assign rfl) ?_
    refine h_nil ?_
    refine q_then ?_
    refine h_condT rfl ?_
    refine h_seq ?_
    refine h_reg ?_
    refine h_op (r_assign rfl) ?_
    refine h_nil ?_
    refine q_then ?_
    refine h_ret ?_
    refine q_blockR ?_
    refine q_thenR ?_
    exact h_ret1 rfl rfl fun w s => ⟨⟨(h, none), LeZ.refl h, ⟨rfl⟩⟩, rfl, (same (L' := [.zone true h, CN gc k]) w s).res (List.Sublist.refl _) (by simp [Fa.wr])⟩
  · intro e d hd _ h k B c hT hv hk
    rw [mkT_one e hd] at hk ⊢
    obtain ⟨hs, hvl⟩ := hv e (by simp)
    obtain ⟨⟨key, s⟩, b⟩ := e
    dsimp only at hs hvl
    have hk' : k + 2 ≤ 10000000000 := hk
    refine spec_of Tryz.func52 rfl (n := 34) rfl rfl ?_
    intro W
    refine h_seq ?_
    refine h_reg ?_
    refine h_op (r_assign rfl) ?_
    refine h_nil ?_
    refine q_then ?_
    refine h_seq ?_
    refine h_seq ?_
    refine h_reg ?_
    refine h_op (r_move rfl) ?_
    refine h_op (r_len rfl) ?_
    refine h_nil ?_
    refine q_then ?_
    refine h_block ?_
    refine h_seq ?_
    refine h_reg ?_
    refine h_op (r_bool (r_eql rfl rfl) (show _ = false by simp)) ?_
    refine h_op (r_assign rfl) ?_
    refine h_nil ?_
    refine q_then ?_
    refine h_condF rfl ?_
    refine h_seq ?_
    refine h_reg ?_
    refine h_op (r_bool (r_eql rfl rfl) (show _ = true by simp)) ?_
    refine h_op (r_assign rfl) ?_
    refine h_nil ?_
    refine q_then ?_
    refine h_condT rfl ?_
    refine h_pure (φ := ∃ b o, B = some ⟨b, o, none⟩) (fun w s' => Rd.some (s'.ok (.rd B (ents [⟨⟨key, s⟩, b⟩])) (by simp)) (by rw [ents_len]; exact Nat.zero_lt_succ _)) ?_
    rintro ⟨bb, o, rfl⟩
    refine h_seq ?_
    refine h_reg ?_
    refine h_op (r_move rfl) ?_
    refine h_op (r_move rfl) ?_
    refine h_op (r_idx rfl rfl (hm := by simp)) ?_
    refine h_op (r_nthr rfl (out := Entry.cells ⟨key, s⟩) (Entry.cells_length _) (ents_at0 ⟨⟨key, s⟩, b⟩)) ?_
    refine h_call ((NewLeaf_s n hn gh gc k (by omega) h key s b (by omega)).comes) rfl rfl rfl fun ⟨⟨h1, p1⟩, hle, ht⟩ => ?_
    dsimp only at hle ht ⊢
    refine h_op (r_assign rfl) ?_
    refine h_nil ?_
    refine q_then ?_
    refine h_ret ?_
    refine q_blockR ?_
    refine q_thenR ?_
    exact h_ret1 rfl rfl fun w s => ⟨⟨(h1, p1), hle, ht⟩, rfl, (same (L' := [.zone true h1, CN gc (k + 2)]) w s).res (List.Sublist.refl _) (by simp [Fa.wr])⟩
  · intro m d ha hm hd i1 i2 hl h k B c hT hv hk
    have p1 := part_len m d
    obtain ⟨hj, hcost⟩ := joinT_mk hm hd
    have hck := hcost k
    have c1 := mkT_cnt (show d + 1 ≤ 256 by omega) (ha.part false)
    have c2 := mkT_cnt (show d + 1 ≤ 256 by omega) (ha.part true)
    rw [← hck, ← hj]
    rw [← hck] at hk
    refine spec_of Tryz.func52 rfl (n := 34) rfl rfl ?_
    intro W
    refine h_seq ?_
    refine h_reg ?_
    refine h_op (r_assign rfl) ?_
    refine h_nil ?_
    refine q_then ?_
    refine h_seq ?_
    refine h_seq ?_
    refine h_reg ?_
    refine h_op (r_move rfl) ?_
    refine h_op (r_len rfl) ?_
    refine h_nil ?_
    refine q_then ?_
    refine h_block ?_
    refine h_seq ?_
    refine h_reg ?_
    refine h_op (r_eql rfl rfl) ?_
    refine h_op (r_assign rfl) ?_
    refine h_nil ?_
    refine q_then ?_
    refine h_no rfl ((by omega)) ?_
    refine h_seq ?_
    refine h_reg ?_
    refine h_op (r_eql rfl rfl) ?_
    refine h_op (r_assign rfl) ?_
    refine h_nil ?_
    refine q_then ?_
    refine h_no rfl ((by omega)) ?_
    refine h_skip ?_
    refine q_block ?_
    refine q_then ?_
    refine h_seq ?_
    refine h_reg ?_
    refine h_op (r_move rfl) ?_
    refine h_op (r_move rfl) ?_
    refine h_op (r_move rfl) ?_
    refine h_op (r_move rfl) ?_
    refine h_call ((Part_s m B c d false hd (by omega)).comes) rfl rfl rfl fun ⟨A22, c22⟩ => ?_
    refine h_op (r_move rfl) ?_
    refine h_op (r_add rfl rfl) ?_
    refine h_call ((i1 (by omega) h k A22 c22 hT (hv.part d false) (by omega)).comes) rfl rfl rfl fun ⟨⟨h1, q1⟩, hle1, ht1⟩ => ?_
    dsimp only at hle1 ht1 ⊢
    refine h_op (r_move rfl) ?_
    refine h_op (r_move rfl) ?_
    refine h_op (r_move rfl) ?_
    refine h_call ((Part_s m B c d true hd (by omega)).comes) rfl rfl rfl fun ⟨A29, c29⟩ => ?_
    refine h_op (r_move rfl) ?_
    refine h_op (r_add rfl rfl) ?_
    refine h_call ((i2 (by omega) h1 (k + (mkT (part m d false) (d + 1)).cost) A29 c29 (hT.mono hle1) ((hv.part d true).mono hle1) (by omega)).comes) rfl rfl rfl fun ⟨⟨h2, q2⟩, hle2, ht2⟩ => ?_
    dsimp only at hle2 ht2 ⊢
    have hT2 : RdZ h2 (some ⟨2, 0, none⟩) hashT := (hT.mono hle1).mono hle2
    refine h_call ((Join_s n hn gh gc (k + (mkT (part m d false) (d + 1)).cost + (mkT (part m d true) (d + 1)).cost) (by omega) h2 (mkT (part m d false) (d + 1)) (mkT (part m d true) (d + 1)) q1 q2 (by omega)).comes) rfl rfl rfl fun ⟨⟨h3, q3⟩, hle3, ht3⟩ => ?_
    dsimp only at hle3 ht3 ⊢
    refine h_op (r_assign rfl) ?_
    refine h_nil ?_
    refine q_then ?_
    refine h_ret ?_
    exact h_ret1 rfl rfl fun w s => ⟨⟨(h3, q3), (hle1.trans hle2).trans hle3, ht3⟩, rfl, (same w s).res (List.Sublist.refl _) (by simp [Fa.wr])⟩
theorem ValsZ.of {h : Zh} {l : List En} (x : ValsZ h l) : ValsZ h (ofM l) := fun e he => x e (ofM_mem he)
/-- the map of some entries, and its tree -/
theorem Tree_yes (n : Nat) (hn : n ≤ 256) (l : List En) (B : Option Addr) (c : Nat) (hf : fewM l = true) (h : Zh) [hT : RdZ h (some ⟨2, 0, none⟩) hashT] [hB : RdZ h B (ents l)] (hv : ValsZ h l) : Spec Tryz.prog 12 [.int .i64 (n : Int), .slice B l.length c].toArray [] [.zone true h] (fun x : {x : Zh × Option Addr × Option Addr × Nat // LeZ h x.1 ∧ TrZ n x.1 (mkT (ofM l) 0) x.2.1} => .tuple #[.slice x.1.2.2.1 (ofM l).length x.1.2.2.2, .pointer x.1.2.1, .bool true]) (fun x => [.own (.slice x.1.2.2.1 (ofM l).length x.1.2.2.2) (ofM l).length 109 33 (ents (ofM l)), .zone true x.1.1]) := by
  have hl : l.length ≤ 12 := by unfold fewM at hf; rw [Bool.and_eq_true, decide_eq_true_eq] at hf; exact hf.1
  have hlm := ofM_len l
  have hal : Alike (ofM l) 0 := Alike.start (ofM_nodup l)
  have hcost := mkT_cost (show 0 ≤ 256 by omega) hal
  have hcost2 : (mkT (ofM l) 0).cost ≤ 12 * (4 * 257) := Nat.le_trans hcost (Nat.mul_le_mul (by omega) (by omega))
  refine spec_of Tryz.func12 rfl (n := 27) rfl rfl ?_
  intro W
  refine h_seq ?_
  refine h_reg ?_
  refine h_op (r_assign rfl) ?_
  refine h_op (r_assign rfl) ?_
  refine h_op (r_assign rfl) ?_
  refine h_nil ?_
  refine q_then ?_
  refine h_seq ?_
  refine h_seq ?_
  refine h_reg ?_
  refine h_op (r_move rfl) ?_
  refine h_call ((Right_yes n hn).comes) rfl rfl rfl fun _ => ?_
  refine h_op (r_not rfl) ?_
  refine h_op (r_move rfl) ?_
  refine h_op (r_move rfl) ?_
  refine h_call ((Few_s l B c (by omega)).comes) rfl rfl rfl fun _ => ?_
  rw [hf]
  refine h_op (r_not rfl) ?_
  refine h_op (r_pick rfl rfl) ?_
  refine h_nil ?_
  refine q_then ?_
  refine h_condF rfl ?_
  refine h_skip ?_
  refine q_then ?_
  refine h_seq ?_
  refine h_reg ?_
  refine h_op (r_move rfl) ?_
  refine h_call ((Hash_s n hn).comes) rfl rfl rfl fun ⟨gh, gc⟩ => ?_
  dsimp only
  refine h_op (r_assign rfl) ?_
  refine h_nil ?_
  refine q_then ?_
  refine h_seq ?_
  refine h_seq ?_
  refine h_reg ?_
  refine h_op (r_move rfl) ?_
  refine h_op (r_nilR rfl rfl) ?_
  refine h_nil ?_
  refine q_then ?_
  refine h_condF rfl ?_
  refine h_skip ?_
  refine q_then ?_
  refine h_seq ?_
  refine h_reg ?_
  refine h_op (r_move rfl) ?_
  refine h_call ((Of_s l B c (by omega)).comes) rfl rfl rfl fun ⟨A22, c22⟩ => ?_
  dsimp only
  refine h_op (r_assign rfl) ?_
  refine h_nil ?_
  refine q_then ?_
  refine h_seq ?_
  refine h_reg ?_
  refine h_op (r_move rfl) ?_
  refine h_op (r_move rfl) ?_
  refine h_op (r_move rfl) ?_
  refine h_call ((Grow_any n hn gh gc (show 0 ≤ 256 by omega) hal (by omega) h 0 A22 c22 hT hv.of (by omega)).comes) rfl rfl rfl fun ⟨⟨h1, q1⟩, hle1, ht1⟩ => ?_
  dsimp only at hle1 ht1 ⊢
  refine h_op (r_assign rfl) ?_
  refine h_op (r_assign rfl) ?_
  refine h_op (r_assign rfl) ?_
  refine h_nil ?_
  refine q_then ?_
  refine h_ret ?_
  exact h_ret3 rfl rfl rfl rfl fun w s => ⟨⟨(h1, q1, A22, c22), hle1, ht1⟩, rfl, (same (L' := [.own (.slice A22 (ofM l).length c22) (ofM l).length 109 33 (ents (ofM l)), .zone true h1]) w s).res (List.Sublist.refl _) (by simp [Fa.wr])⟩
end Go.Proofs.YtgfkbeipckbkiaaGreatDoor
/- U42 -/
namespace Go.Proofs.YtgfkbeipckbkiaaGreatDoor
set_option linter.unusedSimpArgs false
set_option linter.unusedVariables false
open Go.RowKit
end Go.Proofs.YtgfkbeipckbkiaaGreatDoor
/- U43 -/
namespace Go.Proofs.YtgfkbeipckbkiaaGreatDoor
set_option linter.unusedSimpArgs false
set_option linter.unusedVariables false
open Go.RowKit
theorem leafT_ne (n : Nat) (t : Tr) (h : t.kind ≠ 1) : leafT n t = zLeaf := by cases t <;> first | rfl | exact (h rfl).elim
end Go.Proofs.YtgfkbeipckbkiaaGreatDoor
/- U44 -/
namespace Go.Proofs.YtgfkbeipckbkiaaGreatDoor
set_option linter.unusedSimpArgs false
set_option linter.unusedVariables false
open Go.RowKit
/-- whether two proofs are the same -/
def eqP (p q : Proof) (ss tt : List B32) : Prop := p.kind = q.kind ∧ p.depth = q.depth ∧ p.leaf = q.leaf ∧ p.bitmap = q.bitmap ∧ ss = tt
instance (p q : Proof) (ss tt : List B32) : Decidable (eqP p q ss tt) := inferInstanceAs (Decidable (_ ∧ _))
end Go.Proofs.YtgfkbeipckbkiaaGreatDoor
/- U45 -/
namespace Go.Proofs.YtgfkbeipckbkiaaGreatDoor
set_option linter.unusedSimpArgs false
set_option linter.unusedVariables false
open Go.RowKit
/-- whether a proof's end fits a claim -/
def supP (p : Proof) (key val : B32) (present : Bool) : Bool := if present = true then decide (p.kind = 1 ∧ p.leaf = ⟨key, val⟩) else if p.kind = 1 then decide (p.leaf.key ≠ key ∧ p.depth ≤ (common p.leaf.key key : Int)) else decide (p.kind = 0)
theorem Supports_s (p : Proof) (key val : B32) (present : Bool) : Spec Tryz.prog 129 [.agg p.cells.toArray, .agg key.cells.toArray, .agg val.cells.toArray, .bool present].toArray [] [] (fun _ : Unit => .bool (supP p key val present)) (fun _ => []) := by
  unfold supP
  refine spec_of Tryz.func129 rfl (n := 44) rfl rfl ?_
  intro W
  rcases present with _ | _
  · rw [if_neg (by simp)]
    by_cases h1 : p.kind = 1
    · rw [if_pos h1]
      by_cases h2 : p.leaf.key = key
      · rw [decide_eq_false (show ¬ (p.leaf.key ≠ key ∧ p.depth ≤ (common p.leaf.key key : Int)) from fun e => e.1 h2)]
        refine h_seq ?_
        refine h_reg ?_
        refine h_opX (x_box rfl) fun g4 => ?_
        refine h_opX (x_box rfl) fun g5 => ?_
        refine h_opX (x_box rfl) fun g6 => ?_
        refine h_op (r_assign rfl) ?_
        refine h_nil ?_
        refine q_then ?_
        refine h_seq ?_
        refine h_block ?_
        refine h_seq ?_
        refine h_reg ?_
        refine h_op (r_move rfl) ?_
        refine h_op (r_assign rfl) ?_
        refine h_nil ?_
        refine q_then ?_
        refine h_condF rfl ?_
        refine h_seq ?_
        refine h_reg ?_
        refine h_op (r_field rfl) ?_
        refine h_op (r_loadc rfl) ?_
        refine h_op (r_eql rfl rfl) ?_
        refine h_op (r_assign rfl) ?_
        refine h_nil ?_
        refine q_then ?_
        refine h_yes rfl (h1) ?_
        refine h_seq ?_
        refine ha_start [.blk g4 p.cells 87, .blk g5 key.cells 39] [] mixed (same) ?_
        refine ha_takeP 0 rfl (r_field rfl) ?_
        refine ha_takeP 1 rfl (r_field rfl) ?_
        refine ha_take 2 rfl (r_loadr rfl) ?_
        refine ha_take 3 rfl (r_loadr rfl) ?_
        refine ha_takeP 4 rfl (r_bool (r_ner rfl rfl) (decide_eq_false (fun e => e h2))) ?_
        refine ha_takeP 5 rfl (r_move rfl) ?_
        refine ha_off 6 rfl ?_
        refine ha_off 7 rfl ?_
        refine ha_off 8 rfl ?_
        refine ha_off 9 rfl ?_
        refine ha_off 10 rfl ?_
        refine ha_off 11 rfl ?_
        refine ha_off 12 rfl ?_
        refine ha_off 13 rfl ?_
        refine ha_takeP 14 rfl (r_pick rfl rfl) ?_
        refine ha_takeP 15 rfl (r_assign rfl) ?_
        refine ha_done (by kernel_rfl) ?_
        refine q_then ?_
        refine h_ret ?_
        refine q_blockR ?_
        refine q_thenR ?_
        exact h_ret1 rfl rfl fun w s => ⟨(), rfl, s.res (List.nil_sublist _) (by simp)⟩
      · refine h_seq ?_
        refine h_reg ?_
        refine h_opX (x_box rfl) fun g4 => ?_
        refine h_opX (x_box rfl) fun g5 => ?_
        refine h_opX (x_box rfl) fun g6 => ?_
        refine h_op (r_assign rfl) ?_
        refine h_nil ?_
        refine q_then ?_
        refine h_seq ?_
        refine h_block ?_
        refine h_seq ?_
        refine h_reg ?_
        refine h_op (r_move rfl) ?_
        refine h_op (r_assign rfl) ?_
        refine h_nil ?_
        refine q_then ?_
        refine h_condF rfl ?_
        refine h_seq ?_
        refine h_reg ?_
        refine h_op (r_field rfl) ?_
        refine h_op (r_loadc rfl) ?_
        refine h_op (r_eql rfl rfl) ?_
        refine h_op (r_assign rfl) ?_
        refine h_nil ?_
        refine q_then ?_
        refine h_yes rfl (h1) ?_
        refine h_seq ?_
        refine ha_start [.blk g4 p.cells 87, .blk g5 key.cells 39] [] mixed (same) ?_
        refine ha_takeP 0 rfl (r_field rfl) ?_
        refine ha_takeP 1 rfl (r_field rfl) ?_
        refine ha_take 2 rfl (r_loadr rfl) ?_
        refine ha_take 3 rfl (r_loadr rfl) ?_
        refine ha_takeP 4 rfl (r_bool (r_ner rfl rfl) (decide_eq_true h2)) ?_
        refine ha_takeP 5 rfl (r_move rfl) ?_
        refine ha_takeP 6 rfl (r_field rfl) ?_
        refine ha_takeP 7 rfl (r_field rfl) ?_
        refine ha_take 8 rfl (r_loadr rfl) ?_
        refine ha_take 9 rfl (r_loadr rfl) ?_
        refine ha_takeP 11 rfl (r_field rfl) ?_
        refine ha_take 12 rfl (r_loadc rfl) ?_
        refine ha_one 10 ?_
        refine ho_C 10 rfl ((Common_s p.leaf.key key).comes) rfl rfl rfl (fun xx => same) fun _ => ?_
        refine ha_takeP 13 rfl (r_geq rfl rfl) ?_
        refine ha_takeP 14 rfl (r_pick rfl rfl) ?_
        refine ha_takeP 15 rfl (r_assign rfl) ?_
        refine ha_done (by kernel_rfl) ?_
        refine q_then ?_
        refine h_ret ?_
        refine q_blockR ?_
        refine q_thenR ?_
        exact h_ret1 rfl rfl fun w s => ⟨(), by simp [h2], s.res (List.nil_sublist _) (by simp)⟩
    · rw [if_neg h1]
      refine h_seq ?_
      refine h_reg ?_
      refine h_opX (x_box rfl) fun g4 => ?_
      refine h_opX (x_box rfl) fun g5 => ?_
      refine h_opX (x_box rfl) fun g6 => ?_
      refine h_op (r_assign rfl) ?_
      refine h_nil ?_
      refine q_then ?_
      refine h_seq ?_
      refine h_block ?_
      refine h_seq ?_
      refine h_reg ?_
      refine h_op (r_move rfl) ?_
      refine h_op (r_assign rfl) ?_
      refine h_nil ?_
      refine q_then ?_
      refine h_condF rfl ?_
      refine h_seq ?_
      refine h_reg ?_
      refine h_op (r_field rfl) ?_
      refine h_op (r_loadc rfl) ?_
      refine h_op (r_eql rfl rfl) ?_
      refine h_op (r_assign rfl) ?_
      refine h_nil ?_
      refine q_then ?_
      refine h_no rfl (h1) ?_
      refine h_skip ?_
      refine q_block ?_
      refine q_then ?_
      refine h_seq ?_
      refine h_reg ?_
      refine h_op (r_field rfl) ?_
      refine h_op (r_loadc rfl) ?_
      refine h_op (r_eql rfl rfl) ?_
      refine h_op (r_assign rfl) ?_
      refine h_nil ?_
      refine q_then ?_
      refine h_ret ?_
      exact h_ret1 rfl rfl fun w s => ⟨(), rfl, s.res (List.nil_sublist _) (by simp)⟩
  · rw [if_pos rfl]
    by_cases h1 : p.kind = 1
    · refine h_seq ?_
      refine h_reg ?_
      refine h_opX (x_box rfl) fun g4 => ?_
      refine h_opX (x_box rfl) fun g5 => ?_
      refine h_opX (x_box rfl) fun g6 => ?_
      refine h_op (r_assign rfl) ?_
      refine h_nil ?_
      refine q_then ?_
      refine h_seq ?_
      refine h_block ?_
      refine h_seq ?_
      refine h_reg ?_
      refine h_op (r_move rfl) ?_
      refine h_op (r_assign rfl) ?_
      refine h_nil ?_
      refine q_then ?_
      refine h_condT rfl ?_
      refine h_seq ?_
      refine h_reg ?_
      refine h_op (r_field rfl) ?_
      refine h_op (r_loadc rfl) ?_
      refine h_op (r_bool (r_eql rfl rfl) (decide_eq_true h1)) ?_
      refine h_op (r_move rfl) ?_
      refine h_op (r_field rfl) ?_
      refine h_op (r_loadr rfl) ?_
      refine h_op (r_loadr rfl) ?_
      refine h_op (r_loadr rfl) ?_
      refine h_op (r_build rfl) ?_
      refine h_op (r_eqr rfl rfl) ?_
      refine h_op (r_pick rfl rfl) ?_
      refine h_op (r_assign rfl) ?_
      refine h_nil ?_
      refine q_then ?_
      refine h_ret ?_
      refine q_blockR ?_
      refine q_thenR ?_
      exact h_ret1 rfl rfl fun w s => ⟨(), by simp [h1], s.res (List.nil_sublist _) (by simp)⟩
    · rw [decide_eq_false (show ¬ (p.kind = 1 ∧ p.leaf = ⟨key, val⟩) from fun e => h1 e.1)]
      refine h_seq ?_
      refine h_reg ?_
      refine h_opX (x_box rfl) fun g4 => ?_
      refine h_opX (x_box rfl) fun g5 => ?_
      refine h_opX (x_box rfl) fun g6 => ?_
      refine h_op (r_assign rfl) ?_
      refine h_nil ?_
      refine q_then ?_
      refine h_seq ?_
      refine h_block ?_
      refine h_seq ?_
      refine h_reg ?_
      refine h_op (r_move rfl) ?_
      refine h_op (r_assign rfl) ?_
      refine h_nil ?_
      refine q_then ?_
      refine h_condT rfl ?_
      refine h_seq ?_
      refine h_reg ?_
      refine h_op (r_field rfl) ?_
      refine h_op (r_loadc rfl) ?_
      refine h_op (r_bool (r_eql rfl rfl) (decide_eq_false h1)) ?_
      refine h_op (r_move rfl) ?_
      refine h_opOff ?_
      refine h_opOff ?_
      refine h_opOff ?_
      refine h_opOff ?_
      refine h_opOff ?_
      refine h_opOff ?_
      refine h_op (r_pick rfl rfl) ?_
      refine h_op (r_assign rfl) ?_
      refine h_nil ?_
      refine q_then ?_
      refine h_ret ?_
      refine q_blockR ?_
      refine q_thenR ?_
      exact h_ret1 rfl rfl fun w s => ⟨(), rfl, s.res (List.nil_sublist _) (by simp)⟩
end Go.Proofs.YtgfkbeipckbkiaaGreatDoor
/- U17 -/
namespace Go.Proofs.YtgfkbeipckbkiaaGreatDoor
set_option linter.unusedSimpArgs false
set_option linter.unusedVariables false
open Go.RowKit
theorem ok_depth {p : Proof} (h : checkP p = 0) : 0 ≤ p.depth ∧ p.depth ≤ 256 := by simpa [okJ] using checkP_zero h 1 (by omega)
theorem ok_last {p : Proof} (h : checkP p = 0) : lastI p.bitmap 256 = p.depth - 1 := by simpa [okJ] using checkP_zero h 3 (by omega)
theorem ok_sibs {p : Proof} (h : checkP p = 0) : (depths p.bitmap).length = p.sibs.n := by
  have := checkP_zero h 4 (by omega)
  simp only [okJ, decide_eq_true_eq] at this
  omega
theorem Expand_s (p : Proof) (hc : checkP p = 0) (ss : List B32) (hs : p.sibs.n = ss.length) (n : Nat) (hn : n ≤ 256) (gh gc k : Nat) (hk : k ≤ 1000000000000) (d : Nat) (hd : p.depth = (d : Int)) : Spec Tryz.prog 181 [.pointer (some ⟨gh, 0, none⟩), .agg p.cells.toArray].toArray [.rd (some ⟨gh, 0, none⟩) [.pointer (some ⟨gc, 0, none⟩), .int .i64 (n : Int)], .rd p.sibs.A (dgs ss), .rd (some ⟨2, 0, none⟩) hashT] [.blk gc [.int .i64 (k : Int)] 187] (fun g : Nat => .tuple #[.slice (some ⟨g, 0, none⟩) d d, .int .i64 0]) (fun g => [.own (.slice (some ⟨g, 0, none⟩) d d) d 41 32 (dgs (expL (sumB n preE) p.bitmap ss d)), .blk gc [.int .i64 ((k + 1 : Nat) : Int)] 187]) := by
  have hd2 := ok_depth hc
  have hl := ok_last hc
  have hsb := ok_sibs hc
  have hd256 : d ≤ 256 := by omega
  have hl256 : (depths p.bitmap).length ≤ 256 := dep_len p.bitmap 256
  refine spec_of Tryz.func181 rfl (n := 40) rfl rfl ?_
  intro W
  refine h_seq ?_
  refine h_reg ?_
  refine h_opX (x_box rfl) fun g3 => ?_
  refine h_op (r_assign rfl) ?_
  refine h_op (r_assign rfl) ?_
  refine h_nil ?_
  refine q_then ?_
  refine h_seq ?_
  refine h_seq ?_
  refine h_reg ?_
  refine h_op (r_loadr rfl) ?_
  refine h_call ((Check_s p).comes) rfl rfl rfl fun _ => ?_
  rw [hc]
  refine h_op (r_assign rfl) ?_
  refine h_nil ?_
  refine q_then ?_
  refine h_seq ?_
  refine h_reg ?_
  refine h_op (r_move rfl) ?_
  refine h_op (r_neq rfl rfl) ?_
  refine h_nil ?_
  refine q_then ?_
  refine h_no rfl ((fun h => h rfl)) ?_
  refine h_skip ?_
  refine q_then ?_
  refine h_seq ?_
  refine ha_start [.blk g3 p.cells 87] [] mixed (same) ?_
  refine ha_takeP 0 rfl (r_move rfl) ?_
  refine ha_takeP 3 rfl (r_field rfl) ?_
  refine ha_take 4 rfl (r_int (r_loadc rfl) hd) ?_
  refine ha_one 1 ?_
  refine ho_C 1 rfl ((nilDigest_s n hn gh gc k hk).comes) rfl rfl rfl (fun xx => same) fun _ => ?_
  refine ha_one 2 ?_
  refine ho_X 2 rfl (rk (x_bsl rfl rfl)) (fun _ => same) fun g17 => ?_
  refine ha_one 5 ?_
  refine ho_C 5 rfl ((Repeat_s (sumB n preE) d g17 0 1 hd256).comes) rfl rfl rfl (fun xx => same) fun g20 => ?_
  refine ha_takeP 6 rfl (r_assign rfl) ?_
  refine ha_done (by kernel_rfl) ?_
  refine q_then ?_
  rw [← expJ_0 (sumB n preE) p.bitmap ss d]
  generalize sumB n preE = e at *
  refine h_seq ?_
  refine h_seq ?_
  refine h_reg ?_
  refine h_op (r_field rfl) ?_
  refine h_op (r_loadr rfl) ?_
  refine h_call ((List_s p.bitmap).comes) rfl rfl rfl fun ⟨A23, c23⟩ => ?_
  dsimp only
  refine h_op (r_len rfl) ?_
  refine h_op (r_move rfl) ?_
  refine h_nil ?_
  refine q_then ?_
  refine h_block ?_
  refine h_loop (fun (j : Nat) => j ≤ (depths p.bitmap).length) (fun (j : Nat) => [(25, .int .i64 (j : Int)), (24, .int .i64 ((depths p.bitmap).length : Int)), (23, .slice A23 (depths p.bitmap).length c23), (7, .slice (some ⟨g20, 0, none⟩) d d), (3, .pointer (some ⟨g3, 0, none⟩))]) (fun (j : Nat) => [.own (.slice A23 (depths p.bitmap).length c23) (depths p.bitmap).length 3 1 (ic (depths p.bitmap)), .own (.slice (some ⟨g20, 0, none⟩) d d) d 41 32 (dgs (expJ e p.bitmap ss d j)), .blk gc [.int .i64 ((k + 1 : Nat) : Int)] 187, .blk g3 p.cells 87, .rd p.sibs.A (dgs ss)]) (fun (j : Nat) => (depths p.bitmap).length - j) 0 (Nat.zero_le _) ⟨rfl, rfl, rfl, rfl, rfl, trivial⟩ (same) ?_
  intro j hj
  refine h_seq ?_
  refine h_reg ?_
  refine h_op (r_lss rfl rfl) ?_
  refine h_nil ?_
  refine q_then ?_
  refine h_seq ?_
  refine h_cond rfl (fun h => ?_) (fun h => ?_)
  · have hlt : j < (depths p.bitmap).length := by omega
    obtain ⟨i, hi⟩ : ∃ i, (depths p.bitmap)[j]? = some i := ⟨_, List.getElem?_eq_getElem hlt⟩
    obtain ⟨h1, h2, h3⟩ := dep_pos hi
    have hmx := lastI_max p.bitmap 256 i h1 h2
    have hid : i < d := by omega
    have hgi : (depths p.bitmap).getD j 0 = i := by rw [List.getD, hi]; rfl
    have hset := expJ_set e p.bitmap ss d j hi hd256 hid
    have hdl := expJ_len e p.bitmap ss d j
    have hds := dgs_set (expJ e p.bitmap ss d j) i (ss.getD j zB32) (by omega)
    rw [hset] at hds
    have hjs : j < ss.length := by omega
    refine h_pure (φ := (∃ g, A23 = some ⟨g, 0, none⟩) ∧ ∃ b o, p.sibs.A = some ⟨b, o, none⟩) (fun w s => ⟨s.ownSome (N := (depths p.bitmap).length) (c := c23) (by omega), Rd.some (s.ok (.rd p.sibs.A (dgs ss)) (by simp)) (by rw [dgs_len]; omega)⟩) ?_
    rintro ⟨⟨g23, rfl⟩, b, o, hA⟩
    refine h_skip ?_
    refine q_then ?_
    refine h_seq ?_
    refine h_block ?_
    refine h_seq ?_
    refine h_reg ?_
    refine h_op (r_move rfl) ?_
    refine h_op (r_idx rfl rfl) ?_
    refine h_op (r_nth rfl (ic_at (by omega))) ?_
    refine h_op (r_assign rfl) ?_
    refine h_op (r_assign rfl) ?_
    refine h_nil ?_
    refine q_then ?_
    refine h_reg ?_
    rw [hgi]
    refine h_op (r_move rfl) ?_
    refine h_op (r_move rfl) ?_
    refine h_op (r_field rfl) ?_
    refine h_op (r_loadc rfl) ?_
    rw [hA]
    refine h_op (r_move rfl) ?_
    refine h_op (r_idx rfl rfl) ?_
    refine h_op (r_nthr rfl (out := (ss.getD j zB32).cells) (B32.cells_length _) (dgs_at hjs)) ?_
    refine h_op (r_idx rfl rfl) ?_
    refine h_opS (s_setrO rfl rfl (by rw [dgs_len, hdl]; omega) hds) ?_
    refine h_nil ?_
    refine q_block ?_
    refine q_then ?_
    refine h_reg ?_
    refine h_op (r_add rfl rfl) ?_
    refine h_op (r_move rfl) ?_
    refine h_nil ?_
    exact h_back (j + 1) (by omega) (by omega) ⟨rfl, rfl, rfl, rfl, rfl, trivial⟩ (same)
  · obtain rfl : j = (depths p.bitmap).length := by omega
    rw [expJ_all e p.bitmap ss d _ hd256 (Nat.le_refl _)]
    refine h_exit ?_
    refine q_thenE ?_
    refine q_thenE ?_
    refine q_blockE ?_
    refine q_then ?_
    refine h_seq ?_
    refine h_reg ?_
    refine h_op (r_move rfl) ?_
    refine h_op (r_assign rfl) ?_
    refine h_op (r_assign rfl) ?_
    refine h_nil ?_
    refine q_then ?_
    refine h_ret ?_
    exact h_ret2 rfl rfl rfl fun w s => ⟨g20, rfl, (same w s).res (List.Sublist.refl _) (by simp [Fa.wr])⟩
end Go.Proofs.YtgfkbeipckbkiaaGreatDoor
/- U18 -/
namespace Go.Proofs.YtgfkbeipckbkiaaGreatDoor
set_option linter.unusedSimpArgs false
set_option linter.unusedVariables false
open Go.RowKit
def endP (p : Proof) : List UInt8 := if p.kind = 1 then preL p.leaf else preE
theorem endP_len (p : Proof) : (endP p).length ≤ 65 := by
  unfold endP
  split
  · rw [preL_len]; exact Nat.le_refl _
  · decide
theorem end_s (p : Proof) : Spec Tryz.prog 191 [.agg p.cells.toArray].toArray [] [] (fun u : Nat × Nat => .slice (some ⟨u.1, 0, none⟩) (endP p).length u.2) (fun u => [.own (.slice (some ⟨u.1, 0, none⟩) (endP p).length u.2) (endP p).length 5 1 (bc (endP p))]) := by
  refine spec_of Tryz.func191 rfl (n := 10) rfl rfl ?_
  intro W
  refine h_seq ?_
  refine h_reg ?_
  refine h_opX (x_box rfl) fun g1 => ?_
  refine h_op (r_assign rfl) ?_
  refine h_nil ?_
  refine q_then ?_
  refine h_seq ?_
  refine h_seq ?_
  refine h_reg ?_
  refine h_op (r_field rfl) ?_
  refine h_op (r_loadc rfl) ?_
  refine h_op (r_eql rfl rfl) ?_
  refine h_nil ?_
  refine q_then ?_
  refine h_cond rfl (fun h => ?_) (fun h => ?_)
  · rw [show endP p = preL p.leaf from if_pos h]
    refine h_seq ?_
    refine h_reg ?_
    refine h_op (r_field rfl) ?_
    refine h_op (r_loadr rfl) ?_
    refine h_call ((pLeaf_s p.leaf).comes) rfl rfl rfl fun ⟨g, c⟩ => ?_
    dsimp only
    refine h_op (r_assign rfl) ?_
    refine h_nil ?_
    refine q_then ?_
    refine h_ret ?_
    refine q_thenR ?_
    exact h_ret1 rfl rfl fun w s => ⟨(g, c), rfl, s.res ((List.nil_sublist _).cons_cons _) (by simp [Fa.wr])⟩
  · rw [show endP p = preE from if_neg h]
    refine h_skip ?_
    refine q_then ?_
    refine h_seq ?_
    refine h_reg ?_
    refine h_call (pEmpty_s.comes) rfl rfl rfl fun ⟨g, c⟩ => ?_
    dsimp only
    refine h_op (r_assign rfl) ?_
    refine h_nil ?_
    refine q_then ?_
    refine h_ret ?_
    exact h_ret1 rfl rfl fun w s => ⟨(g, c), rfl, s.res ((List.nil_sublist _).cons_cons _) (by simp [Fa.wr])⟩
theorem Backward_s (A : Option Addr) (N c : Nat) : Spec Tryz.prog 192 [.slice A N c].toArray [] [] (fun g : Nat => .func (.func 195) #[] [.pointer (some ⟨g, 0, none⟩)].toArray) (fun g => [.blk g [.slice A N c] 85]) := by
  refine spec_of Tryz.func192 rfl (n := 4) rfl rfl ?_
  intro W
  refine h_seq ?_
  refine h_reg ?_
  refine h_opX (x_box1 rfl) fun g1 => ?_
  refine h_op (r_assign rfl) ?_
  refine h_nil ?_
  refine q_then ?_
  refine h_seq ?_
  refine h_reg ?_
  refine h_op (r_func rfl rfl) ?_
  refine h_op (r_assign rfl) ?_
  refine h_nil ?_
  refine q_then ?_
  refine h_ret ?_
  exact h_ret1 rfl rfl fun w s => ⟨g1, rfl, s.res (List.Sublist.refl _) (by simp [Fa.wr])⟩
theorem Backward_it (ds : List B32) (b o c g1 : Nat) (hl : ds.length ≤ 1000000) : IterG Tryz.prog 195 [.pointer (some ⟨g1, 0, none⟩)] [.rd (some ⟨g1, 0, none⟩) [.slice (some ⟨b, o, none⟩) ds.length c], .rd (some ⟨b, o, none⟩) (dgs ds)] [] ds.length (fun k (_ : Unit) => [.int .i64 ((ds.length - 1 - k : Nat) : Int), .agg (ds.getD (ds.length - 1 - k) zB32).cells.toArray]) (fun _ _ => []) [] := by
  refine iter_ofG Tryz.func195 rfl (n := 19) rfl rfl ?_
  intro l J Rm m0 W hJw hRm hy h0
  refine h_seq ?_
  refine h_reg ?_
  refine h_op (r_loadc rfl) ?_
  refine h_op (r_len rfl) ?_
  refine h_op (r_sub rfl rfl) ?_
  refine h_op (r_assign rfl) ?_
  refine h_nil ?_
  refine q_then ?_
  refine h_block ?_
  refine h_loop (fun (s : Nat × List Fa) => s.1 ≤ ds.length ∧ J s.1 s.2) (fun (s : Nat × List Fa) => [(3, .int .i64 ((ds.length : Int) - 1 - (s.1 : Int))), (0, .func (.yield l) #[] #[]), (1, .pointer (some ⟨g1, 0, none⟩))]) (fun (s : Nat × List Fa) => .rd (some ⟨g1, 0, none⟩) [.slice (some ⟨b, o, none⟩) ds.length c] :: .rd (some ⟨b, o, none⟩) (dgs ds) :: (s.2 ++ Rm)) (fun (s : Nat × List Fa) => ds.length - s.1) (0, m0) ((show 0 ≤ ds.length ∧ J 0 m0 from ⟨by omega, h0⟩)) ⟨aI rfl (by dsimp only; omega), rfl, rfl, trivial⟩ (fun _ s => s) ?_
  rintro ⟨k, mm⟩ ⟨hk, hJ⟩
  dsimp only at hk hJ ⊢
  refine h_seq ?_
  refine h_seq ?_
  refine h_reg ?_
  refine h_op (r_move rfl) ?_
  refine h_op (r_geq rfl rfl) ?_
  refine h_nil ?_
  refine q_then ?_
  refine h_cond rfl (fun h => ?_) (fun h => ?_)
  · have hk2 : k < ds.length := by omega
    refine h_E (E' := [(3, .int .i64 ((ds.length - 1 - k : Nat) : Int)), (0, .func (.yield l) #[] #[]), (1, .pointer (some ⟨g1, 0, none⟩))]) ⟨aI rfl (by omega), rfl, rfl, trivial⟩ ?_
    refine h_skip ?_
    refine q_then ?_
    refine h_seq ?_
    refine h_block ?_
    refine h_seq ?_
    refine h_reg ?_
    refine h_op (r_move rfl) ?_
    refine h_op (r_move rfl) ?_
    refine h_op (r_loadc rfl) ?_
    refine h_op (r_move rfl) ?_
    refine h_op (r_idx rfl rfl) ?_
    refine h_op (r_nthr rfl (out := (ds.getD (ds.length - 1 - k) zB32).cells) (B32.cells_length _) (dgs_at (by omega))) ?_
    refine h_yield (hy k () mm hk2 hJ) hRm rfl rfl fun m' hJ' => ?_
    refine h_op (r_not rfl) ?_
    refine h_nil ?_
    refine q_then ?_
    refine h_condF rfl ?_
    refine h_skip ?_
    refine q_block ?_
    refine q_then ?_
    refine h_reg ?_
    refine h_op (r_move rfl) ?_
    refine h_op (r_sub rfl rfl) ?_
    refine h_op (r_assign rfl) ?_
    refine h_nil ?_
    exact h_back (k + 1, m') ((show k + 1 ≤ ds.length ∧ J (k + 1) m' from ⟨by omega, hJ'⟩)) ((show ds.length - (k + 1) < ds.length - k by omega)) ⟨aI rfl (by omega), rfl, rfl, trivial⟩ (fun _ s => s)
  · obtain rfl : k = ds.length := by omega
    refine h_exit ?_
    refine q_thenE ?_
    refine q_thenE ?_
    refine q_blockE ?_
    refine h_end ?_
    exact h_ret0 rfl fun w s => ⟨_, mm, rfl, hJ, s.res (((List.sublist_append_left _ _).cons _).cons _) (hJw _ _ hJ)⟩
theorem ways_s (gh : Value) (p : Proof) (A : Option Addr) (N c : Nat) (key : B32) (hg : gh.cells = #[gh]) : Spec Tryz.prog 182 [gh, .agg p.cells.toArray, .slice A N c, .agg key.cells.toArray].toArray [] [] (fun u : Nat × Nat × Nat × Nat => .func (.func 190) #[] [.pointer (some ⟨u.1, 0, none⟩), .pointer (some ⟨u.2.1, 0, none⟩), .pointer (some ⟨u.2.2.1, 0, none⟩), .pointer (some ⟨u.2.2.2, 0, none⟩)].toArray) (fun u => [.blk u.1 p.cells 87, .blk u.2.1 [gh] 27, .blk u.2.2.1 [.slice A N c] 85, .blk u.2.2.2 key.cells 39]) := by
  refine spec_of Tryz.func182 rfl (n := 10) rfl rfl ?_
  intro W
  refine h_seq ?_
  refine h_reg ?_
  refine h_opX (x_box1 rfl hg) fun g4 => ?_
  refine h_opX (x_box rfl) fun g5 => ?_
  refine h_opX (x_box1 rfl) fun g6 => ?_
  refine h_opX (x_box rfl) fun g7 => ?_
  refine h_op (r_assign rfl) ?_
  refine h_nil ?_
  refine q_then ?_
  refine h_seq ?_
  refine h_reg ?_
  refine h_op (r_func rfl rfl) ?_
  refine h_op (r_assign rfl) ?_
  refine h_nil ?_
  refine q_then ?_
  refine h_ret ?_
  exact h_ret1 rfl rfl fun w s => ⟨(g5, g4, g6, g7), rfl, (same w s).res (List.Sublist.refl _) (by simp [Fa.wr])⟩
end Go.Proofs.YtgfkbeipckbkiaaGreatDoor
/- U19 -/
namespace Go.Proofs.YtgfkbeipckbkiaaGreatDoor
set_option linter.unusedSimpArgs false
set_option linter.unusedVariables false
open Go.RowKit
/-- the preimages along the way, from the end on -/
def wayP (n : Nat) (key : B32) (ds : List B32) (pre : List UInt8) : Nat → List UInt8
  | 0 => pre
  | k + 1 => if bitAt key (ds.length - 1 - k) then preN (ds.getD (ds.length - 1 - k) zB32) (sumB n (wayP n key ds pre k)) else preN (sumB n (wayP n key ds pre k)) (ds.getD (ds.length - 1 - k) zB32)
theorem wayP_len (n : Nat) (key : B32) (ds : List B32) (pre : List UInt8) (h : pre.length ≤ 65) : ∀ k, (wayP n key ds pre k).length ≤ 65
  | 0 => h
  | k + 1 => by
    rw [wayP]
    split <;> rw [preN_len] <;> exact Nat.le_refl _
theorem Bit_y (b : B32) (i : Nat) (hi : i < 256) (h : bitAt b i = true) : Spec Tryz.prog 71 [.agg b.cells.toArray, .int .i64 (i : Int)].toArray [] [] (fun _ : Unit => .int .i64 1) (fun _ => []) := by
  have := Bit_s b i hi
  rwa [show bitN b i = 1 by unfold bitN; rw [h]; rfl] at this
theorem Bit_n (b : B32) (i : Nat) (hi : i < 256) (h : ¬ bitAt b i = true) : Spec Tryz.prog 71 [.agg b.cells.toArray, .int .i64 (i : Int)].toArray [] [] (fun _ : Unit => .int .i64 0) (fun _ => []) := by
  have := Bit_s b i hi
  rwa [show bitN b i = 0 by unfold bitN; rw [if_neg h]] at this
instance (a b : B32) : Row (a.cells ++ b.cells) 64 := ⟨by rw [List.length_append, B32.cells_length, B32.cells_length], fun v hv => (List.mem_append.1 hv).elim (B32.cells_one a v) (B32.cells_one b v)⟩
instance (a b c : B32) : SetAt (a.cells ++ b.cells) 0 c.cells (c.cells ++ b.cells) := ⟨by rw [List.take_zero, List.nil_append, Nat.zero_add, B32.cells_length, List.drop_append, List.drop_of_length_le (by rw [B32.cells_length]; exact Nat.le_refl _), B32.cells_length, Nat.sub_self, List.drop_zero, List.nil_append], by simp [B32.cells_length]⟩
instance (a b c : B32) : SetAt (a.cells ++ b.cells) 32 c.cells (a.cells ++ c.cells) := ⟨by rw [List.take_append_of_le_length (by rw [B32.cells_length]; exact Nat.le_refl _), List.take_of_length_le (by rw [B32.cells_length]; exact Nat.le_refl _), List.drop_of_length_le (by simp [B32.cells_length]), List.append_nil], by simp [B32.cells_length]⟩
instance (a b : B32) : RowAt (a.cells ++ b.cells) 0 32 a.cells := ⟨fun j v hv => by rw [Nat.zero_add, List.getElem?_append_left (List.getElem?_eq_some_iff.1 hv).1]; exact hv, B32.cells_length a⟩
instance (a b : B32) : RowAt (a.cells ++ b.cells) 32 32 b.cells := ⟨fun j v hv => by rw [List.getElem?_append_right (by rw [B32.cells_length]; omega), B32.cells_length, Nat.add_sub_cancel_left]; exact hv, B32.cells_length b⟩
instance : TZ Tryz.prog 137 (zB32.cells ++ zB32.cells) := ⟨⟨.agg (zB32.cells ++ zB32.cells).toArray, by kernel_rfl, rfl⟩⟩
instance : TB Tryz.prog 137 (zB32.cells ++ zB32.cells) (plArr 32) := ⟨fun w ps cells h => run_build_array Tryz.underlying137 (z := (zB32.cells ++ zB32.cells).toArray) (n := 64) (by kernel_rfl) (s := 32) (by kernel_rfl) h⟩
/-! tails -/
class TakeTl (m L : List Fa) (M : outParam (List Fa)) : Prop where
  perm : L.Perm (m ++ M)
instance (m R : List Fa) : TakeTl m (m ++ R) R := ⟨List.Perm.refl _⟩
instance (priority := 100) (m : List Fa) (f : Fa) (L M : List Fa) [h : TakeTl m L M] : TakeTl m (f :: L) (f :: M) := ⟨(h.perm.cons f).trans List.perm_middle.symm⟩
instance (priority := 5) (m L M : List Fa) [h : TakeTl m L M] : Take m L M := ⟨h.perm⟩
class RmOk (Rm : List Fa) : Prop where
  ok : ∀ r ∈ Rm, r.wr = false
instance (Rm : List Fa) [h : RmOk Rm] : Rds Rm Rm := ⟨fun hw r hr => ⟨h.ok r hr, hw.ok r hr, fun k hk => ⟨r, hr, hk⟩⟩⟩
instance (priority := 5) (Rm : List Fa) (f : Fa) (L : List Fa) [RmOk Rm] [h : Rds L Rm] : Rds (f :: L) Rm := ⟨fun hw r hr => by
  obtain ⟨h1, h2, h3⟩ := h.ok hw.tail r hr
  exact ⟨h1, h2, fun k hk => let ⟨g, hg, hgk⟩ := h3 k hk; ⟨g, List.mem_cons_of_mem _ hg, hgk⟩⟩⟩
theorem Sx.mid {A : List Fa} {W w : World} {pre m l R : List Fa} (s : Sx A W w (pre ++ (m ++ (l ++ R)))) : Sx A W w (pre ++ (l ++ (m ++ R))) := s.perm (List.Perm.append_left _ (by
  rw [← List.append_assoc, ← List.append_assoc]
  exact List.Perm.append_right _ List.perm_append_comm))
/-- what the walk has at round k -/
def wayF (n : Nat) (key : B32) (ds : List B32) (pre : List UInt8) (gc k0 g6 g7 k : Nat) (m : List Fa) (u : Nat × Nat) : List Fa :=
  .blk g6 [.slice (some ⟨u.1, 0, none⟩) (wayP n key ds pre k).length u.2] 66 :: .blk g7 (sumB n (wayP n key ds pre k)).cells 41 :: .own (.slice (some ⟨u.1, 0, none⟩) (wayP n key ds pre k).length u.2) (wayP n key ds pre k).length 5 1 (bc (wayP n key ds pre k)) :: .blk gc [.int .i64 ((k0 + k + 1 : Nat) : Int)] 187 :: m
theorem wayF_wr {n : Nat} {key : B32} {ds : List B32} {pre : List UInt8} {gc k0 g6 g7 k : Nat} {m : List Fa} {u : Nat × Nat} (h : ∀ f ∈ m, f.wr = true) : ∀ f ∈ wayF n key ds pre gc k0 g6 g7 k m u, f.wr = true := by
  intro f hf
  unfold wayF at hf
  simp only [List.mem_cons] at hf
  rcases hf with rfl | rfl | rfl | rfl | hf
  · rfl
  · rfl
  · rfl
  · rfl
  · exact h f hf
theorem ways_it (p : Proof) (n : Nat) (hn : n ≤ 256) (key : B32) (ds : List B32) (hds : ds.length ≤ 256) (gh gc k0 b o c a1 a2 a3 a4 : Nat) (hk0 : k0 ≤ 900000000000) : IterG Tryz.prog 190 [.pointer (some ⟨a1, 0, none⟩), .pointer (some ⟨a2, 0, none⟩), .pointer (some ⟨a3, 0, none⟩), .pointer (some ⟨a4, 0, none⟩)] [.rd (some ⟨a1, 0, none⟩) p.cells, .rd (some ⟨a2, 0, none⟩) [.pointer (some ⟨gh, 0, none⟩)], .rd (some ⟨a3, 0, none⟩) [.slice (some ⟨b, o, none⟩) ds.length c], .rd (some ⟨a4, 0, none⟩) key.cells, .rd (some ⟨gh, 0, none⟩) [.pointer (some ⟨gc, 0, none⟩), .int .i64 (n : Int)], .rd (some ⟨b, o, none⟩) (dgs ds), .rd (some ⟨2, 0, none⟩) hashT] [.blk gc [.int .i64 (k0 : Int)] 187] (ds.length + 1)
    (fun k (u : Nat × Nat) => [.slice (some ⟨u.1, 0, none⟩) (wayP n key ds (endP p) k).length u.2, .agg (sumB n (wayP n key ds (endP p) k)).cells.toArray])
    (fun k (u : Nat × Nat) => [.own (.slice (some ⟨u.1, 0, none⟩) (wayP n key ds (endP p) k).length u.2) (wayP n key ds (endP p) k).length 5 1 (bc (wayP n key ds (endP p) k))])
    [.blk gc [.int .i64 ((k0 + ds.length + 1 : Nat) : Int)] 187] := by
  have hel := endP_len p
  have hE := end_s p
  generalize hpre : endP p = pre at *
  have hwl := wayP_len n key ds pre hel
  refine iter_ofG Tryz.func190 rfl (n := 45) rfl rfl ?_
  intro l J Rm m0 W hJw hRm hy h0
  have hRI : RmOk Rm := ⟨hRm⟩
  refine h_seq ?_
  refine h_reg ?_
  refine h_opX (x_box1 rfl) fun g5 => ?_
  refine h_nil ?_
  refine q_then ?_
  refine h_seq ?_
  refine h_reg ?_
  refine h_op (r_loadr rfl) ?_
  refine h_call (hE.comes) rfl rfl rfl fun ⟨gP, cP⟩ => ?_
  dsimp only
  refine h_opX (x_alloc) fun g6 => ?_
  refine h_opS (s_store rfl rfl rfl) ?_
  refine h_nil ?_
  refine q_then ?_
  refine h_seq ?_
  refine h_reg ?_
  refine h_op (r_loadc rfl) ?_
  refine h_op (r_loadc rfl) ?_
  refine h_call ((HSum_s n hn gh gc k0 (by omega) pre (some ⟨gP, 0, none⟩) cP (fun h => by cases h) (by omega)).comes) rfl rfl rfl fun _ => ?_
  refine h_opX (x_alloc) fun g7 => ?_
  refine h_opS (s_storer rfl rfl) ?_
  refine h_nil ?_
  refine q_then ?_
  refine h_seq ?_
  refine h_seq ?_
  refine h_reg ?_
  refine h_op (r_loadc rfl) ?_
  refine h_call ((Backward_s (some ⟨b, o, none⟩) ds.length c).comes) rfl rfl rfl fun g17 => ?_
  refine h_nil ?_
  refine q_then ?_
  refine h_block ?_
  change H _ _ _ _ _ (_ :: .blk g7 (sumB n (wayP n key ds pre 0)).cells _ :: .blk gc [.int .i64 ((k0 + 0 + 1 : Nat) : Int)] _ :: .blk g6 [.slice (some ⟨gP, 0, none⟩) (wayP n key ds pre 0).length cP] _ :: .own (.slice (some ⟨gP, 0, none⟩) (wayP n key ds pre 0).length cP) (wayP n key ds pre 0).length _ _ (bc (wayP n key ds pre 0)) :: _) _
  refine h_rangeG (Backward_it ds b o c g17 (by omega)) rfl (fun k mm => ∃ (u : Nat × Nat) (m1 : List Fa), mm = wayF n key ds pre gc k0 g6 g7 k m1 u ∧ J k m1) (.blk g6 [.slice (some ⟨gP, 0, none⟩) (wayP n key ds pre 0).length cP] 66 :: .blk g7 (sumB n (wayP n key ds pre 0)).cells 41 :: .own (.slice (some ⟨gP, 0, none⟩) (wayP n key ds pre 0).length cP) (wayP n key ds pre 0).length 5 1 (bc (wayP n key ds pre 0)) :: .blk gc [.int .i64 ((k0 + 0 + 1 : Nat) : Int)] 187 :: m0) (.rd (some ⟨g5, 0, none⟩) [.func (.yield l) #[] #[]] :: .rd (some ⟨a2, 0, none⟩) [.pointer (some ⟨gh, 0, none⟩)] :: .rd (some ⟨a4, 0, none⟩) key.cells :: .rd (some ⟨gh, 0, none⟩) [.pointer (some ⟨gc, 0, none⟩), .int .i64 (n : Int)] :: .rd (some ⟨2, 0, none⟩) hashT :: Rm) (by rintro k mm ⟨u, m1, rfl, hJ⟩; exact wayF_wr (hJw _ _ hJ)) ⟨(gP, cP), m0, rfl, h0⟩ rfl (fun _ _ => rfl) ?_ ?_
  · intro ll rr k _ mm W1 hr hrp hkN hJ2
    obtain ⟨⟨g, c'⟩, m1, rfl, hJ⟩ := hJ2
    unfold wayF
    simp only [List.nil_append, List.cons_append]
    refine h_L (fun w s => Sx.mid (pre := [_, _, _, _, _]) (m := m1) (l := [.rd (some ⟨g5, 0, none⟩) [.func (.yield l) #[] #[]], .rd (some ⟨a2, 0, none⟩) [.pointer (some ⟨gh, 0, none⟩)], .rd (some ⟨a4, 0, none⟩) key.cells, .rd (some ⟨gh, 0, none⟩) [.pointer (some ⟨gc, 0, none⟩), .int .i64 (n : Int)], .rd (some ⟨2, 0, none⟩) hashT]) (R := Rm) s) ?_
    simp only [List.nil_append, List.cons_append]
    refine h_seq ?_
    refine h_reg ?_
    refine h_op (r_assign rfl) ?_
    refine h_nil ?_
    refine q_then ?_
    refine h_reg ?_
    refine h_opX (x_alloc) fun g9 => ?_
    refine h_opS (s_storer rfl rfl) ?_
    refine h_nil ?_
    refine q_then ?_
    refine h_begin hr ?_
    refine h_block ?_
    refine h_seq ?_
    refine h_seq ?_
    refine h_reg ?_
    refine h_op (r_loadc rfl) ?_
    refine h_op (r_loadc rfl) ?_
    refine h_op (r_loadr rfl) ?_
    refine h_yield (hy k (g, c') m1 (by omega) hJ) hRm rfl rfl fun m' hJ' => ?_
    refine h_op (r_not rfl) ?_
    refine h_nil ?_
    refine q_then ?_
    refine h_condF rfl ?_
    refine h_skip ?_
    refine q_then ?_
    refine h_seq ?_
    refine h_reg ?_
    refine h_op (r_loadr rfl) ?_
    refine h_op (r_loadr rfl) ?_
    refine h_op (r_build rfl) ?_
    refine h_opX (x_alloc) fun g10 => ?_
    refine h_opS (s_storer rfl rfl) ?_
    refine h_nil ?_
    refine q_then ?_
    refine h_seq ?_
    have hwr2 : ∀ (g37 c37 : Nat), ∀ f ∈ (.blk g6 [.slice (some ⟨g37, 0, none⟩) (wayP n key ds pre (k + 1)).length c37] 66 :: .blk g7 (sumB n (wayP n key ds pre (k + 1))).cells 41 :: .own (.slice (some ⟨g37, 0, none⟩) (wayP n key ds pre (k + 1)).length c37) (wayP n key ds pre (k + 1)).length 5 1 (bc (wayP n key ds pre (k + 1))) :: .blk gc [.int .i64 ((k0 + k + 1 + 1 : Nat) : Int)] 187 :: m'), f.wr = true := fun g37 c37 f hf => by
      simp only [List.mem_cons] at hf
      rcases hf with rfl | rfl | rfl | rfl | hf
      · rfl
      · rfl
      · rfl
      · rfl
      · exact hJw _ _ hJ' f hf
    by_cases hb : bitAt key (ds.length - 1 - k) = true
    · have hw1 : wayP n key ds pre (k + 1) = preN (ds.getD (ds.length - 1 - k) zB32) (sumB n (wayP n key ds pre k)) := by rw [wayP, if_pos hb]
      refine ha_start [.rd (some ⟨a4, 0, none⟩) key.cells, .blk g7 (sumB n (wayP n key ds pre k)).cells 41] [] mixed (same) ?_
      refine ha_take 0 rfl (r_loadr rfl) ?_
      refine ha_takeP 1 rfl (r_move rfl) ?_
      refine ha_take 3 rfl (r_loadr rfl) ?_
      refine ha_one 2 ?_
      refine ho_C 2 rfl ((Bit_y key (ds.length - 1 - k) (by omega) hb).comes) rfl rfl rfl (fun xx => same) fun _ => ?_
      refine ha_takeP 4 rfl (r_idxA rfl rfl) ?_
      refine ha_one 5 ?_
      refine ho_SL 5 rfl (s_storer rfl rfl) ?_
      refine q_then ?_
      refine h_seq ?_
      refine h_reg ?_
      refine h_op (r_idxA rfl rfl) ?_
      refine h_op (r_loadr rfl) ?_
      refine h_op (r_idxA rfl rfl) ?_
      refine h_op (r_loadr rfl) ?_
      refine h_call ((pNode_s (ds.getD (ds.length - 1 - k) zB32) (sumB n (wayP n key ds pre k))).comes) rfl rfl rfl fun ⟨g37, c37⟩ => ?_
      dsimp only
      rw [← hw1]
      have hl1 := hwl (k + 1)
      refine h_opS (s_store rfl rfl rfl) ?_
      refine h_nil ?_
      refine q_then ?_
      refine h_reg ?_
      refine h_op (r_loadc rfl) ?_
      refine h_op (r_loadc rfl) ?_
      refine h_call ((HSum_s n hn gh gc (k0 + k + 1) (by omega) (wayP n key ds pre (k + 1)) (some ⟨g37, 0, none⟩) c37 (fun h => by cases h) (by omega)).comes) rfl rfl rfl fun _ => ?_
      refine h_opS (s_storer rfl rfl) ?_
      refine h_nil ?_
      refine q_block ?_
      exact h_endround (.blk g6 [.slice (some ⟨g37, 0, none⟩) (wayP n key ds pre (k + 1)).length c37] 66 :: .blk g7 (sumB n (wayP n key ds pre (k + 1))).cells 41 :: .own (.slice (some ⟨g37, 0, none⟩) (wayP n key ds pre (k + 1)).length c37) (wayP n key ds pre (k + 1)).length 5 1 (bc (wayP n key ds pre (k + 1))) :: .blk gc [.int .i64 ((k0 + k + 1 + 1 : Nat) : Int)] 187 :: m') hr hrp ⟨(g37, c37), m', by rw [show k0 + (k + 1) + 1 = k0 + k + 1 + 1 by omega], hJ'⟩ (hwr2 g37 c37)
    · have hw1 : wayP n key ds pre (k + 1) = preN (sumB n (wayP n key ds pre k)) (ds.getD (ds.length - 1 - k) zB32) := by rw [wayP, if_neg hb]
      refine ha_start [.rd (some ⟨a4, 0, none⟩) key.cells, .blk g7 (sumB n (wayP n key ds pre k)).cells 41] [] mixed (same) ?_
      refine ha_take 0 rfl (r_loadr rfl) ?_
      refine ha_takeP 1 rfl (r_move rfl) ?_
      refine ha_take 3 rfl (r_loadr rfl) ?_
      refine ha_one 2 ?_
      refine ho_C 2 rfl ((Bit_n key (ds.length - 1 - k) (by omega) hb).comes) rfl rfl rfl (fun xx => same) fun _ => ?_
      refine ha_takeP 4 rfl (r_idxA rfl rfl) ?_
      refine ha_one 5 ?_
      refine ho_SL 5 rfl (s_storer rfl rfl) ?_
      refine q_then ?_
      refine h_seq ?_
      refine h_reg ?_
      refine h_op (r_idxA rfl rfl) ?_
      refine h_op (r_loadr rfl) ?_
      refine h_op (r_idxA rfl rfl) ?_
      refine h_op (r_loadr rfl) ?_
      refine h_call ((pNode_s (sumB n (wayP n key ds pre k)) (ds.getD (ds.length - 1 - k) zB32)).comes) rfl rfl rfl fun ⟨g37, c37⟩ => ?_
      dsimp only
      rw [← hw1]
      have hl1 := hwl (k + 1)
      refine h_opS (s_store rfl rfl rfl) ?_
      refine h_nil ?_
      refine q_then ?_
      refine h_reg ?_
      refine h_op (r_loadc rfl) ?_
      refine h_op (r_loadc rfl) ?_
      refine h_call ((HSum_s n hn gh gc (k0 + k + 1) (by omega) (wayP n key ds pre (k + 1)) (some ⟨g37, 0, none⟩) c37 (fun h => by cases h) (by omega)).comes) rfl rfl rfl fun _ => ?_
      refine h_opS (s_storer rfl rfl) ?_
      refine h_nil ?_
      refine q_block ?_
      exact h_endround (.blk g6 [.slice (some ⟨g37, 0, none⟩) (wayP n key ds pre (k + 1)).length c37] 66 :: .blk g7 (sumB n (wayP n key ds pre (k + 1))).cells 41 :: .own (.slice (some ⟨g37, 0, none⟩) (wayP n key ds pre (k + 1)).length c37) (wayP n key ds pre (k + 1)).length 5 1 (bc (wayP n key ds pre (k + 1))) :: .blk gc [.int .i64 ((k0 + k + 1 + 1 : Nat) : Int)] 187 :: m') hr hrp ⟨(g37, c37), m', by rw [show k0 + (k + 1) + 1 = k0 + k + 1 + 1 by omega], hJ'⟩ (hwr2 g37 c37)
  · intro bb mm hJ2
    obtain ⟨⟨g, c'⟩, m1, rfl, hJ⟩ := hJ2
    unfold wayF
    refine q_block ?_
    refine q_then ?_
    simp only [List.nil_append, List.cons_append]
    refine h_L (fun w s => Sx.mid (pre := [_, _, _, _]) (m := m1) (l := [.obj bb (.deferred (some [])), .blk g17 [.slice (some ⟨b, o, none⟩) ds.length c] 85, .blk g5 [.func (.yield l) #[] #[]] 284, .rd (some ⟨a1, 0, none⟩) p.cells, .rd (some ⟨a2, 0, none⟩) [.pointer (some ⟨gh, 0, none⟩)], .rd (some ⟨a3, 0, none⟩) [.slice (some ⟨b, o, none⟩) ds.length c], .rd (some ⟨a4, 0, none⟩) key.cells, .rd (some ⟨gh, 0, none⟩) [.pointer (some ⟨gc, 0, none⟩), .int .i64 (n : Int)], .rd (some ⟨b, o, none⟩) (dgs ds), .rd (some ⟨2, 0, none⟩) hashT]) (R := Rm) s) ?_
    simp only [List.nil_append, List.cons_append]
    refine h_reg ?_
    refine h_op (r_loadc rfl) ?_
    refine h_op (r_loadc rfl) ?_
    refine h_op (r_loadr rfl) ?_
    refine h_yield (hy ds.length (g, c') m1 (by omega) hJ) hRm rfl rfl fun m' hJ' => ?_
    refine h_nil ?_
    refine h_end ?_
    refine h_mark ?_
    exact h_ret0 rfl fun w s => ⟨_, m', rfl, hJ', (same w s).res (List.Sublist.refl _) (by intro f hf; simp only [List.mem_cons, List.cons_append, List.nil_append] at hf; exact hf.elim (fun h => by rw [h]; rfl) (hJw _ _ hJ' f))⟩
end Go.Proofs.YtgfkbeipckbkiaaGreatDoor
/- U20 -/
namespace Go.Proofs.YtgfkbeipckbkiaaGreatDoor
set_option linter.unusedSimpArgs false
set_option linter.unusedVariables false
open Go.RowKit
def stepL (n : Nat) (key : B32) (ds : List B32) (pre : List UInt8) (N : Nat) : List B32 := (List.range N).map fun k => sumB n (wayP n key ds pre k)
theorem stepL_len (n : Nat) (key : B32) (ds : List B32) (pre : List UInt8) (N : Nat) : (stepL n key ds pre N).length = N := by simp [stepL]
theorem stepL_succ (n : Nat) (key : B32) (ds : List B32) (pre : List UInt8) (N : Nat) : dgs (stepL n key ds pre N) ++ (sumB n (wayP n key ds pre N)).cells = dgs (stepL n key ds pre (N + 1)) := by
  unfold stepL
  rw [List.range_succ, List.map_append, dgs_append]
  simp [dgs]
theorem Steps_s (p : Proof) (hc : checkP p = 0) (ss : List B32) (hs : p.sibs.n = ss.length) (key : B32) (n : Nat) (hn : n ≤ 256) (gh gc k0 : Nat) (hk : k0 ≤ 800000000000) (d : Nat) (hd : p.depth = (d : Int)) : Spec Tryz.prog 167 [.pointer (some ⟨gh, 0, none⟩), .agg p.cells.toArray, .agg key.cells.toArray].toArray [.rd (some ⟨gh, 0, none⟩) [.pointer (some ⟨gc, 0, none⟩), .int .i64 (n : Int)], .rd p.sibs.A (dgs ss), .rd (some ⟨2, 0, none⟩) hashT] [.blk gc [.int .i64 (k0 : Int)] 187] (fun u : Nat × Nat => .tuple #[.slice (some ⟨u.1, 0, none⟩) (d + 1) u.2, .int .i64 0]) (fun u => [.own (.slice (some ⟨u.1, 0, none⟩) (d + 1) u.2) (d + 1) 41 32 (dgs (stepL n key (expL (sumB n preE) p.bitmap ss d) (endP p) (d + 1))), .blk gc [.int .i64 ((k0 + 1 + d + 1 : Nat) : Int)] 187]) := by
  have hd2 := ok_depth hc
  have hE := Expand_s p hc ss hs n hn gh gc k0 (by omega) d hd
  have hlen := expL_len (sumB n preE) p.bitmap ss d
  generalize expL (sumB n preE) p.bitmap ss d = ds at *
  subst hlen
  have hds : ds.length ≤ 256 := by omega
  refine spec_of Tryz.func167 rfl (n := 34) rfl rfl ?_
  intro W
  refine h_seq ?_
  refine h_reg ?_
  refine h_opX (x_box rfl) fun g4 => ?_
  refine h_opX (x_box rfl) fun g5 => ?_
  refine h_op (r_assign rfl) ?_
  refine h_op (r_assign rfl) ?_
  refine h_nil ?_
  refine q_then ?_
  refine h_seq ?_
  refine h_reg ?_
  refine h_op (r_move rfl) ?_
  refine h_op (r_loadr rfl) ?_
  refine h_call (hE.comes) rfl rfl rfl fun g15 => ?_
  refine h_op (r_move rfl) ?_
  refine h_op (r_extract rfl rfl) ?_
  refine h_op (r_extract rfl rfl) ?_
  refine h_op (r_assign rfl) ?_
  refine h_op (r_assign rfl) ?_
  refine h_nil ?_
  refine q_then ?_
  refine h_seq ?_
  refine h_seq ?_
  refine h_reg ?_
  refine h_op (r_move rfl) ?_
  refine h_op (r_neq rfl rfl) ?_
  refine h_nil ?_
  refine q_then ?_
  refine h_no rfl ((fun h => h rfl)) ?_
  refine h_skip ?_
  refine q_then ?_
  refine h_seq ?_
  refine h_reg ?_
  refine h_opX (x_alloc) fun g10 => ?_
  refine h_nil ?_
  refine q_then ?_
  refine h_seq ?_
  refine h_seq ?_
  refine h_reg ?_
  refine h_op (r_move rfl) ?_
  refine h_op (r_loadr rfl) ?_
  refine h_op (r_move rfl) ?_
  refine h_op (r_loadr rfl) ?_
  refine h_call ((ways_s (.pointer (some ⟨gh, 0, none⟩)) p (some ⟨g15, 0, none⟩) ds.length ds.length key rfl).comes) rfl rfl rfl fun ⟨a2, a1, a3, a4⟩ => ?_
  dsimp only
  refine h_nil_own 41 32 (xs := dgs (stepL n key ds (endP p) 0)) rfl ?_
  refine h_nil ?_
  refine q_then ?_
  refine h_block ?_
  refine h_rangeG (ways_it p n hn key ds hds gh gc (k0 + 1) g15 0 ds.length a2 a1 a3 a4 (by omega)) rfl (fun k mm => ∃ v : Option Addr × Nat, mm = [.blk g10 [.slice v.1 k v.2] 85, .own (.slice v.1 k v.2) k 41 32 (dgs (stepL n key ds (endP p) k))]) [.blk g10 [.slice none 0 0] 85, .own (.slice none 0 0) 0 41 32 (dgs (stepL n key ds (endP p) 0))] [] (by rintro k mm ⟨v, rfl⟩ f hf; simp only [List.mem_cons, List.not_mem_nil, or_false] at hf; exact hf.elim (fun h => by rw [h]; rfl) (fun h => by rw [h]; rfl)) ⟨(none, 0), rfl⟩ rfl (fun _ _ => rfl) ?_ ?_
  · intro ll rr k u mm W1 hr hrp hkN hJ2
    obtain ⟨⟨B, c'⟩, rfl⟩ := hJ2
    dsimp only
    simp only [List.nil_append, List.cons_append]
    have hst := stepL_succ n key ds (endP p) k
    refine h_reg ?_
    refine h_opX (x_alloc) fun g12 => ?_
    refine h_opS (s_storer rfl rfl) ?_
    refine h_nil ?_
    refine q_then ?_
    refine h_begin hr ?_
    refine h_block ?_
    refine h_reg ?_
    refine h_op (r_loadc rfl) ?_
    refine h_op (r_loadr rfl) ?_
    refine h_opX (x_bsl rfl rfl) fun g31 => ?_
    refine h_opX (x_app rfl rfl (k := 32)) fun ⟨g32, c32⟩ => ?_
    refine h_opS (s_store rfl rfl rfl) ?_
    refine h_nil ?_
    refine q_block ?_
    rw [hst]
    exact h_endround [.blk g10 [.slice (some ⟨g32, 0, none⟩) (k + 1) c32] 85, .own (.slice (some ⟨g32, 0, none⟩) (k + 1) c32) (k + 1) 41 32 (dgs (stepL n key ds (endP p) (k + 1)))] hr hrp ⟨(some ⟨g32, 0, none⟩, c32), rfl⟩ (by intro f hf; simp only [List.mem_cons, List.not_mem_nil, or_false] at hf; exact hf.elim (fun h => by rw [h]; rfl) (fun h => by rw [h]; rfl))
  · intro bb mm hJ2
    obtain ⟨⟨B, c'⟩, rfl⟩ := hJ2
    refine q_block ?_
    refine q_then ?_
    dsimp only
    simp only [List.nil_append, List.cons_append]
    refine h_pure (φ := ∃ g, B = some ⟨g, 0, none⟩) (fun w s => s.ownSome (N := ds.length + 1) (c := c') (by omega)) ?_
    rintro ⟨g, rfl⟩
    refine h_seq ?_
    refine h_reg ?_
    refine h_op (r_loadc rfl) ?_
    refine h_op (r_assign rfl) ?_
    refine h_op (r_assign rfl) ?_
    refine h_nil ?_
    refine q_then ?_
    refine h_ret ?_
    refine h_mark ?_
    exact h_ret2 rfl rfl rfl fun w s => ⟨(g, c'), rfl, (same w s).res (List.Sublist.refl _) (by simp [Fa.wr])⟩
theorem Root_s (p : Proof) (hc : checkP p = 0) (ss : List B32) (hs : p.sibs.n = ss.length) (key : B32) (n : Nat) (hn : n ≤ 256) (gh gc k0 : Nat) (hk : k0 ≤ 800000000000) (d : Nat) (hd : p.depth = (d : Int)) : Spec Tryz.prog 130 [.pointer (some ⟨gh, 0, none⟩), .agg p.cells.toArray, .agg key.cells.toArray].toArray [.rd (some ⟨gh, 0, none⟩) [.pointer (some ⟨gc, 0, none⟩), .int .i64 (n : Int)], .rd p.sibs.A (dgs ss), .rd (some ⟨2, 0, none⟩) hashT] [.blk gc [.int .i64 (k0 : Int)] 187] (fun _ : Unit => .tuple #[.agg (sumB n (wayP n key (expL (sumB n preE) p.bitmap ss d) (endP p) d)).cells.toArray, .int .i64 0]) (fun _ => [.blk gc [.int .i64 ((k0 + 1 + d + 1 : Nat) : Int)] 187]) := by
  have hd2 := ok_depth hc
  have hS := Steps_s p hc ss hs key n hn gh gc k0 hk d hd
  generalize expL (sumB n preE) p.bitmap ss d = ds at *
  have hget : (stepL n key ds (endP p) (d + 1)).getD d zB32 = sumB n (wayP n key ds (endP p) d) := by
    unfold stepL
    rw [List.getD, List.getElem?_map, List.getElem?_range (by omega)]
    rfl
  have hat := dgs_at (l := stepL n key ds (endP p) (d + 1)) (k := d) (by rw [stepL_len]; omega)
  rw [hget] at hat
  refine spec_of Tryz.func130 rfl (n := 27) rfl rfl ?_
  intro W
  refine h_seq ?_
  refine h_reg ?_
  refine h_opX (x_box rfl) fun g4 => ?_
  refine h_opX (x_box rfl) fun g5 => ?_
  refine h_opX (x_alloc) fun g6 => ?_
  refine h_op (r_assign rfl) ?_
  refine h_nil ?_
  refine q_then ?_
  refine h_seq ?_
  refine h_reg ?_
  refine h_op (r_move rfl) ?_
  refine h_op (r_loadr rfl) ?_
  refine h_op (r_loadr rfl) ?_
  refine h_call (hS.comes) rfl rfl rfl fun ⟨g14, c14⟩ => ?_
  dsimp only
  refine h_op (r_move rfl) ?_
  refine h_op (r_extract rfl rfl) ?_
  refine h_op (r_extract rfl rfl) ?_
  refine h_op (r_assign rfl) ?_
  refine h_op (r_assign rfl) ?_
  refine h_nil ?_
  refine q_then ?_
  refine h_seq ?_
  refine h_seq ?_
  refine h_reg ?_
  refine h_op (r_move rfl) ?_
  refine h_op (r_neq rfl rfl) ?_
  refine h_nil ?_
  refine q_then ?_
  refine h_no rfl ((fun h => h rfl)) ?_
  refine h_skip ?_
  refine q_then ?_
  refine h_seq ?_
  refine h_reg ?_
  refine h_op (r_move rfl) ?_
  refine h_op (r_move rfl) ?_
  refine h_op (r_len rfl) ?_
  refine h_op (r_subN rfl rfl (m := d) (hm := by omega)) ?_
  refine h_op (r_idx rfl rfl) ?_
  refine h_op (r_nthr rfl (B32.cells_length _) hat) ?_
  refine h_opS (s_storer rfl rfl) ?_
  refine h_op (r_assign rfl) ?_
  refine h_nil ?_
  refine q_then ?_
  refine h_ret ?_
  exact h_ret2 rfl (rv_row rfl) rfl fun w s => ⟨(), rfl, (same w s).res (List.Sublist.refl _) (by simp [Fa.wr])⟩
end Go.Proofs.YtgfkbeipckbkiaaGreatDoor
/- N12 -/
namespace Go.Proofs.YtgfkbeipckbkiaaGreatDoor
set_option linter.unusedSimpArgs false
set_option linter.unusedVariables false
open Go.RowKit
class TBool (P : Program) (T : TypeId) : Prop where
  und : P.underlying T = some .bool
section
variable {P : Program} {n : Nat} {D : List Deferred} {E : Env} {L : List Fa} {T T' : TypeId} {x y : Operand}
theorem run_equalIn_bool (w : World) (d : Nat) (a b : Bool) (h : P.underlying T = some .bool) : (Op.equalIn (d + 1) T (.bool a) (.bool b)).run P w = .ok (a == b) w := by
  simp [Op.equalIn, run_underlying h]
theorem run_eq_bool (w : World) (a b : Bool) (h : P.underlying T = some .bool) : (binOp .eql T (.bool a) (.bool b)).run P w = .ok (.bool (a == b)) w := by
  simp only [binOp]
  simp [Op.equal, Op.maxDepth, run_equalIn_bool w 9999 a b h]
theorem r_eqb [hT : TBool P T] {a b : Bool} (hx : ev E x = some (.bool a)) (hy : ev E y = some (.bool b)) : Runs0 P n D E L (.binOp .eql T x y T') (.bool (a == b)) := fun c w ka s o ho => run_bin ho (ka.ev hx) (ka.ev hy) rfl (run_eq_bool w a b hT.und)
end
/-- a zone that began as all that there was: nothing below has turned -/
theorem zone_below {W w : World} {h1 : Zh} {N : List Fa} (hr : Rx [.zone true (World.zh W)] W w (.zone true h1 :: N)) (hl : LeZ (World.zh W) h1) : Below W.heap.size W w := by
  refine ⟨hr.os, hr.tape, hr.output, hr.size, fun k hk => ?_⟩
  obtain ⟨o, ho⟩ : ∃ o, W.heap[k]? = some o := ⟨_, Array.getElem?_eq_getElem hk⟩
  rw [ho]
  exact hr.ok (.zone true h1) (List.mem_cons_self ..) k o (hl.le k o ho)
theorem Fx.all (W : World) : Fx W [.zone true (World.zh W)] := ⟨fun f hf => by rw [List.mem_singleton.1 hf]; exact fun k o ho => ho, List.pairwise_singleton _ _⟩
end Go.Proofs.YtgfkbeipckbkiaaGreatDoor
/- N13 -/
namespace Go.Proofs.YtgfkbeipckbkiaaGreatDoor
set_option linter.unusedSimpArgs false
set_option linter.unusedVariables false
open Go.RowKit
section
variable {P : Program} {n : Nat} {D : List Deferred} {E : Env} {L : List Fa} {T T' : TypeId} {x y : Operand}
theorem r_shl8 {i : Int} (hx : ev E x = some (.int .i64 i)) (hy : ev E y = some (.int .u64 8)) (h : 0 ≤ i ∧ i < 256 := by omega) : Runs0 P n D E L (.binOp .shl T x y T') (.int .i64 (i * 256)) := fun a w ka s o ho => xShl8 ho (ka.ev hx) (ka.ev hy) h
theorem r_or8 {i j : Int} (hx : ev E x = some (.int .i64 (i * 256))) (hy : ev E y = some (.int .i64 j)) (h : 0 ≤ i ∧ i < 256 := by omega) (h' : 0 ≤ j ∧ j < 256 := by omega) : Runs0 P n D E L (.binOp .or T x y T') (.int .i64 (i * 256 + j)) := fun a w ka s o ho => xOr8 ho (ka.ev hx) (ka.ev hy) h h'
theorem r_shr8 {i : Nat} (hx : ev E x = some (.int .i64 (i : Int))) (hy : ev E y = some (.int .u64 8)) : Runs0 P n D E L (.binOp .shr T x y T') (.int .i64 ((i / 256 : Nat) : Int)) := fun a w ka s o ho => by
  have hx := ka.ev hx
  have hy := ka.ev hy
  unfold execOp
  simp only [ho, hx, hy]
  have e : (binOp .shr T (.int .i64 (i : Int)) (.int .u64 8)).run P w = .ok (.int .i64 ((i / 256 : Nat) : Int)) w := by
    rw [show ((i / 256 : Nat) : Int) = (i : Int).fdiv (2 ^ 8) by rw [Int.fdiv_eq_ediv_of_nonneg _ (by decide)]; simp]
    rfl
  rw [Sem.run_bind, Sem.run_bind]
  have g : (eqGuard .shr T x y (.int .i64 (i : Int)) (.int .u64 8)).run P w = .ok () w := rfl
  rw [g, Result.andThen_ok, e]
  rfl
theorem r_arr {len e size : Nat} [hT : TArr P T len e size] {A : Option Addr} {m c : Nat} (hx : ev E x = some (.slice A m c)) (hm : len ≤ m := by omega) : Runs0 P n D E L (.sliceToArrayPointer T x) (.pointer A) := fun a w ka s o ho => ex_arrayAt ho hT.und (ka.ev hx) hm
end
end Go.Proofs.YtgfkbeipckbkiaaGreatDoor
/- U90 -/
namespace Go.Proofs.YtgfkbeipckbkiaaGreatDoor
set_option linter.unusedSimpArgs false
set_option linter.unusedVariables false
open Go.RowKit
def keyOf (l : List UInt8) : B32 := if h : l.length = 32 then ⟨l, h⟩ else zB32
theorem keyOf_cells {l : List UInt8} (h : l.length = 32) : (keyOf l).cells = bc l := by unfold keyOf; rw [dif_pos h]; rfl
theorem when_s (b : Bool) (e : Int) : Spec Tryz.prog 114 [.bool b, .int .i64 e].toArray [] [] (fun _ : Unit => .int .i64 (if b then e else 0)) (fun _ => []) := by
  cases b
  · refine spec_of Tryz.func114 rfl (n := 7) rfl rfl ?_
    intro W
    refine h_seq ?_
    refine h_reg ?_
    refine h_op (r_assign rfl) ?_
    refine h_nil ?_
    refine q_then ?_
    refine h_seq ?_
    refine h_seq ?_
    refine h_reg ?_
    refine h_op (r_move rfl) ?_
    refine h_nil ?_
    refine q_then ?_
    refine h_condF rfl ?_
    refine h_skip ?_
    refine q_then ?_
    refine h_seq ?_
    refine h_reg ?_
    refine h_op (r_assign rfl) ?_
    refine h_nil ?_
    refine q_then ?_
    refine h_ret ?_
    exact h_ret1 rfl rfl fun w s => ⟨(), rfl, s.res (List.nil_sublist _) (by simp)⟩
  · refine spec_of Tryz.func114 rfl (n := 7) rfl rfl ?_
    intro W
    refine h_seq ?_
    refine h_reg ?_
    refine h_op (r_assign rfl) ?_
    refine h_nil ?_
    refine q_then ?_
    refine h_seq ?_
    refine h_seq ?_
    refine h_reg ?_
    refine h_op (r_move rfl) ?_
    refine h_nil ?_
    refine q_then ?_
    refine h_condT rfl ?_
    refine h_seq ?_
    refine h_reg ?_
    refine h_op (r_move rfl) ?_
    refine h_op (r_assign rfl) ?_
    refine h_nil ?_
    refine q_then ?_
    refine h_ret ?_
    refine q_thenR ?_
    exact h_ret1 rfl rfl fun w s => ⟨(), rfl, s.res (List.nil_sublist _) (by simp)⟩
/-- what the first three steps find -/
def code3 (x : Chk) : Nat → Int
  | 0 => if x.root.n = 32 then 0 else 4
  | 1 => if x.c.key.n = 32 then 0 else 2
  | _ => if x.c.present = true ∧ 65535 < x.c.value.n then 3 else 0
section
variable (x : Chk) (g : Nat)
theorem step0_s : Spec Tryz.prog 113 [.pointer (some ⟨g, 0, none⟩)].toArray [.rd (some ⟨g, 0, none⟩) x.cells] [] (fun _ : Unit => .int .i64 (code3 x 0)) (fun _ => []) := by
  by_cases h : x.root.n = 32
  · have hw := when_s false 4
    rw [show code3 x 0 = 0 from if_pos h]
    refine spec_of Tryz.func113 rfl (n := 10) rfl rfl ?_
    intro W
    refine h_seq ?_
    refine h_reg ?_
    refine h_op (r_assign rfl) ?_
    refine h_nil ?_
    refine q_then ?_
    refine h_seq ?_
    refine h_reg ?_
    refine h_op (r_move rfl) ?_
    refine h_op (r_nilc rfl) ?_
    refine h_op (r_field rfl) ?_
    refine h_op (r_loadc rfl) ?_
    refine h_op (r_len rfl) ?_
    refine h_op (r_bool (r_neq rfl rfl) (decide_eq_false (by omega))) ?_
    refine h_call (hw.comes) rfl rfl rfl fun _ => ?_
    refine h_op (r_assign rfl) ?_
    refine h_nil ?_
    refine q_then ?_
    refine h_ret ?_
    exact h_ret1 rfl rfl fun w s => ⟨(), rfl, s.res (List.nil_sublist _) (by simp)⟩
  · have hw := when_s true 4
    rw [show code3 x 0 = 4 from if_neg h]
    refine spec_of Tryz.func113 rfl (n := 10) rfl rfl ?_
    intro W
    refine h_seq ?_
    refine h_reg ?_
    refine h_op (r_assign rfl) ?_
    refine h_nil ?_
    refine q_then ?_
    refine h_seq ?_
    refine h_reg ?_
    refine h_op (r_move rfl) ?_
    refine h_op (r_nilc rfl) ?_
    refine h_op (r_field rfl) ?_
    refine h_op (r_loadc rfl) ?_
    refine h_op (r_len rfl) ?_
    refine h_op (r_bool (r_neq rfl rfl) (decide_eq_true (by omega))) ?_
    refine h_call (hw.comes) rfl rfl rfl fun _ => ?_
    refine h_op (r_assign rfl) ?_
    refine h_nil ?_
    refine q_then ?_
    refine h_ret ?_
    exact h_ret1 rfl rfl fun w s => ⟨(), rfl, s.res (List.nil_sublist _) (by simp)⟩
theorem step1_s : Spec Tryz.prog 115 [.pointer (some ⟨g, 0, none⟩)].toArray [.rd (some ⟨g, 0, none⟩) x.cells] [] (fun _ : Unit => .int .i64 (code3 x 1)) (fun _ => []) := by
  by_cases h : x.c.key.n = 32
  · have hw := when_s false 2
    rw [show code3 x 1 = 0 from if_pos h]
    refine spec_of Tryz.func115 rfl (n := 11) rfl rfl ?_
    intro W
    refine h_seq ?_
    refine h_reg ?_
    refine h_op (r_assign rfl) ?_
    refine h_nil ?_
    refine q_then ?_
    refine h_seq ?_
    refine h_reg ?_
    refine h_op (r_move rfl) ?_
    refine h_op (r_nilc rfl) ?_
    refine h_op (r_field rfl) ?_
    refine h_op (r_field rfl) ?_
    refine h_op (r_loadc rfl) ?_
    refine h_op (r_len rfl) ?_
    refine h_op (r_bool (r_neq rfl rfl) (decide_eq_false (by omega))) ?_
    refine h_call (hw.comes) rfl rfl rfl fun _ => ?_
    refine h_op (r_assign rfl) ?_
    refine h_nil ?_
    refine q_then ?_
    refine h_ret ?_
    exact h_ret1 rfl rfl fun w s => ⟨(), rfl, s.res (List.nil_sublist _) (by simp)⟩
  · have hw := when_s true 2
    rw [show code3 x 1 = 2 from if_neg h]
    refine spec_of Tryz.func115 rfl (n := 11) rfl rfl ?_
    intro W
    refine h_seq ?_
    refine h_reg ?_
    refine h_op (r_assign rfl) ?_
    refine h_nil ?_
    refine q_then ?_
    refine h_seq ?_
    refine h_reg ?_
    refine h_op (r_move rfl) ?_
    refine h_op (r_nilc rfl) ?_
    refine h_op (r_field rfl) ?_
    refine h_op (r_field rfl) ?_
    refine h_op (r_loadc rfl) ?_
    refine h_op (r_len rfl) ?_
    refine h_op (r_bool (r_neq rfl rfl) (decide_eq_true (by omega))) ?_
    refine h_call (hw.comes) rfl rfl rfl fun _ => ?_
    refine h_op (r_assign rfl) ?_
    refine h_nil ?_
    refine q_then ?_
    refine h_ret ?_
    exact h_ret1 rfl rfl fun w s => ⟨(), rfl, s.res (List.nil_sublist _) (by simp)⟩
theorem step2_s : Spec Tryz.prog 116 [.pointer (some ⟨g, 0, none⟩)].toArray [.rd (some ⟨g, 0, none⟩) x.cells] [] (fun _ : Unit => .int .i64 (code3 x 2)) (fun _ => []) := by
  obtain ⟨b, hb⟩ : ∃ b, x.c.present = b := ⟨_, rfl⟩
  by_cases h : 65535 < x.c.value.n
  · have hw := when_s b 3
    rw [show code3 x 2 = (if b then 3 else 0) by show (if x.c.present = true ∧ 65535 < x.c.value.n then (3 : Int) else 0) = _; rw [hb]; simp [h]]
    cases b
    · refine spec_of Tryz.func116 rfl (n := 18) rfl rfl ?_
      intro W
      refine h_seq ?_
      refine h_reg ?_
      refine h_op (r_assign rfl) ?_
      refine h_nil ?_
      refine q_then ?_
      refine h_seq ?_
      refine h_reg ?_
      refine h_op (r_move rfl) ?_
      refine h_op (r_nilc rfl) ?_
      refine h_op (r_field rfl) ?_
      refine h_op (r_field rfl) ?_
      refine h_op (r_bool (r_loadc rfl) hb) ?_
      refine h_op (r_move rfl) ?_
      refine h_opOff ?_
      refine h_opOff ?_
      refine h_opOff ?_
      refine h_opOff ?_
      refine h_opOff ?_
      refine h_opOff ?_
      refine h_opOff ?_
      refine h_op (r_pick rfl rfl) ?_
      refine h_call (hw.comes) rfl rfl rfl fun _ => ?_
      refine h_op (r_assign rfl) ?_
      refine h_nil ?_
      refine q_then ?_
      refine h_ret ?_
      exact h_ret1 rfl rfl fun w s => ⟨(), rfl, s.res (List.nil_sublist _) (by simp)⟩
    · refine spec_of Tryz.func116 rfl (n := 18) rfl rfl ?_
      intro W
      refine h_seq ?_
      refine h_reg ?_
      refine h_op (r_assign rfl) ?_
      refine h_nil ?_
      refine q_then ?_
      refine h_seq ?_
      refine h_reg ?_
      refine h_op (r_move rfl) ?_
      refine h_op (r_nilc rfl) ?_
      refine h_op (r_field rfl) ?_
      refine h_op (r_field rfl) ?_
      refine h_op (r_bool (r_loadc rfl) hb) ?_
      refine h_op (r_move rfl) ?_
      refine h_op (r_move rfl) ?_
      refine h_op (r_nilc rfl) ?_
      refine h_op (r_field rfl) ?_
      refine h_op (r_field rfl) ?_
      refine h_op (r_loadc rfl) ?_
      refine h_op (r_len rfl) ?_
      refine h_op (r_bool (r_gtr rfl rfl) (decide_eq_true (by omega))) ?_
      refine h_op (r_pick rfl rfl) ?_
      refine h_call (hw.comes) rfl rfl rfl fun _ => ?_
      refine h_op (r_assign rfl) ?_
      refine h_nil ?_
      refine q_then ?_
      refine h_ret ?_
      exact h_ret1 rfl rfl fun w s => ⟨(), rfl, s.res (List.nil_sublist _) (by simp)⟩
  · have hw := when_s false 3
    rw [show code3 x 2 = 0 from if_neg (fun h' => h h'.2)]
    cases b
    · refine spec_of Tryz.func116 rfl (n := 18) rfl rfl ?_
      intro W
      refine h_seq ?_
      refine h_reg ?_
      refine h_op (r_assign rfl) ?_
      refine h_nil ?_
      refine q_then ?_
      refine h_seq ?_
      refine h_reg ?_
      refine h_op (r_move rfl) ?_
      refine h_op (r_nilc rfl) ?_
      refine h_op (r_field rfl) ?_
      refine h_op (r_field rfl) ?_
      refine h_op (r_bool (r_loadc rfl) hb) ?_
      refine h_op (r_move rfl) ?_
      refine h_opOff ?_
      refine h_opOff ?_
      refine h_opOff ?_
      refine h_opOff ?_
      refine h_opOff ?_
      refine h_opOff ?_
      refine h_opOff ?_
      refine h_op (r_pick rfl rfl) ?_
      refine h_call (hw.comes) rfl rfl rfl fun _ => ?_
      refine h_op (r_assign rfl) ?_
      refine h_nil ?_
      refine q_then ?_
      refine h_ret ?_
      exact h_ret1 rfl rfl fun w s => ⟨(), rfl, s.res (List.nil_sublist _) (by simp)⟩
    · refine spec_of Tryz.func116 rfl (n := 18) rfl rfl ?_
      intro W
      refine h_seq ?_
      refine h_reg ?_
      refine h_op (r_assign rfl) ?_
      refine h_nil ?_
      refine q_then ?_
      refine h_seq ?_
      refine h_reg ?_
      refine h_op (r_move rfl) ?_
      refine h_op (r_nilc rfl) ?_
      refine h_op (r_field rfl) ?_
      refine h_op (r_field rfl) ?_
      refine h_op (r_bool (r_loadc rfl) hb) ?_
      refine h_op (r_move rfl) ?_
      refine h_op (r_move rfl) ?_
      refine h_op (r_nilc rfl) ?_
      refine h_op (r_field rfl) ?_
      refine h_op (r_field rfl) ?_
      refine h_op (r_loadc rfl) ?_
      refine h_op (r_len rfl) ?_
      refine h_op (r_bool (r_gtr rfl rfl) (decide_eq_false (by omega))) ?_
      refine h_op (r_pick rfl rfl) ?_
      refine h_call (hw.comes) rfl rfl rfl fun _ => ?_
      refine h_op (r_assign rfl) ?_
      refine h_nil ?_
      refine q_then ?_
      refine h_ret ?_
      exact h_ret1 rfl rfl fun w s => ⟨(), rfl, s.res (List.nil_sublist _) (by simp)⟩
end
/-- the digest of the value of a claim -/
def valD (n : Nat) (present : Bool) (vb : List UInt8) : B32 := if present then sumB n (preV vb) else zB32
section
variable (n : Nat) (hn : n ≤ 256) (h : Zh) [hT : RdZ h (some ⟨2, 0, none⟩) hashT] (gh gc k g : Nat) (hk : k ≤ 1000000000) (x : Chk) (hxh : x.h = some ⟨gh, 0, none⟩) (kb vb : List UInt8) [hK : SlZ h x.c.key kb] (hkl : kb.length = 32)
include hn hk hxh hkl
theorem supports_s [hV : SlZ h x.c.value vb] (hvl : vb.length ≤ 100000000) : Spec Tryz.prog 85 [.pointer (some ⟨g, 0, none⟩)].toArray [HR gh gc n, .zone false h, .rd (some ⟨g, 0, none⟩) x.cells] [CN gc k] (fun _ : Unit => .bool (supP x.p (keyOf kb) (valD n x.c.present vb) x.c.present)) (fun _ => [CN gc (k + if x.c.present then 1 else 0)]) := by
  have hkn := hK.len
  have hvn := hV.len
  have hKr : RdZ h x.c.key.A (keyOf kb).cells := by rw [keyOf_cells hkl]; exact hK.rd
  have hVr : RdZ h x.c.value.A (bc vb) := hV.rd
  have hVn := hV.nil
  obtain ⟨⟨⟩, xr, ⟨⟨kA, kn, kc⟩, ⟨vA, vn, vc⟩, pr⟩, xb, xp⟩ := x
  · cases hxh
  injection hxh with hxh
  subst hxh
  dsimp only at hkn hvn hKr hVr hVn ⊢
  subst hkn hvn
  obtain ⟨bK, oK, rfl, -⟩ := hKr.at_ 0 _ (List.getElem?_eq_getElem (by rw [B32.cells_length]; omega))
  cases pr
  · refine spec_of Tryz.func85 rfl (n := 38) rfl rfl ?_
    intro W
    refine h_seq ?_
    refine h_reg ?_
    refine h_op (r_assign rfl) ?_
    refine h_nil ?_
    refine q_then ?_
    refine h_seq ?_
    refine h_reg ?_
    refine h_opX (x_alloc) fun g3 => ?_
    refine h_nil ?_
    refine q_then ?_
    refine h_seq ?_
    refine h_seq ?_
    refine h_reg ?_
    refine h_op (r_move rfl) ?_
    refine h_op (r_nilc rfl) ?_
    refine h_op (r_field rfl) ?_
    refine h_op (r_field rfl) ?_
    refine h_op (r_loadc rfl) ?_
    refine h_nil ?_
    refine q_then ?_
    refine h_condF rfl ?_
    refine h_skip ?_
    refine q_then ?_
    refine h_seq ?_
    refine ha_start [.rd (some ⟨g, 0, none⟩) (Chk.cells ⟨some ⟨gh, 0, none⟩, xr, ⟨⟨some ⟨bK, oK, none⟩, kb.length, kc⟩, ⟨vA, vb.length, vc⟩, false⟩, xb, xp⟩), .zone false h, .blk g3 zB32.cells 41] [] mixed (same) ?_
    refine ha_takeP 0 rfl (r_move rfl) ?_
    refine ha_takeP 1 rfl (r_nilc rfl) ?_
    refine ha_takeP 2 rfl (r_field rfl) ?_
    refine ha_take 3 rfl (r_loadr rfl) ?_
    refine ha_takeP 4 rfl (r_move rfl) ?_
    refine ha_takeP 5 rfl (r_nilc rfl) ?_
    refine ha_takeP 6 rfl (r_field rfl) ?_
    refine ha_takeP 7 rfl (r_field rfl) ?_
    refine ha_take 8 rfl (r_loadc rfl) ?_
    refine ha_takeP 9 rfl (r_arr rfl (hm := show 32 ≤ kb.length by omega)) ?_
    refine ha_take 10 rfl (r_loadr rfl) ?_
    refine ha_take 11 rfl (r_loadr rfl) ?_
    refine ha_takeP 12 rfl (r_move rfl) ?_
    refine ha_takeP 13 rfl (r_nilc rfl) ?_
    refine ha_takeP 14 rfl (r_field rfl) ?_
    refine ha_takeP 15 rfl (r_field rfl) ?_
    refine ha_take 16 rfl (r_loadc rfl) ?_
    refine ha_one 17 ?_
    refine ho_C 17 rfl ((Supports_s xp (keyOf kb) zB32 false).comes) rfl rfl rfl (fun xx => same) fun _ => ?_
    refine ha_takeP 18 rfl (r_assign rfl) ?_
    refine ha_done (by kernel_rfl) ?_
    refine q_then ?_
    refine h_ret ?_
    exact h_ret1 rfl rfl fun w s => ⟨(), rfl, (same (L' := [CN gc k]) w s).res (List.Sublist.refl _) (by simp [Fa.wr])⟩
  · refine spec_of Tryz.func85 rfl (n := 38) rfl rfl ?_
    intro W
    refine h_seq ?_
    refine h_reg ?_
    refine h_op (r_assign rfl) ?_
    refine h_nil ?_
    refine q_then ?_
    refine h_seq ?_
    refine h_reg ?_
    refine h_opX (x_alloc) fun g3 => ?_
    refine h_nil ?_
    refine q_then ?_
    refine h_seq ?_
    refine h_seq ?_
    refine h_reg ?_
    refine h_op (r_move rfl) ?_
    refine h_op (r_nilc rfl) ?_
    refine h_op (r_field rfl) ?_
    refine h_op (r_field rfl) ?_
    refine h_op (r_loadc rfl) ?_
    refine h_nil ?_
    refine q_then ?_
    refine h_condT rfl ?_
    refine ha_start [.rd (some ⟨g, 0, none⟩) (Chk.cells ⟨some ⟨gh, 0, none⟩, xr, ⟨⟨some ⟨bK, oK, none⟩, kb.length, kc⟩, ⟨vA, vb.length, vc⟩, true⟩, xb, xp⟩), .zone false h] [] mixed (same) ?_
    refine ha_takeP 0 rfl (r_move rfl) ?_
    refine ha_takeP 1 rfl (r_nilc rfl) ?_
    refine ha_takeP 2 rfl (r_field rfl) ?_
    refine ha_take 3 rfl (r_loadc rfl) ?_
    refine ha_takeP 4 rfl (r_move rfl) ?_
    refine ha_takeP 5 rfl (r_nilc rfl) ?_
    refine ha_takeP 6 rfl (r_field rfl) ?_
    refine ha_takeP 7 rfl (r_field rfl) ?_
    refine ha_take 8 rfl (r_loadc rfl) ?_
    refine ha_one 9 ?_
    refine ho_C 9 rfl ((pValue_s vb vA vc (fun e => by have := hVn e; omega) hvl).comes) rfl rfl rfl (fun xx => same) fun ⟨g18, c18⟩ => ?_
    refine ha_one 10 ?_
    refine ho_C 10 rfl ((HSum_s n hn gh gc k (by omega) (preV vb) (some ⟨g18, 0, none⟩) c18 (fun h => by cases h) (by show vb.length + 1 ≤ _; omega)).comes) rfl rfl rfl (fun xx => same) fun _ => ?_
    refine ha_one 11 ?_
    refine ho_SL 11 rfl (s_storer rfl rfl) ?_
    refine q_then ?_
    refine h_seq ?_
    refine ha_start [.rd (some ⟨g, 0, none⟩) (Chk.cells ⟨some ⟨gh, 0, none⟩, xr, ⟨⟨some ⟨bK, oK, none⟩, kb.length, kc⟩, ⟨vA, vb.length, vc⟩, true⟩, xb, xp⟩), .zone false h, .blk g3 (sumB n (preV vb)).cells 41] [] mixed (same) ?_
    refine ha_takeP 0 rfl (r_move rfl) ?_
    refine ha_takeP 1 rfl (r_nilc rfl) ?_
    refine ha_takeP 2 rfl (r_field rfl) ?_
    refine ha_take 3 rfl (r_loadr rfl) ?_
    refine ha_takeP 4 rfl (r_move rfl) ?_
    refine ha_takeP 5 rfl (r_nilc rfl) ?_
    refine ha_takeP 6 rfl (r_field rfl) ?_
    refine ha_takeP 7 rfl (r_field rfl) ?_
    refine ha_take 8 rfl (r_loadc rfl) ?_
    refine ha_takeP 9 rfl (r_arr rfl (hm := show 32 ≤ kb.length by omega)) ?_
    refine ha_take 10 rfl (r_loadr rfl) ?_
    refine ha_take 11 rfl (r_loadr rfl) ?_
    refine ha_takeP 12 rfl (r_move rfl) ?_
    refine ha_takeP 13 rfl (r_nilc rfl) ?_
    refine ha_takeP 14 rfl (r_field rfl) ?_
    refine ha_takeP 15 rfl (r_field rfl) ?_
    refine ha_take 16 rfl (r_loadc rfl) ?_
    refine ha_one 17 ?_
    refine ho_C 17 rfl ((Supports_s xp (keyOf kb) (sumB n (preV vb)) true).comes) rfl rfl rfl (fun xx => same) fun _ => ?_
    refine ha_takeP 18 rfl (r_assign rfl) ?_
    refine ha_done (by kernel_rfl) ?_
    refine q_then ?_
    refine h_ret ?_
    exact h_ret1 rfl rfl fun w s => ⟨(), rfl, (same (L' := [CN gc (k + 1)]) w s).res (List.Sublist.refl _) (by simp [Fa.wr])⟩
/-- the root that a proof leads to -/
def rootP (n : Nat) (p : DP) (key : B32) : B32 := sumB n (wayP n key (expL (sumB n preE) p.bm p.ss p.d) (endP (p.pr none 0)) p.d)
theorem leads_s (rb : List UInt8) [hR : SlZ h x.root rb] (hrl : rb.length = 32) (p : DP) (A : Option Addr) (c : Nat) (hp : x.p = p.pr A c) (hck : checkP (p.pr none 0) = 0) [hS : RdZ h A (dgs p.ss)] : Spec Tryz.prog 86 [.pointer (some ⟨g, 0, none⟩)].toArray [HR gh gc n, .zone false h, .rd (some ⟨g, 0, none⟩) x.cells] [CN gc k] (fun _ : Unit => .bool (decide (rootP n p (keyOf kb) = keyOf rb))) (fun _ => [CN gc (k + 1 + p.d + 1)]) := by
  have hkn := hK.len
  have hrn := hR.len
  have hKr : RdZ h x.c.key.A (keyOf kb).cells := by rw [keyOf_cells hkl]; exact hK.rd
  have hRr : RdZ h x.root.A (keyOf rb).cells := by rw [keyOf_cells hrl]; exact hR.rd
  have hRo := Root_s (p.pr A c) hck p.ss rfl (keyOf kb) n hn gh gc k (by omega) p.d rfl
  change Spec _ _ _ _ _ (fun _ : Unit => .tuple #[.agg (rootP n p (keyOf kb)).cells.toArray, .int .i64 0]) (fun _ => [CN gc (k + 1 + p.d + 1)]) at hRo
  obtain ⟨⟨⟩, ⟨rA, rn, rc⟩, ⟨⟨kA, kn, kc⟩, xv, pr⟩, xb, xp⟩ := x
  · cases hxh
  injection hxh with hxh
  subst hxh
  dsimp only at hkn hrn hKr hRr hp ⊢
  subst hkn hrn hp
  obtain ⟨bK, oK, rfl, -⟩ := hKr.at_ 0 _ (List.getElem?_eq_getElem (by rw [B32.cells_length]; omega))
  obtain ⟨bR, oR, rfl, -⟩ := hRr.at_ 0 _ (List.getElem?_eq_getElem (by rw [B32.cells_length]; omega))
  refine spec_of Tryz.func86 rfl (n := 36) rfl rfl ?_
  intro W
  refine h_seq ?_
  refine h_reg ?_
  refine h_op (r_assign rfl) ?_
  refine h_nil ?_
  refine q_then ?_
  refine h_seq ?_
  refine h_join (fun (u : Nat) => [(3, .pointer (some ⟨u, 0, none⟩)), (4, .int .i64 0), (0, .pointer (some ⟨g, 0, none⟩))]) (fun (u : Nat) => [.blk u (rootP n p (keyOf kb)).cells 41, CN gc (k + 1 + p.d + 1), HR gh gc n, .zone false h, .rd (some ⟨g, 0, none⟩) (Chk.cells ⟨some ⟨gh, 0, none⟩, ⟨some ⟨bR, oR, none⟩, rb.length, rc⟩, ⟨⟨some ⟨bK, oK, none⟩, kb.length, kc⟩, xv, pr⟩, xb, p.pr A c⟩)]) (fun kk => ?_) ?_
  · refine ha_start [.rd (some ⟨g, 0, none⟩) (Chk.cells ⟨some ⟨gh, 0, none⟩, ⟨some ⟨bR, oR, none⟩, rb.length, rc⟩, ⟨⟨some ⟨bK, oK, none⟩, kb.length, kc⟩, xv, pr⟩, xb, p.pr A c⟩), .zone false h] [] mixed (same) ?_
    refine ha_takeP 0 rfl (r_move rfl) ?_
    refine ha_takeP 1 rfl (r_nilc rfl) ?_
    refine ha_takeP 2 rfl (r_field rfl) ?_
    refine ha_take 3 rfl (r_loadc rfl) ?_
    refine ha_takeP 4 rfl (r_move rfl) ?_
    refine ha_takeP 5 rfl (r_nilc rfl) ?_
    refine ha_takeP 6 rfl (r_field rfl) ?_
    refine ha_take 7 rfl (r_loadr rfl) ?_
    refine ha_takeP 8 rfl (r_move rfl) ?_
    refine ha_takeP 9 rfl (r_nilc rfl) ?_
    refine ha_takeP 10 rfl (r_field rfl) ?_
    refine ha_takeP 11 rfl (r_field rfl) ?_
    refine ha_take 12 rfl (r_loadc rfl) ?_
    refine ha_takeP 13 rfl (r_arr rfl (hm := show 32 ≤ kb.length by omega)) ?_
    refine ha_take 14 rfl (r_loadr rfl) ?_
    refine ha_two 15 19 ?_ ?_
    · refine ho_C 15 rfl ((hRo.comes (hr := inferInstanceAs (Rds _ [HR gh gc n, .rd A (dgs p.ss), TBL])))) rfl rfl rfl (fun xx => same) fun _ => ?_
      refine ha_takeP 16 rfl (r_move rfl) ?_
      refine ha_takeP 17 rfl (r_extract rfl rfl) ?_
      refine ha_takeP 18 rfl (r_extract rfl rfl) ?_
      refine ha_one 19 ?_
      refine ho_X 19 rfl (rk (x_alloc)) (fun _ => same) fun g3 => ?_
      refine ha_one 20 ?_
      refine ho_S 20 rfl (s_storer rfl rfl) (same) ?_
      refine ha_takeP 21 rfl (r_assign rfl) ?_
      exact ha_done (by kernel_rfl) (h_K (kk g3) (⟨rfl, rfl, rfl, trivial⟩) same)
    · refine ho_X 19 rfl (rk (x_alloc)) (fun _ => same) fun g3 => ?_
      refine ha_one 15 ?_
      refine ho_C 15 rfl ((hRo.comes (hr := inferInstanceAs (Rds _ [HR gh gc n, .rd A (dgs p.ss), TBL])))) rfl rfl rfl (fun xx => same) fun _ => ?_
      refine ha_takeP 16 rfl (r_move rfl) ?_
      refine ha_takeP 17 rfl (r_extract rfl rfl) ?_
      refine ha_takeP 18 rfl (r_extract rfl rfl) ?_
      refine ha_one 20 ?_
      refine ho_S 20 rfl (s_storer rfl rfl) (same) ?_
      refine ha_takeP 21 rfl (r_assign rfl) ?_
      exact ha_done (by kernel_rfl) (h_K (kk g3) (⟨rfl, rfl, rfl, trivial⟩) same)
  rintro g3
  refine q_then ?_
  refine h_seq ?_
  refine ha_start [.rd (some ⟨g, 0, none⟩) (Chk.cells ⟨some ⟨gh, 0, none⟩, ⟨some ⟨bR, oR, none⟩, rb.length, rc⟩, ⟨⟨some ⟨bK, oK, none⟩, kb.length, kc⟩, xv, pr⟩, xb, p.pr A c⟩), .zone false h, .blk g3 (rootP n p (keyOf kb)).cells 41] [] mixed (same) ?_
  refine ha_takeP 0 rfl (r_move rfl) ?_
  refine ha_takeP 1 rfl (r_bool (r_eql rfl rfl) rfl) ?_
  refine ha_takeP 2 rfl (r_move rfl) ?_
  refine ha_take 3 rfl (r_loadr rfl) ?_
  refine ha_takeP 4 rfl (r_move rfl) ?_
  refine ha_takeP 5 rfl (r_nilc rfl) ?_
  refine ha_takeP 6 rfl (r_field rfl) ?_
  refine ha_take 7 rfl (r_loadc rfl) ?_
  refine ha_takeP 8 rfl (r_arr rfl (hm := show 32 ≤ rb.length by omega)) ?_
  refine ha_take 9 rfl (r_loadr rfl) ?_
  refine ha_takeP 10 rfl (r_eqr rfl rfl) ?_
  refine ha_takeP 11 rfl (r_pick rfl rfl) ?_
  refine ha_takeP 12 rfl (r_assign rfl) ?_
  refine ha_done (by kernel_rfl) ?_
  refine q_then ?_
  refine h_ret ?_
  exact h_ret1 rfl rfl fun w s => ⟨(), rfl, (same (L' := [CN gc (k + 1 + p.d + 1)]) w s).res (List.Sublist.refl _) (by simp [Fa.wr])⟩
end
end Go.Proofs.YtgfkbeipckbkiaaGreatDoor
