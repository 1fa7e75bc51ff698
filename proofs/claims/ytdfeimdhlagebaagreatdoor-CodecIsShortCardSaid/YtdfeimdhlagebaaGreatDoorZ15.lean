/- Proofs copied, and held against a claim; When a proof is well-formed: plain; law15.alive: it is true; The zero proof is well-formed; law17.alive: it is true; The reference's proof of a map: List, Bytes, End, Sibling; The reference's proof of a map; The laws' trees: inputs that they leave out; a key's way; The reference's depths and expansion (joined texts: U45 U26p U46 U26z U60 U49 U50 U51t U23) -/
import Derived.Test.YtdfeimdhlagebaaGreatDoorZ14
set_option linter.all false
/- U45 -/
namespace Go.Proofs.YtdfeimdhlagebaaGreatDoor
set_option linter.unusedSimpArgs false
set_option linter.unusedVariables false
open Go.RowKit
theorem CloneD_s (ss : List B32) (B : Option Addr) (c : Nat) (hB : B = none → ss.length = 0 ∧ c = 0) (hl : ss.length * 32 ≤ 140737488355328) : Spec Tryz.prog 119 [.slice B ss.length c].toArray [.rd B (dgs ss)] [] (fun u : Option Addr × Nat => .slice u.1 ss.length u.2) (fun u => [.own (.slice u.1 ss.length u.2) ss.length 31 32 (dgs ss)]) := by
  refine spec_of Tryz.func119 rfl (n := 8) rfl rfl ?_
  intro W
  rcases B with _ | B
  · obtain ⟨h1, h2⟩ := hB rfl
    obtain rfl : ss = [] := List.eq_nil_of_length_eq_zero h1
    refine h_seq ?_
    refine h_reg ?_
    refine h_op (r_assign rfl) ?_
    refine h_nil ?_
    refine q_then ?_
    refine h_seq ?_
    refine h_seq ?_
    refine h_reg ?_
    refine h_op (r_move rfl) ?_
    refine h_op (r_slnil rfl rfl) ?_
    refine h_nil ?_
    refine q_then ?_
    refine h_condT rfl ?_
    refine h_seq ?_
    refine h_reg ?_
    refine h_op (r_assign rfl) ?_
    refine h_nil ?_
    refine q_then ?_
    refine h_ret ?_
    refine q_thenR ?_
    refine h_nil_own 31 32 (xs := dgs []) rfl ?_
    exact h_ret1 rfl rfl fun w s => ⟨(none, 0), rfl, (same w s).res (List.Sublist.refl _) (by simp [Fa.wr])⟩
  · refine h_seq ?_
    refine h_reg ?_
    refine h_op (r_assign rfl) ?_
    refine h_nil ?_
    refine q_then ?_
    refine h_seq ?_
    refine h_seq ?_
    refine h_reg ?_
    refine h_op (r_move rfl) ?_
    refine h_op (r_slnil rfl rfl) ?_
    refine h_nil ?_
    refine q_then ?_
    refine h_condF rfl ?_
    refine h_skip ?_
    refine q_then ?_
    refine h_seq ?_
    refine h_reg ?_
    refine h_opX (x_bsl0) fun g5 => ?_
    refine h_op (r_move rfl) ?_
    refine h_opX (x_appA (cs := dgs ss) rfl rfl hB (by rw [dgs_len]) (dgs_one _)) fun ⟨A7, c7⟩ => ?_
    refine h_op (r_assign rfl) ?_
    refine h_nil ?_
    refine q_then ?_
    refine h_ret ?_
    simp only [Nat.zero_add, List.nil_append]
    exact h_ret1 rfl rfl fun w s => ⟨(A7, c7), rfl, (same w s).res (List.Sublist.refl _) (by simp [Fa.wr])⟩
theorem PClone_s (p : Proof) (ss : List B32) (hs : p.sibs.n = ss.length) (hB : p.sibs.A = none → ss.length = 0 ∧ p.sibs.c = 0) (hl : ss.length * 32 ≤ 140737488355328) : Spec Tryz.prog 85 [.agg p.cells.toArray].toArray [.rd p.sibs.A (dgs ss)] [] (fun u : Option Addr × Nat => .agg (Proof.cells { p with sibs := ⟨u.1, ss.length, u.2⟩ }).toArray) (fun u => [.own (.slice u.1 ss.length u.2) ss.length 31 32 (dgs ss)]) := by
  have hC := CloneD_s ss p.sibs.A p.sibs.c hB hl
  rw [← hs] at hC
  refine spec_of Tryz.func85 rfl (n := 8) rfl rfl ?_
  intro W
  refine h_seq ?_
  refine h_reg ?_
  refine h_opX (x_box rfl) fun g1 => ?_
  refine h_opX (x_alloc) fun g2 => ?_
  refine h_nil ?_
  refine q_then ?_
  refine h_seq ?_
  refine h_reg ?_
  refine h_op (r_field rfl) ?_
  refine h_op (r_loadc rfl) ?_
  refine h_call (hC.comes) rfl rfl rfl fun ⟨A5, c5⟩ => ?_
  dsimp only
  rw [hs]
  refine h_op (r_field rfl) ?_
  refine h_opS (s_store rfl rfl rfl) ?_
  refine h_nil ?_
  refine q_then ?_
  refine h_seq ?_
  refine h_reg ?_
  refine h_op (r_loadr rfl) ?_
  refine h_opS (s_storer rfl rfl) ?_
  refine h_nil ?_
  refine q_then ?_
  refine h_ret ?_
  exact h_ret1 rfl (rv_row rfl) fun w s => ⟨(A5, c5), rfl, (same w s).res (List.Sublist.refl _) (by simp [Fa.wr])⟩
/-- whether a proof's end fits a claim -/
def supP (p : Proof) (key val : B32) (present : Bool) : Bool := if present = true then decide (p.kind = 1 ∧ p.leaf = ⟨key, val⟩) else if p.kind = 1 then decide (p.leaf.key ≠ key ∧ p.depth ≤ (common p.leaf.key key : Int)) else decide (p.kind = 0)
theorem Supports_s (p : Proof) (key val : B32) (present : Bool) : Spec Tryz.prog 43 [.agg p.cells.toArray, .agg key.cells.toArray, .agg val.cells.toArray, .bool present].toArray [] [] (fun _ : Unit => .bool (supP p key val present)) (fun _ => []) := by
  unfold supP
  refine spec_of Tryz.func43 rfl (n := 44) rfl rfl ?_
  intro W
  rcases present with _ | _
  · rw [if_neg (by simp)]
    by_cases h1 : p.kind = 1
    · rw [if_pos h1]
      by_cases h2 : p.leaf.key = key
      · rw [decide_eq_false (show ¬ (p.leaf.key ≠ key ∧ p.depth ≤ (common p.leaf.key key : Int)) from fun e => e.1 h2)]
        refine h_seq ?_
        refine h_reg ?_
        refine h_opX (x_box rfl) fun g4 => ?_
        refine h_opX (x_box rfl) fun g5 => ?_
        refine h_opX (x_box rfl) fun g6 => ?_
        refine h_op (r_assign rfl) ?_
        refine h_nil ?_
        refine q_then ?_
        refine h_seq ?_
        refine h_block ?_
        refine h_seq ?_
        refine h_reg ?_
        refine h_op (r_move rfl) ?_
        refine h_op (r_assign rfl) ?_
        refine h_nil ?_
        refine q_then ?_
        refine h_condF rfl ?_
        refine h_seq ?_
        refine h_reg ?_
        refine h_op (r_field rfl) ?_
        refine h_op (r_loadc rfl) ?_
        refine h_op (r_eql rfl rfl) ?_
        refine h_op (r_assign rfl) ?_
        refine h_nil ?_
        refine q_then ?_
        refine h_yes rfl (h1) ?_
        refine h_seq ?_
        refine ha_start [.blk g4 p.cells 36, .blk g5 key.cells 24] [] mixed (same) ?_
        refine ha_takeP 0 rfl (r_field rfl) ?_
        refine ha_takeP 1 rfl (r_field rfl) ?_
        refine ha_take 2 rfl (r_loadr rfl) ?_
        refine ha_take 3 rfl (r_loadr rfl) ?_
        refine ha_takeP 4 rfl (r_bool (r_ner rfl rfl) (decide_eq_false (fun e => e h2))) ?_
        refine ha_takeP 5 rfl (r_move rfl) ?_
        refine ha_off 6 rfl ?_
        refine ha_off 7 rfl ?_
        refine ha_off 8 rfl ?_
        refine ha_off 9 rfl ?_
        refine ha_off 10 rfl ?_
        refine ha_off 11 rfl ?_
        refine ha_off 12 rfl ?_
        refine ha_off 13 rfl ?_
        refine ha_takeP 14 rfl (r_pick rfl rfl) ?_
        refine ha_takeP 15 rfl (r_assign rfl) ?_
        refine ha_done (by kernel_rfl) ?_
        refine q_then ?_
        refine h_ret ?_
        refine q_blockR ?_
        refine q_thenR ?_
        exact h_ret1 rfl rfl fun w s => ⟨(), rfl, s.res (List.nil_sublist _) (by simp)⟩
      · refine h_seq ?_
        refine h_reg ?_
        refine h_opX (x_box rfl) fun g4 => ?_
        refine h_opX (x_box rfl) fun g5 => ?_
        refine h_opX (x_box rfl) fun g6 => ?_
        refine h_op (r_assign rfl) ?_
        refine h_nil ?_
        refine q_then ?_
        refine h_seq ?_
        refine h_block ?_
        refine h_seq ?_
        refine h_reg ?_
        refine h_op (r_move rfl) ?_
        refine h_op (r_assign rfl) ?_
        refine h_nil ?_
        refine q_then ?_
        refine h_condF rfl ?_
        refine h_seq ?_
        refine h_reg ?_
        refine h_op (r_field rfl) ?_
        refine h_op (r_loadc rfl) ?_
        refine h_op (r_eql rfl rfl) ?_
        refine h_op (r_assign rfl) ?_
        refine h_nil ?_
        refine q_then ?_
        refine h_yes rfl (h1) ?_
        refine h_seq ?_
        refine ha_start [.blk g4 p.cells 36, .blk g5 key.cells 24] [] mixed (same) ?_
        refine ha_takeP 0 rfl (r_field rfl) ?_
        refine ha_takeP 1 rfl (r_field rfl) ?_
        refine ha_take 2 rfl (r_loadr rfl) ?_
        refine ha_take 3 rfl (r_loadr rfl) ?_
        refine ha_takeP 4 rfl (r_bool (r_ner rfl rfl) (decide_eq_true h2)) ?_
        refine ha_takeP 5 rfl (r_move rfl) ?_
        refine ha_takeP 6 rfl (r_field rfl) ?_
        refine ha_takeP 7 rfl (r_field rfl) ?_
        refine ha_take 8 rfl (r_loadr rfl) ?_
        refine ha_take 9 rfl (r_loadr rfl) ?_
        refine ha_takeP 11 rfl (r_field rfl) ?_
        refine ha_take 12 rfl (r_loadc rfl) ?_
        refine ha_one 10 ?_
        refine ho_C 10 rfl ((Common_s p.leaf.key key).comes) rfl rfl rfl (fun _ => same) fun _ => ?_
        refine ha_takeP 13 rfl (r_geq rfl rfl) ?_
        refine ha_takeP 14 rfl (r_pick rfl rfl) ?_
        refine ha_takeP 15 rfl (r_assign rfl) ?_
        refine ha_done (by kernel_rfl) ?_
        refine q_then ?_
        refine h_ret ?_
        refine q_blockR ?_
        refine q_thenR ?_
        exact h_ret1 rfl rfl fun w s => ⟨(), by simp [h2], s.res (List.nil_sublist _) (by simp)⟩
    · rw [if_neg h1]
      refine h_seq ?_
      refine h_reg ?_
      refine h_opX (x_box rfl) fun g4 => ?_
      refine h_opX (x_box rfl) fun g5 => ?_
      refine h_opX (x_box rfl) fun g6 => ?_
      refine h_op (r_assign rfl) ?_
      refine h_nil ?_
      refine q_then ?_
      refine h_seq ?_
      refine h_block ?_
      refine h_seq ?_
      refine h_reg ?_
      refine h_op (r_move rfl) ?_
      refine h_op (r_assign rfl) ?_
      refine h_nil ?_
      refine q_then ?_
      refine h_condF rfl ?_
      refine h_seq ?_
      refine h_reg ?_
      refine h_op (r_field rfl) ?_
      refine h_op (r_loadc rfl) ?_
      refine h_op (r_eql rfl rfl) ?_
      refine h_op (r_assign rfl) ?_
      refine h_nil ?_
      refine q_then ?_
      refine h_no rfl (h1) ?_
      refine h_skip ?_
      refine q_block ?_
      refine q_then ?_
      refine h_seq ?_
      refine h_reg ?_
      refine h_op (r_field rfl) ?_
      refine h_op (r_loadc rfl) ?_
      refine h_op (r_eql rfl rfl) ?_
      refine h_op (r_assign rfl) ?_
      refine h_nil ?_
      refine q_then ?_
      refine h_ret ?_
      exact h_ret1 rfl rfl fun w s => ⟨(), rfl, s.res (List.nil_sublist _) (by simp)⟩
  · rw [if_pos rfl]
    by_cases h1 : p.kind = 1
    · refine h_seq ?_
      refine h_reg ?_
      refine h_opX (x_box rfl) fun g4 => ?_
      refine h_opX (x_box rfl) fun g5 => ?_
      refine h_opX (x_box rfl) fun g6 => ?_
      refine h_op (r_assign rfl) ?_
      refine h_nil ?_
      refine q_then ?_
      refine h_seq ?_
      refine h_block ?_
      refine h_seq ?_
      refine h_reg ?_
      refine h_op (r_move rfl) ?_
      refine h_op (r_assign rfl) ?_
      refine h_nil ?_
      refine q_then ?_
      refine h_condT rfl ?_
      refine h_seq ?_
      refine h_reg ?_
      refine h_op (r_field rfl) ?_
      refine h_op (r_loadc rfl) ?_
      refine h_op (r_bool (r_eql rfl rfl) (decide_eq_true h1)) ?_
      refine h_op (r_move rfl) ?_
      refine h_op (r_field rfl) ?_
      refine h_op (r_loadr rfl) ?_
      refine h_op (r_loadr rfl) ?_
      refine h_op (r_loadr rfl) ?_
      refine h_op (r_build rfl) ?_
      refine h_op (r_eqr rfl rfl) ?_
      refine h_op (r_pick rfl rfl) ?_
      refine h_op (r_assign rfl) ?_
      refine h_nil ?_
      refine q_then ?_
      refine h_ret ?_
      refine q_blockR ?_
      refine q_thenR ?_
      exact h_ret1 rfl rfl fun w s => ⟨(), by simp [h1], s.res (List.nil_sublist _) (by simp)⟩
    · rw [decide_eq_false (show ¬ (p.kind = 1 ∧ p.leaf = ⟨key, val⟩) from fun e => h1 e.1)]
      refine h_seq ?_
      refine h_reg ?_
      refine h_opX (x_box rfl) fun g4 => ?_
      refine h_opX (x_box rfl) fun g5 => ?_
      refine h_opX (x_box rfl) fun g6 => ?_
      refine h_op (r_assign rfl) ?_
      refine h_nil ?_
      refine q_then ?_
      refine h_seq ?_
      refine h_block ?_
      refine h_seq ?_
      refine h_reg ?_
      refine h_op (r_move rfl) ?_
      refine h_op (r_assign rfl) ?_
      refine h_nil ?_
      refine q_then ?_
      refine h_condT rfl ?_
      refine h_seq ?_
      refine h_reg ?_
      refine h_op (r_field rfl) ?_
      refine h_op (r_loadc rfl) ?_
      refine h_op (r_bool (r_eql rfl rfl) (decide_eq_false h1)) ?_
      refine h_op (r_move rfl) ?_
      refine h_opOff ?_
      refine h_opOff ?_
      refine h_opOff ?_
      refine h_opOff ?_
      refine h_opOff ?_
      refine h_opOff ?_
      refine h_op (r_pick rfl rfl) ?_
      refine h_op (r_assign rfl) ?_
      refine h_nil ?_
      refine q_then ?_
      refine h_ret ?_
      refine q_blockR ?_
      refine q_thenR ?_
      exact h_ret1 rfl rfl fun w s => ⟨(), rfl, s.res (List.nil_sublist _) (by simp)⟩
end Go.Proofs.YtdfeimdhlagebaaGreatDoor
/- U26p -/
namespace Go.Proofs.YtdfeimdhlagebaaGreatDoor
set_option linter.unusedSimpArgs false
set_option linter.unusedVariables false
open Go.RowKit
theorem checkP_5 {p : Proof} (h0 : okJ p 0 = true) {j : Nat} (hj : 1 ≤ j ∧ j < 5) (h : okJ p j = false) : checkP p = 5 := by
  unfold checkP
  rw [h0, if_neg (by simp)]
  rcases (show j = 1 ∨ j = 2 ∨ j = 3 ∨ j = 4 by omega) with rfl | rfl | rfl | rfl
  · rw [if_pos h]
  · by_cases h1 : okJ p 1 = false
    · rw [if_pos h1]
    · rw [if_neg h1, if_pos h]
  · by_cases h1 : okJ p 1 = false
    · rw [if_pos h1]
    · by_cases h2 : okJ p 2 = false
      · rw [if_neg h1, if_pos h2]
      · rw [if_neg h1, if_neg h2, if_pos h]
  · by_cases h1 : okJ p 1 = false
    · rw [if_pos h1]
    · by_cases h2 : okJ p 2 = false
      · rw [if_neg h1, if_pos h2]
      · by_cases h3 : okJ p 3 = false
        · rw [if_neg h1, if_neg h2, if_pos h3]
        · rw [if_neg h1, if_neg h2, if_neg h3, if_pos h]
theorem checkP_ok {p : Proof} (h0 : okJ p 0 = true) (h1 : okJ p 1 = true) (h2 : okJ p 2 = true) (h3 : okJ p 3 = true) (h4 : okJ p 4 = true) : checkP p = 0 := by
  unfold checkP
  rw [h0, if_neg (by simp), h1, if_neg (by simp), h2, if_neg (by simp), h3, if_neg (by simp), h4, if_neg (by simp)]
theorem lastI_pos {b : B32} (h : 0 < (depths b).length) : lastI b 256 = (((depths b).getD ((depths b).length - 1) 0 : Nat) : Int) := by
  rw [lastI_depths, List.getLast?_eq_getElem?, List.getD]
  cases hx : (depths b)[(depths b).length - 1]? with
  | none => rw [List.getElem?_eq_none_iff] at hx; omega
  | some i => rfl
theorem lastI_nil {b : B32} (h : (depths b).length = 0) : lastI b 256 = -1 := by
  rw [lastI_depths, List.eq_nil_of_length_eq_zero h]
  rfl
end Go.Proofs.YtdfeimdhlagebaaGreatDoor
/- U46 -/
namespace Go.Proofs.YtdfeimdhlagebaaGreatDoor
set_option linter.unusedSimpArgs false
set_option linter.unusedVariables false
open Go.RowKit
/-- the deepest subtree beside the way is not empty -/
def LastOk (key : B32) (t : Tr) (D : Nat) : Prop := ∀ i, D = i + 1 → (sibK key t i).kind ≠ 0
theorem prf_depths {key : B32} {t : Tr} {D : Nat} (hD : D ≤ 256) : depths (dset (dsK key t D)) = dsK key t D :=
  dset_depths ((List.pairwise_lt_range).filter _) fun i hi => by have := dsK_lt hi; omega
theorem prf_ok (n : Nat) {key : B32} {t : Tr} {D : Nat} (hD : WayTo key t D) (hL : LastOk key t D) (A : Option Addr) (c : Nat) : checkP (prfK n key t D A c) = 0 := by
  have hle := hD.le
  have hdep := prf_depths (key := key) (t := t) hle
  have hk : (wayK key t D).kind = 0 ∨ (wayK key t D).kind = 1 := by
    have := hD.end_
    generalize wayK key t D = x at *
    cases x with
    | nil => exact .inl rfl
    | leaf k v => exact .inr rfl
    | node l r => exact (this rfl).elim
  refine checkP_ok ?_ ?_ ?_ ?_ ?_
  · show (decide (((wayK key t D).kind : Int) = 0) || decide (((wayK key t D).kind : Int) = 1)) = true
    rcases hk with h | h <;> rw [h] <;> rfl
  · show (decide (0 ≤ (D : Int)) && decide ((D : Int) ≤ 256)) = true
    simp; omega
  · show (decide (((wayK key t D).kind : Int) = 1) || decide (leafT n (wayK key t D) = zLeaf)) = true
    rcases hk with h | h
    · rw [leafT_ne n _ (by omega)]; simp
    · rw [h]; rfl
  · show decide (lastI (dset (dsK key t D)) 256 = (D : Int) - 1) = true
    refine decide_eq_true ?_
    rcases D with _ | i
    · rw [lastI_nil (by rw [hdep]; rfl)]; rfl
    · have h1 := dsK_yes (hL i rfl)
      rw [lastI_pos (by rw [hdep, h1]; simp), hdep, h1]
      simp
  · show decide (((depths (dset (dsK key t D))).length : Int) = ((dsK key t D).length : Int)) = true
    rw [hdep]; simp
theorem rsK_len (n : Nat) (key : B32) (t : Tr) (D : Nat) : (rsK n key t D).length = (dsK key t D).length := by unfold rsK; rw [List.length_map]
def kB (x : UInt8) : B32 := ⟨x :: List.replicate 31 0, rfl⟩
def T15 : Tr := .node (.leaf zB32 []) (.leaf (kB 255) [])
def L15 : List En := [⟨⟨zB32, ⟨none, 0, 0⟩⟩, []⟩, ⟨⟨kB 255, ⟨none, 0, 0⟩⟩, []⟩]
def ts15 : Nat → Tr
  | 0 => .nil
  | 1 => .leaf zB32 []
  | _ => T15
theorem slz_nil (h : Zh) : SlZ h ⟨none, 0, 0⟩ [] := ⟨rfl, Nat.le_refl _, fun _ => ⟨rfl, rfl⟩, RdZ.nil _ _⟩
theorem puts15 : Puts L15 ts15 := by
  intro i e he
  match i, he with
  | 0, he =>
    obtain rfl : _ = e := Option.some.inj he
    exact ⟨by decide, 0, ⟨by omega, (by intro h; cases h), (fun i hi => by omega)⟩, (fun k' v' h => by cases h), rfl⟩
  | 1, he =>
    obtain rfl : _ = e := Option.some.inj he
    refine ⟨by decide, 0, ⟨by omega, (by intro h; cases h), (fun i hi => by omega)⟩, fun k' v' _ _ => Nat.zero_le _, ?_⟩
    have h1 : ¬ zB32 = kB 255 := by decide
    have h2 : common zB32 (kB 255) = 0 := by decide +kernel
    have h3 : bitAt zB32 0 = false := by decide +kernel
    show T15 = upD (kB 255) _ 0 (if zB32 = kB 255 then _ else pairT (.leaf zB32 []) (.leaf (kB 255) []) 0)
    rw [if_neg h1]
    show T15 = pairT (.leaf zB32 []) (.leaf (kB 255) []) 0
    unfold pairT
    show T15 = upN zB32 0 (common zB32 (kB 255) - 0) (jnK zB32 (common zB32 (kB 255)) _ _)
    rw [h2]
    show T15 = jnK zB32 0 _ _
    unfold jnK
    rw [h3, if_neg (by simp)]
    rfl
  | i + 2, he => cases he
theorem vals15 (h : Zh) : ValsZ h L15 := by
  intro e he
  simp only [L15, List.mem_cons, List.not_mem_nil, or_false] at he
  rcases he with rfl | rfl
  · exact ⟨slz_nil h, by decide⟩
  · exact ⟨slz_nil h, by decide⟩
theorem b128 : bitAt (kB 128) 0 = true := by decide +kernel
theorem way15 : WayTo (kB 128) T15 1 := by
  have e : wayK (kB 128) T15 1 = .leaf (kB 255) [] := by
    show T15.sub (bitAt (kB 128) 0) = _
    rw [b128]; rfl
  refine ⟨by omega, by rw [e]; decide, fun i hi => ?_⟩
  obtain rfl : i = 0 := by omega
  rfl
theorem last15 : LastOk (kB 128) T15 1 := by
  intro i hi
  obtain rfl : i = 0 := by omega
  show (T15.sub (!bitAt (kB 128) 0)).kind ≠ 0
  rw [b128]; decide
theorem prf15 (A : Option Addr) (c : Nat) : prfK 256 (kB 128) T15 1 A c = ⟨1, 1, leafOf 256 (kB 255) [], dset [0], ⟨A, 1, c⟩⟩ := by
  have e : wayK (kB 128) T15 1 = .leaf (kB 255) [] := by
    show T15.sub (bitAt (kB 128) 0) = _
    rw [b128]; rfl
  have e2 : dsK (kB 128) T15 1 = [0] := by rw [dsK_yes (last15 0 rfl)]; rfl
  unfold prfK
  rw [e, e2]
  rfl
theorem z7 : prfK 256 (kB 7) .nil 0 none 0 = zProof := by
  unfold prfK
  show (⟨0, 0, zLeaf, dset [], ⟨none, 0, 0⟩⟩ : Proof) = zProof
  rw [dset_nil]; rfl
end Go.Proofs.YtdfeimdhlagebaaGreatDoor
/- U26z -/
namespace Go.Proofs.YtdfeimdhlagebaaGreatDoor
set_option linter.unusedSimpArgs false
set_option linter.unusedVariables false
open Go.RowKit
instance (L : List Fa) (A : Option Addr) : Rd1 L (.rd A (dgs [])) := inferInstanceAs (Rd1 L (.rd A []))
theorem depths_z : depths zB32 = [] := by
  unfold depths
  rw [List.filter_eq_nil_iff]
  intro i _
  rw [bitAt_zero]
  simp
theorem check_z : checkP zProof = 0 := checkP_ok rfl rfl rfl (by
  show decide (lastI zB32 256 = 0 - 1) = true
  rw [lastI_nil (b := zB32) (by rw [depths_z]; rfl)]
  rfl) (by
  show decide (((depths zB32).length : Int) = (0 : Nat)) = true
  rw [depths_z]
  rfl)
end Go.Proofs.YtdfeimdhlagebaaGreatDoor
/- U60 -/
namespace Go.Proofs.YtdfeimdhlagebaaGreatDoor
set_option linter.unusedSimpArgs false
set_option linter.unusedVariables false
open Go.RowKit
abbrev lf17 : Leaf := ⟨kB 7, zB32⟩
abbrev P17 (A : Option Addr) (c : Nat) : Proof := ⟨((1 : Nat) : Int), ((0 : Nat) : Int), lf17, zB32, ⟨A, ([] : List B32).length, c⟩⟩
theorem ok17 (A : Option Addr) (c : Nat) : checkP (P17 A c) = 0 := checkP_ok rfl rfl rfl (by
  show decide (lastI zB32 256 = 0 - 1) = true
  rw [lastI_nil (b := zB32) (by rw [depths_z]; rfl)]
  rfl) (by
  show decide (((depths zB32).length : Int) = (0 : Nat)) = true
  rw [depths_z]
  rfl)
def e17a : List UInt8 := encC 0 0 zLeaf zB32 []
def e17b : List UInt8 := encC 1 0 lf17 zB32 []
theorem len17a : e17a.length = 36 := rfl
theorem len17b : e17b.length = 100 := rfl
theorem want17 : (List.replicate 36 (0 : UInt8)).set 0 (UInt8.ofBitVec 1) = e17a := rfl
theorem enc17a : Spec Tryz.prog 14 [.agg zProof.cells.toArray].toArray [.rd none (dgs [])] [] (fun u : Option Addr × Nat => .tuple #[.slice u.1 36 u.2, .int .i64 0]) (fun u => [.own (.slice u.1 36 u.2) 36 5 1 (bc e17a)]) := cEncode_s zProof 0 0 check_z rfl rfl (.inl rfl) [] rfl
theorem enc17b : Spec Tryz.prog 14 [.agg (P17 none 0).cells.toArray].toArray [.rd none (dgs [])] [] (fun u : Option Addr × Nat => .tuple #[.slice u.1 100 u.2, .int .i64 0]) (fun u => [.own (.slice u.1 100 u.2) 100 5 1 (bc e17b)]) := cEncode_s (P17 none 0) 1 0 (ok17 none 0) rfl rfl (.inr rfl) [] rfl
theorem size17 : Spec Tryz.prog 50 [.agg (P17 none 0).cells.toArray].toArray [] [] (fun _ : Unit => .int .i64 100) (fun _ => []) := cSize_s (P17 none 0) 1 (ok17 none 0) rfl (.inr rfl)
theorem eq17 (A : Option Addr) (c : Nat) : Spec Tryz.prog 39 [.agg (P17 none 0).cells.toArray, .agg (P17 A c).cells.toArray].toArray [.rd none (dgs []), .rd A (dgs [])] [] (fun _ : Unit => .bool true) (fun _ => []) := by
  have := rEqual_s (P17 none 0) (P17 A c) [] [] rfl rfl (by decide) (by decide)
  rw [decide_eq_true (show eqP (P17 none 0) (P17 A c) [] [] from ⟨rfl, rfl, rfl, rfl, rfl⟩)] at this
  exact this
theorem kind17 (A : Option Addr) (c : Nat) : Spec Tryz.prog 49 [.slice A 100 c].toArray [.rd A (bc e17b)] [] (fun _ : Unit => .tuple #[.int .i64 1, .int .i64 0]) (fun _ => []) := cKind_s e17b A c (by rw [len17b]; decide) rfl
theorem same17 (A B : Option Addr) (c c' : Nat) : Spec Tryz.prog 36 [.slice A 36 c, .slice B 36 c'].toArray [.rd A (bc e17a), .rd B (bc e17a)] [] (fun _ : Unit => .bool true) (fun _ => []) := Same_yes e17a A B c c' (by rw [len17a]; decide)
theorem dec17 (h : Zh) (A : Option Addr) (c : Nat) (hc : 100 ≤ c) [hB : RdZ h A (bc e17b)] : Spec Tryz.prog 48 [.slice A 100 c].toArray [.zone false h] [] (fun u : Option Addr × Nat => .tuple #[.agg (P17 u.1 u.2).cells.toArray, .int .i64 0]) (fun u => [.own (.slice u.1 0 u.2) 0 31 32 (dgs [])]) :=
  Decode_enc h 1 0 lf17 zB32 [] (.inr rfl) (by decide) ok17 (fun h => by cases h) A c hc (hB := hB)
theorem fill17 : Instr.fill (plArr 1) zB32.cells.toArray [(0, Value.int .u8 7)] = some (kB 7).cells.toArray := by kernel_rfl
theorem alive17_s (h : Zh) : Spec Tryz.prog 12 ([] : List Value).toArray [] [.zone true h] (fun _ : {x : Zh // LeZ h x} => .bool true) (fun x => [.zone true x.1]) := by
  refine spec_of Tryz.func12 rfl (n := 75) rfl rfl ?_
  intro W
  refine h_seq ?_
  refine h_reg ?_
  refine h_op (r_assign rfl) ?_
  refine h_nil ?_
  refine q_then ?_
  refine h_seq ?_
  refine h_reg ?_
  refine h_op (r_build rfl) ?_
  refine h_call (enc17a.comes) rfl rfl rfl fun ⟨A13, c13⟩ => ?_
  dsimp only
  refine h_op (r_move rfl) ?_
  refine h_op (r_extract rfl rfl) ?_
  refine h_op (r_extract rfl rfl) ?_
  refine h_op (r_assign rfl) ?_
  refine h_op (r_assign rfl) ?_
  refine h_nil ?_
  refine q_then ?_
  refine h_seq ?_
  refine h_reg ?_
  refine h_opX (x_makeB rfl rfl) fun g16 => ?_
  refine h_op (r_assign rfl) ?_
  refine h_nil ?_
  refine q_then ?_
  refine h_seq ?_
  refine h_reg ?_
  refine h_op (r_move rfl) ?_
  refine h_op (r_idx rfl rfl) ?_
  refine h_opS (s_setBO rfl rfl (hf := by simp)) ?_
  refine h_nil ?_
  refine q_then ?_
  refine h_seq ?_
  refine h_reg ?_
  refine h_op (r_build (out := (kB 7).cells) rfl (hf := ⟨fill17⟩)) ?_
  refine h_op (r_build rfl) ?_
  refine h_op (r_build rfl) ?_
  refine h_opX (x_alloc) fun g4 => ?_
  refine h_opS (s_storer rfl rfl) ?_
  refine h_nil ?_
  refine q_then ?_
  refine h_seq ?_
  rw [want17]
  change H _ _ _ _ _ (.blk g4 (P17 none 0).cells _ :: _) _
  refine h_reg ?_
  refine h_op (r_loadr rfl) ?_
  refine h_call (enc17b.comes) rfl rfl rfl fun ⟨A24, c24⟩ => ?_
  dsimp only
  refine h_freezeO (.slice A24 100 c24) fun h1 B1 c1 e1 hle1 hlen1 hnil1 hz1 hr1 => ?_
  injection e1 with e1 _ e2
  subst e1 e2
  refine h_op (r_move rfl) ?_
  refine h_op (r_extract rfl rfl) ?_
  refine h_op (r_extract rfl rfl) ?_
  refine h_op (r_assign rfl) ?_
  refine h_op (r_assign rfl) ?_
  refine h_nil ?_
  refine q_then ?_
  refine h_seq ?_
  refine h_reg ?_
  refine h_op (r_move rfl) ?_
  refine h_call ((dec17 h1 A24 c24 hle1).comes) rfl rfl rfl fun ⟨A29, c29⟩ => ?_
  dsimp only
  refine h_op (r_move rfl) ?_
  refine h_op (r_extract rfl rfl) ?_
  refine h_op (r_extract rfl rfl) ?_
  refine h_opX (x_alloc) fun g7 => ?_
  refine h_opS (s_storer rfl rfl) ?_
  refine h_op (r_assign rfl) ?_
  refine h_nil ?_
  refine q_then ?_
  refine h_seq ?_
  refine h_reg ?_
  refine h_op (r_move rfl) ?_
  refine h_call ((kind17 A24 c24).comes) rfl rfl rfl fun _ => ?_
  refine h_op (r_move rfl) ?_
  refine h_op (r_extract rfl rfl) ?_
  refine h_op (r_extract rfl rfl) ?_
  refine h_op (r_assign rfl) ?_
  refine h_op (r_assign rfl) ?_
  refine h_nil ?_
  refine q_then ?_
  refine h_seq ?_
  refine h_reg ?_
  refine h_op (r_move rfl) ?_
  refine h_op (r_move rfl) ?_
  refine h_call ((same17 A13 (some ⟨g16, 0, none⟩) c13 36).comes) rfl rfl rfl fun _ => ?_
  refine h_op (r_move rfl) ?_
  refine h_op (r_move rfl) ?_
  refine h_op (r_bool (r_eql rfl rfl) (show _ = true from rfl)) ?_
  refine h_op (r_pick rfl rfl) ?_
  refine h_op (r_move rfl) ?_
  refine h_op (r_move rfl) ?_
  refine h_op (r_len rfl) ?_
  refine h_op (r_bool (r_eql rfl rfl) (show _ = true from rfl)) ?_
  refine h_op (r_pick rfl rfl) ?_
  refine h_op (r_move rfl) ?_
  refine h_op (r_move rfl) ?_
  refine h_op (r_bool (r_eql rfl rfl) (show _ = true from rfl)) ?_
  refine h_op (r_pick rfl rfl) ?_
  refine h_op (r_move rfl) ?_
  refine h_op (r_loadr rfl) ?_
  refine h_op (r_loadr rfl) ?_
  refine h_call ((eq17 A29 c29).comes) rfl rfl rfl fun _ => ?_
  refine h_op (r_pick rfl rfl) ?_
  refine h_op (r_move rfl) ?_
  refine h_op (r_move rfl) ?_
  refine h_op (r_bool (r_eql rfl rfl) (show _ = true from rfl)) ?_
  refine h_op (r_pick rfl rfl) ?_
  refine h_op (r_move rfl) ?_
  refine h_op (r_move rfl) ?_
  refine h_op (r_bool (r_eql rfl rfl) (show _ = true from rfl)) ?_
  refine h_op (r_pick rfl rfl) ?_
  refine h_op (r_move rfl) ?_
  refine h_op (r_move rfl) ?_
  refine h_op (r_bool (r_eql rfl rfl) (show _ = true from rfl)) ?_
  refine h_op (r_pick rfl rfl) ?_
  refine h_op (r_move rfl) ?_
  refine h_op (r_loadr rfl) ?_
  refine h_call (size17.comes) rfl rfl rfl fun _ => ?_
  refine h_op (r_bool (r_eql rfl rfl) (show _ = true from rfl)) ?_
  refine h_op (r_pick rfl rfl) ?_
  refine h_op (r_assign rfl) ?_
  refine h_nil ?_
  refine q_then ?_
  refine h_ret ?_
  exact h_ret1 rfl rfl fun w s => ⟨⟨h1, hz1⟩, rfl, (same (L' := [.zone true h1]) w s).res (List.Sublist.refl _) (by simp [Fa.wr])⟩
end Go.Proofs.YtdfeimdhlagebaaGreatDoor
/- U49 -/
namespace Go.Proofs.YtdfeimdhlagebaaGreatDoor
set_option linter.unusedSimpArgs false
set_option linter.unusedVariables false
open Go.RowKit
/-! sets of depths -/
def lstK (l : List Nat) (k : Nat) : List Nat := (List.range k).filter fun i => decide (i ∈ l)
theorem lstK_yes {l : List Nat} {k : Nat} (h : k ∈ l) : lstK l (k + 1) = lstK l k ++ [k] := by
  unfold lstK
  rw [List.range_succ, List.filter_append, List.filter_cons_of_pos (by simpa using h)]
  rfl
theorem lstK_no {l : List Nat} {k : Nat} (h : k ∉ l) : lstK l (k + 1) = lstK l k := by
  unfold lstK
  rw [List.range_succ, List.filter_append, List.filter_cons_of_neg (by simpa using h), List.filter_nil, List.append_nil]
theorem lstK_len (l : List Nat) (k : Nat) : (lstK l k).length ≤ k := by
  have := List.length_filter_le (fun i => decide (i ∈ l)) (List.range k)
  rw [List.length_range] at this
  exact this
theorem lstK_all {l : List Nat} (h1 : l.Pairwise (· < ·)) (h2 : ∀ i ∈ l, i < 256) : lstK l 256 = l := by
  have e : depths (dset l) = lstK l 256 := by
    apply List.filter_congr
    intro i hi
    exact dset_bit l i (List.mem_range.1 hi)
  rw [← e]
  exact dset_depths h1 h2
theorem mem_take_succ {l : List Nat} {j k : Nat} (hj : j < l.length) : k ∈ l.take (j + 1) ↔ k ∈ l.take j ∨ l.getD j 0 = k := by
  rw [List.take_add_one, List.getElem?_eq_getElem hj, Option.toList_some, List.mem_append, List.mem_singleton, List.getD_eq_getElem?_getD, List.getElem?_eq_getElem hj, Option.getD_some]
  constructor <;> (rintro (h | h) <;> first | exact .inl h | exact .inr h.symm)
theorem rList14_s (l : List Nat) (A : Option Addr) (c : Nat) (hl : l.length ≤ 100000) : Spec Tryz.prog 93 [.slice A l.length c].toArray [.rd A (ic l)] [] (fun u : Option Addr × Nat => .slice u.1 (lstK l 256).length u.2) (fun u => [.own (.slice u.1 (lstK l 256).length u.2) (lstK l 256).length 3 1 (ic (lstK l 256))]) := by
  refine spec_of Tryz.func93 rfl (n := 29) rfl rfl ?_
  intro W
  refine h_seq ?_
  refine h_reg ?_
  refine h_op (r_assign rfl) ?_
  refine h_nil ?_
  refine q_then ?_
  refine h_seq ?_
  refine h_reg ?_
  refine h_op (r_assign rfl) ?_
  refine h_nil ?_
  refine q_then ?_
  refine h_seq ?_
  refine h_seq ?_
  refine h_reg ?_
  refine h_op (r_assign rfl) ?_
  refine h_nil ?_
  refine q_then ?_
  refine h_block ?_
  refine h_nil_own 3 1 (xs := ic (lstK l 0)) rfl ?_
  change H _ _ _ _ _ (.own (.slice none (lstK l 0).length 0) (lstK l 0).length _ _ _ :: _) _
  refine h_loop (fun (s : Nat × Option Addr × Nat) => s.1 ≤ 256) (fun (s : Nat × Option Addr × Nat) => [(4, .int .i64 (s.1 : Int)), (3, .slice s.2.1 (lstK l s.1).length s.2.2), (0, .slice A l.length c)]) (fun (s : Nat × Option Addr × Nat) => [.own (.slice s.2.1 (lstK l s.1).length s.2.2) (lstK l s.1).length 3 1 (ic (lstK l s.1)), .rd A (ic l)]) (fun (s : Nat × Option Addr × Nat) => 256 - s.1) (0, none, 0) ((show 0 ≤ 256 by omega)) ⟨rfl, rfl, rfl, trivial⟩ (same) ?_
  rintro ⟨k, B, c'⟩ hk
  dsimp only at hk ⊢
  have hd := lstK_len l k
  refine h_seq ?_
  refine h_seq ?_
  refine h_reg ?_
  refine h_op (r_move rfl) ?_
  refine h_op (r_lss rfl rfl) ?_
  refine h_nil ?_
  refine q_then ?_
  refine h_cond rfl (fun h => ?_) (fun h => ?_)
  · refine h_skip ?_
    refine q_then ?_
    refine h_seq ?_
    refine h_block ?_
    refine h_seq ?_
    refine h_reg ?_
    refine h_op (r_assign rfl) ?_
    refine h_nil ?_
    refine q_then ?_
    refine h_seq ?_
    refine h_seq ?_
    refine h_reg ?_
    refine h_op (r_assign rfl) ?_
    refine h_nil ?_
    refine q_then ?_
    refine h_block ?_
    refine h_loop (fun (s : Nat × Bool) => s.1 ≤ l.length ∧ s.2 = decide (k ∈ l.take s.1)) (fun (s : Nat × Bool) => [(6, .int .i64 (s.1 : Int)), (5, .bool s.2), (4, .int .i64 (k : Int)), (3, .slice B (lstK l k).length c'), (0, .slice A l.length c)]) (fun (s : Nat × Bool) => [.own (.slice B (lstK l k).length c') (lstK l k).length 3 1 (ic (lstK l k)), .rd A (ic l)]) (fun (s : Nat × Bool) => l.length - s.1) (0, false) (⟨Nat.zero_le _, (decide_eq_false (by simp)).symm⟩) ⟨rfl, rfl, rfl, rfl, rfl, trivial⟩ (same) ?_
    rintro ⟨j, b⟩ ⟨hj, hb⟩
    dsimp only at hj hb ⊢
    refine h_seq ?_
    refine h_seq ?_
    refine h_reg ?_
    refine h_op (r_move rfl) ?_
    refine h_op (r_move rfl) ?_
    refine h_op (r_len rfl) ?_
    refine h_op (r_lss rfl rfl) ?_
    refine h_nil ?_
    refine q_then ?_
    refine h_cond rfl (fun h2 => ?_) (fun h2 => ?_)
    · have hj2 : j < l.length := by omega
      refine h_pure (φ := ∃ b o, A = some ⟨b, o, none⟩) (fun w s => Rd.some (s.ok (.rd A (ic l)) (by simp)) (by rw [ic_len]; omega)) ?_
      rintro ⟨bb, o, rfl⟩
      refine h_skip ?_
      refine q_then ?_
      refine h_seq ?_
      refine h_block ?_
      refine h_seq ?_
      refine h_reg ?_
      refine h_op (r_move rfl) ?_
      refine h_op (r_move rfl) ?_
      refine h_op (r_idx rfl rfl) ?_
      refine h_op (r_nth rfl (ic_at hj2)) ?_
      refine h_op (r_move rfl) ?_
      refine h_op (r_eql rfl rfl) ?_
      refine h_nil ?_
      refine q_then ?_
      refine h_cond rfl (fun h3 => ?_) (fun h3 => ?_)
      · have hb2 : true = decide (k ∈ l.take (j + 1)) := (decide_eq_true ((mem_take_succ hj2).2 (.inr (by omega)))).symm
        refine h_reg ?_
        refine h_op (r_assign rfl) ?_
        refine h_nil ?_
        refine q_block ?_
        refine q_then ?_
        refine h_reg ?_
        refine h_op (r_move rfl) ?_
        refine h_op (r_add rfl rfl) ?_
        refine h_op (r_assign rfl) ?_
        refine h_nil ?_
        exact h_back (j + 1, true) (⟨(show j + 1 ≤ l.length by omega), hb2⟩) ((show l.length - (j + 1) < l.length - j by omega)) ⟨rfl, rfl, rfl, rfl, rfl, trivial⟩ (same)
      · have hb2 : b = decide (k ∈ l.take (j + 1)) := by
          rw [hb]
          exact decide_eq_decide.2 ⟨fun h => (mem_take_succ hj2).2 (.inl h), fun h => ((mem_take_succ hj2).1 h).elim id fun e => (h3 (by omega)).elim⟩
        refine h_skip ?_
        refine q_block ?_
        refine q_then ?_
        refine h_reg ?_
        refine h_op (r_move rfl) ?_
        refine h_op (r_add rfl rfl) ?_
        refine h_op (r_assign rfl) ?_
        refine h_nil ?_
        exact h_back (j + 1, b) (⟨(show j + 1 ≤ l.length by omega), hb2⟩) ((show l.length - (j + 1) < l.length - j by omega)) ⟨rfl, rfl, rfl, rfl, rfl, trivial⟩ (same)
    · obtain rfl : j = l.length := by omega
      rw [List.take_length] at hb
      by_cases hm : k ∈ l
      · obtain rfl : b = true := by rw [hb]; exact decide_eq_true hm
        have he := lstK_yes hm
        have hl2 : (lstK l k).length + 1 = (lstK l (k + 1)).length := by rw [he]; simp
        refine h_exit ?_
        refine q_thenE ?_
        refine q_thenE ?_
        refine q_blockE ?_
        refine q_then ?_
        refine h_seq ?_
        refine h_reg ?_
        refine h_op (r_move rfl) ?_
        refine h_nil ?_
        refine q_then ?_
        refine h_condT rfl ?_
        refine h_reg ?_
        refine h_op (r_move rfl) ?_
        refine h_op (r_move rfl) ?_
        refine h_opX (x_bsl rfl rfl) fun g26 => ?_
        refine h_opX (x_app1I rfl rfl (hN := hl2)) fun ⟨g27, c27⟩ => ?_
        refine h_op (r_assign rfl) ?_
        refine h_nil ?_
        refine q_block ?_
        refine q_then ?_
        refine h_reg ?_
        refine h_op (r_move rfl) ?_
        refine h_op (r_add rfl rfl) ?_
        refine h_op (r_assign rfl) ?_
        refine h_nil ?_
        rw [← he]
        exact h_back (k + 1, some ⟨g27, 0, none⟩, c27) ((show k + 1 ≤ 256 by omega)) ((show 256 - (k + 1) < 256 - k by omega)) ⟨rfl, rfl, rfl, trivial⟩ (same)
      · obtain rfl : b = false := by rw [hb]; exact decide_eq_false hm
        have he := lstK_no hm
        refine h_exit ?_
        refine q_thenE ?_
        refine q_thenE ?_
        refine q_blockE ?_
        refine q_then ?_
        refine h_seq ?_
        refine h_reg ?_
        refine h_op (r_move rfl) ?_
        refine h_nil ?_
        refine q_then ?_
        refine h_condF rfl ?_
        refine h_skip ?_
        refine q_block ?_
        refine q_then ?_
        refine h_reg ?_
        refine h_op (r_move rfl) ?_
        refine h_op (r_add rfl rfl) ?_
        refine h_op (r_assign rfl) ?_
        refine h_nil ?_
        rw [← he]
        exact h_back (k + 1, B, c') ((show k + 1 ≤ 256 by omega)) ((show 256 - (k + 1) < 256 - k by omega)) ⟨rfl, rfl, rfl, trivial⟩ (same)
  · obtain rfl : k = 256 := by omega
    refine h_exit ?_
    refine q_thenE ?_
    refine q_thenE ?_
    refine q_blockE ?_
    refine q_then ?_
    refine h_seq ?_
    refine h_reg ?_
    refine h_op (r_move rfl) ?_
    refine h_op (r_assign rfl) ?_
    refine h_nil ?_
    refine q_then ?_
    refine h_ret ?_
    exact h_ret1 rfl rfl fun w s => ⟨(B, c'), rfl, s.res ((List.nil_sublist _).cons_cons _) (by simp [Fa.wr])⟩
theorem add_bv (x : UInt8) (j : Nat) (h : bbit x j = false) : UInt8.ofBitVec (x.toBitVec + BitVec.ofNat 8 (2 ^ (7 - j))) = flipB x j := by
  rw [← flip_up x j h, BitVec.ofNat_add]
  congr 2
  exact (BitVec.ofNat_toNat 8 x.toBitVec).symm ▸ by simp
theorem rBytes14_s (l : List Nat) (h1 : l.Pairwise (· < ·)) (h2 : ∀ i ∈ l, i < 256) (A : Option Addr) (c : Nat) (hl : l.length ≤ 100000) : Spec Tryz.prog 53 [.slice A l.length c].toArray [.rd A (ic l)] [] (fun _ : Unit => .agg (dset l).cells.toArray) (fun _ => []) := by
  have hL := rList14_s l A c hl
  rw [lstK_all h1 h2] at hL
  refine spec_of Tryz.func53 rfl (n := 39) rfl rfl ?_
  intro W
  refine h_seq ?_
  refine h_reg ?_
  refine h_opX (x_alloc) fun g2 => ?_
  refine h_nil ?_
  refine q_then ?_
  refine h_seq ?_
  refine h_reg ?_
  refine h_opX (x_alloc) fun g3 => ?_
  refine h_nil ?_
  refine q_then ?_
  refine h_seq ?_
  refine h_reg ?_
  refine h_op (r_move rfl) ?_
  refine h_call (hL.comes) rfl rfl rfl fun ⟨A9, c9⟩ => ?_
  dsimp only
  refine h_pure (φ := ∀ i, i < l.length → ∃ g, A9 = some ⟨g, 0, none⟩) (fun w s i hi => s.ownSome (N := l.length) (c := c9) (by omega)) fun hA9 => ?_
  refine h_op (r_assign rfl) ?_
  refine h_nil ?_
  refine q_then ?_
  refine h_seq ?_
  refine h_seq ?_
  refine h_reg ?_
  refine h_op (r_assign rfl) ?_
  refine h_nil ?_
  refine q_then ?_
  refine h_block ?_
  rw [show zB32.cells = (dset (l.take 0)).cells by rw [List.take_zero, dset_nil]]
  refine h_loop (fun (j : Nat) => j ≤ l.length) (fun (j : Nat) => [(5, .int .i64 (j : Int)), (4, .slice A9 l.length c9), (3, .pointer (some ⟨g3, 0, none⟩)), (2, .pointer (some ⟨g2, 0, none⟩))]) (fun (j : Nat) => [.own (.slice A9 l.length c9) l.length 3 1 (ic l), .blk g3 (dset (l.take j)).cells 23, .blk g2 (dset (l.take 0)).cells 23]) (fun (j : Nat) => l.length - j) 0 (Nat.zero_le _) ⟨rfl, rfl, rfl, rfl, trivial⟩ (same) ?_
  rintro j hj
  refine h_seq ?_
  refine h_seq ?_
  refine h_reg ?_
  refine h_op (r_move rfl) ?_
  refine h_op (r_move rfl) ?_
  refine h_op (r_len rfl) ?_
  refine h_op (r_lss rfl rfl) ?_
  refine h_nil ?_
  refine q_then ?_
  refine h_cond rfl (fun h => ?_) (fun h => ?_)
  · have hj2 : j < l.length := by omega
    obtain ⟨g, rfl⟩ := hA9 j hj2
    have hget := ic_at hj2
    have hmem : l.getD j 0 ∈ l := by rw [List.getD_eq_getElem?_getD, List.getElem?_eq_getElem hj2, Option.getD_some]; exact List.getElem_mem hj2
    have hni : l.getD j 0 ∉ l.take j := by
      intro hm
      rw [List.getD_eq_getElem?_getD, List.getElem?_eq_getElem hj2, Option.getD_some] at hm
      obtain ⟨q, hq, he⟩ := List.mem_iff_getElem.1 hm
      have hql : q < j := by rw [List.length_take] at hq; omega
      have := List.pairwise_iff_getElem.1 h1 q j (by omega) hj2 hql
      rw [List.getElem_take] at he
      omega
    have htk : l.take (j + 1) = l.take j ++ [l.getD j 0] := by rw [List.take_add_one, List.getElem?_eq_getElem hj2, List.getD_eq_getElem?_getD, List.getElem?_eq_getElem hj2]; rfl
    have hi := h2 _ hmem
    generalize l.getD j 0 = i at *
    have hbit : bbit ((dset (l.take j)).1.getD (i / 8) 0) (i % 8) = false := by
      have := dset_bit (l.take j) i hi
      rw [decide_eq_false hni] at this
      exact this
    have hsn : dset (l.take (j + 1)) = flipAt (dset (l.take j)) i := by rw [htk, dset_snoc _ _ hi hni]
    have hf : (dset (l.take j)).1.set (i / 8) (UInt8.ofBitVec (((dset (l.take j)).1.getD (i / 8) 0).toBitVec + BitVec.ofNat 8 (2 ^ (7 - i % 8)))) = (flipAt (dset (l.take j)) i).1 := by rw [add_bv _ _ hbit]; rfl
    have hb2 := (dset (l.take j)).2
    generalize dset (l.take j) = b at *
    refine h_skip ?_
    refine q_then ?_
    refine h_seq ?_
    refine h_block ?_
    refine h_seq ?_
    refine h_reg ?_
    refine h_op (r_assign rfl) ?_
    refine h_nil ?_
    refine q_then ?_
    refine h_seq ?_
    refine h_seq ?_
    refine h_reg ?_
    refine h_op (r_move rfl) ?_
    refine h_op (r_move rfl) ?_
    refine h_op (r_idx rfl rfl) ?_
    refine h_op (r_nth rfl hget) ?_
    refine h_op (r_rem rfl rfl) ?_
    refine h_op (r_assign rfl) ?_
    refine h_nil ?_
    refine q_then ?_
    refine h_block ?_
    refine h_loop (fun (k : Nat) => i % 8 ≤ k ∧ k ≤ 7) (fun (k : Nat) => [(7, .int .i64 (k : Int)), (6, .int .i64 ((2 ^ (k - i % 8) : Nat) : Int)), (5, .int .i64 (j : Int)), (4, .slice (some ⟨g, 0, none⟩) l.length c9), (3, .pointer (some ⟨g3, 0, none⟩)), (2, .pointer (some ⟨g2, 0, none⟩))]) (fun (k : Nat) => [.own (.slice (some ⟨g, 0, none⟩) l.length c9) l.length 3 1 (ic l), .blk g3 b.cells 23, .blk g2 (dset (l.take 0)).cells 23]) (fun (k : Nat) => 7 - k) (i % 8) (⟨Nat.le_refl _, by omega⟩) ⟨aI rfl (by omega), aI rfl (by rw [Nat.sub_self]; rfl), rfl, rfl, rfl, rfl, trivial⟩ (same) ?_
    intro k hk
    have hq : 2 ^ (k - i % 8) ≤ 2 ^ 7 := Nat.pow_le_pow_right (by decide) (by omega)
    refine h_seq ?_
    refine h_seq ?_
    refine h_reg ?_
    refine h_op (r_move rfl) ?_
    refine h_op (r_lss rfl rfl) ?_
    refine h_nil ?_
    refine q_then ?_
    refine h_cond rfl (fun h3 => ?_) (fun h3 => ?_)
    · have hs : 2 ^ (k - i % 8) * 2 = 2 ^ (k + 1 - i % 8) := by
        rw [← Nat.pow_succ]
        congr 1
        omega
      generalize 2 ^ (k - i % 8) = y at *
      refine h_skip ?_
      refine q_then ?_
      refine h_seq ?_
      refine h_block ?_
      refine h_reg ?_
      refine h_op (r_move rfl) ?_
      refine h_op (r_mul rfl rfl) ?_
      refine h_op (r_assign rfl) ?_
      refine h_nil ?_
      refine q_block ?_
      refine q_then ?_
      refine h_reg ?_
      refine h_op (r_move rfl) ?_
      refine h_op (r_add rfl rfl) ?_
      refine h_op (r_assign rfl) ?_
      refine h_nil ?_
      exact h_back (k + 1) (⟨by omega, by omega⟩) (by omega) ⟨rfl, aI rfl (by rw [← hs]; rfl), rfl, rfl, rfl, rfl, trivial⟩ (same)
    · obtain rfl : k = 7 := by omega
      generalize 2 ^ (7 - i % 8) = y at *
      change H _ _ _ _ _ (_ :: .blk g3 (bc b.1) _ :: _) _
      refine h_exit ?_
      refine q_thenE ?_
      refine q_thenE ?_
      refine q_blockE ?_
      refine q_then ?_
      refine h_reg ?_
      refine h_op (r_move rfl) ?_
      refine h_op (r_move rfl) ?_
      refine h_op (r_idx rfl rfl) ?_
      refine h_op (r_nth rfl hget) ?_
      refine h_op (r_quo rfl rfl) ?_
      refine h_op (r_idxA rfl rfl) ?_
      refine h_op (r_nth rfl (bc_at' (by omega))) ?_
      refine h_op (r_move rfl) ?_
      refine h_op (r_cNW rfl) ?_
      refine h_op (r_addW rfl rfl) ?_
      refine h_op (r_idxA rfl rfl) ?_
      refine h_opS (s_setB rfl rfl) ?_
      refine h_nil ?_
      refine q_block ?_
      refine q_then ?_
      refine h_reg ?_
      refine h_op (r_move rfl) ?_
      refine h_op (r_add rfl rfl) ?_
      refine h_op (r_assign rfl) ?_
      refine h_nil ?_
      rw [hf]
      change H _ _ _ _ _ (.blk g3 (flipAt b i).cells _ :: _) _
      rw [← hsn]
      exact h_back (j + 1) ((show j + 1 ≤ l.length by omega)) (by omega) ⟨rfl, rfl, rfl, rfl, trivial⟩ (same)
  · obtain rfl : j = l.length := by omega
    rw [List.take_length]
    refine h_exit ?_
    refine q_thenE ?_
    refine q_thenE ?_
    refine q_blockE ?_
    refine q_then ?_
    refine h_seq ?_
    refine h_reg ?_
    refine h_op (r_loadr rfl) ?_
    refine h_opS (s_storer rfl rfl) ?_
    refine h_nil ?_
    refine q_then ?_
    refine h_ret ?_
    exact h_ret1 rfl (rv_row rfl) fun w s => ⟨(), rfl, s.res (List.nil_sublist _) (by simp)⟩
/-! the way of a key -/
theorem bitN_bI (key : B32) (i : Nat) : ((bitN key i : Nat) : Int) = bI (bitAt key i) := by unfold bI bitN; cases bitAt key i <;> rfl
theorem PartK_s (key : B32) (m : List En) (B : Option Addr) (c d : Nat) (hd : d < 256) (hm : m.length ≤ 100000000) : Spec Tryz.prog 65 [.slice B m.length c, .int .i64 (d : Int), .int .i64 ((bitN key d : Nat) : Int)].toArray [.rd B (ents m)] [] (fun u : Option Addr × Nat => .slice u.1 (part m d (bitAt key d)).length u.2) (fun u => [.own (.slice u.1 (part m d (bitAt key d)).length u.2) (part m d (bitAt key d)).length 98 33 (ents (part m d (bitAt key d)))]) := by
  rw [bitN_bI]
  exact Part_s m B c d _ hd hm
theorem atM_vals {h : Zh} {key : B32} {m : List En} (x : ValsZ h m) : ∀ d, ValsZ h (atM key m d)
  | 0 => x
  | d + 1 => (atM_vals x d).part _ _
theorem rEnd_s (h : Zh) (m : List En) (B : Option Addr) (c : Nat) [hB : RdZ h B (ents m)] (key : B32) (D : Nat) (hD : D ≤ 256) (h1 : (atM key m D).length ≤ 1) (h2 : ∀ i, i < D → 1 < (atM key m i).length) (hm : m.length ≤ 1000000) :
    Spec Tryz.prog 51 [.slice B m.length c, .agg key.cells.toArray].toArray [] [.zone true h] (fun x : {x : Zh × Option Addr × Nat // LeZ h x.1 ∧ RdZ x.1 x.2.1 (ents (atM key m D))} => .tuple #[.slice x.1.2.1 (atM key m D).length x.1.2.2, .int .i64 (D : Int)]) (fun x => [.zone true x.1.1]) := by
  refine spec_of Tryz.func51 rfl (n := 20) rfl rfl ?_
  intro W
  refine h_seq ?_
  refine h_reg ?_
  refine h_opX (x_box rfl) fun g3 => ?_
  refine h_op (r_assign rfl) ?_
  refine h_op (r_assign rfl) ?_
  refine h_nil ?_
  refine q_then ?_
  refine h_seq ?_
  refine h_reg ?_
  refine h_op (r_assign rfl) ?_
  refine h_nil ?_
  refine q_then ?_
  refine h_seq ?_
  refine h_block ?_
  refine h_loop (fun (s : Nat × Zh × Option Addr × Nat) => s.1 ≤ D ∧ LeZ h s.2.1 ∧ RdZ s.2.1 s.2.2.1 (ents (atM key m s.1))) (fun (s : Nat × Zh × Option Addr × Nat) => [(6, .int .i64 (s.1 : Int)), (0, .slice s.2.2.1 (atM key m s.1).length s.2.2.2), (3, .pointer (some ⟨g3, 0, none⟩))]) (fun (s : Nat × Zh × Option Addr × Nat) => [.zone true s.2.1, .blk g3 key.cells 24]) (fun (s : Nat × Zh × Option Addr × Nat) => D - s.1) (0, h, B, c) ((show 0 ≤ D ∧ LeZ h h ∧ RdZ h B (ents m) from ⟨Nat.zero_le _, LeZ.refl h, hB⟩)) ⟨rfl, rfl, rfl, trivial⟩ (same) ?_
  rintro ⟨k, h', A, c'⟩ ⟨hk, hle, hr⟩
  dsimp only at hk hle hr ⊢
  have hlen := atM_le key m k
  by_cases hkD : k < D
  · have hlk := h2 k hkD
    refine h_seq ?_
    refine h_seq ?_
    refine h_reg ?_
    refine h_op (r_move rfl) ?_
    refine h_op (r_len rfl) ?_
    refine h_op (r_gtr rfl rfl) ?_
    refine h_nil ?_
    refine q_then ?_
    refine h_yes rfl ((by omega)) ?_
    refine h_skip ?_
    refine q_then ?_
    refine h_block ?_
    refine h_seq ?_
    refine h_reg ?_
    refine h_op (r_move rfl) ?_
    refine h_op (r_move rfl) ?_
    refine h_op (r_loadr rfl) ?_
    refine h_op (r_move rfl) ?_
    refine h_call ((refBit_s key k (by omega)).comes) rfl rfl rfl fun _ => ?_
    refine h_call ((PartK_s key (atM key m k) A c' k (by omega) (by omega)).comes) rfl rfl rfl fun ⟨A15, c15⟩ => ?_
    dsimp only
    change H _ _ _ _ _ (.own (.slice A15 (atM key m (k + 1)).length c15) (atM key m (k + 1)).length _ _ (ents (atM key m (k + 1))) :: _) _
    refine h_freezeO (.slice A15 (atM key m (k + 1)).length c15) fun h3 B3 c3 e3 hle3 hlen3 hnil3 hz3 hr3 => ?_
    injection e3 with e3 _ e4
    subst e3 e4
    refine h_op (r_assign rfl) ?_
    refine h_nil ?_
    refine q_then ?_
    refine h_reg ?_
    refine h_op (r_move rfl) ?_
    refine h_op (r_add rfl rfl) ?_
    refine h_op (r_assign rfl) ?_
    refine h_nil ?_
    refine q_block ?_
    exact h_back (k + 1, h3, A15, c15) (⟨by dsimp only; omega, hle.trans hz3, hr3⟩) ((show D - (k + 1) < D - k by omega)) ⟨rfl, rfl, rfl, trivial⟩ (same)
  · obtain rfl : k = D := by omega
    refine h_seq ?_
    refine h_seq ?_
    refine h_reg ?_
    refine h_op (r_move rfl) ?_
    refine h_op (r_len rfl) ?_
    refine h_op (r_gtr rfl rfl) ?_
    refine h_nil ?_
    refine q_then ?_
    refine h_no rfl ((by omega)) ?_
    refine h_exit ?_
    refine q_thenE ?_
    refine q_thenE ?_
    refine q_blockE ?_
    refine q_then ?_
    refine h_seq ?_
    refine h_reg ?_
    refine h_op (r_move rfl) ?_
    refine h_op (r_move rfl) ?_
    refine h_op (r_assign rfl) ?_
    refine h_op (r_assign rfl) ?_
    refine h_nil ?_
    refine q_then ?_
    refine h_ret ?_
    exact h_ret2 rfl rfl rfl fun w s => ⟨⟨(h', A, c'), hle, hr⟩, rfl, (same (L' := [.zone true h']) w s).res (List.Sublist.refl _) (by simp [Fa.wr])⟩
theorem rSibling_s (h : Zh) (m : List En) (B : Option Addr) (c : Nat) [hB : RdZ h B (ents m)] (key : B32) (d : Nat) (hd : d < 256) (hm : m.length ≤ 1000000) :
    Spec Tryz.prog 52 [.slice B m.length c, .agg key.cells.toArray, .int .i64 (d : Int)].toArray [] [.zone true h] (fun x : {x : Zh × Option Addr × Nat // LeZ h x.1 ∧ RdZ x.1 x.2.1 (ents (sibM key m d))} => .slice x.1.2.1 (sibM key m d).length x.1.2.2) (fun x => [.zone true x.1.1]) := by
  refine spec_of Tryz.func52 rfl (n := 26) rfl rfl ?_
  intro W
  refine h_seq ?_
  refine h_reg ?_
  refine h_opX (x_box rfl) fun g4 => ?_
  refine h_op (r_assign rfl) ?_
  refine h_nil ?_
  refine q_then ?_
  refine h_seq ?_
  refine h_seq ?_
  refine h_reg ?_
  refine h_op (r_assign rfl) ?_
  refine h_nil ?_
  refine q_then ?_
  refine h_block ?_
  refine h_loop (fun (s : Nat × Zh × Option Addr × Nat) => s.1 ≤ d ∧ LeZ h s.2.1 ∧ RdZ s.2.1 s.2.2.1 (ents (atM key m s.1))) (fun (s : Nat × Zh × Option Addr × Nat) => [(7, .int .i64 (s.1 : Int)), (0, .slice s.2.2.1 (atM key m s.1).length s.2.2.2), (2, .int .i64 (d : Int)), (4, .pointer (some ⟨g4, 0, none⟩))]) (fun (s : Nat × Zh × Option Addr × Nat) => [.zone true s.2.1, .blk g4 key.cells 24]) (fun (s : Nat × Zh × Option Addr × Nat) => d - s.1) (0, h, B, c) ((show 0 ≤ d ∧ LeZ h h ∧ RdZ h B (ents m) from ⟨Nat.zero_le _, LeZ.refl h, hB⟩)) ⟨rfl, rfl, rfl, rfl, trivial⟩ (same) ?_
  rintro ⟨k, h', A, c'⟩ ⟨hk, hle, hr⟩
  dsimp only at hk hle hr ⊢
  have hlen := atM_le key m k
  refine h_seq ?_
  refine h_seq ?_
  refine h_reg ?_
  refine h_op (r_move rfl) ?_
  refine h_op (r_move rfl) ?_
  refine h_op (r_lss rfl rfl) ?_
  refine h_nil ?_
  refine q_then ?_
  refine h_cond rfl (fun hkd => ?_) (fun hkd => ?_)
  · refine h_skip ?_
    refine q_then ?_
    refine h_seq ?_
    refine h_block ?_
    refine h_reg ?_
    refine h_op (r_move rfl) ?_
    refine h_op (r_move rfl) ?_
    refine h_op (r_loadr rfl) ?_
    refine h_op (r_move rfl) ?_
    refine h_call ((refBit_s key k (by omega)).comes) rfl rfl rfl fun _ => ?_
    refine h_call ((PartK_s key (atM key m k) A c' k (by omega) (by omega)).comes) rfl rfl rfl fun ⟨A18, c18⟩ => ?_
    dsimp only
    change H _ _ _ _ _ (.own (.slice A18 (atM key m (k + 1)).length c18) (atM key m (k + 1)).length _ _ (ents (atM key m (k + 1))) :: _) _
    refine h_freezeO (.slice A18 (atM key m (k + 1)).length c18) fun h3 B3 c3 e3 hle3 hlen3 hnil3 hz3 hr3 => ?_
    injection e3 with e3 _ e4
    subst e3 e4
    refine h_op (r_assign rfl) ?_
    refine h_nil ?_
    refine q_block ?_
    refine q_then ?_
    refine h_reg ?_
    refine h_op (r_move rfl) ?_
    refine h_op (r_add rfl rfl) ?_
    refine h_op (r_assign rfl) ?_
    refine h_nil ?_
    exact h_back (k + 1, h3, A18, c18) (⟨by dsimp only; omega, hle.trans hz3, hr3⟩) ((show d - (k + 1) < d - k by omega)) ⟨rfl, rfl, rfl, rfl, trivial⟩ (same)
  · obtain rfl : k = d := by omega
    refine h_exit ?_
    refine q_thenE ?_
    refine q_thenE ?_
    refine q_blockE ?_
    refine q_then ?_
    refine h_seq ?_
    refine h_reg ?_
    refine h_op (r_move rfl) ?_
    refine h_op (r_move rfl) ?_
    refine h_op (r_loadr rfl) ?_
    refine h_op (r_move rfl) ?_
    refine h_call ((refBit_s key k (by omega)).comes) rfl rfl rfl fun _ => ?_
    refine h_op (r_int (r_sub rfl rfl (by have := bitN_le key k; omega)) (show _ = bI (!bitAt key k) by unfold bI bitN; cases bitAt key k <;> rfl)) ?_
    refine h_call ((Part_s (atM key m k) A c' k (!bitAt key k) hd (by omega)).comes) rfl rfl rfl fun ⟨A25, c25⟩ => ?_
    dsimp only
    change H _ _ _ _ _ (.own (.slice A25 (sibM key m k).length c25) (sibM key m k).length _ _ (ents (sibM key m k)) :: _) _
    refine h_freezeO (.slice A25 (sibM key m k).length c25) fun h3 B3 c3 e3 hle3 hlen3 hnil3 hz3 hr3 => ?_
    injection e3 with e3 _ e4
    subst e3 e4
    refine h_op (r_assign rfl) ?_
    refine h_nil ?_
    refine q_then ?_
    refine h_ret ?_
    exact h_ret1 rfl rfl fun w s => ⟨⟨(h3, A25, c25), hle.trans hz3, hr3⟩, rfl, (same (L' := [.zone true h3]) w s).res (List.Sublist.refl _) (by simp [Fa.wr])⟩
end Go.Proofs.YtdfeimdhlagebaaGreatDoor
/- U50 -/
namespace Go.Proofs.YtdfeimdhlagebaaGreatDoor
set_option linter.unusedSimpArgs false
set_option linter.unusedVariables false
open Go.RowKit
theorem dsK_pw (key : B32) (t : Tr) (D : Nat) : (dsK key t D).Pairwise (· < ·) := (List.pairwise_lt_range).filter _
/-- the loop over the depths -/
theorem leafT_one (n : Nat) (e : En) {d : Nat} (h : d ≤ 256) : leafT n (mkT [e] d) = leafOf n e.key e.val := by rw [mkT_one e h]; rfl
theorem leafT_nil (n d : Nat) : leafT n (mkT [] d) = zLeaf := by rw [mkT_nil]; rfl
theorem kind_one (e : En) {d : Nat} (h : d ≤ 256) : (mkT [e] d).kind = 1 := by rw [mkT_one e h]; rfl
theorem kind_nil (d : Nat) : (mkT [] d).kind = 0 := by rw [mkT_nil]; rfl
theorem rProve_s (n : Nat) (hn : n ≤ 256) (h : Zh) (m : List En) (B : Option Addr) (c : Nat) [hB : RdZ h B (ents m)] (hv : ValsZ h m) (hal : Alike m 0) (key : B32) (D : Nat) (hD : D ≤ 256) (h1 : (atM key m D).length ≤ 1) (h2 : ∀ i, i < D → 1 < (atM key m i).length) (hm : m.length ≤ 1000000) (t : Tr) (ht : ∀ i, i < D → sibK key t i = mkT (sibM key m i) (i + 1)) (hw : wayK key t D = mkT (atM key m D) D) :
    Spec Tryz.prog 13 [.int .i64 (n : Int), .slice B m.length c, .agg key.cells.toArray].toArray [] [.zone true h] (fun x : {x : Zh × Option Addr × Nat // LeZ h x.1} => .agg (prfK n key t D x.1.2.1 x.1.2.2).cells.toArray) (fun x => [.own (.slice x.1.2.1 (dsK key t D).length x.1.2.2) (dsK key t D).length 31 32 (dgs (rsK n key t D)), .zone true x.1.1]) := by
  have hend := rEnd_s h m B c key D hD h1 h2 hm
  have hva := atM_vals (key := key) hv D
  unfold prfK
  rw [hw]
  generalize atM key m D = q at *
  refine spec_of Tryz.func13 rfl (n := 66) rfl rfl ?_
  intro W
  refine h_seq ?_
  refine h_reg ?_
  refine h_opX (x_box rfl) fun g5 => ?_
  refine h_opX (x_alloc) fun g6 => ?_
  refine h_nil ?_
  refine q_then ?_
  refine h_seq ?_
  refine h_reg ?_
  refine h_op (r_move rfl) ?_
  refine h_op (r_loadr rfl) ?_
  refine h_call (hend.comes) rfl rfl rfl fun ⟨⟨h3, A16, c16⟩, hle3, hr3⟩ => ?_
  dsimp only at hle3 hr3 ⊢
  rcases q with _ | ⟨e, _ | ⟨f, q⟩⟩
  · rw [leafT_nil, kind_nil]
    refine h_op (r_move rfl) ?_
    refine h_op (r_extract rfl rfl) ?_
    refine h_op (r_extract rfl rfl) ?_
    refine h_op (r_assign rfl) ?_
    refine h_op (r_assign rfl) ?_
    refine h_nil ?_
    refine q_then ?_
    refine h_seq ?_
    refine h_reg ?_
    refine h_op (r_move rfl) ?_
    refine h_op (r_build rfl) ?_
    refine h_opX (x_alloc) fun g9 => ?_
    refine h_opS (s_storer rfl rfl) ?_
    refine h_nil ?_
    refine q_then ?_
    refine h_seq ?_
    refine h_seq ?_
    refine h_reg ?_
    refine h_op (r_move rfl) ?_
    refine h_op (r_len rfl) ?_
    refine h_op (r_bool (r_eql rfl rfl) (show _ = false by simp)) ?_
    refine h_nil ?_
    refine q_then ?_
    refine h_condF rfl ?_
    refine h_skip ?_
    refine q_then ?_
    refine h_seq ?_
    refine h_reg ?_
    refine h_op (r_assign rfl) ?_
    refine h_nil ?_
    refine q_then ?_
    refine h_seq ?_
    refine h_seq ?_
    refine h_reg ?_
    refine h_op (r_assign rfl) ?_
    refine h_nil ?_
    refine q_then ?_
    refine h_block ?_
    refine h_nil_own 3 1 (xs := ic (dsK key t 0)) rfl ?_
    refine h_nil_own 31 32 (xs := dgs (rsK n key t 0)) rfl ?_
    change H _ _ _ _ _ (.own (.slice none (dsK key t 0).length 0) (dsK key t 0).length _ _ (dgs (rsK n key t 0)) :: .own (.slice none (dsK key t 0).length 0) (dsK key t 0).length _ _ (ic (dsK key t 0)) :: .blk g9 (Proof.cells ⟨(0 : Nat), (D : Int), zLeaf, zB32, ⟨none, (dsK key t 0).length, 0⟩⟩) _ :: _) _
    refine h_loop (fun (s : Nat × Zh × (Option Addr × Nat) × Option Addr × Nat) => s.1 ≤ D ∧ LeZ h s.2.1) (fun (s : Nat × Zh × (Option Addr × Nat) × Option Addr × Nat) => [(11, .int .i64 (s.1 : Int)), (10, .slice s.2.2.1.1 (dsK key t s.1).length s.2.2.1.2), (8, .int .i64 (D : Int)), (9, .pointer (some ⟨g9, 0, none⟩)), (0, .int .i64 (n : Int)), (1, .slice B m.length c), (5, .pointer (some ⟨g5, 0, none⟩)), (6, .pointer (some ⟨g6, 0, none⟩))]) (fun (s : Nat × Zh × (Option Addr × Nat) × Option Addr × Nat) => [.own (.slice s.2.2.2.1 (dsK key t s.1).length s.2.2.2.2) (dsK key t s.1).length 31 32 (dgs (rsK n key t s.1)), .own (.slice s.2.2.1.1 (dsK key t s.1).length s.2.2.1.2) (dsK key t s.1).length 3 1 (ic (dsK key t s.1)), .blk g9 (Proof.cells ⟨(0 : Nat), (D : Int), zLeaf, zB32, ⟨s.2.2.2.1, (dsK key t s.1).length, s.2.2.2.2⟩⟩) 36, .blk g6 zProof.cells 36, .blk g5 key.cells 24, .zone true s.2.1]) (fun (s : Nat × Zh × (Option Addr × Nat) × Option Addr × Nat) => D - s.1) (0, h3, (none, 0), none, 0) ((show 0 ≤ D ∧ LeZ h h3 from ⟨Nat.zero_le _, hle3⟩)) ⟨rfl, rfl, rfl, rfl, rfl, rfl, rfl, rfl, trivial⟩ (same) ?_
    rintro ⟨i, h4, ⟨A1, c1⟩, A2, c2⟩ ⟨hi, hle4⟩
    dsimp only at hi hle4 ⊢
    refine h_seq ?_
    refine h_seq ?_
    refine h_reg ?_
    refine h_op (r_move rfl) ?_
    refine h_op (r_move rfl) ?_
    refine h_op (r_lss rfl rfl) ?_
    refine h_nil ?_
    refine q_then ?_
    refine h_cond rfl (fun hiD' => ?_) (fun hiD' => ?_)
    · have hiD : i < D := by omega
      have hlen := dsK_len key t i
      have hsle := Nat.le_trans (part_le (atM key m i) i (!bitAt key i)) (atM_le key m i)
      have hsib := ht i hiD
      have hkd := mkT_kind (sibM key m i) (d := i + 1) (by omega)
      have hsa : Alike (sibM key m i) (i + 1) := (atM_alike hal i).part _
      change (sibM key m i).length ≤ _ at hsle
      refine h_skip ?_
      refine q_then ?_
      refine h_seq ?_
      refine h_block ?_
      refine h_seq ?_
      refine h_reg ?_
      refine h_op (r_move rfl) ?_
      refine h_op (r_loadr rfl) ?_
      refine h_op (r_move rfl) ?_
      refine h_call ((rSibling_s h4 m B c key i (by omega) hm).comes) rfl rfl rfl fun ⟨⟨h5, A44, c44⟩, hle5, hr5⟩ => ?_
      dsimp only at hle5 hr5 ⊢
      have hvs : ValsZ h5 (sibM key m i) := (((atM_vals (key := key) hv i).part i (!bitAt key i)).mono hle4).mono hle5
      by_cases h6 : 0 < (sibM key m i).length
      · have hk1 : (sibK key t i).kind ≠ 0 := by rw [hsib, hkd]; omega
        have hroot := Root_any n hn h5 (show i + 1 ≤ 256 by omega) hsa (by omega) hvs A44 c44
        rw [show rootM n (sibM key m i) (i + 1) = dgT n (sibK key t i) by rw [hsib]; rfl] at hroot
        have hds := dsK_yes hk1
        have hrs := rsK_yes n hk1
        have hlen1 : (dsK key t i).length + 1 = (dsK key t (i + 1)).length := by rw [hds, List.length_append]; rfl
        refine h_op (r_assign rfl) ?_
        refine h_nil ?_
        refine q_then ?_
        refine h_seq ?_
        refine h_reg ?_
        refine h_op (r_move rfl) ?_
        refine h_op (r_len rfl) ?_
        refine h_op (r_gtr rfl rfl) ?_
        refine h_nil ?_
        refine q_then ?_
        refine h_yes rfl ((by omega)) ?_
        refine h_seq ?_
        refine h_reg ?_
        refine h_op (r_move rfl) ?_
        refine h_op (r_move rfl) ?_
        refine h_opX (x_bsl rfl rfl) fun g50 => ?_
        refine h_opX (x_app1I rfl rfl (hN := hlen1)) fun ⟨g51, c51⟩ => ?_
        refine h_op (r_assign rfl) ?_
        refine h_nil ?_
        refine q_then ?_
        rw [← hds]
        refine ha_start [.blk g9 (Proof.cells ⟨(0 : Nat), (D : Int), zLeaf, zB32, ⟨A2, (dsK key t i).length, c2⟩⟩) 36] [] mixed (same) ?_
        refine ha_takeP 0 rfl (r_field rfl) ?_
        refine ha_take 1 rfl (r_loadc rfl) ?_
        refine ha_takeP 2 rfl (r_move rfl) ?_
        refine ha_takeP 3 rfl (r_move rfl) ?_
        refine ha_takeP 4 rfl (r_move rfl) ?_
        refine ha_takeP 5 rfl (r_add rfl rfl) ?_
        refine ha_one 6 ?_
        refine ho_C 6 rfl (hroot.comes) rfl rfl rfl (fun _ => same) fun _ => ?_
        refine ha_one 7 ?_
        refine ho_X 7 rfl (rk (x_bsl rfl rfl)) (fun _ => same) fun g59 => ?_
        refine ha_one 8 ?_
        refine ho_X 8 rfl (rk (x_app rfl rfl (k := 32))) (fun _ => same) fun ⟨g60, c60⟩ => ?_
        refine ha_takeP 9 rfl (r_field rfl) ?_
        refine ha_one 10 ?_
        refine ho_SL 10 rfl (s_store rfl rfl rfl) ?_
        refine q_block ?_
        refine q_then ?_
        rw [← hrs, hlen1]
        refine h_reg ?_
        refine h_op (r_move rfl) ?_
        refine h_op (r_add rfl rfl) ?_
        refine h_op (r_assign rfl) ?_
        refine h_nil ?_
        exact h_back (i + 1, h5, (some ⟨g51, 0, none⟩, c51), some ⟨g60, 0, none⟩, c60) ((show i + 1 ≤ D ∧ LeZ h h5 from ⟨by omega, hle4.trans hle5⟩)) ((show D - (i + 1) < D - i by omega)) ⟨rfl, rfl, rfl, rfl, rfl, rfl, rfl, rfl, trivial⟩ (same)
      · have hk1 : ¬ (sibK key t i).kind ≠ 0 := by rw [hsib, hkd]; omega
        have hds := dsK_no hk1
        have hrs := rsK_no n hk1
        refine h_op (r_assign rfl) ?_
        refine h_nil ?_
        refine q_then ?_
        refine h_seq ?_
        refine h_reg ?_
        refine h_op (r_move rfl) ?_
        refine h_op (r_len rfl) ?_
        refine h_op (r_gtr rfl rfl) ?_
        refine h_nil ?_
        refine q_then ?_
        refine h_no rfl ((by omega)) ?_
        refine h_skip ?_
        refine q_block ?_
        refine q_then ?_
        refine h_reg ?_
        refine h_op (r_move rfl) ?_
        refine h_op (r_add rfl rfl) ?_
        refine h_op (r_assign rfl) ?_
        refine h_nil ?_
        rw [← hds, ← hrs]
        exact h_back (i + 1, h5, (A1, c1), A2, c2) ((show i + 1 ≤ D ∧ LeZ h h5 from ⟨by omega, hle4.trans hle5⟩)) ((show D - (i + 1) < D - i by omega)) ⟨rfl, rfl, rfl, rfl, rfl, rfl, rfl, rfl, trivial⟩ (same)
    · obtain rfl : i = D := by omega
      have hlen := dsK_len key t i
      refine h_exit ?_
      refine q_thenE ?_
      refine q_thenE ?_
      refine q_blockE ?_
      refine q_then ?_
      refine h_seq ?_
      refine h_reg ?_
      refine h_op (r_move rfl) ?_
      refine h_call ((rBytes14_s (dsK key t i) (dsK_pw key t i) (fun j hj => by have := dsK_lt hj; omega) A1 c1 (by omega)).comes) rfl rfl rfl fun _ => ?_
      refine h_op (r_field rfl) ?_
      refine h_opS (s_storer rfl rfl) ?_
      refine h_nil ?_
      refine q_then ?_
      refine h_seq ?_
      refine h_reg ?_
      refine h_op (r_loadr rfl) ?_
      refine h_opS (s_storer rfl rfl) ?_
      refine h_nil ?_
      refine q_then ?_
      refine h_ret ?_
      exact h_ret1 rfl (rv_row rfl) fun w s => ⟨⟨(h4, A2, c2), hle4⟩, rfl, (same (L' := [.own (.slice A2 (dsK key t i).length c2) (dsK key t i).length 31 32 (dgs (rsK n key t i)), .zone true h4]) w s).res (List.Sublist.refl _) (by simp [Fa.wr])⟩
  · rw [leafT_one n e hD, kind_one e hD]
    obtain ⟨hs, hvl⟩ := hva e (by simp)
    obtain ⟨⟨key', A, N, cc⟩, b⟩ := e
    obtain rfl : N = b.length := hs.len
    have hA : A = none → b.length = 0 ∧ cc = 0 := hs.nil
    have hrd : RdZ h A (bc b) := hs.rd
    dsimp only at hvl
    have h0 : 0 < (ents [⟨⟨key', ⟨A, b.length, cc⟩⟩, b⟩]).length := by rw [ents_len]; exact Nat.zero_lt_succ _
    obtain ⟨bb, o, rfl, -⟩ := hr3.at_ 0 _ (List.getElem?_eq_getElem h0)
    refine h_op (r_move rfl) ?_
    refine h_op (r_extract rfl rfl) ?_
    refine h_op (r_extract rfl rfl) ?_
    refine h_op (r_assign rfl) ?_
    refine h_op (r_assign rfl) ?_
    refine h_nil ?_
    refine q_then ?_
    refine h_seq ?_
    refine h_reg ?_
    refine h_op (r_move rfl) ?_
    refine h_op (r_build rfl) ?_
    refine h_opX (x_alloc) fun g9 => ?_
    refine h_opS (s_storer rfl rfl) ?_
    refine h_nil ?_
    refine q_then ?_
    refine h_seq ?_
    refine h_seq ?_
    refine h_reg ?_
    refine h_op (r_move rfl) ?_
    refine h_op (r_len rfl) ?_
    refine h_op (r_bool (r_eql rfl rfl) (show _ = true by simp)) ?_
    refine h_nil ?_
    refine q_then ?_
    refine h_condT rfl ?_
    refine h_seq ?_
    refine h_reg ?_
    refine h_op (r_field rfl) ?_
    refine h_opS (s_store rfl rfl rfl) ?_
    refine h_nil ?_
    refine q_then ?_
    refine ha_start [.zone true h3] [] mixed (same) ?_
    refine ha_takeP 0 rfl (r_move rfl) ?_
    refine ha_takeP 1 rfl (r_move rfl) ?_
    refine ha_takeP 2 rfl (r_idx rfl rfl (hm := by simp)) ?_
    refine ha_takeP 3 rfl (r_field rfl) ?_
    refine ha_take 4 rfl (r_nthr rfl (out := key'.cells) (B32.cells_length _) (ents_key0 ⟨⟨key', ⟨A, b.length, cc⟩⟩, b⟩)) ?_
    refine ha_takeP 5 rfl (r_move rfl) ?_
    refine ha_takeP 6 rfl (r_idx rfl rfl (hm := by simp)) ?_
    refine ha_takeP 7 rfl (r_field rfl) ?_
    refine ha_take 8 rfl (r_nth rfl (ents_val0 ⟨⟨key', ⟨A, b.length, cc⟩⟩, b⟩)) ?_
    refine ha_one 9 ?_
    refine ho_C 9 rfl ((rLeafOf_s n hn key' b A cc hA (by omega)).comes) rfl rfl rfl (fun _ => same) fun _ => ?_
    refine ha_takeP 10 rfl (r_field rfl) ?_
    refine ha_one 11 ?_
    refine ho_SL 11 rfl (s_storer rfl rfl) ?_
    refine q_then ?_
    refine h_seq ?_
    refine h_reg ?_
    refine h_op (r_assign rfl) ?_
    refine h_nil ?_
    refine q_then ?_
    refine h_seq ?_
    refine h_seq ?_
    refine h_reg ?_
    refine h_op (r_assign rfl) ?_
    refine h_nil ?_
    refine q_then ?_
    refine h_block ?_
    refine h_nil_own 3 1 (xs := ic (dsK key t 0)) rfl ?_
    refine h_nil_own 31 32 (xs := dgs (rsK n key t 0)) rfl ?_
    change H _ _ _ _ _ (.own (.slice none (dsK key t 0).length 0) (dsK key t 0).length _ _ (dgs (rsK n key t 0)) :: .own (.slice none (dsK key t 0).length 0) (dsK key t 0).length _ _ (ic (dsK key t 0)) :: .blk g9 (Proof.cells ⟨(1 : Nat), (D : Int), leafOf n key' b, zB32, ⟨none, (dsK key t 0).length, 0⟩⟩) _ :: _) _
    refine h_loop (fun (s : Nat × Zh × (Option Addr × Nat) × Option Addr × Nat) => s.1 ≤ D ∧ LeZ h s.2.1) (fun (s : Nat × Zh × (Option Addr × Nat) × Option Addr × Nat) => [(11, .int .i64 (s.1 : Int)), (10, .slice s.2.2.1.1 (dsK key t s.1).length s.2.2.1.2), (8, .int .i64 (D : Int)), (9, .pointer (some ⟨g9, 0, none⟩)), (0, .int .i64 (n : Int)), (1, .slice B m.length c), (5, .pointer (some ⟨g5, 0, none⟩)), (6, .pointer (some ⟨g6, 0, none⟩))]) (fun (s : Nat × Zh × (Option Addr × Nat) × Option Addr × Nat) => [.own (.slice s.2.2.2.1 (dsK key t s.1).length s.2.2.2.2) (dsK key t s.1).length 31 32 (dgs (rsK n key t s.1)), .own (.slice s.2.2.1.1 (dsK key t s.1).length s.2.2.1.2) (dsK key t s.1).length 3 1 (ic (dsK key t s.1)), .blk g9 (Proof.cells ⟨(1 : Nat), (D : Int), leafOf n key' b, zB32, ⟨s.2.2.2.1, (dsK key t s.1).length, s.2.2.2.2⟩⟩) 36, .blk g6 zProof.cells 36, .blk g5 key.cells 24, .zone true s.2.1]) (fun (s : Nat × Zh × (Option Addr × Nat) × Option Addr × Nat) => D - s.1) (0, h3, (none, 0), none, 0) ((show 0 ≤ D ∧ LeZ h h3 from ⟨Nat.zero_le _, hle3⟩)) ⟨rfl, rfl, rfl, rfl, rfl, rfl, rfl, rfl, trivial⟩ (same) ?_
    rintro ⟨i, h4, ⟨A1, c1⟩, A2, c2⟩ ⟨hi, hle4⟩
    dsimp only at hi hle4 ⊢
    refine h_seq ?_
    refine h_seq ?_
    refine h_reg ?_
    refine h_op (r_move rfl) ?_
    refine h_op (r_move rfl) ?_
    refine h_op (r_lss rfl rfl) ?_
    refine h_nil ?_
    refine q_then ?_
    refine h_cond rfl (fun hiD' => ?_) (fun hiD' => ?_)
    · have hiD : i < D := by omega
      have hlen := dsK_len key t i
      have hsle := Nat.le_trans (part_le (atM key m i) i (!bitAt key i)) (atM_le key m i)
      have hsib := ht i hiD
      have hkd := mkT_kind (sibM key m i) (d := i + 1) (by omega)
      have hsa : Alike (sibM key m i) (i + 1) := (atM_alike hal i).part _
      change (sibM key m i).length ≤ _ at hsle
      refine h_skip ?_
      refine q_then ?_
      refine h_seq ?_
      refine h_block ?_
      refine h_seq ?_
      refine h_reg ?_
      refine h_op (r_move rfl) ?_
      refine h_op (r_loadr rfl) ?_
      refine h_op (r_move rfl) ?_
      refine h_call ((rSibling_s h4 m B c key i (by omega) hm).comes) rfl rfl rfl fun ⟨⟨h5, A44, c44⟩, hle5, hr5⟩ => ?_
      dsimp only at hle5 hr5 ⊢
      have hvs : ValsZ h5 (sibM key m i) := (((atM_vals (key := key) hv i).part i (!bitAt key i)).mono hle4).mono hle5
      by_cases h6 : 0 < (sibM key m i).length
      · have hk1 : (sibK key t i).kind ≠ 0 := by rw [hsib, hkd]; omega
        have hroot := Root_any n hn h5 (show i + 1 ≤ 256 by omega) hsa (by omega) hvs A44 c44
        rw [show rootM n (sibM key m i) (i + 1) = dgT n (sibK key t i) by rw [hsib]; rfl] at hroot
        have hds := dsK_yes hk1
        have hrs := rsK_yes n hk1
        have hlen1 : (dsK key t i).length + 1 = (dsK key t (i + 1)).length := by rw [hds, List.length_append]; rfl
        refine h_op (r_assign rfl) ?_
        refine h_nil ?_
        refine q_then ?_
        refine h_seq ?_
        refine h_reg ?_
        refine h_op (r_move rfl) ?_
        refine h_op (r_len rfl) ?_
        refine h_op (r_gtr rfl rfl) ?_
        refine h_nil ?_
        refine q_then ?_
        refine h_yes rfl ((by omega)) ?_
        refine h_seq ?_
        refine h_reg ?_
        refine h_op (r_move rfl) ?_
        refine h_op (r_move rfl) ?_
        refine h_opX (x_bsl rfl rfl) fun g50 => ?_
        refine h_opX (x_app1I rfl rfl (hN := hlen1)) fun ⟨g51, c51⟩ => ?_
        refine h_op (r_assign rfl) ?_
        refine h_nil ?_
        refine q_then ?_
        rw [← hds]
        refine ha_start [.blk g9 (Proof.cells ⟨(1 : Nat), (D : Int), leafOf n key' b, zB32, ⟨A2, (dsK key t i).length, c2⟩⟩) 36] [] mixed (same) ?_
        refine ha_takeP 0 rfl (r_field rfl) ?_
        refine ha_take 1 rfl (r_loadc rfl) ?_
        refine ha_takeP 2 rfl (r_move rfl) ?_
        refine ha_takeP 3 rfl (r_move rfl) ?_
        refine ha_takeP 4 rfl (r_move rfl) ?_
        refine ha_takeP 5 rfl (r_add rfl rfl) ?_
        refine ha_one 6 ?_
        refine ho_C 6 rfl (hroot.comes) rfl rfl rfl (fun _ => same) fun _ => ?_
        refine ha_one 7 ?_
        refine ho_X 7 rfl (rk (x_bsl rfl rfl)) (fun _ => same) fun g59 => ?_
        refine ha_one 8 ?_
        refine ho_X 8 rfl (rk (x_app rfl rfl (k := 32))) (fun _ => same) fun ⟨g60, c60⟩ => ?_
        refine ha_takeP 9 rfl (r_field rfl) ?_
        refine ha_one 10 ?_
        refine ho_SL 10 rfl (s_store rfl rfl rfl) ?_
        refine q_block ?_
        refine q_then ?_
        rw [← hrs, hlen1]
        refine h_reg ?_
        refine h_op (r_move rfl) ?_
        refine h_op (r_add rfl rfl) ?_
        refine h_op (r_assign rfl) ?_
        refine h_nil ?_
        exact h_back (i + 1, h5, (some ⟨g51, 0, none⟩, c51), some ⟨g60, 0, none⟩, c60) ((show i + 1 ≤ D ∧ LeZ h h5 from ⟨by omega, hle4.trans hle5⟩)) ((show D - (i + 1) < D - i by omega)) ⟨rfl, rfl, rfl, rfl, rfl, rfl, rfl, rfl, trivial⟩ (same)
      · have hk1 : ¬ (sibK key t i).kind ≠ 0 := by rw [hsib, hkd]; omega
        have hds := dsK_no hk1
        have hrs := rsK_no n hk1
        refine h_op (r_assign rfl) ?_
        refine h_nil ?_
        refine q_then ?_
        refine h_seq ?_
        refine h_reg ?_
        refine h_op (r_move rfl) ?_
        refine h_op (r_len rfl) ?_
        refine h_op (r_gtr rfl rfl) ?_
        refine h_nil ?_
        refine q_then ?_
        refine h_no rfl ((by omega)) ?_
        refine h_skip ?_
        refine q_block ?_
        refine q_then ?_
        refine h_reg ?_
        refine h_op (r_move rfl) ?_
        refine h_op (r_add rfl rfl) ?_
        refine h_op (r_assign rfl) ?_
        refine h_nil ?_
        rw [← hds, ← hrs]
        exact h_back (i + 1, h5, (A1, c1), A2, c2) ((show i + 1 ≤ D ∧ LeZ h h5 from ⟨by omega, hle4.trans hle5⟩)) ((show D - (i + 1) < D - i by omega)) ⟨rfl, rfl, rfl, rfl, rfl, rfl, rfl, rfl, trivial⟩ (same)
    · obtain rfl : i = D := by omega
      have hlen := dsK_len key t i
      refine h_exit ?_
      refine q_thenE ?_
      refine q_thenE ?_
      refine q_blockE ?_
      refine q_then ?_
      refine h_seq ?_
      refine h_reg ?_
      refine h_op (r_move rfl) ?_
      refine h_call ((rBytes14_s (dsK key t i) (dsK_pw key t i) (fun j hj => by have := dsK_lt hj; omega) A1 c1 (by omega)).comes) rfl rfl rfl fun _ => ?_
      refine h_op (r_field rfl) ?_
      refine h_opS (s_storer rfl rfl) ?_
      refine h_nil ?_
      refine q_then ?_
      refine h_seq ?_
      refine h_reg ?_
      refine h_op (r_loadr rfl) ?_
      refine h_opS (s_storer rfl rfl) ?_
      refine h_nil ?_
      refine q_then ?_
      refine h_ret ?_
      exact h_ret1 rfl (rv_row rfl) fun w s => ⟨⟨(h4, A2, c2), hle4⟩, rfl, (same (L' := [.own (.slice A2 (dsK key t i).length c2) (dsK key t i).length 31 32 (dgs (rsK n key t i)), .zone true h4]) w s).res (List.Sublist.refl _) (by simp [Fa.wr])⟩
  · exact absurd h1 (by simp)
end Go.Proofs.YtdfeimdhlagebaaGreatDoor
/- U51t -/
namespace Go.Proofs.YtdfeimdhlagebaaGreatDoor
set_option linter.unusedSimpArgs false
set_option linter.unusedVariables false
open Go.RowKit
instance : TBool Tryz.prog 4 := ⟨Tryz.underlying4⟩
theorem New_no (i : Int) (h : ¬ (0 ≤ i ∧ i ≤ 256)) : Spec Tryz.prog 47 [.int .i64 i].toArray [] [] (fun _ : Unit => .tuple #[.pointer none, .int .i64 4]) (fun _ => []) := by
  refine spec_of Tryz.func47 rfl (n := 15) rfl rfl ?_
  intro W
  by_cases h0 : i < 0
  · refine h_seq ?_
    refine h_reg ?_
    refine h_op (r_assign rfl) ?_
    refine h_op (r_assign rfl) ?_
    refine h_nil ?_
    refine q_then ?_
    refine h_seq ?_
    refine h_seq ?_
    refine h_reg ?_
    refine h_op (r_move rfl) ?_
    refine h_op (r_bool (r_lss rfl rfl) (decide_eq_true h0)) ?_
    refine h_op (r_move rfl) ?_
    refine h_opOff ?_
    refine h_opOff ?_
    refine h_op (r_pick rfl rfl) ?_
    refine h_nil ?_
    refine q_then ?_
    refine h_condT rfl ?_
    refine h_seq ?_
    refine h_reg ?_
    refine h_op (r_assign rfl) ?_
    refine h_op (r_assign rfl) ?_
    refine h_nil ?_
    refine q_then ?_
    refine h_ret ?_
    refine q_thenR ?_
    exact h_ret2 rfl rfl rfl fun w s => ⟨(), rfl, s.res (List.nil_sublist _) (by simp)⟩
  · refine h_seq ?_
    refine h_reg ?_
    refine h_op (r_assign rfl) ?_
    refine h_op (r_assign rfl) ?_
    refine h_nil ?_
    refine q_then ?_
    refine h_seq ?_
    refine h_seq ?_
    refine h_reg ?_
    refine h_op (r_move rfl) ?_
    refine h_op (r_bool (r_lss rfl rfl) (decide_eq_false h0)) ?_
    refine h_op (r_move rfl) ?_
    refine h_op (r_move rfl) ?_
    refine h_op (r_bool (r_gtr rfl rfl) (decide_eq_true (by omega))) ?_
    refine h_op (r_pick rfl rfl) ?_
    refine h_nil ?_
    refine q_then ?_
    refine h_condT rfl ?_
    refine h_seq ?_
    refine h_reg ?_
    refine h_op (r_assign rfl) ?_
    refine h_op (r_assign rfl) ?_
    refine h_nil ?_
    refine q_then ?_
    refine h_ret ?_
    refine q_thenR ?_
    exact h_ret2 rfl rfl rfl fun w s => ⟨(), rfl, s.res (List.nil_sublist _) (by simp)⟩
theorem Hash_no (i : Int) (h : ¬ (0 ≤ i ∧ i ≤ 256)) : Spec Tryz.prog 11 [.int .i64 i].toArray [] [] (fun _ : Unit => .pointer none) (fun _ => []) := by
  refine spec_of Tryz.func11 rfl (n := 13) rfl rfl ?_
  intro W
  refine h_seq ?_
  refine h_reg ?_
  refine h_op (r_assign rfl) ?_
  refine h_nil ?_
  refine q_then ?_
  refine h_seq ?_
  refine h_reg ?_
  refine h_op (r_move rfl) ?_
  refine h_call ((New_no i h).comes) rfl rfl rfl fun _ => ?_
  refine h_op (r_move rfl) ?_
  refine h_op (r_extract rfl rfl) ?_
  refine h_op (r_extract rfl rfl) ?_
  refine h_op (r_assign rfl) ?_
  refine h_op (r_assign rfl) ?_
  refine h_nil ?_
  refine q_then ?_
  refine h_seq ?_
  refine h_seq ?_
  refine h_reg ?_
  refine h_op (r_move rfl) ?_
  refine h_op (r_neq rfl rfl) ?_
  refine h_nil ?_
  refine q_then ?_
  refine h_yes rfl ((by decide)) ?_
  refine h_seq ?_
  refine h_reg ?_
  refine h_op (r_assign rfl) ?_
  refine h_nil ?_
  refine q_then ?_
  refine h_ret ?_
  refine q_thenR ?_
  exact h_ret1 rfl rfl fun w s => ⟨(), rfl, s.res (List.nil_sublist _) (by simp)⟩
theorem Few_long (l : List En) (B : Option Addr) (c : Nat) (hl : 12 < l.length) : Spec Tryz.prog 44 [.slice B l.length c].toArray [.rd B (ents l)] [] (fun _ : Unit => .bool (fewM l)) (fun _ => []) := by
  unfold fewM
  rw [decide_eq_false (by omega), Bool.false_and]
  refine spec_of Tryz.func44 rfl (n := 20) rfl rfl ?_
  intro W
  refine h_seq ?_
  refine h_reg ?_
  refine h_op (r_assign rfl) ?_
  refine h_nil ?_
  refine q_then ?_
  refine h_seq ?_
  refine h_seq ?_
  refine h_reg ?_
  refine h_op (r_move rfl) ?_
  refine h_op (r_len rfl) ?_
  refine h_op (r_gtr rfl rfl) ?_
  refine h_nil ?_
  refine q_then ?_
  refine h_yes rfl ((by omega)) ?_
  refine h_seq ?_
  refine h_reg ?_
  refine h_op (r_assign rfl) ?_
  refine h_nil ?_
  refine q_then ?_
  refine h_ret ?_
  refine q_thenR ?_
  exact h_ret1 rfl rfl fun w s => ⟨(), rfl, s.res (List.nil_sublist _) (by simp)⟩
theorem Few_any (l : List En) (B : Option Addr) (c : Nat) : Spec Tryz.prog 44 [.slice B l.length c].toArray [.rd B (ents l)] [] (fun _ : Unit => .bool (fewM l)) (fun _ => []) := by
  by_cases hl : 12 < l.length
  · exact Few_long l B c hl
  · exact Few_s l B c (by omega)
theorem Tree_bits (i : Int) (hi : ¬ (0 ≤ i ∧ i ≤ 256)) (l : List En) (B : Option Addr) (c : Nat) : Spec Tryz.prog 10 [.int .i64 i, .slice B l.length c].toArray [] [] (fun _ : Unit => .tuple #[.slice none 0 0, .pointer none, .bool false]) (fun _ => []) := by
  refine spec_of Tryz.func10 rfl (n := 27) rfl rfl ?_
  intro W
  refine h_seq ?_
  refine h_reg ?_
  refine h_op (r_assign rfl) ?_
  refine h_op (r_assign rfl) ?_
  refine h_op (r_assign rfl) ?_
  refine h_nil ?_
  refine q_then ?_
  refine h_seq ?_
  refine h_seq ?_
  refine h_reg ?_
  refine h_op (r_move rfl) ?_
  refine h_call ((Right_no i hi).comes) rfl rfl rfl fun _ => ?_
  refine h_op (r_not rfl) ?_
  refine h_op (r_move rfl) ?_
  refine h_opOff ?_
  refine h_opOff ?_
  refine h_opOff ?_
  refine h_op (r_pick rfl rfl) ?_
  refine h_nil ?_
  refine q_then ?_
  refine h_condT rfl ?_
  refine h_seq ?_
  refine h_reg ?_
  refine h_op (r_assign rfl) ?_
  refine h_op (r_assign rfl) ?_
  refine h_op (r_assign rfl) ?_
  refine h_nil ?_
  refine q_then ?_
  refine h_ret ?_
  refine q_thenR ?_
  exact h_ret3 rfl rfl rfl rfl fun w s => ⟨(), rfl, s.res (List.nil_sublist _) (by simp)⟩
theorem Tree_few (n : Nat) (hn : n ≤ 256) (l : List En) (B : Option Addr) (c : Nat) (hf : fewM l = false) : Spec Tryz.prog 10 [.int .i64 (n : Int), .slice B l.length c].toArray [.rd B (ents l)] [] (fun _ : Unit => .tuple #[.slice none 0 0, .pointer none, .bool false]) (fun _ => []) := by
  refine spec_of Tryz.func10 rfl (n := 27) rfl rfl ?_
  intro W
  refine h_seq ?_
  refine h_reg ?_
  refine h_op (r_assign rfl) ?_
  refine h_op (r_assign rfl) ?_
  refine h_op (r_assign rfl) ?_
  refine h_nil ?_
  refine q_then ?_
  refine h_seq ?_
  refine h_seq ?_
  refine h_reg ?_
  refine h_op (r_move rfl) ?_
  refine h_call ((Right_yes n hn).comes) rfl rfl rfl fun _ => ?_
  refine h_op (r_not rfl) ?_
  refine h_op (r_move rfl) ?_
  refine h_op (r_move rfl) ?_
  refine h_call ((Few_any l B c).comes) rfl rfl rfl fun _ => ?_
  rw [hf]
  refine h_op (r_not rfl) ?_
  refine h_op (r_pick rfl rfl) ?_
  refine h_nil ?_
  refine q_then ?_
  refine h_condT rfl ?_
  refine h_seq ?_
  refine h_reg ?_
  refine h_op (r_assign rfl) ?_
  refine h_op (r_assign rfl) ?_
  refine h_op (r_assign rfl) ?_
  refine h_nil ?_
  refine q_then ?_
  refine h_ret ?_
  refine q_thenR ?_
  exact h_ret3 rfl rfl rfl rfl fun w s => ⟨(), rfl, s.res (List.nil_sublist _) (by simp)⟩
/-- entries whose values lie in memory -/
def SlsZ (h : Zh) (l : List En) : Prop := ∀ e ∈ l, SlZ h e.e.value e.val
theorem SlsZ.few {h : Zh} {l : List En} (x : SlsZ h l) (hf : fewM l = true) : ValsZ h l := fun e he => by
  unfold fewM at hf
  rw [Bool.and_eq_true, List.all_eq_true] at hf
  have h1 := of_decide_eq_true (hf.2 e he)
  have h2 := (x e he).len
  exact ⟨x e he, by omega⟩
theorem ValsZ.few {h h' : Zh} {l : List En} (x : ValsZ h l) (hl : LeZ h h') : ValsZ h' (ofM l) := (ValsZ.of x).mono hl
/-- the tree of a map, along a key's way -/
structure WayM (key : B32) (m : List En) (D : Nat) : Prop where
  way : WayTo key (mkT m 0) D
  last : (atM key m D).length ≤ 1
  more : ∀ i, i < D → 1 < (atM key m i).length
  on : ∀ i, i ≤ D → wayK key (mkT m 0) i = mkT (atM key m i) i
theorem wayM {key : B32} {m : List En} (h : Alike m 0) : ∃ D, WayM key m D := by
  obtain ⟨D, a, b, c, d, e⟩ := wayTo_mkT (key := key) h
  exact ⟨D, a, c, d, e⟩
theorem WayM.sib {key : B32} {m : List En} {D : Nat} (w : WayM key m D) : ∀ i, i < D → sibK key (mkT m 0) i = mkT (sibM key m i) (i + 1) := fun i hi => by
  unfold sibK
  have hle := w.way.le
  rw [w.on i (by omega), mkT_two (w.more i hi) (by omega)]
  unfold sibM
  cases bitAt key i <;> rfl
theorem WayM.lastOk {key : B32} {m : List En} {D : Nat} (w : WayM key m D) : LastOk key (mkT m 0) D := by
  intro i hi
  have hle := w.way.le
  rw [w.sib i (by omega), mkT_kind _ (by omega)]
  have h1 := w.more i (by omega)
  have h2 := w.last
  rw [hi] at h2
  change (part (atM key m i) i (bitAt key i)).length ≤ 1 at h2
  have h3 := part_len (atM key m i) i
  show min (part (atM key m i) i (!bitAt key i)).length 2 ≠ 0
  cases hb : bitAt key i <;> rw [hb] at h2 <;> simp only [Bool.not_true, Bool.not_false] <;> omega
theorem prf_eq (n : Nat) (key : B32) (t : Tr) (D : Nat) (A A' : Option Addr) (c c' : Nat) (ss : List B32) : eqP (prfK n key t D A c) (prfK n key t D A' c') ss ss := ⟨rfl, rfl, rfl, rfl, rfl⟩
theorem rEqual_same (n : Nat) (key : B32) (t : Tr) (D : Nat) (hD : D ≤ 256) (A A' : Option Addr) (c c' : Nat) : Spec Tryz.prog 39 [.agg (prfK n key t D A c).cells.toArray, .agg (prfK n key t D A' c').cells.toArray].toArray [.rd A (dgs (rsK n key t D)), .rd A' (dgs (rsK n key t D))] [] (fun _ : Unit => .bool true) (fun _ => []) := by
  have hl := rsK_len n key t D
  have hd := dsK_len key t D
  have := rEqual_s (prfK n key t D A c) (prfK n key t D A' c') (rsK n key t D) (rsK n key t D) hl.symm hl.symm (by omega) (by omega)
  rw [decide_eq_true (prf_eq n key t D A A' c c' _)] at this
  exact this
end Go.Proofs.YtdfeimdhlagebaaGreatDoor
/- U23 -/
namespace Go.Proofs.YtdfeimdhlagebaaGreatDoor
set_option linter.unusedSimpArgs false
set_option linter.unusedVariables false
open Go.RowKit
theorem rDepths_s (p : Proof) : Spec Tryz.prog 16 [.agg p.cells.toArray].toArray [] [] (fun u : Option Addr × Nat => .slice u.1 (depths p.bitmap).length u.2) (fun u => [.own (.slice u.1 (depths p.bitmap).length u.2) (depths p.bitmap).length 3 1 (ic (depths p.bitmap))]) := by
  refine spec_of Tryz.func16 rfl (n := 19) rfl rfl ?_
  intro W
  refine h_seq ?_
  refine h_reg ?_
  refine h_opX (x_box rfl) fun g1 => ?_
  refine h_op (r_assign rfl) ?_
  refine h_nil ?_
  refine q_then ?_
  refine h_seq ?_
  refine h_reg ?_
  refine h_op (r_assign rfl) ?_
  refine h_nil ?_
  refine q_then ?_
  refine h_seq ?_
  refine h_seq ?_
  refine h_reg ?_
  refine h_op (r_assign rfl) ?_
  refine h_nil ?_
  refine q_then ?_
  refine h_block ?_
  refine h_nil_own 3 1 (xs := ic (dep p.bitmap 0)) rfl ?_
  change H _ _ _ _ _ (.own (.slice none (dep p.bitmap 0).length 0) (dep p.bitmap 0).length _ _ _ :: _) _
  refine h_loop (fun (s : Nat × Option Addr × Nat) => s.1 ≤ 256) (fun (s : Nat × Option Addr × Nat) => [(4, .int .i64 (s.1 : Int)), (3, .slice s.2.1 (dep p.bitmap s.1).length s.2.2), (1, .pointer (some ⟨g1, 0, none⟩))]) (fun (s : Nat × Option Addr × Nat) => [.own (.slice s.2.1 (dep p.bitmap s.1).length s.2.2) (dep p.bitmap s.1).length 3 1 (ic (dep p.bitmap s.1)), .blk g1 p.cells 36]) (fun (s : Nat × Option Addr × Nat) => 256 - s.1) (0, none, 0) ((show 0 ≤ 256 by omega)) ⟨rfl, rfl, rfl, trivial⟩ (same) ?_
  rintro ⟨k, B, c⟩ hk
  dsimp only at hk ⊢
  have hd := dep_len p.bitmap k
  refine h_seq ?_
  refine h_seq ?_
  refine h_reg ?_
  refine h_op (r_move rfl) ?_
  refine h_op (r_lss rfl rfl) ?_
  refine h_nil ?_
  refine q_then ?_
  refine h_cond rfl (fun h => ?_) (fun h => ?_)
  · refine h_skip ?_
    refine q_then ?_
    refine h_seq ?_
    refine h_block ?_
    refine h_seq ?_
    refine h_reg ?_
    refine h_op (r_field rfl) ?_
    refine h_op (r_loadr rfl) ?_
    refine h_op (r_move rfl) ?_
    refine h_call ((refBit_s p.bitmap k (by omega)).comes) rfl rfl rfl fun _ => ?_
    refine h_op (r_bool (r_eql rfl rfl) (bitN_one p.bitmap k)) ?_
    refine h_nil ?_
    refine q_then ?_
    refine h_condB rfl (fun h2 => ?_) (fun h2 => ?_)
    · have he := dep_yes h2
      have hl : (dep p.bitmap k).length + 1 = (dep p.bitmap (k + 1)).length := by rw [he]; simp
      refine h_reg ?_
      refine h_op (r_move rfl) ?_
      refine h_op (r_move rfl) ?_
      refine h_opX (x_bsl rfl rfl) fun g16 => ?_
      refine h_opX (x_app1I rfl rfl (hN := hl)) fun ⟨g17, c17⟩ => ?_
      refine h_op (r_assign rfl) ?_
      refine h_nil ?_
      refine q_block ?_
      refine q_then ?_
      refine h_reg ?_
      refine h_op (r_move rfl) ?_
      refine h_op (r_add rfl rfl) ?_
      refine h_op (r_assign rfl) ?_
      refine h_nil ?_
      rw [← he]
      exact h_back (k + 1, some ⟨g17, 0, none⟩, c17) ((show k + 1 ≤ 256 by omega)) ((show 256 - (k + 1) < 256 - k by omega)) ⟨rfl, rfl, rfl, trivial⟩ (same)
    · have he := dep_no (b := p.bitmap) (k := k) (by rw [h2]; simp)
      refine h_skip ?_
      refine q_block ?_
      refine q_then ?_
      refine h_reg ?_
      refine h_op (r_move rfl) ?_
      refine h_op (r_add rfl rfl) ?_
      refine h_op (r_assign rfl) ?_
      refine h_nil ?_
      rw [← he]
      exact h_back (k + 1, B, c) ((show k + 1 ≤ 256 by omega)) ((show 256 - (k + 1) < 256 - k by omega)) ⟨rfl, rfl, rfl, trivial⟩ (same)
  · obtain rfl : k = 256 := by omega
    refine h_exit ?_
    refine q_thenE ?_
    refine q_thenE ?_
    refine q_blockE ?_
    refine q_then ?_
    refine h_seq ?_
    refine h_reg ?_
    refine h_op (r_move rfl) ?_
    refine h_op (r_assign rfl) ?_
    refine h_nil ?_
    refine q_then ?_
    refine h_ret ?_
    exact h_ret1 rfl rfl fun w s => ⟨(B, c), rfl, s.res ((List.nil_sublist _).cons_cons _) (by simp [Fa.wr])⟩
end Go.Proofs.YtdfeimdhlagebaaGreatDoor
