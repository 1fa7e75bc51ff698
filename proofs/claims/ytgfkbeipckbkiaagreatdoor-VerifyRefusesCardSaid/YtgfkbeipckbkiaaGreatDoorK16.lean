/- verify.Check, Accepts; The reference's Supports; The reference's expansion; slices.Reverse; fold.Preimages; fold.Preimages; Rows of one's own, one by one: plain; The reference's preimages and steps; The reference's steps; rows of digests that are the same; The reference's checks of claims; The reference's check; law18.Short; The example of chapter 18: plain; The reference's proof of a map: List, Bytes, End, Sibling; law15.alive: it is true; The reference's proof of a map; The laws' trees: inputs that they leave out; a key's way; law15: ProofIsTrue is true; The zero proof is well-formed; law16.alive: it is true; law16: FoldLeads is true; A proof's bytes, decoded; a claim against a map's proof: plain; law18.alive: it is true; The hasher's count, read; law18: VerifyChecks, VerifyExplains, VerifyClaims are true; law18: VerifyCompletes is true; law18: VerifyAccepts is true (joined texts: U96 U45r U23e U21 U22 U24p U24 U25 U98 U99 E24 U49 U46 U50 U51t U52 U26z U27 U55 E25 U100 U10c U101 U103 U102) -/
import Derived.Test.YtgfkbeipckbkiaaGreatDoorK15
set_option linter.all false
/- U96 -/
namespace Go.Proofs.YtgfkbeipckbkiaaGreatDoor
set_option linter.unusedSimpArgs false
set_option linter.unusedVariables false
open Go.RowKit
theorem r_ifnn {P : Program} {n : Nat} {D : List Deferred} {E : Env} {L : List Fa} {T T' : TypeId} {t : Nat} {u : TypeId} {v : Value} [hT : TIf P T] (hx : ev E (.tmp t) = some (.iface u v)) : Runs0 P n D E L (.binOp .neq T (.tmp t) (.const .nilIface) T') (.bool true) := fun a w ka s o ho =>
  run_bin ho (ka.ev hx) (v := .nilIface) rfl rfl (run_neq_held_nil w T u v hT.und)
theorem r_nilnn {P : Program} {n : Nat} {D : List Deferred} {E : Env} {L : List Fa} {T T' : TypeId} {t : Nat} [hT : TIf P T] (hx : ev E (.tmp t) = some .nilIface) : Runs0 P n D E L (.binOp .neq T (.tmp t) (.const .nilIface) T') (.bool false) := fun a w ka s o ho =>
  run_bin ho (ka.ev hx) (v := .nilIface) rfl rfl (run_neq_nil_nil w T hT.und)
/-- the code of what is found -/
def errE : Option (Nat × Int) → Int
  | none => 0
  | some (_, e) => e
section
variable (n : Nat) (hn : n ≤ 256) (h : Zh) [hT : RdZ h (some ⟨2, 0, none⟩) hashT] [hE : RdZ h (some ⟨0, 0, none⟩) [rty 76]] (gh gc k : Nat) (hk : k ≤ 100000000) (root : Sl) (c : Claim) (b : Sl) (rb kb vb bb : List UInt8) [hR : SlZ h root rb] [hK : SlZ h c.key kb] [hV : SlZ h c.value vb] [hB : SlZ h b bb] (hvl : vb.length ≤ 100000000) (hbl : bb.length ≤ 100000000)
include hn hk hvl hbl
theorem vCheck_s : Spec Tryz.prog 44 [.pointer (some ⟨gh, 0, none⟩), .slice root.A root.n root.c, .agg c.cells.toArray, .slice b.A b.n b.c].toArray [HR gh gc n] [.zone true h, CN gc k] (fun u : {u : Zh × Nat // LeZ h u.1 ∧ u.2 ≤ k + 259} => .int .i64 (errE (firstC (vcode n root c rb kb vb bb)))) (fun u => [.zone true u.1.1, CN gc u.1.2]) := by
  have hV := Verify_s n hn h gh gc k hk root c b rb kb vb bb hvl hbl
  generalize firstC (vcode n root c rb kb vb bb) = r at hV ⊢
  rcases r with _ | ⟨i, e⟩
  · replace hV : Spec Tryz.prog 36 [.pointer (some ⟨gh, 0, none⟩), .slice root.A root.n root.c, .agg c.cells.toArray, .slice b.A b.n b.c].toArray [HR gh gc n] [.zone true h, CN gc k] (fun u : {u : Nat × Zh × Nat // LeZ h u.2.1 ∧ u.2.2 ≤ k + 259} => .nilIface) (fun u => [.zone true u.1.2.1, CN gc u.1.2.2]) := hV
    refine spec_of Tryz.func44 rfl (n := 25) rfl rfl ?_
    intro W
    refine h_seq ?_
    refine h_reg ?_
    refine h_opX (x_box rfl) fun g6 => ?_
    refine h_op (r_assign rfl) ?_
    refine h_nil ?_
    refine q_then ?_
    refine h_seq ?_
    refine h_reg ?_
    refine h_opX (x_alloc) fun g9 => ?_
    refine h_nil ?_
    refine q_then ?_
    refine h_seq ?_
    refine h_seq ?_
    refine h_reg ?_
    refine h_op (r_move rfl) ?_
    refine h_op (r_move rfl) ?_
    refine h_op (r_loadr rfl) ?_
    refine h_op (r_move rfl) ?_
    refine h_call (hV.comes) rfl rfl rfl fun ⟨⟨g15, z, k'⟩, hz, hk'⟩ => ?_
    dsimp only at hz hk' ⊢
    refine h_op (r_assign rfl) ?_
    refine h_nil ?_
    refine q_then ?_
    refine h_seq ?_
    refine h_reg ?_
    refine h_op (r_move rfl) ?_
    refine h_op (r_nilnn rfl) ?_
    refine h_op (r_move rfl) ?_
    refine h_opOff ?_
    refine h_opOff ?_
    refine h_opOff ?_
    refine h_opOff ?_
    refine h_op (r_pick rfl rfl) ?_
    refine h_nil ?_
    refine q_then ?_
    refine h_condF rfl ?_
    refine h_skip ?_
    refine q_then ?_
    refine h_seq ?_
    refine h_reg ?_
    refine h_op (r_loadc rfl) ?_
    refine h_op (r_assign rfl) ?_
    refine h_nil ?_
    refine q_then ?_
    refine h_ret ?_
    exact h_ret1 rfl rfl fun w s => ⟨⟨(z, k'), hz, hk'⟩, rfl, (same (L' := [.zone true z, CN gc k']) w s).res (List.Sublist.refl _) (by simp [Fa.wr])⟩
  · replace hV : Spec Tryz.prog 36 [.pointer (some ⟨gh, 0, none⟩), .slice root.A root.n root.c, .agg c.cells.toArray, .slice b.A b.n b.c].toArray [HR gh gc n] [.zone true h, CN gc k] (fun u : {u : Nat × Zh × Nat // LeZ h u.2.1 ∧ u.2.2 ≤ k + 259} => .iface 162 (.pointer (some ⟨u.1.1, 0, none⟩))) (fun u => [.zone true u.1.2.1, CN gc u.1.2.2, .blk u.1.1 (fltC verifyB (i : Int) e) 166]) := hV
    refine spec_of Tryz.func44 rfl (n := 25) rfl rfl ?_
    intro W
    refine h_seq ?_
    refine h_reg ?_
    refine h_opX (x_box rfl) fun g6 => ?_
    refine h_op (r_assign rfl) ?_
    refine h_nil ?_
    refine q_then ?_
    refine h_seq ?_
    refine h_reg ?_
    refine h_opX (x_alloc) fun g9 => ?_
    refine h_nil ?_
    refine q_then ?_
    refine h_seq ?_
    refine h_seq ?_
    refine h_reg ?_
    refine h_op (r_move rfl) ?_
    refine h_op (r_move rfl) ?_
    refine h_op (r_loadr rfl) ?_
    refine h_op (r_move rfl) ?_
    refine h_call (hV.comes) rfl rfl rfl fun ⟨⟨g15, z, k'⟩, hz, hk'⟩ => ?_
    dsimp only at hz hk' ⊢
    have hEz : RdZ z (some ⟨0, 0, none⟩) [rty 76] := hE.mono hz
    refine h_op (r_assign rfl) ?_
    refine h_nil ?_
    refine q_then ?_
    refine h_seq ?_
    refine h_reg ?_
    refine h_op (r_move rfl) ?_
    refine h_op (r_ifnn rfl) ?_
    refine h_op (r_move rfl) ?_
    refine h_op (r_move rfl) ?_
    refine h_op (r_mkI rfl) ?_
    refine h_call ((as_s2 g15 g9 verifyB (i : Int) e).comes) rfl rfl rfl fun _ => ?_
    refine h_op (r_not rfl) ?_
    refine h_op (r_pick rfl rfl) ?_
    refine h_nil ?_
    refine q_then ?_
    refine h_condF rfl ?_
    refine h_skip ?_
    refine q_then ?_
    refine h_seq ?_
    refine h_reg ?_
    refine h_op (r_loadc rfl) ?_
    refine h_op (r_assign rfl) ?_
    refine h_nil ?_
    refine q_then ?_
    refine h_ret ?_
    exact h_ret1 rfl rfl fun w s => ⟨⟨(z, k'), hz, hk'⟩, rfl, (same (L' := [.zone true z, CN gc k']) w s).res (List.Sublist.refl _) (by simp [Fa.wr])⟩
end
/-- a proof whose form is right, as what is decoded -/
def dpOf (p : Proof) (ss : List B32) : DP := ⟨p.kind.toNat, p.depth.toNat, p.leaf, p.bitmap, ss⟩
theorem ok_kind {p : Proof} (h : checkP p = 0) : p.kind = 0 ∨ p.kind = 1 := by simpa [okJ] using checkP_zero h 0 (by omega)
theorem dpOf_pr {p : Proof} {ss : List B32} (hs : p.sibs.n = ss.length) (hc : checkP p = 0) : p = (dpOf p ss).pr p.sibs.A p.sibs.c := by
  have h1 := ok_depth hc
  have h2 := ok_kind hc
  obtain ⟨k, d, lf, bm, A, N, c⟩ := p
  dsimp only at hs h1 h2
  subst hs
  unfold DP.pr dpOf
  dsimp only
  rw [Int.toNat_of_nonneg (by omega), Int.toNat_of_nonneg (by omega)]
theorem checkP_sib (p : DP) (A A' : Option Addr) (c c' : Nat) : checkP (p.pr A c) = checkP (p.pr A' c') := rfl
section
variable (n : Nat) (hn : n ≤ 256) (h : Zh) [hT : RdZ h (some ⟨2, 0, none⟩) hashT] (gh gc k : Nat) (hk : k ≤ 100000000) (root : B32) (c : Claim) (kb vb : List UInt8) [hK : SlZ h c.key kb] [hV : SlZ h c.value vb] (hvl : vb.length ≤ 100000000) (p : Proof) (ss : List B32) (hs : p.sibs.n = ss.length) [hS : RdZ h p.sibs.A (dgs ss)]
include hn hk hvl hs
/-- whether a decoded proof shows a claim -/
def accV (n : Nat) (root : B32) (c : Claim) (kb vb : List UInt8) (p : Proof) (ss : List B32) : Bool := decide (claimE c = 0) && decide (checkP p = 0) && (supP p (keyOf kb) (valD n c.present vb) c.present && decide (rootP n (dpOf p ss) (keyOf kb) = root))
theorem Accepts_s : Spec Tryz.prog 43 [.pointer (some ⟨gh, 0, none⟩), .agg root.cells.toArray, .agg c.cells.toArray, .agg p.cells.toArray].toArray [HR gh gc n] [.zone true h, CN gc k] (fun u : {u : Zh × Nat // LeZ h u.1 ∧ u.2 ≤ k + 259} => .bool (accV n root c kb vb p ss)) (fun u => [.zone true u.1.1, CN gc u.1.2]) := by
  have hkn := hK.len
  have hC := Claim_s c
  have hCh := Check_s p
  refine spec_of Tryz.func43 rfl (n := 30) rfl rfl ?_
  intro W
  by_cases h1 : claimE c = 0
  · rw [h1] at hC
    have hk32 : kb.length = 32 := by
      unfold claimE at h1
      split at h1
      · omega
      · cases h1
    by_cases h2 : checkP p = 0
    · rw [h2] at hCh
      have hpe := dpOf_pr hs h2
      refine h_seq ?_
      refine h_reg ?_
      refine h_opX (x_box rfl) fun g5 => ?_
      refine h_opX (x_box rfl) fun g6 => ?_
      refine h_opX (x_box rfl) fun g7 => ?_
      refine h_op (r_assign rfl) ?_
      refine h_nil ?_
      refine q_then ?_
      refine h_seq ?_
      refine h_seq ?_
      refine h_reg ?_
      refine h_op (r_loadr rfl) ?_
      refine h_call (hC.comes) rfl rfl rfl fun _ => ?_
      refine h_op (r_bool (r_neq rfl rfl) rfl) ?_
      refine h_op (r_move rfl) ?_
      refine h_op (r_loadr rfl) ?_
      refine h_call (hCh.comes) rfl rfl rfl fun _ => ?_
      refine h_op (r_bool (r_neq rfl rfl) rfl) ?_
      refine h_op (r_pick rfl rfl) ?_
      refine h_nil ?_
      refine q_then ?_
      refine h_condF rfl ?_
      refine h_skip ?_
      refine q_then ?_
      refine h_seq ?_
      refine ha_start [.blk g5 root.cells 41, .blk g6 c.cells 70, .blk g7 p.cells 87] [] mixed (same) ?_
      refine ha_takeP 0 rfl (r_move rfl) ?_
      refine ha_takeP 1 rfl (r_slA rfl) ?_
      refine ha_take 2 rfl (r_loadr rfl) ?_
      refine ha_take 3 rfl (r_loadr rfl) ?_
      refine ha_takeP 4 rfl (r_build rfl) ?_
      refine ha_one 5 ?_
      refine ho_X 5 rfl (rk (x_box rfl)) (fun _ => same) fun g23 => ?_
      refine ha_takeP 6 rfl (r_assign rfl) ?_
      refine ha_done (by kernel_rfl) ?_
      refine q_then ?_
      change H _ _ _ _ _ (.blk g23 (Chk.cells ⟨some ⟨gh, 0, none⟩, ⟨some ⟨g5, 0, none⟩, 32, 32⟩, c, ⟨none, 0, 0⟩, p⟩) _ :: _) _
      refine h_freeze g5 (cs := root.cells) (T := 41) fun z hz hrz => ?_
      have hTz : RdZ z (some ⟨2, 0, none⟩) hashT := hT.mono hz
      have hKz : SlZ z c.key kb := hK.mono hz
      have hVz : SlZ z c.value vb := hV.mono hz
      have hSz : RdZ z p.sibs.A (dgs ss) := hS.mono hz
      have hRz : SlZ z ⟨some ⟨g5, 0, none⟩, 32, 32⟩ root.1 := ⟨root.2.symm, Nat.le_refl _, (fun h => by cases h), hrz⟩
      have hrk : keyOf root.1 = root := by unfold keyOf; rw [dif_pos root.2]
      have hsu := supports_s n hn z gh gc k g23 (by omega) ⟨some ⟨gh, 0, none⟩, ⟨some ⟨g5, 0, none⟩, 32, 32⟩, c, ⟨none, 0, 0⟩, p⟩ rfl kb vb hk32 hvl
      obtain ⟨bs, hbs⟩ : ∃ bs, supP p (keyOf kb) (valD n c.present vb) c.present = bs := ⟨_, rfl⟩
      rw [hbs] at hsu
      have hdd : (dpOf p ss).d ≤ 256 := by have h9 := ok_depth h2; show p.depth.toNat ≤ 256; omega
      have hck2 : checkP ((dpOf p ss).pr none 0) = 0 := by rw [checkP_sib _ none p.sibs.A 0 p.sibs.c, ← hpe]; exact h2
      have hle := leads_s n hn z gh gc (k + if c.present then 1 else 0) g23 (by split <;> omega) ⟨some ⟨gh, 0, none⟩, ⟨some ⟨g5, 0, none⟩, 32, 32⟩, c, ⟨none, 0, 0⟩, p⟩ rfl kb hk32 root.1 root.2 (dpOf p ss) p.sibs.A p.sibs.c hpe hck2
      rw [hrk] at hle
      rw [show accV n root c kb vb p ss = (bs && decide (rootP n (dpOf p ss) (keyOf kb) = root)) by unfold accV; rw [hbs, decide_eq_true h1, decide_eq_true h2]; rfl]
      cases bs
      · refine h_seq ?_
        refine h_reg ?_
        refine h_op (r_move rfl) ?_
        refine h_call (hsu.comes) rfl rfl rfl fun _ => ?_
        refine h_op (r_move rfl) ?_
        refine h_opOff ?_
        refine h_opOff ?_
        refine h_op (r_pick rfl rfl) ?_
        refine h_op (r_assign rfl) ?_
        refine h_nil ?_
        refine q_then ?_
        refine h_ret ?_
        exact h_ret1 rfl rfl fun w s => ⟨⟨(z, k + if c.present then 1 else 0), hz, by dsimp only; split <;> omega⟩, rfl, (same (L' := [.zone true z, CN gc (k + if c.present then 1 else 0)]) w s).res (List.Sublist.refl _) (by simp [Fa.wr])⟩
      · refine h_seq ?_
        refine h_reg ?_
        refine h_op (r_move rfl) ?_
        refine h_call (hsu.comes) rfl rfl rfl fun _ => ?_
        refine h_op (r_move rfl) ?_
        refine h_op (r_move rfl) ?_
        refine h_call (hle.comes) rfl rfl rfl fun _ => ?_
        refine h_op (r_pick rfl rfl) ?_
        refine h_op (r_assign rfl) ?_
        refine h_nil ?_
        refine q_then ?_
        refine h_ret ?_
        exact h_ret1 rfl rfl fun w s => ⟨⟨(z, (k + if c.present then 1 else 0) + 1 + (dpOf p ss).d + 1), hz, by dsimp only; split <;> omega⟩, rfl, (same (L' := [.zone true z, CN gc ((k + if c.present then 1 else 0) + 1 + (dpOf p ss).d + 1)]) w s).res (List.Sublist.refl _) (by simp [Fa.wr])⟩
    · rw [show accV n root c kb vb p ss = false by unfold accV; rw [decide_eq_false h2]; simp]
      refine h_seq ?_
      refine h_reg ?_
      refine h_opX (x_box rfl) fun g5 => ?_
      refine h_opX (x_box rfl) fun g6 => ?_
      refine h_opX (x_box rfl) fun g7 => ?_
      refine h_op (r_assign rfl) ?_
      refine h_nil ?_
      refine q_then ?_
      refine h_seq ?_
      refine h_seq ?_
      refine h_reg ?_
      refine h_op (r_loadr rfl) ?_
      refine h_call (hC.comes) rfl rfl rfl fun _ => ?_
      refine h_op (r_bool (r_neq rfl rfl) rfl) ?_
      refine h_op (r_move rfl) ?_
      refine h_op (r_loadr rfl) ?_
      refine h_call (hCh.comes) rfl rfl rfl fun _ => ?_
      refine h_op (r_bool (r_neq rfl rfl) (decide_eq_true h2)) ?_
      refine h_op (r_pick rfl rfl) ?_
      refine h_nil ?_
      refine q_then ?_
      refine h_condT rfl ?_
      refine h_seq ?_
      refine h_reg ?_
      refine h_op (r_assign rfl) ?_
      refine h_nil ?_
      refine q_then ?_
      refine h_ret ?_
      refine q_thenR ?_
      exact h_ret1 rfl rfl fun w s => ⟨⟨(h, k), LeZ.refl h, Nat.le_add_right _ _⟩, rfl, (same (L' := [.zone true h, CN gc k]) w s).res (List.Sublist.refl _) (by simp [Fa.wr])⟩
  · rw [show accV n root c kb vb p ss = false by unfold accV; rw [decide_eq_false h1]; simp]
    refine h_seq ?_
    refine h_reg ?_
    refine h_opX (x_box rfl) fun g5 => ?_
    refine h_opX (x_box rfl) fun g6 => ?_
    refine h_opX (x_box rfl) fun g7 => ?_
    refine h_op (r_assign rfl) ?_
    refine h_nil ?_
    refine q_then ?_
    refine h_seq ?_
    refine h_seq ?_
    refine h_reg ?_
    refine h_op (r_loadr rfl) ?_
    refine h_call (hC.comes) rfl rfl rfl fun _ => ?_
    refine h_op (r_bool (r_neq rfl rfl) (decide_eq_true h1)) ?_
    refine h_op (r_move rfl) ?_
    refine h_opOff ?_
    refine h_opOff ?_
    refine h_opOff ?_
    refine h_op (r_pick rfl rfl) ?_
    refine h_nil ?_
    refine q_then ?_
    refine h_condT rfl ?_
    refine h_seq ?_
    refine h_reg ?_
    refine h_op (r_assign rfl) ?_
    refine h_nil ?_
    refine q_then ?_
    refine h_ret ?_
    refine q_thenR ?_
    exact h_ret1 rfl rfl fun w s => ⟨⟨(h, k), LeZ.refl h, Nat.le_add_right _ _⟩, rfl, (same (L' := [.zone true h, CN gc k]) w s).res (List.Sublist.refl _) (by simp [Fa.wr])⟩
end
end Go.Proofs.YtgfkbeipckbkiaaGreatDoor
/- U45r -/
namespace Go.Proofs.YtgfkbeipckbkiaaGreatDoor
set_option linter.unusedSimpArgs false
set_option linter.unusedVariables false
open Go.RowKit
end Go.Proofs.YtgfkbeipckbkiaaGreatDoor
/- U23e -/
namespace Go.Proofs.YtgfkbeipckbkiaaGreatDoor
set_option linter.unusedSimpArgs false
set_option linter.unusedVariables false
open Go.RowKit
end Go.Proofs.YtgfkbeipckbkiaaGreatDoor
/- U21 -/
namespace Go.Proofs.YtgfkbeipckbkiaaGreatDoor
set_option linter.unusedSimpArgs false
set_option linter.unusedVariables false
open Go.RowKit
end Go.Proofs.YtgfkbeipckbkiaaGreatDoor
/- U22 -/
namespace Go.Proofs.YtgfkbeipckbkiaaGreatDoor
set_option linter.unusedSimpArgs false
set_option linter.unusedVariables false
open Go.RowKit
instance (m : List Fa) : TakeTl m m [] := ⟨by rw [List.append_nil]⟩
/-- rows that are somewhere, with these bytes -/
def SegsOk (ys : List Seg) (ls : List (List UInt8)) : Prop := ys.map (fun x => x.2.2) = ls ∧ ∀ x ∈ ys, ∃ g, x.1 = some ⟨g, 0, none⟩
theorem SegsOk.len {ys : List Seg} {ls : List (List UInt8)} (h : SegsOk ys ls) : ys.length = ls.length := by rw [← h.1, List.length_map]
end Go.Proofs.YtgfkbeipckbkiaaGreatDoor
/- U24p -/
namespace Go.Proofs.YtgfkbeipckbkiaaGreatDoor
set_option linter.unusedSimpArgs false
set_option linter.unusedVariables false
open Go.RowKit
theorem SegsOk.cons {xs : List Seg} {l : List UInt8} {ls : List (List UInt8)} (h : SegsOk xs (l :: ls)) : ∃ g c xs', xs = (some ⟨g, 0, none⟩, c, l) :: xs' ∧ SegsOk xs' ls := by
  obtain ⟨h1, h2⟩ := h
  cases xs with
  | nil => cases h1
  | cons x xs' =>
    rw [List.map_cons] at h1
    injection h1 with h3 h4
    obtain ⟨g, hg⟩ := h2 x (List.mem_cons_self ..)
    obtain ⟨A, c, l'⟩ := x
    simp only at h3 hg
    subst h3 hg
    exact ⟨g, c, xs', rfl, h4, fun y hy => h2 y (List.mem_cons_of_mem _ hy)⟩
instance (priority := 5) (N M : List Fa) : App N M (N ++ M) := ⟨rfl⟩
theorem SegsOk.at {xs : List Seg} {ls : List (List UInt8)} (h : SegsOk xs ls) {i : Nat} {l : List UInt8} (hl : ls[i]? = some l) : ∃ g c, xs[i]? = some (some ⟨g, 0, none⟩, c, l) := by
  rw [← h.1, List.getElem?_map] at hl
  obtain ⟨x, hx, e⟩ := Option.map_eq_some_iff.1 hl
  obtain ⟨g, hg⟩ := h.2 x (List.mem_of_getElem? hx)
  obtain ⟨A, c, l'⟩ := x
  simp only at e hg
  subst e hg
  exact ⟨g, c, hx⟩
end Go.Proofs.YtgfkbeipckbkiaaGreatDoor
/- U24 -/
namespace Go.Proofs.YtgfkbeipckbkiaaGreatDoor
set_option linter.unusedSimpArgs false
set_option linter.unusedVariables false
open Go.RowKit
end Go.Proofs.YtgfkbeipckbkiaaGreatDoor
/- U25 -/
namespace Go.Proofs.YtgfkbeipckbkiaaGreatDoor
set_option linter.unusedSimpArgs false
set_option linter.unusedVariables false
open Go.RowKit
end Go.Proofs.YtgfkbeipckbkiaaGreatDoor
/- U98 -/
namespace Go.Proofs.YtgfkbeipckbkiaaGreatDoor
set_option linter.unusedSimpArgs false
set_option linter.unusedVariables false
open Go.RowKit
def claimS (c : Claim) : Int := if c.key.n = 32 then (if c.present = true ∧ 65535 < c.value.n then 2 else 0) else 1
theorem rClaim18_s (c : Claim) : Spec Tryz.prog 39 [.agg c.cells.toArray].toArray [] [] (fun _ : Unit => .tuple #[.int .i64 (claimS c), .int .i64 (claimE c)]) (fun _ => []) := by
  obtain ⟨ks, vs, b⟩ := c
  refine spec_of Tryz.func39 rfl (n := 16) rfl rfl ?_
  intro W
  by_cases h1 : ks.n = 32
  · refine h_seq ?_
    refine h_reg ?_
    refine h_opX (x_box rfl) fun g1 => ?_
    refine h_op (r_assign rfl) ?_
    refine h_op (r_assign rfl) ?_
    refine h_nil ?_
    refine q_then ?_
    refine h_seq ?_
    refine h_seq ?_
    refine h_reg ?_
    refine h_op (r_field rfl) ?_
    refine h_op (r_loadc rfl) ?_
    refine h_op (r_len rfl) ?_
    refine h_op (r_bool (r_neq rfl rfl) (decide_eq_false (show ¬ ¬ (ks.n : Int) = 32 by omega))) ?_
    refine h_nil ?_
    refine q_then ?_
    refine h_condF rfl ?_
    cases b
    · rw [show claimS ⟨ks, vs, false⟩ = 0 by unfold claimS; rw [if_pos h1, if_neg (by simp)], show claimE ⟨ks, vs, false⟩ = 0 by unfold claimE; rw [if_pos h1, if_neg (by simp)]]
      refine h_skip ?_
      refine q_then ?_
      refine h_seq ?_
      refine h_seq ?_
      refine h_reg ?_
      refine h_op (r_field rfl) ?_
      refine h_op (r_loadc rfl) ?_
      refine h_op (r_move rfl) ?_
      refine h_opOff ?_
      refine h_opOff ?_
      refine h_opOff ?_
      refine h_opOff ?_
      refine h_op (r_pick rfl rfl) ?_
      refine h_nil ?_
      refine q_then ?_
      refine h_condF rfl ?_
      refine h_skip ?_
      refine q_then ?_
      refine h_seq ?_
      refine h_reg ?_
      refine h_op (r_assign rfl) ?_
      refine h_op (r_assign rfl) ?_
      refine h_nil ?_
      refine q_then ?_
      refine h_ret ?_
      exact h_ret2 rfl rfl rfl fun w s => ⟨(), rfl, s.res (List.nil_sublist _) (by simp)⟩
    · by_cases h2 : 65535 < vs.n
      · rw [show claimS ⟨ks, vs, true⟩ = 2 by unfold claimS; rw [if_pos h1, if_pos ⟨rfl, h2⟩], show claimE ⟨ks, vs, true⟩ = 3 by unfold claimE; rw [if_pos h1, if_pos ⟨rfl, h2⟩]]
        refine h_skip ?_
        refine q_then ?_
        refine h_seq ?_
        refine h_seq ?_
        refine h_reg ?_
        refine h_op (r_field rfl) ?_
        refine h_op (r_loadc rfl) ?_
        refine h_op (r_move rfl) ?_
        refine h_op (r_field rfl) ?_
        refine h_op (r_loadc rfl) ?_
        refine h_op (r_len rfl) ?_
        refine h_op (r_bool (r_gtr rfl rfl) (decide_eq_true (show (65535 : Int) < (vs.n : Int) by omega))) ?_
        refine h_op (r_pick rfl rfl) ?_
        refine h_nil ?_
        refine q_then ?_
        refine h_condT rfl ?_
        refine h_seq ?_
        refine h_reg ?_
        refine h_op (r_assign rfl) ?_
        refine h_op (r_assign rfl) ?_
        refine h_nil ?_
        refine q_then ?_
        refine h_ret ?_
        refine q_thenR ?_
        exact h_ret2 rfl rfl rfl fun w s => ⟨(), rfl, s.res (List.nil_sublist _) (by simp)⟩
      · rw [show claimS ⟨ks, vs, true⟩ = 0 by unfold claimS; rw [if_pos h1, if_neg (fun h => h2 h.2)], show claimE ⟨ks, vs, true⟩ = 0 by unfold claimE; rw [if_pos h1, if_neg (fun h => h2 h.2)]]
        refine h_skip ?_
        refine q_then ?_
        refine h_seq ?_
        refine h_seq ?_
        refine h_reg ?_
        refine h_op (r_field rfl) ?_
        refine h_op (r_loadc rfl) ?_
        refine h_op (r_move rfl) ?_
        refine h_op (r_field rfl) ?_
        refine h_op (r_loadc rfl) ?_
        refine h_op (r_len rfl) ?_
        refine h_op (r_bool (r_gtr rfl rfl) (decide_eq_false (show ¬ (65535 : Int) < (vs.n : Int) by omega))) ?_
        refine h_op (r_pick rfl rfl) ?_
        refine h_nil ?_
        refine q_then ?_
        refine h_condF rfl ?_
        refine h_skip ?_
        refine q_then ?_
        refine h_seq ?_
        refine h_reg ?_
        refine h_op (r_assign rfl) ?_
        refine h_op (r_assign rfl) ?_
        refine h_nil ?_
        refine q_then ?_
        refine h_ret ?_
        exact h_ret2 rfl rfl rfl fun w s => ⟨(), rfl, s.res (List.nil_sublist _) (by simp)⟩
  · rw [show claimS ⟨ks, vs, b⟩ = 1 from if_neg h1, show claimE ⟨ks, vs, b⟩ = 2 from if_neg h1]
    refine h_seq ?_
    refine h_reg ?_
    refine h_opX (x_box rfl) fun g1 => ?_
    refine h_op (r_assign rfl) ?_
    refine h_op (r_assign rfl) ?_
    refine h_nil ?_
    refine q_then ?_
    refine h_seq ?_
    refine h_seq ?_
    refine h_reg ?_
    refine h_op (r_field rfl) ?_
    refine h_op (r_loadc rfl) ?_
    refine h_op (r_len rfl) ?_
    refine h_op (r_bool (r_neq rfl rfl) (decide_eq_true (show ¬ (ks.n : Int) = 32 by omega))) ?_
    refine h_nil ?_
    refine q_then ?_
    refine h_condT rfl ?_
    refine h_seq ?_
    refine h_reg ?_
    refine h_op (r_assign rfl) ?_
    refine h_op (r_assign rfl) ?_
    refine h_nil ?_
    refine q_then ?_
    refine h_ret ?_
    refine q_thenR ?_
    exact h_ret2 rfl rfl rfl fun w s => ⟨(), rfl, s.res (List.nil_sublist _) (by simp)⟩
end Go.Proofs.YtgfkbeipckbkiaaGreatDoor
/- U99 -/
namespace Go.Proofs.YtgfkbeipckbkiaaGreatDoor
set_option linter.unusedSimpArgs false
set_option linter.unusedVariables false
open Go.RowKit
theorem firstC_at {code : Nat → Int} {i : Nat} {e : Int} (hi : i < 6) (hz : ∀ j, j < i → code j = 0) (he : code i = e) (hne : e ≠ 0) : firstC code = some (i, e) := by
  subst he
  exact firstF_some code i hne 6 0 (Nat.zero_le _) (by omega) fun j _ h => hz j h
theorem firstC_no {code : Nat → Int} (hz : ∀ j, j < 6 → code j = 0) : firstC code = none := firstF_none code 6 0 fun j _ h => hz j (by omega)
end Go.Proofs.YtgfkbeipckbkiaaGreatDoor
/- E24 -/
namespace Go.Proofs.YtgfkbeipckbkiaaGreatDoor
set_option linter.unusedSimpArgs false
set_option linter.unusedVariables false
open Go.RowKit
abbrev E18 : B32 := sumB 256 preE
abbrev p18 : DP := ⟨0, 0, zLeaf, zB32, []⟩
abbrev bb18 : List UInt8 := encC 0 0 zLeaf zB32 []
abbrev kb18 : List UInt8 := List.replicate 32 0
theorem E18_ne : E18 ≠ zB32 := by decide +kernel
theorem check18 : checkP (p18.pr none 0) = 0 := by kernel_rfl
theorem decB18 : decB bb18 = .ok p18 := by
  have h1 : 36 ≤ bb18.length := by decide
  have hE := decB_end (l := bb18) h1 rfl (by decide) (N := 0) (by decide) (by decide)
  have hD : dDP bb18 0 = p18 := by
    unfold dDP dLf
    have h2 : b32At bb18 4 = zB32 := Subtype.ext (by decide)
    rw [h2]
    rfl
  rw [hD, check18] at hE
  exact hE
theorem root18 (key : B32) : rootP 256 p18 key = E18 := congrArg (sumB 256) rfl
theorem keyOf_val (x : B32) : keyOf x.1 = x := by unfold keyOf; rw [dif_pos x.2]
theorem first18 (A B : Option Addr) (c c' : Nat) : firstC (vcode 256 ⟨A, 32, c⟩ ⟨⟨B, 32, c'⟩, ⟨none, 0, 0⟩, false⟩ E18.1 kb18 [] bb18) = none := by
  refine firstC_no fun j hj => ?_
  have h4 : ∀ j, j < 6 → 4 ≤ j → vcode 256 ⟨A, 32, c⟩ ⟨⟨B, 32, c'⟩, ⟨none, 0, 0⟩, false⟩ E18.1 kb18 [] bb18 j = 0 := fun j h1 h2 => by
    rcases (by omega : j = 4 ∨ j = 5) with rfl | rfl
    · unfold vcode
      rw [decB18]
      rfl
    · unfold vcode
      rw [decB18]
      show (if decide (rootP 256 p18 (keyOf kb18) = keyOf E18.1) then (0 : Int) else 13) = 0
      rw [root18, keyOf_val, if_pos (by simp)]
  rcases (by omega : j = 0 ∨ j = 1 ∨ j = 2 ∨ j = 3 ∨ 4 ≤ j) with rfl | rfl | rfl | rfl | h5
  · rfl
  · rfl
  · rfl
  · show codeD (decB bb18) = 0
    rw [decB18]; rfl
  · exact h4 j hj h5
theorem first18b (A : Option Addr) (c : Nat) (rb kb vb bb : List UInt8) : firstC (vcode 256 ⟨A, 31, c⟩ zClaim rb kb vb bb) = some (0, 4) := firstC_at (by decide) (fun j hj => absurd hj (Nat.not_lt_zero _)) rfl (by decide)
theorem acc18 (B : Option Addr) (c' : Nat) : accV 256 E18 ⟨⟨B, 32, c'⟩, ⟨none, 0, 0⟩, false⟩ kb18 [] zProof [] = true := by
  unfold accV
  rw [show dpOf zProof [] = p18 from rfl, root18, decide_eq_true (show claimE ⟨⟨B, 32, c'⟩, ⟨none, 0, 0⟩, false⟩ = 0 by unfold claimE; rw [if_pos rfl, if_neg (by simp)]), decide_eq_true (show checkP zProof = 0 from check18), decide_eq_true rfl]
  rfl
theorem acc18b (B : Option Addr) (c' : Nat) : accV 256 zB32 ⟨⟨B, 32, c'⟩, ⟨none, 0, 0⟩, false⟩ kb18 [] zProof [] = false := by
  unfold accV
  rw [show dpOf zProof [] = p18 from rfl, root18, decide_eq_false E18_ne]
  simp
end Go.Proofs.YtgfkbeipckbkiaaGreatDoor
/- U49 -/
namespace Go.Proofs.YtgfkbeipckbkiaaGreatDoor
set_option linter.unusedSimpArgs false
set_option linter.unusedVariables false
open Go.RowKit
/-! sets of depths -/
/-! the way of a key -/
end Go.Proofs.YtgfkbeipckbkiaaGreatDoor
/- U46 -/
namespace Go.Proofs.YtgfkbeipckbkiaaGreatDoor
set_option linter.unusedSimpArgs false
set_option linter.unusedVariables false
open Go.RowKit
/-- the deepest subtree beside the way is not empty -/
def LastOk (key : B32) (t : Tr) (D : Nat) : Prop := ∀ i, D = i + 1 → (sibK key t i).kind ≠ 0
theorem prf_depths {key : B32} {t : Tr} {D : Nat} (hD : D ≤ 256) : depths (dset (dsK key t D)) = dsK key t D :=
  dset_depths ((List.pairwise_lt_range).filter _) fun i hi => by have := dsK_lt hi; omega
theorem prf_ok (n : Nat) {key : B32} {t : Tr} {D : Nat} (hD : WayTo key t D) (hL : LastOk key t D) (A : Option Addr) (c : Nat) : checkP (prfK n key t D A c) = 0 := by
  have hle := hD.le
  have hdep := prf_depths (key := key) (t := t) hle
  have hk : (wayK key t D).kind = 0 ∨ (wayK key t D).kind = 1 := by
    have := hD.end_
    generalize wayK key t D = x at *
    cases x with
    | nil => exact .inl rfl
    | leaf k v => exact .inr rfl
    | node l r => exact (this rfl).elim
  refine checkP_ok ?_ ?_ ?_ ?_ ?_
  · show (decide (((wayK key t D).kind : Int) = 0) || decide (((wayK key t D).kind : Int) = 1)) = true
    rcases hk with h | h <;> rw [h] <;> rfl
  · show (decide (0 ≤ (D : Int)) && decide ((D : Int) ≤ 256)) = true
    simp; omega
  · show (decide (((wayK key t D).kind : Int) = 1) || decide (leafT n (wayK key t D) = zLeaf)) = true
    rcases hk with h | h
    · rw [leafT_ne n _ (by omega)]; simp
    · rw [h]; rfl
  · show decide (lastI (dset (dsK key t D)) 256 = (D : Int) - 1) = true
    refine decide_eq_true ?_
    rcases D with _ | i
    · rw [lastI_nil (by rw [hdep]; rfl)]; rfl
    · have h1 := dsK_yes (hL i rfl)
      rw [lastI_pos (by rw [hdep, h1]; simp), hdep, h1]
      simp
  · show decide (((depths (dset (dsK key t D))).length : Int) = ((dsK key t D).length : Int)) = true
    rw [hdep]; simp
theorem rsK_len (n : Nat) (key : B32) (t : Tr) (D : Nat) : (rsK n key t D).length = (dsK key t D).length := by unfold rsK; rw [List.length_map]
def kB (x : UInt8) : B32 := ⟨x :: List.replicate 31 0, rfl⟩
theorem slz_nil (h : Zh) : SlZ h ⟨none, 0, 0⟩ [] := ⟨rfl, Nat.le_refl _, fun _ => ⟨rfl, rfl⟩, RdZ.nil _ _⟩
theorem z7 : prfK 256 (kB 7) .nil 0 none 0 = zProof := by
  unfold prfK
  show (⟨0, 0, zLeaf, dset [], ⟨none, 0, 0⟩⟩ : Proof) = zProof
  rw [dset_nil]; rfl
end Go.Proofs.YtgfkbeipckbkiaaGreatDoor
/- U50 -/
namespace Go.Proofs.YtgfkbeipckbkiaaGreatDoor
set_option linter.unusedSimpArgs false
set_option linter.unusedVariables false
open Go.RowKit
/-- the loop over the depths -/
theorem leafT_one (n : Nat) (e : En) {d : Nat} (h : d ≤ 256) : leafT n (mkT [e] d) = leafOf n e.key e.val := by rw [mkT_one e h]; rfl
theorem leafT_nil (n d : Nat) : leafT n (mkT [] d) = zLeaf := by rw [mkT_nil]; rfl
theorem kind_one (e : En) {d : Nat} (h : d ≤ 256) : (mkT [e] d).kind = 1 := by rw [mkT_one e h]; rfl
theorem kind_nil (d : Nat) : (mkT [] d).kind = 0 := by rw [mkT_nil]; rfl
end Go.Proofs.YtgfkbeipckbkiaaGreatDoor
/- U51t -/
namespace Go.Proofs.YtgfkbeipckbkiaaGreatDoor
set_option linter.unusedSimpArgs false
set_option linter.unusedVariables false
open Go.RowKit
instance : TBool Tryz.prog 4 := ⟨Tryz.underlying4⟩
theorem New_no (i : Int) (h : ¬ (0 ≤ i ∧ i ≤ 256)) : Spec Tryz.prog 53 [.int .i64 i].toArray [] [] (fun _ : Unit => .tuple #[.pointer none, .int .i64 4]) (fun _ => []) := by
  refine spec_of Tryz.func53 rfl (n := 15) rfl rfl ?_
  intro W
  by_cases h0 : i < 0
  · refine h_seq ?_
    refine h_reg ?_
    refine h_op (r_assign rfl) ?_
    refine h_op (r_assign rfl) ?_
    refine h_nil ?_
    refine q_then ?_
    refine h_seq ?_
    refine h_seq ?_
    refine h_reg ?_
    refine h_op (r_move rfl) ?_
    refine h_op (r_bool (r_lss rfl rfl) (decide_eq_true h0)) ?_
    refine h_op (r_move rfl) ?_
    refine h_opOff ?_
    refine h_opOff ?_
    refine h_op (r_pick rfl rfl) ?_
    refine h_nil ?_
    refine q_then ?_
    refine h_condT rfl ?_
    refine h_seq ?_
    refine h_reg ?_
    refine h_op (r_assign rfl) ?_
    refine h_op (r_assign rfl) ?_
    refine h_nil ?_
    refine q_then ?_
    refine h_ret ?_
    refine q_thenR ?_
    exact h_ret2 rfl rfl rfl fun w s => ⟨(), rfl, s.res (List.nil_sublist _) (by simp)⟩
  · refine h_seq ?_
    refine h_reg ?_
    refine h_op (r_assign rfl) ?_
    refine h_op (r_assign rfl) ?_
    refine h_nil ?_
    refine q_then ?_
    refine h_seq ?_
    refine h_seq ?_
    refine h_reg ?_
    refine h_op (r_move rfl) ?_
    refine h_op (r_bool (r_lss rfl rfl) (decide_eq_false h0)) ?_
    refine h_op (r_move rfl) ?_
    refine h_op (r_move rfl) ?_
    refine h_op (r_bool (r_gtr rfl rfl) (decide_eq_true (by omega))) ?_
    refine h_op (r_pick rfl rfl) ?_
    refine h_nil ?_
    refine q_then ?_
    refine h_condT rfl ?_
    refine h_seq ?_
    refine h_reg ?_
    refine h_op (r_assign rfl) ?_
    refine h_op (r_assign rfl) ?_
    refine h_nil ?_
    refine q_then ?_
    refine h_ret ?_
    refine q_thenR ?_
    exact h_ret2 rfl rfl rfl fun w s => ⟨(), rfl, s.res (List.nil_sublist _) (by simp)⟩
theorem Hash_no (i : Int) (h : ¬ (0 ≤ i ∧ i ≤ 256)) : Spec Tryz.prog 13 [.int .i64 i].toArray [] [] (fun _ : Unit => .pointer none) (fun _ => []) := by
  refine spec_of Tryz.func13 rfl (n := 13) rfl rfl ?_
  intro W
  refine h_seq ?_
  refine h_reg ?_
  refine h_op (r_assign rfl) ?_
  refine h_nil ?_
  refine q_then ?_
  refine h_seq ?_
  refine h_reg ?_
  refine h_op (r_move rfl) ?_
  refine h_call ((New_no i h).comes) rfl rfl rfl fun _ => ?_
  refine h_op (r_move rfl) ?_
  refine h_op (r_extract rfl rfl) ?_
  refine h_op (r_extract rfl rfl) ?_
  refine h_op (r_assign rfl) ?_
  refine h_op (r_assign rfl) ?_
  refine h_nil ?_
  refine q_then ?_
  refine h_seq ?_
  refine h_seq ?_
  refine h_reg ?_
  refine h_op (r_move rfl) ?_
  refine h_op (r_neq rfl rfl) ?_
  refine h_nil ?_
  refine q_then ?_
  refine h_yes rfl ((by decide)) ?_
  refine h_seq ?_
  refine h_reg ?_
  refine h_op (r_assign rfl) ?_
  refine h_nil ?_
  refine q_then ?_
  refine h_ret ?_
  refine q_thenR ?_
  exact h_ret1 rfl rfl fun w s => ⟨(), rfl, s.res (List.nil_sublist _) (by simp)⟩
theorem Few_long (l : List En) (B : Option Addr) (c : Nat) (hl : 12 < l.length) : Spec Tryz.prog 50 [.slice B l.length c].toArray [.rd B (ents l)] [] (fun _ : Unit => .bool (fewM l)) (fun _ => []) := by
  unfold fewM
  rw [decide_eq_false (by omega), Bool.false_and]
  refine spec_of Tryz.func50 rfl (n := 20) rfl rfl ?_
  intro W
  refine h_seq ?_
  refine h_reg ?_
  refine h_op (r_assign rfl) ?_
  refine h_nil ?_
  refine q_then ?_
  refine h_seq ?_
  refine h_seq ?_
  refine h_reg ?_
  refine h_op (r_move rfl) ?_
  refine h_op (r_len rfl) ?_
  refine h_op (r_gtr rfl rfl) ?_
  refine h_nil ?_
  refine q_then ?_
  refine h_yes rfl ((by omega)) ?_
  refine h_seq ?_
  refine h_reg ?_
  refine h_op (r_assign rfl) ?_
  refine h_nil ?_
  refine q_then ?_
  refine h_ret ?_
  refine q_thenR ?_
  exact h_ret1 rfl rfl fun w s => ⟨(), rfl, s.res (List.nil_sublist _) (by simp)⟩
theorem Few_any (l : List En) (B : Option Addr) (c : Nat) : Spec Tryz.prog 50 [.slice B l.length c].toArray [.rd B (ents l)] [] (fun _ : Unit => .bool (fewM l)) (fun _ => []) := by
  by_cases hl : 12 < l.length
  · exact Few_long l B c hl
  · exact Few_s l B c (by omega)
theorem Tree_bits (i : Int) (hi : ¬ (0 ≤ i ∧ i ≤ 256)) (l : List En) (B : Option Addr) (c : Nat) : Spec Tryz.prog 12 [.int .i64 i, .slice B l.length c].toArray [] [] (fun _ : Unit => .tuple #[.slice none 0 0, .pointer none, .bool false]) (fun _ => []) := by
  refine spec_of Tryz.func12 rfl (n := 27) rfl rfl ?_
  intro W
  refine h_seq ?_
  refine h_reg ?_
  refine h_op (r_assign rfl) ?_
  refine h_op (r_assign rfl) ?_
  refine h_op (r_assign rfl) ?_
  refine h_nil ?_
  refine q_then ?_
  refine h_seq ?_
  refine h_seq ?_
  refine h_reg ?_
  refine h_op (r_move rfl) ?_
  refine h_call ((Right_no i hi).comes) rfl rfl rfl fun _ => ?_
  refine h_op (r_not rfl) ?_
  refine h_op (r_move rfl) ?_
  refine h_opOff ?_
  refine h_opOff ?_
  refine h_opOff ?_
  refine h_op (r_pick rfl rfl) ?_
  refine h_nil ?_
  refine q_then ?_
  refine h_condT rfl ?_
  refine h_seq ?_
  refine h_reg ?_
  refine h_op (r_assign rfl) ?_
  refine h_op (r_assign rfl) ?_
  refine h_op (r_assign rfl) ?_
  refine h_nil ?_
  refine q_then ?_
  refine h_ret ?_
  refine q_thenR ?_
  exact h_ret3 rfl rfl rfl rfl fun w s => ⟨(), rfl, s.res (List.nil_sublist _) (by simp)⟩
theorem Tree_few (n : Nat) (hn : n ≤ 256) (l : List En) (B : Option Addr) (c : Nat) (hf : fewM l = false) : Spec Tryz.prog 12 [.int .i64 (n : Int), .slice B l.length c].toArray [.rd B (ents l)] [] (fun _ : Unit => .tuple #[.slice none 0 0, .pointer none, .bool false]) (fun _ => []) := by
  refine spec_of Tryz.func12 rfl (n := 27) rfl rfl ?_
  intro W
  refine h_seq ?_
  refine h_reg ?_
  refine h_op (r_assign rfl) ?_
  refine h_op (r_assign rfl) ?_
  refine h_op (r_assign rfl) ?_
  refine h_nil ?_
  refine q_then ?_
  refine h_seq ?_
  refine h_seq ?_
  refine h_reg ?_
  refine h_op (r_move rfl) ?_
  refine h_call ((Right_yes n hn).comes) rfl rfl rfl fun _ => ?_
  refine h_op (r_not rfl) ?_
  refine h_op (r_move rfl) ?_
  refine h_op (r_move rfl) ?_
  refine h_call ((Few_any l B c).comes) rfl rfl rfl fun _ => ?_
  rw [hf]
  refine h_op (r_not rfl) ?_
  refine h_op (r_pick rfl rfl) ?_
  refine h_nil ?_
  refine q_then ?_
  refine h_condT rfl ?_
  refine h_seq ?_
  refine h_reg ?_
  refine h_op (r_assign rfl) ?_
  refine h_op (r_assign rfl) ?_
  refine h_op (r_assign rfl) ?_
  refine h_nil ?_
  refine q_then ?_
  refine h_ret ?_
  refine q_thenR ?_
  exact h_ret3 rfl rfl rfl rfl fun w s => ⟨(), rfl, s.res (List.nil_sublist _) (by simp)⟩
/-- entries whose values lie in memory -/
def SlsZ (h : Zh) (l : List En) : Prop := ∀ e ∈ l, SlZ h e.e.value e.val
theorem SlsZ.few {h : Zh} {l : List En} (x : SlsZ h l) (hf : fewM l = true) : ValsZ h l := fun e he => by
  unfold fewM at hf
  rw [Bool.and_eq_true, List.all_eq_true] at hf
  have h1 := of_decide_eq_true (hf.2 e he)
  have h2 := (x e he).len
  exact ⟨x e he, by omega⟩
theorem ValsZ.few {h h' : Zh} {l : List En} (x : ValsZ h l) (hl : LeZ h h') : ValsZ h' (ofM l) := (ValsZ.of x).mono hl
/-- the tree of a map, along a key's way -/
structure WayM (key : B32) (m : List En) (D : Nat) : Prop where
  way : WayTo key (mkT m 0) D
  last : (atM key m D).length ≤ 1
  more : ∀ i, i < D → 1 < (atM key m i).length
  on : ∀ i, i ≤ D → wayK key (mkT m 0) i = mkT (atM key m i) i
theorem wayM {key : B32} {m : List En} (h : Alike m 0) : ∃ D, WayM key m D := by
  obtain ⟨D, a, b, c, d, e⟩ := wayTo_mkT (key := key) h
  exact ⟨D, a, c, d, e⟩
theorem WayM.sib {key : B32} {m : List En} {D : Nat} (w : WayM key m D) : ∀ i, i < D → sibK key (mkT m 0) i = mkT (sibM key m i) (i + 1) := fun i hi => by
  unfold sibK
  have hle := w.way.le
  rw [w.on i (by omega), mkT_two (w.more i hi) (by omega)]
  unfold sibM
  cases bitAt key i <;> rfl
theorem WayM.lastOk {key : B32} {m : List En} {D : Nat} (w : WayM key m D) : LastOk key (mkT m 0) D := by
  intro i hi
  have hle := w.way.le
  rw [w.sib i (by omega), mkT_kind _ (by omega)]
  have h1 := w.more i (by omega)
  have h2 := w.last
  rw [hi] at h2
  change (part (atM key m i) i (bitAt key i)).length ≤ 1 at h2
  have h3 := part_len (atM key m i) i
  show min (part (atM key m i) i (!bitAt key i)).length 2 ≠ 0
  cases hb : bitAt key i <;> rw [hb] at h2 <;> simp only [Bool.not_true, Bool.not_false] <;> omega
end Go.Proofs.YtgfkbeipckbkiaaGreatDoor
/- U52 -/
namespace Go.Proofs.YtgfkbeipckbkiaaGreatDoor
set_option linter.unusedSimpArgs false
set_option linter.unusedVariables false
open Go.RowKit
theorem first_diff (a b : B32) : ∀ n, (∀ j, j < n → (bitAt a j ^^ bitAt b j) = false) ∨ ∃ k, k < n ∧ (∀ j, j < k → (bitAt a j ^^ bitAt b j) = false) ∧ (bitAt a k ^^ bitAt b k) = true
  | 0 => .inl fun j hj => by omega
  | n + 1 => by
    rcases first_diff a b n with h | ⟨k, h1, h2, h3⟩
    · cases hb : bitAt a n ^^ bitAt b n
      · refine .inl fun j hj => ?_
        rcases Nat.lt_or_ge j n with h4 | h4
        · exact h j h4
        · obtain rfl : j = n := by omega
          exact hb
      · exact .inr ⟨n, by omega, h, hb⟩
    · exact .inr ⟨k, by omega, h2, h3⟩
theorem common_ge {a b : B32} {D : Nat} (hD : D ≤ 256) (h : ∀ i, i < D → bitAt a i = bitAt b i) : D ≤ common a b := by
  rcases first_diff a b 256 with h1 | ⟨k, h1, h2, h3⟩
  · rw [common_of (Nat.le_refl _) h1 (.inl rfl)]; exact hD
  · rw [common_of (by omega) h2 (.inr h3)]
    rcases Nat.lt_or_ge k D with h4 | h4
    · rw [h k h4] at h3; simp at h3
    · exact h4
theorem atM_bits {key : B32} {m : List En} : ∀ {D : Nat} {e : En}, e ∈ atM key m D → e ∈ m ∧ ∀ i, i < D → bitAt e.key i = bitAt key i
  | 0, e, h => ⟨h, fun i hi => by omega⟩
  | D + 1, e, h => by
    obtain ⟨h1, h2⟩ := part_mem.1 h
    obtain ⟨h3, h4⟩ := atM_bits h1
    refine ⟨h3, fun i hi => ?_⟩
    rcases Nat.lt_or_ge i D with h5 | h5
    · exact h4 i h5
    · obtain rfl : i = D := by omega
      exact h2
theorem atM_key {key : B32} {m : List En} {e : En} (h : e ∈ m) (hk : e.key = key) : ∀ D, e ∈ atM key m D
  | 0 => h
  | D + 1 => part_mem.2 ⟨atM_key h hk D, by rw [hk]⟩
/-- what a map holds for a key -/
def getE' (m : List En) (key : B32) : Option En := m.find? fun e => decide (e.key = key)
def getV : Option En → List UInt8
  | some e => e.val
  | none => []
def getS : Option En → Sl
  | some e => e.e.value
  | none => ⟨none, 0, 0⟩
theorem getS_ok {h : Zh} {m : List En} (hv : ValsZ h m) (key : B32) : SlZ h (getS (getE' m key)) (getV (getE' m key)) ∧ (getV (getE' m key)).length ≤ 10000000 := by
  cases hg : getE' m key with
  | none => exact ⟨⟨rfl, Nat.le_refl _, fun _ => ⟨rfl, rfl⟩, RdZ.nil _ _⟩, Nat.zero_le _⟩
  | some e => exact hv e (List.mem_of_find?_eq_some hg)
/-- the end of the way, against what the map holds -/
theorem end_get {key : B32} {m : List En} {D : Nat} (hl : (atM key m D).length ≤ 1) : (atM key m D = [] ∧ getE' m key = none) ∨ ∃ e, atM key m D = [e] ∧ (∀ i, i < D → bitAt e.key i = bitAt key i) ∧ ((e.key = key ∧ getE' m key = some e) ∨ (e.key ≠ key ∧ getE' m key = none)) := by
  have hno : ∀ {e : En}, getE' m key = some e → e ∈ atM key m D ∧ e.key = key := fun {e} he => by
    have h2 := List.find?_some he
    have h3 : e.key = key := by simpa using h2
    exact ⟨atM_key (List.mem_of_find?_eq_some he) h3 D, h3⟩
  cases hg : getE' m key with
  | none =>
    match hq : atM key m D, hl with
    | [], _ => exact .inl ⟨rfl, rfl⟩
    | [e], _ =>
      have hm : e ∈ atM key m D := by rw [hq]; simp
      obtain ⟨h1, h2⟩ := atM_bits hm
      refine .inr ⟨e, rfl, h2, .inr ⟨fun hk => ?_, rfl⟩⟩
      have := List.find?_eq_none.1 hg e h1
      simp [hk] at this
    | _ :: _ :: _, hl => exact absurd hl (by simp)
  | some f =>
    obtain ⟨h1, h2⟩ := hno hg
    match hq : atM key m D, hl with
    | [], _ => rw [hq] at h1; cases h1
    | [e], _ =>
      rw [hq] at h1
      obtain rfl : f = e := by simpa using h1
      exact .inr ⟨f, rfl, fun i _ => by rw [h2], .inl ⟨h2, rfl⟩⟩
    | _ :: _ :: _, hl => exact absurd hl (by simp)
/-- what the proof shows -/
theorem sup_true {key : B32} {m : List En} {D : Nat} (w : WayM key m D) (n : Nat) (A : Option Addr) (c : Nat) : supP (prfK n key (mkT m 0) D A c) key (sumB n (preV (getV (getE' m key)))) true = (getE' m key).isSome ∧ supP (prfK n key (mkT m 0) D A c) key (sumB n (preV (getV (getE' m key)))) false = !(getE' m key).isSome ∧ ∀ other, other ≠ sumB n (preV (getV (getE' m key))) → supP (prfK n key (mkT m 0) D A c) key other true = false := by
  have hon := w.on D (Nat.le_refl _)
  have hD := w.way.le
  unfold prfK supP
  rw [hon]
  rcases end_get w.last with ⟨h1, h2⟩ | ⟨e, h1, hb, ⟨hk, h2⟩ | ⟨hk, h2⟩⟩
  · rw [h1, h2, kind_nil, leafT_nil]
    refine ⟨?_, ?_, fun other _ => ?_⟩
    · rw [if_pos rfl]; exact decide_eq_false fun e => absurd (show ((0 : Nat) : Int) = 1 from e.1) (by decide)
    · rw [if_neg (by simp), if_neg (show ¬ ((0 : Nat) : Int) = 1 by decide)]; exact decide_eq_true rfl
    · rw [if_pos rfl]; exact decide_eq_false fun e => absurd (show ((0 : Nat) : Int) = 1 from e.1) (by decide)
  · rw [h1, h2, kind_one e hD, leafT_one n e hD, hk]
    refine ⟨?_, ?_, fun other ho => ?_⟩
    · rw [if_pos rfl]; exact decide_eq_true ⟨rfl, rfl⟩
    · rw [if_neg (by simp)]; refine (if_pos (show _ = (1 : Int) from rfl)).trans ?_; exact decide_eq_false fun e => e.1 rfl
    · rw [if_pos rfl]; exact decide_eq_false fun e => ho (congrArg Leaf.value e.2).symm
  · rw [h1, h2, kind_one e hD, leafT_one n e hD]
    refine ⟨?_, ?_, fun other _ => ?_⟩
    · rw [if_pos rfl]; exact decide_eq_false fun e' => hk (congrArg Leaf.key e'.2)
    · rw [if_neg (by simp)]; refine (if_pos (show _ = (1 : Int) from rfl)).trans ?_; exact decide_eq_true ⟨hk, Int.ofNat_le.2 (common_ge hD hb)⟩
    · rw [if_pos rfl]; exact decide_eq_false fun e' => hk (congrArg Leaf.key e'.2)
theorem find_take {m : List En} {key : B32} {k : Nat} {e : En} (he : m[k]? = some e) (hk : e.key = key) (ha : ∀ f ∈ m.take k, f.key ≠ key) : getE' m key = some e := by
  have e1 : m = m.take k ++ e :: m.drop (k + 1) := by
    have h1 := List.take_append_drop k m
    have hl := (List.getElem?_eq_some_iff.1 he)
    obtain ⟨hl, hx⟩ := hl
    rw [List.drop_eq_getElem_cons hl, hx] at h1
    exact h1.symm
  unfold getE'
  rw [e1, List.find?_append]
  have h2 : (m.take k).find? (fun f => decide (f.key = key)) = none := List.find?_eq_none.2 fun f hf => by simpa using ha f hf
  rw [h2, List.find?_cons_of_pos (by simpa using hk)]
  rfl
theorem Get_s (m : List En) (B : Option Addr) (c : Nat) (key : B32) (hm : m.length ≤ 100000000) : Spec Tryz.prog 46 [.slice B m.length c, .agg key.cells.toArray].toArray [.rd B (ents m)] [] (fun _ : Unit => .tuple #[.slice (getS (getE' m key)).A (getS (getE' m key)).n (getS (getE' m key)).c, .bool (getE' m key).isSome]) (fun _ => []) := by
  refine spec_of Tryz.func46 rfl (n := 25) rfl rfl ?_
  intro W
  refine h_seq ?_
  refine h_reg ?_
  refine h_opX (x_box rfl) fun g3 => ?_
  refine h_op (r_assign rfl) ?_
  refine h_op (r_assign rfl) ?_
  refine h_nil ?_
  refine q_then ?_
  refine h_seq ?_
  refine h_seq ?_
  refine h_reg ?_
  refine h_op (r_assign rfl) ?_
  refine h_nil ?_
  refine q_then ?_
  refine h_block ?_
  refine h_loop (fun (k : Nat) => k ≤ m.length ∧ ∀ f ∈ m.take k, f.key ≠ key) (fun (k : Nat) => [(6, .int .i64 (k : Int)), (0, .slice B m.length c), (3, .pointer (some ⟨g3, 0, none⟩))]) (fun (k : Nat) => [.blk g3 key.cells 39, .rd B (ents m)]) (fun (k : Nat) => m.length - k) 0 (⟨Nat.zero_le _, fun f hf => by simp at hf⟩) ⟨rfl, rfl, rfl, trivial⟩ (same) ?_
  rintro k ⟨hk, ha⟩
  refine h_seq ?_
  refine h_seq ?_
  refine h_reg ?_
  refine h_op (r_move rfl) ?_
  refine h_op (r_move rfl) ?_
  refine h_op (r_len rfl) ?_
  refine h_op (r_lss rfl rfl) ?_
  refine h_nil ?_
  refine q_then ?_
  refine h_cond rfl (fun h => ?_) (fun h => ?_)
  · obtain ⟨e, he⟩ := getE (l := m) (k := k) (by omega)
    refine h_pure (φ := ∃ b o, B = some ⟨b, o, none⟩) (fun w s => Rd.some (s.ok (.rd B (ents m)) (by simp)) (by rw [ents_len]; omega)) ?_
    rintro ⟨bb, o, rfl⟩
    refine h_skip ?_
    refine q_then ?_
    refine h_seq ?_
    refine h_block ?_
    refine h_seq ?_
    refine ha_start [.blk g3 key.cells 39, .rd (some ⟨bb, o, none⟩) (ents m)] [] mixed (same) ?_
    refine ha_takeP 0 rfl (r_move rfl) ?_
    refine ha_takeP 1 rfl (r_move rfl) ?_
    refine ha_takeP 2 rfl (r_idx rfl rfl) ?_
    refine ha_takeP 3 rfl (r_field rfl) ?_
    refine ha_take 4 rfl (r_nthr rfl (out := e.key.cells) (B32.cells_length _) (ents_key he)) ?_
    refine ha_take 5 rfl (r_loadr rfl) ?_
    refine ha_takeP 6 rfl (r_eqr rfl rfl) ?_
    refine ha_done (by kernel_rfl) ?_
    refine q_then ?_
    refine h_cond rfl (fun h2 => ?_) (fun h2 => ?_)
    · rw [find_take he (by simpa using h2) ha]
      refine h_seq ?_
      refine h_reg ?_
      refine h_op (r_move rfl) ?_
      refine h_op (r_move rfl) ?_
      refine h_op (r_idx rfl rfl) ?_
      refine h_op (r_field rfl (O' := o + (k * 33 + 32)) (by omega)) ?_
      refine h_op (r_nth rfl (ents_val he)) ?_
      refine h_op (r_assign rfl) ?_
      refine h_op (r_assign rfl) ?_
      refine h_nil ?_
      refine q_then ?_
      refine h_ret ?_
      refine q_blockR ?_
      refine q_thenR ?_
      refine q_thenR ?_
      refine q_blockR ?_
      refine q_thenR ?_
      exact h_ret2 rfl rfl rfl fun w s => ⟨(), rfl, s.res (List.nil_sublist _) (by simp)⟩
    · have ha2 : ∀ f ∈ m.take (k + 1), f.key ≠ key := fun f hf => by
        rw [take_snocE he] at hf
        rcases List.mem_append.1 hf with hf | hf
        · exact ha f hf
        · rw [List.mem_singleton.1 hf]; simpa using h2
      refine h_skip ?_
      refine q_block ?_
      refine q_then ?_
      refine h_reg ?_
      refine h_op (r_move rfl) ?_
      refine h_op (r_add rfl rfl) ?_
      refine h_op (r_assign rfl) ?_
      refine h_nil ?_
      exact h_back (k + 1) (⟨by omega, ha2⟩) (by omega) ⟨rfl, rfl, rfl, trivial⟩ (same)
  · obtain rfl : k = m.length := by omega
    rw [List.take_length] at ha
    have : getE' m key = none := List.find?_eq_none.2 fun f hf => by simpa using ha f hf
    rw [this]
    refine h_exit ?_
    refine q_thenE ?_
    refine q_thenE ?_
    refine q_blockE ?_
    refine q_then ?_
    refine h_seq ?_
    refine h_reg ?_
    refine h_op (r_assign rfl) ?_
    refine h_op (r_assign rfl) ?_
    refine h_nil ?_
    refine q_then ?_
    refine h_ret ?_
    exact h_ret2 rfl rfl rfl fun w s => ⟨(), rfl, s.res (List.nil_sublist _) (by simp)⟩
end Go.Proofs.YtgfkbeipckbkiaaGreatDoor
/- U26z -/
namespace Go.Proofs.YtgfkbeipckbkiaaGreatDoor
set_option linter.unusedSimpArgs false
set_option linter.unusedVariables false
open Go.RowKit
instance (L : List Fa) (A : Option Addr) : Rd1 L (.rd A (dgs [])) := inferInstanceAs (Rd1 L (.rd A []))
end Go.Proofs.YtgfkbeipckbkiaaGreatDoor
/- U27 -/
namespace Go.Proofs.YtgfkbeipckbkiaaGreatDoor
set_option linter.unusedSimpArgs false
set_option linter.unusedVariables false
open Go.RowKit
def k5 : B32 := ⟨5 :: List.replicate 31 0, rfl⟩
end Go.Proofs.YtgfkbeipckbkiaaGreatDoor
/- U55 -/
namespace Go.Proofs.YtgfkbeipckbkiaaGreatDoor
set_option linter.unusedSimpArgs false
set_option linter.unusedVariables false
open Go.RowKit
theorem kind_zero {t : Tr} (h : ¬ t.kind ≠ 0) : t = .nil := by
  cases t with
  | nil => rfl
  | leaf k v => exact (h (by simp [Tr.kind])).elim
  | node l r => exact (h (by simp [Tr.kind])).elim
theorem dep_dsK {key : B32} {t : Tr} {D : Nat} (hD : D ≤ 256) : ∀ i, i ≤ D → dep (dset (dsK key t D)) i = dsK key t i := fun i hi => by
  show (List.range i).filter _ = (List.range i).filter _
  apply List.filter_congr
  intro j hj
  have hj := List.mem_range.1 hj
  rw [dset_bit _ j (by omega)]
  refine decide_eq_decide.2 ⟨fun h => by simpa using (List.mem_filter.1 h).2, fun h => List.mem_filter.2 ⟨List.mem_range.2 (by omega), by simpa using h⟩⟩
theorem dsK_pre (key : B32) (t : Tr) (i : Nat) : ∀ j, ∃ r, dsK key t (i + j) = dsK key t i ++ r
  | 0 => ⟨[], by simp⟩
  | j + 1 => by
    obtain ⟨r, hr⟩ := dsK_pre key t i j
    by_cases h : (sibK key t (i + j)).kind ≠ 0
    · exact ⟨r ++ [i + j], by rw [← Nat.add_assoc, dsK_yes h, hr, List.append_assoc]⟩
    · exact ⟨r, by rw [← Nat.add_assoc, dsK_no h, hr]⟩
theorem expL_prf (n : Nat) {key : B32} {t : Tr} {D : Nat} (hD : D ≤ 256) : expL (sumB n preE) (dset (dsK key t D)) (rsK n key t D) D = (List.range D).map fun i => dgT n (sibK key t i) := by
  rw [expL_eq]
  apply List.map_congr_left
  intro i hi
  have hi := List.mem_range.1 hi
  rw [dset_bit _ i (by omega), dep_dsK hD i (by omega)]
  by_cases h : (sibK key t i).kind ≠ 0
  · have hm : i ∈ dsK key t D := List.mem_filter.2 ⟨List.mem_range.2 hi, by simpa using h⟩
    rw [decide_eq_true hm, if_pos rfl]
    obtain ⟨r, hr⟩ := dsK_pre key t (i + 1) (D - (i + 1))
    rw [show i + 1 + (D - (i + 1)) = D by omega, dsK_yes h] at hr
    unfold rsK
    rw [hr, List.getD_eq_getElem?_getD, List.map_append, List.map_append, List.append_assoc, List.getElem?_append_right (by simp)]
    simp
  · have hm : i ∉ dsK key t D := fun hm => h (by simpa using (List.mem_filter.1 hm).2)
    rw [decide_eq_false hm, if_neg (by simp), kind_zero h]
    rfl
theorem wayP_prf (n : Nat) {key : B32} {t : Tr} {D : Nat} (hw : WayTo key t D) (A : Option Addr) (c : Nat) : ∀ k, k ≤ D → sumB n (wayP n key ((List.range D).map fun i => dgT n (sibK key t i)) (endP (prfK n key t D A c)) k) = dgT n (wayK key t (D - k))
  | 0, _ => by
    have he := hw.end_
    show sumB n (if (((wayK key t D).kind : Nat) : Int) = 1 then preL (leafT n (wayK key t D)) else preE) = dgT n (wayK key t D)
    generalize wayK key t D = x at *
    cases x with
    | nil => rfl
    | leaf k v => rfl
    | node l r => exact (he rfl).elim
  | k + 1, hk => by
    have ih := wayP_prf n hw A c k (by omega)
    have hlen : ((List.range D).map fun i => dgT n (sibK key t i)).length = D := by simp
    have hi : D - 1 - k < D := by omega
    have hget : ((List.range D).map fun i => dgT n (sibK key t i)).getD (D - 1 - k) zB32 = dgT n (sibK key t (D - 1 - k)) := by
      rw [List.getD_eq_getElem?_getD, List.getElem?_map, List.getElem?_range hi]; rfl
    rw [wayP, hlen, hget, ih, show D - (k + 1) = D - 1 - k by omega, show D - k = (D - 1 - k) + 1 by omega]
    have hon := hw.on (D - 1 - k) hi
    unfold sibK
    show sumB n _ = _
    rw [show wayK key t (D - 1 - k + 1) = (wayK key t (D - 1 - k)).sub (bitAt key (D - 1 - k)) from rfl]
    generalize wayK key t (D - 1 - k) = x at *
    cases x with
    | nil => cases hon
    | leaf k v => cases hon
    | node l r => cases bitAt key (D - 1 - k) <;> rfl
end Go.Proofs.YtgfkbeipckbkiaaGreatDoor
/- E25 -/
namespace Go.Proofs.YtgfkbeipckbkiaaGreatDoor
set_option linter.unusedSimpArgs false
set_option linter.unusedVariables false
open Go.RowKit
theorem b32At_of {l pre post : List UInt8} {x : B32} {o : Nat} (h : l = pre ++ (x.1 ++ post)) (hp : pre.length = o) : b32At l o = x := by
  subst hp
  subst h
  apply Subtype.ext
  apply List.ext_getElem?
  intro j
  show ((List.range 32).map fun j => (pre ++ (x.1 ++ post)).getD (pre.length + j) 0)[j]? = _
  have hx := x.2
  by_cases hj : j < 32
  · rw [List.getElem?_map, List.getElem?_range hj]
    simp only [Option.map_some, List.getD_eq_getElem?_getD]
    rw [List.getElem?_append_right (by omega), Nat.add_sub_cancel_left, List.getElem?_append_left (by omega), List.getElem?_eq_getElem (by omega)]
    rfl
  · rw [List.getElem?_eq_none (by simp; omega), List.getElem?_eq_none (by omega)]
theorem sibsAt_of {l pre : List UInt8} {ss : List B32} {base : Nat} (h : l = pre ++ ss.flatMap (·.1)) (hp : pre.length = base) : sibsAt l base ss.length = ss := by
  apply List.ext_getElem?
  intro i
  unfold sibsAt
  by_cases hi : i < ss.length
  · rw [List.getElem?_map, List.getElem?_range hi, List.getElem?_eq_getElem hi]
    refine congrArg some (b32At_of (pre := pre ++ (ss.take i).flatMap (·.1)) (post := (ss.drop (i + 1)).flatMap (·.1)) ?_ ?_)
    · rw [h, List.append_assoc]
      congr 1
      rw [← List.append_assoc, ← List.flatMap_singleton (f := fun b : B32 => b.1) (x := ss[i]), ← List.flatMap_append, ← List.flatMap_append]
      congr 1
      rw [List.append_assoc, List.singleton_append, List.getElem_cons_drop, List.take_append_drop]
    · rw [List.length_append, flat_len, List.length_take, hp, Nat.min_eq_left (by omega)]
  · rw [List.getElem?_eq_none (by simp; omega), List.getElem?_eq_none (by omega)]
theorem u8n_nat {m : Nat} (h : m < 256) : (u8n m).toNat = m := by
  unfold u8n
  rw [UInt8.toNat_ofNat']
  exact Nat.mod_eq_of_lt h
theorem decB_enc (p : DP) (hc : checkP (p.pr none 0) = 0) : decB (encC p.k p.d p.lf p.bm p.ss) = .ok p := by
  have hk := ok_kind hc
  have hd := ok_depth hc
  have hs := ok_sibs hc
  have hle := depths_le (p.pr none 0).bitmap
  have hz : p.k = 1 ∨ p.lf = zLeaf := by
    have := checkP_zero hc 2 (by omega)
    simp only [okJ, Bool.or_eq_true, decide_eq_true_eq] at this
    exact this.imp (fun h => by have h : (p.k : Int) = 1 := h; omega) id
  have hk1 : p.k = 0 ∨ p.k = 1 := by
    have h : (p.k : Int) = 0 ∨ (p.k : Int) = 1 := hk
    omega
  have hd' : p.d ≤ 256 := by
    have h : (p.d : Int) ≤ 256 := hd.2
    omega
  rw [hs] at hle
  have hss : p.ss.length ≤ 256 := hle
  obtain ⟨k, d, lf, bm, ss⟩ := p
  dsimp only at *
  have hlen := encC_len k d lf bm ss
  obtain ⟨l, hl⟩ : ∃ l, encC k d lf bm ss = l := ⟨_, rfl⟩
  rw [hl] at hlen ⊢
  have hK : dK l = k := by
    rw [← hl]
    show (u8n k).toNat = k
    exact u8n_nat (by omega)
  have hbl := bm.2
  have hkl := lf.key.2
  have hvl := lf.value.2
  have hB : dBase l = 36 + 64 * k := by unfold dBase; rw [hK]
  have hll : l.length = 36 + 64 * k + 32 * ss.length := by
    rw [hlen]
    unfold lenC
    rcases hk1 with rfl | rfl <;> simp
  have h2 : l.getD 0 0 = 1 := by rw [← hl]; rfl
  have hE := decB_end (l := l) (by omega) h2 (by omega) (N := ss.length) (by rw [hB]; exact hll) (by omega)
  have hD : dDP l ss.length = ⟨k, d, lf, bm, ss⟩ := by
    unfold dDP
    rw [hB, hK]
    have e1 : (l.getD 2 0).toNat * 256 + (l.getD 3 0).toNat = d := by
      rw [← hl]
      show (u8n (d / 256)).toNat * 256 + (u8n d).toNat = d
      rw [u8n_nat (by omega)]
      unfold u8n
      rw [UInt8.toNat_ofNat']
      omega
    have e2 : b32At l 4 = bm := b32At_of (pre := [1, u8n k, u8n (d / 256), u8n d]) (hl.symm.trans rfl) rfl
    have e3 : dLf l = lf := by
      unfold dLf
      rw [hK]
      rcases hk1 with rfl | rfl
      · rw [if_neg (by omega)]
        rcases hz with h | h
        · omega
        · exact h.symm
      · rw [if_pos rfl]
        have h36 : b32At l 36 = lf.key := b32At_of (pre := [1, u8n 1, u8n (d / 256), u8n d] ++ bm.1) (post := lf.value.1 ++ ss.flatMap (·.1)) (hl.symm.trans (by unfold encC; rw [if_pos rfl]; simp)) (by simp [hbl])
        have h68 : b32At l 68 = lf.value := b32At_of (pre := [1, u8n 1, u8n (d / 256), u8n d] ++ bm.1 ++ lf.key.1) (post := ss.flatMap (·.1)) (hl.symm.trans (by unfold encC; rw [if_pos rfl]; simp)) (by simp [hbl, hkl])
        rw [h36, h68]
    have e4 : sibsAt l (36 + 64 * k) ss.length = ss := by
      refine sibsAt_of (pre := [1, u8n k, u8n (d / 256), u8n d] ++ (bm.1 ++ (if k = 1 then lf.key.1 ++ lf.value.1 else []))) (hl.symm.trans ?_) ?_
      · unfold encC; simp
      · rcases hk1 with rfl | rfl <;> simp [hbl, hkl, hvl]
    rw [e1, e2, e3, e4]
  rw [hD, if_pos hc] at hE
  exact hE
/-- the proof of a map, as what is decoded -/
def dpK (n : Nat) (key : B32) (t : Tr) (D : Nat) : DP := ⟨(wayK key t D).kind, D, leafT n (wayK key t D), dset (dsK key t D), rsK n key t D⟩
theorem dpK_pr (n : Nat) (key : B32) (t : Tr) (D : Nat) (A : Option Addr) (c : Nat) : (dpK n key t D).pr A c = prfK n key t D A c := by
  unfold DP.pr dpK prfK
  dsimp only
  rw [rsK_len]
theorem rootP_prf (n : Nat) {key : B32} {t : Tr} {D : Nat} (hw : WayTo key t D) : rootP n (dpK n key t D) key = dgT n t := by
  have h2 := wayP_prf n hw none 0 D (Nat.le_refl _)
  rw [Nat.sub_self] at h2
  unfold rootP
  rw [dpK_pr]
  rw [show (dpK n key t D).bm = dset (dsK key t D) from rfl, show (dpK n key t D).ss = rsK n key t D from rfl, show (dpK n key t D).d = D from rfl, expL_prf n hw.le]
  exact h2
/-- the bytes of a map's proof -/
def encK (n : Nat) (key : B32) (t : Tr) (D : Nat) : List UInt8 := encC (wayK key t D).kind D (leafT n (wayK key t D)) (dset (dsK key t D)) (rsK n key t D)
theorem decB_prf (n : Nat) {key : B32} {t : Tr} {D : Nat} (hw : WayTo key t D) (hL : LastOk key t D) : decB (encK n key t D) = .ok (dpK n key t D) :=
  decB_enc (dpK n key t D) (by rw [dpK_pr]; exact prf_ok n hw hL none 0)
theorem encK_len (n : Nat) {key : B32} {t : Tr} {D : Nat} (hw : WayTo key t D) : (encK n key t D).length ≤ 100000 := by
  unfold encK
  rw [encC_len]
  unfold lenC
  have h1 := dsK_len key t D
  have h2 := hw.le
  rw [rsK_len]
  split <;> omega
/-- a claim whose form is right, against a map's root and proof -/
theorem first_prf (n : Nat) {t : Tr} {D : Nat} {kb : List UInt8} (hw : WayTo (keyOf kb) t D) (hL : LastOk (keyOf kb) t D) (root : Sl) (hr : root.n = 32) (c : Claim) (hc : claimE c = 0) (rb vb : List UInt8) (hrb : keyOf rb = dgT n t) :
    errE (firstC (vcode n root c rb kb vb (encK n (keyOf kb) t D))) = if supP (prfK n (keyOf kb) t D none 0) (keyOf kb) (valD n c.present vb) c.present then 0 else 12 := by
  have hd := decB_prf n hw hL
  have hk32 : c.key.n = 32 := by
    unfold claimE at hc
    split at hc
    · assumption
    · cases hc
  have hp3 : ¬ (c.present = true ∧ 65535 < c.value.n) := fun hh => by unfold claimE at hc; rw [if_pos hk32, if_pos hh] at hc; cases hc
  have v0 : vcode n root c rb kb vb (encK n (keyOf kb) t D) 0 = 0 := if_pos hr
  have v1 : vcode n root c rb kb vb (encK n (keyOf kb) t D) 1 = 0 := if_pos hk32
  have v2 : vcode n root c rb kb vb (encK n (keyOf kb) t D) 2 = 0 := if_neg hp3
  have v3 : vcode n root c rb kb vb (encK n (keyOf kb) t D) 3 = 0 := by
    show codeD (decB _) = 0
    rw [hd]; rfl
  have v4 : vcode n root c rb kb vb (encK n (keyOf kb) t D) 4 = if supP (prfK n (keyOf kb) t D none 0) (keyOf kb) (valD n c.present vb) c.present then 0 else 12 := by
    unfold vcode; rw [hd, ← dpK_pr]; rfl
  have v5 : vcode n root c rb kb vb (encK n (keyOf kb) t D) 5 = 0 := by
    unfold vcode
    rw [hd]
    show (if decide (rootP n (dpK n (keyOf kb) t D) (keyOf kb) = keyOf rb) then (0 : Int) else 13) = 0
    rw [rootP_prf n hw, hrb, if_pos (by simp)]
  by_cases hs : supP (prfK n (keyOf kb) t D none 0) (keyOf kb) (valD n c.present vb) c.present = true
  · rw [if_pos hs] at v4 ⊢
    rw [firstC_no (fun j hj => by rcases (by omega : j = 0 ∨ j = 1 ∨ j = 2 ∨ j = 3 ∨ j = 4 ∨ j = 5) with rfl | rfl | rfl | rfl | rfl | rfl <;> assumption)]
    rfl
  · rw [if_neg hs] at v4 ⊢
    rw [firstC_at (i := 4) (e := 12) (by decide) (fun j hj => by rcases (by omega : j = 0 ∨ j = 1 ∨ j = 2 ∨ j = 3) with rfl | rfl | rfl | rfl <;> assumption) v4 (by decide)]
    rfl
/-- what a map's proof says of a claim -/
theorem sup_claim {key : B32} {m : List En} {D : Nat} (w : WayM key m D) (n : Nat) (present : Bool) (vb : List UInt8) :
    supP (prfK n key (mkT m 0) D none 0) key (valD n present vb) present = ((present == (getE' m key).isSome) && (!(getE' m key).isSome || decide (sumB n (preV (getV (getE' m key))) = sumB n (preV vb)))) := by
  obtain ⟨h1, h2, h3⟩ := sup_true w n none 0
  cases present with
  | false =>
    have e : supP (prfK n key (mkT m 0) D none 0) key (valD n false vb) false = supP (prfK n key (mkT m 0) D none 0) key (sumB n (preV (getV (getE' m key)))) false := rfl
    rw [e, h2]
    cases (getE' m key).isSome <;> rfl
  | true =>
    show supP _ key (sumB n (preV vb)) true = _
    by_cases hq : sumB n (preV (getV (getE' m key))) = sumB n (preV vb)
    · rw [decide_eq_true hq, ← hq, h1]
      cases (getE' m key).isSome <;> rfl
    · rw [h3 _ (fun h => hq h.symm), decide_eq_false hq]
      cases (getE' m key).isSome <;> rfl
theorem first_map (n : Nat) {key : B32} {m : List En} {D : Nat} {kb : List UInt8} (hk : keyOf kb = key) (w : WayM key m D) (root : Sl) (hr : root.n = 32) (c : Claim) (hc : claimE c = 0) (rb vb : List UInt8) (hrb : keyOf rb = dgT n (mkT m 0)) :
    errE (firstC (vcode n root c rb kb vb (encK n key (mkT m 0) D))) = if ((c.present == (getE' m key).isSome) && (!(getE' m key).isSome || decide (sumB n (preV (getV (getE' m key))) = sumB n (preV vb)))) then 0 else 12 := by
  subst hk
  rw [first_prf n w.way w.lastOk root hr c hc rb vb hrb, sup_claim w]
theorem kind_01 {key : B32} {m : List En} {D : Nat} (w : WayM key m D) : (wayK key (mkT m 0) D).kind = 0 ∨ (wayK key (mkT m 0) D).kind = 1 := by
  have h2 := mkT_kind (atM key m D) w.way.le
  have h3 := w.last
  rw [w.on D (Nat.le_refl _)]
  omega
end Go.Proofs.YtgfkbeipckbkiaaGreatDoor
/- U100 -/
namespace Go.Proofs.YtgfkbeipckbkiaaGreatDoor
set_option linter.unusedSimpArgs false
set_option linter.unusedVariables false
open Go.RowKit
theorem sl31 {z : Zh} {g : Nat} {x : B32} (hr : RdZ z (some ⟨g, 0, none⟩) x.cells) : SlZ z ⟨some ⟨g, 0, none⟩, 31, 32⟩ (x.1.take 31) := by
  refine ⟨by rw [List.length_take, x.2]; rfl, Nat.le_succ 31, (fun h => by cases h), ⟨fun j v hv => hr.at_ j v ?_⟩⟩
  have e : x.cells = bc (x.1.take 31) ++ bc (x.1.drop 31) := by rw [← bc_app, List.take_append_drop]; rfl
  rw [e, List.getElem?_append_left (List.getElem?_eq_some_iff.1 hv).1]
  exact hv
theorem sl32 {z : Zh} {g : Nat} {x : B32} (hr : RdZ z (some ⟨g, 0, none⟩) x.cells) : SlZ z ⟨some ⟨g, 0, none⟩, 32, 32⟩ x.1 := ⟨x.2.symm, Nat.le_refl _, (fun h => by cases h), hr⟩
/-- what stood in the zone still does -/
theorem zb {A : List Fa} {W : World} {z z' : Zh} (hl : LeZ z z') {C : Fa} {L M M' : List Fa} [tz : TakeZ L z' M] [tc : Take [C] M M'] : ∀ w, Sx A W w L → Sx A W w [.zone false z, C] := fun w s => by
  have s1 := s.perm tz.perm
  have s2 : Sx A W w (.zone true z' :: ([C] ++ M')) := s1.perm (tc.perm.cons _)
  have s3 : Sx A W w [.zone true z', C] := s2.sub (List.Sublist.cons_cons _ (List.Sublist.cons_cons _ (List.nil_sublist _)))
  have hz := s3.ok (.zone true z') (List.mem_cons_self ..)
  have hC := s3.sub (List.sublist_cons_self _ _)
  refine hC.cons (fun k o ho => hz k o (hl.le k o ho)) (fun g hg hw k hk1 hk2 => ?_) (fun h => by cases h)
  obtain ⟨h1, h2⟩ := List.pairwise_cons.1 s3.sep
  obtain ⟨o, ho⟩ := hk1
  exact h1 g hg (by rw [Bool.or_eq_true]; exact .inl rfl) k ⟨o, hl.le k o ho⟩ hk2
theorem alive18_s (h : Zh) [hT : RdZ h (some ⟨2, 0, none⟩) hashT] [hE : RdZ h (some ⟨0, 0, none⟩) [rty 76]] : Spec Tryz.prog 34 ([] : List Value).toArray [] [.zone true h] (fun _ : {x : Zh // LeZ h x} => .bool true) (fun x => [.zone true x.1]) := by
  have hrn : RdZ h none (dgs []) := RdZ.nil _ _
  have hEn := cEncode_s zProof 0 0 check18 rfl rfl (.inl rfl) [] rfl
  refine spec_of Tryz.func34 rfl (n := 92) rfl rfl ?_
  intro W
  refine h_seq ?_
  refine h_reg ?_
  refine h_op (r_assign rfl) ?_
  refine h_nil ?_
  refine q_then ?_
  refine h_seq ?_
  refine h_reg ?_
  refine h_call ((Hash_s 256 (by decide)).comes) rfl rfl rfl fun ⟨gh, gc⟩ => ?_
  dsimp only
  refine h_op (r_assign rfl) ?_
  refine h_nil ?_
  refine q_then ?_
  refine h_seq ?_
  refine h_seq ?_
  refine h_reg ?_
  refine h_op (r_move rfl) ?_
  refine h_op (r_nilR rfl rfl) ?_
  refine h_nil ?_
  refine q_then ?_
  refine h_condF rfl ?_
  refine h_skip ?_
  refine q_then ?_
  refine h_seq ?_
  refine h_reg ?_
  refine h_call ((rEmpty_s 256 (by decide)).comes) rfl rfl rfl fun _ => ?_
  refine h_opX (x_alloc) fun g2 => ?_
  refine h_opS (s_storer rfl rfl) ?_
  refine h_nil ?_
  refine q_then ?_
  refine h_seq ?_
  refine h_reg ?_
  refine h_op (r_build rfl) ?_
  refine h_call ((hEn.comes (hr := inferInstanceAs (Rds _ [.rd none (dgs [])])))) rfl rfl rfl fun ⟨A16, c16⟩ => ?_
  dsimp only
  refine h_op (r_move rfl) ?_
  refine h_op (r_extract rfl rfl) ?_
  refine h_op (r_extract rfl rfl) ?_
  refine h_op (r_assign rfl) ?_
  refine h_op (r_assign rfl) ?_
  refine h_nil ?_
  refine q_then ?_
  refine h_seq ?_
  refine h_reg ?_
  refine h_opX (x_makeB rfl rfl) fun g19 => ?_
  refine h_op (r_build rfl) ?_
  refine h_opX (x_alloc) fun g5 => ?_
  refine h_opS (s_storer rfl rfl) ?_
  refine h_nil ?_
  refine q_then ?_
  refine h_seq ?_
  change H _ _ _ _ _ (.blk g5 (Claim.cells ⟨⟨some ⟨g19, 0, none⟩, 32, 32⟩, ⟨none, 0, 0⟩, false⟩) _ :: .own (.slice (some ⟨g19, 0, none⟩) 32 32) 32 _ 1 (bc kb18) :: .own (.slice A16 36 c16) 36 _ 1 (bc bb18) :: .blk g2 E18.cells _ :: _) _
  refine h_freeze g2 (cs := E18.cells) (T := 41) fun z1 hz1 hr1 => ?_
  refine h_freezeO (.slice A16 36 c16) fun z2 B2 c2 e2 hle2 hlen2 hnil2 hz2 hr2 => ?_
  injection e2 with e2 _ e2'
  subst e2 e2'
  refine h_freezeO (.slice (some ⟨g19, 0, none⟩) 32 32) fun z3 B3 c3 e3 hle3 hlen3 hnil3 hz3 hr3 => ?_
  injection e3 with e3 _ e3'
  subst e3 e3'
  have hT3 : RdZ z3 (some ⟨2, 0, none⟩) hashT := ((hT.mono hz1).mono hz2).mono hz3
  have hE3 : RdZ z3 (some ⟨0, 0, none⟩) [rty 76] := ((hE.mono hz1).mono hz2).mono hz3
  have hr13 : RdZ z3 (some ⟨g2, 0, none⟩) E18.cells := (hr1.mono hz2).mono hz3
  have sr31 := sl31 hr13
  have sr32 := sl32 hr13
  have sb : SlZ z3 ⟨A16, 36, c16⟩ bb18 := ⟨rfl, hle2, hnil2, hr2.mono hz3⟩
  have sk : SlZ z3 ⟨some ⟨g19, 0, none⟩, 32, 32⟩ kb18 := ⟨rfl, Nat.le_refl _, (fun h => by cases h), hr3⟩
  have s0 : ∀ z, SlZ z ⟨none, 0, 0⟩ [] := slz_nil
  have hV1 := fun (z : Zh) (_ : RdZ z (some ⟨2, 0, none⟩) hashT) (_ : SlZ z ⟨some ⟨g2, 0, none⟩, 31, 32⟩ (E18.1.take 31)) k hk => Verify_s 256 (by decide) z gh gc k hk ⟨some ⟨g2, 0, none⟩, 31, 32⟩ zClaim ⟨none, 0, 0⟩ (E18.1.take 31) [] [] [] (hK := s0 z) (hV := s0 z) (hB := s0 z) (by decide) (by decide)
  have hC1 := fun (z : Zh) (_ : RdZ z (some ⟨2, 0, none⟩) hashT) (_ : RdZ z (some ⟨0, 0, none⟩) [rty 76]) (_ : SlZ z ⟨some ⟨g2, 0, none⟩, 31, 32⟩ (E18.1.take 31)) k hk => vCheck_s 256 (by decide) z gh gc k hk ⟨some ⟨g2, 0, none⟩, 31, 32⟩ zClaim ⟨none, 0, 0⟩ (E18.1.take 31) [] [] [] (hK := s0 z) (hV := s0 z) (hB := s0 z) (by decide) (by decide)
  have hV2 := fun (z : Zh) (_ : RdZ z (some ⟨2, 0, none⟩) hashT) (_ : SlZ z ⟨some ⟨g2, 0, none⟩, 32, 32⟩ E18.1) (hK : SlZ z ⟨some ⟨g19, 0, none⟩, 32, 32⟩ kb18) (_ : SlZ z ⟨A16, 36, c16⟩ bb18) k hk => Verify_s 256 (by decide) z gh gc k hk ⟨some ⟨g2, 0, none⟩, 32, 32⟩ ⟨⟨some ⟨g19, 0, none⟩, 32, 32⟩, ⟨none, 0, 0⟩, false⟩ ⟨A16, 36, c16⟩ E18.1 kb18 [] bb18 (hK := hK) (hV := s0 z) (by decide) (by decide)
  have hC2 := fun (z : Zh) (_ : RdZ z (some ⟨2, 0, none⟩) hashT) (_ : RdZ z (some ⟨0, 0, none⟩) [rty 76]) (_ : SlZ z ⟨some ⟨g2, 0, none⟩, 32, 32⟩ E18.1) (hK : SlZ z ⟨some ⟨g19, 0, none⟩, 32, 32⟩ kb18) (_ : SlZ z ⟨A16, 36, c16⟩ bb18) k hk => vCheck_s 256 (by decide) z gh gc k hk ⟨some ⟨g2, 0, none⟩, 32, 32⟩ ⟨⟨some ⟨g19, 0, none⟩, 32, 32⟩, ⟨none, 0, 0⟩, false⟩ ⟨A16, 36, c16⟩ E18.1 kb18 [] bb18 (hK := hK) (hV := s0 z) (by decide) (by decide)
  have hA1 := fun (z : Zh) (_ : RdZ z (some ⟨2, 0, none⟩) hashT) (hK : SlZ z ⟨some ⟨g19, 0, none⟩, 32, 32⟩ kb18) k hk root => Accepts_s 256 (by decide) z gh gc k hk root ⟨⟨some ⟨g19, 0, none⟩, 32, 32⟩, ⟨none, 0, 0⟩, false⟩ kb18 [] (hK := hK) (hV := s0 z) (by decide) zProof [] rfl (hS := RdZ.nil _ _)
  have hCl := Claim_s zClaim
  rw [show claimE zClaim = 2 from rfl] at hCl
  simp only [first18, first18b, errV, errN, errE] at hV1 hV2 hC1 hC2
  have hA1t := fun z a b k hk => hA1 z a b k hk E18
  have hA1f := fun z a b k hk => hA1 z a b k hk zB32
  simp only [acc18] at hA1t
  simp only [acc18b] at hA1f
  refine h_reg ?_
  refine h_op (r_move rfl) ?_
  refine h_op (r_slAH rfl rfl) ?_
  refine h_op (r_build rfl) ?_
  refine h_call ((hV1 z3 hT3 sr31 0 (by decide)).comes) rfl rfl rfl fun ⟨⟨g24, z4, k4⟩, hz4, hk4⟩ => ?_
  dsimp only at hz4 hk4 ⊢
  have hT4 : RdZ z4 (some ⟨2, 0, none⟩) hashT := hT3.mono hz4
  have hE4 : RdZ z4 (some ⟨0, 0, none⟩) [rty 76] := hE3.mono hz4
  have hr14 : RdZ z4 (some ⟨g2, 0, none⟩) E18.cells := hr13.mono hz4
  have sr31' := sl31 hr14
  have sr32' := sl32 hr14
  have sb' : SlZ z4 ⟨A16, 36, c16⟩ bb18 := sb.mono hz4
  have sk' : SlZ z4 ⟨some ⟨g19, 0, none⟩, 32, 32⟩ kb18 := sk.mono hz4
  refine h_op (r_assign rfl) ?_
  refine h_nil ?_
  refine q_then ?_
  refine h_seq ?_
  refine h_reg ?_
  refine h_op (r_move rfl) ?_
  refine h_call ((First_s g24 verifyB ((0 : Nat) : Int) 4).comes) rfl rfl rfl fun _ => ?_
  refine h_op (r_move rfl) ?_
  refine h_op (r_extract rfl rfl) ?_
  refine h_op (r_extract rfl rfl) ?_
  refine h_op (r_extract rfl rfl) ?_
  refine h_op (r_assign rfl) ?_
  refine h_op (r_assign rfl) ?_
  refine h_op (r_assign rfl) ?_
  refine h_nil ?_
  refine q_then ?_
  refine h_seq ?_
  refine ha_start [.zone false z4, .blk g5 (Claim.cells ⟨⟨some ⟨g19, 0, none⟩, 32, 32⟩, ⟨none, 0, 0⟩, false⟩) 70] [] mixed (zb (LeZ.refl z4)) ?_
  refine ha_takeP 0 rfl (r_move rfl) ?_
  refine ha_takeP 1 rfl (r_bool (r_eql rfl rfl) rfl) ?_
  refine ha_takeP 2 rfl (r_move rfl) ?_
  refine ha_takeP 3 rfl (r_move rfl) ?_
  refine ha_takeP 4 rfl (r_slAH rfl rfl) ?_
  refine ha_takeP 5 rfl (r_build rfl) ?_
  refine ha_one 6 ?_
  refine ho_C 6 rfl ((hC1 z4 hT4 hE4 sr31' k4 (by omega)).comes) rfl rfl rfl (fun xx => zb xx.2.1) fun ⟨⟨z5, k5⟩, hz5, hk5⟩ => ?_
  refine ha_takeP 7 rfl (r_bool (r_eql rfl rfl) rfl) ?_
  refine ha_takeP 8 rfl (r_pick rfl rfl) ?_
  refine ha_takeP 9 rfl (r_move rfl) ?_
  refine ha_takeP 10 rfl (r_move rfl) ?_
  refine ha_one 11 ?_
  refine ho_C 11 rfl ((Code_s g24 verifyB ((0 : Nat) : Int) 4).comes) rfl rfl rfl (fun xx => zb hz5) fun _ => ?_
  refine ha_takeP 12 rfl (r_bool (r_eql rfl rfl) rfl) ?_
  refine ha_takeP 13 rfl (r_pick rfl rfl) ?_
  refine ha_takeP 14 rfl (r_move rfl) ?_
  refine ha_takeP 15 rfl (r_move rfl) ?_
  refine ha_takeP 16 rfl (r_bool (r_eqS rfl rfl) (show (verifyB.toList == verifyB.toList) = true from beq_self_eq_true _)) ?_
  refine ha_takeP 17 rfl (r_pick rfl rfl) ?_
  refine ha_takeP 18 rfl (r_move rfl) ?_
  refine ha_takeP 19 rfl (r_move rfl) ?_
  refine ha_takeP 20 rfl (r_bool (r_eql rfl rfl) rfl) ?_
  refine ha_takeP 21 rfl (r_pick rfl rfl) ?_
  refine ha_takeP 22 rfl (r_move rfl) ?_
  refine ha_takeP 23 rfl (r_move rfl) ?_
  refine ha_takeP 24 rfl (r_pick rfl rfl) ?_
  refine ha_takeP 25 rfl (r_move rfl) ?_
  refine ha_takeP 26 rfl (r_move rfl) ?_
  refine ha_takeP 27 rfl (r_slA rfl) ?_
  refine ha_take 28 rfl (r_loadr rfl) ?_
  refine ha_takeP 29 rfl (r_move rfl) ?_
  refine ha_one 30 ?_
  refine ho_C 30 rfl ((hC2 z5 (hT4.mono hz5) (hE4.mono hz5) (sr32'.mono hz5) (sk'.mono hz5) (sb'.mono hz5) k5 (by have h5 : k5 ≤ k4 + 259 := hk5; omega)).comes) rfl rfl rfl (fun xx => zb (LeZ.trans hz5 xx.2.1)) fun ⟨⟨z6, k6⟩, hz6, hk6⟩ => ?_
  refine ha_takeP 31 rfl (r_bool (r_eql rfl rfl) rfl) ?_
  refine ha_takeP 32 rfl (r_pick rfl rfl) ?_
  refine ha_takeP 33 rfl (r_move rfl) ?_
  refine ha_takeP 34 rfl (r_move rfl) ?_
  refine ha_takeP 35 rfl (r_slA rfl) ?_
  refine ha_take 36 rfl (r_loadr rfl) ?_
  refine ha_takeP 37 rfl (r_move rfl) ?_
  refine ha_one 38 ?_
  refine ho_C 38 rfl ((hV2 z6 ((hT4.mono hz5).mono hz6) ((sr32'.mono hz5).mono hz6) ((sk'.mono hz5).mono hz6) ((sb'.mono hz5).mono hz6) k6 (by have h5 : k5 ≤ k4 + 259 := hk5; have h6 : k6 ≤ k5 + 259 := hk6; omega)).comes) rfl rfl rfl (fun xx => zb (LeZ.trans (LeZ.trans hz5 hz6) xx.2.1)) fun ⟨⟨g69, z7, k7⟩, hz7, hk7⟩ => ?_
  refine ha_takeP 39 rfl (r_nilnil rfl) ?_
  refine ha_takeP 40 rfl (r_pick rfl rfl) ?_
  refine ha_takeP 41 rfl (r_move rfl) ?_
  refine ha_takeP 42 rfl (r_build rfl) ?_
  refine ha_one 43 ?_
  refine ho_C 43 rfl (hCl.comes) rfl rfl rfl (fun xx => zb (LeZ.trans (LeZ.trans hz5 hz6) hz7)) fun _ => ?_
  refine ha_takeP 44 rfl (r_bool (r_eql rfl rfl) rfl) ?_
  refine ha_takeP 45 rfl (r_pick rfl rfl) ?_
  refine ha_takeP 46 rfl (r_move rfl) ?_
  refine ha_takeP 47 rfl (r_move rfl) ?_
  refine ha_take 48 rfl (r_loadr rfl) ?_
  refine ha_take 49 rfl (r_loadr rfl) ?_
  refine ha_takeP 50 rfl (r_build rfl) ?_
  refine ha_one 51 ?_
  refine ho_C 51 rfl ((hA1t z7 (((hT4.mono hz5).mono hz6).mono hz7) (((sk'.mono hz5).mono hz6).mono hz7) k7 (by have h5 : k5 ≤ k4 + 259 := hk5; have h6 : k6 ≤ k5 + 259 := hk6; have h7 : k7 ≤ k6 + 259 := hk7; omega)).comes) rfl rfl rfl (fun xx => zb (LeZ.trans (LeZ.trans (LeZ.trans hz5 hz6) hz7) xx.2.1)) fun ⟨⟨z8, k8⟩, hz8, hk8⟩ => ?_
  refine ha_takeP 52 rfl (r_pick rfl rfl) ?_
  refine ha_takeP 53 rfl (r_move rfl) ?_
  refine ha_takeP 54 rfl (r_move rfl) ?_
  refine ha_takeP 55 rfl (r_build rfl) ?_
  refine ha_take 56 rfl (r_loadr rfl) ?_
  refine ha_takeP 57 rfl (r_build rfl) ?_
  refine ha_one 58 ?_
  refine ho_C 58 rfl ((hA1f z8 ((((hT4.mono hz5).mono hz6).mono hz7).mono hz8) ((((sk'.mono hz5).mono hz6).mono hz7).mono hz8) k8 (by have h5 : k5 ≤ k4 + 259 := hk5; have h6 : k6 ≤ k5 + 259 := hk6; have h7 : k7 ≤ k6 + 259 := hk7; have h8 : k8 ≤ k7 + 259 := hk8; omega)).comes) rfl rfl rfl (fun xx => zb (LeZ.trans (LeZ.trans (LeZ.trans (LeZ.trans hz5 hz6) hz7) hz8) xx.2.1)) fun ⟨⟨z9, k9⟩, hz9, hk9⟩ => ?_
  refine ha_takeP 59 rfl (r_not rfl) ?_
  refine ha_takeP 60 rfl (r_pick rfl rfl) ?_
  refine ha_takeP 61 rfl (r_assign rfl) ?_
  refine ha_done (by kernel_rfl) ?_
  refine q_then ?_
  refine h_ret ?_
  have hzz : LeZ h z9 := (((hz1.trans hz2).trans (hz3.trans hz4)).trans (LeZ.trans hz5 (LeZ.trans hz6 hz7))).trans (LeZ.trans hz8 hz9)
  exact h_ret1 rfl rfl fun w s => ⟨⟨z9, hzz⟩, rfl, (same (L' := [.zone true z9]) w s).res (List.Sublist.refl _) (by simp [Fa.wr])⟩
end Go.Proofs.YtgfkbeipckbkiaaGreatDoor
/- U10c -/
namespace Go.Proofs.YtgfkbeipckbkiaaGreatDoor
set_option linter.unusedSimpArgs false
set_option linter.unusedVariables false
open Go.RowKit
end Go.Proofs.YtgfkbeipckbkiaaGreatDoor
/- U101 -/
namespace Go.Proofs.YtgfkbeipckbkiaaGreatDoor
set_option linter.unusedSimpArgs false
set_option linter.unusedVariables false
open Go.RowKit
end Go.Proofs.YtgfkbeipckbkiaaGreatDoor
/- U103 -/
namespace Go.Proofs.YtgfkbeipckbkiaaGreatDoor
set_option linter.unusedSimpArgs false
set_option linter.unusedVariables false
open Go.RowKit
theorem Encode_prf (n : Nat) {key : B32} {m : List En} {D : Nat} (w : WayM key m D) (A : Option Addr) (c : Nat) : Spec Tryz.prog 47 [.agg (prfK n key (mkT m 0) D A c).cells.toArray].toArray [.rd A (dgs (rsK n key (mkT m 0) D))] [] (fun u : Option Addr × Nat => .tuple #[.slice u.1 (encK n key (mkT m 0) D).length u.2, .int .i64 0]) (fun u => [.own (.slice u.1 (encK n key (mkT m 0) D).length u.2) (encK n key (mkT m 0) D).length 5 1 (bc (encK n key (mkT m 0) D))]) :=
  cEncode_s (prfK n key (mkT m 0) D A c) (wayK key (mkT m 0) D).kind D (prf_ok n w.way w.lastOk A c) rfl rfl (kind_01 w) (rsK n key (mkT m 0) D) (rsK_len n key (mkT m 0) D).symm
end Go.Proofs.YtgfkbeipckbkiaaGreatDoor
/- U102 -/
namespace Go.Proofs.YtgfkbeipckbkiaaGreatDoor
set_option linter.unusedSimpArgs false
set_option linter.unusedVariables false
open Go.RowKit
instance : TBool Tryz.prog 4 := ⟨Tryz.underlying4⟩
structure RtP where
  root : B32
  p : Proof
def RtP.cells (x : RtP) : List Value := x.root.cells ++ (x.p.cells ++ [])
theorem RtP.cells_length (x : RtP) : x.cells.length = 131 := by simp [RtP.cells, B32.cells_length, Proof.cells_length]
theorem RtP.cells_one (x : RtP) : ∀ v ∈ x.cells, v.oneCell' = true := by
  intro v hv
  simp only [RtP.cells, List.mem_append, List.not_mem_nil, or_false] at hv
  rcases hv with h | h
  · exact B32.cells_one _ v h
  · exact Proof.cells_one _ v h
instance (x : RtP) : Row x.cells 131 := ⟨RtP.cells_length x, RtP.cells_one x⟩
instance (x : RtP) : RowAt x.cells 0 131 x.cells := .whole (RtP.cells_length x)
instance (x : RtP) : RowAt x.cells 0 32 x.root.cells := .mk' (pre := []) (post := x.p.cells) (by simp [RtP.cells]) rfl (B32.cells_length _)
instance (x : RtP) : RowAt x.cells 32 99 x.p.cells := .mk' (pre := x.root.cells) (post := []) (by simp [RtP.cells]) (B32.cells_length _) (Proof.cells_length _)
instance (x : RtP) : CellAt x.cells 130 (.slice x.p.sibs.A x.p.sibs.n x.p.sibs.c) := .mk' (pre := x.root.cells ++ ([.int .i64 x.p.kind] ++ ([.int .i64 x.p.depth] ++ (x.p.leaf.cells ++ x.p.bitmap.cells)))) (post := []) (by simp [RtP.cells, Proof.cells]) (by simp [B32.cells_length, Leaf.cells_length])
end Go.Proofs.YtgfkbeipckbkiaaGreatDoor
