/- The reference's check of many claims; law21.few; law20.alive: it is true; The example of chapter 21: plain; law18.alive: it is true; law21.alive: it is true; The hasher's count, read; law21: MverifyChecks, MverifyExplains are true; What is asked of the whole program, once for all frames of a great seat; a row's facts put together; law21: MverifyAccepts is true; law21: MverifyClaims is true (joined texts: U127 U114 E31 U100 U128 U10c U129 TF U131 U130) -/
import Derived.Test.YtjhocljhhpkiiaaGreatDoorG16
import Derived.Handed
import Derived.JoinedOf
import Derived.SevenTiedAt
set_option linter.all false
/- U127 -/
namespace Go.Proofs.YtjhocljhhpkiiaaGreatDoor
set_option linter.unusedSimpArgs false
set_option linter.unusedVariables false
open Go.RowKit
theorem firstF_nz (code : Nat → Int) : ∀ m i j e, firstF code m i = some (j, e) → e ≠ 0
  | 0, _, _, _, h => by cases h
  | m + 1, i, j, e, h => by
    unfold firstF at h
    split at h
    · exact firstF_nz code m (i + 1) j e h
    · injection h with h
      injection h with h1 h2
      rw [← h2]; assumption
theorem claimsR_nz {l : List CB} {i : Nat} {e : Int} (h : claimsR l = some (i, e)) : e ≠ 0 := by
  unfold claimsR at h
  split at h
  · injection h with h; injection h with _ h2; omega
  · split at h
    · injection h with h; injection h with _ h2; omega
    · rcases h9 : firstF (fun i => claimE (l.getD i zCB).c) l.length 0 with _ | r9
      · rw [h9] at h
        exact firstF_nz _ _ _ _ _ h
      · rw [h9] at h
        injection h with h
        rw [h] at h9
        exact firstF_nz _ _ _ _ _ h9
theorem showR_nz {n : Nat} {root : B32} {l : List CB} {t : Sub} {i : Nat} {e : Int} (h : showR n root l t = some (i, e)) : e ≠ 0 := by
  unfold showR at h
  split at h
  · rcases h9 : firstF (showE n (endsM t (keysC l) 0).1 l) (endsM t (keysC l) 0).1.length 0 with _ | r9
    · rw [h9] at h
      dsimp only at h
      split at h
      · cases h
      · injection h with h; injection h with _ h2; omega
    · rw [h9] at h
      injection h with h
      rw [h] at h9
      exact firstF_nz _ _ _ _ _ h9
  · injection h with h; injection h with _ h2; omega
theorem mverR_nz {n : Nat} {root : Sl} {rb : List UInt8} {l : List CB} {bb : List UInt8} {i : Nat} {e : Int} (h : mverR n root rb l bb = some (i, e)) : e ≠ 0 := by
  unfold mverR at h
  split at h
  · rcases h9 : claimsR l with _ | r9
    · rw [h9] at h
      dsimp only at h
      rcases hd : decM bb with e1 | its0
      · rw [hd] at h
        dsimp only at h
        injection h with h; injection h with _ h2
        rw [← h2]
        exact decM_err hd
      · obtain ⟨t, hp⟩ := checkM_parse (decM_ok hd)
        rw [hd] at h
        dsimp only at h
        rw [hp] at h
        exact showR_nz h
    · rw [h9] at h
      injection h with h
      rw [h] at h9
      exact claimsR_nz h9
  · injection h with h; injection h with _ h2; omega
/-- whether claims are few and short -/
def shC (x : CB) : Bool := decide (x.c.key.n ≤ 100 ∧ x.c.value.n ≤ 70000)
def fewC (l : List CB) : Bool := decide (l.length ≤ 20) && l.all shC
theorem fewC_ok {h : Zh} {l : List CB} (hz : ClsZ h l) (hf : fewC l = true) : l.length ≤ 20 ∧ ∀ x ∈ l, x.vb.length ≤ 100000000 := by
  unfold fewC at hf
  rw [Bool.and_eq_true, decide_eq_true_eq] at hf
  refine ⟨hf.1, fun x hx => ?_⟩
  have h1 := List.all_eq_true.1 hf.2 x hx
  unfold shC at h1
  rw [decide_eq_true_eq] at h1
  have h2 := (hz x hx).2.len
  omega
section
variable (h : Zh) (l : List CB) (A : Option Addr) (c : Nat) [hr : RdZ h A (cbs l)]
theorem few21_s : Spec Tryz.prog 47 [.slice A l.length c].toArray [.zone false h] [] (fun _ : Unit => .bool (fewC l)) (fun _ => []) := by
  refine spec_of Tryz.func47 rfl (n := 18) rfl rfl ?_
  intro W
  refine h_seq ?_
  refine h_reg ?_
  refine h_op (r_assign rfl) ?_
  refine h_nil ?_
  refine q_then ?_
  refine h_seq ?_
  refine h_seq ?_
  refine h_reg ?_
  refine h_op (r_move rfl) ?_
  refine h_op (r_len rfl) ?_
  refine h_op (r_gtr rfl rfl) ?_
  refine h_nil ?_
  refine q_then ?_
  by_cases h20 : l.length ≤ 20
  · refine h_no rfl ((show ¬ (20 : Int) < ((l.length : Nat) : Int) by omega)) ?_
    rw [show fewC l = l.all shC by unfold fewC; rw [decide_eq_true h20, Bool.true_and]]
    refine h_skip ?_
    refine q_then ?_
    refine h_seq ?_
    refine h_seq ?_
    refine h_reg ?_
    refine h_op (r_move rfl) ?_
    refine h_op (r_len rfl) ?_
    refine h_op (r_move rfl) ?_
    refine h_nil ?_
    refine q_then ?_
    refine h_block ?_
    refine h_loop (fun (i : Nat) => i ≤ l.length ∧ (l.take i).all shC = true) (fun (i : Nat) => [(10, .int .i64 (i : Int)), (9, .int .i64 (l.length : Int)), (8, .slice A l.length c)]) (fun (i : Nat) => [.zone false h]) (fun (i : Nat) => l.length - i) 0 (⟨Nat.zero_le _, rfl⟩) ⟨rfl, rfl, rfl, trivial⟩ (same) ?_
    rintro i ⟨hi, ha⟩
    refine h_seq ?_
    refine h_reg ?_
    refine h_op (r_lss rfl rfl) ?_
    refine h_nil ?_
    refine q_then ?_
    refine h_seq ?_
    refine h_cond rfl (fun hlt => ?_) (fun hlt => ?_)
    · have hi2 : i < l.length := by omega
      have hx := getD_get zCB hi2
      obtain ⟨b, o, rfl, -⟩ := hr.at_ (i * 3) _ (cbs_at hx 0 _ rfl)
      generalize l.getD i zCB = x at *
      have hS := Short_s x.c
      have hat := all_take shC l i x hx
      refine h_skip ?_
      refine q_then ?_
      refine h_seq ?_
      refine h_block ?_
      refine h_seq ?_
      refine h_reg ?_
      refine h_op (r_idx rfl rfl) ?_
      refine h_op (r_nthr rfl (out := x.c.cells) (Claim.cells_length _) (cbs_at hx)) ?_
      refine h_opX (x_alloc) fun g4 => ?_
      refine h_opS (s_storer rfl rfl) ?_
      refine h_nil ?_
      refine q_then ?_
      refine h_seq ?_
      refine h_reg ?_
      refine h_op (r_loadr rfl) ?_
      refine h_call (hS.comes) rfl rfl rfl fun _ => ?_
      by_cases hs : x.c.key.n ≤ 100 ∧ x.c.value.n ≤ 70000
      · rw [if_pos hs]
        refine h_op (r_bool (r_eql rfl rfl) (decide_eq_false (by decide))) ?_
        refine h_nil ?_
        refine q_then ?_
        refine h_condF rfl ?_
        refine h_skip ?_
        refine q_block ?_
        refine q_then ?_
        refine h_reg ?_
        refine h_op (r_add rfl rfl) ?_
        refine h_op (r_move rfl) ?_
        refine h_nil ?_
        exact h_back (i + 1) (⟨hi2, by rw [hat, ha]; exact decide_eq_true hs⟩) ((show l.length - (i + 1) < l.length - i by omega)) ⟨rfl, rfl, rfl, trivial⟩ (same)
      · rw [if_neg hs, show l.all shC = false from Bool.eq_false_iff.2 (all_bad hx (decide_eq_false hs))]
        refine h_op (r_bool (r_eql rfl rfl) (decide_eq_true rfl)) ?_
        refine h_nil ?_
        refine q_then ?_
        refine h_condT rfl ?_
        refine h_seq ?_
        refine h_reg ?_
        refine h_op (r_assign rfl) ?_
        refine h_nil ?_
        refine q_then ?_
        refine h_ret ?_
        refine q_blockR ?_
        refine q_thenR ?_
        refine q_thenR ?_
        refine q_blockR ?_
        refine q_thenR ?_
        exact h_ret1 rfl rfl fun w s => ⟨(), rfl, s.res (List.nil_sublist _) (by simp)⟩
    · obtain rfl : i = l.length := by omega
      rw [List.take_length] at ha
      rw [ha]
      refine h_exit ?_
      refine q_thenE ?_
      refine q_thenE ?_
      refine q_blockE ?_
      refine q_then ?_
      refine h_seq ?_
      refine h_reg ?_
      refine h_op (r_assign rfl) ?_
      refine h_nil ?_
      refine q_then ?_
      refine h_ret ?_
      exact h_ret1 rfl rfl fun w s => ⟨(), rfl, s.res (List.nil_sublist _) (by simp)⟩
  · refine h_yes rfl ((show (20 : Int) < ((l.length : Nat) : Int) by omega)) ?_
    rw [show fewC l = false by unfold fewC; rw [decide_eq_false h20, Bool.false_and]]
    refine h_seq ?_
    refine h_reg ?_
    refine h_op (r_assign rfl) ?_
    refine h_nil ?_
    refine q_then ?_
    refine h_ret ?_
    refine q_thenR ?_
    exact h_ret1 rfl rfl fun w s => ⟨(), rfl, s.res (List.nil_sublist _) (by simp)⟩
end
section
variable (n : Nat) (hn : n ≤ 256) (h : Zh) (l : List CB) (A : Option Addr) (c : Nat) [hr : RdZ h A (cbs l)] (hz : ClsZ h l) (hvl : ∀ x ∈ l, x.vb.length ≤ 100000000) (hll : l.length ≤ 100000)
include hn hz hvl hll
theorem rCheck21_s (root b : Sl) (rb bb : List UInt8) [hRt : SlZ h root rb] [hB : SlZ h b bb] (hbl : bb.length ≤ 900000) (r : Option (Nat × Int)) (hR : mverR n root rb l bb = r) : Spec Tryz.prog 49 [.int .i64 (n : Int), .slice root.A root.n root.c, .slice A l.length c, .slice b.A b.n b.c].toArray [] [.zone true h] (fun _ : {x : Zh // LeZ h x} => .tuple #[.int .i64 (scOf r).1, .int .i64 (scOf r).2]) (fun x => [.zone true x.1]) := by
  have hrn := hRt.len
  have hbn := hB.len
  have hRr : RdZ h root.A (bc rb) := hRt.rd
  have hBr : RdZ h b.A (bc bb) := hB.rd
  obtain ⟨rA, rn, rc⟩ := root
  obtain ⟨bA, bn, bc'⟩ := b
  dsimp only at hrn hbn hRr hBr ⊢
  subst hrn hbn
  unfold mverR at hR
  dsimp only at hR
  have hC := rClaims21_s h l A c (by omega) hz _ rfl
  refine spec_of Tryz.func49 rfl (n := 41) rfl rfl ?_
  intro W
  by_cases h32 : rb.length = 32
  · rw [if_pos h32] at hR
    refine h_seq ?_
    refine h_reg ?_
    refine h_op (r_assign rfl) ?_
    refine h_op (r_assign rfl) ?_
    refine h_nil ?_
    refine q_then ?_
    refine h_seq ?_
    refine h_seq ?_
    refine h_reg ?_
    refine h_op (r_move rfl) ?_
    refine h_op (r_len rfl) ?_
    refine h_op (r_neq rfl rfl) ?_
    refine h_nil ?_
    refine q_then ?_
    refine h_no rfl ((fun hh => hh (show ((rb.length : Nat) : Int) = 32 by omega))) ?_
    refine h_skip ?_
    refine q_then ?_
    refine h_seq ?_
    refine h_reg ?_
    refine h_op (r_move rfl) ?_
    obtain ⟨r1, hr1⟩ : ∃ r1, claimsR l = r1 := ⟨_, rfl⟩
    rw [hr1] at hR hC
    refine h_call (hC.comes) rfl rfl rfl fun _ => ?_
    rcases r1 with _ | ⟨i, e⟩
    · refine h_op (r_move rfl) ?_
      refine h_op (r_extract rfl rfl) ?_
      refine h_op (r_extract rfl rfl) ?_
      refine h_op (r_assign rfl) ?_
      refine h_op (r_assign rfl) ?_
      refine h_nil ?_
      refine q_then ?_
      refine h_seq ?_
      refine h_seq ?_
      refine h_reg ?_
      refine h_op (r_move rfl) ?_
      refine h_op (r_neq rfl rfl) ?_
      refine h_nil ?_
      refine q_then ?_
      refine h_no rfl ((fun h => h rfl)) ?_
      have hD := rDecode20_s bb hbl bA bc'
      rcases hd : decM bb with e | its0
      · have hne := decM_err hd
        rw [hd] at hR hD
        obtain rfl : some (0, e) = r := hR
        replace hD : Spec Tryz.prog 53 [.slice bA bb.length bc'].toArray [.rd bA (bc bb)] [] (fun u : Option Addr × Nat => .tuple #[.slice none 0 0, .int .i64 e]) (fun u => []) := hD
        refine h_skip ?_
        refine q_then ?_
        refine h_seq ?_
        refine h_reg ?_
        refine h_op (r_move rfl) ?_
        refine h_call (hD.comes) rfl rfl rfl fun u => ?_
        refine h_op (r_move rfl) ?_
        refine h_op (r_extract rfl rfl) ?_
        refine h_op (r_extract rfl rfl) ?_
        refine h_op (r_assign rfl) ?_
        refine h_op (r_assign rfl) ?_
        refine h_nil ?_
        refine q_then ?_
        refine h_seq ?_
        refine h_seq ?_
        refine h_reg ?_
        refine h_op (r_move rfl) ?_
        refine h_op (r_neq rfl rfl) ?_
        refine h_nil ?_
        refine q_then ?_
        refine h_yes rfl (hne) ?_
        refine h_seq ?_
        refine h_reg ?_
        refine h_op (r_move rfl) ?_
        refine h_op (r_assign rfl) ?_
        refine h_op (r_assign rfl) ?_
        refine h_nil ?_
        refine q_then ?_
        refine h_ret ?_
        refine q_thenR ?_
        exact h_ret2 rfl rfl rfl fun w s => ⟨⟨h, LeZ.refl h⟩, rfl, (same (L' := [.zone true h]) w s).res (List.Sublist.refl _) (by simp [Fa.wr])⟩
      · have hil := decM_len hd
        obtain ⟨t, hp⟩ := checkM_parse (decM_ok hd)
        rw [hd] at hR hD
        dsimp only at hR
        rw [hp] at hR
        replace hR : showR n (keyOf rb) l t = r := hR
        replace hD : Spec Tryz.prog 53 [.slice bA bb.length bc'].toArray [.rd bA (bc bb)] [] (fun u : Option Addr × Nat => .tuple #[.slice u.1 its0.length u.2, .int .i64 0]) (fun u => [.own (.slice u.1 its0.length u.2) its0.length 126 97 (its its0)]) := hD
        refine h_skip ?_
        refine q_then ?_
        refine h_seq ?_
        refine h_reg ?_
        refine h_op (r_move rfl) ?_
        refine h_call (hD.comes) rfl rfl rfl fun ⟨A27, c27⟩ => ?_
        dsimp only
        refine h_freezeO (.slice A27 its0.length c27) fun h2 B2 c2 e2 hle2 hlen2 hnil2 hz2 hr2 => ?_
        injection e2 with e2 _ e3
        subst e2 e3
        have hr2' : RdZ h2 A (cbs l) := hr.mono hz2
        have hRr2 : RdZ h2 rA (bc rb) := hRr.mono hz2
        refine h_op (r_move rfl) ?_
        refine h_op (r_extract rfl rfl) ?_
        refine h_op (r_extract rfl rfl) ?_
        refine h_op (r_assign rfl) ?_
        refine h_op (r_assign rfl) ?_
        refine h_nil ?_
        refine q_then ?_
        refine h_seq ?_
        refine h_seq ?_
        refine h_reg ?_
        refine h_op (r_move rfl) ?_
        refine h_op (r_neq rfl rfl) ?_
        refine h_nil ?_
        refine q_then ?_
        refine h_no rfl ((fun h => h rfl)) ?_
        refine h_skip ?_
        refine q_then ?_
        refine h_seq ?_
        refine h_reg ?_
        refine h_op (r_move rfl) ?_
        refine h_op (r_move rfl) ?_
        refine h_call ((rOf_s rb rA rc h32).comes) rfl rfl rfl fun _ => ?_
        refine h_op (r_move rfl) ?_
        refine h_op (r_move rfl) ?_
        refine h_call ((rLast21_s n hn h2 l A c (hz.mono hz2) hvl (keyOf rb) hr1 its0 A27 c27 (by omega) t hp r hR).comes) rfl rfl rfl fun _ => ?_
        refine h_op (r_extract rfl rfl) ?_
        refine h_op (r_extract rfl rfl) ?_
        refine h_op (r_assign rfl) ?_
        refine h_op (r_assign rfl) ?_
        refine h_nil ?_
        refine q_then ?_
        refine h_ret ?_
        exact h_ret2 rfl rfl rfl fun w s => ⟨⟨h2, hz2⟩, rfl, (same (L' := [.zone true h2]) w s).res (List.Sublist.refl _) (by simp [Fa.wr])⟩
    · have hne : e ≠ 0 := claimsR_nz hr1
      obtain rfl : some (i, e) = r := hR
      refine h_op (r_move rfl) ?_
      refine h_op (r_extract rfl rfl) ?_
      refine h_op (r_extract rfl rfl) ?_
      refine h_op (r_assign rfl) ?_
      refine h_op (r_assign rfl) ?_
      refine h_nil ?_
      refine q_then ?_
      refine h_seq ?_
      refine h_seq ?_
      refine h_reg ?_
      refine h_op (r_move rfl) ?_
      refine h_op (r_neq rfl rfl) ?_
      refine h_nil ?_
      refine q_then ?_
      refine h_yes rfl (hne) ?_
      refine h_seq ?_
      refine h_reg ?_
      refine h_op (r_move rfl) ?_
      refine h_op (r_move rfl) ?_
      refine h_op (r_assign rfl) ?_
      refine h_op (r_assign rfl) ?_
      refine h_nil ?_
      refine q_then ?_
      refine h_ret ?_
      refine q_thenR ?_
      exact h_ret2 rfl rfl rfl fun w s => ⟨⟨h, LeZ.refl h⟩, rfl, (same (L' := [.zone true h]) w s).res (List.Sublist.refl _) (by simp [Fa.wr])⟩
  · rw [if_neg h32] at hR
    subst hR
    refine h_seq ?_
    refine h_reg ?_
    refine h_op (r_assign rfl) ?_
    refine h_op (r_assign rfl) ?_
    refine h_nil ?_
    refine q_then ?_
    refine h_seq ?_
    refine h_seq ?_
    refine h_reg ?_
    refine h_op (r_move rfl) ?_
    refine h_op (r_len rfl) ?_
    refine h_op (r_neq rfl rfl) ?_
    refine h_nil ?_
    refine q_then ?_
    refine h_yes rfl ((show ¬ ((rb.length : Nat) : Int) = 32 by omega)) ?_
    refine h_seq ?_
    refine h_reg ?_
    refine h_op (r_assign rfl) ?_
    refine h_op (r_assign rfl) ?_
    refine h_nil ?_
    refine q_then ?_
    refine h_ret ?_
    refine q_thenR ?_
    exact h_ret2 rfl rfl rfl fun w s => ⟨⟨h, LeZ.refl h⟩, rfl, (same (L' := [.zone true h]) w s).res (List.Sublist.refl _) (by simp [Fa.wr])⟩
end
end Go.Proofs.YtjhocljhhpkiiaaGreatDoor
/- U114 -/
namespace Go.Proofs.YtjhocljhhpkiiaaGreatDoor
set_option linter.unusedSimpArgs false
set_option linter.unusedVariables false
open Go.RowKit
theorem chk20a : checkM [zItem] = 0 := by decide +kernel
theorem enc20a : encM [zItem] = [1, 2, 0, 0, 0, 1, 0] := by decide +kernel
end Go.Proofs.YtjhocljhhpkiiaaGreatDoor
/- E31 -/
namespace Go.Proofs.YtjhocljhhpkiiaaGreatDoor
set_option linter.unusedSimpArgs false
set_option linter.unusedVariables false
open Go.RowKit
abbrev cb21 (B : Option Addr) (c : Nat) : CB := ⟨⟨⟨B, 32, c⟩, ⟨none, 0, 0⟩, false⟩, kb18, []⟩
theorem claims21 (B : Option Addr) (c : Nat) : claimsR [cb21 B c] = none := rfl
theorem parse21 : parseM [zItem] = .ok (.one zItem) := by kernel_rfl
theorem ends21 (ks : List B32) (h : ks.length = 1) : endsM (.one zItem) ks 0 = (ks.map fun _ => (zItem, 0), true) := by
  unfold endsM
  rfl
theorem dg21 : dgS 256 (.one zItem) = E18 := by
  show (if zItem.kind = 3 then zItem.digest else sumB 256 (preI zItem)) = E18
  rw [if_neg (by decide)]
  rfl
theorem show21 (B : Option Addr) (c : Nat) : showR 256 E18 [cb21 B c] (.one zItem) = none := by
  unfold showR
  rw [ends21 _ (keysC_len _)]
  dsimp only
  rw [if_pos rfl, List.length_map, keysC_len]
  have h0 : firstF (showE 256 ((keysC [cb21 B c]).map fun _ => (zItem, 0)) [cb21 B c]) 1 0 = none := firstF_none _ _ _ fun j _ hj => by
    obtain rfl : j = 0 := by omega
    rfl
  show (match firstF (showE 256 ((keysC [cb21 B c]).map fun _ => (zItem, 0)) [cb21 B c]) 1 0 with | some r => some r | none => if dgS 256 (.one zItem) = E18 then none else some (0, 13)) = none
  rw [h0]
  dsimp only
  rw [if_pos dg21]
theorem mver21 (A B : Option Addr) (c c' : Nat) : mverR 256 ⟨A, 32, c⟩ E18.1 [cb21 B c'] (encM [zItem]) = none := by
  unfold mverR
  dsimp only
  rw [if_pos rfl, claims21]
  dsimp only
  rw [decM_enc [zItem] chk20a (by decide)]
  dsimp only
  rw [parse21]
  dsimp only
  rw [keyOf_val, show21]
theorem mver21n (n : Nat) (A : Option Addr) (c : Nat) (rb bb : List UInt8) : mverR n ⟨A, 32, c⟩ rb [] bb = some (0, 10) := rfl
theorem acc21 (B : Option Addr) (c : Nat) : accM 256 E18 [cb21 B c] [zItem] = true := by
  unfold accM
  rw [claims21, parse21]
  dsimp only
  rw [show21]
  rfl
theorem acc21n (root : B32) : accM 256 root [] [zItem] = false := rfl
end Go.Proofs.YtjhocljhhpkiiaaGreatDoor
/- U100 -/
namespace Go.Proofs.YtjhocljhhpkiiaaGreatDoor
set_option linter.unusedSimpArgs false
set_option linter.unusedVariables false
open Go.RowKit
theorem sl32 {z : Zh} {g : Nat} {x : B32} (hr : RdZ z (some ⟨g, 0, none⟩) x.cells) : SlZ z ⟨some ⟨g, 0, none⟩, 32, 32⟩ x.1 := ⟨x.2.symm, Nat.le_refl _, (fun h => by cases h), hr⟩
end Go.Proofs.YtjhocljhhpkiiaaGreatDoor
/- U128 -/
namespace Go.Proofs.YtjhocljhhpkiiaaGreatDoor
set_option linter.unusedSimpArgs false
set_option linter.unusedVariables false
open Go.RowKit
theorem alive21_s (h : Zh) [hT : RdZ h (some ⟨1, 0, none⟩) hashT] [hE : RdZ h (some ⟨0, 0, none⟩) [rty 90]] : Spec Tryz.prog 48 ([] : List Value).toArray [] [.zone true h] (fun _ : {x : Zh // LeZ h x} => .bool true) (fun x => [.zone true x.1]) := by
  refine spec_of Tryz.func48 rfl (n := 105) rfl rfl ?_
  intro W
  refine h_seq ?_
  refine h_reg ?_
  refine h_op (r_assign rfl) ?_
  refine h_nil ?_
  refine q_then ?_
  refine h_seq ?_
  refine h_reg ?_
  refine h_call ((Hash_s 256 (by decide)).comes) rfl rfl rfl fun ⟨gh, gc⟩ => ?_
  dsimp only
  refine h_op (r_assign rfl) ?_
  refine h_nil ?_
  refine q_then ?_
  refine h_seq ?_
  refine h_seq ?_
  refine h_reg ?_
  refine h_op (r_move rfl) ?_
  refine h_op (r_nilR rfl rfl) ?_
  refine h_nil ?_
  refine q_then ?_
  refine h_condF rfl ?_
  refine h_skip ?_
  refine q_then ?_
  refine h_seq ?_
  refine h_reg ?_
  refine h_call ((rEmpty_s 256 (by decide)).comes) rfl rfl rfl fun _ => ?_
  refine h_opX (x_alloc) fun g2 => ?_
  refine h_opS (s_storer rfl rfl) ?_
  refine h_nil ?_
  refine q_then ?_
  refine h_seq ?_
  refine h_reg ?_
  refine h_opX (x_makeB rfl rfl) fun g16 => ?_
  refine h_op (r_build rfl) ?_
  refine h_opX (x_bsl rfl rfl) fun g18 => ?_
  refine h_op (r_assign rfl) ?_
  refine h_nil ?_
  refine q_then ?_
  refine h_seq ?_
  refine h_reg ?_
  refine h_op (r_build rfl) ?_
  refine h_opX (x_bsl rfl rfl) fun g21 => ?_
  change H _ _ _ _ _ (.own _ _ _ _ (its [zItem]) :: .own _ _ _ _ (cbs [cb21 (some ⟨g16, 0, none⟩) 32]) :: .own (.slice (some ⟨g16, 0, none⟩) 32 32) 32 _ 1 (bc kb18) :: .blk g2 E18.cells _ :: _) _
  refine h_freeze g2 (cs := E18.cells) (T := 42) fun z1 hz1 hr1 => ?_
  refine h_freezeO (.slice (some ⟨g16, 0, none⟩) 32 32) fun z2 B2 c2 e2 hle2 hlen2 hnil2 hz2 hr2 => ?_
  injection e2 with e2 _ e2'
  subst e2 e2'
  refine h_freezeO (.slice (some ⟨g18, 0, none⟩) 1 1) fun z3 B3 c3 e3 hle3 hlen3 hnil3 hz3 hr3 => ?_
  injection e3 with e3 _ e3'
  subst e3 e3'
  refine h_freezeO (.slice (some ⟨g21, 0, none⟩) 1 1) fun z4 B4 c4 e4 hle4 hlen4 hnil4 hz4 hr4 => ?_
  injection e4 with e4 _ e4'
  subst e4 e4'
  have hE1 := mEncode_s z4 [zItem] (some ⟨g21, 0, none⟩) 1 (by decide) (by decide) chk20a
  have hEl : (encM [zItem]).length = 7 := by rw [enc20a]; rfl
  rw [hEl] at hE1
  refine h_call (hE1.comes) rfl rfl rfl fun ⟨A22, c22⟩ => ?_
  dsimp only
  refine h_freezeO (.slice A22 7 c22) fun z5 B5 c5 e5 hle5 hlen5 hnil5 hz5 hr5 => ?_
  injection e5 with e5 _ e5'
  subst e5 e5'
  have hzz := (hz1.trans hz2).trans ((hz3.trans hz4).trans hz5)
  have hT5 : RdZ z5 (some ⟨1, 0, none⟩) hashT := hT.mono hzz
  have hE5 : RdZ z5 (some ⟨0, 0, none⟩) [rty 90] := hE.mono hzz
  have sr : SlZ z5 ⟨some ⟨g2, 0, none⟩, 32, 32⟩ E18.1 := sl32 ((((hr1.mono hz2).mono hz3).mono hz4).mono hz5)
  have sb : SlZ z5 ⟨A22, 7, c22⟩ (encM [zItem]) := ⟨hEl.symm, hle5, hnil5, hr5⟩
  have s0 : ∀ z, SlZ z ⟨none, 0, 0⟩ [] := slz_nil
  have sk : SlZ z5 ⟨some ⟨g16, 0, none⟩, 32, 32⟩ kb18 := ⟨rfl, Nat.le_refl _, (fun h => by cases h), ((hr2.mono hz3).mono hz4).mono hz5⟩
  have scl : ClsZ z5 [cb21 (some ⟨g16, 0, none⟩) 32] := fun x hx => by
    obtain rfl := List.mem_singleton.1 hx
    exact ⟨sk, s0 z5⟩
  have hrl : RdZ z5 (some ⟨g18, 0, none⟩) (cbs [cb21 (some ⟨g16, 0, none⟩) 32]) := (hr3.mono hz4).mono hz5
  have hvl : ∀ x ∈ [cb21 (some ⟨g16, 0, none⟩) 32], x.vb.length ≤ 100000000 := fun x hx => by
    obtain rfl := List.mem_singleton.1 hx
    exact Nat.zero_le _
  have hrn : ∀ z, RdZ z none (cbs []) := fun z => RdZ.nil _ _
  have hcn : ∀ z, ClsZ z [] := fun z x hx => by cases hx
  have hvn : ∀ x ∈ ([] : List CB), x.vb.length ≤ 100000000 := fun x hx => by cases hx
  have hV1 := fun (z : Zh) (_ : RdZ z (some ⟨1, 0, none⟩) hashT) (_ : SlZ z ⟨some ⟨g2, 0, none⟩, 32, 32⟩ E18.1) (_ : SlZ z ⟨A22, 7, c22⟩ (encM [zItem])) k hk => mVerify_s 256 (by decide) z gh gc [] none 0 (hr := hrn z) (hcn z) hvn (by decide) k hk ⟨some ⟨g2, 0, none⟩, 32, 32⟩ ⟨A22, 7, c22⟩ E18.1 (encM [zItem]) (by rw [hEl]; decide)
  have hC1 := fun (z : Zh) (_ : RdZ z (some ⟨1, 0, none⟩) hashT) (_ : RdZ z (some ⟨0, 0, none⟩) [rty 90]) (_ : SlZ z ⟨some ⟨g2, 0, none⟩, 32, 32⟩ E18.1) k hk => mvCheck_s 256 (by decide) z gh gc [] none 0 (hr := hrn z) (hcn z) hvn (by decide) k hk ⟨some ⟨g2, 0, none⟩, 32, 32⟩ ⟨none, 0, 0⟩ E18.1 [] (hB := s0 z) (by decide)
  have hV2 := fun (z : Zh) (_ : RdZ z (some ⟨1, 0, none⟩) hashT) (_ : SlZ z ⟨some ⟨g2, 0, none⟩, 32, 32⟩ E18.1) (_ : SlZ z ⟨A22, 7, c22⟩ (encM [zItem])) (hr : RdZ z (some ⟨g18, 0, none⟩) (cbs [cb21 (some ⟨g16, 0, none⟩) 32])) (hz : ClsZ z [cb21 (some ⟨g16, 0, none⟩) 32]) k hk => mVerify_s 256 (by decide) z gh gc [cb21 (some ⟨g16, 0, none⟩) 32] (some ⟨g18, 0, none⟩) 1 (hr := hr) hz hvl (by show (1 : Nat) ≤ _; decide) k hk ⟨some ⟨g2, 0, none⟩, 32, 32⟩ ⟨A22, 7, c22⟩ E18.1 (encM [zItem]) (by rw [hEl]; decide)
  have hC2 := fun (z : Zh) (_ : RdZ z (some ⟨1, 0, none⟩) hashT) (_ : RdZ z (some ⟨0, 0, none⟩) [rty 90]) (_ : SlZ z ⟨some ⟨g2, 0, none⟩, 32, 32⟩ E18.1) (_ : SlZ z ⟨A22, 7, c22⟩ (encM [zItem])) (hr : RdZ z (some ⟨g18, 0, none⟩) (cbs [cb21 (some ⟨g16, 0, none⟩) 32])) (hz : ClsZ z [cb21 (some ⟨g16, 0, none⟩) 32]) k hk => mvCheck_s 256 (by decide) z gh gc [cb21 (some ⟨g16, 0, none⟩) 32] (some ⟨g18, 0, none⟩) 1 (hr := hr) hz hvl (by show (1 : Nat) ≤ _; decide) k hk ⟨some ⟨g2, 0, none⟩, 32, 32⟩ ⟨A22, 7, c22⟩ E18.1 (encM [zItem]) (by rw [hEl]; decide)
  have hA1 := fun (z : Zh) (_ : RdZ z (some ⟨1, 0, none⟩) hashT) (hr : RdZ z (some ⟨g18, 0, none⟩) (cbs [cb21 (some ⟨g16, 0, none⟩) 32])) (hz : ClsZ z [cb21 (some ⟨g16, 0, none⟩) 32]) I (_ : RdZ z I (its [zItem])) k hk => mvAccepts_s 256 (by decide) z gh gc [cb21 (some ⟨g16, 0, none⟩) 32] (some ⟨g18, 0, none⟩) 1 (hr := hr) hz hvl (by show (1 : Nat) ≤ _; decide) k hk E18 [zItem] I 1 (by show (1 : Nat) ≤ 1; decide) (by show (1 : Nat) ≤ _; decide)
  have hA2 := fun (z : Zh) (_ : RdZ z (some ⟨1, 0, none⟩) hashT) I (_ : RdZ z I (its [zItem])) k hk => mvAccepts_s 256 (by decide) z gh gc [] none 0 (hr := hrn z) (hcn z) hvn (by decide) k hk E18 [zItem] I 1 (by show (1 : Nat) ≤ 1; decide) (by show (1 : Nat) ≤ _; decide)
  have hCl := mClaims_s z5 [cb21 (some ⟨g16, 0, none⟩) 32] (some ⟨g18, 0, none⟩) 1 (by show (1 : Nat) ≤ _; decide) scl none (claims21 _ _)
  replace hCl : Spec Tryz.prog 56 [.slice (some ⟨g18, 0, none⟩) 1 1].toArray [.zone false z5] [] (fun g : Nat => .tuple #[.slice (some ⟨g, 0, none⟩) 1 1, .nilIface]) (fun g => [.own (.slice (some ⟨g, 0, none⟩) 1 1) 1 35 32 (dgs (keysC [cb21 (some ⟨g16, 0, none⟩) 32]))]) := hCl
  have hdl : decLen (encM [zItem]) = 1 := by unfold decLen; rw [decM_enc [zItem] chk20a (by decide)]; rfl
  have hdl0 : decLen [] = 0 := rfl
  simp only [mver21n, mver21, acc21, acc21n, errV, errB, errE, hdl, hdl0, List.length_nil, List.length_singleton] at hV1 hC1 hV2 hC2 hA1 hA2
  refine h_op (r_move rfl) ?_
  refine h_op (r_extract rfl rfl) ?_
  refine h_op (r_extract rfl rfl) ?_
  refine h_op (r_assign rfl) ?_
  refine h_op (r_assign rfl) ?_
  refine h_nil ?_
  refine q_then ?_
  refine h_seq ?_
  refine h_reg ?_
  refine h_op (r_move rfl) ?_
  refine h_op (r_slA rfl) ?_
  refine h_op (r_move rfl) ?_
  refine h_call ((hV1 z5 hT5 sr sb 0 (by decide)).comes) rfl rfl rfl fun ⟨⟨g28, z6, k6⟩, hz6, hk6⟩ => ?_
  dsimp only at hz6 hk6 ⊢
  have hT6 : RdZ z6 (some ⟨1, 0, none⟩) hashT := hT5.mono hz6
  have hE6 : RdZ z6 (some ⟨0, 0, none⟩) [rty 90] := hE5.mono hz6
  have sr6 := sr.mono hz6
  have sb6 := sb.mono hz6
  have scl6 := scl.mono hz6
  have hrl6 : RdZ z6 (some ⟨g18, 0, none⟩) (cbs [cb21 (some ⟨g16, 0, none⟩) 32]) := hrl.mono hz6
  refine h_op (r_assign rfl) ?_
  refine h_nil ?_
  refine q_then ?_
  refine h_seq ?_
  refine h_reg ?_
  refine h_op (r_move rfl) ?_
  refine h_call ((First_s g28 batchB ((0 : Nat) : Int) 10).comes) rfl rfl rfl fun _ => ?_
  refine h_op (r_move rfl) ?_
  refine h_op (r_extract rfl rfl) ?_
  refine h_op (r_extract rfl rfl) ?_
  refine h_op (r_extract rfl rfl) ?_
  refine h_op (r_assign rfl) ?_
  refine h_op (r_assign rfl) ?_
  refine h_op (r_assign rfl) ?_
  refine h_nil ?_
  refine q_then ?_
  refine h_seq ?_
  refine h_reg ?_
  refine h_op (r_move rfl) ?_
  refine h_call (hCl.comes) rfl rfl rfl fun g37 => ?_
  refine h_op (r_move rfl) ?_
  refine h_op (r_extract rfl rfl) ?_
  refine h_op (r_extract rfl rfl) ?_
  refine h_op (r_assign rfl) ?_
  refine h_op (r_assign rfl) ?_
  refine h_nil ?_
  refine q_then ?_
  refine h_seq ?_
  refine h_reg ?_
  refine h_op (r_move rfl) ?_
  refine h_op (r_bool (r_eql rfl rfl) rfl) ?_
  refine h_op (r_move rfl) ?_
  refine h_op (r_move rfl) ?_
  refine h_call ((Code_s g28 batchB ((0 : Nat) : Int) 10).comes) rfl rfl rfl fun _ => ?_
  refine h_op (r_bool (r_eql rfl rfl) rfl) ?_
  refine h_op (r_pick rfl rfl) ?_
  refine h_op (r_move rfl) ?_
  refine h_op (r_move rfl) ?_
  refine h_op (r_bool (r_eqS rfl rfl) (show (batchB.toList == batchB.toList) = true from beq_self_eq_true _)) ?_
  refine h_op (r_pick rfl rfl) ?_
  refine h_op (r_move rfl) ?_
  refine h_op (r_move rfl) ?_
  refine h_op (r_bool (r_eql rfl rfl) rfl) ?_
  refine h_op (r_pick rfl rfl) ?_
  refine h_op (r_move rfl) ?_
  refine h_op (r_move rfl) ?_
  refine h_op (r_pick rfl rfl) ?_
  refine h_op (r_move rfl) ?_
  refine h_op (r_move rfl) ?_
  refine h_op (r_slA rfl) ?_
  refine h_call ((hC1 z6 hT6 hE6 sr6 k6 (by omega)).comes) rfl rfl rfl fun ⟨⟨z7, k7⟩, hz7, hk7⟩ => ?_
  dsimp only at hz7 hk7 ⊢
  have hT7 : RdZ z7 (some ⟨1, 0, none⟩) hashT := hT6.mono hz7
  have hE7 : RdZ z7 (some ⟨0, 0, none⟩) [rty 90] := hE6.mono hz7
  refine h_op (r_bool (r_eql rfl rfl) rfl) ?_
  refine h_op (r_pick rfl rfl) ?_
  refine h_op (r_move rfl) ?_
  refine h_op (r_move rfl) ?_
  refine h_op (r_slA rfl) ?_
  refine h_op (r_move rfl) ?_
  refine h_op (r_move rfl) ?_
  refine h_call ((hC2 z7 hT7 hE7 (sr6.mono hz7) (sb6.mono hz7) (hrl6.mono hz7) (scl6.mono hz7) k7 (by omega)).comes) rfl rfl rfl fun ⟨⟨z8, k8⟩, hz8, hk8⟩ => ?_
  dsimp only at hz8 hk8 ⊢
  have hT8 : RdZ z8 (some ⟨1, 0, none⟩) hashT := hT7.mono hz8
  have hz68 := hz7.trans hz8
  refine h_op (r_bool (r_eql rfl rfl) rfl) ?_
  refine h_op (r_pick rfl rfl) ?_
  refine h_op (r_move rfl) ?_
  refine h_op (r_move rfl) ?_
  refine h_op (r_slA rfl) ?_
  refine h_op (r_move rfl) ?_
  refine h_op (r_move rfl) ?_
  refine h_call ((hV2 z8 hT8 (sr6.mono hz68) (sb6.mono hz68) (hrl6.mono hz68) (scl6.mono hz68) k8 (by omega)).comes) rfl rfl rfl fun ⟨⟨g77, z9, k9⟩, hz9, hk9⟩ => ?_
  dsimp only at hz9 hk9 ⊢
  have hT9 : RdZ z9 (some ⟨1, 0, none⟩) hashT := hT8.mono hz9
  have hr29 : RdZ z9 (some ⟨g2, 0, none⟩) E18.cells := (sr6.mono (hz68.trans hz9)).rd
  refine h_op (r_nilnil rfl) ?_
  refine h_op (r_pick rfl rfl) ?_
  refine h_op (r_move rfl) ?_
  refine h_op (r_move rfl) ?_
  refine h_op (r_len rfl) ?_
  refine h_op (r_bool (r_eql rfl rfl) rfl) ?_
  refine h_op (r_pick rfl rfl) ?_
  refine h_op (r_move rfl) ?_
  refine h_op (r_move rfl) ?_
  refine h_op (r_nilnil rfl) ?_
  refine h_op (r_pick rfl rfl) ?_
  refine h_op (r_move rfl) ?_
  refine h_op (r_move rfl) ?_
  refine h_op (r_loadr rfl) ?_
  refine h_op (r_move rfl) ?_
  refine h_op (r_build rfl) ?_
  refine h_opX (x_bsl rfl rfl) fun g94 => ?_
  change H _ _ _ _ _ (.own (.slice (some ⟨g94, 0, none⟩) 1 1) 1 _ _ (its [zItem]) :: _) _
  refine h_freezeO (.slice (some ⟨g94, 0, none⟩) 1 1) fun z10 B10 c10 e10 hle10 hlen10 hnil10 hz10 hr10 => ?_
  injection e10 with e10 _ e10'
  subst e10 e10'
  have hT10 : RdZ z10 (some ⟨1, 0, none⟩) hashT := hT9.mono hz10
  have hz610 := (hz68.trans hz9).trans hz10
  have hr210 : RdZ z10 (some ⟨g2, 0, none⟩) E18.cells := hr29.mono hz10
  refine h_call ((hA1 z10 hT10 (hrl6.mono hz610) (scl6.mono hz610) (some ⟨g94, 0, none⟩) hr10 k9 (by omega)).comes) rfl rfl rfl fun ⟨⟨z11, k11⟩, hz11, hk11⟩ => ?_
  dsimp only at hz11 hk11 ⊢
  have hr211 : RdZ z11 (some ⟨g2, 0, none⟩) E18.cells := hr210.mono hz11
  refine h_op (r_pick rfl rfl) ?_
  refine h_op (r_move rfl) ?_
  refine h_op (r_move rfl) ?_
  refine h_op (r_loadr rfl) ?_
  refine h_op (r_build rfl) ?_
  refine h_opX (x_bsl rfl rfl) fun g101 => ?_
  change H _ _ _ _ _ (.own (.slice (some ⟨g101, 0, none⟩) 1 1) 1 _ _ (its [zItem]) :: _) _
  refine h_freezeO (.slice (some ⟨g101, 0, none⟩) 1 1) fun z12 B12 c12 e12 hle12 hlen12 hnil12 hz12 hr12 => ?_
  injection e12 with e12 _ e12'
  subst e12 e12'
  have hT12 : RdZ z12 (some ⟨1, 0, none⟩) hashT := (hT10.mono hz11).mono hz12
  refine h_call ((hA2 z12 hT12 (some ⟨g101, 0, none⟩) hr12 k11 (by omega)).comes) rfl rfl rfl fun ⟨⟨z13, k13⟩, hz13, hk13⟩ => ?_
  dsimp only at hz13 hk13 ⊢
  refine h_op (r_not rfl) ?_
  refine h_op (r_pick rfl rfl) ?_
  refine h_op (r_assign rfl) ?_
  refine h_nil ?_
  refine q_then ?_
  refine h_ret ?_
  have hend : LeZ h z13 := ((hzz.trans hz6).trans hz610).trans ((hz11.trans hz12).trans hz13)
  exact h_ret1 rfl rfl fun w s => ⟨⟨z13, hend⟩, rfl, (same (L' := [.zone true z13]) w s).res (List.Sublist.refl _) (by simp [Fa.wr])⟩
end Go.Proofs.YtjhocljhhpkiiaaGreatDoor
/- U10c -/
namespace Go.Proofs.YtjhocljhhpkiiaaGreatDoor
set_option linter.unusedSimpArgs false
set_option linter.unusedVariables false
open Go.RowKit
theorem cCalls_s (k : Nat) : Spec Tryz.prog 106 [.agg [.int .i64 (k : Int)].toArray].toArray [] [] (fun _ : Unit => .int .i64 (k : Int)) (fun _ => []) := by
  refine spec_of Tryz.func106 rfl (n := 5) rfl rfl ?_
  intro W
  refine h_seq ?_
  refine h_reg ?_
  refine h_opX (x_box rfl) fun g1 => ?_
  refine h_op (r_assign rfl) ?_
  refine h_nil ?_
  refine q_then ?_
  refine h_seq ?_
  refine h_reg ?_
  refine h_op (r_field rfl) ?_
  refine h_op (r_loadc rfl) ?_
  refine h_op (r_assign rfl) ?_
  refine h_nil ?_
  refine q_then ?_
  refine h_ret ?_
  exact h_ret1 rfl rfl fun w s => ⟨(), rfl, s.res (List.nil_sublist _) (by simp)⟩
theorem Calls_s (n gh gc k : Nat) : Spec Tryz.prog 55 [.pointer (some ⟨gh, 0, none⟩)].toArray [.rd (some ⟨gh, 0, none⟩) [.pointer (some ⟨gc, 0, none⟩), .int .i64 (n : Int)], .rd (some ⟨gc, 0, none⟩) [.int .i64 (k : Int)]] [] (fun _ : Unit => .int .i64 (k : Int)) (fun _ => []) := by
  refine spec_of Tryz.func55 rfl (n := 12) rfl rfl ?_
  intro W
  refine h_seq ?_
  refine h_reg ?_
  refine h_op (r_assign rfl) ?_
  refine h_nil ?_
  refine q_then ?_
  refine h_seq ?_
  refine h_seq ?_
  refine h_reg ?_
  refine h_op (r_move rfl) ?_
  refine h_op (r_nilR rfl rfl) ?_
  refine h_nil ?_
  refine q_then ?_
  refine h_condF rfl ?_
  refine h_skip ?_
  refine q_then ?_
  refine h_seq ?_
  refine h_reg ?_
  refine h_op (r_move rfl) ?_
  refine h_op (r_nilc rfl) ?_
  refine h_op (r_field rfl) ?_
  refine h_op (r_loadc rfl) ?_
  refine h_op (r_nilc rfl) ?_
  refine h_op (r_loadr rfl) ?_
  refine h_call ((cCalls_s k).comes) rfl rfl rfl fun _ => ?_
  refine h_op (r_assign rfl) ?_
  refine h_nil ?_
  refine q_then ?_
  refine h_ret ?_
  exact h_ret1 rfl rfl fun w s => ⟨(), rfl, s.res (List.nil_sublist _) (by simp)⟩
end Go.Proofs.YtjhocljhhpkiiaaGreatDoor
/- U129 -/
namespace Go.Proofs.YtjhocljhhpkiiaaGreatDoor
set_option linter.unusedSimpArgs false
set_option linter.unusedVariables false
open Go.RowKit
def decE (bb : List UInt8) : Int := match decM bb with
  | .ok _ => 0
  | .error e => e
theorem decLen_le (bb : List UInt8) : decLen bb ≤ bb.length := by
  unfold decLen
  rcases hd : decM bb with e | l
  · exact Nat.zero_le _
  · exact decM_len hd
theorem rDecode20_len (bb : List UInt8) (hbl : bb.length ≤ 900000) (B : Option Addr) (c : Nat) : Spec Tryz.prog 53 [.slice B bb.length c].toArray [.rd B (bc bb)] [] (fun u : Option Addr × Nat => .tuple #[.slice u.1 (decLen bb) u.2, .int .i64 (decE bb)]) (fun _ => []) := by
  have hD := rDecode20_s bb hbl B c
  rcases hd : decM bb with e | l
  · rw [hd] at hD
    replace hD : Spec Tryz.prog 53 [.slice B bb.length c].toArray [.rd B (bc bb)] [] (fun u : Option Addr × Nat => .tuple #[.slice none 0 0, .int .i64 e]) (fun u => []) := hD
    exact hD.weak (fun _ => (none, 0)) (fun _ => by unfold decLen decE; rw [hd]) fun _ W w s => s.res (List.nil_sublist _) (by simp)
  · rw [hd] at hD
    replace hD : Spec Tryz.prog 53 [.slice B bb.length c].toArray [.rd B (bc bb)] [] (fun u : Option Addr × Nat => .tuple #[.slice u.1 l.length u.2, .int .i64 0]) (fun u => [.own (.slice u.1 l.length u.2) l.length 126 97 (its l)]) := hD
    exact hD.weak id (fun _ => by unfold decLen decE; rw [hd]; rfl) fun _ W w s => s.res (List.nil_sublist _) (by simp)
section
variable (h : Zh) [hT : RdZ h (some ⟨1, 0, none⟩) hashT] [hE : RdZ h (some ⟨0, 0, none⟩) [rty 90]] (l : List CB) (A : Option Addr) (c : Nat) [hr : RdZ h A (cbs l)] (hz : ClsZ h l)
include hz
theorem MverifyChecks_s (i : Int) (r b : Sl) (rb bb : List UInt8) [hR : SlZ h r rb] [hB : SlZ h b bb] : Spec Tryz.prog 11 [.int .i64 i, .slice A l.length c, .agg [.slice r.A r.n r.c, .slice b.A b.n b.c].toArray].toArray [] [.zone true h] (fun _ : {x : Zh // LeZ h x} => .bool true) (fun x => [.zone true x.1]) := by
  have hbn := hB.len
  refine spec_of Tryz.func11 rfl (n := 77) rfl rfl ?_
  intro W
  refine h_seq ?_
  refine h_reg ?_
  refine h_opX (x_box rfl) fun g5 => ?_
  refine h_op (r_assign rfl) ?_
  refine h_nil ?_
  refine q_then ?_
  refine h_seq ?_
  refine h_seq ?_
  refine h_reg ?_
  refine h_op (r_move rfl) ?_
  by_cases hi : 0 ≤ i ∧ i ≤ 256
  · obtain ⟨n, rfl⟩ : ∃ n : Nat, i = (n : Int) := ⟨i.toNat, by omega⟩
    have hn : n ≤ 256 := by omega
    refine h_call ((Right_yes n hn).comes) rfl rfl rfl fun _ => ?_
    refine h_op (r_not rfl) ?_
    refine h_op (r_move rfl) ?_
    refine h_op (r_move rfl) ?_
    refine h_call ((few21_s h l A c).comes) rfl rfl rfl fun _ => ?_
    by_cases hf : fewC l = true
    · obtain ⟨hll, hvl⟩ := fewC_ok hz hf
      rw [hf]
      by_cases hr' : r.n ≤ 100
      · by_cases hb : b.n ≤ 20000
        · refine h_op (r_not rfl) ?_
          refine h_op (r_pick rfl rfl) ?_
          refine h_op (r_move rfl) ?_
          refine h_op (r_field rfl) ?_
          refine h_op (r_loadc rfl) ?_
          refine h_op (r_len rfl) ?_
          refine h_op (r_bool (r_gtr rfl rfl) (decide_eq_false (by omega))) ?_
          refine h_op (r_pick rfl rfl) ?_
          refine h_op (r_move rfl) ?_
          refine h_op (r_field rfl) ?_
          refine h_op (r_loadc rfl) ?_
          refine h_op (r_len rfl) ?_
          refine h_op (r_bool (r_gtr rfl rfl) (decide_eq_false (by omega))) ?_
          refine h_op (r_pick rfl rfl) ?_
          refine h_nil ?_
          refine q_then ?_
          refine h_condF rfl ?_
          refine h_skip ?_
          refine q_then ?_
          refine h_seq ?_
          refine h_reg ?_
          refine h_op (r_move rfl) ?_
          refine h_call ((Hash_s n hn).comes) rfl rfl rfl fun ⟨gh, gc⟩ => ?_
          dsimp only
          refine h_op (r_assign rfl) ?_
          refine h_nil ?_
          refine q_then ?_
          refine h_seq ?_
          refine h_seq ?_
          refine h_reg ?_
          refine h_op (r_move rfl) ?_
          refine h_op (r_nilR rfl rfl) ?_
          refine h_nil ?_
          refine q_then ?_
          refine h_condF rfl ?_
          refine h_skip ?_
          refine q_then ?_
          refine h_seq ?_
          refine h_reg ?_
          refine h_op (r_move rfl) ?_
          refine h_op (r_field rfl) ?_
          refine h_op (r_loadc rfl) ?_
          refine h_op (r_move rfl) ?_
          refine h_op (r_field rfl) ?_
          refine h_op (r_loadc rfl) ?_
          obtain ⟨v, hv⟩ : ∃ v, mverR n r rb l bb = v := ⟨_, rfl⟩
          refine h_call ((rCheck21_s n hn h l A c hz hvl (by omega) r b rb bb (by omega) v hv).comes) rfl rfl rfl fun ⟨z1, hz1⟩ => ?_
          dsimp only
          have hT1 : RdZ z1 (some ⟨1, 0, none⟩) hashT := hT.mono hz1
          have hE1 : RdZ z1 (some ⟨0, 0, none⟩) [rty 90] := hE.mono hz1
          have hD := rDecode20_len bb (by omega) b.A b.c
          have hdl := decLen_le bb
          rw [← hbn] at hD
          have hBr : RdZ z1 b.A (bc bb) := hB.rd.mono hz1
          have hC := mvCheck_s n hn z1 gh gc l A c (hr := hr.mono hz1) (hz.mono hz1) hvl (by omega) 0 (by decide) r b rb bb (hRt := hR.mono hz1) (hB := hB.mono hz1) (by omega)
          rw [hv] at hC
          refine h_op (r_move rfl) ?_
          refine h_op (r_extract rfl rfl) ?_
          refine h_op (r_extract rfl rfl) ?_
          refine h_op (r_assign rfl) ?_
          refine h_op (r_assign rfl) ?_
          refine h_nil ?_
          refine q_then ?_
          refine h_seq ?_
          refine h_reg ?_
          refine h_op (r_field rfl) ?_
          refine h_op (r_loadc rfl) ?_
          refine h_call (hD.comes) rfl rfl rfl fun ⟨A51, c51⟩ => ?_
          dsimp only
          refine h_op (r_move rfl) ?_
          refine h_op (r_extract rfl rfl) ?_
          refine h_op (r_extract rfl rfl) ?_
          refine h_op (r_assign rfl) ?_
          refine h_op (r_assign rfl) ?_
          refine h_nil ?_
          refine q_then ?_
          refine h_seq ?_
          refine h_reg ?_
          refine h_op (r_move rfl) ?_
          refine h_op (r_field rfl) ?_
          refine h_op (r_loadc rfl) ?_
          refine h_op (r_move rfl) ?_
          refine h_op (r_field rfl) ?_
          refine h_op (r_loadc rfl) ?_
          refine h_call (hC.comes) rfl rfl rfl fun ⟨⟨z2, k2⟩, hz2, hk2⟩ => ?_
          dsimp only at hz2 hk2 ⊢
          have hT2 : RdZ z2 (some ⟨1, 0, none⟩) hashT := hT1.mono hz2
          have hE2 : RdZ z2 (some ⟨0, 0, none⟩) [rty 90] := hE1.mono hz2
          refine h_op (r_assign rfl) ?_
          refine h_nil ?_
          refine q_then ?_
          refine h_seq ?_
          refine h_reg ?_
          refine h_call ((alive21_s z2).comes) rfl rfl rfl fun ⟨z3, hz3⟩ => ?_
          dsimp only
          refine h_op (r_move rfl) ?_
          refine h_op (r_move rfl) ?_
          refine h_op (r_move rfl) ?_
          refine h_op (r_bool (r_eql rfl rfl) (decide_eq_true (scOf_err _).symm)) ?_
          refine h_op (r_pick rfl rfl) ?_
          refine h_op (r_move rfl) ?_
          refine h_op (r_move rfl) ?_
          refine h_call ((Calls_s n gh gc k2).comes) rfl rfl rfl fun _ => ?_
          refine h_op (r_move rfl) ?_
          refine h_op (r_len rfl) ?_
          refine h_op (r_move rfl) ?_
          refine h_op (r_len rfl) ?_
          refine h_op (r_add rfl rfl) ?_
          refine h_op (r_bool (r_leq rfl rfl) (decide_eq_true (by omega))) ?_
          refine h_op (r_pick rfl rfl) ?_
          refine h_op (r_assign rfl) ?_
          refine h_nil ?_
          refine q_then ?_
          refine h_ret ?_
          exact h_ret1 rfl rfl fun w s => ⟨⟨z3, LeZ.trans (LeZ.trans hz1 hz2) hz3⟩, rfl, (same (L' := [.zone true z3]) w s).res (List.Sublist.refl _) (by simp [Fa.wr])⟩
        · refine h_op (r_not rfl) ?_
          refine h_op (r_pick rfl rfl) ?_
          refine h_op (r_move rfl) ?_
          refine h_op (r_field rfl) ?_
          refine h_op (r_loadc rfl) ?_
          refine h_op (r_len rfl) ?_
          refine h_op (r_bool (r_gtr rfl rfl) (decide_eq_false (by omega))) ?_
          refine h_op (r_pick rfl rfl) ?_
          refine h_op (r_move rfl) ?_
          refine h_op (r_field rfl) ?_
          refine h_op (r_loadc rfl) ?_
          refine h_op (r_len rfl) ?_
          refine h_op (r_bool (r_gtr rfl rfl) (decide_eq_true (by omega))) ?_
          refine h_op (r_pick rfl rfl) ?_
          refine h_nil ?_
          refine q_then ?_
          refine h_condT rfl ?_
          refine h_seq ?_
          refine h_reg ?_
          refine h_call ((alive21_s h).comes) rfl rfl rfl fun ⟨h1, hle1⟩ => ?_
          dsimp only
          refine h_op (r_assign rfl) ?_
          refine h_nil ?_
          refine q_then ?_
          refine h_ret ?_
          refine q_thenR ?_
          exact h_ret1 rfl rfl fun w s => ⟨⟨h1, hle1⟩, rfl, (same (L' := [.zone true h1]) w s).res (List.Sublist.refl _) (by simp [Fa.wr])⟩
      · refine h_op (r_not rfl) ?_
        refine h_op (r_pick rfl rfl) ?_
        refine h_op (r_move rfl) ?_
        refine h_op (r_field rfl) ?_
        refine h_op (r_loadc rfl) ?_
        refine h_op (r_len rfl) ?_
        refine h_op (r_bool (r_gtr rfl rfl) (decide_eq_true (by omega))) ?_
        refine h_op (r_pick rfl rfl) ?_
        refine h_op (r_move rfl) ?_
        refine h_opOff ?_
        refine h_opOff ?_
        refine h_opOff ?_
        refine h_opOff ?_
        refine h_op (r_pick rfl rfl) ?_
        refine h_nil ?_
        refine q_then ?_
        refine h_condT rfl ?_
        refine h_seq ?_
        refine h_reg ?_
        refine h_call ((alive21_s h).comes) rfl rfl rfl fun ⟨h1, hle1⟩ => ?_
        dsimp only
        refine h_op (r_assign rfl) ?_
        refine h_nil ?_
        refine q_then ?_
        refine h_ret ?_
        refine q_thenR ?_
        exact h_ret1 rfl rfl fun w s => ⟨⟨h1, hle1⟩, rfl, (same (L' := [.zone true h1]) w s).res (List.Sublist.refl _) (by simp [Fa.wr])⟩
    · rw [show fewC l = false by simpa using hf]
      refine h_op (r_not rfl) ?_
      refine h_op (r_pick rfl rfl) ?_
      refine h_op (r_move rfl) ?_
      refine h_opOff ?_
      refine h_opOff ?_
      refine h_opOff ?_
      refine h_opOff ?_
      refine h_op (r_pick rfl rfl) ?_
      refine h_op (r_move rfl) ?_
      refine h_opOff ?_
      refine h_opOff ?_
      refine h_opOff ?_
      refine h_opOff ?_
      refine h_op (r_pick rfl rfl) ?_
      refine h_nil ?_
      refine q_then ?_
      refine h_condT rfl ?_
      refine h_seq ?_
      refine h_reg ?_
      refine h_call ((alive21_s h).comes) rfl rfl rfl fun ⟨h1, hle1⟩ => ?_
      dsimp only
      refine h_op (r_assign rfl) ?_
      refine h_nil ?_
      refine q_then ?_
      refine h_ret ?_
      refine q_thenR ?_
      exact h_ret1 rfl rfl fun w s => ⟨⟨h1, hle1⟩, rfl, (same (L' := [.zone true h1]) w s).res (List.Sublist.refl _) (by simp [Fa.wr])⟩
  · refine h_call ((Right_no i hi).comes) rfl rfl rfl fun _ => ?_
    refine h_op (r_not rfl) ?_
    refine h_op (r_move rfl) ?_
    refine h_opOff ?_
    refine h_opOff ?_
    refine h_opOff ?_
    refine h_op (r_pick rfl rfl) ?_
    refine h_op (r_move rfl) ?_
    refine h_opOff ?_
    refine h_opOff ?_
    refine h_opOff ?_
    refine h_opOff ?_
    refine h_op (r_pick rfl rfl) ?_
    refine h_op (r_move rfl) ?_
    refine h_opOff ?_
    refine h_opOff ?_
    refine h_opOff ?_
    refine h_opOff ?_
    refine h_op (r_pick rfl rfl) ?_
    refine h_nil ?_
    refine q_then ?_
    refine h_condT rfl ?_
    refine h_seq ?_
    refine h_reg ?_
    refine h_call ((alive21_s h).comes) rfl rfl rfl fun ⟨h1, hle1⟩ => ?_
    dsimp only
    refine h_op (r_assign rfl) ?_
    refine h_nil ?_
    refine q_then ?_
    refine h_ret ?_
    refine q_thenR ?_
    exact h_ret1 rfl rfl fun w s => ⟨⟨h1, hle1⟩, rfl, (same (L' := [.zone true h1]) w s).res (List.Sublist.refl _) (by simp [Fa.wr])⟩
theorem MverifyExplains_s (i : Int) (r b : Sl) (rb bb : List UInt8) [hR : SlZ h r rb] [hB : SlZ h b bb] : Spec Tryz.prog 9 [.int .i64 i, .slice A l.length c, .agg [.slice r.A r.n r.c, .slice b.A b.n b.c].toArray].toArray [] [.zone true h] (fun _ : {x : Zh // LeZ h x} => .bool true) (fun x => [.zone true x.1]) := by
  have hbn := hB.len
  refine spec_of Tryz.func9 rfl (n := 88) rfl rfl ?_
  intro W
  refine h_seq ?_
  refine h_reg ?_
  refine h_opX (x_box rfl) fun g5 => ?_
  refine h_op (r_assign rfl) ?_
  refine h_nil ?_
  refine q_then ?_
  refine h_seq ?_
  refine h_seq ?_
  refine h_reg ?_
  refine h_op (r_move rfl) ?_
  by_cases hi : 0 ≤ i ∧ i ≤ 256
  · obtain ⟨n, rfl⟩ : ∃ n : Nat, i = (n : Int) := ⟨i.toNat, by omega⟩
    have hn : n ≤ 256 := by omega
    refine h_call ((Right_yes n hn).comes) rfl rfl rfl fun _ => ?_
    refine h_op (r_not rfl) ?_
    refine h_op (r_move rfl) ?_
    refine h_op (r_move rfl) ?_
    refine h_call ((few21_s h l A c).comes) rfl rfl rfl fun _ => ?_
    by_cases hf : fewC l = true
    · obtain ⟨hll, hvl⟩ := fewC_ok hz hf
      rw [hf]
      by_cases hr' : r.n ≤ 100
      · by_cases hb : b.n ≤ 20000
        · refine h_op (r_not rfl) ?_
          refine h_op (r_pick rfl rfl) ?_
          refine h_op (r_move rfl) ?_
          refine h_op (r_field rfl) ?_
          refine h_op (r_loadc rfl) ?_
          refine h_op (r_len rfl) ?_
          refine h_op (r_bool (r_gtr rfl rfl) (decide_eq_false (by omega))) ?_
          refine h_op (r_pick rfl rfl) ?_
          refine h_op (r_move rfl) ?_
          refine h_op (r_field rfl) ?_
          refine h_op (r_loadc rfl) ?_
          refine h_op (r_len rfl) ?_
          refine h_op (r_bool (r_gtr rfl rfl) (decide_eq_false (by omega))) ?_
          refine h_op (r_pick rfl rfl) ?_
          refine h_nil ?_
          refine q_then ?_
          refine h_condF rfl ?_
          refine h_skip ?_
          refine q_then ?_
          refine h_seq ?_
          refine h_reg ?_
          refine h_op (r_move rfl) ?_
          refine h_call ((Hash_s n hn).comes) rfl rfl rfl fun ⟨gh, gc⟩ => ?_
          dsimp only
          refine h_op (r_assign rfl) ?_
          refine h_nil ?_
          refine q_then ?_
          refine h_seq ?_
          refine h_seq ?_
          refine h_reg ?_
          refine h_op (r_move rfl) ?_
          refine h_op (r_nilR rfl rfl) ?_
          refine h_nil ?_
          refine q_then ?_
          refine h_condF rfl ?_
          refine h_skip ?_
          refine q_then ?_
          refine h_seq ?_
          refine h_reg ?_
          refine h_op (r_move rfl) ?_
          refine h_op (r_field rfl) ?_
          refine h_op (r_loadc rfl) ?_
          refine h_op (r_move rfl) ?_
          refine h_op (r_field rfl) ?_
          refine h_op (r_loadc rfl) ?_
          obtain ⟨v, hv⟩ : ∃ v, mverR n r rb l bb = v := ⟨_, rfl⟩
          refine h_call ((rCheck21_s n hn h l A c hz hvl (by omega) r b rb bb (by omega) v hv).comes) rfl rfl rfl fun ⟨z1, hz1⟩ => ?_
          dsimp only
          have hT1 : RdZ z1 (some ⟨1, 0, none⟩) hashT := hT.mono hz1
          have hE1 : RdZ z1 (some ⟨0, 0, none⟩) [rty 90] := hE.mono hz1
          have hC := mVerify_s n hn z1 gh gc l A c (hr := hr.mono hz1) (hz.mono hz1) hvl (by omega) 0 (by decide) r b rb bb (hRt := hR.mono hz1) (hB := hB.mono hz1) (by omega)
          rw [hv] at hC
          refine h_op (r_move rfl) ?_
          refine h_op (r_extract rfl rfl) ?_
          refine h_op (r_extract rfl rfl) ?_
          refine h_op (r_assign rfl) ?_
          refine h_op (r_assign rfl) ?_
          refine h_nil ?_
          refine q_then ?_
          refine h_seq ?_
          refine h_reg ?_
          refine h_op (r_move rfl) ?_
          refine h_op (r_field rfl) ?_
          refine h_op (r_loadc rfl) ?_
          refine h_op (r_move rfl) ?_
          refine h_op (r_field rfl) ?_
          refine h_op (r_loadc rfl) ?_
          refine h_call (hC.comes) rfl rfl rfl fun ⟨⟨g55, z2, k2⟩, hz2, hk2⟩ => ?_
          dsimp only at hz2 hk2 ⊢
          have hT2 : RdZ z2 (some ⟨1, 0, none⟩) hashT := hT1.mono hz2
          have hE2 : RdZ z2 (some ⟨0, 0, none⟩) [rty 90] := hE1.mono hz2
          rcases v with _ | ⟨j, e⟩
          · change H _ _ _ _ _ (.zone true z2 :: CN gc k2 :: _) _
            refine h_op (r_assign rfl) ?_
            refine h_nil ?_
            refine q_then ?_
            refine h_seq ?_
            refine h_seq ?_
            refine h_reg ?_
            refine h_op (r_move rfl) ?_
            refine h_op (r_bool (r_eql rfl rfl) rfl) ?_
            refine h_nil ?_
            refine q_then ?_
            refine h_condT rfl ?_
            refine h_seq ?_
            refine h_reg ?_
            refine h_call ((alive21_s z2).comes) rfl rfl rfl fun ⟨z3, hz3⟩ => ?_
            dsimp only
            refine h_op (r_move rfl) ?_
            refine h_op (r_move rfl) ?_
            refine h_op (r_nilnil rfl) ?_
            refine h_op (r_pick rfl rfl) ?_
            refine h_op (r_assign rfl) ?_
            refine h_nil ?_
            refine q_then ?_
            refine h_ret ?_
            refine q_thenR ?_
            exact h_ret1 rfl rfl fun w s => ⟨⟨z3, LeZ.trans (LeZ.trans hz1 hz2) hz3⟩, rfl, (same (L' := [.zone true z3]) w s).res (List.Sublist.refl _) (by simp [Fa.wr])⟩
          · have hne := mverR_nz hv
            change H _ _ _ _ _ (.zone true z2 :: CN gc k2 :: .blk g55 (fltC batchB (j : Int) e) _ :: _) _
            refine h_op (r_assign rfl) ?_
            refine h_nil ?_
            refine q_then ?_
            refine h_seq ?_
            refine h_seq ?_
            refine h_reg ?_
            refine h_op (r_move rfl) ?_
            refine h_op (r_bool (r_eql rfl rfl) (decide_eq_false hne)) ?_
            refine h_nil ?_
            refine q_then ?_
            refine h_condF rfl ?_
            refine h_skip ?_
            refine q_then ?_
            refine h_seq ?_
            refine h_reg ?_
            refine h_op (r_move rfl) ?_
            refine h_call ((First_s g55 batchB (j : Int) e).comes) rfl rfl rfl fun _ => ?_
            refine h_op (r_move rfl) ?_
            refine h_op (r_extract rfl rfl) ?_
            refine h_op (r_extract rfl rfl) ?_
            refine h_op (r_extract rfl rfl) ?_
            refine h_op (r_assign rfl) ?_
            refine h_op (r_assign rfl) ?_
            refine h_op (r_assign rfl) ?_
            refine h_nil ?_
            refine q_then ?_
            refine h_seq ?_
            refine h_reg ?_
            refine h_call ((alive21_s z2).comes) rfl rfl rfl fun ⟨z3, hz3⟩ => ?_
            dsimp only
            have hE3 : RdZ z3 (some ⟨0, 0, none⟩) [rty 90] := hE2.mono hz3
            refine h_op (r_move rfl) ?_
            refine h_op (r_move rfl) ?_
            refine h_call ((Code_s g55 batchB (j : Int) e).comes) rfl rfl rfl fun _ => ?_
            refine h_op (r_move rfl) ?_
            refine h_op (r_bool (r_eql rfl rfl) (decide_eq_true rfl)) ?_
            refine h_op (r_pick rfl rfl) ?_
            refine h_op (r_move rfl) ?_
            refine h_op (r_move rfl) ?_
            refine h_op (r_bool (r_eqS rfl rfl) (show (batchB.toList == batchB.toList) = true from beq_self_eq_true _)) ?_
            refine h_op (r_pick rfl rfl) ?_
            refine h_op (r_move rfl) ?_
            refine h_op (r_move rfl) ?_
            refine h_op (r_move rfl) ?_
            refine h_op (r_bool (r_eql rfl rfl) (decide_eq_true rfl)) ?_
            refine h_op (r_pick rfl rfl) ?_
            refine h_op (r_move rfl) ?_
            refine h_op (r_move rfl) ?_
            refine h_op (r_pick rfl rfl) ?_
            refine h_op (r_assign rfl) ?_
            refine h_nil ?_
            refine q_then ?_
            refine h_ret ?_
            exact h_ret1 rfl rfl fun w s => ⟨⟨z3, LeZ.trans (LeZ.trans hz1 hz2) hz3⟩, rfl, (same (L' := [.zone true z3]) w s).res (List.Sublist.refl _) (by simp [Fa.wr])⟩
        · refine h_op (r_not rfl) ?_
          refine h_op (r_pick rfl rfl) ?_
          refine h_op (r_move rfl) ?_
          refine h_op (r_field rfl) ?_
          refine h_op (r_loadc rfl) ?_
          refine h_op (r_len rfl) ?_
          refine h_op (r_bool (r_gtr rfl rfl) (decide_eq_false (by omega))) ?_
          refine h_op (r_pick rfl rfl) ?_
          refine h_op (r_move rfl) ?_
          refine h_op (r_field rfl) ?_
          refine h_op (r_loadc rfl) ?_
          refine h_op (r_len rfl) ?_
          refine h_op (r_bool (r_gtr rfl rfl) (decide_eq_true (by omega))) ?_
          refine h_op (r_pick rfl rfl) ?_
          refine h_nil ?_
          refine q_then ?_
          refine h_condT rfl ?_
          refine h_seq ?_
          refine h_reg ?_
          refine h_call ((alive21_s h).comes) rfl rfl rfl fun ⟨h1, hle1⟩ => ?_
          dsimp only
          refine h_op (r_assign rfl) ?_
          refine h_nil ?_
          refine q_then ?_
          refine h_ret ?_
          refine q_thenR ?_
          exact h_ret1 rfl rfl fun w s => ⟨⟨h1, hle1⟩, rfl, (same (L' := [.zone true h1]) w s).res (List.Sublist.refl _) (by simp [Fa.wr])⟩
      · refine h_op (r_not rfl) ?_
        refine h_op (r_pick rfl rfl) ?_
        refine h_op (r_move rfl) ?_
        refine h_op (r_field rfl) ?_
        refine h_op (r_loadc rfl) ?_
        refine h_op (r_len rfl) ?_
        refine h_op (r_bool (r_gtr rfl rfl) (decide_eq_true (by omega))) ?_
        refine h_op (r_pick rfl rfl) ?_
        refine h_op (r_move rfl) ?_
        refine h_opOff ?_
        refine h_opOff ?_
        refine h_opOff ?_
        refine h_opOff ?_
        refine h_op (r_pick rfl rfl) ?_
        refine h_nil ?_
        refine q_then ?_
        refine h_condT rfl ?_
        refine h_seq ?_
        refine h_reg ?_
        refine h_call ((alive21_s h).comes) rfl rfl rfl fun ⟨h1, hle1⟩ => ?_
        dsimp only
        refine h_op (r_assign rfl) ?_
        refine h_nil ?_
        refine q_then ?_
        refine h_ret ?_
        refine q_thenR ?_
        exact h_ret1 rfl rfl fun w s => ⟨⟨h1, hle1⟩, rfl, (same (L' := [.zone true h1]) w s).res (List.Sublist.refl _) (by simp [Fa.wr])⟩
    · rw [show fewC l = false by simpa using hf]
      refine h_op (r_not rfl) ?_
      refine h_op (r_pick rfl rfl) ?_
      refine h_op (r_move rfl) ?_
      refine h_opOff ?_
      refine h_opOff ?_
      refine h_opOff ?_
      refine h_opOff ?_
      refine h_op (r_pick rfl rfl) ?_
      refine h_op (r_move rfl) ?_
      refine h_opOff ?_
      refine h_opOff ?_
      refine h_opOff ?_
      refine h_opOff ?_
      refine h_op (r_pick rfl rfl) ?_
      refine h_nil ?_
      refine q_then ?_
      refine h_condT rfl ?_
      refine h_seq ?_
      refine h_reg ?_
      refine h_call ((alive21_s h).comes) rfl rfl rfl fun ⟨h1, hle1⟩ => ?_
      dsimp only
      refine h_op (r_assign rfl) ?_
      refine h_nil ?_
      refine q_then ?_
      refine h_ret ?_
      refine q_thenR ?_
      exact h_ret1 rfl rfl fun w s => ⟨⟨h1, hle1⟩, rfl, (same (L' := [.zone true h1]) w s).res (List.Sublist.refl _) (by simp [Fa.wr])⟩
  · refine h_call ((Right_no i hi).comes) rfl rfl rfl fun _ => ?_
    refine h_op (r_not rfl) ?_
    refine h_op (r_move rfl) ?_
    refine h_opOff ?_
    refine h_opOff ?_
    refine h_opOff ?_
    refine h_op (r_pick rfl rfl) ?_
    refine h_op (r_move rfl) ?_
    refine h_opOff ?_
    refine h_opOff ?_
    refine h_opOff ?_
    refine h_opOff ?_
    refine h_op (r_pick rfl rfl) ?_
    refine h_op (r_move rfl) ?_
    refine h_opOff ?_
    refine h_opOff ?_
    refine h_opOff ?_
    refine h_opOff ?_
    refine h_op (r_pick rfl rfl) ?_
    refine h_nil ?_
    refine q_then ?_
    refine h_condT rfl ?_
    refine h_seq ?_
    refine h_reg ?_
    refine h_call ((alive21_s h).comes) rfl rfl rfl fun ⟨h1, hle1⟩ => ?_
    dsimp only
    refine h_op (r_assign rfl) ?_
    refine h_nil ?_
    refine q_then ?_
    refine h_ret ?_
    refine q_thenR ?_
    exact h_ret1 rfl rfl fun w s => ⟨⟨h1, hle1⟩, rfl, (same (L' := [.zone true h1]) w s).res (List.Sublist.refl _) (by simp [Fa.wr])⟩
end
end Go.Proofs.YtjhocljhhpkiiaaGreatDoor
/- TF -/
namespace Go.Proofs.YtjhocljhhpkiiaaGreatDoor
set_option linter.unusedSimpArgs false
set_option linter.unusedVariables false
open Go.RowKit Go.ChangeShapes Go.WideShapes
theorem sf_maps : mapsRowed Tryz.prog = true := by kernel_rfl
theorem sf_enter : Tryz.prog.mayEnter = true := by kernel_rfl
theorem sf_keys : Tryz.prog.plainKeys = true := by kernel_rfl
theorem sf_heard : Tryz.prog.stopsHeard = true := by kernel_rfl
theorem sf_lifts : Tryz.prog.liftsFinal = false := by kernel_rfl
theorem sf_looks : Tryz.prog.looks [] = true := by kernel_rfl
theorem beqT {a b c : Bool} (ha : a = c) (hb : b = c) : (a == b) = true := by rw [ha, hb]; exact beq_self_eq_true c
theorem andT {a b : Bool} (ha : a = true) (hb : b = true) : (a && b) = true := by rw [ha, hb]; rfl
end Go.Proofs.YtjhocljhhpkiiaaGreatDoor
/- U131 -/
namespace Go.Proofs.YtjhocljhhpkiiaaGreatDoor
set_option linter.unusedSimpArgs false
set_option linter.unusedVariables false
open Go.RowKit
instance iU131_1 : TBool Tryz.prog 4 := ⟨Tryz.underlying4⟩
structure RtI where
  root : B32
  s : Sl
def RtI.cells (x : RtI) : List Value := x.root.cells ++ ([.slice x.s.A x.s.n x.s.c] ++ [])
theorem RtI.cells_length (x : RtI) : x.cells.length = 33 := by simp [RtI.cells, B32.cells_length]
theorem RtI.cells_one (x : RtI) : ∀ v ∈ x.cells, v.oneCell' = true := by
  intro v hv
  simp only [RtI.cells, List.mem_append, List.mem_singleton, List.not_mem_nil, or_false] at hv
  rcases hv with h | h
  · exact B32.cells_one _ v h
  · subst h; rfl
instance iRtI1 (x : RtI) : Row x.cells 33 := ⟨RtI.cells_length x, RtI.cells_one x⟩
instance iRtI2 (x : RtI) : RowAt x.cells 0 33 x.cells := .whole (RtI.cells_length x)
instance iRtI3 (x : RtI) : RowAt x.cells 0 32 x.root.cells := .mk' (pre := []) (post := [.slice x.s.A x.s.n x.s.c]) (by simp [RtI.cells]) rfl (B32.cells_length _)
instance iRtI4 (x : RtI) : CellAt x.cells 32 (.slice x.s.A x.s.n x.s.c) := .mk' (pre := x.root.cells) (post := []) (by simp [RtI.cells]) (by simp [B32.cells_length])
section
variable (h : Zh) [hT : RdZ h (some ⟨1, 0, none⟩) hashT] [hE : RdZ h (some ⟨0, 0, none⟩) [rty 90]] (l : List CB) (A : Option Addr) (c : Nat) [hr : RdZ h A (cbs l)] (hz : ClsZ h l)
include hz
theorem MverifyAccepts_s (i : Int) (root : B32) (its0 : List Item) (I : Option Addr) (ic : Nat) [hI : RdZ h I (its its0)] (hic : its0.length ≤ ic) : Spec Tryz.prog 10 [.int .i64 i, .slice A l.length c, .agg (RtI.cells ⟨root, ⟨I, its0.length, ic⟩⟩).toArray].toArray [] [.zone true h] (fun _ : {x : Zh // LeZ h x} => .bool true) (fun x => [.zone true x.1]) := by
  have hF := Few19_s its0 I ic
  refine spec_of Tryz.func10 rfl (n := 69) rfl rfl ?_
  intro W
  refine h_seq ?_
  refine h_reg ?_
  refine h_opX (x_box rfl) fun g5 => ?_
  refine h_op (r_assign rfl) ?_
  refine h_nil ?_
  refine q_then ?_
  refine h_seq ?_
  refine h_seq ?_
  refine h_reg ?_
  refine h_op (r_move rfl) ?_
  by_cases hi : 0 ≤ i ∧ i ≤ 256
  · obtain ⟨n, rfl⟩ : ∃ n : Nat, i = (n : Int) := ⟨i.toNat, by omega⟩
    have hn : n ≤ 256 := by omega
    refine h_call ((Right_yes n hn).comes) rfl rfl rfl fun _ => ?_
    refine h_op (r_not rfl) ?_
    refine h_op (r_move rfl) ?_
    refine h_op (r_move rfl) ?_
    refine h_call ((few21_s h l A c).comes) rfl rfl rfl fun _ => ?_
    by_cases hf : fewC l = true
    · obtain ⟨hll, hvl⟩ := fewC_ok hz hf
      rw [hf]
      by_cases hil : its0.length ≤ 1200
      · rw [if_pos hil] at hF
        refine h_op (r_not rfl) ?_
        refine h_op (r_pick rfl rfl) ?_
        refine h_op (r_move rfl) ?_
        refine h_op (r_field rfl) ?_
        refine h_op (r_loadc rfl) ?_
        refine h_call (hF.comes) rfl rfl rfl fun _ => ?_
        refine h_op (r_bool (r_eql rfl rfl) rfl) ?_
        refine h_op (r_pick rfl rfl) ?_
        refine h_nil ?_
        refine q_then ?_
        refine h_condF rfl ?_
        refine h_skip ?_
        refine q_then ?_
        refine h_seq ?_
        refine h_reg ?_
        refine h_op (r_move rfl) ?_
        refine h_call ((Hash_s n hn).comes) rfl rfl rfl fun ⟨gh, gc⟩ => ?_
        dsimp only
        refine h_op (r_assign rfl) ?_
        refine h_nil ?_
        refine q_then ?_
        refine h_seq ?_
        refine h_seq ?_
        refine h_reg ?_
        refine h_op (r_move rfl) ?_
        refine h_op (r_nilR rfl rfl) ?_
        refine h_nil ?_
        refine q_then ?_
        refine h_condF rfl ?_
        refine h_skip ?_
        refine q_then ?_
        refine h_seq ?_
        refine h_reg ?_
        refine h_op (r_assign rfl) ?_
        refine h_nil ?_
        refine q_then ?_
        refine h_seq ?_
        refine h_seq ?_
        refine h_reg ?_
        refine h_op (r_move rfl) ?_
        obtain ⟨v, hv⟩ : ∃ v, claimsR l = v := ⟨_, rfl⟩
        have hRc := rClaims21_s h l A c (by omega) hz v hv
        refine h_call (hRc.comes) rfl rfl rfl fun _ => ?_
        rcases v with _ | ⟨j, e⟩
        · refine h_op (r_move rfl) ?_
          refine h_op (r_extract rfl rfl) ?_
          refine h_op (r_extract rfl rfl) ?_
          refine h_op (r_assign rfl) ?_
          refine h_op (r_assign rfl) ?_
          refine h_nil ?_
          refine q_then ?_
          refine h_seq ?_
          refine h_reg ?_
          refine h_op (r_move rfl) ?_
          refine h_op (r_bool (r_eql rfl rfl) rfl) ?_
          refine h_op (r_move rfl) ?_
          refine h_op (r_field rfl) ?_
          refine h_op (r_loadc rfl) ?_
          refine h_call ((rCheck19_s its0 I ic (by omega)).comes) rfl rfl rfl fun _ => ?_
          rcases hp : parseM its0 with e | t
          · have hne := parse_err hp
            have ha : accM n root l its0 = false := by unfold accM; rw [hp]; exact Bool.and_false _
            rw [checkM_bad hp]
            refine h_op (r_bool (r_eql rfl rfl) (decide_eq_false hne)) ?_
            refine h_op (r_pick rfl rfl) ?_
            refine h_nil ?_
            refine q_then ?_
            refine h_condF rfl ?_
            refine h_skip ?_
            refine q_then ?_
            refine h_seq ?_
            refine h_reg ?_
            refine h_call ((alive21_s h).comes) rfl rfl rfl fun ⟨z3, hz3⟩ => ?_
            dsimp only
            have hT3 : RdZ z3 (some ⟨1, 0, none⟩) hashT := hT.mono hz3
            have hA3 := mvAccepts_s n hn z3 gh gc l A c (hr := hr.mono hz3) (hz.mono hz3) hvl (by omega) 0 (by decide) root its0 I ic (hI := hI.mono hz3) hic (by omega)
            rw [ha] at hA3
            refine h_op (r_move rfl) ?_
            refine h_op (r_move rfl) ?_
            refine h_op (r_field rfl) ?_
            refine h_op (r_loadr rfl) ?_
            refine h_op (r_move rfl) ?_
            refine h_op (r_field rfl) ?_
            refine h_op (r_loadc rfl) ?_
            refine h_call (hA3.comes) rfl rfl rfl fun ⟨⟨z4, k4⟩, hz4, hk4⟩ => ?_
            dsimp only at hz4 ⊢
            refine h_op (r_move rfl) ?_
            refine h_op (r_bool (r_eqb rfl rfl) (show _ = true from rfl)) ?_
            refine h_op (r_pick rfl rfl) ?_
            refine h_op (r_assign rfl) ?_
            refine h_nil ?_
            refine q_then ?_
            refine h_ret ?_
            exact h_ret1 rfl rfl fun w s => ⟨⟨z4, LeZ.trans hz3 hz4⟩, rfl, (same (L' := [.zone true z4]) w s).res (List.Sublist.refl _) (by simp [Fa.wr])⟩
          · have hL := rLast21_s n hn h l A c hz hvl root hv its0 I ic (by omega) t hp _ rfl
            have ha : accM n root l its0 = decide (showR n root l t = none) := by unfold accM; rw [hp, decide_eq_true hv]; exact Bool.true_and _
            obtain ⟨v, hvv⟩ : ∃ v, showR n root l t = v := ⟨_, rfl⟩
            rw [hvv] at ha hL
            rw [checkM_ok hp]
            refine h_op (r_bool (r_eql rfl rfl) (decide_eq_true rfl)) ?_
            refine h_op (r_pick rfl rfl) ?_
            refine h_nil ?_
            refine q_then ?_
            refine h_condT rfl ?_
            refine h_seq ?_
            refine h_reg ?_
            refine h_op (r_move rfl) ?_
            refine h_op (r_field rfl) ?_
            refine h_op (r_loadr rfl) ?_
            refine h_op (r_move rfl) ?_
            refine h_op (r_field rfl) ?_
            refine h_op (r_loadc rfl) ?_
            refine h_call (hL.comes) rfl rfl rfl fun _ => ?_
            rcases v with _ | ⟨j, e⟩
            · rw [show decide ((none : Option (Nat × Int)) = none) = true from rfl] at ha
              refine h_op (r_move rfl) ?_
              refine h_op (r_extract rfl rfl) ?_
              refine h_op (r_extract rfl rfl) ?_
              refine h_op (r_assign rfl) ?_
              refine h_op (r_assign rfl) ?_
              refine h_nil ?_
              refine q_then ?_
              refine h_reg ?_
              refine h_op (r_move rfl) ?_
              refine h_op (r_bool (r_eql rfl rfl) rfl) ?_
              refine h_op (r_assign rfl) ?_
              refine h_nil ?_
              refine q_then ?_
              refine h_seq ?_
              refine h_reg ?_
              refine h_call ((alive21_s h).comes) rfl rfl rfl fun ⟨z3, hz3⟩ => ?_
              dsimp only
              have hT3 : RdZ z3 (some ⟨1, 0, none⟩) hashT := hT.mono hz3
              have hA3 := mvAccepts_s n hn z3 gh gc l A c (hr := hr.mono hz3) (hz.mono hz3) hvl (by omega) 0 (by decide) root its0 I ic (hI := hI.mono hz3) hic (by omega)
              rw [ha] at hA3
              refine h_op (r_move rfl) ?_
              refine h_op (r_move rfl) ?_
              refine h_op (r_field rfl) ?_
              refine h_op (r_loadr rfl) ?_
              refine h_op (r_move rfl) ?_
              refine h_op (r_field rfl) ?_
              refine h_op (r_loadc rfl) ?_
              refine h_call (hA3.comes) rfl rfl rfl fun ⟨⟨z4, k4⟩, hz4, hk4⟩ => ?_
              dsimp only at hz4 ⊢
              refine h_op (r_move rfl) ?_
              refine h_op (r_bool (r_eqb rfl rfl) (show _ = true from rfl)) ?_
              refine h_op (r_pick rfl rfl) ?_
              refine h_op (r_assign rfl) ?_
              refine h_nil ?_
              refine q_then ?_
              refine h_ret ?_
              exact h_ret1 rfl rfl fun w s => ⟨⟨z4, LeZ.trans hz3 hz4⟩, rfl, (same (L' := [.zone true z4]) w s).res (List.Sublist.refl _) (by simp [Fa.wr])⟩
            · have hne := showR_nz hvv
              rw [show decide ((some (j, e) : Option (Nat × Int)) = none) = false from rfl] at ha
              refine h_op (r_move rfl) ?_
              refine h_op (r_extract rfl rfl) ?_
              refine h_op (r_extract rfl rfl) ?_
              refine h_op (r_assign rfl) ?_
              refine h_op (r_assign rfl) ?_
              refine h_nil ?_
              refine q_then ?_
              refine h_reg ?_
              refine h_op (r_move rfl) ?_
              refine h_op (r_bool (r_eql rfl rfl) (decide_eq_false hne)) ?_
              refine h_op (r_assign rfl) ?_
              refine h_nil ?_
              refine q_then ?_
              refine h_seq ?_
              refine h_reg ?_
              refine h_call ((alive21_s h).comes) rfl rfl rfl fun ⟨z3, hz3⟩ => ?_
              dsimp only
              have hT3 : RdZ z3 (some ⟨1, 0, none⟩) hashT := hT.mono hz3
              have hA3 := mvAccepts_s n hn z3 gh gc l A c (hr := hr.mono hz3) (hz.mono hz3) hvl (by omega) 0 (by decide) root its0 I ic (hI := hI.mono hz3) hic (by omega)
              rw [ha] at hA3
              refine h_op (r_move rfl) ?_
              refine h_op (r_move rfl) ?_
              refine h_op (r_field rfl) ?_
              refine h_op (r_loadr rfl) ?_
              refine h_op (r_move rfl) ?_
              refine h_op (r_field rfl) ?_
              refine h_op (r_loadc rfl) ?_
              refine h_call (hA3.comes) rfl rfl rfl fun ⟨⟨z4, k4⟩, hz4, hk4⟩ => ?_
              dsimp only at hz4 ⊢
              refine h_op (r_move rfl) ?_
              refine h_op (r_bool (r_eqb rfl rfl) (show _ = true from rfl)) ?_
              refine h_op (r_pick rfl rfl) ?_
              refine h_op (r_assign rfl) ?_
              refine h_nil ?_
              refine q_then ?_
              refine h_ret ?_
              exact h_ret1 rfl rfl fun w s => ⟨⟨z4, LeZ.trans hz3 hz4⟩, rfl, (same (L' := [.zone true z4]) w s).res (List.Sublist.refl _) (by simp [Fa.wr])⟩
        · have hne := claimsR_nz hv
          have ha : accM n root l its0 = false := by unfold accM; rw [hv, decide_eq_false (by simp)]; rfl
          refine h_op (r_move rfl) ?_
          refine h_op (r_extract rfl rfl) ?_
          refine h_op (r_extract rfl rfl) ?_
          refine h_op (r_assign rfl) ?_
          refine h_op (r_assign rfl) ?_
          refine h_nil ?_
          refine q_then ?_
          refine h_seq ?_
          refine h_reg ?_
          refine h_op (r_move rfl) ?_
          refine h_op (r_bool (r_eql rfl rfl) (decide_eq_false hne)) ?_
          refine h_op (r_move rfl) ?_
          refine h_opOff ?_
          refine h_opOff ?_
          refine h_opOff ?_
          refine h_opOff ?_
          refine h_op (r_pick rfl rfl) ?_
          refine h_nil ?_
          refine q_then ?_
          refine h_condF rfl ?_
          refine h_skip ?_
          refine q_then ?_
          refine h_seq ?_
          refine h_reg ?_
          refine h_call ((alive21_s h).comes) rfl rfl rfl fun ⟨z3, hz3⟩ => ?_
          dsimp only
          have hT3 : RdZ z3 (some ⟨1, 0, none⟩) hashT := hT.mono hz3
          have hA3 := mvAccepts_s n hn z3 gh gc l A c (hr := hr.mono hz3) (hz.mono hz3) hvl (by omega) 0 (by decide) root its0 I ic (hI := hI.mono hz3) hic (by omega)
          rw [ha] at hA3
          refine h_op (r_move rfl) ?_
          refine h_op (r_move rfl) ?_
          refine h_op (r_field rfl) ?_
          refine h_op (r_loadr rfl) ?_
          refine h_op (r_move rfl) ?_
          refine h_op (r_field rfl) ?_
          refine h_op (r_loadc rfl) ?_
          refine h_call (hA3.comes) rfl rfl rfl fun ⟨⟨z4, k4⟩, hz4, hk4⟩ => ?_
          dsimp only at hz4 ⊢
          refine h_op (r_move rfl) ?_
          refine h_op (r_bool (r_eqb rfl rfl) (show _ = true from rfl)) ?_
          refine h_op (r_pick rfl rfl) ?_
          refine h_op (r_assign rfl) ?_
          refine h_nil ?_
          refine q_then ?_
          refine h_ret ?_
          exact h_ret1 rfl rfl fun w s => ⟨⟨z4, LeZ.trans hz3 hz4⟩, rfl, (same (L' := [.zone true z4]) w s).res (List.Sublist.refl _) (by simp [Fa.wr])⟩
      · rw [if_neg hil] at hF
        refine h_op (r_not rfl) ?_
        refine h_op (r_pick rfl rfl) ?_
        refine h_op (r_move rfl) ?_
        refine h_op (r_field rfl) ?_
        refine h_op (r_loadc rfl) ?_
        refine h_call (hF.comes) rfl rfl rfl fun _ => ?_
        refine h_op (r_bool (r_eql rfl rfl) rfl) ?_
        refine h_op (r_pick rfl rfl) ?_
        refine h_nil ?_
        refine q_then ?_
        refine h_condT rfl ?_
        refine h_seq ?_
        refine h_reg ?_
        refine h_call ((alive21_s h).comes) rfl rfl rfl fun ⟨h1, hle1⟩ => ?_
        dsimp only
        refine h_op (r_assign rfl) ?_
        refine h_nil ?_
        refine q_then ?_
        refine h_ret ?_
        refine q_thenR ?_
        exact h_ret1 rfl rfl fun w s => ⟨⟨h1, hle1⟩, rfl, (same (L' := [.zone true h1]) w s).res (List.Sublist.refl _) (by simp [Fa.wr])⟩
    · rw [show fewC l = false by simpa using hf]
      refine h_op (r_not rfl) ?_
      refine h_op (r_pick rfl rfl) ?_
      refine h_op (r_move rfl) ?_
      refine h_opOff ?_
      refine h_opOff ?_
      refine h_opOff ?_
      refine h_opOff ?_
      refine h_op (r_pick rfl rfl) ?_
      refine h_nil ?_
      refine q_then ?_
      refine h_condT rfl ?_
      refine h_seq ?_
      refine h_reg ?_
      refine h_call ((alive21_s h).comes) rfl rfl rfl fun ⟨h1, hle1⟩ => ?_
      dsimp only
      refine h_op (r_assign rfl) ?_
      refine h_nil ?_
      refine q_then ?_
      refine h_ret ?_
      refine q_thenR ?_
      exact h_ret1 rfl rfl fun w s => ⟨⟨h1, hle1⟩, rfl, (same (L' := [.zone true h1]) w s).res (List.Sublist.refl _) (by simp [Fa.wr])⟩
  · refine h_call ((Right_no i hi).comes) rfl rfl rfl fun _ => ?_
    refine h_op (r_not rfl) ?_
    refine h_op (r_move rfl) ?_
    refine h_opOff ?_
    refine h_opOff ?_
    refine h_opOff ?_
    refine h_op (r_pick rfl rfl) ?_
    refine h_op (r_move rfl) ?_
    refine h_opOff ?_
    refine h_opOff ?_
    refine h_opOff ?_
    refine h_opOff ?_
    refine h_op (r_pick rfl rfl) ?_
    refine h_nil ?_
    refine q_then ?_
    refine h_condT rfl ?_
    refine h_seq ?_
    refine h_reg ?_
    refine h_call ((alive21_s h).comes) rfl rfl rfl fun ⟨h1, hle1⟩ => ?_
    dsimp only
    refine h_op (r_assign rfl) ?_
    refine h_nil ?_
    refine q_then ?_
    refine h_ret ?_
    refine q_thenR ?_
    exact h_ret1 rfl rfl fun w s => ⟨⟨h1, hle1⟩, rfl, (same (L' := [.zone true h1]) w s).res (List.Sublist.refl _) (by simp [Fa.wr])⟩
end
end Go.Proofs.YtjhocljhhpkiiaaGreatDoor
/- U130 -/
namespace Go.Proofs.YtjhocljhhpkiiaaGreatDoor
set_option linter.unusedSimpArgs false
set_option linter.unusedVariables false
open Go.RowKit
section
variable (h : Zh) [hT : RdZ h (some ⟨1, 0, none⟩) hashT] [hE : RdZ h (some ⟨0, 0, none⟩) [rty 90]] (l : List CB) (A : Option Addr) (c : Nat) [hr : RdZ h A (cbs l)] (hz : ClsZ h l)
include hz
theorem MverifyClaims_s : Spec Tryz.prog 12 [.slice A l.length c].toArray [] [.zone true h] (fun _ : {x : Zh // LeZ h x} => .bool true) (fun x => [.zone true x.1]) := by
  refine spec_of Tryz.func12 rfl (n := 67) rfl rfl ?_
  intro W
  refine h_seq ?_
  refine h_reg ?_
  refine h_op (r_assign rfl) ?_
  refine h_nil ?_
  refine q_then ?_
  refine h_seq ?_
  refine h_seq ?_
  refine h_reg ?_
  refine h_op (r_move rfl) ?_
  refine h_call ((few21_s h l A c).comes) rfl rfl rfl fun _ => ?_
  by_cases hf : fewC l = true
  · obtain ⟨hll, hvl⟩ := fewC_ok hz hf
    rw [hf]
    obtain ⟨v, hv⟩ : ∃ v, claimsR l = v := ⟨_, rfl⟩
    have hC := mClaims_s h l A c (by omega) hz v hv
    have hRc := rClaims21_s h l A c (by omega) hz v hv
    refine h_op (r_not rfl) ?_
    refine h_nil ?_
    refine q_then ?_
    refine h_condF rfl ?_
    refine h_skip ?_
    refine q_then ?_
    refine h_seq ?_
    refine h_reg ?_
    refine h_op (r_move rfl) ?_
    rcases v with _ | ⟨j, e⟩
    · have hKs := rKeys21_s h l A c (by omega) hz (keysC_mem32 hv hz)
      have hEq := fun B B' c' => EqualK_yes (keysC l) B B' l.length c' (by rw [keysC_len]; omega)
      rw [keysC_len] at hEq
      replace hC : Spec Tryz.prog 56 [.slice A l.length c].toArray [.zone false h] [] (fun g : Nat => .tuple #[.slice (some ⟨g, 0, none⟩) l.length l.length, .nilIface]) (fun g => [.own (.slice (some ⟨g, 0, none⟩) l.length l.length) l.length 35 32 (dgs (keysC l))]) := hC
      refine h_call (hC.comes) rfl rfl rfl fun g16 => ?_
      refine h_op (r_move rfl) ?_
      refine h_op (r_extract rfl rfl) ?_
      refine h_op (r_extract rfl rfl) ?_
      refine h_op (r_assign rfl) ?_
      refine h_op (r_assign rfl) ?_
      refine h_nil ?_
      refine q_then ?_
      refine h_seq ?_
      refine h_reg ?_
      refine h_op (r_move rfl) ?_
      refine h_call (hRc.comes) rfl rfl rfl fun _ => ?_
      refine h_op (r_move rfl) ?_
      refine h_op (r_extract rfl rfl) ?_
      refine h_op (r_extract rfl rfl) ?_
      refine h_op (r_assign rfl) ?_
      refine h_op (r_assign rfl) ?_
      refine h_nil ?_
      refine q_then ?_
      refine h_seq ?_
      refine h_seq ?_
      refine h_reg ?_
      refine h_op (r_move rfl) ?_
      refine h_op (r_bool (r_eql rfl rfl) rfl) ?_
      refine h_nil ?_
      refine q_then ?_
      refine h_condT rfl ?_
      refine h_seq ?_
      refine h_reg ?_
      refine h_call ((alive21_s h).comes) rfl rfl rfl fun ⟨z3, hz3⟩ => ?_
      dsimp only
      have hr3 : RdZ z3 A (cbs l) := hr.mono hz3
      refine h_op (r_move rfl) ?_
      refine h_op (r_move rfl) ?_
      refine h_op (r_nilnil rfl) ?_
      refine h_op (r_pick rfl rfl) ?_
      refine h_op (r_move rfl) ?_
      refine h_op (r_move rfl) ?_
      refine h_op (r_move rfl) ?_
      refine h_call ((rKeys21_s z3 l A c (by omega) (hz.mono hz3) (keysC_mem32 hv hz)).comes) rfl rfl rfl fun ⟨A34, c34⟩ => ?_
      dsimp only
      refine h_call ((hEq (some ⟨g16, 0, none⟩) A34 c34).comes) rfl rfl rfl fun _ => ?_
      refine h_op (r_pick rfl rfl) ?_
      refine h_op (r_assign rfl) ?_
      refine h_nil ?_
      refine q_then ?_
      refine h_ret ?_
      refine q_thenR ?_
      exact h_ret1 rfl rfl fun w s => ⟨⟨z3, hz3⟩, rfl, (same (L' := [.zone true z3]) w s).res (List.Sublist.refl _) (by simp [Fa.wr])⟩
    · have hne := claimsR_nz hv
      replace hC : Spec Tryz.prog 56 [.slice A l.length c].toArray [.zone false h] [] (fun g : Nat => .tuple #[.slice none 0 0, .iface 174 (.pointer (some ⟨g, 0, none⟩))]) (fun g => [.blk g (fltC batchB (j : Int) e) 178]) := hC
      refine h_call (hC.comes) rfl rfl rfl fun g16 => ?_
      refine h_op (r_move rfl) ?_
      refine h_op (r_extract rfl rfl) ?_
      refine h_op (r_extract rfl rfl) ?_
      refine h_op (r_assign rfl) ?_
      refine h_op (r_assign rfl) ?_
      refine h_nil ?_
      refine q_then ?_
      refine h_seq ?_
      refine h_reg ?_
      refine h_op (r_move rfl) ?_
      refine h_call (hRc.comes) rfl rfl rfl fun _ => ?_
      refine h_op (r_move rfl) ?_
      refine h_op (r_extract rfl rfl) ?_
      refine h_op (r_extract rfl rfl) ?_
      refine h_op (r_assign rfl) ?_
      refine h_op (r_assign rfl) ?_
      refine h_nil ?_
      refine q_then ?_
      refine h_seq ?_
      refine h_seq ?_
      refine h_reg ?_
      refine h_op (r_move rfl) ?_
      refine h_op (r_bool (r_eql rfl rfl) (decide_eq_false hne)) ?_
      refine h_nil ?_
      refine q_then ?_
      refine h_condF rfl ?_
      refine h_skip ?_
      refine q_then ?_
      refine h_seq ?_
      refine h_reg ?_
      refine h_op (r_move rfl) ?_
      refine h_call ((First_s g16 batchB (j : Int) e).comes) rfl rfl rfl fun _ => ?_
      refine h_op (r_move rfl) ?_
      refine h_op (r_extract rfl rfl) ?_
      refine h_op (r_extract rfl rfl) ?_
      refine h_op (r_extract rfl rfl) ?_
      refine h_op (r_assign rfl) ?_
      refine h_op (r_assign rfl) ?_
      refine h_op (r_assign rfl) ?_
      refine h_nil ?_
      refine q_then ?_
      refine h_seq ?_
      refine h_reg ?_
      refine h_call ((alive21_s h).comes) rfl rfl rfl fun ⟨z3, hz3⟩ => ?_
      dsimp only
      have hE3 : RdZ z3 (some ⟨0, 0, none⟩) [rty 90] := hE.mono hz3
      refine h_op (r_move rfl) ?_
      refine h_op (r_move rfl) ?_
      refine h_op (r_len rfl) ?_
      refine h_op (r_bool (r_eql rfl rfl) rfl) ?_
      refine h_op (r_pick rfl rfl) ?_
      refine h_op (r_move rfl) ?_
      refine h_op (r_move rfl) ?_
      refine h_call ((Code_s g16 batchB (j : Int) e).comes) rfl rfl rfl fun _ => ?_
      refine h_op (r_move rfl) ?_
      refine h_op (r_bool (r_eql rfl rfl) (decide_eq_true rfl)) ?_
      refine h_op (r_pick rfl rfl) ?_
      refine h_op (r_move rfl) ?_
      refine h_op (r_move rfl) ?_
      refine h_op (r_bool (r_eqS rfl rfl) (show (batchB.toList == batchB.toList) = true from beq_self_eq_true _)) ?_
      refine h_op (r_pick rfl rfl) ?_
      refine h_op (r_move rfl) ?_
      refine h_op (r_move rfl) ?_
      refine h_op (r_move rfl) ?_
      refine h_op (r_bool (r_eql rfl rfl) (decide_eq_true rfl)) ?_
      refine h_op (r_pick rfl rfl) ?_
      refine h_op (r_move rfl) ?_
      refine h_op (r_move rfl) ?_
      refine h_op (r_pick rfl rfl) ?_
      refine h_op (r_assign rfl) ?_
      refine h_nil ?_
      refine q_then ?_
      refine h_ret ?_
      exact h_ret1 rfl rfl fun w s => ⟨⟨z3, hz3⟩, rfl, (same (L' := [.zone true z3]) w s).res (List.Sublist.refl _) (by simp [Fa.wr])⟩
  · rw [show fewC l = false by simpa using hf]
    refine h_op (r_not rfl) ?_
    refine h_nil ?_
    refine q_then ?_
    refine h_condT rfl ?_
    refine h_seq ?_
    refine h_reg ?_
    refine h_call ((alive21_s h).comes) rfl rfl rfl fun ⟨h1, hle1⟩ => ?_
    dsimp only
    refine h_op (r_assign rfl) ?_
    refine h_nil ?_
    refine q_then ?_
    refine h_ret ?_
    refine q_thenR ?_
    exact h_ret1 rfl rfl fun w s => ⟨⟨h1, hle1⟩, rfl, (same (L' := [.zone true h1]) w s).res (List.Sublist.refl _) (by simp [Fa.wr])⟩
end
end Go.Proofs.YtjhocljhhpkiiaaGreatDoor
