/- The reference's updates applied; few updates, few operations; entries alike; fault.Ops; law13.wrong; The example of chapter 18: plain; law18.alive: it is true; The hasher's count, read; law18: VerifyChecks, VerifyExplains, VerifyClaims are true; law13: one operation, on the tree and on the map; Functions that are handed a loop's yield; rows of one's own whose number is not known, frozen; walk.leaves, each, Entries on a tree; walk.Entries; node.Len, Root, Clone and the rest of a Tree; tree: Node, Len, Root, Clone, Hasher, Entries; nil Trees; law13.Differs (joined texts: U177 U164 E24 U100 U10c U101 U178 N26 U165 U166 U167) -/
import Derived.Test.YtjhlbbgikccclaaGreatDoorR12
set_option linter.all false
/- U177 -/
namespace Go.Proofs.YtjhlbbgikccclaaGreatDoor
open Go.RowKit
theorem applyU_take {m : List En} {l : List CB} {i : Nat} (h : i < l.length) : applyU m (l.take (i + 1)) = stepU (applyU m (l.take i)) (l.getD i zCB) := by
 unfold applyU
 rw [take_snocE (getD_get zCB h), List.foldl_append]
 rfl
theorem rApplyU_s (h : Zh) (l : List CB) (A : Option Addr) (c : Nat) [hr : RdZ h A (cbs l)] (hz : ClsZ h l) (hkl : ∀ x ∈ l, x.kb.length = 32) (m : List En) (B : Option Addr) (cB : Nat) [hm : RdZ h B (ents m)] (hcB : m.length ≤ cB) (hl : m.length + l.length ≤ 1000000) :
  Spec Tryz.prog 83 [.slice B m.length cB, .slice A l.length c].toArray [] [.zone true h] (fun u : {u : Zh × Option Addr × Nat // LeZ h u.1 ∧ RdZ u.1 u.2.1 (ents (applyU m l)) ∧ (applyU m l).length ≤ u.2.2} => .slice u.1.2.1 (applyU m l).length u.1.2.2) (fun u => [.zone true u.1.1]) := by
 have h00 : applyU m (l.take 0) = m := rfl
 refine spec_of Tryz.func83 rfl (n := 36) rfl rfl ?_
 intro W
 refine yR ?_
 refine yS rfl ?_
 refine yN ?_
 refine h_seq ?_
 refine yR ?_
 refine yS rfl ?_
 refine yN ?_
 refine h_block ?_
 refine h_loop (fun (s : Nat × Zh × Option Addr × Nat) => s.1 ≤ l.length ∧ LeZ h s.2.1 ∧ RdZ s.2.1 s.2.2.1 (ents (applyU m (l.take s.1))) ∧ (applyU m (l.take s.1)).length ≤ s.2.2.2) (fun (s : Nat × Zh × Option Addr × Nat) => [(5, .int .i64 (s.1 : Int)), (1, .slice A l.length c), (0, .slice s.2.2.1 (applyU m (l.take s.1)).length s.2.2.2)]) (fun (s : Nat × Zh × Option Addr × Nat) => [.zone true s.2.1]) (fun (s : Nat × Zh × Option Addr × Nat) => l.length - s.1) (0, h, B, cB) (⟨Nat.zero_le _, LeZ.refl h, hm, hcB⟩) ⟨rfl, rfl, rfl, trivial⟩ (same (L' := [.zone true h])) ?_
 rintro ⟨i, z, B2, c2⟩ ⟨hi, hle, hrd, hcap⟩
 dsimp only at hi hle hrd hcap ⊢
 refine h_seq ?_
 refine yR ?_
 refine yM rfl ?_
 refine yM rfl ?_
 refine h_op (r_len rfl) ?_
 refine h_op (r_lss rfl rfl) ?_
 refine yN ?_
 refine h_cond rfl (fun hlt => ?_) (fun hlt => ?_)
 ·have hi2 : i < l.length := by omega
  have hx := getD_get zCB hi2
  have hrz : RdZ z A (cbs l) := hr.mono hle
  have hlen : (applyU m (l.take i)).length ≤ 1000000 := by
   have := applyU_len (l.take i) m
   rw [List.length_take] at this
   omega
  have hst := applyU_take (m := m) hi2
  rw [show stepU (applyU m (l.take i)) (l.getD i zCB) = if (l.getD i zCB).c.present then remK (applyU m (l.take i)) (keyOf (l.getD i zCB).kb) else putM (applyU m (l.take i)) (enU (l.getD i zCB)) from rfl] at hst
  obtain ⟨b, o, rfl, -⟩ := hrz.at_ (i * 3) _ (cbs_at hx 0 _ rfl)
  have hzx := hz.get hi2
  have hkx := hkl (l.getD i zCB) (List.mem_of_getElem? hx)
  generalize l.getD i zCB = x at *
  have hzk : SlZ z x.c.key x.kb := hzx.1.mono hle
  have hkn := hzk.len
  have hrk : RdZ z x.c.key.A (bc x.kb) := hzk.rd
  have hOf := rOf_s x.kb x.c.key.A x.c.key.c hkx
  rw [← hkn] at hOf
  generalize applyU m (l.take i) = mi at *
  refine h_skip ?_
  refine q_then ?_
  refine h_seq ?_
  refine h_block ?_
  refine yR ?_
  refine yM rfl ?_
  refine yM rfl ?_
  refine h_op (r_idx rfl rfl) ?_
  refine h_op (r_field rfl (O' := o + (i * 3 + 0)) (by omega)) ?_
  refine h_op (r_nth rfl (cbs_at hx 0 _ rfl)) ?_
  refine h_call (hOf.comes) rfl rfl rfl fun _ => ?_
  refine h_opX (x_alloc) fun g6 => ?_
  refine h_opS (s_storer rfl rfl) ?_
  refine yN ?_
  refine yR ?_
  refine yM rfl ?_
  refine yM rfl ?_
  refine h_op (r_idx rfl rfl) ?_
  refine h_op (r_field rfl (O' := o + (i * 3 + 2)) (by omega)) ?_
  refine h_op (r_nth rfl (cbs_at hx 2 _ rfl)) ?_
  refine yN ?_
  cases hp : x.c.present
  ·rw [hp] at hst
   rw [if_neg (by decide)] at hst
   have hP := Put_s mi B2 c2 (enU x) (by omega)
   refine h_condF rfl ?_
   refine ha_start [.zone true z, .blk g6 (keyOf x.kb).cells 34] [] mixed (same) ?_
   refine ha_takeP 0 rfl (r_move rfl) ?_
   refine ha_take 1 rfl (r_loadr rfl) ?_
   refine ha_takeP 2 rfl (r_move rfl) ?_
   refine ha_takeP 3 rfl (r_move rfl) ?_
   refine ha_takeP 4 rfl (r_idx rfl rfl) ?_
   refine ha_takeP 5 rfl (r_field rfl (O' := o + (i * 3 + 1)) (by omega)) ?_
   refine ha_take 6 rfl (r_nth rfl (cbs_at hx 1 _ rfl)) ?_
   refine ha_one 7 ?_
   refine ho_C 7 rfl (hP.comes) rfl rfl rfl (fun xx => same) fun ⟨A34, c34⟩ => ?_
   refine ha_takeP 8 rfl (r_assign rfl) ?_
   refine ha_done (by kernel_rfl) ?_
   refine q_block ?_
   refine q_then ?_
   dsimp only
   refine h_freezeO (.slice A34 (putM mi (enU x)).length c34) fun z2 B3 c3 e3 hc3 _ _ hz3 hr3 => ?_
   obtain rfl : A34 = B3 := by injection e3
   obtain rfl : c34 = c3 := by injection e3
   rw [← hst] at hr3 hc3 ⊢
   refine h_reg ?_
   refine yM rfl ?_
   refine h_op (r_add rfl rfl) ?_
   refine yS rfl ?_
   refine h_nil ?_
   exact h_back (i + 1, z2, A34, c34) (⟨hi2, hle.trans hz3, hr3, hc3⟩) ((show l.length - (i + 1) < l.length - i by omega)) ⟨rfl, rfl, rfl, trivial⟩ (same)
  ·rw [hp] at hst
   rw [if_pos rfl] at hst
   have hP := Remove_s mi B2 c2 (keyOf x.kb) (by omega)
   refine h_condT rfl ?_
   refine h_reg ?_
   refine yM rfl ?_
   refine h_op (r_loadr rfl) ?_
   refine h_call (hP.comes) rfl rfl rfl fun ⟨A26, c26⟩ => ?_
   dsimp only
   refine h_freezeO (.slice A26 (remK mi (keyOf x.kb)).length c26) fun z2 B3 c3 e3 hc3 _ _ hz3 hr3 => ?_
   obtain rfl : A26 = B3 := by injection e3
   obtain rfl : c26 = c3 := by injection e3
   rw [← hst] at hr3 hc3 ⊢
   refine yS rfl ?_
   refine h_nil ?_
   refine q_block ?_
   refine q_then ?_
   refine h_reg ?_
   refine yM rfl ?_
   refine h_op (r_add rfl rfl) ?_
   refine yS rfl ?_
   refine h_nil ?_
   exact h_back (i + 1, z2, A26, c26) (⟨hi2, hle.trans hz3, hr3, hc3⟩) ((show l.length - (i + 1) < l.length - i by omega)) ⟨rfl, rfl, rfl, trivial⟩ (same)
 ·obtain rfl : i = l.length := by omega
  rw [List.take_length] at hrd hcap ⊢
  refine h_exit ?_
  refine q_thenE ?_
  refine q_thenE ?_
  refine q_blockE ?_
  refine q_then ?_
  refine yR ?_
  refine yM rfl ?_
  refine yS rfl ?_
  refine yN ?_
  refine h_ret ?_
  exact h_ret1 rfl rfl fun w s => ⟨⟨(z, B2, c2), hle, hrd, hcap⟩, rfl, (same (L' := [.zone true z]) w s).res (List.Sublist.refl _) (by simp [Fa.wr])⟩
def fewA (l : List CB) : Bool := l.all fun x => decide (x.kb.length ≤ 100 ∧ x.vb.length ≤ 70000)
def fewN (l : List CB) : Nat := (l.filter fun x => decide (300 < x.vb.length)).length
theorem fewA_snoc {l : List CB} {i : Nat} (h : i < l.length) : fewA (l.take (i + 1)) = (fewA (l.take i) && decide ((l.getD i zCB).kb.length ≤ 100 ∧ (l.getD i zCB).vb.length ≤ 70000)) := by
 unfold fewA
 rw [take_snocE (getD_get zCB h), List.all_append]
 simp
theorem fewN_snoc {l : List CB} {i : Nat} (h : i < l.length) : fewN (l.take (i + 1)) = fewN (l.take i) + (if 300 < (l.getD i zCB).vb.length then 1 else 0) := by
 unfold fewN
 rw [take_snocE (getD_get zCB h), List.filter_append, List.length_append]
 by_cases h3 : 300 < (l.getD i zCB).vb.length
 ·rw [if_pos h3, List.filter_cons_of_pos (by simpa using h3)]; rfl
 ·rw [if_neg h3, List.filter_cons_of_neg (by simpa using h3)]; rfl
theorem fewN_le (l : List CB) : fewN l ≤ l.length := List.length_filter_le _ _
theorem fewA_no {l : List CB} {i : Nat} (h : i < l.length) (hf : ¬ ((l.getD i zCB).kb.length ≤ 100 ∧ (l.getD i zCB).vb.length ≤ 70000)) : fewU l = false := by
 unfold fewU
 have : fewA l = false := by
  rw [Bool.eq_false_iff]
  intro ht
  exact hf (of_decide_eq_true (List.all_eq_true.1 ht _ (List.mem_of_getElem? (getD_get zCB h))))
 unfold fewA at this
 rw [this, Bool.and_false, Bool.false_and]
theorem fewU_s (l : List CB) (A : Option Addr) (c : Nat) (hn : ∀ x ∈ l, x.c.key.n = x.kb.length ∧ x.c.value.n = x.vb.length) : Spec Tryz.prog 45 [.slice A l.length c].toArray [.rd A (cbs l)] [] (fun _ : Unit => .bool (fewU l)) (fun _ => []) := by
 refine spec_of Tryz.func45 rfl (n := 41) rfl rfl ?_
 intro W
 refine yR ?_
 refine yS rfl ?_
 refine yN ?_
 refine h_seq ?_
 refine yR ?_
 refine yM rfl ?_
 refine h_op (r_len rfl) ?_
 refine h_op (r_gtr rfl rfl) ?_
 refine yN ?_
 by_cases h20 : 20 < l.length
 ·have hF : fewU l = false := by unfold fewU; rw [decide_eq_false (by omega), Bool.false_and, Bool.false_and]
  rw [hF]
  refine h_yes rfl ((by omega)) ?_
  refine yR ?_
  refine yS rfl ?_
  refine yN ?_
  refine h_ret ?_
  refine q_thenR ?_
  exact h_ret1 rfl rfl fun w s => ⟨(), rfl, s.res (List.nil_sublist _) (by simp)⟩
 ·refine h_no rfl ((by omega)) ?_
  refine h_skip ?_
  refine q_then ?_
  refine yR ?_
  refine yS rfl ?_
  refine yN ?_
  refine h_seq ?_
  refine yR ?_
  refine yS rfl ?_
  refine yN ?_
  refine h_block ?_
  refine h_loop (fun (i : Nat) => i ≤ l.length ∧ fewA (l.take i) = true) (fun (i : Nat) => [(4, .int .i64 (i : Int)), (3, .int .i64 (fewN (l.take i) : Int)), (0, .slice A l.length c)]) (fun (i : Nat) => [.rd A (cbs l)]) (fun (i : Nat) => l.length - i) 0 (⟨Nat.zero_le _, rfl⟩) ⟨rfl, rfl, rfl, trivial⟩ (same) ?_
  rintro i ⟨hi, hA⟩
  have hNl := fewN_le (l.take i)
  rw [List.length_take] at hNl
  refine h_seq ?_
  refine yR ?_
  refine yM rfl ?_
  refine yM rfl ?_
  refine h_op (r_len rfl) ?_
  refine h_op (r_lss rfl rfl) ?_
  refine yN ?_
  refine h_cond rfl (fun hlt => ?_) (fun hlt => ?_)
  ·have hi2 : i < l.length := by omega
   have hx := getD_get zCB hi2
   have h1 := fewA_snoc hi2
   have h2 := fewN_snoc hi2
   have h3 := fewA_no hi2
   have h4 := hn (l.getD i zCB) (List.mem_of_getElem? hx)
   refine h_pure (φ := ∃ b o, A = some ⟨b, o, none⟩) (fun w s => Rd.some (s.ok (.rd A (cbs l)) (by simp)) (by rw [cbs_len]; omega)) ?_
   rintro ⟨b, o, rfl⟩
   generalize l.getD i zCB = x at *
   obtain ⟨k1, k2⟩ := h4
   by_cases hk : 100 < x.kb.length
   ·rw [h3 (by omega)]
    refine h_skip ?_
    refine q_then ?_
    refine h_seq ?_
    refine h_block ?_
    refine h_seq ?_
    refine yR ?_
    refine yM rfl ?_
    refine yM rfl ?_
    refine h_op (r_idx rfl rfl) ?_
    refine h_op (r_field rfl (O' := o + (i * 3 + 0)) (by omega)) ?_
    refine h_op (r_nth rfl (cbs_at hx 0 _ rfl)) ?_
    refine h_op (r_len rfl) ?_
    refine h_op (r_bool (r_gtr rfl rfl) (decide_eq_true (by omega))) ?_
    refine yM rfl ?_
    refine h_opOff ?_
    refine h_opOff ?_
    refine h_opOff ?_
    refine h_opOff ?_
    refine h_opOff ?_
    refine h_opOff ?_
    refine h_opOff ?_
    refine h_op (r_pick rfl rfl) ?_
    refine yN ?_
    refine h_condT rfl ?_
    refine yR ?_
    refine yS rfl ?_
    refine yN ?_
    refine h_ret ?_
    refine q_thenR ?_
    refine q_blockR ?_
    refine q_thenR ?_
    refine q_thenR ?_
    refine q_blockR ?_
    refine q_thenR ?_
    exact h_ret1 rfl rfl fun w s => ⟨(), rfl, s.res (List.nil_sublist _) (by simp)⟩
   ·by_cases hv : 70000 < x.vb.length
    ·rw [h3 (by omega)]
     refine h_skip ?_
     refine q_then ?_
     refine h_seq ?_
     refine h_block ?_
     refine h_seq ?_
     refine yR ?_
     refine yM rfl ?_
     refine yM rfl ?_
     refine h_op (r_idx rfl rfl) ?_
     refine h_op (r_field rfl (O' := o + (i * 3 + 0)) (by omega)) ?_
     refine h_op (r_nth rfl (cbs_at hx 0 _ rfl)) ?_
     refine h_op (r_len rfl) ?_
     refine h_op (r_bool (r_gtr rfl rfl) (decide_eq_false (by omega))) ?_
     refine yM rfl ?_
     refine yM rfl ?_
     refine yM rfl ?_
     refine h_op (r_idx rfl rfl) ?_
     refine h_op (r_field rfl (O' := o + (i * 3 + 1)) (by omega)) ?_
     refine h_op (r_nth rfl (cbs_at hx 1 _ rfl)) ?_
     refine h_op (r_len rfl) ?_
     refine h_op (r_bool (r_gtr rfl rfl) (decide_eq_true (by omega))) ?_
     refine h_op (r_pick rfl rfl) ?_
     refine yN ?_
     refine h_condT rfl ?_
     refine yR ?_
     refine yS rfl ?_
     refine yN ?_
     refine h_ret ?_
     refine q_thenR ?_
     refine q_blockR ?_
     refine q_thenR ?_
     refine q_thenR ?_
     refine q_blockR ?_
     refine q_thenR ?_
     exact h_ret1 rfl rfl fun w s => ⟨(), rfl, s.res (List.nil_sublist _) (by simp)⟩
    ·rw [hA, decide_eq_true (show x.kb.length ≤ 100 ∧ x.vb.length ≤ 70000 by omega)] at h1
     refine h_skip ?_
     refine q_then ?_
     refine h_seq ?_
     refine h_block ?_
     refine h_seq ?_
     refine yR ?_
     refine yM rfl ?_
     refine yM rfl ?_
     refine h_op (r_idx rfl rfl) ?_
     refine h_op (r_field rfl (O' := o + (i * 3 + 0)) (by omega)) ?_
     refine h_op (r_nth rfl (cbs_at hx 0 _ rfl)) ?_
     refine h_op (r_len rfl) ?_
     refine h_op (r_bool (r_gtr rfl rfl) (decide_eq_false (by omega))) ?_
     refine yM rfl ?_
     refine yM rfl ?_
     refine yM rfl ?_
     refine h_op (r_idx rfl rfl) ?_
     refine h_op (r_field rfl (O' := o + (i * 3 + 1)) (by omega)) ?_
     refine h_op (r_nth rfl (cbs_at hx 1 _ rfl)) ?_
     refine h_op (r_len rfl) ?_
     refine h_op (r_bool (r_gtr rfl rfl) (decide_eq_false (by omega))) ?_
     refine h_op (r_pick rfl rfl) ?_
     refine yN ?_
     refine h_condF rfl ?_
     refine h_skip ?_
     refine q_then ?_
     refine yR ?_
     refine yM rfl ?_
     refine yM rfl ?_
     refine h_op (r_idx rfl rfl) ?_
     refine h_op (r_field rfl (O' := o + (i * 3 + 1)) (by omega)) ?_
     refine h_op (r_nth rfl (cbs_at hx 1 _ rfl)) ?_
     refine h_op (r_len rfl) ?_
     refine h_op (r_gtr rfl rfl) ?_
     refine yN ?_
     by_cases h300 : 300 < x.vb.length
     ·rw [if_pos h300] at h2
      refine h_yes rfl ((by omega)) ?_
      refine h_reg ?_
      refine yM rfl ?_
      refine h_op (r_add rfl rfl) ?_
      refine yS rfl ?_
      refine h_nil ?_
      refine q_block ?_
      refine q_then ?_
      refine h_reg ?_
      refine yM rfl ?_
      refine h_op (r_add rfl rfl) ?_
      refine yS rfl ?_
      refine h_nil ?_
      exact h_back (i + 1) (⟨hi2, h1⟩) ((show l.length - (i + 1) < l.length - i by omega)) ⟨rfl, aV rfl (by rw [h2]; rfl), rfl, trivial⟩ (same)
     ·rw [if_neg h300] at h2
      refine h_no rfl ((by omega)) ?_
      refine h_skip ?_
      refine q_block ?_
      refine q_then ?_
      refine h_reg ?_
      refine yM rfl ?_
      refine h_op (r_add rfl rfl) ?_
      refine yS rfl ?_
      refine h_nil ?_
      exact h_back (i + 1) (⟨hi2, h1⟩) ((show l.length - (i + 1) < l.length - i by omega)) ⟨rfl, aV rfl (by rw [h2]; rfl), rfl, trivial⟩ (same)
  ·obtain rfl : i = l.length := by omega
   rw [List.take_length] at hA ⊢
   have hF : fewU l = decide (fewN l ≤ 2) := by
    unfold fewU
    rw [decide_eq_true (by omega)]
    unfold fewA at hA
    rw [hA]
    rfl
   rw [hF]
   refine h_exit ?_
   refine q_thenE ?_
   refine q_thenE ?_
   refine q_blockE ?_
   refine q_then ?_
   refine yR ?_
   refine yM rfl ?_
   refine h_op (r_bool (r_leq rfl rfl) (show _ = decide (fewN l ≤ 2) by rw [decide_eq_decide]; omega)) ?_
   refine yS rfl ?_
   refine yN ?_
   refine h_ret ?_
   exact h_ret1 rfl rfl fun w s => ⟨(), rfl, s.res (List.nil_sublist _) (by simp)⟩
theorem ops_at {l : List OpV} {i : Nat} {x : OpV} (h : l[i]? = some x) : ∀ j v, x.cells[j]? = some v → (opsC l)[i * 4 + j]? = some v := rws_at (f := OpV.cells) OpV.cells_length h
def zOp : OpV := ⟨0, ⟨none, 0, 0⟩, ⟨none, 0, 0⟩, ⟨none, 0, 0⟩, [], [], []⟩
def fewL (l : List OpV) : Bool := decide (l.length ≤ 12) && l.all fewO
theorem fewL_no {l : List OpV} {i : Nat} (h : i < l.length) (hf : fewO (l.getD i zOp) = false) : fewL l = false := by
 unfold fewL
 have : l.all fewO = false := by
  rw [Bool.eq_false_iff]
  intro ht
  have := List.all_eq_true.1 ht _ (List.mem_of_getElem? (getD_get zOp h))
  rw [hf] at this
  cases this
 rw [this, Bool.and_false]
def opC1 (o : OpV) : CB := ⟨⟨o.key, o.val, false⟩, o.kb, o.vb⟩
theorem fewU_one (o : OpV) : fewU [opC1 o] = decide (o.kb.length ≤ 100 ∧ o.vb.length ≤ 70000) := by
 unfold fewU opC1
 have : ([(⟨⟨o.key, o.val, false⟩, o.kb, o.vb⟩ : CB)].filter fun x => decide (300 < x.vb.length)).length ≤ 2 := Nat.le_trans (List.length_filter_le _ _) (by simp)
 rw [decide_eq_true this]
 simp
theorem fewO_one (o : OpV) : fewO o = (fewU [opC1 o] && fewU o.us) := by rw [fewU_one]; rfl
theorem fewOps_s (h : Zh) (l : List OpV) (A : Option Addr) (c : Nat) [hr : RdZ h A (opsC l)] (hz : OpsZ h l) : Spec Tryz.prog 33 [.slice A l.length c].toArray [.zone false h] [] (fun _ : Unit => .int .i64 (if fewL l then 1 else 0)) (fun _ => []) := by
 refine spec_of Tryz.func33 rfl (n := 29) rfl rfl ?_
 intro W
 refine yR ?_
 refine yS rfl ?_
 refine yN ?_
 refine h_seq ?_
 refine yR ?_
 refine yM rfl ?_
 refine h_op (r_len rfl) ?_
 refine h_op (r_gtr rfl rfl) ?_
 refine yN ?_
 by_cases h12 : 12 < l.length
 ·have hF : fewL l = false := by unfold fewL; rw [decide_eq_false (by omega), Bool.false_and]
  rw [hF]
  refine h_yes rfl ((by omega)) ?_
  refine yR ?_
  refine yS rfl ?_
  refine yN ?_
  refine h_ret ?_
  refine q_thenR ?_
  exact h_ret1 rfl rfl fun w s => ⟨(), rfl, s.res (List.nil_sublist _) (by simp)⟩
 ·refine h_no rfl ((by omega)) ?_
  refine h_skip ?_
  refine q_then ?_
  refine h_seq ?_
  refine yR ?_
  refine yM rfl ?_
  refine h_op (r_len rfl) ?_
  refine yM rfl ?_
  refine yN ?_
  refine h_block ?_
  refine h_loop (fun (i : Nat) => i ≤ l.length ∧ (l.take i).all fewO = true) (fun (i : Nat) => [(10, .int .i64 (i : Int)), (9, .int .i64 (l.length : Int)), (8, .slice A l.length c)]) (fun (i : Nat) => [.zone false h]) (fun (i : Nat) => l.length - i) 0 (⟨Nat.zero_le _, rfl⟩) ⟨rfl, rfl, rfl, trivial⟩ (same) ?_
  rintro i ⟨hi, hA⟩
  refine yR ?_
  refine h_op (r_lss rfl rfl) ?_
  refine yN ?_
  refine h_seq ?_
  refine h_cond rfl (fun hlt => ?_) (fun hlt => ?_)
  ·have hi2 : i < l.length := by omega
   have hx := getD_get zOp hi2
   have h3 := fewL_no hi2
   have hxz := hz (l.getD i zOp) (List.mem_of_getElem? hx)
   have hnx : fewO (l.getD i zOp) = true → (l.take (i + 1)).all fewO = true := fun hf => by
    rw [take_snocE hx, List.all_append, hA]
    show (true && (fewO (l.getD i zOp) && true)) = true
    rw [hf]
    rfl
   obtain ⟨b, o, rfl, -⟩ := hr.at_ (i * 4) _ (ops_at hx 0 _ rfl)
   generalize l.getD i zOp = x at *
   have hO := fewO_one x
   have hF1 := fun B cc => fewU_s [opC1 x] B cc (fun y hy => by rw [List.mem_singleton.1 hy]; exact ⟨hxz.key.len, hxz.val.len⟩)
   have hF2 := fewU_s x.us x.batch.A x.batch.c (fun y hy => ⟨(hxz.us y hy).1.len, (hxz.us y hy).2.len⟩)
   rw [← hxz.n] at hF2
   have hrb : RdZ h x.batch.A (cbs x.us) := hxz.rd
   rw [show cbs [opC1 x] = Claim.cells ⟨x.key, x.val, false⟩ from rfl, show ([opC1 x] : List CB).length = 1 from rfl] at hF1
   generalize fewU [opC1 x] = b1 at *
   generalize fewU x.us = b2 at *
   refine h_skip ?_
   refine q_then ?_
   refine h_seq ?_
   refine h_block ?_
   refine yR ?_
   refine h_op (r_idx rfl rfl) ?_
   refine h_op (r_nthr rfl (out := x.cells) (OpV.cells_length _) (ops_at hx)) ?_
   refine h_opX (x_alloc) fun g4 => ?_
   refine h_opS (s_storer rfl rfl) ?_
   refine yN ?_
   refine yR ?_
   refine h_op (r_field rfl) ?_
   refine h_op (r_loadc rfl) ?_
   refine h_op (r_field rfl) ?_
   refine h_op (r_loadc rfl) ?_
   refine h_op (r_build (out := Claim.cells ⟨x.key, x.val, false⟩) rfl) ?_
   refine h_opX (x_bsl rfl rfl) fun g19 => ?_
   refine h_call ((hF1 (some ⟨g19, 0, none⟩) 1).comes) rfl rfl rfl fun _ => ?_
   cases b1
   ·rw [h3 (by rw [hO]; rfl)]
    refine h_op (r_not rfl) ?_
    refine yM rfl ?_
    refine h_opOff ?_
    refine h_opOff ?_
    refine h_opOff ?_
    refine h_opOff ?_
    refine h_op (r_pick rfl rfl) ?_
    refine yN ?_
    refine h_condT rfl ?_
    refine yR ?_
    refine yS rfl ?_
    refine yN ?_
    refine h_ret ?_
    refine q_blockR ?_
    refine q_thenR ?_
    refine q_thenR ?_
    refine q_blockR ?_
    refine q_thenR ?_
    exact h_ret1 rfl rfl fun w s => ⟨(), rfl, s.res (List.nil_sublist _) (by simp)⟩
   ·refine h_op (r_not rfl) ?_
    refine yM rfl ?_
    refine h_op (r_field rfl) ?_
    refine h_op (r_loadc rfl) ?_
    refine h_call (hF2.comes) rfl rfl rfl fun _ => ?_
    cases b2
    ·rw [h3 (by rw [hO]; rfl)]
     refine h_op (r_not rfl) ?_
     refine h_op (r_pick rfl rfl) ?_
     refine yN ?_
     refine h_condT rfl ?_
     refine yR ?_
     refine yS rfl ?_
     refine yN ?_
     refine h_ret ?_
     refine q_blockR ?_
     refine q_thenR ?_
     refine q_thenR ?_
     refine q_blockR ?_
     refine q_thenR ?_
     exact h_ret1 rfl rfl fun w s => ⟨(), rfl, s.res (List.nil_sublist _) (by simp)⟩
    ·refine h_op (r_not rfl) ?_
     refine h_op (r_pick rfl rfl) ?_
     refine yN ?_
     refine h_condF rfl ?_
     refine h_skip ?_
     refine q_block ?_
     refine q_then ?_
     refine h_reg ?_
     refine h_op (r_add rfl rfl) ?_
     refine yM rfl ?_
     refine h_nil ?_
     exact h_back (i + 1) (⟨hi2, hnx hO⟩) ((show l.length - (i + 1) < l.length - i by omega)) ⟨rfl, rfl, rfl, trivial⟩ (same)
  ·obtain rfl : i = l.length := by omega
   rw [List.take_length] at hA
   have hF : fewL l = true := by unfold fewL; rw [hA, decide_eq_true (by omega)]; rfl
   rw [hF]
   refine h_exit ?_
   refine q_thenE ?_
   refine q_thenE ?_
   refine q_blockE ?_
   refine q_then ?_
   refine yR ?_
   refine yS rfl ?_
   refine yN ?_
   refine h_ret ?_
   exact h_ret1 rfl rfl fun w s => ⟨(), rfl, s.res (List.nil_sublist _) (by simp)⟩
theorem rSame7_s (h : Zh) (x y : List En) (A B : Option Addr) (c c' : Nat) [ha : RdZ h A (ents x)] [hb : RdZ h B (ents y)] (hv : ValsZ h x) (hw : ValsZ h y) (he : x.map kvE' = y.map kvE') (hl : x.length ≤ 1000000) : Spec Tryz.prog 88 [.slice A x.length c, .slice B y.length c'].toArray [.zone false h] [] (fun _ : Unit => .bool true) (fun _ => []) := by
 have hlen : y.length = x.length := by have := congrArg List.length he; simpa using this.symm
 rw [hlen]
 refine spec_of Tryz.func88 rfl (n := 42) rfl rfl ?_
 intro W
 refine yR ?_
 refine yS rfl ?_
 refine yN ?_
 refine h_seq ?_
 refine yR ?_
 refine yM rfl ?_
 refine h_op (r_len rfl) ?_
 refine yM rfl ?_
 refine h_op (r_len rfl) ?_
 refine h_op (r_neq rfl rfl) ?_
 refine yN ?_
 refine h_no rfl ((by omega)) ?_
 refine h_skip ?_
 refine q_then ?_
 refine h_seq ?_
 refine yR ?_
 refine yS rfl ?_
 refine yN ?_
 refine h_block ?_
 refine h_loop (fun (i : Nat) => i ≤ x.length) (fun (i : Nat) => [(5, .int .i64 (i : Int)), (0, .slice A x.length c), (1, .slice B x.length c')]) (fun (i : Nat) => [.zone false h]) (fun (i : Nat) => x.length - i) 0 (Nat.zero_le _) ⟨rfl, rfl, rfl, trivial⟩ (same) ?_
 rintro i hi
 refine h_seq ?_
 refine yR ?_
 refine yM rfl ?_
 refine yM rfl ?_
 refine h_op (r_len rfl) ?_
 refine h_op (r_lss rfl rfl) ?_
 refine yN ?_
 refine h_cond rfl (fun hlt => ?_) (fun hlt => ?_)
 ·have hi2 : i < x.length := by omega
  obtain ⟨e, hx⟩ := getE (l := x) (k := i) (by omega)
  obtain ⟨f, hy⟩ := getE (l := y) (k := i) (by omega)
  have hef : kvE' e = kvE' f := by
   have h1 := congrArg (fun q => q[i]?) he
   simp only [List.getElem?_map, hx, hy, Option.map_some] at h1
   injection h1
  have hk : e.key = f.key := congrArg Prod.fst hef
  have hvv : e.val = f.val := congrArg Prod.snd hef
  obtain ⟨he1, he2⟩ := hv e (List.mem_of_getElem? hx)
  obtain ⟨hf1, hf2⟩ := hw f (List.mem_of_getElem? hy)
  obtain ⟨b, o, rfl, -⟩ := ha.at_ (i * 33 + 32) _ (ents_val hx)
  obtain ⟨b', o', rfl, -⟩ := hb.at_ (i * 33 + 32) _ (ents_val hy)
  have hr1 : RdZ h e.e.value.A (bc e.val) := he1.rd
  have hr2 : RdZ h f.e.value.A (bc e.val) := by rw [hvv]; exact hf1.rd
  have hSm := Same_yes e.val e.e.value.A f.e.value.A e.e.value.c f.e.value.c (by omega)
  have hn1 := he1.len
  have hn2 := hf1.len
  have hn1' : e.e.value.n = e.val.length := hn1
  have hn2' : f.e.value.n = e.val.length := by rw [hvv]; exact hn2
  have hkey := ents_key hy
  rw [← hk] at hkey
  refine h_skip ?_
  refine q_then ?_
  refine h_seq ?_
  refine h_block ?_
  refine h_seq ?_
  refine ha_start [.zone false h] [] mixed (same) ?_
  refine ha_takeP 0 rfl (r_move rfl) ?_
  refine ha_takeP 1 rfl (r_move rfl) ?_
  refine ha_takeP 2 rfl (r_idx rfl rfl) ?_
  refine ha_takeP 3 rfl (r_field rfl) ?_
  refine ha_take 4 rfl (r_nthr rfl (out := e.key.cells) (B32.cells_length _) (ents_key hx)) ?_
  refine ha_takeP 5 rfl (r_move rfl) ?_
  refine ha_takeP 6 rfl (r_move rfl) ?_
  refine ha_takeP 7 rfl (r_idx rfl rfl) ?_
  refine ha_takeP 8 rfl (r_field rfl) ?_
  refine ha_take 9 rfl (r_nthr rfl (out := e.key.cells) (B32.cells_length _) hkey) ?_
  refine ha_takeP 10 rfl (r_bool (r_ner (p := e.key = e.key) rfl rfl) (decide_eq_false (fun hh => hh rfl))) ?_
  refine ha_takeP 11 rfl (r_move rfl) ?_
  refine ha_takeP 12 rfl (r_move rfl) ?_
  refine ha_takeP 13 rfl (r_move rfl) ?_
  refine ha_takeP 14 rfl (r_idx rfl rfl) ?_
  refine ha_takeP 15 rfl (r_field rfl (O' := o + (i * 33 + 32)) (by omega)) ?_
  refine ha_take 16 rfl (r_as (r_nth rfl (ents_val hx)) (show _ = Value.slice e.e.value.A e.val.length e.e.value.c by rw [hn1'])) ?_
  refine ha_takeP 17 rfl (r_move rfl) ?_
  refine ha_takeP 18 rfl (r_move rfl) ?_
  refine ha_takeP 19 rfl (r_idx rfl rfl) ?_
  refine ha_takeP 20 rfl (r_field rfl (O' := o' + (i * 33 + 32)) (by omega)) ?_
  refine ha_take 21 rfl (r_as (r_nth rfl (ents_val hy)) (show _ = Value.slice f.e.value.A e.val.length f.e.value.c by rw [hn2'])) ?_
  refine ha_one 22 ?_
  refine ho_C 22 rfl (hSm.comes) rfl rfl rfl (fun xx => same) fun _ => ?_
  refine ha_takeP 23 rfl (r_not rfl) ?_
  refine ha_takeP 24 rfl (r_pick rfl rfl) ?_
  refine ha_done (by kernel_rfl) ?_
  refine q_then ?_
  refine h_condF rfl ?_
  refine h_skip ?_
  refine q_block ?_
  refine q_then ?_
  refine h_reg ?_
  refine yM rfl ?_
  refine h_op (r_add rfl rfl) ?_
  refine yS rfl ?_
  refine h_nil ?_
  exact h_back (i + 1) ((show i + 1 ≤ _ from hi2)) ((show x.length - (i + 1) < x.length - i by omega)) ⟨rfl, rfl, rfl, trivial⟩ (same)
 ·refine h_exit ?_
  refine q_thenE ?_
  refine q_thenE ?_
  refine q_blockE ?_
  refine q_then ?_
  refine yR ?_
  refine yS rfl ?_
  refine yN ?_
  refine h_ret ?_
  exact h_ret1 rfl rfl fun w s => ⟨(), rfl, s.res (List.nil_sublist _) (by simp)⟩
end Go.Proofs.YtjhlbbgikccclaaGreatDoor
/- U164 -/
namespace Go.Proofs.YtjhlbbgikccclaaGreatDoor
open Go.RowKit
instance iU164_1 : TZero Tryz.prog 145 (.pointer none) := ⟨fun w => Tryz.zeroValue145 w⟩
theorem Ops_s (e : Nat) (op : ByteArray) (i c : Int) : Spec Tryz.prog 95 [.iface 145 (.pointer (some ⟨e, 0, none⟩))].toArray [.rd (some ⟨e, 0, none⟩) (fltC op i c)] [] (fun u : Nat × Nat => .slice (some ⟨u.1, 0, none⟩) 1 u.2) (fun u => [.own (.slice (some ⟨u.1, 0, none⟩) 1 u.2) 1 9 1 [.string op]]) := by
 refine spec_of Tryz.func95 rfl (n := 25) rfl rfl ?_
 intro W
 refine yR ?_
 refine yS rfl ?_
 refine yN ?_
 refine yR ?_
 refine yS rfl ?_
 refine yN ?_
 refine h_block ?_
 refine h_nil_own 9 1 (xs := []) rfl ?_
 refine h_loop (fun (s : Value × Value × Nat × List Value × Nat) => s = (.iface 145 (.pointer (some ⟨e, 0, none⟩)), .slice none 0 0, 0, [], 1) ∨ ∃ g cc, s = (.iface 54 (.int .i64 c), .slice (some ⟨g, 0, none⟩) 1 cc, 1, [.string op], 0)) (fun (s : Value × Value × Nat × List Value × Nat) => [(0, s.1), (3, s.2.1)]) (fun (s : Value × Value × Nat × List Value × Nat) => [.own s.2.1 s.2.2.1 9 1 s.2.2.2.1, .rd (some ⟨e, 0, none⟩) (fltC op i c)]) (fun (s : Value × Value × Nat × List Value × Nat) => s.2.2.2.2) (.iface 145 (.pointer (some ⟨e, 0, none⟩)), .slice none 0 0, 0, [], 1) ((.inl rfl)) ⟨rfl, rfl, trivial⟩ (same) ?_
 rintro s hs
 rcases hs with rfl | ⟨g, cc, rfl⟩
 ·dsimp only
  refine h_block ?_
  refine yR ?_
  refine yM rfl ?_
  refine h_op (r_as2 rfl) ?_
  refine yM rfl ?_
  refine h_op (r_extract rfl rfl) ?_
  refine h_op (r_extract rfl rfl) ?_
  refine yS rfl ?_
  refine yS rfl ?_
  refine yN ?_
  refine h_seq ?_
  refine yR ?_
  refine yM rfl ?_
  refine h_op (r_not rfl) ?_
  refine yN ?_
  refine h_condF rfl ?_
  refine h_skip ?_
  refine q_then ?_
  refine yR ?_
  refine yM rfl ?_
  refine yM rfl ?_
  refine h_op (r_nilc rfl) ?_
  refine h_op (r_field rfl) ?_
  refine h_op (r_loadc rfl) ?_
  refine h_opX (x_bsl rfl rfl) fun g19 => ?_
  refine h_opX (x_app rfl rfl (k := 1)) fun ⟨g20, c20⟩ => ?_
  refine yS rfl ?_
  refine yN ?_
  refine h_reg ?_
  refine yM rfl ?_
  refine h_op (r_nilc rfl) ?_
  refine h_op (r_field rfl) ?_
  refine h_op (r_loadc rfl) ?_
  refine yS rfl ?_
  refine h_nil ?_
  refine q_block ?_
  rw [Nat.zero_add, List.nil_append]
  exact h_back (.iface 54 (.int .i64 c), .slice (some ⟨g20, 0, none⟩) 1 c20, 1, [.string op], 0) ((.inr ⟨g20, c20, rfl⟩)) ((show 0 < 1 by decide)) ⟨rfl, rfl, trivial⟩ (same)
 ·dsimp only
  refine h_block ?_
  refine yR ?_
  refine yM rfl ?_
  refine h_op (r_as2n rfl) ?_
  refine yM rfl ?_
  refine h_op (r_extract rfl rfl) ?_
  refine h_op (r_extract rfl rfl) ?_
  refine yS rfl ?_
  refine yS rfl ?_
  refine yN ?_
  refine h_seq ?_
  refine yR ?_
  refine yM rfl ?_
  refine h_op (r_not rfl) ?_
  refine yN ?_
  refine h_condT rfl ?_
  refine yR ?_
  refine yM rfl ?_
  refine yS rfl ?_
  refine yN ?_
  refine h_ret ?_
  refine q_thenR ?_
  refine q_blockR ?_
  refine q_thenR ?_
  refine q_blockR ?_
  exact h_ret1 rfl rfl fun w s => ⟨(g, cc), rfl, (same (L' := [.own (.slice (some ⟨g, 0, none⟩) 1 cc) 1 9 1 [.string op]]) w s).res (List.Sublist.refl _) (by simp [Fa.wr])⟩
theorem wrong_no (op : ByteArray) (i : Int) : Spec Tryz.prog 48 [.nilIface, .string op, .int .i64 i, .int .i64 0].toArray [] [] (fun _ : Unit => .bool false) (fun _ => []) := by
 refine spec_of Tryz.func48 rfl (n := 50) rfl rfl ?_
 intro W
 refine yR ?_
 refine yS rfl ?_
 refine yN ?_
 refine h_seq ?_
 refine yR ?_
 refine yM rfl ?_
 refine h_op (r_eql rfl rfl) ?_
 refine yN ?_
 refine h_condT rfl ?_
 refine yR ?_
 refine yM rfl ?_
 refine h_op (r_nilnn rfl) ?_
 refine yS rfl ?_
 refine yN ?_
 refine h_ret ?_
 refine q_thenR ?_
 exact h_ret1 rfl rfl fun w s => ⟨(), rfl, s.res (List.nil_sublist _) (by simp)⟩
theorem wrong_s (e : Nat) (op : ByteArray) (i c : Int) (hc : c ≠ 0) : Spec Tryz.prog 48 [.iface 145 (.pointer (some ⟨e, 0, none⟩)), .string op, .int .i64 i, .int .i64 c].toArray [ERT, .rd (some ⟨e, 0, none⟩) (fltC op i c)] [] (fun _ : Unit => .bool false) (fun _ => []) := by
 have hF := First_s e op i c
 have hC := Code_s e op i c
 have hO := Ops_s e op i c
 refine spec_of Tryz.func48 rfl (n := 50) rfl rfl ?_
 intro W
 refine yR ?_
 refine yS rfl ?_
 refine yN ?_
 refine h_seq ?_
 refine yR ?_
 refine yM rfl ?_
 refine h_op (r_eql rfl rfl) ?_
 refine yN ?_
 refine h_no rfl (hc) ?_
 refine h_skip ?_
 refine q_then ?_
 refine yR ?_
 refine yM rfl ?_
 refine h_call (hF.comes) rfl rfl rfl fun _ => ?_
 refine yM rfl ?_
 refine h_op (r_extract rfl rfl) ?_
 refine h_op (r_extract rfl rfl) ?_
 refine h_op (r_extract rfl rfl) ?_
 refine yS rfl ?_
 refine yS rfl ?_
 refine yS rfl ?_
 refine yN ?_
 refine yR ?_
 refine yM rfl ?_
 refine h_op (r_ifnil rfl) ?_
 refine yM rfl ?_
 refine yM rfl ?_
 refine h_call (hC.comes) rfl rfl rfl fun _ => ?_
 refine yM rfl ?_
 refine h_op (r_bool (r_neq rfl rfl) (decide_eq_false (fun h => h rfl))) ?_
 refine h_op (r_pick rfl rfl) ?_
 refine yM rfl ?_
 refine yM rfl ?_
 refine yM rfl ?_
 refine h_op (r_bool (r_neS rfl rfl) (show _ = false by rw [beq_self_eq_true]; rfl)) ?_
 refine h_op (r_pick rfl rfl) ?_
 refine yM rfl ?_
 refine yM rfl ?_
 refine yM rfl ?_
 refine h_op (r_bool (r_neq rfl rfl) (decide_eq_false (fun h => h rfl))) ?_
 refine h_op (r_pick rfl rfl) ?_
 refine yM rfl ?_
 refine yM rfl ?_
 refine h_op (r_not rfl) ?_
 refine h_op (r_pick rfl rfl) ?_
 refine yM rfl ?_
 refine yM rfl ?_
 refine h_call (hO.comes) rfl rfl rfl fun ⟨g46, c46⟩ => ?_
 dsimp only
 refine h_op (r_len rfl) ?_
 refine h_op (r_bool (r_neq rfl rfl) (show _ = false from rfl)) ?_
 refine h_op (r_pick rfl rfl) ?_
 refine yS rfl ?_
 refine yN ?_
 refine h_ret ?_
 exact h_ret1 rfl rfl fun w s => ⟨(), rfl, s.res (List.nil_sublist _) (by simp)⟩
end Go.Proofs.YtjhlbbgikccclaaGreatDoor
/- E24 -/
namespace Go.Proofs.YtjhlbbgikccclaaGreatDoor
open Go.RowKit
theorem keyOf_val (x : B32) : keyOf x.1 = x := by unfold keyOf; rw [dif_pos x.2]
end Go.Proofs.YtjhlbbgikccclaaGreatDoor
/- U100 -/
namespace Go.Proofs.YtjhlbbgikccclaaGreatDoor
open Go.RowKit
end Go.Proofs.YtjhlbbgikccclaaGreatDoor
/- U10c -/
namespace Go.Proofs.YtjhlbbgikccclaaGreatDoor
open Go.RowKit
end Go.Proofs.YtjhlbbgikccclaaGreatDoor
/- U101 -/
namespace Go.Proofs.YtjhlbbgikccclaaGreatDoor
open Go.RowKit
theorem firstF_ne (code : Nat → Int) : ∀ m i j e, firstF code m i = some (j, e) → e ≠ 0
 | 0, _, _, _, h => by cases h
 | m + 1, i, j, e, h => by
  unfold firstF at h
  split at h
  ·exact firstF_ne code m (i + 1) j e h
  ·injection h with h
   injection h with h1 h2
   rw [← h2]; assumption
end Go.Proofs.YtjhlbbgikccclaaGreatDoor
/- U178 -/
namespace Go.Proofs.YtjhlbbgikccclaaGreatDoor
open Go.RowKit
abbrev ERZ (h : Zh) : Prop := RdZ h (some ⟨0, 0, none⟩) [rty 43]
theorem hasK_some (m : List En) (key : B32) : hasK m key = (getE' m key).isSome := by
 unfold hasK getE'
 induction m with
 | nil => rfl
 | cons e m ih =>
  rw [List.any_cons, List.find?_cons]
  cases decide (e.key = key)
  ·simpa using ih
  ·rfl
theorem remK_no {m : List En} {key : B32} (h : (getE' m key).isSome = false) : remK m key = m := remK_none fun e he hk => by
 have h1 : getE' m key = none := by cases hg : getE' m key with
  | none => rfl
  | some _ => rw [hg] at h; cases h
 exact absurd (decide_eq_true hk) (List.find?_eq_none.1 h1 e he)
section
variable (n : Nat) (hn : n ≤ 256) (gh gc t0 k : Nat) (hk : k ≤ 90000000) (h : Zh) [hT : RdZ h (some ⟨1, 0, none⟩) hashT] [hE : ERZ h] {m : List En} (hord : OrdM m) (hml : m.length ≤ 500) (hvm : ValsZ h m) (p : Option Addr) [ht : TrZ n h (mkT m 0) p] (B : Option Addr) (cB : Nat) [hB : RdZ h B (ents m)] (hcB : m.length ≤ cB) (o : OpV) (hz : OpZ h o) (hf : fewO o = true)
abbrev DoX (n : Nat) (h : Zh) (m : List En) (k : Nat) : Type := {u : Zh × Option Addr × Nat × Option Addr × Nat // LeZ h u.1 ∧ TrZ n u.1 (mkT m 0) u.2.1 ∧ u.2.2.1 ≤ k + 600000 ∧ RdZ u.1 u.2.2.2.1 (ents m) ∧ m.length ≤ u.2.2.2.2}
abbrev DoSp (n gh gc t0 k : Nat) (h : Zh) (m : List En) (p B : Option Addr) (cB : Nat) (o : OpV) : Prop :=
 Spec Tryz.prog 35 [.pointer (some ⟨t0, 0, none⟩), .slice B m.length cB, .agg o.cells.toArray].toArray [HR gh gc n] [.zone true h, CN gc k, TreeF t0 gh p] (fun u : DoX n h (doM m o) k => .tuple #[.slice u.1.2.2.2.1 (doM m o).length u.1.2.2.2.2, .bool false]) (fun u => [.zone true u.1.1, CN gc u.1.2.2.1, TreeF t0 gh u.1.2.1])
include hn hk hord hml hvm hcB hz hf
omit hvm in
theorem DoPut_s (h0 : o.kind = 0) : DoSp n gh gc t0 k h m p B cB o := by
 have hal : Alike m 0 := hord.alike
 have hkz : SlZ h o.key o.kb := hz.key
 have hvz : SlZ h o.val o.vb := hz.val
 have hkn := hkz.len
 have hvn := hvz.len
 have hff := (fewO_val hf).1
 have hRi := rRight13_s o.key o.val (by omega)
 rw [show entE o.key.n o.val.n = entE o.kb.length o.val.n by rw [hkn]] at hRi
 by_cases he : entE o.kb.length o.val.n = 0
 ·have hk32 := entE_key he
  have he' : entE o.kb.length o.vb.length = 0 := by rw [← hvn]; exact he
  have hdo : doM m o = putM m ⟨⟨keyOf o.kb, o.val⟩, o.vb⟩ := by unfold doM; rw [if_pos h0, if_pos he']
  have hP := TPut_ok n hn gh gc t0 k (by omega) h hal (by omega) p o.key o.kb o.val o.vb he'
  rw [← hdo] at hP
  rw [he] at hRi
  have hkr : RdZ h o.key.A (bc o.kb) := hkz.rd
  have hOf := rOf_s o.kb o.key.A o.key.c hk32
  rw [← hkn] at hOf
  have hP2 := Put_s m B cB ⟨⟨keyOf o.kb, o.val⟩, o.vb⟩ (by omega)
  rw [← hdo] at hP2
  unfold DoSp
  generalize doM m o = m' at *
  refine spec_of Tryz.func35 rfl (n := 132) rfl rfl ?_
  intro W
  refine yR ?_
  refine h_opX (x_box rfl) fun g5 => ?_
  refine yS rfl ?_
  refine yS rfl ?_
  refine yN ?_
  refine h_seq ?_
  refine yR ?_
  refine h_op (r_field rfl) ?_
  refine h_op (r_loadc rfl) ?_
  refine yN ?_
  refine h_block ?_
  refine yR ?_
  refine h_op (r_bool (r_eql rfl rfl) (decide_eq_true h0)) ?_
  refine yS rfl ?_
  refine yN ?_
  refine h_condT rfl ?_
  refine yR ?_
  refine h_op (r_field rfl) ?_
  refine h_op (r_loadc rfl) ?_
  refine h_op (r_field rfl) ?_
  refine h_op (r_loadc rfl) ?_
  refine h_call (hRi.comes) rfl rfl rfl fun _ => ?_
  refine yS rfl ?_
  refine yN ?_
  refine h_seq ?_
  refine yR ?_
  refine yM rfl ?_
  refine h_op (r_field rfl) ?_
  refine h_op (r_loadc rfl) ?_
  refine h_op (r_field rfl) ?_
  refine h_op (r_loadc rfl) ?_
  refine h_call (hP.comes) rfl rfl rfl fun ⟨⟨h1, q, k1⟩, hle, htq, hk1⟩ => ?_
  dsimp only at hle htq hk1 ⊢
  have hkr1 : RdZ h1 o.key.A (bc o.kb) := hkr.mono hle
  have hB1 : RdZ h1 B (ents m) := hB.mono hle
  refine yM rfl ?_
  refine h_call ((wrong_no putB 0).comes) rfl rfl rfl fun _ => ?_
  refine yN ?_
  refine h_condF rfl ?_
  refine h_skip ?_
  refine q_then ?_
  refine h_seq ?_
  refine yR ?_
  refine yM rfl ?_
  refine h_op (r_neq rfl rfl) ?_
  refine yN ?_
  refine h_condF rfl ?_
  refine h_skip ?_
  refine q_then ?_
  refine h_seq ?_
  refine ha_start [.zone true h1, .blk g5 o.cells 85] [] mixed (same) ?_
  refine ha_takeP 0 rfl (r_move rfl) ?_
  refine ha_takeP 1 rfl (r_field rfl) ?_
  refine ha_take 2 rfl (r_loadc rfl) ?_
  refine ha_takeP 4 rfl (r_field rfl) ?_
  refine ha_take 5 rfl (r_loadc rfl) ?_
  refine ha_one 3 ?_
  refine ho_C 3 rfl (hOf.comes) rfl rfl rfl (fun xx => same) fun _ => ?_
  refine ha_one 6 ?_
  refine ho_C 6 rfl (hP2.comes) rfl rfl rfl (fun xx => same) fun ⟨A46, c46⟩ => ?_
  refine ha_takeP 7 rfl (r_assign rfl) ?_
  refine ha_takeP 8 rfl (r_assign rfl) ?_
  refine ha_done (by kernel_rfl) ?_
  refine q_then ?_
  dsimp only
  refine h_freezeO (.slice A46 m'.length c46) fun z2 B3 c3 e3 hc3 _ _ hz3 hr3 => ?_
  obtain rfl : A46 = B3 := by injection e3
  obtain rfl : c46 = c3 := by injection e3
  refine h_ret ?_
  refine q_blockR ?_
  refine q_thenR ?_
  exact h_ret2 rfl rfl rfl fun w s => ⟨⟨(z2, q, k1, A46, c46), hle.trans hz3, ⟨htq.ok.mono hz3⟩, by dsimp only; omega, hr3, hc3⟩, rfl, (same (L' := [.zone true z2, CN gc k1, TreeF t0 gh q]) w s).res (List.Sublist.refl _) (by simp [Fa.wr])⟩
 ·have he' : ¬ entE o.kb.length o.vb.length = 0 := by rw [← hvn]; exact he
  have hdo : doM m o = m := by unfold doM; rw [if_pos h0, if_neg he']
  have hPb := TPut_bad t0 h o.key o.kb o.val he
  have hW := fun g => wrong_s g putB 0 (entE o.kb.length o.val.n) he
  unfold DoSp
  rw [hdo]
  generalize entE o.kb.length o.val.n = e at *
  refine spec_of Tryz.func35 rfl (n := 132) rfl rfl ?_
  intro W
  refine yR ?_
  refine h_opX (x_box rfl) fun g5 => ?_
  refine yS rfl ?_
  refine yS rfl ?_
  refine yN ?_
  refine h_seq ?_
  refine yR ?_
  refine h_op (r_field rfl) ?_
  refine h_op (r_loadc rfl) ?_
  refine yN ?_
  refine h_block ?_
  refine yR ?_
  refine h_op (r_bool (r_eql rfl rfl) (decide_eq_true h0)) ?_
  refine yS rfl ?_
  refine yN ?_
  refine h_condT rfl ?_
  refine yR ?_
  refine h_op (r_field rfl) ?_
  refine h_op (r_loadc rfl) ?_
  refine h_op (r_field rfl) ?_
  refine h_op (r_loadc rfl) ?_
  refine h_call (hRi.comes) rfl rfl rfl fun _ => ?_
  refine yS rfl ?_
  refine yN ?_
  refine h_seq ?_
  refine yR ?_
  refine yM rfl ?_
  refine h_op (r_field rfl) ?_
  refine h_op (r_loadc rfl) ?_
  refine h_op (r_field rfl) ?_
  refine h_op (r_loadc rfl) ?_
  refine h_call (hPb.comes) rfl rfl rfl fun g33 => ?_
  refine yM rfl ?_
  refine h_call ((hW g33).comes) rfl rfl rfl fun _ => ?_
  refine yN ?_
  refine h_condF rfl ?_
  refine h_skip ?_
  refine q_then ?_
  refine h_seq ?_
  refine yR ?_
  refine yM rfl ?_
  refine h_op (r_neq rfl rfl) ?_
  refine yN ?_
  refine h_yes rfl (he) ?_
  refine yR ?_
  refine yM rfl ?_
  refine yS rfl ?_
  refine yS rfl ?_
  refine yN ?_
  refine h_ret ?_
  refine q_thenR ?_
  refine q_blockR ?_
  refine q_thenR ?_
  exact h_ret2 rfl rfl rfl fun w s => ⟨⟨(h, p, k, B, cB), LeZ.refl h, ht, by dsimp only; omega, hB, hcB⟩, rfl, (same (L' := [.zone true h, CN gc k, TreeF t0 gh p]) w s).res (List.Sublist.refl _) (by simp [Fa.wr])⟩
omit hn hk hT in
theorem DoGet_s (h1 : o.kind = 1) : DoSp n gh gc t0 k h m p B cB o := by
 have hal : Alike m 0 := hord.alike
 have hkz : SlZ h o.key o.kb := hz.key
 have hkn := hkz.len
 have hff := (fewO_val hf).1
 have hdo : doM m o = m := by unfold doM; rw [if_neg (by omega), if_pos h1]
 have hRi := rRight13_s o.key ⟨none, 0, 0⟩ (by omega)
 rw [show entE o.key.n (⟨none, 0, 0⟩ : Sl).n = if o.kb.length = 32 then 0 else 2 by unfold entE; rw [hkn]; rfl] at hRi
 unfold DoSp
 rw [hdo]
 by_cases hk32 : o.kb.length = 32
 ·rw [if_pos hk32] at hRi
  have hkr : RdZ h o.key.A (bc o.kb) := hkz.rd
  have hOf := rOf_s o.kb o.key.A o.key.c hk32
  rw [← hkn] at hOf
  have hG := TGet_ok n gh t0 h hal p o.key o.kb hk32 (fun e he => Nat.le_trans (hvm e he).2 (by decide))
  have hG2 := Get_s m B cB (keyOf o.kb) (by omega)
  obtain ⟨hsz, hsl⟩ := getS_ok hvm (keyOf o.kb)
  have hsn := hsz.len
  have hsr := hsz.rd
  generalize getE' m (keyOf o.kb) = x at *
  have hSm := fun A c => Same_yes (getV x) A (getS x).A c (getS x).c (by omega)
  generalize getV x = vb at *
  generalize getS x = sv at *
  obtain ⟨vA, vn, vc⟩ := sv
  dsimp only at hsn hsr hSm hG2
  subst hsn
  refine spec_of Tryz.func35 rfl (n := 132) rfl rfl ?_
  intro W
  refine yR ?_
  refine h_opX (x_box rfl) fun g5 => ?_
  refine yS rfl ?_
  refine yS rfl ?_
  refine yN ?_
  refine h_seq ?_
  refine yR ?_
  refine h_op (r_field rfl) ?_
  refine h_op (r_loadc rfl) ?_
  refine yN ?_
  refine h_block ?_
  refine yR ?_
  refine h_op (r_bool (r_eql rfl rfl) (decide_eq_false (by omega))) ?_
  refine yS rfl ?_
  refine yN ?_
  refine h_condF rfl ?_
  refine h_seq ?_
  refine yR ?_
  refine h_op (r_bool (r_eql rfl rfl) (decide_eq_true h1)) ?_
  refine yS rfl ?_
  refine yN ?_
  refine h_condT rfl ?_
  refine h_skip ?_
  refine q_then ?_
  refine h_condT rfl ?_
  refine yR ?_
  refine h_op (r_field rfl) ?_
  refine h_op (r_loadc rfl) ?_
  refine h_call (hRi.comes) rfl rfl rfl fun _ => ?_
  refine yS rfl ?_
  refine yN ?_
  refine yR ?_
  refine yS rfl ?_
  refine yN ?_
  refine yR ?_
  refine yS rfl ?_
  refine yN ?_
  refine h_seq ?_
  refine yR ?_
  refine yM rfl ?_
  refine h_op (r_eql rfl rfl) ?_
  refine yN ?_
  refine h_condT rfl ?_
  refine h_reg ?_
  refine yM rfl ?_
  refine h_op (r_field rfl) ?_
  refine h_op (r_loadc rfl) ?_
  refine h_call (hOf.comes) rfl rfl rfl fun _ => ?_
  refine h_call (hG2.comes) rfl rfl rfl fun _ => ?_
  refine yM rfl ?_
  refine h_op (r_extract rfl rfl) ?_
  refine h_op (r_extract rfl rfl) ?_
  refine yS rfl ?_
  refine yS rfl ?_
  refine yN ?_
  refine h_seq ?_
  refine yR ?_
  refine h_op (r_field rfl) ?_
  refine h_op (r_loadc rfl) ?_
  refine h_op (r_bool (r_eql rfl rfl) (decide_eq_true h1)) ?_
  refine yN ?_
  refine h_condT rfl ?_
  refine yR ?_
  refine yM rfl ?_
  refine h_op (r_field rfl) ?_
  refine h_op (r_loadc rfl) ?_
  refine h_call (hG.comes) rfl rfl rfl fun ⟨A70, c70⟩ => ?_
  dsimp only
  refine yM rfl ?_
  refine h_op (r_extract rfl rfl) ?_
  refine h_op (r_extract rfl rfl) ?_
  refine h_op (r_extract rfl rfl) ?_
  refine yS rfl ?_
  refine yS rfl ?_
  refine yS rfl ?_
  refine yN ?_
  refine yR ?_
  refine yM rfl ?_
  refine yM rfl ?_
  refine yM rfl ?_
  refine h_call ((wrong_no getB 0).comes) rfl rfl rfl fun _ => ?_
  refine yM rfl ?_
  refine yM rfl ?_
  refine yM rfl ?_
  refine h_op (r_bool (r_neb rfl rfl) (show _ = false by simp)) ?_
  refine h_op (r_pick rfl rfl) ?_
  refine yM rfl ?_
  refine yM rfl ?_
  refine yM rfl ?_
  refine h_call ((hSm A70 c70).comes) rfl rfl rfl fun _ => ?_
  refine h_op (r_not rfl) ?_
  refine h_op (r_pick rfl rfl) ?_
  refine yS rfl ?_
  refine yS rfl ?_
  refine yN ?_
  refine h_ret ?_
  refine q_thenR ?_
  refine q_blockR ?_
  refine q_thenR ?_
  exact h_ret2 rfl rfl rfl fun w s => ⟨⟨(h, p, k, B, cB), LeZ.refl h, ht, by dsimp only; omega, hB, hcB⟩, rfl, (same (L' := [.zone true h, CN gc k, TreeF t0 gh p]) w s).res (List.Sublist.refl _) (by simp [Fa.wr])⟩
 ·rw [if_neg hk32] at hRi
  have hGb := TGet_bad t0 h o.key o.kb hk32
  have hSm := Same_yes [] none none 0 0 (by decide)
  rw [show bc [] = ([] : List Value) from rfl] at hSm
  refine spec_of Tryz.func35 rfl (n := 132) rfl rfl ?_
  intro W
  refine yR ?_
  refine h_opX (x_box rfl) fun g5 => ?_
  refine yS rfl ?_
  refine yS rfl ?_
  refine yN ?_
  refine h_seq ?_
  refine yR ?_
  refine h_op (r_field rfl) ?_
  refine h_op (r_loadc rfl) ?_
  refine yN ?_
  refine h_block ?_
  refine yR ?_
  refine h_op (r_bool (r_eql rfl rfl) (decide_eq_false (by omega))) ?_
  refine yS rfl ?_
  refine yN ?_
  refine h_condF rfl ?_
  refine h_seq ?_
  refine yR ?_
  refine h_op (r_bool (r_eql rfl rfl) (decide_eq_true h1)) ?_
  refine yS rfl ?_
  refine yN ?_
  refine h_condT rfl ?_
  refine h_skip ?_
  refine q_then ?_
  refine h_condT rfl ?_
  refine yR ?_
  refine h_op (r_field rfl) ?_
  refine h_op (r_loadc rfl) ?_
  refine h_call (hRi.comes) rfl rfl rfl fun _ => ?_
  refine yS rfl ?_
  refine yN ?_
  refine yR ?_
  refine yS rfl ?_
  refine yN ?_
  refine yR ?_
  refine yS rfl ?_
  refine yN ?_
  refine h_seq ?_
  refine yR ?_
  refine yM rfl ?_
  refine h_op (r_eql rfl rfl) ?_
  refine yN ?_
  refine h_condF rfl ?_
  refine h_skip ?_
  refine q_then ?_
  refine h_seq ?_
  refine yR ?_
  refine h_op (r_field rfl) ?_
  refine h_op (r_loadc rfl) ?_
  refine h_op (r_bool (r_eql rfl rfl) (decide_eq_true h1)) ?_
  refine yN ?_
  refine h_condT rfl ?_
  refine yR ?_
  refine yM rfl ?_
  refine h_op (r_field rfl) ?_
  refine h_op (r_loadc rfl) ?_
  refine h_call (hGb.comes) rfl rfl rfl fun g70 => ?_
  refine yM rfl ?_
  refine h_op (r_extract rfl rfl) ?_
  refine h_op (r_extract rfl rfl) ?_
  refine h_op (r_extract rfl rfl) ?_
  refine yS rfl ?_
  refine yS rfl ?_
  refine yS rfl ?_
  refine yN ?_
  refine yR ?_
  refine yM rfl ?_
  refine yM rfl ?_
  refine yM rfl ?_
  refine h_call ((wrong_s g70 getB 0 2 (by decide)).comes) rfl rfl rfl fun _ => ?_
  refine yM rfl ?_
  refine yM rfl ?_
  refine yM rfl ?_
  refine h_op (r_bool (r_neb rfl rfl) rfl) ?_
  refine h_op (r_pick rfl rfl) ?_
  refine yM rfl ?_
  refine yM rfl ?_
  refine yM rfl ?_
  refine h_call (hSm.comes) rfl rfl rfl fun _ => ?_
  refine h_op (r_not rfl) ?_
  refine h_op (r_pick rfl rfl) ?_
  refine yS rfl ?_
  refine yS rfl ?_
  refine yN ?_
  refine h_ret ?_
  refine q_thenR ?_
  refine q_blockR ?_
  refine q_thenR ?_
  exact h_ret2 rfl rfl rfl fun w s => ⟨⟨(h, p, k, B, cB), LeZ.refl h, ht, by dsimp only; omega, hB, hcB⟩, rfl, (same (L' := [.zone true h, CN gc k, TreeF t0 gh p]) w s).res (List.Sublist.refl _) (by simp [Fa.wr])⟩
theorem DoDel_s (h2 : o.kind = 2) : DoSp n gh gc t0 k h m p B cB o := by
 have hal : Alike m 0 := hord.alike
 have hkz : SlZ h o.key o.kb := hz.key
 have hkn := hkz.len
 have hff := (fewO_val hf).1
 have hdo : doM m o = if o.kb.length = 32 then remK m (keyOf o.kb) else m := by unfold doM; rw [if_neg (by omega), if_neg (by omega), if_pos h2]
 have hRi := rRight13_s o.key ⟨none, 0, 0⟩ (by omega)
 rw [show entE o.key.n (⟨none, 0, 0⟩ : Sl).n = if o.kb.length = 32 then 0 else 2 by unfold entE; rw [hkn]; rfl] at hRi
 unfold DoSp
 rw [hdo]
 by_cases hk32 : o.kb.length = 32
 ·rw [if_pos hk32] at hRi ⊢
  have hkr : RdZ h o.key.A (bc o.kb) := hkz.rd
  have hOf := rOf_s o.kb o.key.A o.key.c hk32
  rw [← hkn] at hOf
  have hD := TDel_ok n hn gh gc t0 k (by omega) h hal (by omega) p o.key o.kb hk32
  have hG2 := Get_s m B cB (keyOf o.kb) (by omega)
  have hRm := Remove_s m B cB (keyOf o.kb) (by omega)
  have hno := fun hh => remK_no (m := m) (key := keyOf o.kb) hh
  rw [hasK_some] at hD
  generalize getE' m (keyOf o.kb) = x at *
  generalize x.isSome = sm at *
  generalize getS x = sv at *
  generalize remK m (keyOf o.kb) = m' at *
  refine spec_of Tryz.func35 rfl (n := 132) rfl rfl ?_
  intro W
  refine yR ?_
  refine h_opX (x_box rfl) fun g5 => ?_
  refine yS rfl ?_
  refine yS rfl ?_
  refine yN ?_
  refine h_seq ?_
  refine yR ?_
  refine h_op (r_field rfl) ?_
  refine h_op (r_loadc rfl) ?_
  refine yN ?_
  refine h_block ?_
  refine yR ?_
  refine h_op (r_bool (r_eql rfl rfl) (decide_eq_false (by omega))) ?_
  refine yS rfl ?_
  refine yN ?_
  refine h_condF rfl ?_
  refine h_seq ?_
  refine yR ?_
  refine h_op (r_bool (r_eql rfl rfl) (decide_eq_false (by omega))) ?_
  refine yS rfl ?_
  refine yN ?_
  refine h_condF rfl ?_
  refine h_reg ?_
  refine h_op (r_bool (r_eql rfl rfl) (decide_eq_true h2)) ?_
  refine yS rfl ?_
  refine yN ?_
  refine h_condT rfl ?_
  refine yR ?_
  refine h_op (r_field rfl) ?_
  refine h_op (r_loadc rfl) ?_
  refine h_call (hRi.comes) rfl rfl rfl fun _ => ?_
  refine yS rfl ?_
  refine yN ?_
  refine yR ?_
  refine yS rfl ?_
  refine yN ?_
  refine yR ?_
  refine yS rfl ?_
  refine yN ?_
  refine h_seq ?_
  refine yR ?_
  refine yM rfl ?_
  refine h_op (r_eql rfl rfl) ?_
  refine yN ?_
  refine h_condT rfl ?_
  refine h_reg ?_
  refine yM rfl ?_
  refine h_op (r_field rfl) ?_
  refine h_op (r_loadc rfl) ?_
  refine h_call (hOf.comes) rfl rfl rfl fun _ => ?_
  refine h_call (hG2.comes) rfl rfl rfl fun _ => ?_
  refine yM rfl ?_
  refine h_op (r_extract rfl rfl) ?_
  refine h_op (r_extract rfl rfl) ?_
  refine yS rfl ?_
  refine yS rfl ?_
  refine yN ?_
  refine h_seq ?_
  refine yR ?_
  refine h_op (r_field rfl) ?_
  refine h_op (r_loadc rfl) ?_
  refine h_op (r_bool (r_eql rfl rfl) (decide_eq_false (by omega))) ?_
  refine yN ?_
  refine h_condF rfl ?_
  refine h_skip ?_
  refine q_then ?_
  refine yR ?_
  refine yM rfl ?_
  refine h_op (r_field rfl) ?_
  refine h_op (r_loadc rfl) ?_
  refine h_call (hD.comes) rfl rfl rfl fun ⟨⟨h1, q, k1⟩, hle, htq, hk1⟩ => ?_
  dsimp only at hle htq hk1 ⊢
  have hkr1 : RdZ h1 o.key.A (bc o.kb) := hkr.mono hle
  have hB1 : RdZ h1 B (ents m) := hB.mono hle
  refine yM rfl ?_
  refine h_op (r_extract rfl rfl) ?_
  refine h_op (r_extract rfl rfl) ?_
  refine yS rfl ?_
  refine yS rfl ?_
  refine yN ?_
  refine h_seq ?_
  refine yR ?_
  refine yM rfl ?_
  refine yN ?_
  cases sm
  ·have hm' : m' = m := hno rfl
   subst hm'
   refine h_condF rfl ?_
   refine h_skip ?_
   refine q_then ?_
   refine yR ?_
   refine yM rfl ?_
   refine yM rfl ?_
   refine yM rfl ?_
   refine h_call ((wrong_no delB 0).comes) rfl rfl rfl fun _ => ?_
   refine yM rfl ?_
   refine yM rfl ?_
   refine yM rfl ?_
   refine h_op (r_bool (r_neb rfl rfl) rfl) ?_
   refine h_op (r_pick rfl rfl) ?_
   refine yS rfl ?_
   refine yS rfl ?_
   refine yN ?_
   refine h_ret ?_
   refine q_blockR ?_
   refine q_thenR ?_
   exact h_ret2 rfl rfl rfl fun w s => ⟨⟨(h1, q, k1, B, cB), hle, htq, by dsimp only; omega, hB1, hcB⟩, rfl, (same (L' := [.zone true h1, CN gc k1, TreeF t0 gh q]) w s).res (List.Sublist.refl _) (by simp [Fa.wr])⟩
  ·refine h_condT rfl ?_
   refine h_reg ?_
   refine yM rfl ?_
   refine h_op (r_field rfl) ?_
   refine h_op (r_loadc rfl) ?_
   refine h_call (hOf.comes) rfl rfl rfl fun _ => ?_
   refine h_call (hRm.comes) rfl rfl rfl fun ⟨A101, c101⟩ => ?_
   dsimp only
   refine h_freezeO (.slice A101 m'.length c101) fun z2 B3 c3 e3 hc3 _ _ hz3 hr3 => ?_
   obtain rfl : A101 = B3 := by injection e3
   obtain rfl : c101 = c3 := by injection e3
   refine yS rfl ?_
   refine yN ?_
   refine yR ?_
   refine yM rfl ?_
   refine yM rfl ?_
   refine yM rfl ?_
   refine h_call ((wrong_no delB 0).comes) rfl rfl rfl fun _ => ?_
   refine yM rfl ?_
   refine yM rfl ?_
   refine yM rfl ?_
   refine h_op (r_bool (r_neb rfl rfl) rfl) ?_
   refine h_op (r_pick rfl rfl) ?_
   refine yS rfl ?_
   refine yS rfl ?_
   refine yN ?_
   refine h_ret ?_
   refine q_blockR ?_
   refine q_thenR ?_
   exact h_ret2 rfl rfl rfl fun w s => ⟨⟨(z2, q, k1, A101, c101), hle.trans hz3, ⟨htq.ok.mono hz3⟩, by dsimp only; omega, hr3, hc3⟩, rfl, (same (L' := [.zone true z2, CN gc k1, TreeF t0 gh q]) w s).res (List.Sublist.refl _) (by simp [Fa.wr])⟩
 ·rw [if_neg hk32] at hRi ⊢
  have hDb := TDel_bad t0 h o.key o.kb hk32
  refine spec_of Tryz.func35 rfl (n := 132) rfl rfl ?_
  intro W
  refine yR ?_
  refine h_opX (x_box rfl) fun g5 => ?_
  refine yS rfl ?_
  refine yS rfl ?_
  refine yN ?_
  refine h_seq ?_
  refine yR ?_
  refine h_op (r_field rfl) ?_
  refine h_op (r_loadc rfl) ?_
  refine yN ?_
  refine h_block ?_
  refine yR ?_
  refine h_op (r_bool (r_eql rfl rfl) (decide_eq_false (by omega))) ?_
  refine yS rfl ?_
  refine yN ?_
  refine h_condF rfl ?_
  refine h_seq ?_
  refine yR ?_
  refine h_op (r_bool (r_eql rfl rfl) (decide_eq_false (by omega))) ?_
  refine yS rfl ?_
  refine yN ?_
  refine h_condF rfl ?_
  refine h_reg ?_
  refine h_op (r_bool (r_eql rfl rfl) (decide_eq_true h2)) ?_
  refine yS rfl ?_
  refine yN ?_
  refine h_condT rfl ?_
  refine yR ?_
  refine h_op (r_field rfl) ?_
  refine h_op (r_loadc rfl) ?_
  refine h_call (hRi.comes) rfl rfl rfl fun _ => ?_
  refine yS rfl ?_
  refine yN ?_
  refine yR ?_
  refine yS rfl ?_
  refine yN ?_
  refine yR ?_
  refine yS rfl ?_
  refine yN ?_
  refine h_seq ?_
  refine yR ?_
  refine yM rfl ?_
  refine h_op (r_eql rfl rfl) ?_
  refine yN ?_
  refine h_condF rfl ?_
  refine h_skip ?_
  refine q_then ?_
  refine h_seq ?_
  refine yR ?_
  refine h_op (r_field rfl) ?_
  refine h_op (r_loadc rfl) ?_
  refine h_op (r_bool (r_eql rfl rfl) (decide_eq_false (by omega))) ?_
  refine yN ?_
  refine h_condF rfl ?_
  refine h_skip ?_
  refine q_then ?_
  refine yR ?_
  refine yM rfl ?_
  refine h_op (r_field rfl) ?_
  refine h_op (r_loadc rfl) ?_
  refine h_call (hDb.comes) rfl rfl rfl fun g93 => ?_
  refine yM rfl ?_
  refine h_op (r_extract rfl rfl) ?_
  refine h_op (r_extract rfl rfl) ?_
  refine yS rfl ?_
  refine yS rfl ?_
  refine yN ?_
  refine h_seq ?_
  refine yR ?_
  refine yM rfl ?_
  refine yN ?_
  refine h_condF rfl ?_
  refine h_skip ?_
  refine q_then ?_
  refine yR ?_
  refine yM rfl ?_
  refine yM rfl ?_
  refine yM rfl ?_
  refine h_call ((wrong_s g93 delB 0 2 (by decide)).comes) rfl rfl rfl fun _ => ?_
  refine yM rfl ?_
  refine yM rfl ?_
  refine yM rfl ?_
  refine h_op (r_bool (r_neb rfl rfl) rfl) ?_
  refine h_op (r_pick rfl rfl) ?_
  refine yS rfl ?_
  refine yS rfl ?_
  refine yN ?_
  refine h_ret ?_
  refine q_blockR ?_
  refine q_thenR ?_
  exact h_ret2 rfl rfl rfl fun w s => ⟨⟨(h, p, k, B, cB), LeZ.refl h, ht, by dsimp only; omega, hB, hcB⟩, rfl, (same (L' := [.zone true h, CN gc k, TreeF t0 gh p]) w s).res (List.Sublist.refl _) (by simp [Fa.wr])⟩
theorem DoApp_s (h3 : o.kind ≠ 0 ∧ o.kind ≠ 1 ∧ o.kind ≠ 2) : DoSp n gh gc t0 k h m p B cB o := by
 have hal : Alike m 0 := hord.alike
 have hus : ClsZ h o.us := hz.us
 have hfu := (fewO_val hf).2
 have hul := fewU_len hfu
 have huv := fun x hx => fewU_val hfu (x := x) hx
 have hbn := hz.n
 have hrb : RdZ h o.batch.A (cbs o.us) := hz.rd
 have hcost := costB_max (m.length + o.us.length) 0
 have hdo : doM m o = match checkU o.us with | none => applyU m o.us | some _ => m := by unfold doM; rw [if_neg h3.1, if_neg h3.2.1, if_neg h3.2.2]; cases checkU o.us <;> rfl
 unfold DoSp
 rw [hdo]
 rcases hR : checkU o.us with _ | ⟨i, e⟩
 ·dsimp only
  have hC := rCheckU_s h o.us o.batch.A o.batch.c hus (by omega) (fun x hx => by have := (huv x hx).1; omega) none hR
  rw [← hbn] at hC
  have hA := TApply_ok n hn gh gc k h hal p t0 o.us o.batch.A o.batch.c hus hR (by omega) (fun x hx => by have := (huv x hx).2; omega) (fun e he => (hvm e he).2) (by omega)
  rw [← hbn] at hA hcost
  have hA2 := fun (z : Zh) (hzz : LeZ h z) => @rApplyU_s z o.us o.batch.A o.batch.c (hrb.mono hzz) (hus.mono hzz) (fun x hx => by
   obtain ⟨j, hj, rfl⟩ := List.getElem_of_mem hx
   have := errU_len (checkU_none hR j hj)
   rwa [List.getD_eq_getElem?_getD, List.getElem?_eq_getElem hj] at this) m B cB (hB.mono hzz) hcB (by omega)
  rw [← hbn] at hA2
  generalize applyU m o.us = m' at *
  refine spec_of Tryz.func35 rfl (n := 132) rfl rfl ?_
  intro W
  refine yR ?_
  refine h_opX (x_box rfl) fun g5 => ?_
  refine yS rfl ?_
  refine yS rfl ?_
  refine yN ?_
  refine h_seq ?_
  refine yR ?_
  refine h_op (r_field rfl) ?_
  refine h_op (r_loadc rfl) ?_
  refine yN ?_
  refine h_block ?_
  refine yR ?_
  refine h_op (r_bool (r_eql rfl rfl) (decide_eq_false h3.1)) ?_
  refine yS rfl ?_
  refine yN ?_
  refine h_condF rfl ?_
  refine h_seq ?_
  refine yR ?_
  refine h_op (r_bool (r_eql rfl rfl) (decide_eq_false h3.2.1)) ?_
  refine yS rfl ?_
  refine yN ?_
  refine h_condF rfl ?_
  refine h_reg ?_
  refine h_op (r_bool (r_eql rfl rfl) (decide_eq_false h3.2.2)) ?_
  refine yS rfl ?_
  refine yN ?_
  refine h_condF rfl ?_
  refine h_skip ?_
  refine q_block ?_
  refine q_then ?_
  refine yR ?_
  refine h_op (r_field rfl) ?_
  refine h_op (r_loadc rfl) ?_
  refine h_call (hC.comes) rfl rfl rfl fun _ => ?_
  refine yM rfl ?_
  refine h_op (r_extract rfl rfl) ?_
  refine h_op (r_extract rfl rfl) ?_
  refine yS rfl ?_
  refine yS rfl ?_
  refine yN ?_
  refine h_seq ?_
  refine yR ?_
  refine yM rfl ?_
  refine h_op (r_field rfl) ?_
  refine h_op (r_loadc rfl) ?_
  refine h_call (hA.comes) rfl rfl rfl fun ⟨⟨h1, q, k1⟩, hle, htq, hk1⟩ => ?_
  dsimp only at hle htq hk1 ⊢
  refine yM rfl ?_
  refine yM rfl ?_
  refine h_call ((wrong_no appB 0).comes) rfl rfl rfl fun _ => ?_
  refine yN ?_
  refine h_condF rfl ?_
  refine h_skip ?_
  refine q_then ?_
  refine h_seq ?_
  refine yR ?_
  refine yM rfl ?_
  refine h_op (r_neq rfl rfl) ?_
  refine yN ?_
  refine h_condF rfl ?_
  refine h_skip ?_
  refine q_then ?_
  refine yR ?_
  refine yM rfl ?_
  refine h_op (r_field rfl) ?_
  refine h_op (r_loadc rfl) ?_
  refine h_call ((hA2 h1 hle).comes) rfl rfl rfl fun ⟨⟨z2, B2, c2⟩, hz2, hr2, hc2⟩ => ?_
  dsimp only at hz2 hr2 hc2 ⊢
  refine yS rfl ?_
  refine yS rfl ?_
  refine yN ?_
  refine h_ret ?_
  exact h_ret2 rfl rfl rfl fun w s => ⟨⟨(z2, q, k1, B2, c2), hle.trans hz2, ⟨htq.ok.mono hz2⟩, by dsimp only; omega, hr2, hc2⟩, rfl, (same (L' := [.zone true z2, CN gc k1, TreeF t0 gh q]) w s).res (List.Sublist.refl _) (by simp [Fa.wr])⟩
 ·dsimp only
  have he : e ≠ 0 := firstF_ne _ _ _ _ _ hR
  have hC := rCheckU_s h o.us o.batch.A o.batch.c hus (by omega) (fun x hx => by have := (huv x hx).1; omega) (some (i, e)) hR
  rw [← hbn] at hC
  have hA := TApply_bad h t0 o.us o.batch.A o.batch.c hus i e hR (by omega)
  rw [← hbn] at hA
  refine spec_of Tryz.func35 rfl (n := 132) rfl rfl ?_
  intro W
  refine yR ?_
  refine h_opX (x_box rfl) fun g5 => ?_
  refine yS rfl ?_
  refine yS rfl ?_
  refine yN ?_
  refine h_seq ?_
  refine yR ?_
  refine h_op (r_field rfl) ?_
  refine h_op (r_loadc rfl) ?_
  refine yN ?_
  refine h_block ?_
  refine yR ?_
  refine h_op (r_bool (r_eql rfl rfl) (decide_eq_false h3.1)) ?_
  refine yS rfl ?_
  refine yN ?_
  refine h_condF rfl ?_
  refine h_seq ?_
  refine yR ?_
  refine h_op (r_bool (r_eql rfl rfl) (decide_eq_false h3.2.1)) ?_
  refine yS rfl ?_
  refine yN ?_
  refine h_condF rfl ?_
  refine h_reg ?_
  refine h_op (r_bool (r_eql rfl rfl) (decide_eq_false h3.2.2)) ?_
  refine yS rfl ?_
  refine yN ?_
  refine h_condF rfl ?_
  refine h_skip ?_
  refine q_block ?_
  refine q_then ?_
  refine yR ?_
  refine h_op (r_field rfl) ?_
  refine h_op (r_loadc rfl) ?_
  refine h_call (hC.comes) rfl rfl rfl fun _ => ?_
  refine yM rfl ?_
  refine h_op (r_extract rfl rfl) ?_
  refine h_op (r_extract rfl rfl) ?_
  refine yS rfl ?_
  refine yS rfl ?_
  refine yN ?_
  refine h_seq ?_
  refine yR ?_
  refine yM rfl ?_
  refine h_op (r_field rfl) ?_
  refine h_op (r_loadc rfl) ?_
  refine h_call (hA.comes) rfl rfl rfl fun g120 => ?_
  refine yM rfl ?_
  refine yM rfl ?_
  refine h_call ((wrong_s g120 appB (i : Int) e he).comes) rfl rfl rfl fun _ => ?_
  refine yN ?_
  refine h_condF rfl ?_
  refine h_skip ?_
  refine q_then ?_
  refine h_seq ?_
  refine yR ?_
  refine yM rfl ?_
  refine h_op (r_neq rfl rfl) ?_
  refine yN ?_
  refine h_yes rfl (he) ?_
  refine yR ?_
  refine yM rfl ?_
  refine yS rfl ?_
  refine yS rfl ?_
  refine yN ?_
  refine h_ret ?_
  refine q_thenR ?_
  exact h_ret2 rfl rfl rfl fun w s => ⟨⟨(h, p, k, B, cB), LeZ.refl h, ht, by dsimp only; omega, hB, hcB⟩, rfl, (same (L' := [.zone true h, CN gc k, TreeF t0 gh p]) w s).res (List.Sublist.refl _) (by simp [Fa.wr])⟩
theorem Do_s : DoSp n gh gc t0 k h m p B cB o := by
 by_cases h0 : o.kind = 0
 ·exact DoPut_s n hn gh gc t0 k hk h hord hml p B cB hcB o hz hf h0
 by_cases h1 : o.kind = 1
 ·exact DoGet_s n gh gc t0 k h hord hml hvm p B cB hcB o hz hf h1
 by_cases h2 : o.kind = 2
 ·exact DoDel_s n hn gh gc t0 k hk h hord hml hvm p B cB hcB o hz hf h2
 exact DoApp_s n hn gh gc t0 k hk h hord hml hvm p B cB hcB o hz hf ⟨h0, h1, h2⟩
end
end Go.Proofs.YtjhlbbgikccclaaGreatDoor
/- N26 -/
namespace Go.Proofs.YtjhlbbgikccclaaGreatDoor
open Go.RowKit
instance (priority := 5) iRd1App (X L : List Fa) (r : Fa) [h : Rd1 L r] : Rd1 (X ++ L) r := ⟨fun hw => by
 obtain ⟨h1, h2, h3⟩ := h.ok (hw.sub (List.sublist_append_right X L))
 exact ⟨h1, h2, fun k hk => let ⟨f, hf, hk'⟩ := h3 k hk; ⟨f, List.mem_append_right X hf, hk'⟩⟩⟩
section
variable {P : Program} {A : List Fa} {W : World} {n : Nat} {D : List Deferred} {E : Env} {L M : List Fa} {K : Act → World → Prop}
theorem Spec.comesP {f : FuncId} {args : Array Value} {R A' : List Fa} {τ : Type} {v : τ → Value} {N : τ → List Fa} (hs : Spec P f args R A' v N) (hp : L.Perm (A' ++ M)) (hr : Rds M R) : Comes P A W L f args v (fun x => N x ++ M) := fun w s => by
 have s2 := s.perm hp
 refine (hs w (s2.toFx.sub (List.sublist_append_left _ _)) (s.reads hp hr)).mono ?_
 rintro e w' ⟨x, rfl, hx⟩
 exact ⟨x, rfl, s2.ret hx⟩
theorem rds_self {R : List Fa} (hw : ∀ r ∈ R, r.wr = false) : Rds R R := ⟨fun hS r hr => ⟨hw r hr, hS.ok r hr, fun k hk => ⟨r, hr, hk⟩⟩⟩
theorem freezeAll0 : ∀ (ys : List Seg) (h : Zh) (M : List Fa), (∀ z', LeZ h z' → (∀ x ∈ ys, SlZ z' ⟨x.1, x.2.2.length, x.2.1⟩ x.2.2) → H A W n D E (.zone true z' :: M) K) → H A W n D E (ownsOf ys ++ .zone true h :: M) K
 | [], h, M, k => k h (LeZ.refl h) (fun x hx => by cases hx)
 | y :: ys, h, M, k => by
  show H A W n D E (Fa.own (sv y) y.2.2.length 5 1 (bc y.2.2) :: (ownsOf ys ++ .zone true h :: M)) K
  refine h_freezeO (sv y) (hz := ⟨List.perm_middle⟩) fun h' B c e hc _ hnil hz hr => ?_
  have e1 : y.1 = B := by injection e
  have e2 : y.2.1 = c := by injection e
  have hs : SlZ h' ⟨y.1, y.2.2.length, y.2.1⟩ y.2.2 := by
   rw [e1, e2]
   exact ⟨rfl, hc, hnil, hr⟩
  refine fun a w ka s => freezeAll0 ys h' M (fun z' hz' hr' => k z' (hz.trans hz') fun x hx => (List.mem_cons.1 hx).elim (fun e => by rw [e]; exact hs.mono hz') (hr' x)) a w ka (s.perm List.perm_middle.symm)
theorem h_freezeAll (ys : List Seg) {L M M' : List Fa} {h : Zh} [ht : TakeA (ownsOf ys) L M] [hz : TakeZ M h M'] (k : ∀ z', LeZ h z' → (∀ x ∈ ys, SlZ z' ⟨x.1, x.2.2.length, x.2.1⟩ x.2.2) → H A W n D E (.zone true z' :: M') K) : H A W n D E L K := fun a w ka s =>
 freezeAll0 ys h M' k a w ka (s.perm (ht.perm.trans (List.Perm.append_left _ hz.perm)))
end
end Go.Proofs.YtjhlbbgikccclaaGreatDoor
/- U165 -/
namespace Go.Proofs.YtjhlbbgikccclaaGreatDoor
open Go.RowKit
structure Lf where
 p : Option Addr
 d : Nat
 k : B32
 v : List UInt8
def lvP (h : Zh) : Option Addr → Nat → Tr → List Lf
 | _, _, .nil => []
 | p, d, .leaf k v => [⟨p, d, k, v⟩]
 | p, d, .node l r => lvP h (subP h false p) (d + 1) l ++ lvP h (subP h true p) (d + 1) r
theorem lvP_lv (h : Zh) : ∀ (t : Tr) (p : Option Addr) (d : Nat), (lvP h p d t).map (fun x => (x.k, x.v)) = t.lv
 | .nil, _, _ => rfl
 | .leaf .., _, _ => rfl
 | .node l r, p, d => by
  show (lvP h _ _ l ++ lvP h _ _ r).map _ = l.lv ++ r.lv
  rw [List.map_append, lvP_lv h l, lvP_lv h r]
theorem lvP_ok (n : Nat) (h : Zh) : ∀ (t : Tr) (p : Option Addr) (d : Nat), TrZ n h t p → ∀ x ∈ lvP h p d t, TrZ n h (.leaf x.k x.v) x.p
 | .nil, _, _, _, x, hx => by cases hx
 | .leaf k v, p, d, ht, x, hx => by
  rw [List.mem_singleton.1 hx]; exact ht
 | .node l r, p, d, ht, x, hx => by
  rcases List.mem_append.1 hx with hx | hx
  ·exact lvP_ok n h l _ _ (TrZ.left ht) x hx
  ·exact lvP_ok n h r _ _ (TrZ.right ht) x hx
def encL (x : Lf) : List Value := [.pointer x.p, .int .i64 (x.d : Int)]
section
variable (n : Nat) (h : Zh) (l : Nat) (J : List Lf → List Fa → Prop) (Rm : List Fa) (xs : List Lf) (hJw : ∀ pre m, J pre m → ∀ f ∈ m, f.wr = true) (hRm : ∀ r ∈ Rm, r.wr = false) (hy : ∀ pre x post m, xs = pre ++ x :: post → J pre m → YA Tryz.prog l (encL x) Rm m (J (pre ++ [x])))
include hJw hRm hy
theorem leaves_s : ∀ (t : Tr) (p : Option Addr) (d : Nat), d + t.ht ≤ 1000 → TrZ n h t p → ∀ (pre post : List Lf) (m0 : List Fa), xs = pre ++ lvP h p d t ++ post → J pre m0 →
  Spec Tryz.prog 160 [.pointer p, .int .i64 (d : Int), .func (.yield l) #[] #[]].toArray (.zone false h :: Rm) m0 (fun _ : {m : List Fa // J (pre ++ lvP h p d t) m} => .bool true) (fun x => x.1) := by
 intro t
 induction t with
 | nil =>
  intro p d hd ht pre post m0 hxs hJ
  have hK := Kind_s n h .nil p
  haveI : ∀ M, App m0 M (m0 ++ M) := fun _ => ⟨rfl⟩
  refine spec_of Tryz.func160 rfl (n := 31) rfl rfl ?_
  intro W
  refine h_L (fun _ s => s.perm List.perm_middle) ?_
  refine yR ?_
  refine yS rfl ?_
  refine yN ?_
  refine h_seq ?_
  refine yR ?_
  refine yM rfl ?_
  refine h_call (hK.comes) rfl rfl rfl fun _ => ?_
  refine yN ?_
  refine h_block ?_
  refine yR ?_
  refine h_op (r_bool (r_eql rfl rfl) (show _ = false from rfl)) ?_
  refine yS rfl ?_
  refine yN ?_
  refine h_condF rfl ?_
  refine yR ?_
  refine h_op (r_bool (r_eql rfl rfl) (show _ = false from rfl)) ?_
  refine yS rfl ?_
  refine yN ?_
  refine h_condF rfl ?_
  refine h_skip ?_
  refine q_block ?_
  refine q_then ?_
  refine yR ?_
  refine yS rfl ?_
  refine yN ?_
  refine h_ret ?_
  exact h_ret1 rfl rfl fun w s => ⟨⟨m0, by rw [show lvP h p d .nil = [] from rfl, List.append_nil]; exact hJ⟩, rfl, s.tail.res (List.sublist_append_left _ _) (hJw _ _ hJ)⟩
 | leaf k v =>
  intro p d hd ht pre post m0 hxs hJ
  have hK := Kind_s n h (.leaf k v) p
  have hyy := hy pre ⟨p, d, k, v⟩ post m0 (by rw [hxs]; simp [lvP]) hJ
  haveI : ∀ M, App m0 M (m0 ++ M) := fun _ => ⟨rfl⟩
  refine spec_of Tryz.func160 rfl (n := 31) rfl rfl ?_
  intro W
  refine h_L (fun _ s => s.perm List.perm_middle) ?_
  refine yR ?_
  refine yS rfl ?_
  refine yN ?_
  refine h_seq ?_
  refine yR ?_
  refine yM rfl ?_
  refine h_call (hK.comes) rfl rfl rfl fun _ => ?_
  refine yN ?_
  refine h_block ?_
  refine yR ?_
  refine h_op (r_bool (r_eql rfl rfl) (show _ = true from rfl)) ?_
  refine yS rfl ?_
  refine yN ?_
  refine h_condT rfl ?_
  refine yR ?_
  refine yM rfl ?_
  refine yM rfl ?_
  refine yM rfl ?_
  refine h_yield (hyy) hRm rfl rfl fun m' hJ' => ?_
  refine yS rfl ?_
  refine yN ?_
  refine h_ret ?_
  refine q_blockR ?_
  refine q_thenR ?_
  exact h_ret1 rfl rfl fun w s => ⟨⟨m', hJ'⟩, rfl, s.tail.res (List.sublist_append_left _ _) (hJw _ _ hJ')⟩
 | node a b iha ihb =>
  intro p d hd ht pre post m0 hxs hJ
  have hd' : d + (max a.ht b.ht + 1) ≤ 1000 := hd
  have hK := Kind_s n h (.node a b) p
  have hLe := Left_s n h (.node a b) p
  have hRi := Right_s n h (.node a b) p
  have e : lvP h p d (.node a b) = lvP h (subP h false p) (d + 1) a ++ lvP h (subP h true p) (d + 1) b := rfl
  rw [e] at hxs ⊢
  have hA := iha (subP h false p) (d + 1) (by omega) (TrZ.left ht) pre (lvP h (subP h true p) (d + 1) b ++ post) m0 (by rw [hxs]; simp) hJ
  haveI : ∀ M, App m0 M (m0 ++ M) := fun _ => ⟨rfl⟩
  have hR0 : ∀ r ∈ (.zone false h :: Rm), r.wr = false := fun r hr => (List.mem_cons.1 hr).elim (fun e => by rw [e]; rfl) (hRm r)
  refine spec_of Tryz.func160 rfl (n := 31) rfl rfl ?_
  intro W
  refine h_L (fun _ s => s.perm List.perm_middle) ?_
  refine yR ?_
  refine yS rfl ?_
  refine yN ?_
  refine h_seq ?_
  refine yR ?_
  refine yM rfl ?_
  refine h_call (hK.comes) rfl rfl rfl fun _ => ?_
  refine yN ?_
  refine h_block ?_
  refine yR ?_
  refine h_op (r_bool (r_eql rfl rfl) (show _ = false from rfl)) ?_
  refine yS rfl ?_
  refine yN ?_
  refine h_condF rfl ?_
  refine yR ?_
  refine h_op (r_bool (r_eql rfl rfl) (show _ = true from rfl)) ?_
  refine yS rfl ?_
  refine yN ?_
  refine h_condT rfl ?_
  refine yR ?_
  refine yM rfl ?_
  refine h_call (hLe.comes) rfl rfl rfl fun _ => ?_
  refine yM rfl ?_
  refine h_op (r_int (r_add rfl rfl) (show _ = ((d + 1 : Nat) : Int) by omega)) ?_
  refine yM rfl ?_
  refine h_call (hA.comesP List.perm_middle.symm (rds_self hR0)) rfl rfl rfl fun ⟨m1, hJ1⟩ => ?_
  dsimp only
  have hB := ihb (subP h true p) (d + 1) (by omega) (TrZ.right ht) (pre ++ lvP h (subP h false p) (d + 1) a) post m1 (by rw [hxs]; simp) hJ1
  refine h_L (fun _ s => s.perm List.perm_middle) ?_
  refine yM rfl ?_
  refine yM rfl ?_
  refine h_call (hRi.comes) rfl rfl rfl fun _ => ?_
  refine yM rfl ?_
  refine h_op (r_int (r_add rfl rfl) (show _ = ((d + 1 : Nat) : Int) by omega)) ?_
  refine yM rfl ?_
  refine h_call (hB.comesP List.perm_middle.symm (rds_self hR0)) rfl rfl rfl fun ⟨m2, hJ2⟩ => ?_
  dsimp only
  refine h_op (r_pick rfl rfl) ?_
  refine yS rfl ?_
  refine yN ?_
  refine h_ret ?_
  refine q_blockR ?_
  refine q_thenR ?_
  exact h_ret1 rfl rfl fun w s => ⟨⟨m2, by rw [← List.append_assoc]; exact hJ2⟩, rfl, s.res (List.sublist_append_left _ _) (hJw _ _ hJ2)⟩
end
theorem each_s (p : Option Addr) : Spec Tryz.prog 104 [.pointer p].toArray [] [] (fun g : Nat => .func (.func 159) #[] [.pointer (some ⟨g, 0, none⟩)].toArray) (fun g => [.blk g [.pointer p] 31]) := by
 refine spec_of Tryz.func104 rfl (n := 4) rfl rfl ?_
 intro W
 refine yR ?_
 refine h_opX (x_box1 rfl) fun g1 => ?_
 refine yS rfl ?_
 refine yN ?_
 refine yR ?_
 refine h_op (r_func rfl rfl) ?_
 refine yS rfl ?_
 refine yN ?_
 refine h_ret ?_
 exact h_ret1 rfl rfl fun w s => ⟨g1, rfl, (same w s).res (List.Sublist.refl _) (by simp [Fa.wr])⟩
theorem each_it (n : Nat) (h : Zh) (t : Tr) (p : Option Addr) (ht : TrZ n h t p) (hh : t.ht ≤ 1000) (g1 : Nat) : Iter Tryz.prog 159 [.pointer (some ⟨g1, 0, none⟩)] [.rd (some ⟨g1, 0, none⟩) [.pointer p], .zone false h] [] (lvP h p 0 t) encL [] := by
 refine iter_of Tryz.func159 rfl (n := 6) rfl rfl ?_
 intro l J Rm m0 W hJw hRm hy h0
 have hS := leaves_s n h l J Rm (lvP h p 0 t) hJw hRm hy t p 0 (by omega) ht [] [] m0 (by simp) h0
 have hR0 : ∀ r ∈ (.zone false h :: Rm), r.wr = false := fun r hr => (List.mem_cons.1 hr).elim (fun e => by rw [e]; rfl) (hRm r)
 have hR1 : Rds (.rd (some ⟨g1, 0, none⟩) [.pointer p] :: .zone false h :: Rm) (.zone false h :: Rm) := ⟨fun hS r hr => ⟨hR0 r hr, hS.ok r (List.mem_cons_of_mem _ hr), fun k hk => ⟨r, List.mem_cons_of_mem _ hr, hk⟩⟩⟩
 refine h_reg ?_
 refine h_op (r_loadc rfl) ?_
 refine yM rfl ?_
 refine h_call (hS.comesP (show List.Perm _ (m0 ++ (.rd (some ⟨g1, 0, none⟩) [.pointer p] :: .zone false h :: Rm)) from (((List.perm_middle (a := Fa.zone false h) (l₁ := m0) (l₂ := Rm)).symm.cons _).trans List.perm_middle.symm)) hR1) rfl rfl rfl fun ⟨m1, hJ1⟩ => ?_
 dsimp only
 rw [List.nil_append] at hJ1
 refine h_nil ?_
 refine h_end ?_
 exact h_ret0 rfl fun w s => ⟨_, m1, rfl, hJ1, s.res (List.sublist_append_left _ _) (hJw _ _ hJ1)⟩
end Go.Proofs.YtjhlbbgikccclaaGreatDoor
/- U166 -/
namespace Go.Proofs.YtjhlbbgikccclaaGreatDoor
open Go.RowKit
def entL (xs : List Lf) (us : List Seg) : List En := List.zipWith (fun x (u : Seg) => ⟨⟨x.k, ⟨u.1, x.v.length, u.2.1⟩⟩, x.v⟩) xs us
structure EntOk (xs : List Lf) (us : List Seg) : Prop where
 len : us.length = xs.length
 val : us.map (fun u => u.2.2) = xs.map Lf.v
theorem EntOk.snoc {xs : List Lf} {us : List Seg} (h : EntOk xs us) (x : Lf) (A : Option Addr) (c : Nat) : EntOk (xs ++ [x]) (us ++ [(A, c, x.v)]) := ⟨by rw [List.length_append, List.length_append, h.len]; rfl, by rw [List.map_append, List.map_append, h.val]; rfl⟩
theorem entL_snoc {xs : List Lf} {us : List Seg} (h : EntOk xs us) (x : Lf) (A : Option Addr) (c : Nat) : entL (xs ++ [x]) (us ++ [(A, c, x.v)]) = entL xs us ++ [⟨⟨x.k, ⟨A, x.v.length, c⟩⟩, x.v⟩] := by
 unfold entL
 rw [List.zipWith_append h.len.symm]
 rfl
theorem entL_len {xs : List Lf} {us : List Seg} (h : EntOk xs us) : (entL xs us).length = xs.length := by unfold entL; rw [List.length_zipWith, h.len, Nat.min_self]
theorem entL_kv {xs : List Lf} {us : List Seg} (h : EntOk xs us) : (entL xs us).map kvE' = xs.map fun x => (x.k, x.v) := by
 have h1 := h.len
 clear h
 induction xs generalizing us with
 | nil => rfl
 | cons x xs ih =>
  cases us with
  | nil => simp at h1
  | cons u us =>
   have := ih (us := us) (by simpa using h1)
   unfold entL at this ⊢
   rw [List.zipWith_cons_cons, List.map_cons, List.map_cons, this]
   rfl
theorem entL_vals {z : Zh} {xs : List Lf} {us : List Seg} (h : EntOk xs us) (hz : ∀ u ∈ us, SlZ z ⟨u.1, u.2.2.length, u.2.1⟩ u.2.2) (hl : ∀ x ∈ xs, x.v.length ≤ 10000000) : ValsZ z (entL xs us) := by
 have h1 := h.len
 have h2 := h.val
 clear h
 induction xs generalizing us with
 | nil => intro e he; simp [entL] at he
 | cons x xs ih =>
  cases us with
  | nil => simp at h1
  | cons u us =>
   rw [List.map_cons, List.map_cons] at h2
   injection h2 with h3 h4
   intro e he
   unfold entL at he
   rw [List.zipWith_cons_cons] at he
   rcases List.mem_cons.1 he with rfl | he
   ·have := hz u (List.mem_cons_self ..)
    rw [h3] at this
    exact ⟨this, hl x (List.mem_cons_self ..)⟩
   ·exact ih (us := us) (fun u hu => hz u (List.mem_cons_of_mem _ hu)) (fun y hy => hl y (List.mem_cons_of_mem _ hy)) (by simpa using h1) h4 e he
theorem ownsOf_snoc (us : List Seg) (u : Seg) : ownsOf (us ++ [u]) = ownsOf us ++ [Fa.own (sv u) u.2.2.length 5 1 (bc u.2.2)] := by
 induction us with
 | nil => rfl
 | cons y us ih => show _ :: ownsOf (us ++ [u]) = _; rw [ih]; rfl
def JE (g3 : Nat) (pre : List Lf) (m : List Fa) : Prop := ∃ (us : List Seg) (A : Option Addr) (c : Nat), EntOk pre us ∧ m = .blk g3 [.slice A (entL pre us).length c] 24 :: .own (.slice A (entL pre us).length c) (entL pre us).length 89 33 (ents (entL pre us)) :: ownsOf us
theorem perm_end {a b c u o z : Fa} {X : List Fa} : (a :: b :: c :: u :: o :: (X ++ [z])).Perm ((o :: a :: b :: (X ++ [u])) ++ [c, z]) := by
 have h1 : (u :: c :: (X ++ [z])).Perm ((X ++ [u]) ++ [c, z]) := by
  rw [List.append_assoc]
  exact (List.perm_middle.symm.cons u).trans List.perm_middle.symm
 have h2 : (a :: b :: c :: u :: o :: (X ++ [z])).Perm (o :: a :: b :: u :: c :: (X ++ [z])) := by
  have h3 : [a, b, c, u, o].Perm [o, a, b, u, c] := (List.perm_append_comm (l₁ := [a, b, c, u]) (l₂ := [o])).trans (((List.Perm.swap u c []).cons b |>.cons a).cons o)
  exact h3.append_right (X ++ [z])
 exact h2.trans (((h1.cons b).cons a).cons o)
theorem JE_wr {g3 : Nat} {pre : List Lf} {m : List Fa} (h : JE g3 pre m) : ∀ f ∈ m, f.wr = true := by
 obtain ⟨us, A, c, hus, rfl⟩ := h
 intro f hf
 rcases List.mem_cons.1 hf with rfl | hf
 ·rfl
 ·rcases List.mem_cons.1 hf with rfl | hf
  ·rfl
  ·exact ownsOf_wr us f hf
theorem Entries_s (n : Nat) (h : Zh) (t : Tr) (p : Option Addr) (ht : TrZ n h t p) (hh : t.ht ≤ 1000) (hc : (lvP h p 0 t).length ≤ 1000000) (hv : ∀ x ∈ lvP h p 0 t, x.v.length ≤ 1000000000) : Spec Tryz.prog 52 [.pointer p].toArray [.zone false h] [] (fun u : {u : List Seg × Option Addr × Nat // EntOk (lvP h p 0 t) u.1} => .slice u.1.2.1 (entL (lvP h p 0 t) u.1.1).length u.1.2.2) (fun u => .own (.slice u.1.2.1 (entL (lvP h p 0 t) u.1.1).length u.1.2.2) (entL (lvP h p 0 t) u.1.1).length 89 33 (ents (entL (lvP h p 0 t) u.1.1)) :: ownsOf u.1.1) := by
 have hok := lvP_ok n h t p 0 ht
 refine spec_of Tryz.func52 rfl (n := 15) rfl rfl ?_
 intro W
 refine yR ?_
 refine yS rfl ?_
 refine yN ?_
 refine yR ?_
 refine h_opX (x_alloc) fun g3 => ?_
 refine yN ?_
 refine h_seq ?_
 refine yR ?_
 refine yM rfl ?_
 refine h_nil_own 89 33 (xs := []) rfl ?_
 refine h_call ((each_s p).comes) rfl rfl rfl fun g6 => ?_
 refine yN ?_
 refine h_block ?_
 refine h_range (each_it n h t p ht hh g6) rfl (JE g3) [.blk g3 [.slice none 0 0] 24, .own (.slice none 0 0) 0 89 33 []] [.zone false h] (fun _ _ h => JE_wr h) ⟨[], none, 0, ⟨rfl, rfl⟩, rfl⟩ rfl (fun _ => rfl) ?_ ?_
 ·intro ll rr pre x post mm W1 hr hrp hxs hJ2
  obtain ⟨us, A, c, hus, rfl⟩ := hJ2
  have hxm : x ∈ lvP h p 0 t := by rw [hxs]; simp
  have htx := hok x hxm
  have hEn := Entry_s n h x.k x.v (hv x hxm) x.p
  have hplen : pre.length ≤ 1000000 := by
   have := congrArg List.length hxs
   rw [List.length_append] at this
   omega
  have hel := entL_len hus
  have hsn := entL_snoc hus x
  simp only [List.cons_append]
  refine h_reg ?_
  refine yS rfl ?_
  refine yN ?_
  refine h_begin hr ?_
  refine h_block ?_
  refine ha_start [.blk g3 [.slice A (entL pre us).length c] 24] [] mixed (same) ?_
  refine ha_take 0 rfl (r_loadc rfl) ?_
  refine ha_takeP 1 rfl (r_move rfl) ?_
  refine ha_one 2 ?_
  refine ho_C 2 rfl (hEn.comes) rfl rfl rfl (fun xx => same) fun ⟨A11, c11⟩ => ?_
  refine ha_one 3 ?_
  refine ho_X 3 rfl (rk (x_bsl rfl rfl)) (fun _ => same) fun g12 => ?_
  refine ha_one 4 ?_
  refine ho_X 4 rfl (rk (x_app rfl rfl (k := 33))) (fun _ => same) fun ⟨g13, c13⟩ => ?_
  refine ha_one 5 ?_
  refine ho_SL 5 rfl (s_store rfl rfl rfl) ?_
  refine q_block ?_
  rw [show Entry.cells _ = (⟨⟨x.k, ⟨A11, x.v.length, c11⟩⟩, x.v⟩ : En).e.cells from rfl, ents_snoc, ← hsn A11 c11, show (entL pre us).length + 1 = (entL (pre ++ [x]) (us ++ [(A11, c11, x.v)])).length by rw [hsn, List.length_append]; rfl]
  exact h_endround (ht := ⟨perm_end⟩) (.blk g3 [.slice (some ⟨g13, 0, none⟩) (entL (pre ++ [x]) (us ++ [(A11, c11, x.v)])).length c13] 24 :: .own (.slice (some ⟨g13, 0, none⟩) (entL (pre ++ [x]) (us ++ [(A11, c11, x.v)])).length c13) (entL (pre ++ [x]) (us ++ [(A11, c11, x.v)])).length 89 33 (ents (entL (pre ++ [x]) (us ++ [(A11, c11, x.v)]))) :: (ownsOf us ++ [.own (.slice A11 x.v.length c11) x.v.length 5 1 (bc x.v)])) hr hrp ⟨us ++ [(A11, c11, x.v)], some ⟨g13, 0, none⟩, c13, hus.snoc x A11 c11, by rw [ownsOf_snoc]; rfl⟩ (by
   intro f hf
   rcases List.mem_cons.1 hf with rfl | hf
   ·rfl
   ·rcases List.mem_cons.1 hf with rfl | hf
    ·rfl
    ·rcases List.mem_append.1 hf with hf | hf
     ·exact ownsOf_wr us f hf
     ·rw [List.mem_singleton.1 hf]; rfl)
 ·intro bb mm hJ2
  obtain ⟨us, A, c, hus, rfl⟩ := hJ2
  refine q_block ?_
  refine q_then ?_
  simp only [List.nil_append, List.cons_append]
  refine yR ?_
  refine h_op (r_loadc rfl) ?_
  refine yS rfl ?_
  refine yN ?_
  refine h_ret ?_
  refine h_L (fun _ s => s.perm ((List.perm_append_comm.cons _).cons _)) ?_
  simp only [List.cons_append, List.nil_append]
  refine h_mark ?_
  exact h_ret1 rfl rfl fun w s => ⟨⟨(us, A, c), hus⟩, rfl, s.res ((List.Sublist.cons_cons _ (List.Sublist.cons _ (List.Sublist.cons _ (List.Sublist.refl _)))).cons _) (fun f hf => (List.mem_cons.1 hf).elim (fun e => by rw [e]; rfl) (ownsOf_wr us f))⟩
end Go.Proofs.YtjhlbbgikccclaaGreatDoor
/- U167 -/
namespace Go.Proofs.YtjhlbbgikccclaaGreatDoor
open Go.RowKit
section
variable (t0 gh : Nat) (p : Option Addr)
theorem TNode_s : Spec Tryz.prog 15 [.pointer (some ⟨t0, 0, none⟩)].toArray [.rd (some ⟨t0, 0, none⟩) [.pointer (some ⟨gh, 0, none⟩), .pointer p]] [] (fun _ : Unit => .pointer p) (fun _ => []) := by
 refine spec_of Tryz.func15 rfl (n := 9) rfl rfl ?_
 intro W
 refine yR ?_
 refine yS rfl ?_
 refine yN ?_
 refine h_seq ?_
 refine yR ?_
 refine yM rfl ?_
 refine h_op (r_nilR rfl rfl) ?_
 refine yN ?_
 refine h_condF rfl ?_
 refine h_skip ?_
 refine q_then ?_
 refine yR ?_
 refine yM rfl ?_
 refine h_op (r_nilc rfl) ?_
 refine h_op (r_field rfl) ?_
 refine h_op (r_loadc rfl) ?_
 refine yS rfl ?_
 refine yN ?_
 refine h_ret ?_
 exact h_ret1 rfl rfl fun w s => ⟨(), rfl, s.res (List.nil_sublist _) (by simp)⟩
theorem TNode_nil : Spec Tryz.prog 15 [.pointer none].toArray [] [] (fun _ : Unit => .pointer none) (fun _ => []) := by
 refine spec_of Tryz.func15 rfl (n := 9) rfl rfl ?_
 intro W
 refine yR ?_
 refine yS rfl ?_
 refine yN ?_
 refine h_seq ?_
 refine yR ?_
 refine yM rfl ?_
 refine h_op (r_nilR rfl rfl) ?_
 refine yN ?_
 refine h_condT rfl ?_
 refine yR ?_
 refine yS rfl ?_
 refine yN ?_
 refine h_ret ?_
 refine q_thenR ?_
 exact h_ret1 rfl rfl fun w s => ⟨(), rfl, s.res (List.nil_sublist _) (by simp)⟩
theorem THasher_nil : Spec Tryz.prog 22 [.pointer none].toArray [] [] (fun _ : Unit => .pointer none) (fun _ => []) := by
 refine spec_of Tryz.func22 rfl (n := 9) rfl rfl ?_
 intro W
 refine yR ?_
 refine yS rfl ?_
 refine yN ?_
 refine h_seq ?_
 refine yR ?_
 refine yM rfl ?_
 refine h_op (r_nilR rfl rfl) ?_
 refine yN ?_
 refine h_condT rfl ?_
 refine yR ?_
 refine yS rfl ?_
 refine yN ?_
 refine h_ret ?_
 refine q_thenR ?_
 exact h_ret1 rfl rfl fun w s => ⟨(), rfl, s.res (List.nil_sublist _) (by simp)⟩
theorem TClone_s : Spec Tryz.prog 46 [.pointer (some ⟨t0, 0, none⟩)].toArray [.rd (some ⟨t0, 0, none⟩) [.pointer (some ⟨gh, 0, none⟩), .pointer p]] [] (fun g : Nat => .pointer (some ⟨g, 0, none⟩)) (fun g => [TreeF g gh p]) := by
 refine spec_of Tryz.func46 rfl (n := 9) rfl rfl ?_
 intro W
 refine yR ?_
 refine yS rfl ?_
 refine yN ?_
 refine h_seq ?_
 refine yR ?_
 refine yM rfl ?_
 refine h_op (r_nilR rfl rfl) ?_
 refine yN ?_
 refine h_condF rfl ?_
 refine h_skip ?_
 refine q_then ?_
 refine yR ?_
 refine yM rfl ?_
 refine h_op (r_nilc rfl) ?_
 refine h_op (r_loadr rfl) ?_
 refine h_opX (x_alloc) fun g3 => ?_
 refine h_opS (s_storer rfl rfl) ?_
 refine yN ?_
 refine yR ?_
 refine yS rfl ?_
 refine yN ?_
 refine h_ret ?_
 exact h_ret1 rfl rfl fun w s => ⟨g3, rfl, (same (L' := [TreeF g3 gh p]) w s).res (List.Sublist.refl _) (by simp [Fa.wr])⟩
theorem TClone_nil : Spec Tryz.prog 46 [.pointer none].toArray [] [] (fun _ : Unit => .pointer none) (fun _ => []) := by
 refine spec_of Tryz.func46 rfl (n := 9) rfl rfl ?_
 intro W
 refine yR ?_
 refine yS rfl ?_
 refine yN ?_
 refine h_seq ?_
 refine yR ?_
 refine yM rfl ?_
 refine h_op (r_nilR rfl rfl) ?_
 refine yN ?_
 refine h_condT rfl ?_
 refine yR ?_
 refine yS rfl ?_
 refine yN ?_
 refine h_ret ?_
 refine q_thenR ?_
 exact h_ret1 rfl rfl fun w s => ⟨(), rfl, s.res (List.nil_sublist _) (by simp)⟩
theorem TRoot_nil : Spec Tryz.prog 18 [.pointer none].toArray [] [] (fun _ : Unit => .agg zB32.cells.toArray) (fun _ => []) := by
 refine spec_of Tryz.func18 rfl (n := 15) rfl rfl ?_
 intro W
 refine yR ?_
 refine h_opX (x_alloc) fun g2 => ?_
 refine yN ?_
 refine h_seq ?_
 refine yR ?_
 refine yM rfl ?_
 refine h_op (r_nilR rfl rfl) ?_
 refine yN ?_
 refine h_condT rfl ?_
 refine yR ?_
 refine h_op (r_build (out := zB32.cells) rfl) ?_
 refine h_opS (s_storer rfl rfl) ?_
 refine yN ?_
 refine h_ret ?_
 refine q_thenR ?_
 exact h_ret1 rfl (rv_row rfl) fun w s => ⟨(), rfl, s.res (List.nil_sublist _) (by simp)⟩
section
variable (n : Nat) (h : Zh) (t : Tr) [ht : TrZ n h t p]
include ht
theorem TLen_s : Spec Tryz.prog 19 [.pointer (some ⟨t0, 0, none⟩)].toArray [.rd (some ⟨t0, 0, none⟩) [.pointer (some ⟨gh, 0, none⟩), .pointer p], .zone false h] [] (fun _ : Unit => .int .i64 ((t.cnt : Nat) : Int)) (fun _ => []) := by
 refine spec_of Tryz.func19 rfl (n := 6) rfl rfl ?_
 intro W
 refine yR ?_
 refine yS rfl ?_
 refine yN ?_
 refine yR ?_
 refine yM rfl ?_
 refine h_call ((TNode_s t0 gh p).comes) rfl rfl rfl fun _ => ?_
 refine h_call ((NLen_s n h t p).comes) rfl rfl rfl fun _ => ?_
 refine yS rfl ?_
 refine yN ?_
 refine h_ret ?_
 exact h_ret1 rfl rfl fun w s => ⟨(), rfl, s.res (List.nil_sublist _) (by simp)⟩
theorem TRoot_s (hn : n ≤ 256) (gc k : Nat) (hk : k ≤ 1000000000000) : Spec Tryz.prog 18 [.pointer (some ⟨t0, 0, none⟩)].toArray [HR gh gc n, .rd (some ⟨t0, 0, none⟩) [.pointer (some ⟨gh, 0, none⟩), .pointer p], .zone false h, TBL] [CN gc k] (fun _ : Unit => .agg (dgT n t).cells.toArray) (fun _ => [CN gc (k + if t.kind = 0 then 1 else 0)]) := by
 have hD := Digest_s n hn gh gc k hk h t p
 generalize k + (if t.kind = 0 then 1 else 0) = k1 at *
 refine spec_of Tryz.func18 rfl (n := 15) rfl rfl ?_
 intro W
 refine yR ?_
 refine h_opX (x_alloc) fun g2 => ?_
 refine yN ?_
 refine h_seq ?_
 refine yR ?_
 refine yM rfl ?_
 refine h_op (r_nilR rfl rfl) ?_
 refine yN ?_
 refine h_condF rfl ?_
 refine h_skip ?_
 refine q_then ?_
 refine h_seq ?_
 refine ha_start [.rd (some ⟨t0, 0, none⟩) [.pointer (some ⟨gh, 0, none⟩), .pointer p]] [] mixed (same) ?_
 refine ha_takeP 0 rfl (r_move rfl) ?_
 refine ha_takeP 1 rfl (r_nilc rfl) ?_
 refine ha_takeP 2 rfl (r_field rfl) ?_
 refine ha_take 3 rfl (r_loadc rfl) ?_
 refine ha_takeP 4 rfl (r_move rfl) ?_
 refine ha_takeP 5 rfl (r_nilc rfl) ?_
 refine ha_takeP 6 rfl (r_field rfl) ?_
 refine ha_take 7 rfl (r_loadc rfl) ?_
 refine ha_one 8 ?_
 refine ho_C 8 rfl (hD.comes) rfl rfl rfl (fun xx => same) fun _ => ?_
 refine ha_one 9 ?_
 refine ho_SL 9 rfl (s_storer rfl rfl) ?_
 refine q_then ?_
 refine h_ret ?_
 exact h_ret1 rfl (rv_row rfl) fun w s => ⟨(), rfl, (same (L' := [CN gc k1]) w s).res (List.Sublist.refl _) (by simp [Fa.wr])⟩
end
end
section
variable (t0 gh : Nat) (p : Option Addr) (n : Nat) (h : Zh) {m : List En} (ho : OrdM m) [ht : TrZ n h (mkT m 0) p]
include ho
omit ht in
theorem lvP_map : (lvP h p 0 (mkT m 0)).map (fun x => (x.k, x.v)) = m.map kvE' := by
 rw [lvP_lv, lv_mkT (by omega) ho.alike ho]
 rfl
omit ht in
theorem lvP_mem (hv : ∀ e ∈ m, e.val.length ≤ 10000000) : ∀ x ∈ lvP h p 0 (mkT m 0), x.v.length ≤ 10000000 := fun x hx => by
 have h1 : (x.k, x.v) ∈ (lvP h p 0 (mkT m 0)).map fun x => (x.k, x.v) := List.mem_map_of_mem hx
 rw [lvP_map p h ho] at h1
 obtain ⟨e, he, h2⟩ := List.mem_map.1 h1
 rw [← show e.val = x.v from congrArg Prod.snd h2]
 exact hv e he
omit ht in
theorem lvP_len : (lvP h p 0 (mkT m 0)).length = m.length := by
 have := congrArg List.length (lvP_map p h ho)
 rwa [List.length_map, List.length_map] at this
include ht in
theorem TEntries_s (hv : ∀ e ∈ m, e.val.length ≤ 10000000) (hml : m.length ≤ 100000) : Spec Tryz.prog 40 [.pointer (some ⟨t0, 0, none⟩)].toArray [.rd (some ⟨t0, 0, none⟩) [.pointer (some ⟨gh, 0, none⟩), .pointer p], .zone false h] [] (fun u : {u : List Seg × Option Addr × Nat // EntOk (lvP h p 0 (mkT m 0)) u.1} => .slice u.1.2.1 (entL (lvP h p 0 (mkT m 0)) u.1.1).length u.1.2.2) (fun u => .own (.slice u.1.2.1 (entL (lvP h p 0 (mkT m 0)) u.1.1).length u.1.2.2) (entL (lvP h p 0 (mkT m 0)) u.1.1).length 89 33 (ents (entL (lvP h p 0 (mkT m 0)) u.1.1)) :: ownsOf u.1.1) := by
 have hht := mkT_ht (d := 0) (by omega) ho.alike
 have hm := lvP_mem p h ho hv
 have hE := Entries_s n h (mkT m 0) p ht (by omega) (by rw [lvP_len p h ho]; omega) (fun x hx => by have := hm x hx; omega)
 refine spec_of Tryz.func40 rfl (n := 6) rfl rfl ?_
 intro W
 refine yR ?_
 refine yS rfl ?_
 refine yN ?_
 refine yR ?_
 refine yM rfl ?_
 refine h_call ((TNode_s t0 gh p).comes) rfl rfl rfl fun _ => ?_
 refine h_call (hE.comes) rfl rfl rfl fun ⟨⟨us, A, c⟩, hus⟩ => ?_
 dsimp only at hus ⊢
 refine yS rfl ?_
 refine yN ?_
 refine h_ret ?_
 exact h_ret1 rfl rfl fun w s => ⟨⟨(us, A, c), hus⟩, rfl, s.res (List.Sublist.cons_cons _ (List.sublist_append_left _ _)) (fun f hf => (List.mem_cons.1 hf).elim (fun e => by rw [e]; rfl) (ownsOf_wr us f))⟩
end
end Go.Proofs.YtjhlbbgikccclaaGreatDoor
