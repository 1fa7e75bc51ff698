/- mverify: show, all of it; mcodec: payload, Size, Siblings; A shift to the right of a number that is not negative; mcodec.Encode of items that are well-formed; mcodec.item, of the bytes of an item that is well-formed; mcodec.Decode, of the bytes of items that are well-formed; Shifts by eight to the left and a byte put in, for numbers below 2 to the 32; mcodec.Decode, of all bytes: the head (the rest is still to be walked); mcodec.item, of all bytes that are enough; A contract at more memory; mcodec.Decode of all bytes (joined texts: U123 U110 N18 U111 U112 U113 N20 U116 U117 U118) -/
import Derived.Test.YtjhocljhhpkiiaaGreatDoorH14
import Derived.Scope
set_option linter.all false
/- U123 -/
namespace Go.Proofs.YtjhocljhhpkiiaaGreatDoor
set_option linter.unusedSimpArgs false
set_option linter.unusedVariables false
open Go.RowKit
theorem parse_cost {l : List Item} {t : Sub} (h : parseM l = .ok t) : t.cost ≤ l.length := by
  have h2 := readM_cost 256 l t [] (parse_ok h).1
  simpa using h2
section
variable (n : Nat) (hn : n ≤ 256) (h : Zh) [hT : RdZ h (some ⟨1, 0, none⟩) hashT] (gh gc : Nat) (l : List CB) (A : Option Addr) (c : Nat) [hr : RdZ h A (cbs l)] (hz : ClsZ h l) (hvl : ∀ x ∈ l, x.vb.length ≤ 100000000) (hll : l.length ≤ 100000) (K : Option Addr) (kc : Nat) [hK : RdZ h K (dgs (keysC l))] (hkc : l.length ≤ kc)
include hn hz hvl hll hkc
theorem show_s (k : Nat) (hk : k ≤ 100000000) (root : B32) (hC : claimsR l = none) (its0 : List Item) (I : Option Addr) (ic : Nat) [hI : RdZ h I (its its0)] (hic : its0.length ≤ ic) (hil : its0.length ≤ 1000000) (t : Sub) (hp : parseM its0 = .ok t) : Spec Tryz.prog 101 [.pointer (some ⟨gh, 0, none⟩), .agg root.cells.toArray, .slice A l.length c, .slice K l.length kc, .slice I its0.length ic].toArray [HR gh gc n] [.zone true h, CN gc k] (fun u : {u : Nat × Zh × Nat // LeZ h u.2.1 ∧ u.2.2 ≤ k + l.length + its0.length} => errV (showR n root l t) u.1.1) (fun u => .zone true u.1.2.1 :: CN gc u.1.2.2 :: errB (showR n root l t) u.1.1) := by
  have hke := (claimsR_ok hC).1
  have hkl := keysC_len l
  obtain ⟨es, b, hE⟩ : ∃ es b, endsM t (keysC l) 0 = (es, b) := ⟨_, _, rfl⟩
  have hel : es.length ≤ l.length := by
    have h1 := endsM_len t (keysC l) 0
    rw [hE, hkl] at h1
    exact h1
  have hEn := Ends_s h its0 I ic hic hil (keysC l) K kc t hp (by omega) (by omega) hke es b hE
  rw [hkl] at hEn
  have hcost := parse_cost hp
  obtain ⟨r, hR⟩ : ∃ r, showR n root l t = r := ⟨_, rfl⟩
  rw [hR]
  unfold showR at hR
  rw [hE] at hR
  dsimp only at hR
  cases b
  · obtain rfl : some (0, 12) = r := hR
    replace hEn : Spec Tryz.prog 153 [.slice I its0.length ic, .slice K l.length kc].toArray [.zone false h] [] (fun u : Option Addr × Nat => .tuple #[.slice none 0 0, .int .i64 12]) (fun u => []) := hEn
    refine spec_of Tryz.func101 rfl (n := 46) rfl rfl ?_
    intro W
    refine h_seq ?_
    refine h_reg ?_
    refine h_opX (x_box1 rfl) fun g5 => ?_
    refine h_opX (x_box rfl) fun g6 => ?_
    refine h_opX (x_box1 rfl) fun g7 => ?_
    refine h_opX (x_box1 rfl) fun g8 => ?_
    refine h_op (r_assign rfl) ?_
    refine h_nil ?_
    refine q_then ?_
    refine h_seq ?_
    refine h_reg ?_
    refine h_op (r_move rfl) ?_
    refine h_op (r_loadc rfl) ?_
    refine h_call (hEn.comes) rfl rfl rfl fun _ => ?_
    refine h_op (r_move rfl) ?_
    refine h_op (r_extract rfl rfl) ?_
    refine h_op (r_extract rfl rfl) ?_
    refine h_op (r_assign rfl) ?_
    refine h_op (r_assign rfl) ?_
    refine h_nil ?_
    refine q_then ?_
    refine h_seq ?_
    refine h_seq ?_
    refine h_reg ?_
    refine h_op (r_move rfl) ?_
    refine h_op (r_neq rfl rfl) ?_
    refine h_nil ?_
    refine q_then ?_
    refine h_yes rfl ((show ¬ (12 : Int) = 0 by decide)) ?_
    refine h_seq ?_
    refine h_reg ?_
    refine h_op (r_move rfl) ?_
    refine h_call ((mFail_s 0 12 (by decide)).comes) rfl rfl rfl fun g25 => ?_
    refine h_op (r_assign rfl) ?_
    refine h_nil ?_
    refine q_then ?_
    refine h_ret ?_
    refine q_thenR ?_
    exact h_ret1 rfl rfl fun w s => ⟨⟨(g25, h, k), LeZ.refl h, by dsimp only; omega⟩, rfl, (same (L' := [.zone true h, CN gc k, .blk g25 (fltC batchB 0 12) 178]) w s).res (List.Sublist.refl _) (by simp [Fa.wr, errB])⟩
  · rw [if_pos rfl] at hR
    replace hEn : Spec Tryz.prog 153 [.slice I its0.length ic, .slice K l.length kc].toArray [.zone false h] [] (fun u : Option Addr × Nat => .tuple #[.slice u.1 es.length u.2, .int .i64 0]) (fun u => [.own (.slice u.1 es.length u.2) es.length 250 98 (endC es)]) := hEn
    refine spec_of Tryz.func101 rfl (n := 46) rfl rfl ?_
    intro W
    refine h_seq ?_
    refine h_reg ?_
    refine h_opX (x_box1 rfl) fun g5 => ?_
    refine h_opX (x_box rfl) fun g6 => ?_
    refine h_opX (x_box1 rfl) fun g7 => ?_
    refine h_opX (x_box1 rfl) fun g8 => ?_
    refine h_op (r_assign rfl) ?_
    refine h_nil ?_
    refine q_then ?_
    refine h_seq ?_
    refine h_reg ?_
    refine h_op (r_move rfl) ?_
    refine h_op (r_loadc rfl) ?_
    refine h_call (hEn.comes) rfl rfl rfl fun ⟨A19, c19⟩ => ?_
    dsimp only
    refine h_freezeO (.slice A19 es.length c19) fun h2 B2 c2 e2 hle2 hlen2 hnil2 hz2 hr2 => ?_
    injection e2 with e2 _ e3
    subst e2 e3
    have hT2 : RdZ h2 (some ⟨1, 0, none⟩) hashT := hT.mono hz2
    have hr2' : RdZ h2 A (cbs l) := hr.mono hz2
    have hK2 : RdZ h2 K (dgs (keysC l)) := hK.mono hz2
    have hI2 : RdZ h2 I (its its0) := hI.mono hz2
    refine h_op (r_move rfl) ?_
    refine h_op (r_extract rfl rfl) ?_
    refine h_op (r_extract rfl rfl) ?_
    refine h_op (r_assign rfl) ?_
    refine h_op (r_assign rfl) ?_
    refine h_nil ?_
    refine q_then ?_
    refine h_seq ?_
    refine h_seq ?_
    refine h_reg ?_
    refine h_op (r_move rfl) ?_
    refine h_op (r_neq rfl rfl) ?_
    refine h_nil ?_
    refine q_then ?_
    refine h_no rfl ((fun h => h rfl)) ?_
    have hF := first3_s n hn h2 gh gc l A c (hz.mono hz2) hvl hll K kc g7 g5 g8 k hk es A19 c19 hel _ rfl
    obtain ⟨f, hf⟩ : ∃ f, firstF (showE n es l) es.length 0 = f := ⟨_, rfl⟩
    rw [hf] at hF hR
    rcases f with _ | ⟨i, e⟩
    · replace hF : Spec Tryz.prog 154 [.slice A19 es.length c19, .func (.func 155) #[] #[.pointer (some ⟨g7, 0, none⟩), .pointer (some ⟨g5, 0, none⟩), .pointer (some ⟨g8, 0, none⟩)]].toArray [HR gh gc n, .zone false h2, .rd (some ⟨g7, 0, none⟩) [.slice A l.length c], .rd (some ⟨g5, 0, none⟩) [.pointer (some ⟨gh, 0, none⟩)], .rd (some ⟨g8, 0, none⟩) [.slice K l.length kc]] [CN gc k] (fun u : {u : Nat × Nat // u.2 ≤ k + es.length} => .nilIface) (fun u => [CN gc u.1.2]) := hF
      refine h_skip ?_
      refine q_then ?_
      refine h_seq ?_
      refine h_reg ?_
      refine h_op (r_move rfl) ?_
      refine h_op (r_func rfl rfl) ?_
      refine h_call (hF.comes) rfl rfl rfl fun ⟨⟨g28, k1⟩, hk1⟩ => ?_
      dsimp only at hk1 ⊢
      have hRo := mRoot_s h2 n hn gh gc k1 (by omega) its0 I ic hic hil t hp
      refine h_op (r_assign rfl) ?_
      refine h_nil ?_
      refine q_then ?_
      refine h_seq ?_
      refine h_seq ?_
      refine h_reg ?_
      refine h_op (r_move rfl) ?_
      refine h_op (r_nilnn rfl) ?_
      refine h_nil ?_
      refine q_then ?_
      refine h_condF rfl ?_
      refine h_skip ?_
      refine q_then ?_
      refine h_seq ?_
      refine h_seq ?_
      refine h_reg ?_
      refine h_op (r_loadc rfl) ?_
      refine h_op (r_move rfl) ?_
      refine h_call (hRo.comes) rfl rfl rfl fun _ => ?_
      by_cases hd : dgS n t = root
      · obtain rfl : none = r := by rw [← hR]; dsimp only; rw [if_pos hd]
        refine h_op (r_move rfl) ?_
        refine h_op (r_extract rfl rfl) ?_
        refine h_op (r_extract rfl rfl) ?_
        refine h_opX (x_alloc) fun g14 => ?_
        refine h_opS (s_storer rfl rfl) ?_
        refine h_op (r_assign rfl) ?_
        refine h_nil ?_
        refine q_then ?_
        refine h_seq ?_
        refine h_reg ?_
        refine h_op (r_move rfl) ?_
        refine h_op (r_bool (r_neq rfl rfl) (decide_eq_false (fun h => h rfl))) ?_
        refine h_op (r_move rfl) ?_
        refine h_op (r_loadr rfl) ?_
        refine h_op (r_loadr rfl) ?_
        refine h_op (r_bool (r_ner rfl rfl) (decide_eq_false (fun h => h hd))) ?_
        refine h_op (r_pick rfl rfl) ?_
        refine h_nil ?_
        refine q_then ?_
        refine h_condF rfl ?_
        refine h_skip ?_
        refine q_then ?_
        refine h_seq ?_
        refine h_reg ?_
        refine h_op (r_assign rfl) ?_
        refine h_nil ?_
        refine q_then ?_
        refine h_ret ?_
        exact h_ret1 rfl rfl fun w s => ⟨⟨(0, h2, k1 + t.cost), hz2, by dsimp only; omega⟩, rfl, (same (L' := [.zone true h2, CN gc (k1 + t.cost)]) w s).res (List.Sublist.refl _) (by simp [Fa.wr, errB])⟩
      · obtain rfl : some (0, 13) = r := by rw [← hR]; dsimp only; rw [if_neg hd]
        refine h_op (r_move rfl) ?_
        refine h_op (r_extract rfl rfl) ?_
        refine h_op (r_extract rfl rfl) ?_
        refine h_opX (x_alloc) fun g14 => ?_
        refine h_opS (s_storer rfl rfl) ?_
        refine h_op (r_assign rfl) ?_
        refine h_nil ?_
        refine q_then ?_
        refine h_seq ?_
        refine h_reg ?_
        refine h_op (r_move rfl) ?_
        refine h_op (r_bool (r_neq rfl rfl) (decide_eq_false (fun h => h rfl))) ?_
        refine h_op (r_move rfl) ?_
        refine h_op (r_loadr rfl) ?_
        refine h_op (r_loadr rfl) ?_
        refine h_op (r_bool (r_ner rfl rfl) (decide_eq_true hd)) ?_
        refine h_op (r_pick rfl rfl) ?_
        refine h_nil ?_
        refine q_then ?_
        refine h_condT rfl ?_
        refine h_seq ?_
        refine h_reg ?_
        refine h_call ((mFail_s 0 13 (by decide)).comes) rfl rfl rfl fun g45 => ?_
        refine h_op (r_assign rfl) ?_
        refine h_nil ?_
        refine q_then ?_
        refine h_ret ?_
        refine q_thenR ?_
        exact h_ret1 rfl rfl fun w s => ⟨⟨(g45, h2, k1 + t.cost), hz2, by dsimp only; omega⟩, rfl, (same (L' := [.zone true h2, CN gc (k1 + t.cost), .blk g45 (fltC batchB 0 13) 178]) w s).res (List.Sublist.refl _) (by simp [Fa.wr, errB])⟩
    · obtain rfl : some (i, e) = r := hR
      replace hF : Spec Tryz.prog 154 [.slice A19 es.length c19, .func (.func 155) #[] #[.pointer (some ⟨g7, 0, none⟩), .pointer (some ⟨g5, 0, none⟩), .pointer (some ⟨g8, 0, none⟩)]].toArray [HR gh gc n, .zone false h2, .rd (some ⟨g7, 0, none⟩) [.slice A l.length c], .rd (some ⟨g5, 0, none⟩) [.pointer (some ⟨gh, 0, none⟩)], .rd (some ⟨g8, 0, none⟩) [.slice K l.length kc]] [CN gc k] (fun u : {u : Nat × Nat // u.2 ≤ k + es.length} => .iface 174 (.pointer (some ⟨u.1.1, 0, none⟩))) (fun u => [CN gc u.1.2, .blk u.1.1 (fltC batchB (i : Int) e) 178]) := hF
      refine h_skip ?_
      refine q_then ?_
      refine h_seq ?_
      refine h_reg ?_
      refine h_op (r_move rfl) ?_
      refine h_op (r_func rfl rfl) ?_
      refine h_call (hF.comes) rfl rfl rfl fun ⟨⟨g28, k1⟩, hk1⟩ => ?_
      dsimp only at hk1 ⊢
      refine h_op (r_assign rfl) ?_
      refine h_nil ?_
      refine q_then ?_
      refine h_seq ?_
      refine h_seq ?_
      refine h_reg ?_
      refine h_op (r_move rfl) ?_
      refine h_op (r_ifnn rfl) ?_
      refine h_nil ?_
      refine q_then ?_
      refine h_condT rfl ?_
      refine h_seq ?_
      refine h_reg ?_
      refine h_op (r_move rfl) ?_
      refine h_op (r_assign rfl) ?_
      refine h_nil ?_
      refine q_then ?_
      refine h_ret ?_
      refine q_thenR ?_
      exact h_ret1 rfl rfl fun w s => ⟨⟨(g28, h2, k1), hz2, by dsimp only; omega⟩, rfl, (same (L' := [.zone true h2, CN gc k1, .blk g28 (fltC batchB (i : Int) e) 178]) w s).res (List.Sublist.refl _) (by simp [Fa.wr, errB])⟩
end
end Go.Proofs.YtjhocljhhpkiiaaGreatDoor
/- U110 -/
namespace Go.Proofs.YtjhocljhhpkiiaaGreatDoor
set_option linter.unusedSimpArgs false
set_option linter.unusedVariables false
open Go.RowKit
theorem payload_s (k : Int) : Spec Tryz.prog 158 [.int .i64 k].toArray [] [] (fun _ : Unit => .int .i64 ((payN k : Nat) : Int)) (fun _ => []) := by
  unfold payN
  refine spec_of Tryz.func158 rfl (n := 14) rfl rfl ?_
  intro W
  by_cases h1 : k = 1
  · rw [if_pos h1]
    refine h_seq ?_
    refine h_reg ?_
    refine h_op (r_assign rfl) ?_
    refine h_nil ?_
    refine q_then ?_
    refine h_seq ?_
    refine h_reg ?_
    refine h_op (r_assign rfl) ?_
    refine h_nil ?_
    refine q_then ?_
    refine h_seq ?_
    refine h_seq ?_
    refine h_reg ?_
    refine h_op (r_move rfl) ?_
    refine h_nil ?_
    refine q_then ?_
    refine h_block ?_
    refine h_seq ?_
    refine h_block ?_
    refine h_seq ?_
    refine h_block ?_
    refine h_seq ?_
    refine h_seq ?_
    refine h_seq ?_
    refine h_reg ?_
    refine h_op (r_eql rfl rfl) ?_
    refine h_op (r_assign rfl) ?_
    refine h_nil ?_
    refine q_then ?_
    refine h_yes rfl (h1) ?_
    refine h_exit ?_
    refine q_thenE ?_
    refine q_thenE ?_
    refine q_blockE ?_
    refine q_then ?_
    refine h_reg ?_
    refine h_op (r_move rfl) ?_
    refine h_op (r_add rfl rfl) ?_
    refine h_op (r_assign rfl) ?_
    refine h_nil ?_
    refine q_block ?_
    refine q_then ?_
    refine h_seq ?_
    refine h_reg ?_
    refine h_op (r_move rfl) ?_
    refine h_op (r_add rfl rfl) ?_
    refine h_op (r_assign rfl) ?_
    refine h_nil ?_
    refine q_then ?_
    refine h_exit ?_
    refine q_blockE ?_
    refine q_then ?_
    refine h_seq ?_
    refine h_reg ?_
    refine h_op (r_move rfl) ?_
    refine h_op (r_assign rfl) ?_
    refine h_nil ?_
    refine q_then ?_
    refine h_ret ?_
    exact h_ret1 rfl rfl fun w s => ⟨(), rfl, s.res (List.nil_sublist _) (by simp)⟩
  · rw [if_neg h1]
    by_cases h3 : k = 3
    · rw [if_pos h3]
      refine h_seq ?_
      refine h_reg ?_
      refine h_op (r_assign rfl) ?_
      refine h_nil ?_
      refine q_then ?_
      refine h_seq ?_
      refine h_reg ?_
      refine h_op (r_assign rfl) ?_
      refine h_nil ?_
      refine q_then ?_
      refine h_seq ?_
      refine h_seq ?_
      refine h_reg ?_
      refine h_op (r_move rfl) ?_
      refine h_nil ?_
      refine q_then ?_
      refine h_block ?_
      refine h_seq ?_
      refine h_block ?_
      refine h_seq ?_
      refine h_block ?_
      refine h_seq ?_
      refine h_seq ?_
      refine h_seq ?_
      refine h_reg ?_
      refine h_op (r_eql rfl rfl) ?_
      refine h_op (r_assign rfl) ?_
      refine h_nil ?_
      refine q_then ?_
      refine h_no rfl (h1) ?_
      refine h_skip ?_
      refine q_then ?_
      refine h_seq ?_
      refine h_reg ?_
      refine h_op (r_eql rfl rfl) ?_
      refine h_op (r_assign rfl) ?_
      refine h_nil ?_
      refine q_then ?_
      refine h_yes rfl (h3) ?_
      refine h_exit ?_
      refine q_thenE ?_
      refine q_blockN (by decide) ?_
      refine q_thenE ?_
      refine q_blockE ?_
      refine q_then ?_
      refine h_seq ?_
      refine h_reg ?_
      refine h_op (r_move rfl) ?_
      refine h_op (r_add rfl rfl) ?_
      refine h_op (r_assign rfl) ?_
      refine h_nil ?_
      refine q_then ?_
      refine h_exit ?_
      refine q_blockE ?_
      refine q_then ?_
      refine h_seq ?_
      refine h_reg ?_
      refine h_op (r_move rfl) ?_
      refine h_op (r_assign rfl) ?_
      refine h_nil ?_
      refine q_then ?_
      refine h_ret ?_
      exact h_ret1 rfl rfl fun w s => ⟨(), rfl, s.res (List.nil_sublist _) (by simp)⟩
    · rw [if_neg h3]
      refine h_seq ?_
      refine h_reg ?_
      refine h_op (r_assign rfl) ?_
      refine h_nil ?_
      refine q_then ?_
      refine h_seq ?_
      refine h_reg ?_
      refine h_op (r_assign rfl) ?_
      refine h_nil ?_
      refine q_then ?_
      refine h_seq ?_
      refine h_seq ?_
      refine h_reg ?_
      refine h_op (r_move rfl) ?_
      refine h_nil ?_
      refine q_then ?_
      refine h_block ?_
      refine h_seq ?_
      refine h_block ?_
      refine h_seq ?_
      refine h_block ?_
      refine h_seq ?_
      refine h_seq ?_
      refine h_seq ?_
      refine h_reg ?_
      refine h_op (r_eql rfl rfl) ?_
      refine h_op (r_assign rfl) ?_
      refine h_nil ?_
      refine q_then ?_
      refine h_no rfl (h1) ?_
      refine h_skip ?_
      refine q_then ?_
      refine h_seq ?_
      refine h_reg ?_
      refine h_op (r_eql rfl rfl) ?_
      refine h_op (r_assign rfl) ?_
      refine h_nil ?_
      refine q_then ?_
      refine h_no rfl (h3) ?_
      refine h_skip ?_
      refine q_then ?_
      refine h_exit ?_
      refine q_blockN (by decide) ?_
      refine q_thenE ?_
      refine q_blockN (by decide) ?_
      refine q_thenE ?_
      refine q_blockE ?_
      refine q_then ?_
      refine h_seq ?_
      refine h_reg ?_
      refine h_op (r_move rfl) ?_
      refine h_op (r_assign rfl) ?_
      refine h_nil ?_
      refine q_then ?_
      refine h_ret ?_
      exact h_ret1 rfl rfl fun w s => ⟨(), rfl, s.res (List.nil_sublist _) (by simp)⟩
section
variable (h : Zh)
theorem Size_s (l : List Item) (A : Option Addr) (c : Nat) [hr : RdZ h A (its l)] (hc : l.length ≤ c) (hl : l.length ≤ 1000000) (hk : checkM l = 0) : Spec Tryz.prog 115 [.slice A l.length c].toArray [.zone false h] [] (fun _ : Unit => .int .i64 ((6 + lenI l : Nat) : Int)) (fun _ => []) := by
  have hC := mCheck_s h l A c hc hl
  rw [hk] at hC
  refine spec_of Tryz.func115 rfl (n := 23) rfl rfl ?_
  intro W
  refine h_seq ?_
  refine h_reg ?_
  refine h_op (r_assign rfl) ?_
  refine h_nil ?_
  refine q_then ?_
  refine h_seq ?_
  refine h_seq ?_
  refine h_reg ?_
  refine h_op (r_move rfl) ?_
  refine h_call (hC.comes) rfl rfl rfl fun _ => ?_
  refine h_op (r_neq rfl rfl) ?_
  refine h_nil ?_
  refine q_then ?_
  refine h_no rfl ((fun h => h rfl)) ?_
  refine h_skip ?_
  refine q_then ?_
  refine h_seq ?_
  refine h_reg ?_
  refine h_op (r_assign rfl) ?_
  refine h_nil ?_
  refine q_then ?_
  refine h_seq ?_
  refine h_seq ?_
  refine h_reg ?_
  refine h_op (r_move rfl) ?_
  refine h_op (r_len rfl) ?_
  refine h_op (r_move rfl) ?_
  refine h_nil ?_
  refine q_then ?_
  refine h_block ?_
  refine h_loop (fun (k : Nat) => k ≤ l.length) (fun (k : Nat) => [(11, .int .i64 (k : Int)), (10, .int .i64 (l.length : Int)), (9, .slice A l.length c), (3, .int .i64 ((6 + lenI (l.take k) : Nat) : Int))]) (fun (k : Nat) => [.zone false h]) (fun (k : Nat) => l.length - k) 0 (Nat.zero_le _) ⟨rfl, rfl, rfl, rfl, trivial⟩ (same) ?_
  rintro k hk
  refine h_seq ?_
  refine h_reg ?_
  refine h_op (r_lss rfl rfl) ?_
  refine h_nil ?_
  refine q_then ?_
  refine h_seq ?_
  refine h_cond rfl (fun hlt => ?_) (fun hlt => ?_)
  · have hk2 : k < l.length := by omega
    obtain ⟨x, hx⟩ : ∃ x, l[k]? = some x := ⟨_, List.getElem?_eq_getElem hk2⟩
    have hat := its_at hx
    have hcn := lenI_snoc hx
    have hle := lenI_le (l.take k)
    have hpl := payN_le x.kind
    have htk : (l.take k).length ≤ l.length := by rw [List.length_take]; omega
    have h0 : 0 < (its l).length := by rw [its_len]; omega
    obtain ⟨b, o, rfl, -⟩ := hr.at_ 0 _ (List.getElem?_eq_getElem h0)
    refine h_skip ?_
    refine q_then ?_
    refine h_seq ?_
    refine h_block ?_
    refine h_seq ?_
    refine h_reg ?_
    refine h_op (r_idx rfl rfl) ?_
    refine h_op (r_nthr rfl (out := x.cells) (Item.cells_length x) hat) ?_
    refine h_opX (x_alloc) fun g5 => ?_
    refine h_opS (s_storer rfl rfl) ?_
    refine h_nil ?_
    refine q_then ?_
    refine h_reg ?_
    refine h_op (r_move rfl) ?_
    refine h_op (r_field rfl) ?_
    refine h_op (r_loadc rfl) ?_
    refine h_call ((payload_s x.kind).comes) rfl rfl rfl fun _ => ?_
    generalize payN x.kind = q at *
    refine h_op (r_add rfl rfl) ?_
    refine h_op (r_add rfl rfl) ?_
    refine h_op (r_assign rfl) ?_
    refine h_nil ?_
    refine q_block ?_
    refine q_then ?_
    refine h_reg ?_
    refine h_op (r_add rfl rfl) ?_
    refine h_op (r_move rfl) ?_
    refine h_nil ?_
    exact h_back (k + 1) (hk2) (by omega) ⟨rfl, rfl, rfl, by rw [hcn, show ((6 + (lenI (l.take k) + (1 + q)) : Nat) : Int) = ((6 + lenI (l.take k) : Nat) : Int) + (1 + (q : Int)) by omega]; rfl, trivial⟩ (same)
  · obtain rfl : k = l.length := by omega
    rw [List.take_length]
    refine h_exit ?_
    refine q_thenE ?_
    refine q_thenE ?_
    refine q_blockE ?_
    refine q_then ?_
    refine h_seq ?_
    refine h_reg ?_
    refine h_op (r_move rfl) ?_
    refine h_op (r_assign rfl) ?_
    refine h_nil ?_
    refine q_then ?_
    refine h_ret ?_
    exact h_ret1 rfl rfl fun w s => ⟨(), rfl, s.res (List.nil_sublist _) (by simp)⟩
end
end Go.Proofs.YtjhocljhhpkiiaaGreatDoor
/- N18 -/
namespace Go.Proofs.YtjhocljhhpkiiaaGreatDoor
set_option linter.unusedSimpArgs false
set_option linter.unusedVariables false
open Go.RowKit
theorem r_shrI {P : Program} {n : Nat} {D : List Deferred} {E : Env} {L : List Fa} {T T' : TypeId} {x y : Operand} {i q : Nat} (hx : ev E x = some (.int .i64 (i : Int))) (hy : ev E y = some (.int .i64 (q : Int))) (h : q ≤ 64) : Runs0 P n D E L (.binOp .shr T x y T') (.int .i64 ((i / 2 ^ q : Nat) : Int)) := fun c w ka s o ho => by
  refine run_bin ho (ka.ev hx) (ka.ev hy) rfl ?_
  have e : binOp .shr T (.int .i64 (i : Int)) (.int .i64 (q : Int)) = Op.shift .shr .i64 i .i64 q := by unfold binOp; rfl
  rw [e]
  unfold Op.shift
  rw [if_neg (by omega)]
  simp only [Int.toNat_natCast, show IntKind.i64.bits = 64 from rfl, Nat.min_eq_left h]
  rw [Int.fdiv_eq_ediv_of_nonneg _ (Int.pow_nonneg (by decide))]
  simp [Int.natCast_ediv]
end Go.Proofs.YtjhocljhhpkiiaaGreatDoor
/- U111 -/
namespace Go.Proofs.YtjhocljhhpkiiaaGreatDoor
set_option linter.unusedSimpArgs false
set_option linter.unusedVariables false
open Go.RowKit
theorem headM_take (n j : Nat) (h : j < 4) : (headM n).take (2 + (j + 1)) = (headM n).take (2 + j) ++ [u8n (n / 2 ^ (24 - 8 * j))] := by
  rcases (by omega : j = 0 ∨ j = 1 ∨ j = 2 ∨ j = 3) with rfl | rfl | rfl | rfl <;> rfl
theorem checkM_fine {l : List Item} (h : checkM l = 0) : l.all kindOk = true ∧ l.all cleanItem = true := by
  rw [checkM_eq] at h
  split at h
  · split at h
    · exact ⟨‹_›, ‹_›⟩
    · cases h
  · cases h
theorem kind_cases {l : List Item} (h : checkM l = 0) {k : Nat} {x : Item} (hx : l[k]? = some x) : x.kind = 0 ∨ x.kind = 1 ∨ x.kind = 2 ∨ x.kind = 3 := by
  have := List.all_eq_true.1 (checkM_fine h).1 x (List.mem_of_getElem? hx)
  unfold kindOk at this
  rw [Bool.and_eq_true, decide_eq_true_eq, decide_eq_true_eq] at this
  omega
/-- what is written behind the head and k items -/
def upM (l : List Item) (k : Nat) : List UInt8 := headM l.length ++ itsB (l.take k)
theorem upM_len (l : List Item) (k : Nat) : (upM l k).length = 6 + lenI (l.take k) := by
  unfold upM
  rw [List.length_append, itsB_len]
  rfl
theorem upM_snoc {l : List Item} {k : Nat} {x : Item} (h : l[k]? = some x) : upM l (k + 1) = upM l k ++ itB x := by
  unfold upM
  rw [itsB_snoc h, List.append_assoc]
theorem upM_end (l : List Item) : upM l l.length = encM l := by unfold upM encM; rw [List.take_length]
section
variable (h : Zh)
theorem mEncode_s (l : List Item) (A : Option Addr) (c : Nat) [hr : RdZ h A (its l)] (hc : l.length ≤ c) (hl : l.length ≤ 1000000) (hk0 : checkM l = 0) : Spec Tryz.prog 62 [.slice A l.length c].toArray [.zone false h] [] (fun u : Option Addr × Nat => .tuple #[.slice u.1 (encM l).length u.2, .int .i64 0]) (fun u => [.own (.slice u.1 (encM l).length u.2) (encM l).length 5 1 (bc (encM l))]) := by
  have hC := mCheck_s h l A c hc hl
  rw [hk0] at hC
  have hS := Size_s h l A c hc hl hk0
  have hle := lenI_le l
  have hup0 : (upM l 0).length = 6 := rfl
  rw [← upM_end]
  obtain ⟨sz, hsz⟩ : ∃ sz, 6 + lenI l = sz := ⟨_, rfl⟩
  rw [hsz] at hS
  refine spec_of Tryz.func62 rfl (n := 65) rfl rfl ?_
  intro W
  refine h_seq ?_
  refine h_reg ?_
  refine h_op (r_assign rfl) ?_
  refine h_op (r_assign rfl) ?_
  refine h_nil ?_
  refine q_then ?_
  refine h_seq ?_
  refine h_seq ?_
  refine h_reg ?_
  refine h_op (r_move rfl) ?_
  refine h_call (hC.comes) rfl rfl rfl fun _ => ?_
  refine h_op (r_assign rfl) ?_
  refine h_nil ?_
  refine q_then ?_
  refine h_seq ?_
  refine h_reg ?_
  refine h_op (r_move rfl) ?_
  refine h_op (r_neq rfl rfl) ?_
  refine h_nil ?_
  refine q_then ?_
  refine h_no rfl ((fun h => h rfl)) ?_
  refine h_skip ?_
  refine q_then ?_
  refine h_seq ?_
  refine h_reg ?_
  refine h_op (r_move rfl) ?_
  refine h_call (hS.comes) rfl rfl rfl fun _ => ?_
  refine h_opX (x_make0 rfl rfl) fun g16 => ?_
  refine h_op (r_assign rfl) ?_
  refine h_nil ?_
  refine q_then ?_
  refine h_seq ?_
  change H _ _ _ _ _ (.own (.slice (some ⟨g16, 0, none⟩) 0 sz) 0 _ _ (bc []) :: _) _
  refine h_reg ?_
  refine h_op (r_move rfl) ?_
  refine h_opX (x_bslV (ys := [.int .u8 1, .int .u8 2]) (bc [1, 2]) rfl rfl (bc_one _)) fun g18 => ?_
  refine h_opX (x_appAB (ly := [1, 2]) rfl rfl (fun h => by cases h) rfl) fun ⟨A19, c19⟩ => ?_
  refine h_op (r_assign rfl) ?_
  refine h_nil ?_
  refine q_then ?_
  refine h_seq ?_
  refine h_seq ?_
  refine h_reg ?_
  refine h_op (r_assign rfl) ?_
  refine h_nil ?_
  refine q_then ?_
  refine h_block ?_
  change H _ _ _ _ _ (.own (.slice A19 (2 + 0) c19) (2 + 0) _ _ (bc ((headM l.length).take (2 + 0))) :: _) _
  refine h_loop (fun (s : Nat × Option Addr × Nat) => s.1 ≤ 4) (fun (s : Nat × Option Addr × Nat) => [(6, .int .i64 (24 - 8 * (s.1 : Int))), (5, .slice s.2.1 (2 + s.1) s.2.2), (0, .slice A l.length c)]) (fun (s : Nat × Option Addr × Nat) => [.own (.slice s.2.1 (2 + s.1) s.2.2) (2 + s.1) 5 1 (bc ((headM l.length).take (2 + s.1))), .zone false h]) (fun (s : Nat × Option Addr × Nat) => 4 - s.1) (0, A19, c19) ((show 0 ≤ 4 by omega)) ⟨rfl, rfl, rfl, trivial⟩ (same) ?_
  rintro ⟨j, B, d⟩ hj
  dsimp only at hj ⊢
  refine h_seq ?_
  refine h_seq ?_
  refine h_reg ?_
  refine h_op (r_move rfl) ?_
  refine h_op (r_geq rfl rfl) ?_
  refine h_nil ?_
  refine q_then ?_
  refine h_cond rfl (fun hlt => ?_) (fun hlt => ?_)
  · have hj2 : j < 4 := by omega
    have hst := headM_take l.length j hj2
    refine h_skip ?_
    refine q_then ?_
    refine h_seq ?_
    refine h_block ?_
    refine h_reg ?_
    refine h_op (r_move rfl) ?_
    refine h_op (r_move rfl) ?_
    refine h_op (r_len rfl) ?_
    refine h_op (r_move rfl) ?_
    refine h_op (r_shrI (q := 24 - 8 * j) rfl (congrArg (fun z => some (Value.int .i64 z)) (show (24 - 8 * (j : Int)) = ((24 - 8 * j : Nat) : Int) by omega)) (by omega)) ?_
    refine h_op (r_cNW rfl) ?_
    refine h_opX (x_bsl rfl rfl) fun g30 => ?_
    refine h_opX (x_app1B rfl rfl (N' := 2 + (j + 1))) fun ⟨g31, c31⟩ => ?_
    refine h_op (r_assign rfl) ?_
    refine h_nil ?_
    refine q_block ?_
    refine q_then ?_
    change H _ _ _ _ _ (.own (.slice (some ⟨g31, 0, none⟩) (2 + (j + 1)) c31) (2 + (j + 1)) _ _ (bc ((headM l.length).take (2 + j) ++ [u8n (l.length / 2 ^ (24 - 8 * j))])) :: _) _
    rw [← hst]
    refine h_reg ?_
    refine h_op (r_move rfl) ?_
    refine h_op (r_sub rfl rfl) ?_
    refine h_op (r_assign rfl) ?_
    refine h_nil ?_
    exact h_back (j + 1, some ⟨g31, 0, none⟩, c31) ((show j + 1 ≤ 4 from hj2)) ((show 4 - (j + 1) < 4 - j by omega)) ⟨by rw [show (24 - 8 * ((j + 1 : Nat) : Int)) = 24 - 8 * (j : Int) - 8 by omega]; rfl, rfl, rfl, trivial⟩ (same)
  · obtain rfl : j = 4 := by omega
    change H _ _ _ _ _ (.own (.slice B (upM l 0).length d) (upM l 0).length _ _ (bc (upM l 0)) :: _) _
    refine h_exit ?_
    refine q_thenE ?_
    refine q_thenE ?_
    refine q_blockE ?_
    refine q_then ?_
    refine h_seq ?_
    refine h_seq ?_
    refine h_reg ?_
    refine h_op (r_move rfl) ?_
    refine h_op (r_len rfl) ?_
    refine h_op (r_move rfl) ?_
    refine h_nil ?_
    refine q_then ?_
    refine h_block ?_
    refine h_loop (fun (s : Nat × Option Addr × Nat) => s.1 ≤ l.length) (fun (s : Nat × Option Addr × Nat) => [(34, .int .i64 (s.1 : Int)), (33, .int .i64 (l.length : Int)), (32, .slice A l.length c), (5, .slice s.2.1 (upM l s.1).length s.2.2)]) (fun (s : Nat × Option Addr × Nat) => [.own (.slice s.2.1 (upM l s.1).length s.2.2) (upM l s.1).length 5 1 (bc (upM l s.1)), .zone false h]) (fun (s : Nat × Option Addr × Nat) => l.length - s.1) (0, B, d) ((show 0 ≤ l.length from Nat.zero_le _)) ⟨rfl, rfl, rfl, rfl, trivial⟩ (same) ?_
    rintro ⟨k, B2, d2⟩ hk
    dsimp only at hk ⊢
    refine h_seq ?_
    refine h_reg ?_
    refine h_op (r_lss rfl rfl) ?_
    refine h_nil ?_
    refine q_then ?_
    refine h_seq ?_
    refine h_cond rfl (fun hlt2 => ?_) (fun hlt2 => ?_)
    · have hk2 : k < l.length := by omega
      obtain ⟨x, hx⟩ : ∃ x, l[k]? = some x := ⟨_, List.getElem?_eq_getElem hk2⟩
      have hat := its_at hx
      have hkc := kind_cases hk0 hx
      have hl0 := upM_len l k
      have hl1 := upM_len l (k + 1)
      have hln := lenI_snoc hx
      have hst := upM_snoc hx
      have hle2 := lenI_le (l.take (k + 1))
      have htk : (l.take (k + 1)).length ≤ l.length := by rw [List.length_take]; omega
      have h0 : 0 < (its l).length := by rw [its_len]; omega
      obtain ⟨b, o, rfl, -⟩ := hr.at_ 0 _ (List.getElem?_eq_getElem h0)
      obtain ⟨kd, hkd⟩ : ∃ kd : Nat, x.kind = (kd : Int) := ⟨x.kind.toNat, by omega⟩
      have hdg := x.digest.2
      have hlk := x.leaf.key.2
      have hlv := x.leaf.value.2
      rw [hkd] at hln hkc
      by_cases h1 : kd = 1
      · have hp : payN (kd : Int) = 64 := by unfold payN; rw [if_pos (by omega)]
        have hib : itB x = u8n kd :: (x.leaf.key.1 ++ x.leaf.value.1) := by unfold itB; rw [hkd, if_pos (show (kd : Int) = 1 by omega)]; rfl
        rw [hp] at hln
        rw [hib] at hst
        refine h_skip ?_
        refine q_then ?_
        refine h_seq ?_
        refine h_block ?_
        refine h_seq ?_
        refine h_reg ?_
        refine h_op (r_idx rfl rfl) ?_
        refine h_op (r_nthr rfl (out := x.cells) (Item.cells_length _) hat) ?_
        refine h_opX (x_alloc) fun g8 => ?_
        refine h_opS (s_storer rfl rfl) ?_
        refine h_nil ?_
        refine q_then ?_
        refine h_seq ?_
        refine h_reg ?_
        refine h_op (r_move rfl) ?_
        refine h_op (r_field rfl) ?_
        refine h_op (r_int (r_loadc rfl) hkd) ?_
        refine h_op (r_cNW rfl) ?_
        refine h_opX (x_bsl rfl rfl) fun g42 => ?_
        refine h_opX (x_app1B rfl rfl (N' := (upM l k).length + 1)) fun ⟨g43, c43⟩ => ?_
        refine h_op (r_assign rfl) ?_
        refine h_nil ?_
        refine q_then ?_
        refine h_seq ?_
        refine h_reg ?_
        refine h_op (r_field rfl) ?_
        refine h_op (r_int (r_loadc rfl) hkd) ?_
        refine h_nil ?_
        refine q_then ?_
        refine h_block ?_
        refine h_seq ?_
        refine h_reg ?_
        refine h_op (r_eql rfl rfl) ?_
        refine h_op (r_assign rfl) ?_
        refine h_nil ?_
        refine q_then ?_
        change H _ _ _ _ _ (.own (.slice (some ⟨g43, 0, none⟩) ((upM l k).length + 1) c43) ((upM l k).length + 1) _ _ (bc (upM l k ++ [u8n kd])) :: _) _
        refine h_yes rfl ((show (kd : Int) = 1 by omega)) ?_
        refine ha_start [] [] mixed (same) ?_
        refine ha_takeP 0 rfl (r_move rfl) ?_
        refine ha_takeP 1 rfl (r_field rfl) ?_
        refine ha_takeP 2 rfl (r_field rfl) ?_
        refine ha_takeP 3 rfl (r_slA rfl) ?_
        refine ha_takeP 5 rfl (r_field rfl) ?_
        refine ha_takeP 6 rfl (r_field rfl) ?_
        refine ha_takeP 7 rfl (r_slA rfl) ?_
        refine ha_one 4 ?_
        refine ho_X 4 rfl (rk (x_appAB (ly := x.leaf.key.1) rfl rfl (fun h => by cases h) hlk (N' := (upM l k).length + 1 + 32) (hr := inferInstanceAs (Rd1 _ (.rd _ x.leaf.key.cells))))) (fun _ => same) fun ⟨A52, c52⟩ => ?_
        refine ha_one 8 ?_
        refine ho_X 8 rfl (rk (x_appAB (ly := x.leaf.value.1) rfl rfl (fun h => by cases h) hlv (N' := (upM l (k + 1)).length) (hN := by omega) (hr := inferInstanceAs (Rd1 _ (.rd _ x.leaf.value.cells))))) (fun _ => same) fun ⟨A56, c56⟩ => ?_
        refine ha_takeP 9 rfl (r_assign rfl) ?_
        refine ha_done (by kernel_rfl) ?_
        refine q_block ?_
        refine q_block ?_
        refine q_then ?_
        rw [show upM l k ++ [u8n kd] ++ x.leaf.key.1 ++ x.leaf.value.1 = upM l (k + 1) by rw [hst]; simp]
        refine h_reg ?_
        refine h_op (r_add rfl rfl) ?_
        refine h_op (r_move rfl) ?_
        refine h_nil ?_
        exact h_back (k + 1, A56, c56) ((show k + 1 ≤ l.length from hk2)) ((show l.length - (k + 1) < l.length - k by omega)) ⟨rfl, rfl, rfl, rfl, trivial⟩ (same)
      · by_cases h3 : kd = 3
        · have hp : payN (kd : Int) = 32 := by unfold payN; rw [if_neg (by omega), if_pos (by omega)]
          have hib : itB x = u8n kd :: x.digest.1 := by unfold itB; rw [hkd, if_neg (show ¬ (kd : Int) = 1 by omega), if_pos (show (kd : Int) = 3 by omega)]; rfl
          rw [hp] at hln
          rw [hib] at hst
          refine h_skip ?_
          refine q_then ?_
          refine h_seq ?_
          refine h_block ?_
          refine h_seq ?_
          refine h_reg ?_
          refine h_op (r_idx rfl rfl) ?_
          refine h_op (r_nthr rfl (out := x.cells) (Item.cells_length _) hat) ?_
          refine h_opX (x_alloc) fun g8 => ?_
          refine h_opS (s_storer rfl rfl) ?_
          refine h_nil ?_
          refine q_then ?_
          refine h_seq ?_
          refine h_reg ?_
          refine h_op (r_move rfl) ?_
          refine h_op (r_field rfl) ?_
          refine h_op (r_int (r_loadc rfl) hkd) ?_
          refine h_op (r_cNW rfl) ?_
          refine h_opX (x_bsl rfl rfl) fun g42 => ?_
          refine h_opX (x_app1B rfl rfl (N' := (upM l k).length + 1)) fun ⟨g43, c43⟩ => ?_
          refine h_op (r_assign rfl) ?_
          refine h_nil ?_
          refine q_then ?_
          refine h_seq ?_
          refine h_reg ?_
          refine h_op (r_field rfl) ?_
          refine h_op (r_int (r_loadc rfl) hkd) ?_
          refine h_nil ?_
          refine q_then ?_
          refine h_block ?_
          refine h_seq ?_
          refine h_reg ?_
          refine h_op (r_eql rfl rfl) ?_
          refine h_op (r_assign rfl) ?_
          refine h_nil ?_
          refine q_then ?_
          refine h_no rfl ((show ¬ (kd : Int) = 1 by omega)) ?_
          refine h_seq ?_
          refine h_reg ?_
          refine h_op (r_eql rfl rfl) ?_
          refine h_op (r_assign rfl) ?_
          refine h_nil ?_
          refine q_then ?_
          change H _ _ _ _ _ (.own (.slice (some ⟨g43, 0, none⟩) ((upM l k).length + 1) c43) ((upM l k).length + 1) _ _ (bc (upM l k ++ [u8n kd])) :: _) _
          refine h_yes rfl ((show (kd : Int) = 3 by omega)) ?_
          refine h_reg ?_
          refine h_op (r_move rfl) ?_
          refine h_op (r_field rfl) ?_
          refine h_op (r_slA rfl) ?_
          refine h_opX (x_appAB (ly := x.digest.1) rfl rfl (fun h => by cases h) hdg (N' := (upM l (k + 1)).length) (hN := by omega) (hr := inferInstanceAs (Rd1 _ (.rd _ x.digest.cells)))) fun ⟨A62, c62⟩ => ?_
          refine h_op (r_assign rfl) ?_
          refine h_nil ?_
          refine q_block ?_
          refine q_block ?_
          refine q_then ?_
          rw [show upM l k ++ [u8n kd] ++ x.digest.1 = upM l (k + 1) by rw [hst]; simp]
          refine h_reg ?_
          refine h_op (r_add rfl rfl) ?_
          refine h_op (r_move rfl) ?_
          refine h_nil ?_
          exact h_back (k + 1, A62, c62) ((show k + 1 ≤ l.length from hk2)) ((show l.length - (k + 1) < l.length - k by omega)) ⟨rfl, rfl, rfl, rfl, trivial⟩ (same)
        · have hp : payN (kd : Int) = 0 := by unfold payN; rw [if_neg (by omega), if_neg (by omega)]
          have hib : itB x = [u8n kd] := by unfold itB; rw [hkd, if_neg (show ¬ (kd : Int) = 1 by omega), if_neg (show ¬ (kd : Int) = 3 by omega)]; rfl
          rw [hp] at hln
          rw [hib] at hst
          refine h_skip ?_
          refine q_then ?_
          refine h_seq ?_
          refine h_block ?_
          refine h_seq ?_
          refine h_reg ?_
          refine h_op (r_idx rfl rfl) ?_
          refine h_op (r_nthr rfl (out := x.cells) (Item.cells_length _) hat) ?_
          refine h_opX (x_alloc) fun g8 => ?_
          refine h_opS (s_storer rfl rfl) ?_
          refine h_nil ?_
          refine q_then ?_
          refine h_seq ?_
          refine h_reg ?_
          refine h_op (r_move rfl) ?_
          refine h_op (r_field rfl) ?_
          refine h_op (r_int (r_loadc rfl) hkd) ?_
          refine h_op (r_cNW rfl) ?_
          refine h_opX (x_bsl rfl rfl) fun g42 => ?_
          refine h_opX (x_app1B rfl rfl (N' := (upM l (k + 1)).length) (hN := by omega)) fun ⟨g43, c43⟩ => ?_
          refine h_op (r_assign rfl) ?_
          refine h_nil ?_
          refine q_then ?_
          refine h_seq ?_
          refine h_reg ?_
          refine h_op (r_field rfl) ?_
          refine h_op (r_int (r_loadc rfl) hkd) ?_
          refine h_nil ?_
          refine q_then ?_
          refine h_block ?_
          refine h_seq ?_
          refine h_reg ?_
          refine h_op (r_eql rfl rfl) ?_
          refine h_op (r_assign rfl) ?_
          refine h_nil ?_
          refine q_then ?_
          refine h_no rfl ((show ¬ (kd : Int) = 1 by omega)) ?_
          refine h_seq ?_
          refine h_reg ?_
          refine h_op (r_eql rfl rfl) ?_
          refine h_op (r_assign rfl) ?_
          refine h_nil ?_
          refine q_then ?_
          refine h_no rfl ((show ¬ (kd : Int) = 3 by omega)) ?_
          refine h_skip ?_
          refine q_block ?_
          refine q_block ?_
          refine q_then ?_
          refine h_reg ?_
          refine h_op (r_add rfl rfl) ?_
          refine h_op (r_move rfl) ?_
          refine h_nil ?_
          change H _ _ _ _ _ (.own (.slice (some ⟨g43, 0, none⟩) (upM l (k + 1)).length c43) (upM l (k + 1)).length _ _ (bc (upM l k ++ [u8n kd])) :: _) _
          rw [← hst]
          exact h_back (k + 1, some ⟨g43, 0, none⟩, c43) ((show k + 1 ≤ l.length from hk2)) ((show l.length - (k + 1) < l.length - k by omega)) ⟨rfl, rfl, rfl, rfl, trivial⟩ (same)
    · obtain rfl : k = l.length := by omega
      refine h_exit ?_
      refine q_thenE ?_
      refine q_thenE ?_
      refine q_blockE ?_
      refine q_then ?_
      refine h_seq ?_
      refine h_reg ?_
      refine h_op (r_move rfl) ?_
      refine h_op (r_assign rfl) ?_
      refine h_op (r_assign rfl) ?_
      refine h_nil ?_
      refine q_then ?_
      refine h_ret ?_
      exact h_ret2 rfl rfl rfl fun w s => ⟨(B2, d2), rfl, (same (L' := [.own (.slice B2 (upM l l.length).length d2) (upM l l.length).length 5 1 (bc (upM l l.length))]) w s).res (List.Sublist.refl _) (by simp [Fa.wr])⟩
end
end Go.Proofs.YtjhocljhhpkiiaaGreatDoor
/- U112 -/
namespace Go.Proofs.YtjhocljhhpkiiaaGreatDoor
set_option linter.unusedSimpArgs false
set_option linter.unusedVariables false
open Go.RowKit
section
variable (h : Zh)
theorem item_one (lf : Leaf) (b o c : Nat) (hr : RdZ h (some ⟨b, o, none⟩) (bc (lf.key.1 ++ lf.value.1))) (hc : 64 ≤ c) : Spec Tryz.prog 159 [.int .i64 1, .slice (some ⟨b, o, none⟩) 64 c].toArray [.zone false h] [] (fun _ : Unit => .agg (Item.cells ⟨1, zB32, lf⟩).toArray) (fun _ => []) := by
  have hlk := lf.key.2
  have hr1 : RdZ h (some ⟨b, o, none⟩) lf.key.cells := ⟨fun j v hv => hr.at_ j v (by rw [bc_append]; show (lf.key.cells ++ bc lf.value.1)[j]? = some v; rw [List.getElem?_append_left (List.getElem?_eq_some_iff.1 hv).1]; exact hv)⟩
  have hr2 : RdZ h (some ⟨b, o + 32, none⟩) lf.value.cells := ⟨fun j v hv => by
    obtain ⟨b', o', e, h2⟩ := hr.at_ (32 + j) v (by rw [bc_append, List.getElem?_append_right (by rw [bc_length]; omega), bc_length, hlk, Nat.add_sub_cancel_left]; exact hv)
    injection e with e
    injection e with e1 e2
    subst e1 e2
    exact ⟨b, o + 32, rfl, by rw [Nat.add_assoc]; exact h2⟩⟩
  obtain ⟨o2, ho2⟩ : ∃ o2, o + 32 = o2 := ⟨_, rfl⟩
  rw [ho2] at hr2
  refine spec_of Tryz.func159 rfl (n := 28) rfl rfl ?_
  intro W
  refine h_seq ?_
  refine h_reg ?_
  refine h_opX (x_alloc) fun g4 => ?_
  refine h_nil ?_
  refine q_then ?_
  refine h_seq ?_
  refine h_reg ?_
  refine h_op (r_move rfl) ?_
  refine h_op (r_build rfl) ?_
  refine h_opX (x_alloc) fun g5 => ?_
  refine h_opS (s_storer rfl rfl) ?_
  refine h_nil ?_
  refine q_then ?_
  refine h_seq ?_
  refine h_seq ?_
  refine h_reg ?_
  refine h_op (r_move rfl) ?_
  refine h_nil ?_
  refine q_then ?_
  refine h_block ?_
  refine h_seq ?_
  refine h_reg ?_
  refine h_op (r_eql rfl rfl) ?_
  refine h_op (r_assign rfl) ?_
  refine h_nil ?_
  refine q_then ?_
  change H _ _ _ _ _ (.blk g5 (Item.cells ⟨1, zB32, zLeaf⟩) _ :: _) _
  refine h_yes rfl ((rfl : (1 : Int) = 1)) ?_
  refine ha_start [.zone false h, .blk g5 (Item.cells ⟨1, zB32, zLeaf⟩) 126] [] mixed (same) ?_
  refine ha_takeP 0 rfl (r_move rfl) ?_
  refine ha_takeP 1 rfl (r_slHb rfl rfl) ?_
  refine ha_takeP 2 rfl (r_arr rfl) ?_
  refine ha_take 3 rfl (r_loadr rfl) ?_
  refine ha_takeP 4 rfl (r_move rfl) ?_
  refine ha_takeP 5 rfl (r_as (r_slL rfl rfl) (show _ = Value.slice (some ⟨b, o2, none⟩) 32 (c - 32) by unfold cutA; rw [if_neg (by omega), ← ho2]; simp [Addr.add_mid])) ?_
  refine ha_takeP 6 rfl (r_arr rfl) ?_
  refine ha_take 7 rfl (r_loadr rfl) ?_
  refine ha_takeP 8 rfl (r_build rfl) ?_
  refine ha_takeP 9 rfl (r_field rfl) ?_
  refine ha_one 10 ?_
  refine ho_SL 10 rfl (s_storer rfl rfl) ?_
  refine q_block ?_
  refine q_then ?_
  change H _ _ _ _ _ (.blk g5 (Item.cells ⟨1, zB32, lf⟩) _ :: _) _
  refine h_seq ?_
  refine h_reg ?_
  refine h_op (r_loadr rfl) ?_
  refine h_opS (s_storer rfl rfl) ?_
  refine h_nil ?_
  refine q_then ?_
  refine h_ret ?_
  exact h_ret1 rfl (rv_row rfl) fun w s => ⟨(), rfl, s.res (List.nil_sublist _) (by simp)⟩
theorem item_three (dg : B32) (b o c : Nat) (hr : RdZ h (some ⟨b, o, none⟩) dg.cells) : Spec Tryz.prog 159 [.int .i64 3, .slice (some ⟨b, o, none⟩) 32 c].toArray [.zone false h] [] (fun _ : Unit => .agg (Item.cells ⟨3, dg, zLeaf⟩).toArray) (fun _ => []) := by
  refine spec_of Tryz.func159 rfl (n := 28) rfl rfl ?_
  intro W
  refine h_seq ?_
  refine h_reg ?_
  refine h_opX (x_alloc) fun g4 => ?_
  refine h_nil ?_
  refine q_then ?_
  refine h_seq ?_
  refine h_reg ?_
  refine h_op (r_move rfl) ?_
  refine h_op (r_build rfl) ?_
  refine h_opX (x_alloc) fun g5 => ?_
  refine h_opS (s_storer rfl rfl) ?_
  refine h_nil ?_
  refine q_then ?_
  refine h_seq ?_
  refine h_seq ?_
  refine h_reg ?_
  refine h_op (r_move rfl) ?_
  refine h_nil ?_
  refine q_then ?_
  refine h_block ?_
  refine h_seq ?_
  refine h_reg ?_
  refine h_op (r_eql rfl rfl) ?_
  refine h_op (r_assign rfl) ?_
  refine h_nil ?_
  refine q_then ?_
  change H _ _ _ _ _ (.blk g5 (Item.cells ⟨3, zB32, zLeaf⟩) _ :: _) _
  refine h_no rfl ((show ¬ (3 : Int) = 1 by decide)) ?_
  refine h_seq ?_
  refine h_reg ?_
  refine h_op (r_eql rfl rfl) ?_
  refine h_op (r_assign rfl) ?_
  refine h_nil ?_
  refine q_then ?_
  refine h_yes rfl ((rfl : (3 : Int) = 3)) ?_
  refine h_reg ?_
  refine h_op (r_move rfl) ?_
  refine h_op (r_arr rfl) ?_
  refine h_op (r_loadr rfl) ?_
  refine h_op (r_field rfl) ?_
  refine h_opS (s_storer rfl rfl) ?_
  refine h_nil ?_
  refine q_block ?_
  refine q_then ?_
  refine h_seq ?_
  refine h_reg ?_
  refine h_op (r_loadr rfl) ?_
  refine h_opS (s_storer rfl rfl) ?_
  refine h_nil ?_
  refine q_then ?_
  refine h_ret ?_
  exact h_ret1 rfl (rv_row rfl) fun w s => ⟨(), rfl, s.res (List.nil_sublist _) (by simp)⟩
theorem item_bare (k : Int) (h1 : ¬ k = 1) (h3 : ¬ k = 3) (B : Option Addr) (m c : Nat) : Spec Tryz.prog 159 [.int .i64 k, .slice B m c].toArray [.zone false h] [] (fun _ : Unit => .agg (Item.cells ⟨k, zB32, zLeaf⟩).toArray) (fun _ => []) := by
  refine spec_of Tryz.func159 rfl (n := 28) rfl rfl ?_
  intro W
  refine h_seq ?_
  refine h_reg ?_
  refine h_opX (x_alloc) fun g4 => ?_
  refine h_nil ?_
  refine q_then ?_
  refine h_seq ?_
  refine h_reg ?_
  refine h_op (r_move rfl) ?_
  refine h_op (r_build rfl) ?_
  refine h_opX (x_alloc) fun g5 => ?_
  refine h_opS (s_storer rfl rfl) ?_
  refine h_nil ?_
  refine q_then ?_
  refine h_seq ?_
  refine h_seq ?_
  refine h_reg ?_
  refine h_op (r_move rfl) ?_
  refine h_nil ?_
  refine q_then ?_
  refine h_block ?_
  refine h_seq ?_
  refine h_reg ?_
  refine h_op (r_eql rfl rfl) ?_
  refine h_op (r_assign rfl) ?_
  refine h_nil ?_
  refine q_then ?_
  change H _ _ _ _ _ (.blk g5 (Item.cells ⟨k, zB32, zLeaf⟩) _ :: _) _
  refine h_no rfl (h1) ?_
  refine h_seq ?_
  refine h_reg ?_
  refine h_op (r_eql rfl rfl) ?_
  refine h_op (r_assign rfl) ?_
  refine h_nil ?_
  refine q_then ?_
  refine h_no rfl (h3) ?_
  refine h_skip ?_
  refine q_block ?_
  refine q_then ?_
  refine h_seq ?_
  refine h_reg ?_
  refine h_op (r_loadr rfl) ?_
  refine h_opS (s_storer rfl rfl) ?_
  refine h_nil ?_
  refine q_then ?_
  refine h_ret ?_
  exact h_ret1 rfl (rv_row rfl) fun w s => ⟨(), rfl, s.res (List.nil_sublist _) (by simp)⟩
end
end Go.Proofs.YtjhocljhhpkiiaaGreatDoor
/- U113 -/
namespace Go.Proofs.YtjhocljhhpkiiaaGreatDoor
set_option linter.unusedSimpArgs false
set_option linter.unusedVariables false
open Go.RowKit
section
variable {A : List Fa} {W : World} {n : Nat} {D : List Deferred} {E : Env} {L : List Fa} {P : Program} {ro : Option Nat} {Q : Exit → Act → World → Prop} {K : Act → World → Prop}
theorem stepR_scope {b : Frame} {a : Act} {k : List Go.Item} {cs : List Frame} {w : World} {c : Code} : step P (lone (b.atR a (.code (.scope c) :: k)) cs w) = .next (lone (b.atR a (.code c :: .inScope c :: k)) cs w) :=
  step_lone_go (by simp [stepG, stepG.exec, Frame.atR])
theorem stepR_inScope {b : Frame} {a : Act} {k : List Go.Item} {cs : List Frame} {w : World} {c : Code} : step P (lone (b.atR a (.inScope c :: k)) cs w) = .next (lone (b.atR a k) cs w) :=
  step_lone_go (by simp [stepG, stepG.exec, Frame.atR])
theorem wpIn_scope {F : Fence} {m : Nat} {a : Act} {w : World} {c : Code} (h : c.wpIn F m P (Exit.noGoto Q) a w) : (Code.scope c).wpIn F m P Q a w := by
  intro b k cs hro hb hr
  have h0 : (lone (b.atR a (.code (.scope c) :: k)) cs w).fenced P F := fenced_calm hb hr rfl
  obtain ⟨e, a₁, w₁, hq, harr⟩ := h b (.inScope c :: k) cs hro hb hr
  cases e with
  | normal => exact ⟨.normal, a₁, w₁, hq, .head h0 stepR_scope (StepsIn.trans harr (.one (fenced_calm hb hr rfl) stepR_inScope))⟩
  | exit id =>
    have hx : exitTo id (.inScope c :: k) = exitTo id k := by simp [exitTo]
    exact ⟨.exit id, a₁, w₁, hq, fun k' hk => .head h0 stepR_scope (harr.1 k' (by rw [hx]; exact hk)),
      fun hr' hk => let ⟨k₁, h1, h2⟩ := harr.2 hr' (by rw [hx]; exact hk); ⟨k₁, h1, .head h0 stepR_scope h2⟩⟩
  | goto l => exact hq.elim
  | ret => exact ⟨_, a₁, w₁, hq, .of_steps (.one h0 stepR_scope) harr⟩
  | panic ch => exact ⟨_, a₁, w₁, hq, .of_steps (.one h0 stepR_scope) harr⟩
  | outgrown => exact ⟨_, a₁, w₁, hq, .of_steps (.one h0 stepR_scope) harr⟩
theorem h_scope {c : Code} (h : H A W n D E L (c.wpIn (FR ro) 0 P (Exit.noGoto Q))) : H A W n D E L ((Code.scope c).wpIn (FR ro) 0 P Q) := fun a w k s => wpIn_scope (h a w k s)
theorem h_label {l : Nat} (h : H A W n D E L (Q .normal)) : H A W n D E L ((Code.label l).wpIn (FR ro) 0 P Q) := fun a w k s => wpIn_label (h a w k s)
theorem q_scopeR (h : H A W n D E L (Q .ret)) : H A W n D E L (Exit.noGoto Q .ret) := h
end
/-- the rest of a row, behind k cells -/
theorem RdZ.cut {h : Zh} {b o : Nat} {l m : List UInt8} (hr : RdZ h (some ⟨b, o, none⟩) (bc (l ++ m))) {k o2 : Nat} (hk : l.length = k) (ho : o + k = o2) : RdZ h (some ⟨b, o2, none⟩) (bc m) := by
  subst hk ho
  refine ⟨fun j v hv => ?_⟩
  obtain ⟨b', o', e, h2⟩ := hr.at_ (l.length + j) v (by rw [bc_append, List.getElem?_append_right (by rw [bc_length]; omega), bc_length, Nat.add_sub_cancel_left]; exact hv)
  injection e with e
  injection e with e1 e2
  subst e1 e2
  exact ⟨b, o + l.length, rfl, by rw [Nat.add_assoc]; exact h2⟩
theorem RdZ.cutA {h : Zh} {A : Option Addr} {l m : List UInt8} {c k : Nat} (hr : RdZ h A (bc (l ++ m))) (hk : l.length = k) (hk0 : 0 < k) (hc : k + m.length ≤ c) : RdZ h (cutA A c k 1) (bc m) := by
  unfold Go.Proofs.YtjhocljhhpkiiaaGreatDoor.cutA
  split
  · have : m = [] := List.eq_nil_of_length_eq_zero (by omega)
    rw [this]
    exact RdZ.nil _ _
  · refine ⟨fun j v hv => ?_⟩
    have h1 := hr.at_ (k + j) v (by rw [bc_append, List.getElem?_append_right (by rw [bc_length]; omega), bc_length, hk, Nat.add_sub_cancel_left]; exact hv)
    obtain ⟨b, o, rfl, h2⟩ := h1
    exact ⟨b, o + k, by simp [Addr.add_mid], by rw [Nat.add_assoc]; exact h2⟩
end Go.Proofs.YtjhocljhhpkiiaaGreatDoor
/- N20 -/
namespace Go.Proofs.YtjhocljhhpkiiaaGreatDoor
set_option linter.unusedSimpArgs false
set_option linter.unusedVariables false
open Go.RowKit
section
variable {P : Program} {n : Nat} {D : List Deferred} {E : Env} {L : List Fa} {T T' : TypeId} {x y : Operand}
theorem r_shl8w {i : Nat} (hx : ev E x = some (.int .i64 (i : Int))) (hy : ev E y = some (.int .u64 8)) (h : i < 4294967296) : Runs0 P n D E L (.binOp .shl T x y T') (.int .i64 ((i * 256 : Nat) : Int)) := fun c w ka s o ho => by
  refine run_bin ho (ka.ev hx) (ka.ev hy) rfl ?_
  have e : binOp .shl T (.int .i64 (i : Int)) (.int .u64 8) = Op.shift .shl .i64 i .u64 8 := by unfold binOp; rfl
  rw [e]
  unfold Op.shift
  rw [if_neg (by omega)]
  have e2 : IntKind.wrap .i64 ((i : Int) * 2 ^ 8) = ((i * 256 : Nat) : Int) := by rw [IntKind.wrap_i64]; omega
  simp only [show IntKind.i64.bits = 64 from rfl, show min (8 : Int).toNat 64 = 8 from rfl, e2]
  rfl
theorem or_byteN (c b : Nat) (hb : b < 256) : c * 256 ||| b = c * 256 + b := by
  have := (Nat.two_pow_add_eq_or_of_lt (i := 8) (b := b) (by omega) c)
  rw [Nat.mul_comm] at this
  exact this.symm
theorem r_or8w {i j : Nat} (hx : ev E x = some (.int .i64 ((i * 256 : Nat) : Int))) (hy : ev E y = some (.int .i64 (j : Int))) (h : i < 4294967296) (hj : j < 256) : Runs0 P n D E L (.binOp .or T x y T') (.int .i64 ((i * 256 + j : Nat) : Int)) := fun c w ka s o ho => by
  refine run_bin ho (ka.ev hx) (ka.ev hy) rfl ?_
  rw [binOp_bits (by simp) (by simp) (by simp)]
  have h1 : (BitVec.ofInt 64 ((i * 256 : Nat) : Int) ||| BitVec.ofInt 64 (j : Int)).toNat = i * 256 + j := by
    rw [BitVec.toNat_or, BitVec.ofInt_natCast, BitVec.ofInt_natCast, BitVec.toNat_ofNat, BitVec.toNat_ofNat, Nat.mod_eq_of_lt (by omega), Nat.mod_eq_of_lt (by omega), or_byteN i j hj]
  have h2 : IntKind.wrap .i64 ((BitVec.ofInt 64 ((i * 256 : Nat) : Int) ||| BitVec.ofInt 64 (j : Int)).toNat : Int) = ((i * 256 + j : Nat) : Int) := by
    rw [h1, IntKind.wrap_i64]
    omega
  show Result.ok (Value.int .i64 (IntKind.wrap .i64 ((BitVec.ofInt 64 ((i * 256 : Nat) : Int) ||| BitVec.ofInt 64 (j : Int)).toNat : Int))) w = _
  rw [h2]
end
end Go.Proofs.YtjhocljhhpkiiaaGreatDoor
/- U116 -/
namespace Go.Proofs.YtjhocljhhpkiiaaGreatDoor
set_option linter.unusedSimpArgs false
set_option linter.unusedVariables false
open Go.RowKit
/-- the number that k bytes of the head tell -/
def cntK (b : List UInt8) : Nat → Nat
  | 0 => 0
  | k + 1 => cntK b k * 256 + (b.getD (2 + k) 0).toNat
theorem cntK_lt (b : List UInt8) : ∀ k, k ≤ 4 → cntK b k < 256 ^ k
  | 0, _ => by show 0 < 256 ^ 0; decide
  | k + 1, hk => by
    have h1 := cntK_lt b k (by omega)
    have h2 := (b.getD (2 + k) 0).toNat_lt
    unfold cntK
    rw [Nat.pow_succ]
    omega
theorem cntK_small (b : List UInt8) {k : Nat} (hk : k < 4) : cntK b k < 4294967296 := by
  have h1 := cntK_lt b k (by omega)
  have h2 : 256 ^ k ≤ 256 ^ 3 := Nat.pow_le_pow_right (by decide) (by omega)
  omega
section
variable (h : Zh)
theorem mDecode_short (bb : List UInt8) (B : Option Addr) (c : Nat) (hs : bb.length < 6) : Spec Tryz.prog 103 [.slice B bb.length c].toArray [] [] (fun _ : Unit => .tuple #[.slice none 0 0, .int .i64 5]) (fun _ => []) := by
  refine spec_of Tryz.func103 rfl (n := 88) rfl rfl ?_
  intro W
  refine h_seq ?_
  refine h_reg ?_
  refine h_op (r_assign rfl) ?_
  refine h_op (r_assign rfl) ?_
  refine h_nil ?_
  refine q_then ?_
  refine h_scope ?_
  refine h_seq ?_
  refine h_block ?_
  refine h_seq ?_
  refine h_reg ?_
  refine h_op (r_move rfl) ?_
  refine h_op (r_len rfl) ?_
  refine h_op (r_lss rfl rfl) ?_
  refine h_op (r_assign rfl) ?_
  refine h_nil ?_
  refine q_then ?_
  refine h_yes rfl ((show ((bb.length : Nat) : Int) < 6 by omega)) ?_
  refine h_seq ?_
  refine h_reg ?_
  refine h_op (r_assign rfl) ?_
  refine h_op (r_assign rfl) ?_
  refine h_nil ?_
  refine q_then ?_
  refine h_ret ?_
  refine q_blockR ?_
  refine q_thenR ?_
  refine q_scopeR ?_
  exact h_ret2 rfl rfl rfl fun w s => ⟨(), rfl, s.res (List.nil_sublist _) (by simp)⟩
theorem mDecode_version (bb : List UInt8) (b o c : Nat) (hs : 6 ≤ bb.length) [hB : RdZ h (some ⟨b, o, none⟩) (bc bb)] (hv : bb.getD 0 0 ≠ 1) : Spec Tryz.prog 103 [.slice (some ⟨b, o, none⟩) bb.length c].toArray [.zone false h] [] (fun _ : Unit => .tuple #[.slice none 0 0, .int .i64 6]) (fun _ => []) := by
  have hne : ¬ (((bb.getD 0 0).toNat : Nat) : Int) = 1 := fun e => hv (UInt8.toNat_inj.1 (by show _ = 1; omega))
  refine spec_of Tryz.func103 rfl (n := 88) rfl rfl ?_
  intro W
  refine h_seq ?_
  refine h_reg ?_
  refine h_op (r_assign rfl) ?_
  refine h_op (r_assign rfl) ?_
  refine h_nil ?_
  refine q_then ?_
  refine h_scope ?_
  refine h_seq ?_
  refine h_block ?_
  refine h_seq ?_
  refine h_reg ?_
  refine h_op (r_move rfl) ?_
  refine h_op (r_len rfl) ?_
  refine h_op (r_lss rfl rfl) ?_
  refine h_op (r_assign rfl) ?_
  refine h_nil ?_
  refine q_then ?_
  refine h_no rfl ((show ¬ ((bb.length : Nat) : Int) < 6 by omega)) ?_
  refine h_seq ?_
  refine h_reg ?_
  refine h_op (r_move rfl) ?_
  refine h_op (r_idx rfl rfl) ?_
  refine h_op (r_nth rfl (bc_at' (l := bb) (i := 0) (by omega))) ?_
  refine h_op (r_neq rfl rfl) ?_
  refine h_op (r_assign rfl) ?_
  refine h_nil ?_
  refine q_then ?_
  refine h_yes rfl (hne) ?_
  refine h_seq ?_
  refine h_reg ?_
  refine h_op (r_assign rfl) ?_
  refine h_op (r_assign rfl) ?_
  refine h_nil ?_
  refine q_then ?_
  refine h_ret ?_
  refine q_blockR ?_
  refine q_thenR ?_
  refine q_scopeR ?_
  exact h_ret2 rfl rfl rfl fun w s => ⟨(), rfl, s.res (List.nil_sublist _) (by simp)⟩
theorem mDecode_kind (bb : List UInt8) (b o c : Nat) (hs : 6 ≤ bb.length) [hB : RdZ h (some ⟨b, o, none⟩) (bc bb)] (hv : bb.getD 0 0 = 1) (hk : bb.getD 1 0 ≠ 2) : Spec Tryz.prog 103 [.slice (some ⟨b, o, none⟩) bb.length c].toArray [.zone false h] [] (fun _ : Unit => .tuple #[.slice none 0 0, .int .i64 7]) (fun _ => []) := by
  have hne : ¬ (((bb.getD 1 0).toNat : Nat) : Int) = 2 := fun e => hk (UInt8.toNat_inj.1 (by show _ = 2; omega))
  refine spec_of Tryz.func103 rfl (n := 88) rfl rfl ?_
  intro W
  refine h_seq ?_
  refine h_reg ?_
  refine h_op (r_assign rfl) ?_
  refine h_op (r_assign rfl) ?_
  refine h_nil ?_
  refine q_then ?_
  refine h_scope ?_
  refine h_seq ?_
  refine h_block ?_
  refine h_seq ?_
  refine h_reg ?_
  refine h_op (r_move rfl) ?_
  refine h_op (r_len rfl) ?_
  refine h_op (r_lss rfl rfl) ?_
  refine h_op (r_assign rfl) ?_
  refine h_nil ?_
  refine q_then ?_
  refine h_no rfl ((show ¬ ((bb.length : Nat) : Int) < 6 by omega)) ?_
  refine h_seq ?_
  refine h_reg ?_
  refine h_op (r_move rfl) ?_
  refine h_op (r_idx rfl rfl) ?_
  refine h_op (r_as (r_nth rfl (bc_at' (l := bb) (i := 0) (by omega))) (show _ = Value.int .u8 1 by rw [hv]; rfl)) ?_
  refine h_op (r_neq rfl rfl) ?_
  refine h_op (r_assign rfl) ?_
  refine h_nil ?_
  refine q_then ?_
  refine h_no rfl ((fun h => h rfl)) ?_
  refine h_seq ?_
  refine h_reg ?_
  refine h_op (r_move rfl) ?_
  refine h_op (r_idx rfl rfl) ?_
  refine h_op (r_nth rfl (bc_at' (l := bb) (i := 1) (by omega))) ?_
  refine h_op (r_neq rfl rfl) ?_
  refine h_op (r_assign rfl) ?_
  refine h_nil ?_
  refine q_then ?_
  refine h_yes rfl (hne) ?_
  refine h_seq ?_
  refine h_reg ?_
  refine h_op (r_assign rfl) ?_
  refine h_op (r_assign rfl) ?_
  refine h_nil ?_
  refine q_then ?_
  refine h_ret ?_
  refine q_blockR ?_
  refine q_thenR ?_
  refine q_scopeR ?_
  exact h_ret2 rfl rfl rfl fun w s => ⟨(), rfl, s.res (List.nil_sublist _) (by simp)⟩
end
end Go.Proofs.YtjhocljhhpkiiaaGreatDoor
/- U117 -/
namespace Go.Proofs.YtjhocljhhpkiiaaGreatDoor
set_option linter.unusedSimpArgs false
set_option linter.unusedVariables false
open Go.RowKit
theorem RdZ.front {h : Zh} {A : Option Addr} {l m : List UInt8} (hr : RdZ h A (bc (l ++ m))) : RdZ h A (bc l) :=
  ⟨fun j v hv => hr.at_ j v (by rw [bc_append, List.getElem?_append_left (List.getElem?_eq_some_iff.1 hv).1]; exact hv)⟩
theorem item_bytes (h : Zh) (k : UInt8) (r : List UInt8) (bR oR cr : Nat) (hz : RdZ h (some ⟨bR, oR, none⟩) (bc (k :: r))) (hp : payB k ≤ r.length) (hc : 1 + payB k ≤ cr) :
    Spec Tryz.prog 159 [.int .i64 (k.toNat : Int), .slice (cutA (some ⟨bR, oR, none⟩) cr 1 1) (payB k) (cr - 1)].toArray [.zone false h] [] (fun _ : Unit => .agg (itemB k r).cells.toArray) (fun _ => []) := by
  have hcut : 0 < payB k → cutA (some ⟨bR, oR, none⟩) cr 1 1 = some ⟨bR, oR + 1, none⟩ := fun hp => by
    unfold cutA
    rw [if_neg (by omega)]
    simp [Addr.add_mid]
  have hz1 : RdZ h (some ⟨bR, oR + 1, none⟩) (bc r) := RdZ.cut (l := [k]) (m := r) hz rfl rfl
  unfold itemB
  by_cases h1 : k.toNat = 1
  · have hp1 : payB k = 64 := by unfold payB payN; rw [if_pos (by omega)]
    rw [if_pos h1, hcut (by omega), hp1, h1]
    have e0 := b32At_drop (l := r) (o := 0) (by omega)
    have e1 := b32At_drop (l := r) (o := 32) (by omega)
    rw [List.drop_zero] at e0
    have hz2 : RdZ h (some ⟨bR, oR + 1, none⟩) (bc ((b32At r 0).1 ++ (b32At r 32).1)) := by
      rw [e0, Nat.zero_add, e1, ← List.append_assoc] at hz1
      exact hz1.front
    exact item_one h ⟨b32At r 0, b32At r 32⟩ bR (oR + 1) (cr - 1) hz2 (by omega)
  · rw [if_neg h1]
    by_cases h3 : k.toNat = 3
    · have hp3 : payB k = 32 := by unfold payB payN; rw [if_neg (by omega), if_pos (by omega)]
      rw [if_pos h3, hcut (by omega), hp3, h3]
      have e0 := b32At_drop (l := r) (o := 0) (by omega)
      rw [List.drop_zero] at e0
      have hz2 : RdZ h (some ⟨bR, oR + 1, none⟩) (bc (b32At r 0).1) := by
        rw [e0] at hz1
        exact hz1.front
      exact item_three h (b32At r 0) bR (oR + 1) (cr - 1) hz2
    · rw [if_neg h3]
      exact item_bare h (k.toNat : Int) (by omega) (by omega) (cutA (some ⟨bR, oR, none⟩) cr 1 1) (payB k) (cr - 1)
def decMV : Except Int (List Item) → Option Addr → Nat → Value
  | .error e, _, _ => .tuple #[.slice none 0 0, .int .i64 e]
  | .ok l, A, c => .tuple #[.slice A l.length c, .int .i64 0]
theorem cntK_H (bb : List UInt8) : cntK bb 4 = cntH bb := by
  show (((0 * 256 + (bb.getD 2 0).toNat) * 256 + (bb.getD 3 0).toNat) * 256 + (bb.getD 4 0).toNat) * 256 + (bb.getD 5 0).toNat = _
  unfold cntH
  omega
theorem mDecode_rest (h : Zh) (bb : List UInt8) (hs : 6 ≤ bb.length) (hbl : bb.length ≤ 900000) (h1 : bb.getD 0 0 = 1) (h2 : bb.getD 1 0 = 2) (B : Option Addr) (c : Nat) (hcap : bb.length ≤ c) [hB : RdZ h B (bc bb)] (r : Except Int (List Item)) (hr : (match itsD (bb.drop 6) with | some l => if l.length = cntH bb ∧ checkM l = 0 then Except.ok l else Except.error 5 | none => Except.error 5) = r) :
    Spec Tryz.prog 103 [.slice B bb.length c].toArray [] [.zone true h] (fun u : {u : Zh × Option Addr × Nat // LeZ h u.1 ∧ ∀ l, r = .ok l → RdZ u.1 u.2.1 (its l) ∧ l.length ≤ u.2.2} => decMV r u.1.2.1 u.1.2.2) (fun u => [.zone true u.1.1]) := by
  obtain ⟨b, o, rfl, -⟩ := hB.at_ 0 _ (List.getElem?_eq_getElem (by rw [bc_length]; omega))
  obtain ⟨o2, ho2⟩ : ∃ o2, o + 2 = o2 := ⟨_, rfl⟩
  have hB2 : RdZ h (some ⟨b, o2, none⟩) (bc (bb.drop 2)) := RdZ.cut (l := bb.take 2) (m := bb.drop 2) (by rw [List.take_append_drop]; exact hB) (by rw [List.length_take]; omega) ho2
  have hR0 : RdZ h (cutA (some ⟨b, o, none⟩) c 6 1) (bc (bb.drop 6)) := RdZ.cutA (l := bb.take 6) (m := bb.drop 6) (by rw [List.take_append_drop]; exact hB) (by rw [List.length_take]; omega) (by omega) (by rw [List.length_drop]; omega)
  have hd2 : (bb.drop 2).length = bb.length - 2 := List.length_drop
  have hget : ∀ k, (bb.drop 2).getD k 0 = bb.getD (2 + k) 0 := fun k => by simp [List.getD_eq_getElem?_getD]
  refine spec_of Tryz.func103 rfl (n := 88) rfl rfl ?_
  intro W
  refine h_seq ?_
  refine h_reg ?_
  refine h_op (r_assign rfl) ?_
  refine h_op (r_assign rfl) ?_
  refine h_nil ?_
  refine q_then ?_
  refine h_scope ?_
  refine h_seq ?_
  refine h_block ?_
  refine h_seq ?_
  refine h_reg ?_
  refine h_op (r_move rfl) ?_
  refine h_op (r_len rfl) ?_
  refine h_op (r_lss rfl rfl) ?_
  refine h_op (r_assign rfl) ?_
  refine h_nil ?_
  refine q_then ?_
  refine h_no rfl ((show ¬ ((bb.length : Nat) : Int) < 6 by omega)) ?_
  refine h_seq ?_
  refine h_reg ?_
  refine h_op (r_move rfl) ?_
  refine h_op (r_idx rfl rfl) ?_
  refine h_op (r_as (r_nth rfl (bc_at' (l := bb) (i := 0) (by omega))) (show _ = Value.int .u8 1 by rw [h1]; rfl)) ?_
  refine h_op (r_neq rfl rfl) ?_
  refine h_op (r_assign rfl) ?_
  refine h_nil ?_
  refine q_then ?_
  refine h_no rfl ((fun h => h rfl)) ?_
  refine h_seq ?_
  refine h_reg ?_
  refine h_op (r_move rfl) ?_
  refine h_op (r_idx rfl rfl) ?_
  refine h_op (r_as (r_nth rfl (bc_at' (l := bb) (i := 1) (by omega))) (show _ = Value.int .u8 2 by rw [h2]; rfl)) ?_
  refine h_op (r_neq rfl rfl) ?_
  refine h_op (r_assign rfl) ?_
  refine h_nil ?_
  refine q_then ?_
  refine h_no rfl ((fun h => h rfl)) ?_
  refine h_skip ?_
  refine q_block ?_
  refine q_then ?_
  refine h_seq ?_
  refine h_reg ?_
  refine h_op (r_assign rfl) ?_
  refine h_nil ?_
  refine q_then ?_
  refine h_seq ?_
  refine h_seq ?_
  refine h_reg ?_
  refine h_op (r_move rfl) ?_
  refine h_op (r_as (r_slLHb rfl rfl rfl (m := 4)) (show _ = Value.slice (some ⟨b, o2, none⟩) 4 (c - 2) by rw [← ho2])) ?_
  refine h_op (r_len rfl) ?_
  refine h_op (r_move rfl) ?_
  refine h_nil ?_
  refine q_then ?_
  refine h_block ?_
  refine h_loop (fun (k : Nat) => k ≤ 4) (fun (k : Nat) => [(28, .int .i64 (k : Int)), (27, .int .i64 4), (26, .slice (some ⟨b, o2, none⟩) 4 (c - 2)), (4, .int .i64 ((cntK bb k : Nat) : Int)), (0, .slice (some ⟨b, o, none⟩) bb.length c)]) (fun (k : Nat) => [.zone true h]) (fun (k : Nat) => 4 - k) 0 ((show 0 ≤ 4 by omega)) ⟨rfl, rfl, rfl, rfl, rfl, trivial⟩ (same) ?_
  rintro k hk
  refine h_seq ?_
  refine h_reg ?_
  refine h_op (r_lss rfl rfl) ?_
  refine h_nil ?_
  refine q_then ?_
  refine h_seq ?_
  refine h_cond rfl (fun hlt => ?_) (fun hlt => ?_)
  · have hk2 : k < 4 := by omega
    refine h_skip ?_
    refine q_then ?_
    refine h_seq ?_
    refine h_block ?_
    refine h_seq ?_
    refine h_reg ?_
    refine h_op (r_idx rfl rfl) ?_
    refine h_op (r_nth rfl (bc_at' (l := bb.drop 2) (i := k) (by omega))) ?_
    refine h_op (r_assign rfl) ?_
    refine h_nil ?_
    refine q_then ?_
    refine h_reg ?_
    refine h_op (r_move rfl) ?_
    refine h_op (r_shl8w rfl rfl (cntK_small bb hk2)) ?_
    refine h_op (r_move rfl) ?_
    refine h_op (r_int (r_cUI rfl) (show _ = (((bb.getD (2 + k) 0).toNat : Nat) : Int) from congrArg (fun x : UInt8 => ((x.toNat : Nat) : Int)) (hget k))) ?_
    refine h_op (r_int (r_or8w rfl rfl (cntK_small bb hk2) (bb.getD (2 + k) 0).toNat_lt) (show _ = ((cntK bb (k + 1) : Nat) : Int) from rfl)) ?_
    refine h_op (r_assign rfl) ?_
    refine h_nil ?_
    refine q_block ?_
    refine q_then ?_
    refine h_reg ?_
    refine h_op (r_add rfl rfl) ?_
    refine h_op (r_move rfl) ?_
    refine h_nil ?_
    exact h_back (k + 1) (hk2) (by omega) ⟨rfl, rfl, rfl, rfl, rfl, trivial⟩ (same)
  · obtain rfl : k = 4 := by omega
    rw [cntK_H]
    have hd6 : (bb.drop 6).length = bb.length - 6 := List.length_drop
    refine h_exit ?_
    refine q_thenE ?_
    refine q_thenE ?_
    refine q_blockE ?_
    refine q_then ?_
    refine h_seq ?_
    refine h_reg ?_
    refine h_op (r_assign rfl) ?_
    refine h_nil ?_
    refine q_then ?_
    refine h_seq ?_
    refine h_reg ?_
    refine h_op (r_move rfl) ?_
    refine h_op (r_as (r_slL rfl rfl) (show _ = Value.slice (cutA (some ⟨b, o, none⟩) c 6 1) (bb.drop 6).length (c - 6) by rw [hd6])) ?_
    refine h_op (r_assign rfl) ?_
    refine h_nil ?_
    refine q_then ?_
    refine h_seq ?_
    refine h_label ?_
    refine q_then ?_
    refine h_seq ?_
    refine h_block ?_
    refine h_nil_own 126 97 (xs := its []) rfl ?_
    refine h_loop (fun (s : List UInt8 × List Item × (Option Addr × Nat) × Option Addr × Nat) => itsD (bb.drop 6) = (itsD s.1).map (s.2.1 ++ ·) ∧ RdZ h s.2.2.1.1 (bc s.1) ∧ s.1.length ≤ s.2.2.1.2 ∧ s.2.1.length ≤ cntH bb ∧ s.2.1.length + s.1.length ≤ bb.length) (fun (s : List UInt8 × List Item × (Option Addr × Nat) × Option Addr × Nat) => [(8, .slice s.2.2.1.1 s.1.length s.2.2.1.2), (7, .slice s.2.2.2.1 s.2.1.length s.2.2.2.2), (4, .int .i64 ((cntH bb : Nat) : Int))]) (fun (s : List UInt8 × List Item × (Option Addr × Nat) × Option Addr × Nat) => [.own (.slice s.2.2.2.1 s.2.1.length s.2.2.2.2) s.2.1.length 126 97 (its s.2.1), .zone true h]) (fun (s : List UInt8 × List Item × (Option Addr × Nat) × Option Addr × Nat) => s.1.length) (bb.drop 6, [], (cutA (some ⟨b, o, none⟩) c 6 1, c - 6), none, 0) (⟨by simp, hR0, (by dsimp only; omega), Nat.zero_le _, (by dsimp only; rw [hd6]; simp)⟩) ⟨rfl, rfl, rfl, trivial⟩ (same) ?_
    rintro ⟨s, l0, ⟨R, cr⟩, A, c9⟩ ⟨hit, hzr, hcr, hlc, hlb⟩
    dsimp only at hit hzr hcr hlc hlb ⊢
    rcases s with _ | ⟨k, rest⟩
    · rw [itsD_nil] at hit
      rw [hit] at hr
      simp only [Option.map_some, List.append_nil] at hr
      by_cases hcnt : l0.length = cntH bb
      · by_cases hch : checkM l0 = 0
        · rw [if_pos ⟨hcnt, hch⟩] at hr
          subst hr
          refine h_seq ?_
          refine h_seq ?_
          refine h_reg ?_
          refine h_op (r_move rfl) ?_
          refine h_op (r_len rfl) ?_
          refine h_op (r_bool (r_gtr rfl rfl) (show _ = false from rfl)) ?_
          refine h_op (r_move rfl) ?_
          refine h_opOff ?_
          refine h_opOff ?_
          refine h_opOff ?_
          refine h_opOff ?_
          refine h_op (r_pick rfl rfl) ?_
          refine h_nil ?_
          refine q_then ?_
          refine h_condF rfl ?_
          refine h_exit ?_
          refine q_thenE ?_
          refine q_thenE ?_
          refine q_blockE ?_
          refine q_then ?_
          refine h_seq ?_
          refine h_seq ?_
          refine h_reg ?_
          refine h_op (r_move rfl) ?_
          refine h_op (r_len rfl) ?_
          refine h_op (r_bool (r_gtr rfl rfl) (show _ = false from rfl)) ?_
          refine h_op (r_move rfl) ?_
          refine h_op (r_move rfl) ?_
          refine h_op (r_len rfl) ?_
          refine h_op (r_move rfl) ?_
          refine h_op (r_bool (r_neq rfl rfl) (decide_eq_false (fun hh => hh (by omega)))) ?_
          refine h_op (r_pick rfl rfl) ?_
          refine h_op (r_move rfl) ?_
          refine h_op (r_move rfl) ?_
          refine h_freezeO (.slice A l0.length c9) fun z2 B2 c2 e2 hle2 hlen2 hnil2 hz2 hr2 => ?_
          injection e2 with e2 _ e3
          subst e2 e3
          have hC := mCheck_s z2 l0 A c9 hle2 (by omega)
          rw [hch] at hC
          refine h_call (hC.comes) rfl rfl rfl fun _ => ?_
          refine h_op (r_bool (r_neq rfl rfl) (decide_eq_false (fun h => h rfl))) ?_
          refine h_op (r_pick rfl rfl) ?_
          refine h_nil ?_
          refine q_then ?_
          refine h_condF rfl ?_
          refine h_skip ?_
          refine q_then ?_
          refine h_seq ?_
          refine h_reg ?_
          refine h_op (r_move rfl) ?_
          refine h_op (r_assign rfl) ?_
          refine h_op (r_assign rfl) ?_
          refine h_nil ?_
          refine q_then ?_
          refine h_ret ?_
          refine q_scopeR ?_
          exact h_ret2 rfl rfl rfl fun w s => ⟨⟨(z2, A, c9), hz2, fun l e => by injection e with e; subst e; exact ⟨hr2, hle2⟩⟩, rfl, (same (L' := [.zone true z2]) w s).res (List.Sublist.refl _) (by simp [Fa.wr])⟩
        · rw [if_neg (fun hh => hch hh.2)] at hr
          subst hr
          refine h_seq ?_
          refine h_seq ?_
          refine h_reg ?_
          refine h_op (r_move rfl) ?_
          refine h_op (r_len rfl) ?_
          refine h_op (r_bool (r_gtr rfl rfl) (show _ = false from rfl)) ?_
          refine h_op (r_move rfl) ?_
          refine h_opOff ?_
          refine h_opOff ?_
          refine h_opOff ?_
          refine h_opOff ?_
          refine h_op (r_pick rfl rfl) ?_
          refine h_nil ?_
          refine q_then ?_
          refine h_condF rfl ?_
          refine h_exit ?_
          refine q_thenE ?_
          refine q_thenE ?_
          refine q_blockE ?_
          refine q_then ?_
          refine h_seq ?_
          refine h_seq ?_
          refine h_reg ?_
          refine h_op (r_move rfl) ?_
          refine h_op (r_len rfl) ?_
          refine h_op (r_bool (r_gtr rfl rfl) (show _ = false from rfl)) ?_
          refine h_op (r_move rfl) ?_
          refine h_op (r_move rfl) ?_
          refine h_op (r_len rfl) ?_
          refine h_op (r_move rfl) ?_
          refine h_op (r_bool (r_neq rfl rfl) (decide_eq_false (fun hh => hh (by omega)))) ?_
          refine h_op (r_pick rfl rfl) ?_
          refine h_op (r_move rfl) ?_
          refine h_op (r_move rfl) ?_
          refine h_freezeO (.slice A l0.length c9) fun z2 B2 c2 e2 hle2 hlen2 hnil2 hz2 hr2 => ?_
          injection e2 with e2 _ e3
          subst e2 e3
          have hC := mCheck_s z2 l0 A c9 hle2 (by omega)
          refine h_call (hC.comes) rfl rfl rfl fun _ => ?_
          refine h_op (r_bool (r_neq rfl rfl) (decide_eq_true hch)) ?_
          refine h_op (r_pick rfl rfl) ?_
          refine h_nil ?_
          refine q_then ?_
          refine h_condT rfl ?_
          refine h_seq ?_
          refine h_reg ?_
          refine h_op (r_assign rfl) ?_
          refine h_op (r_assign rfl) ?_
          refine h_nil ?_
          refine q_then ?_
          refine h_ret ?_
          refine q_thenR ?_
          refine q_scopeR ?_
          exact h_ret2 rfl rfl rfl fun w s => ⟨⟨(z2, none, 0), hz2, fun l e => by cases e⟩, rfl, (same (L' := [.zone true z2]) w s).res (List.Sublist.refl _) (by simp [Fa.wr])⟩
      · rw [if_neg (fun hh => hcnt hh.1)] at hr
        subst hr
        refine h_seq ?_
        refine h_seq ?_
        refine h_reg ?_
        refine h_op (r_move rfl) ?_
        refine h_op (r_len rfl) ?_
        refine h_op (r_bool (r_gtr rfl rfl) (show _ = false from rfl)) ?_
        refine h_op (r_move rfl) ?_
        refine h_opOff ?_
        refine h_opOff ?_
        refine h_opOff ?_
        refine h_opOff ?_
        refine h_op (r_pick rfl rfl) ?_
        refine h_nil ?_
        refine q_then ?_
        refine h_condF rfl ?_
        refine h_exit ?_
        refine q_thenE ?_
        refine q_thenE ?_
        refine q_blockE ?_
        refine q_then ?_
        refine h_seq ?_
        refine h_seq ?_
        refine h_reg ?_
        refine h_op (r_move rfl) ?_
        refine h_op (r_len rfl) ?_
        refine h_op (r_bool (r_gtr rfl rfl) (show _ = false from rfl)) ?_
        refine h_op (r_move rfl) ?_
        refine h_op (r_move rfl) ?_
        refine h_op (r_len rfl) ?_
        refine h_op (r_move rfl) ?_
        refine h_op (r_bool (r_neq rfl rfl) (decide_eq_true (fun hh => hcnt (by omega)))) ?_
        refine h_op (r_pick rfl rfl) ?_
        refine h_op (r_move rfl) ?_
        refine h_opOff ?_
        refine h_opOff ?_
        refine h_opOff ?_
        refine h_op (r_pick rfl rfl) ?_
        refine h_nil ?_
        refine q_then ?_
        refine h_condT rfl ?_
        refine h_seq ?_
        refine h_reg ?_
        refine h_op (r_assign rfl) ?_
        refine h_op (r_assign rfl) ?_
        refine h_nil ?_
        refine q_then ?_
        refine h_ret ?_
        refine q_thenR ?_
        refine q_scopeR ?_
        exact h_ret2 rfl rfl rfl fun w s => ⟨⟨(h, none, 0), LeZ.refl h, fun l e => by cases e⟩, rfl, (same (L' := [.zone true h]) w s).res (List.Sublist.refl _) (by simp [Fa.wr])⟩
    · obtain ⟨bR, oR, rfl, -⟩ := hzr.at_ 0 _ (List.getElem?_eq_getElem (by rw [bc_length]; simp))
      rw [itsD_cons] at hit
      have hlk : (k :: rest).length = rest.length + 1 := rfl
      have hp64 := payN_le (k.toNat : Int)
      by_cases hcc : l0.length < cntH bb
      · by_cases hpl : rest.length < payB k
        · rw [if_pos hpl] at hit
          rw [hit] at hr
          change Except.error 5 = r at hr
          subst hr
          refine h_seq ?_
          refine h_seq ?_
          refine h_reg ?_
          refine h_op (r_move rfl) ?_
          refine h_op (r_len rfl) ?_
          refine h_op (r_bool (r_gtr rfl rfl) (decide_eq_true (by simp only [List.length_cons]; omega))) ?_
          refine h_op (r_move rfl) ?_
          refine h_op (r_move rfl) ?_
          refine h_op (r_len rfl) ?_
          refine h_op (r_move rfl) ?_
          refine h_op (r_bool (r_lss rfl rfl) (decide_eq_true (by omega))) ?_
          refine h_op (r_pick rfl rfl) ?_
          refine h_nil ?_
          refine q_then ?_
          refine h_condT rfl ?_
          refine h_skip ?_
          refine q_then ?_
          refine h_block ?_
          refine h_seq ?_
          refine h_reg ?_
          refine h_op (r_move rfl) ?_
          refine h_op (r_idx rfl rfl) ?_
          refine h_op (r_nth rfl (bc_at' (l := k :: rest) (i := 0) (by simp))) ?_
          refine h_op (r_int (r_cUI rfl) (show _ = (k.toNat : Int) from rfl)) ?_
          refine h_op (r_assign rfl) ?_
          refine h_nil ?_
          refine q_then ?_
          refine h_seq ?_
          refine h_reg ?_
          refine h_op (r_move rfl) ?_
          refine h_call ((payload_s (k.toNat : Int)).comes) rfl rfl rfl fun _ => ?_
          refine h_op (r_assign rfl) ?_
          refine h_nil ?_
          refine q_then ?_
          refine h_seq ?_
          refine h_seq ?_
          refine h_reg ?_
          refine h_op (r_move rfl) ?_
          refine h_op (r_len rfl) ?_
          refine h_op (r_move rfl) ?_
          refine h_op (r_add rfl rfl) ?_
          refine h_op (r_bool (r_lss rfl rfl) (decide_eq_true (by simp only [List.length_cons]; have h9 : rest.length < payN (k.toNat : Int) := hpl; omega))) ?_
          refine h_nil ?_
          refine q_then ?_
          refine h_condT rfl ?_
          refine h_exit ?_
          refine q_thenE ?_
          refine q_blockN (by decide) ?_
          refine q_thenE ?_
          refine q_blockE ?_
          refine q_then ?_
          refine h_seq ?_
          refine h_seq ?_
          refine h_reg ?_
          refine h_op (r_move rfl) ?_
          refine h_op (r_len rfl) ?_
          refine h_op (r_bool (r_gtr rfl rfl) (decide_eq_true (by simp only [List.length_cons]; omega))) ?_
          refine h_op (r_move rfl) ?_
          refine h_opOff ?_
          refine h_opOff ?_
          refine h_opOff ?_
          refine h_opOff ?_
          refine h_op (r_pick rfl rfl) ?_
          refine h_op (r_move rfl) ?_
          refine h_opOff ?_
          refine h_opOff ?_
          refine h_opOff ?_
          refine h_op (r_pick rfl rfl) ?_
          refine h_nil ?_
          refine q_then ?_
          refine h_condT rfl ?_
          refine h_seq ?_
          refine h_reg ?_
          refine h_op (r_assign rfl) ?_
          refine h_op (r_assign rfl) ?_
          refine h_nil ?_
          refine q_then ?_
          refine h_ret ?_
          refine q_thenR ?_
          refine q_scopeR ?_
          exact h_ret2 rfl rfl rfl fun w s => ⟨⟨(h, none, 0), LeZ.refl h, fun l e => by cases e⟩, rfl, (same (L' := [.zone true h]) w s).res (List.Sublist.refl _) (by simp [Fa.wr])⟩
        · rw [if_neg hpl] at hit
          have hIt := item_bytes h k rest bR oR cr hzr (Nat.le_of_not_lt hpl) (by omega)
          have hz5 : RdZ h (cutA (some ⟨bR, oR, none⟩) cr (1 + payB k) 1) (bc (rest.drop (payB k))) := RdZ.cutA (l := k :: rest.take (payB k)) (m := rest.drop (payB k)) (by rw [List.cons_append, List.take_append_drop]; exact hzr) (by rw [List.length_cons, List.length_take]; omega) (by omega) (by rw [List.length_drop]; omega)
          have hdl : (rest.drop (payB k)).length = rest.length - payB k := List.length_drop
          have hPl := payload_s (k.toNat : Int)
          change Spec _ _ _ _ _ (fun _ : Unit => .int .i64 ((payB k : Nat) : Int)) _ at hPl
          change payB k ≤ 64 at hp64
          have hits : its l0 ++ (itemB k rest).cells = its (l0 ++ [itemB k rest]) := by unfold its; rw [List.flatMap_append]; simp
          have hnl : (l0 ++ [itemB k rest]).length = l0.length + 1 := by simp
          generalize payB k = p at *
          refine h_seq ?_
          refine h_seq ?_
          refine h_reg ?_
          refine h_op (r_move rfl) ?_
          refine h_op (r_len rfl) ?_
          refine h_op (r_bool (r_gtr rfl rfl) (decide_eq_true (by simp only [List.length_cons]; omega))) ?_
          refine h_op (r_move rfl) ?_
          refine h_op (r_move rfl) ?_
          refine h_op (r_len rfl) ?_
          refine h_op (r_move rfl) ?_
          refine h_op (r_bool (r_lss rfl rfl) (decide_eq_true (by omega))) ?_
          refine h_op (r_pick rfl rfl) ?_
          refine h_nil ?_
          refine q_then ?_
          refine h_condT rfl ?_
          refine h_skip ?_
          refine q_then ?_
          refine h_block ?_
          refine h_seq ?_
          refine h_reg ?_
          refine h_op (r_move rfl) ?_
          refine h_op (r_idx rfl rfl) ?_
          refine h_op (r_nth rfl (bc_at' (l := k :: rest) (i := 0) (by simp))) ?_
          refine h_op (r_int (r_cUI rfl) (show _ = (k.toNat : Int) from rfl)) ?_
          refine h_op (r_assign rfl) ?_
          refine h_nil ?_
          refine q_then ?_
          refine h_seq ?_
          refine h_reg ?_
          refine h_op (r_move rfl) ?_
          refine h_call (hPl.comes) rfl rfl rfl fun _ => ?_
          refine h_op (r_assign rfl) ?_
          refine h_nil ?_
          refine q_then ?_
          refine h_seq ?_
          refine h_seq ?_
          refine h_reg ?_
          refine h_op (r_move rfl) ?_
          refine h_op (r_len rfl) ?_
          refine h_op (r_move rfl) ?_
          refine h_op (r_add rfl rfl) ?_
          refine h_op (r_bool (r_lss rfl rfl) (decide_eq_false (by simp only [List.length_cons]; omega))) ?_
          refine h_nil ?_
          refine q_then ?_
          refine h_condF rfl ?_
          refine h_skip ?_
          refine q_then ?_
          refine h_seq ?_
          refine h_reg ?_
          refine h_op (r_move rfl) ?_
          refine h_op (r_move rfl) ?_
          refine h_op (r_move rfl) ?_
          refine h_op (r_move rfl) ?_
          refine h_op (r_add rfl rfl) ?_
          refine h_op (r_as (r_slLH rfl rfl rfl (l := 1) (h := 1 + p)) (show _ = Value.slice (cutA (some ⟨bR, oR, none⟩) cr 1 1) p (cr - 1) by rw [Nat.add_sub_cancel_left])) ?_
          refine h_call (hIt.comes) rfl rfl rfl fun _ => ?_
          refine h_opX (x_bsl rfl rfl) fun g67 => ?_
          refine h_opX (x_app rfl rfl (k := 97)) fun ⟨g68, c68⟩ => ?_
          refine h_op (r_assign rfl) ?_
          refine h_nil ?_
          refine q_then ?_
          refine h_reg ?_
          refine h_op (r_move rfl) ?_
          refine h_op (r_move rfl) ?_
          refine h_op (r_add rfl rfl) ?_
          refine h_op (r_as (r_slL rfl rfl (l := 1 + p) (hl := by simp only [List.length_cons]; omega)) (show _ = Value.slice (cutA (some ⟨bR, oR, none⟩) cr (1 + p) 1) (rest.drop p).length (cr - (1 + p)) by rw [hdl, List.length_cons]; congr 1; omega)) ?_
          refine h_op (r_assign rfl) ?_
          refine h_nil ?_
          refine q_block ?_
          dsimp only
          rw [hits, ← hnl]
          exact h_back (rest.drop p, l0 ++ [itemB k rest], (cutA (some ⟨bR, oR, none⟩) cr (1 + p) 1, cr - (1 + p)), some ⟨g68, 0, none⟩, c68) (⟨(by dsimp only; rw [hit, Option.map_map]; congr 1; funext m; simp), hz5, (by dsimp only; omega), (by dsimp only; omega), (by dsimp only; omega)⟩) ((show (rest.drop p).length < (k :: rest).length by simp only [List.length_cons]; omega)) ⟨rfl, rfl, rfl, trivial⟩ (same)
      · have hr5 : Except.error 5 = r := by
          rw [← hr, hit]
          by_cases hpl : rest.length < payB k
          · rw [if_pos hpl]; rfl
          · rw [if_neg hpl]
            cases hm : itsD (rest.drop (payB k)) with
            | none => rfl
            | some m =>
              show _ = if (l0 ++ itemB k rest :: m).length = cntH bb ∧ _ then _ else _
              rw [if_neg (fun hh => by have := hh.1; simp at this; omega)]
        subst hr5
        refine h_seq ?_
        refine h_seq ?_
        refine h_reg ?_
        refine h_op (r_move rfl) ?_
        refine h_op (r_len rfl) ?_
        refine h_op (r_bool (r_gtr rfl rfl) (decide_eq_true (by simp only [List.length_cons]; omega))) ?_
        refine h_op (r_move rfl) ?_
        refine h_op (r_move rfl) ?_
        refine h_op (r_len rfl) ?_
        refine h_op (r_move rfl) ?_
        refine h_op (r_bool (r_lss rfl rfl) (decide_eq_false (by omega))) ?_
        refine h_op (r_pick rfl rfl) ?_
        refine h_nil ?_
        refine q_then ?_
        refine h_condF rfl ?_
        refine h_exit ?_
        refine q_thenE ?_
        refine q_thenE ?_
        refine q_blockE ?_
        refine q_then ?_
        refine h_seq ?_
        refine h_seq ?_
        refine h_reg ?_
        refine h_op (r_move rfl) ?_
        refine h_op (r_len rfl) ?_
        refine h_op (r_bool (r_gtr rfl rfl) (decide_eq_true (by simp only [List.length_cons]; omega))) ?_
        refine h_op (r_move rfl) ?_
        refine h_opOff ?_
        refine h_opOff ?_
        refine h_opOff ?_
        refine h_opOff ?_
        refine h_op (r_pick rfl rfl) ?_
        refine h_op (r_move rfl) ?_
        refine h_opOff ?_
        refine h_opOff ?_
        refine h_opOff ?_
        refine h_op (r_pick rfl rfl) ?_
        refine h_nil ?_
        refine q_then ?_
        refine h_condT rfl ?_
        refine h_seq ?_
        refine h_reg ?_
        refine h_op (r_assign rfl) ?_
        refine h_op (r_assign rfl) ?_
        refine h_nil ?_
        refine q_then ?_
        refine h_ret ?_
        refine q_thenR ?_
        refine q_scopeR ?_
        exact h_ret2 rfl rfl rfl fun w s => ⟨⟨(h, none, 0), LeZ.refl h, fun l e => by cases e⟩, rfl, (same (L' := [.zone true h]) w s).res (List.Sublist.refl _) (by simp [Fa.wr])⟩
end Go.Proofs.YtjhocljhhpkiiaaGreatDoor
/- U118 -/
namespace Go.Proofs.YtjhocljhhpkiiaaGreatDoor
set_option linter.unusedSimpArgs false
set_option linter.unusedVariables false
open Go.RowKit
/-- a contract, told of more memory -/
theorem Spec.weak {P : Program} {f : FuncId} {args : Array Value} {R A' A2 R2 L2 M : List Fa} {τ τ2 : Type} {v : τ → Value} {N : τ → List Fa} {v2 : τ2 → Value} {N2 : τ2 → List Fa} (hs : Spec P f args R A' v N) [ha : App A2 R2 L2] {L3 : τ → List Fa} [ht : Take A' L2 M] [hr : Rds M R] [hN' : ∀ x, App (N x) M (L3 x)] (g : τ → τ2) (hv : ∀ x, v x = v2 (g x)) (hN : ∀ x W w, Sx A2 W w (L3 x) → Rx A2 W w (N2 (g x))) : Spec P f args R2 A2 v2 N2 := fun w hA hR => by
  have s1 := (Sx.start hA hR).cast ha.eq
  have s2 := s1.perm ht.perm
  refine (hs w (s2.toFx.sub (List.sublist_append_left _ _)) (s1.reads ht.perm hr)).mono ?_
  rintro e w' ⟨x, rfl, hx⟩
  exact ⟨g x, by rw [hv], hN x w w' ((hN' x).eq ▸ s2.ret hx)⟩
theorem mDecode_s (h : Zh) (bb : List UInt8) (hbl : bb.length ≤ 900000) (B : Option Addr) (c : Nat) (hcap : bb.length ≤ c) [hB : RdZ h B (bc bb)] :
    Spec Tryz.prog 103 [.slice B bb.length c].toArray [] [.zone true h] (fun u : {u : Zh × Option Addr × Nat // LeZ h u.1 ∧ ∀ l, decM bb = .ok l → RdZ u.1 u.2.1 (its l) ∧ l.length ≤ u.2.2} => decMV (decM bb) u.1.2.1 u.1.2.2) (fun u => [.zone true u.1.1]) := by
  have early : ∀ e, decM bb = .error e → Spec Tryz.prog 103 [.slice B bb.length c].toArray [.zone false h] [] (fun _ : Unit => .tuple #[.slice none 0 0, .int .i64 e]) (fun _ => []) → Spec Tryz.prog 103 [.slice B bb.length c].toArray [] [.zone true h] (fun u : {u : Zh × Option Addr × Nat // LeZ h u.1 ∧ ∀ l, decM bb = .ok l → RdZ u.1 u.2.1 (its l) ∧ l.length ≤ u.2.2} => decMV (decM bb) u.1.2.1 u.1.2.2) (fun u => [.zone true u.1.1]) := fun e he hs =>
    hs.weak (fun _ => ⟨(h, none, 0), LeZ.refl h, fun l hl => by rw [he] at hl; cases hl⟩) (fun _ => by show _ = decMV (decM bb) none 0; rw [he]; rfl) fun _ W w s => (same (L' := [.zone true h]) w s).res (List.Sublist.refl _) (by simp [Fa.wr])
  by_cases hs : bb.length < 6
  · exact early 5 (by unfold decM; rw [if_pos hs]) ((mDecode_short bb B c hs).weak id (fun _ => rfl) fun _ W w s => s.res (List.nil_sublist _) (by simp))
  · obtain ⟨b, o, rfl, -⟩ := hB.at_ 0 _ (List.getElem?_eq_getElem (by rw [bc_length]; omega))
    by_cases h1 : bb.getD 0 0 = 1
    · by_cases h2 : bb.getD 1 0 = 2
      · exact mDecode_rest h bb (by omega) hbl h1 h2 (some ⟨b, o, none⟩) c hcap (decM bb) (by
          unfold decM
          rw [if_neg hs, if_neg (fun h => h h1), if_neg (fun h => h h2)]
          rcases itsD (bb.drop 6) with _ | l <;> rfl)
      · exact early 7 (by unfold decM; rw [if_neg hs, if_neg (fun h => h h1), if_pos h2]) (mDecode_kind h bb b o c (by omega) h1 h2)
    · exact early 6 (by unfold decM; rw [if_neg hs, if_pos h1]) (mDecode_version h bb b o c (by omega) h1)
end Go.Proofs.YtjhocljhhpkiiaaGreatDoor
