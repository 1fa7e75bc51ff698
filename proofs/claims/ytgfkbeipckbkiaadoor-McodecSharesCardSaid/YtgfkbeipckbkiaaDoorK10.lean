/- node.Join; find: the way of a key; find: the end of the way, the subtrees beside it; The reference's maps; An argument that is a list of entries, opened; Keys in order, by their bits: plain; Keys in order, split at a depth: plain; The items of a tree for some keys: plain; multi: parse, Check; multi: the digest of a subtree; multiproofs: the reference's Skip; multiproofs: the reference's Check; multiproofs: Root; the reference's Digest and Preimage; Multiproofs as the flat lists of their subtrees: plain; The library's comparison of byte slices (joined texts: U35 U36 U37 U38 TE E15 E16 E17 U63 U64 U65 U66 U67 E18 N15) -/
import Derived.Test.YtgfkbeipckbkiaaDoorK9
import Derived.Lib.BytesEntry
import Derived.Lib.Bytealg
set_option linter.all false
/- U35 -/
namespace Go.Proofs.YtgfkbeipckbkiaaDoor
set_option linter.unusedSimpArgs false
set_option linter.unusedVariables false
open Go.RowKit
/-- what stands for two subtrees -/
def joinT (l r : Tr) : Tr := if l.kind = 0 ∧ r.kind ≠ 2 then r else if r.kind = 0 ∧ l.kind ≠ 2 then l else .node l r
/-- how many digests it takes -/
def joinC (l r : Tr) : Nat := if l.kind = 0 ∧ r.kind ≠ 2 then 0 else if r.kind = 0 ∧ l.kind ≠ 2 then 0 else (if l.kind = 0 then 1 else 0) + (if r.kind = 0 then 1 else 0) + 1
theorem i01 (p : Prop) [Decidable p] : (if p then 1 else 0 : Nat) ≤ 1 := by split <;> omega
theorem trZ_none {n : Nat} {h : Zh} {t : Tr} {p : Option Addr} (x : trZ n h t p) : p.isNone = decide (t.kind = 0) := by
  rcases t with _ | ⟨kk, b⟩ | ⟨l, r⟩
  · obtain rfl : p = none := x
    rfl
  · obtain ⟨g, s, rfl, _⟩ := x
    rfl
  · obtain ⟨g, pl, pr, rfl, _⟩ := x
    rfl
theorem Join_s (n : Nat) (hn : n ≤ 256) (gh gc k : Nat) (hk : k ≤ 100000000000) (h : Zh) [ht : RdZ h (some ⟨1, 0, none⟩) hashT] (l r : Tr) (pl pr : Option Addr) [hl : TrZ n h l pl] [hr : TrZ n h r pr] (hct : l.cnt + r.cnt ≤ 1000000000000) :
    Spec Tryd.prog 50 [.pointer (some ⟨gh, 0, none⟩), .pointer pl, .pointer pr].toArray [HR gh gc n] [.zone true h, CN gc k] (fun x : {x : Zh × Option Addr // LeZ h x.1 ∧ TrZ n x.1 (joinT l r) x.2} => .pointer x.1.2) (fun x => [.zone true x.1.1, CN gc (k + joinC l r)]) := by
  have el := trZ_none hl.ok
  have er := trZ_none hr.ok
  refine spec_of Tryd.func50 rfl (n := 44) rfl rfl ?_
  intro W
  by_cases h1 : l.kind = 0
  · by_cases h2 : r.kind = 2
    · have hj : joinT l r = .node l r := by unfold joinT; rw [if_neg (by omega), if_neg (by omega)]
      have hc : k + joinC l r = k + (if l.kind = 0 then 1 else 0) + (if r.kind = 0 then 1 else 0) + 1 := by unfold joinC; rw [if_neg (by omega), if_neg (by omega)]; omega
      refine h_seq ?_
      refine h_reg ?_
      refine h_op (r_assign rfl) ?_
      refine h_nil ?_
      refine q_then ?_
      refine h_seq ?_
      refine h_seq ?_
      refine h_reg ?_
      refine h_op (r_move rfl) ?_
      refine h_op (r_bool (r_nilR rfl rfl) (el.trans (decide_eq_true h1))) ?_
      refine h_op (r_move rfl) ?_
      refine h_op (r_move rfl) ?_
      refine h_call ((Kind_s n h r pr).comes) rfl rfl rfl fun _ => ?_
      refine h_op (r_bool (r_neq rfl rfl) (decide_eq_false (fun e => e (by omega)))) ?_
      refine h_op (r_pick rfl rfl) ?_
      refine h_nil ?_
      refine q_then ?_
      refine h_condF rfl ?_
      refine h_skip ?_
      refine q_then ?_
      refine h_seq ?_
      refine h_seq ?_
      refine h_reg ?_
      refine h_op (r_move rfl) ?_
      refine h_op (r_bool (r_nilR rfl rfl) (er.trans (decide_eq_false (by omega)))) ?_
      refine h_op (r_move rfl) ?_
      refine h_opOff ?_
      refine h_opOff ?_
      refine h_opOff ?_
      refine h_op (r_pick rfl rfl) ?_
      refine h_nil ?_
      refine q_then ?_
      refine h_condF rfl ?_
      refine h_skip ?_
      refine q_then ?_
      refine h_seq ?_
      refine h_reg ?_
      refine h_op (r_move rfl) ?_
      refine h_op (r_move rfl) ?_
      refine h_op (r_build rfl) ?_
      refine h_opX (x_alloc) fun g7 => ?_
      refine h_opS (s_storer rfl rfl) ?_
      refine h_nil ?_
      refine q_then ?_
      refine h_seq ?_
      refine ha_start [.blk g7 [.pointer pl, .pointer pr] 128] [] mixed (same) ?_
      refine ha_takeP 0 rfl (r_move rfl) ?_
      refine ha_take 1 rfl (r_loadr rfl) ?_
      refine ha_takeP 2 rfl (r_move rfl) ?_
      refine ha_takeP 3 rfl (r_move rfl) ?_
      refine ha_takeP 5 rfl (r_move rfl) ?_
      refine ha_takeP 6 rfl (r_move rfl) ?_
      refine ha_takeP 9 rfl (r_move rfl) ?_
      refine ha_takeP 11 rfl (r_move rfl) ?_
      refine ha_one 4 ?_
      refine ho_C 4 rfl ((Digest_s n hn gh gc k (by omega) h l pl).comes) rfl rfl rfl (fun xx => same) fun _ => ?_
      refine ha_one 7 ?_
      refine ho_C 7 rfl ((Digest_s n hn gh gc (k + if l.kind = 0 then 1 else 0) (by have := i01 (l.kind = 0); omega) h r pr).comes) rfl rfl rfl (fun xx => same) fun _ => ?_
      refine ha_takeP 8 rfl (r_build rfl) ?_
      refine ha_one 10 ?_
      refine ho_C 10 rfl ((NLen_s n h l pl).comes) rfl rfl rfl (fun xx => same) fun _ => ?_
      refine ha_one 12 ?_
      refine ho_C 12 rfl ((NLen_s n h r pr).comes) rfl rfl rfl (fun xx => same) fun _ => ?_
      refine ha_takeP 13 rfl (r_int (r_add rfl rfl) (show _ = ((l.cnt + r.cnt : Nat) : Int) by omega)) ?_
      refine ha_takeP 14 rfl (r_build rfl) ?_
      refine ha_takeP 15 rfl (r_mkI rfl) ?_
      refine ha_one 16 ?_
      refine ho_C 16 rfl ((with_s n hn gh gc (k + (if l.kind = 0 then 1 else 0) + if r.kind = 0 then 1 else 0) (by have := i01 (l.kind = 0); have := i01 (r.kind = 0); omega) 131 141 (.agg (NInner.cells ⟨pl, pr, dgT n l, dgT n r, ((l.cnt + r.cnt : Nat) : Int)⟩).toArray) (preN (dgT n l) (dgT n r)) (by rw [preN_len]; decide) (ipre_s ⟨pl, pr, dgT n l, dgT n r, ((l.cnt + r.cnt : Nat) : Int)⟩)).comes) rfl rfl rfl (fun xx => same) fun g43 => ?_
      refine ha_takeP 17 rfl (r_assign rfl) ?_
      refine ha_done (by kernel_rfl) ?_
      refine q_then ?_
      dsimp only
      refine h_freeze g43 fun h2 hz2 hr2 => ?_
      refine h_ret ?_
      exact h_ret1 rfl rfl fun w s => ⟨⟨(h2, some ⟨g43, 0, none⟩), hz2, by rw [hj]; exact ⟨g43, pl, pr, rfl, hr2, hl.ok.mono hz2, hr.ok.mono hz2⟩⟩, rfl, by rw [hc]; exact (same w s).res (List.Sublist.refl _) (by simp [Fa.wr])⟩
    · have hj : joinT l r = r := by unfold joinT; rw [if_pos ⟨h1, h2⟩]
      have hc : joinC l r = 0 := by unfold joinC; rw [if_pos ⟨h1, h2⟩]
      refine h_seq ?_
      refine h_reg ?_
      refine h_op (r_assign rfl) ?_
      refine h_nil ?_
      refine q_then ?_
      refine h_seq ?_
      refine h_seq ?_
      refine h_reg ?_
      refine h_op (r_move rfl) ?_
      refine h_op (r_bool (r_nilR rfl rfl) (el.trans (decide_eq_true h1))) ?_
      refine h_op (r_move rfl) ?_
      refine h_op (r_move rfl) ?_
      refine h_call ((Kind_s n h r pr).comes) rfl rfl rfl fun _ => ?_
      refine h_op (r_bool (r_neq rfl rfl) (decide_eq_true (by omega))) ?_
      refine h_op (r_pick rfl rfl) ?_
      refine h_nil ?_
      refine q_then ?_
      refine h_condT rfl ?_
      refine h_seq ?_
      refine h_reg ?_
      refine h_op (r_move rfl) ?_
      refine h_op (r_assign rfl) ?_
      refine h_nil ?_
      refine q_then ?_
      refine h_ret ?_
      refine q_thenR ?_
      exact h_ret1 rfl rfl fun w s => ⟨⟨(h, pr), LeZ.refl h, by rw [hj]; exact hr⟩, rfl, by rw [hc]; exact (same w s).res (List.Sublist.refl _) (by simp [Fa.wr])⟩
  · by_cases h2 : r.kind = 0
    · by_cases h3 : l.kind = 2
      · have hj : joinT l r = .node l r := by unfold joinT; rw [if_neg (by omega), if_neg (by omega)]
        have hc : k + joinC l r = k + (if l.kind = 0 then 1 else 0) + (if r.kind = 0 then 1 else 0) + 1 := by unfold joinC; rw [if_neg (by omega), if_neg (by omega)]; omega
        refine h_seq ?_
        refine h_reg ?_
        refine h_op (r_assign rfl) ?_
        refine h_nil ?_
        refine q_then ?_
        refine h_seq ?_
        refine h_seq ?_
        refine h_reg ?_
        refine h_op (r_move rfl) ?_
        refine h_op (r_bool (r_nilR rfl rfl) (el.trans (decide_eq_false h1))) ?_
        refine h_op (r_move rfl) ?_
        refine h_opOff ?_
        refine h_opOff ?_
        refine h_opOff ?_
        refine h_op (r_pick rfl rfl) ?_
        refine h_nil ?_
        refine q_then ?_
        refine h_condF rfl ?_
        refine h_skip ?_
        refine q_then ?_
        refine h_seq ?_
        refine h_seq ?_
        refine h_reg ?_
        refine h_op (r_move rfl) ?_
        refine h_op (r_bool (r_nilR rfl rfl) (er.trans (decide_eq_true h2))) ?_
        refine h_op (r_move rfl) ?_
        refine h_op (r_move rfl) ?_
        refine h_call ((Kind_s n h l pl).comes) rfl rfl rfl fun _ => ?_
        refine h_op (r_bool (r_neq rfl rfl) (decide_eq_false (fun e => e (by omega)))) ?_
        refine h_op (r_pick rfl rfl) ?_
        refine h_nil ?_
        refine q_then ?_
        refine h_condF rfl ?_
        refine h_skip ?_
        refine q_then ?_
        refine h_seq ?_
        refine h_reg ?_
        refine h_op (r_move rfl) ?_
        refine h_op (r_move rfl) ?_
        refine h_op (r_build rfl) ?_
        refine h_opX (x_alloc) fun g7 => ?_
        refine h_opS (s_storer rfl rfl) ?_
        refine h_nil ?_
        refine q_then ?_
        refine h_seq ?_
        refine ha_start [.blk g7 [.pointer pl, .pointer pr] 128] [] mixed (same) ?_
        refine ha_takeP 0 rfl (r_move rfl) ?_
        refine ha_take 1 rfl (r_loadr rfl) ?_
        refine ha_takeP 2 rfl (r_move rfl) ?_
        refine ha_takeP 3 rfl (r_move rfl) ?_
        refine ha_takeP 5 rfl (r_move rfl) ?_
        refine ha_takeP 6 rfl (r_move rfl) ?_
        refine ha_takeP 9 rfl (r_move rfl) ?_
        refine ha_takeP 11 rfl (r_move rfl) ?_
        refine ha_one 4 ?_
        refine ho_C 4 rfl ((Digest_s n hn gh gc k (by omega) h l pl).comes) rfl rfl rfl (fun xx => same) fun _ => ?_
        refine ha_one 7 ?_
        refine ho_C 7 rfl ((Digest_s n hn gh gc (k + if l.kind = 0 then 1 else 0) (by have := i01 (l.kind = 0); omega) h r pr).comes) rfl rfl rfl (fun xx => same) fun _ => ?_
        refine ha_takeP 8 rfl (r_build rfl) ?_
        refine ha_one 10 ?_
        refine ho_C 10 rfl ((NLen_s n h l pl).comes) rfl rfl rfl (fun xx => same) fun _ => ?_
        refine ha_one 12 ?_
        refine ho_C 12 rfl ((NLen_s n h r pr).comes) rfl rfl rfl (fun xx => same) fun _ => ?_
        refine ha_takeP 13 rfl (r_int (r_add rfl rfl) (show _ = ((l.cnt + r.cnt : Nat) : Int) by omega)) ?_
        refine ha_takeP 14 rfl (r_build rfl) ?_
        refine ha_takeP 15 rfl (r_mkI rfl) ?_
        refine ha_one 16 ?_
        refine ho_C 16 rfl ((with_s n hn gh gc (k + (if l.kind = 0 then 1 else 0) + if r.kind = 0 then 1 else 0) (by have := i01 (l.kind = 0); have := i01 (r.kind = 0); omega) 131 141 (.agg (NInner.cells ⟨pl, pr, dgT n l, dgT n r, ((l.cnt + r.cnt : Nat) : Int)⟩).toArray) (preN (dgT n l) (dgT n r)) (by rw [preN_len]; decide) (ipre_s ⟨pl, pr, dgT n l, dgT n r, ((l.cnt + r.cnt : Nat) : Int)⟩)).comes) rfl rfl rfl (fun xx => same) fun g43 => ?_
        refine ha_takeP 17 rfl (r_assign rfl) ?_
        refine ha_done (by kernel_rfl) ?_
        refine q_then ?_
        dsimp only
        refine h_freeze g43 fun h2 hz2 hr2 => ?_
        refine h_ret ?_
        exact h_ret1 rfl rfl fun w s => ⟨⟨(h2, some ⟨g43, 0, none⟩), hz2, by rw [hj]; exact ⟨g43, pl, pr, rfl, hr2, hl.ok.mono hz2, hr.ok.mono hz2⟩⟩, rfl, by rw [hc]; exact (same w s).res (List.Sublist.refl _) (by simp [Fa.wr])⟩
      · have hj : joinT l r = l := by unfold joinT; rw [if_neg (by omega), if_pos ⟨h2, h3⟩]
        have hc : joinC l r = 0 := by unfold joinC; rw [if_neg (by omega), if_pos ⟨h2, h3⟩]
        refine h_seq ?_
        refine h_reg ?_
        refine h_op (r_assign rfl) ?_
        refine h_nil ?_
        refine q_then ?_
        refine h_seq ?_
        refine h_seq ?_
        refine h_reg ?_
        refine h_op (r_move rfl) ?_
        refine h_op (r_bool (r_nilR rfl rfl) (el.trans (decide_eq_false h1))) ?_
        refine h_op (r_move rfl) ?_
        refine h_opOff ?_
        refine h_opOff ?_
        refine h_opOff ?_
        refine h_op (r_pick rfl rfl) ?_
        refine h_nil ?_
        refine q_then ?_
        refine h_condF rfl ?_
        refine h_skip ?_
        refine q_then ?_
        refine h_seq ?_
        refine h_seq ?_
        refine h_reg ?_
        refine h_op (r_move rfl) ?_
        refine h_op (r_bool (r_nilR rfl rfl) (er.trans (decide_eq_true h2))) ?_
        refine h_op (r_move rfl) ?_
        refine h_op (r_move rfl) ?_
        refine h_call ((Kind_s n h l pl).comes) rfl rfl rfl fun _ => ?_
        refine h_op (r_bool (r_neq rfl rfl) (decide_eq_true (by omega))) ?_
        refine h_op (r_pick rfl rfl) ?_
        refine h_nil ?_
        refine q_then ?_
        refine h_condT rfl ?_
        refine h_seq ?_
        refine h_reg ?_
        refine h_op (r_move rfl) ?_
        refine h_op (r_assign rfl) ?_
        refine h_nil ?_
        refine q_then ?_
        refine h_ret ?_
        refine q_thenR ?_
        exact h_ret1 rfl rfl fun w s => ⟨⟨(h, pl), LeZ.refl h, by rw [hj]; exact hl⟩, rfl, by rw [hc]; exact (same w s).res (List.Sublist.refl _) (by simp [Fa.wr])⟩
    · have hj : joinT l r = .node l r := by unfold joinT; rw [if_neg (by omega), if_neg (by omega)]
      have hc : k + joinC l r = k + (if l.kind = 0 then 1 else 0) + (if r.kind = 0 then 1 else 0) + 1 := by unfold joinC; rw [if_neg (by omega), if_neg (by omega)]; omega
      refine h_seq ?_
      refine h_reg ?_
      refine h_op (r_assign rfl) ?_
      refine h_nil ?_
      refine q_then ?_
      refine h_seq ?_
      refine h_seq ?_
      refine h_reg ?_
      refine h_op (r_move rfl) ?_
      refine h_op (r_bool (r_nilR rfl rfl) (el.trans (decide_eq_false h1))) ?_
      refine h_op (r_move rfl) ?_
      refine h_opOff ?_
      refine h_opOff ?_
      refine h_opOff ?_
      refine h_op (r_pick rfl rfl) ?_
      refine h_nil ?_
      refine q_then ?_
      refine h_condF rfl ?_
      refine h_skip ?_
      refine q_then ?_
      refine h_seq ?_
      refine h_seq ?_
      refine h_reg ?_
      refine h_op (r_move rfl) ?_
      refine h_op (r_bool (r_nilR rfl rfl) (er.trans (decide_eq_false h2))) ?_
      refine h_op (r_move rfl) ?_
      refine h_opOff ?_
      refine h_opOff ?_
      refine h_opOff ?_
      refine h_op (r_pick rfl rfl) ?_
      refine h_nil ?_
      refine q_then ?_
      refine h_condF rfl ?_
      refine h_skip ?_
      refine q_then ?_
      refine h_seq ?_
      refine h_reg ?_
      refine h_op (r_move rfl) ?_
      refine h_op (r_move rfl) ?_
      refine h_op (r_build rfl) ?_
      refine h_opX (x_alloc) fun g7 => ?_
      refine h_opS (s_storer rfl rfl) ?_
      refine h_nil ?_
      refine q_then ?_
      refine h_seq ?_
      refine ha_start [.blk g7 [.pointer pl, .pointer pr] 128] [] mixed (same) ?_
      refine ha_takeP 0 rfl (r_move rfl) ?_
      refine ha_take 1 rfl (r_loadr rfl) ?_
      refine ha_takeP 2 rfl (r_move rfl) ?_
      refine ha_takeP 3 rfl (r_move rfl) ?_
      refine ha_takeP 5 rfl (r_move rfl) ?_
      refine ha_takeP 6 rfl (r_move rfl) ?_
      refine ha_takeP 9 rfl (r_move rfl) ?_
      refine ha_takeP 11 rfl (r_move rfl) ?_
      refine ha_one 4 ?_
      refine ho_C 4 rfl ((Digest_s n hn gh gc k (by omega) h l pl).comes) rfl rfl rfl (fun xx => same) fun _ => ?_
      refine ha_one 7 ?_
      refine ho_C 7 rfl ((Digest_s n hn gh gc (k + if l.kind = 0 then 1 else 0) (by have := i01 (l.kind = 0); omega) h r pr).comes) rfl rfl rfl (fun xx => same) fun _ => ?_
      refine ha_takeP 8 rfl (r_build rfl) ?_
      refine ha_one 10 ?_
      refine ho_C 10 rfl ((NLen_s n h l pl).comes) rfl rfl rfl (fun xx => same) fun _ => ?_
      refine ha_one 12 ?_
      refine ho_C 12 rfl ((NLen_s n h r pr).comes) rfl rfl rfl (fun xx => same) fun _ => ?_
      refine ha_takeP 13 rfl (r_int (r_add rfl rfl) (show _ = ((l.cnt + r.cnt : Nat) : Int) by omega)) ?_
      refine ha_takeP 14 rfl (r_build rfl) ?_
      refine ha_takeP 15 rfl (r_mkI rfl) ?_
      refine ha_one 16 ?_
      refine ho_C 16 rfl ((with_s n hn gh gc (k + (if l.kind = 0 then 1 else 0) + if r.kind = 0 then 1 else 0) (by have := i01 (l.kind = 0); have := i01 (r.kind = 0); omega) 131 141 (.agg (NInner.cells ⟨pl, pr, dgT n l, dgT n r, ((l.cnt + r.cnt : Nat) : Int)⟩).toArray) (preN (dgT n l) (dgT n r)) (by rw [preN_len]; decide) (ipre_s ⟨pl, pr, dgT n l, dgT n r, ((l.cnt + r.cnt : Nat) : Int)⟩)).comes) rfl rfl rfl (fun xx => same) fun g43 => ?_
      refine ha_takeP 17 rfl (r_assign rfl) ?_
      refine ha_done (by kernel_rfl) ?_
      refine q_then ?_
      dsimp only
      refine h_freeze g43 fun h2 hz2 hr2 => ?_
      refine h_ret ?_
      exact h_ret1 rfl rfl fun w s => ⟨⟨(h2, some ⟨g43, 0, none⟩), hz2, by rw [hj]; exact ⟨g43, pl, pr, rfl, hr2, hl.ok.mono hz2, hr.ok.mono hz2⟩⟩, rfl, by rw [hc]; exact (same w s).res (List.Sublist.refl _) (by simp [Fa.wr])⟩
end Go.Proofs.YtgfkbeipckbkiaaDoor
/- U36 -/
namespace Go.Proofs.YtgfkbeipckbkiaaDoor
set_option linter.unusedSimpArgs false
set_option linter.unusedVariables false
open Go.RowKit
theorem Child_s (n : Nat) (h : Zh) (t : Tr) (p : Option Addr) [ht : TrZ n h t p] (i : Int) (b : Bool) (hb : (i = 0) = (b = false)) : Spec Tryd.prog 59 [.pointer p, .int .i64 i].toArray [.zone false h] [] (fun _ : Unit => .pointer (subP h b p)) (fun _ => []) := by
  refine spec_of Tryd.func59 rfl (n := 11) rfl rfl ?_
  intro W
  refine h_seq ?_
  refine h_reg ?_
  refine h_op (r_assign rfl) ?_
  refine h_nil ?_
  refine q_then ?_
  refine h_seq ?_
  refine h_seq ?_
  refine h_reg ?_
  refine h_op (r_move rfl) ?_
  refine h_op (r_eql rfl rfl) ?_
  refine h_nil ?_
  refine q_then ?_
  refine h_cond rfl (fun h1 => ?_) (fun h1 => ?_)
  · obtain rfl : b = false := hb.mp h1
    refine h_seq ?_
    refine h_reg ?_
    refine h_op (r_move rfl) ?_
    refine h_call ((Left_s n h t p).comes) rfl rfl rfl fun _ => ?_
    refine h_op (r_assign rfl) ?_
    refine h_nil ?_
    refine q_then ?_
    refine h_ret ?_
    refine q_thenR ?_
    exact h_ret1 rfl rfl fun w s => ⟨(), rfl, s.res (List.nil_sublist _) (by simp)⟩
  · obtain rfl : b = true := by cases b <;> simp_all
    refine h_skip ?_
    refine q_then ?_
    refine h_seq ?_
    refine h_reg ?_
    refine h_op (r_move rfl) ?_
    refine h_call ((Right_s n h t p).comes) rfl rfl rfl fun _ => ?_
    refine h_op (r_assign rfl) ?_
    refine h_nil ?_
    refine q_then ?_
    refine h_ret ?_
    exact h_ret1 rfl rfl fun w s => ⟨(), rfl, s.res (List.nil_sublist _) (by simp)⟩
end Go.Proofs.YtgfkbeipckbkiaaDoor
/- U37 -/
namespace Go.Proofs.YtgfkbeipckbkiaaDoor
set_option linter.unusedSimpArgs false
set_option linter.unusedVariables false
open Go.RowKit
/-- the subtrees beside the way, their pointers -/
def sibK (key : B32) (t : Tr) (i : Nat) : Tr := (wayK key t i).sub (!bitAt key i)
def sibQ (h : Zh) (key : B32) (p : Option Addr) (i : Nat) : Option Addr := subP h (!bitAt key i) (wayQ h key p i)
instance (n : Nat) (h : Zh) (t : Tr) (p : Option Addr) (key : B32) (k : Nat) [x : TrZ n h t p] : TrZ n h (sibK key t k) (sibQ h key p k) := ⟨(wayK_ok x.ok key k).sub _⟩
end Go.Proofs.YtgfkbeipckbkiaaDoor
/- U38 -/
namespace Go.Proofs.YtgfkbeipckbkiaaDoor
set_option linter.unusedSimpArgs false
set_option linter.unusedVariables false
open Go.RowKit
def ents (l : List En) : List Value := l.flatMap fun e => e.e.cells
theorem ents_len (l : List En) : (ents l).length = l.length * 33 := by
  induction l with
  | nil => rfl
  | cons e l ih =>
    show (e.e.cells ++ ents l).length = _
    rw [List.length_append, ih, Entry.cells_length, List.length_cons]; omega
theorem ents_snoc (l : List En) (e : En) : ents l ++ e.e.cells = ents (l ++ [e]) := by unfold ents; rw [List.flatMap_append]; simp
theorem ents_at {l : List En} {k : Nat} {e : En} (h : l[k]? = some e) : ∀ j v, e.e.cells[j]? = some v → (ents l)[k * 33 + j]? = some v := by
  induction l generalizing k with
  | nil => cases h
  | cons x l ih =>
    intro j v hv
    show (x.e.cells ++ ents l)[k * 33 + j]? = some v
    cases k with
    | zero =>
      obtain rfl : x = e := by simpa using h
      rw [Nat.zero_mul, Nat.zero_add, List.getElem?_append_left (List.getElem?_eq_some_iff.1 hv).1]
      exact hv
    | succ k =>
      rw [List.getElem?_append_right (by rw [Entry.cells_length]; omega), Entry.cells_length, show (k + 1) * 33 + j - 33 = k * 33 + j by omega]
      exact ih (by simpa using h) j v hv
theorem ents_key {l : List En} {k : Nat} {e : En} (h : l[k]? = some e) : ∀ j v, e.key.cells[j]? = some v → (ents l)[k * 33 + j]? = some v := fun j v hv =>
  ents_at h j v (by
    show (e.e.key.cells ++ ([.slice e.e.value.A e.e.value.n e.e.value.c] ++ []))[j]? = some v
    rw [List.getElem?_append_left (List.getElem?_eq_some_iff.1 hv).1]
    exact hv)
theorem ents_val {l : List En} {k : Nat} {e : En} (h : l[k]? = some e) : (ents l)[k * 33 + 32]? = some (.slice e.e.value.A e.e.value.n e.e.value.c) :=
  ents_at h 32 _ (by
    show (e.e.key.cells ++ ([.slice e.e.value.A e.e.value.n e.e.value.c] ++ []))[32]? = _
    rw [List.getElem?_append_right (by rw [B32.cells_length]; omega), B32.cells_length]
    rfl)
theorem filt_yes {α : Type} {p : α → Bool} {l : List α} {k : Nat} {x : α} (h : l[k]? = some x) (hp : p x = true) : (l.take (k + 1)).filter p = (l.take k).filter p ++ [x] := by
  rw [List.take_add_one, h, Option.toList_some, List.filter_append, List.filter_cons_of_pos hp, List.filter_nil]
theorem filt_no {α : Type} {p : α → Bool} {l : List α} {k : Nat} {x : α} (h : l[k]? = some x) (hp : ¬ p x = true) : (l.take (k + 1)).filter p = (l.take k).filter p := by
  rw [List.take_add_one, h, Option.toList_some, List.filter_append, List.filter_cons_of_neg hp, List.filter_nil, List.append_nil]
theorem getE {l : List En} {k : Nat} (h : k < l.length) : ∃ e, l[k]? = some e := ⟨_, List.getElem?_eq_getElem h⟩
theorem Compare_s (a b : B32) : Spec Tryd.prog 51 [.agg a.cells.toArray, .agg b.cells.toArray].toArray [] [] (fun _ : Unit => .int .i64 (cmpB a b)) (fun _ => []) := by
  have ha := a.2
  have hb := b.2
  refine spec_of Tryd.func51 rfl (n := 24) rfl rfl ?_
  intro W
  refine h_seq ?_
  refine h_reg ?_
  refine h_opX (x_box rfl) fun g2 => ?_
  refine h_opX (x_box rfl) fun g3 => ?_
  refine h_op (r_assign rfl) ?_
  refine h_nil ?_
  refine q_then ?_
  refine h_seq ?_
  refine h_seq ?_
  refine h_reg ?_
  refine h_op (r_assign rfl) ?_
  refine h_nil ?_
  refine q_then ?_
  refine h_block ?_
  refine h_loop (fun (k : Nat) => k ≤ 32 ∧ cmpL (a.1.drop k) (b.1.drop k) = cmpB a b) (fun (k : Nat) => [(5, .int .i64 (k : Int)), (2, .pointer (some ⟨g2, 0, none⟩)), (3, .pointer (some ⟨g3, 0, none⟩))]) (fun (k : Nat) => [.blk g3 b.cells 40, .blk g2 a.cells 40]) (fun (k : Nat) => 32 - k) 0 (⟨Nat.zero_le _, rfl⟩) ⟨rfl, rfl, rfl, trivial⟩ (same) ?_
  rintro k ⟨hk, hc⟩
  refine h_seq ?_
  refine h_seq ?_
  refine h_reg ?_
  refine h_op (r_move rfl) ?_
  refine h_op (r_lss rfl rfl) ?_
  refine h_nil ?_
  refine q_then ?_
  refine h_cond rfl (fun h => ?_) (fun h => ?_)
  · have hk32 : k < 32 := by omega
    have e1 : a.1.drop k = a.1.getD k 0 :: a.1.drop (k + 1) := by rw [List.drop_eq_getElem_cons (by omega), List.getD_eq_getElem?_getD, List.getElem?_eq_getElem (by omega), Option.getD_some]
    have e2 : b.1.drop k = b.1.getD k 0 :: b.1.drop (k + 1) := by rw [List.drop_eq_getElem_cons (by omega), List.getD_eq_getElem?_getD, List.getElem?_eq_getElem (by omega), Option.getD_some]
    rw [e1, e2, cmpL] at hc
    refine h_skip ?_
    refine q_then ?_
    refine h_seq ?_
    refine h_block ?_
    refine h_seq ?_
    refine h_seq ?_
    refine ha_start [.blk g3 b.cells 40, .blk g2 a.cells 40] [] mixed (same) ?_
    refine ha_takeP 0 rfl (r_move rfl) ?_
    refine ha_takeP 1 rfl (r_idxA rfl rfl) ?_
    refine ha_take 2 rfl (r_nth rfl (bc_at' (by omega))) ?_
    refine ha_takeP 3 rfl (r_move rfl) ?_
    refine ha_takeP 4 rfl (r_idxA rfl rfl) ?_
    refine ha_take 5 rfl (r_nth rfl (bc_at' (by omega))) ?_
    refine ha_takeP 6 rfl (r_lss rfl rfl) ?_
    refine ha_done (by kernel_rfl) ?_
    refine q_then ?_
    refine h_cond rfl (fun h1 => ?_) (fun h1 => ?_)
    · rw [if_pos (UInt8.lt_iff_toNat_lt.2 (by omega))] at hc
      rw [← hc]
      refine h_seq ?_
      refine h_reg ?_
      refine h_op (r_assign rfl) ?_
      refine h_nil ?_
      refine q_then ?_
      refine h_ret ?_
      refine q_thenR ?_
      refine q_blockR ?_
      refine q_thenR ?_
      refine q_thenR ?_
      refine q_blockR ?_
      refine q_thenR ?_
      exact h_ret1 rfl rfl fun w s => ⟨(), rfl, s.res (List.nil_sublist _) (by simp)⟩
    · rw [if_neg (fun h => by have := UInt8.lt_iff_toNat_lt.1 h; omega)] at hc
      refine h_skip ?_
      refine q_then ?_
      refine h_seq ?_
      refine ha_start [.blk g3 b.cells 40, .blk g2 a.cells 40] [] mixed (same) ?_
      refine ha_takeP 0 rfl (r_move rfl) ?_
      refine ha_takeP 1 rfl (r_idxA rfl rfl) ?_
      refine ha_take 2 rfl (r_nth rfl (bc_at' (by omega))) ?_
      refine ha_takeP 3 rfl (r_move rfl) ?_
      refine ha_takeP 4 rfl (r_idxA rfl rfl) ?_
      refine ha_take 5 rfl (r_nth rfl (bc_at' (by omega))) ?_
      refine ha_takeP 6 rfl (r_gtr rfl rfl) ?_
      refine ha_done (by kernel_rfl) ?_
      refine q_then ?_
      refine h_cond rfl (fun h2 => ?_) (fun h2 => ?_)
      · rw [if_pos (UInt8.lt_iff_toNat_lt.2 (by omega))] at hc
        rw [← hc]
        refine h_seq ?_
        refine h_reg ?_
        refine h_op (r_assign rfl) ?_
        refine h_nil ?_
        refine q_then ?_
        refine h_ret ?_
        refine q_blockR ?_
        refine q_thenR ?_
        refine q_thenR ?_
        refine q_blockR ?_
        refine q_thenR ?_
        exact h_ret1 rfl rfl fun w s => ⟨(), rfl, s.res (List.nil_sublist _) (by simp)⟩
      · rw [if_neg (fun h => by have := UInt8.lt_iff_toNat_lt.1 h; omega)] at hc
        refine h_skip ?_
        refine q_block ?_
        refine q_then ?_
        refine h_reg ?_
        refine h_op (r_move rfl) ?_
        refine h_op (r_add rfl rfl) ?_
        refine h_op (r_assign rfl) ?_
        refine h_nil ?_
        exact h_back (k + 1) (⟨by omega, hc⟩) (by omega) ⟨rfl, rfl, rfl, trivial⟩ (same)
  · obtain rfl : k = 32 := by omega
    have : cmpB a b = 0 := by rw [← hc, List.drop_eq_nil_of_le (by omega), List.drop_eq_nil_of_le (by omega)]; rfl
    rw [this]
    refine h_exit ?_
    refine q_thenE ?_
    refine q_thenE ?_
    refine q_blockE ?_
    refine q_then ?_
    refine h_seq ?_
    refine h_reg ?_
    refine h_op (r_assign rfl) ?_
    refine h_nil ?_
    refine q_then ?_
    refine h_ret ?_
    exact h_ret1 rfl rfl fun w s => ⟨(), rfl, s.res (List.nil_sublist _) (by simp)⟩
def bI (b : Bool) : Int := if b then 1 else 0
theorem Part_s (m : List En) (B : Option Addr) (c d : Nat) (b : Bool) (hd : d < 256) (hm : m.length ≤ 100000000) : Spec Tryd.prog 39 [.slice B m.length c, .int .i64 (d : Int), .int .i64 (bI b)].toArray [.rd B (ents m)] [] (fun u : Option Addr × Nat => .slice u.1 (part m d b).length u.2) (fun u => [.own (.slice u.1 (part m d b).length u.2) (part m d b).length 77 33 (ents (part m d b))]) := by
  refine spec_of Tryd.func39 rfl (n := 32) rfl rfl ?_
  intro W
  refine h_seq ?_
  refine h_reg ?_
  refine h_op (r_assign rfl) ?_
  refine h_nil ?_
  refine q_then ?_
  refine h_seq ?_
  refine h_reg ?_
  refine h_op (r_assign rfl) ?_
  refine h_nil ?_
  refine q_then ?_
  refine h_seq ?_
  refine h_seq ?_
  refine h_reg ?_
  refine h_op (r_assign rfl) ?_
  refine h_nil ?_
  refine q_then ?_
  refine h_block ?_
  refine h_nil_own 77 33 (xs := ents (part (m.take 0) d b)) rfl ?_
  change H _ _ _ _ _ (.own (.slice none (part (m.take 0) d b).length 0) (part (m.take 0) d b).length _ _ _ :: _) _
  refine h_loop (fun (s : Nat × Option Addr × Nat) => s.1 ≤ m.length) (fun (s : Nat × Option Addr × Nat) => [(8, .int .i64 (s.1 : Int)), (7, .slice s.2.1 (part (m.take s.1) d b).length s.2.2), (0, .slice B m.length c), (1, .int .i64 (d : Int)), (2, .int .i64 (bI b))]) (fun (s : Nat × Option Addr × Nat) => [.own (.slice s.2.1 (part (m.take s.1) d b).length s.2.2) (part (m.take s.1) d b).length 77 33 (ents (part (m.take s.1) d b)), .rd B (ents m)]) (fun (s : Nat × Option Addr × Nat) => m.length - s.1) (0, none, 0) ((show 0 ≤ m.length from Nat.zero_le _)) ⟨rfl, rfl, rfl, rfl, rfl, trivial⟩ (same) ?_
  rintro ⟨k, A, c'⟩ hk
  dsimp only at hk ⊢
  have hlen : (part (m.take k) d b).length ≤ m.length := Nat.le_trans (part_le _ _ _) (by rw [List.length_take]; omega)
  refine h_seq ?_
  refine h_seq ?_
  refine h_reg ?_
  refine h_op (r_move rfl) ?_
  refine h_op (r_move rfl) ?_
  refine h_op (r_len rfl) ?_
  refine h_op (r_lss rfl rfl) ?_
  refine h_nil ?_
  refine q_then ?_
  refine h_cond rfl (fun h => ?_) (fun h => ?_)
  · obtain ⟨e, he⟩ := getE (l := m) (k := k) (by omega)
    refine h_pure (φ := ∃ b o, B = some ⟨b, o, none⟩) (fun w s => Rd.some (s.ok (.rd B (ents m)) (by simp)) (by rw [ents_len]; omega)) ?_
    rintro ⟨bb, o, rfl⟩
    refine h_skip ?_
    refine q_then ?_
    refine h_seq ?_
    refine h_block ?_
    refine h_seq ?_
    refine h_reg ?_
    refine h_op (r_move rfl) ?_
    refine h_op (r_move rfl) ?_
    refine h_op (r_idx rfl rfl) ?_
    refine h_op (r_field rfl) ?_
    refine h_op (r_nthr rfl (out := e.key.cells) (B32.cells_length _) (ents_key he)) ?_
    refine h_op (r_move rfl) ?_
    refine h_call ((refBit_s e.key d hd).comes) rfl rfl rfl fun _ => ?_
    refine h_op (r_move rfl) ?_
    refine h_op (r_bool (r_eql rfl rfl) (show _ = (bitAt e.key d == b) by unfold bI bitN; cases bitAt e.key d <;> cases b <;> rfl)) ?_
    refine h_nil ?_
    refine q_then ?_
    refine h_condB rfl (fun h2 => ?_) (fun h2 => ?_)
    · have hf : part (m.take (k + 1)) d b = part (m.take k) d b ++ [e] := filt_yes he h2
      have hl : (part (m.take k) d b).length + 1 = (part (m.take (k + 1)) d b).length := by rw [hf, List.length_append]; rfl
      refine h_reg ?_
      refine h_op (r_move rfl) ?_
      refine h_op (r_move rfl) ?_
      refine h_op (r_move rfl) ?_
      refine h_op (r_idx rfl rfl) ?_
      refine h_op (r_nthr rfl (out := e.e.cells) (Entry.cells_length _) (ents_at he)) ?_
      refine h_opX (x_bsl rfl rfl) fun g29 => ?_
      refine h_opX (x_app rfl rfl (k := 33)) fun ⟨g30, c30⟩ => ?_
      refine h_op (r_assign rfl) ?_
      refine h_nil ?_
      refine q_block ?_
      refine q_then ?_
      refine h_reg ?_
      refine h_op (r_move rfl) ?_
      refine h_op (r_add rfl rfl) ?_
      refine h_op (r_assign rfl) ?_
      refine h_nil ?_
      rw [ents_snoc, ← hf, hl]
      exact h_back (k + 1, some ⟨g30, 0, none⟩, c30) ((show k + 1 ≤ m.length by omega)) ((show m.length - (k + 1) < m.length - k by omega)) ⟨rfl, rfl, rfl, rfl, rfl, trivial⟩ (same)
    · have hf : part (m.take (k + 1)) d b = part (m.take k) d b := filt_no he (by rw [h2]; simp)
      rw [← hf]
      refine h_skip ?_
      refine q_block ?_
      refine q_then ?_
      refine h_reg ?_
      refine h_op (r_move rfl) ?_
      refine h_op (r_add rfl rfl) ?_
      refine h_op (r_assign rfl) ?_
      refine h_nil ?_
      exact h_back (k + 1, A, c') ((show k + 1 ≤ m.length by omega)) ((show m.length - (k + 1) < m.length - k by omega)) ⟨rfl, rfl, rfl, rfl, rfl, trivial⟩ (same)
  · obtain rfl : k = m.length := by omega
    rw [List.take_length]
    refine h_exit ?_
    refine q_thenE ?_
    refine q_thenE ?_
    refine q_blockE ?_
    refine q_then ?_
    refine h_seq ?_
    refine h_reg ?_
    refine h_op (r_move rfl) ?_
    refine h_op (r_assign rfl) ?_
    refine h_nil ?_
    refine q_then ?_
    refine h_ret ?_
    exact h_ret1 rfl rfl fun w s => ⟨(A, c'), rfl, (same w s).res (List.Sublist.refl _) (by simp [Fa.wr])⟩
theorem Remove_s (m : List En) (B : Option Addr) (c : Nat) (key : B32) (hm : m.length ≤ 100000000) : Spec Tryd.prog 70 [.slice B m.length c, .agg key.cells.toArray].toArray [.rd B (ents m)] [] (fun u : Option Addr × Nat => .slice u.1 (remK m key).length u.2) (fun u => [.own (.slice u.1 (remK m key).length u.2) (remK m key).length 77 33 (ents (remK m key))]) := by
  refine spec_of Tryd.func70 rfl (n := 28) rfl rfl ?_
  intro W
  refine h_seq ?_
  refine h_reg ?_
  refine h_opX (x_box rfl) fun g3 => ?_
  refine h_op (r_assign rfl) ?_
  refine h_nil ?_
  refine q_then ?_
  refine h_seq ?_
  refine h_reg ?_
  refine h_op (r_assign rfl) ?_
  refine h_nil ?_
  refine q_then ?_
  refine h_seq ?_
  refine h_seq ?_
  refine h_reg ?_
  refine h_op (r_assign rfl) ?_
  refine h_nil ?_
  refine q_then ?_
  refine h_block ?_
  refine h_nil_own 77 33 (xs := ents (remK (m.take 0) key)) rfl ?_
  change H _ _ _ _ _ (.own (.slice none (remK (m.take 0) key).length 0) (remK (m.take 0) key).length _ _ _ :: _) _
  refine h_loop (fun (s : Nat × Option Addr × Nat) => s.1 ≤ m.length) (fun (s : Nat × Option Addr × Nat) => [(6, .int .i64 (s.1 : Int)), (5, .slice s.2.1 (remK (m.take s.1) key).length s.2.2), (0, .slice B m.length c), (3, .pointer (some ⟨g3, 0, none⟩))]) (fun (s : Nat × Option Addr × Nat) => [.own (.slice s.2.1 (remK (m.take s.1) key).length s.2.2) (remK (m.take s.1) key).length 77 33 (ents (remK (m.take s.1) key)), .blk g3 key.cells 40, .rd B (ents m)]) (fun (s : Nat × Option Addr × Nat) => m.length - s.1) (0, none, 0) ((show 0 ≤ m.length from Nat.zero_le _)) ⟨rfl, rfl, rfl, rfl, trivial⟩ (same) ?_
  rintro ⟨k, A, c'⟩ hk
  dsimp only at hk ⊢
  have hlen : (remK (m.take k) key).length ≤ m.length := Nat.le_trans (List.length_filter_le _ _) (by rw [List.length_take]; omega)
  refine h_seq ?_
  refine h_seq ?_
  refine h_reg ?_
  refine h_op (r_move rfl) ?_
  refine h_op (r_move rfl) ?_
  refine h_op (r_len rfl) ?_
  refine h_op (r_lss rfl rfl) ?_
  refine h_nil ?_
  refine q_then ?_
  refine h_cond rfl (fun h => ?_) (fun h => ?_)
  · obtain ⟨e, he⟩ := getE (l := m) (k := k) (by omega)
    refine h_pure (φ := ∃ b o, B = some ⟨b, o, none⟩) (fun w s => Rd.some (s.ok (.rd B (ents m)) (by simp)) (by rw [ents_len]; omega)) ?_
    rintro ⟨bb, o, rfl⟩
    refine h_skip ?_
    refine q_then ?_
    refine h_seq ?_
    refine h_block ?_
    refine h_seq ?_
    refine ha_start [.blk g3 key.cells 40, .rd (some ⟨bb, o, none⟩) (ents m)] [] mixed (same) ?_
    refine ha_takeP 0 rfl (r_move rfl) ?_
    refine ha_takeP 1 rfl (r_move rfl) ?_
    refine ha_takeP 2 rfl (r_idx rfl rfl) ?_
    refine ha_takeP 3 rfl (r_field rfl) ?_
    refine ha_take 4 rfl (r_nthr rfl (out := e.key.cells) (B32.cells_length _) (ents_key he)) ?_
    refine ha_take 5 rfl (r_loadr rfl) ?_
    refine ha_takeP 6 rfl (r_ner rfl rfl) ?_
    refine ha_done (by kernel_rfl) ?_
    refine q_then ?_
    refine h_cond rfl (fun h2 => ?_) (fun h2 => ?_)
    · have hf : remK (m.take (k + 1)) key = remK (m.take k) key ++ [e] := filt_yes he (by simpa using h2)
      have hl : (remK (m.take k) key).length + 1 = (remK (m.take (k + 1)) key).length := by rw [hf, List.length_append]; rfl
      refine h_reg ?_
      refine h_op (r_move rfl) ?_
      refine h_op (r_move rfl) ?_
      refine h_op (r_move rfl) ?_
      refine h_op (r_idx rfl rfl) ?_
      refine h_op (r_nthr rfl (out := e.e.cells) (Entry.cells_length _) (ents_at he)) ?_
      refine h_opX (x_bsl rfl rfl) fun g25 => ?_
      refine h_opX (x_app rfl rfl (k := 33)) fun ⟨g26, c26⟩ => ?_
      refine h_op (r_assign rfl) ?_
      refine h_nil ?_
      refine q_block ?_
      refine q_then ?_
      refine h_reg ?_
      refine h_op (r_move rfl) ?_
      refine h_op (r_add rfl rfl) ?_
      refine h_op (r_assign rfl) ?_
      refine h_nil ?_
      rw [ents_snoc, ← hf, hl]
      exact h_back (k + 1, some ⟨g26, 0, none⟩, c26) ((show k + 1 ≤ m.length by omega)) ((show m.length - (k + 1) < m.length - k by omega)) ⟨rfl, rfl, rfl, rfl, trivial⟩ (same)
    · have hf : remK (m.take (k + 1)) key = remK (m.take k) key := filt_no he (by simpa using h2)
      rw [← hf]
      refine h_skip ?_
      refine q_block ?_
      refine q_then ?_
      refine h_reg ?_
      refine h_op (r_move rfl) ?_
      refine h_op (r_add rfl rfl) ?_
      refine h_op (r_assign rfl) ?_
      refine h_nil ?_
      exact h_back (k + 1, A, c') ((show k + 1 ≤ m.length by omega)) ((show m.length - (k + 1) < m.length - k by omega)) ⟨rfl, rfl, rfl, rfl, trivial⟩ (same)
  · obtain rfl : k = m.length := by omega
    rw [List.take_length]
    refine h_exit ?_
    refine q_thenE ?_
    refine q_thenE ?_
    refine q_blockE ?_
    refine q_then ?_
    refine h_seq ?_
    refine h_reg ?_
    refine h_op (r_move rfl) ?_
    refine h_op (r_assign rfl) ?_
    refine h_nil ?_
    refine q_then ?_
    refine h_ret ?_
    exact h_ret1 rfl rfl fun w s => ⟨(A, c'), rfl, (same w s).res (List.Sublist.refl _) (by simp [Fa.wr])⟩
end Go.Proofs.YtgfkbeipckbkiaaDoor
/- TE -/
namespace Go.Proofs.YtgfkbeipckbkiaaDoor
set_option linter.unusedSimpArgs false
set_option linter.unusedVariables false
open Go.RowKit Go.ChangeShapes Go.WideShapes
section
variable {H : Type} {enc : TypeId × Value → H} {w : World} {base : Nat} {spare : Nat → Bool} {held : Bool} {v : Value} {d : DataW H} {ps : List MemPlace} {r : Reach} {b0 : Nat}
theorem c_Entry : Tryd.prog.cellsOf 77 = 33 := by kernel_rfl
theorem c_bytes : Tryd.prog.cellsOf 35 = 1 := by kernel_rfl
theorem entryFields' : ∃ f1 f2 : Field, Tryd.prog.underlying 77 = some (.struct #[f1, f2]) ∧ f1.type = 40 ∧ f2.type = 35 ∧ f1.offset = 0 ∧ f2.offset = 32 :=
  ⟨_, _, Tryd.underlying77, rfl, rfl, rfl, rfl⟩
instance : Inhabited En := ⟨⟨zEntry, []⟩⟩
set_option maxRecDepth 100000 in
theorem dec_En {fuel : Nat} {cs : List Value} {x : DataW H × List MemPlace} (h : DataW.trod enc Tryd.prog w base spare held fuel 77 cs = some x) : ∃ y : En, cs = y.e.cells ∧ SlZ (World.zh w) y.e.value y.val := by
  obtain ⟨f1, f2, hT, t1, t2, o1, o2⟩ := entryFields'
  obtain ⟨xs, n, -, -, hl, hxl, hx⟩ := DataW.trod_struct hT h
  rw [c_Entry] at hl
  have hxl' : xs.length = 2 := hxl
  have k1 := hx 0 f1 rfl
  have k2 := hx 1 f2 rfl
  rw [List.getElem?_eq_getElem (by omega)] at k1 k2
  rw [o1, t1, c_Key, List.drop_zero] at k1
  rw [o2, t2, c_bytes] at k2
  obtain ⟨y1, e1⟩ := dec_B32 Tryd.underlying40 c_Key Tryd.underlying5 c_u8 k1
  obtain ⟨l, A, c, e2, hlc, -, hA, hr, -⟩ := open_rows_t (f := fun b : UInt8 => [Value.int .u8 b.toNat]) (fun _ => rfl) Nat.one_pos Tryd.underlying35 c_u8 (fun _ => True) (fun fuel cs x h => by
    obtain ⟨n, rfl, _, hw⟩ := DataW.trod_int Tryd.underlying5 h
    have := bounds_u8 hw
    exact ⟨toByte (.int .u8 n), by rw [toByte_int this.1 this.2], trivial⟩) k2
  rw [byteOf_bc] at hr
  refine ⟨⟨⟨y1, ⟨A, l.length, c⟩⟩, l⟩, ?_, ⟨rfl, hlc, fun h0 => ?_, RdZ.of hr⟩⟩
  · have r1 : cs = cs.take 32 ++ (cs.drop 32).take 1 := by
      rw [List.take_of_length_le (l := cs.drop 32) (by simp; omega), List.take_append_drop]
    rw [r1, e1, e2]
    rfl
  · have := hA h0
    exact ⟨(show l.length = 0 by omega), this⟩
set_option maxRecDepth 100000 in
theorem openEntries (hval : Value.okWide Tryd.prog w r b0 22 v) (hd : DataW.Trod enc Tryd.prog w base spare held 22 v d ps) :
    ∃ (l : List En) (A : Option Addr) (cap : Nat), v = .slice A l.length cap ∧ RdZ (World.zh w) A (ents l) ∧ ∀ y ∈ l, SlZ (World.zh w) y.e.value y.val := by
  obtain ⟨l, A, c, h1, -, -, -, h2, h3⟩ := open_rows (f := fun y : En => y.e.cells) (fun y => Entry.cells_length y.e) (by omega) Tryd.underlying22 c_Entry (fun y => SlZ (World.zh w) y.e.value y.val) (fun fuel cs x h => dec_En h) hval hd
  exact ⟨l, A, c, h1, RdZ.of h2, h3⟩
end
end Go.Proofs.YtgfkbeipckbkiaaDoor
/- E15 -/
namespace Go.Proofs.YtgfkbeipckbkiaaDoor
set_option linter.unusedSimpArgs false
set_option linter.unusedVariables false
open Go.RowKit
theorem byte_lt_bits (x y : UInt8) (h : x < y) : ∃ j, j < 8 ∧ (∀ i, i < j → bbit x i = bbit y i) ∧ bbit x j = false ∧ bbit y j = true := by
  have key : ∀ n m : Fin 256, n.val < m.val → ((List.range 8).any fun j => ((List.range j).all fun i => bbit (UInt8.ofNat n.val) i == bbit (UInt8.ofNat m.val) i) && !bbit (UInt8.ofNat n.val) j && bbit (UInt8.ofNat m.val) j) = true := by decide +kernel
  have h2 := key ⟨x.toNat, x.toNat_lt⟩ ⟨y.toNat, y.toNat_lt⟩ (UInt8.lt_iff_toNat_lt.1 h)
  simp only [UInt8.ofNat_toNat, List.any_eq_true, List.mem_range, Bool.and_eq_true, List.all_eq_true, beq_iff_eq, Bool.not_eq_true'] at h2
  obtain ⟨j, hj, ⟨h3, h4⟩, h5⟩ := h2
  exact ⟨j, hj, h3, h4, h5⟩
theorem cmpL_lt : ∀ (a b : List UInt8), cmpL a b < 0 → ∃ k, k < a.length ∧ k < b.length ∧ (∀ i, i < k → a.getD i 0 = b.getD i 0) ∧ a.getD k 0 < b.getD k 0
  | [], b, h => by unfold cmpL at h; omega
  | x :: a, [], h => by unfold cmpL at h; omega
  | x :: a, y :: b, h => by
    unfold cmpL at h
    by_cases h1 : x < y
    · exact ⟨0, by simp, by simp, fun i hi => by omega, by simpa using h1⟩
    · rw [if_neg h1] at h
      by_cases h2 : y < x
      · rw [if_pos h2] at h; omega
      · rw [if_neg h2] at h
        obtain ⟨k, k1, k2, k3, k4⟩ := cmpL_lt a b h
        have e : x = y := UInt8.le_antisymm (UInt8.not_lt.1 h2) (UInt8.not_lt.1 h1)
        refine ⟨k + 1, by simp; omega, by simp; omega, fun i hi => ?_, by simpa using k4⟩
        cases i with
        | zero => simpa using e
        | succ i => simpa using k3 i (by omega)
theorem cmpB_bits {a b : B32} (h : cmpB a b < 0) : ∃ i, i < 256 ∧ (∀ j, j < i → bitAt a j = bitAt b j) ∧ bitAt a i = false ∧ bitAt b i = true := by
  obtain ⟨k, k1, _, k3, k4⟩ := cmpL_lt a.1 b.1 h
  obtain ⟨j, hj, h1, h2, h3⟩ := byte_lt_bits _ _ k4
  have ha := a.2
  refine ⟨8 * k + j, by omega, fun i hi => ?_, ?_, ?_⟩
  · unfold bitAt
    by_cases hk : i / 8 < k
    · rw [k3 _ hk]
    · have e : i / 8 = k := by omega
      rw [e]
      exact h1 _ (by omega)
  · unfold bitAt
    rw [show (8 * k + j) / 8 = k by omega, show (8 * k + j) % 8 = j by omega]
    exact h2
  · unfold bitAt
    rw [show (8 * k + j) / 8 = k by omega, show (8 * k + j) % 8 = j by omega]
    exact h3
end Go.Proofs.YtgfkbeipckbkiaaDoor
/- E16 -/
namespace Go.Proofs.YtgfkbeipckbkiaaDoor
set_option linter.unusedSimpArgs false
set_option linter.unusedVariables false
open Go.RowKit
/-- ahead of another key -/
def ltK (a b : B32) : Prop := ∃ i, i < 256 ∧ (∀ j, j < i → bitAt a j = bitAt b j) ∧ bitAt a i = false ∧ bitAt b i = true
theorem ltK_trans {a b c : B32} (h : ltK a b) (h' : ltK b c) : ltK a c := by
  obtain ⟨i, i1, i2, i3, i4⟩ := h
  obtain ⟨j, j1, j2, j3, j4⟩ := h'
  rcases Nat.lt_trichotomy i j with hij | rfl | hij
  · exact ⟨i, i1, fun k hk => (i2 k hk).trans (j2 k (by omega)), i3, (j2 i hij) ▸ i4⟩
  · rw [i4] at j3; cases j3
  · exact ⟨j, j1, fun k hk => (i2 k (by omega)).trans (j2 k hk), (i2 j hij).trans j3, j4⟩
def AlikeK (l : List B32) (d : Nat) : Prop := ∀ a ∈ l, ∀ b ∈ l, ∀ i, i < d → bitAt a i = bitAt b i
theorem ltK_bit {a b : B32} {d : Nat} (h : ltK a b) (ha : ∀ i, i < d → bitAt a i = bitAt b i) (hb : bitAt a d = true) : bitAt b d = true := by
  obtain ⟨i, i1, i2, i3, i4⟩ := h
  rcases Nat.lt_trichotomy i d with hid | rfl | hid
  · rw [ha i hid, i4] at i3; cases i3
  · rw [hb] at i3; cases i3
  · rw [← i2 d hid]; exact hb
theorem split_at : ∀ {l : List B32} {d : Nat}, l.Pairwise ltK → AlikeK l d → ∃ m, m ≤ l.length ∧ (∀ j, j < l.length → bitAt (l.getD j zB32) d = decide (m ≤ j)) ∧ l.take m = l.filter (fun k => bitAt k d == false) ∧ l.drop m = l.filter (fun k => bitAt k d == true)
  | [], _, _, _ => ⟨0, Nat.le_refl _, fun j hj => by simp at hj, rfl, rfl⟩
  | a :: l, d, ho, ha => by
    obtain ⟨h1, h2⟩ := List.pairwise_cons.1 ho
    have hal : AlikeK l d := fun x hx y hy => ha x (List.mem_cons_of_mem _ hx) y (List.mem_cons_of_mem _ hy)
    cases hb : bitAt a d
    · obtain ⟨m, m1, m2, m3, m4⟩ := split_at h2 hal
      refine ⟨m + 1, by simp; omega, fun j hj => ?_, ?_, ?_⟩
      · cases j with
        | zero => simpa using hb
        | succ j =>
          have := m2 j (by simpa using hj)
          rw [List.getD_cons_succ, this]
          exact decide_eq_decide.2 ⟨fun h => by omega, fun h => by omega⟩
      · rw [List.take_succ_cons, m3, List.filter_cons_of_pos (by simp [hb])]
      · rw [List.drop_succ_cons, m4, List.filter_cons_of_neg (by simp [hb])]
    · have hall : ∀ x ∈ l, bitAt x d = true := fun x hx => ltK_bit (h1 x hx) (ha a (List.mem_cons_self ..) x (List.mem_cons_of_mem _ hx)) hb
      refine ⟨0, Nat.zero_le _, fun j hj => ?_, ?_, ?_⟩
      · cases j with
        | zero => simpa using hb
        | succ j =>
          have hj' : j < l.length := by simpa using hj
          rw [List.getD_cons_succ, List.getD_eq_getElem?_getD, List.getElem?_eq_getElem hj', Option.getD_some, hall _ (List.getElem_mem hj')]
          simp
      · rw [List.take_zero, List.filter_cons_of_neg (by simp [hb])]
        symm
        rw [List.filter_eq_nil_iff]
        intro x hx
        simp [hall x hx]
      · rw [List.drop_zero, List.filter_cons_of_pos (by simp [hb])]
        congr 1
        symm
        rw [List.filter_eq_self]
        intro x hx
        simp [hall x hx]
end Go.Proofs.YtgfkbeipckbkiaaDoor
/- E17 -/
namespace Go.Proofs.YtgfkbeipckbkiaaDoor
set_option linter.unusedSimpArgs false
set_option linter.unusedVariables false
open Go.RowKit
/-- the keys with a bit -/
def keysB (ks : List B32) (d : Nat) (b : Bool) : List B32 := ks.filter fun k => bitAt k d == b
/-- what add appends -/
def addT (n : Nat) : Tr → List B32 → Nat → List Item
  | .nil, _, _ => [⟨0, zB32, zLeaf⟩]
  | t, [], _ => [⟨3, dgT n t, zLeaf⟩]
  | .leaf k v, _, _ => [⟨1, zB32, leafOf n k v⟩]
  | .node l r, ks, d => ⟨2, zB32, zLeaf⟩ :: (addT n l (keysB ks d false) (d + 1) ++ addT n r (keysB ks d true) (d + 1))
theorem keysB_alike {ks : List B32} {d : Nat} (h : AlikeK ks d) (b : Bool) : AlikeK (keysB ks d b) (d + 1) := fun x hx y hy i hi => by
  have hx' := List.mem_filter.1 hx
  have hy' := List.mem_filter.1 hy
  rcases Nat.lt_or_ge i d with h1 | h1
  · exact h x hx'.1 y hy'.1 i h1
  · obtain rfl : i = d := by omega
    have e1 : bitAt x i = b := by simpa using hx'.2
    have e2 : bitAt y i = b := by simpa using hy'.2
    rw [e1, e2]
theorem keysB_ord {ks : List B32} {d : Nat} (h : ks.Pairwise ltK) (b : Bool) : (keysB ks d b).Pairwise ltK := h.filter _
end Go.Proofs.YtgfkbeipckbkiaaDoor
/- U63 -/
namespace Go.Proofs.YtgfkbeipckbkiaaDoor
set_option linter.unusedSimpArgs false
set_option linter.unusedVariables false
open Go.RowKit
theorem its_at {l : List Item} {k : Nat} {x : Item} (h : l[k]? = some x) : ∀ j v, x.cells[j]? = some v → (its l)[k * 97 + j]? = some v := by
  induction l generalizing k with
  | nil => cases h
  | cons y l ih =>
    intro j v hv
    rw [its_cons]
    cases k with
    | zero =>
      obtain rfl : y = x := by simpa using h
      rw [Nat.zero_mul, Nat.zero_add, List.getElem?_append_left (List.getElem?_eq_some_iff.1 hv).1]
      exact hv
    | succ k =>
      rw [List.getElem?_append_right (by rw [Item.cells_length]; omega), Item.cells_length, show (k + 1) * 97 + j - 97 = k * 97 + j by omega]
      exact ih (by simpa using h) j v hv
/-- what parse brings -/
def parseV : Except Int Sub → Value
  | .ok t => .tuple #[.iface t.tag t.val, .int .i64 0]
  | .error e => .tuple #[.nilIface, .int .i64 e]
theorem clean3 {x : Item} (h : x.kind = 3) : cleanItem x = decide (x.leaf = zLeaf) := by unfold cleanItem; simp [h]
theorem clean1 {x : Item} (h : ¬ x.kind = 3) (hd : x.digest = zB32) (h1 : x.kind = 1) : cleanItem x = true := by unfold cleanItem; simp [hd, h1]
theorem clean0 {x : Item} (h : ¬ x.kind = 3) (hd : x.digest = zB32) (h1 : ¬ x.kind = 1) : cleanItem x = decide (x.leaf = zLeaf) := by unfold cleanItem; simp [hd, h1]
theorem cleanN {x : Item} (h : ¬ x.kind = 3) (hd : ¬ x.digest = zB32) : cleanItem x = false := by unfold cleanItem; simp [h, hd]
section
variable (h : Zh)
theorem parse_s (l : List Item) (A : Option Addr) (c : Nat) [hr : RdZ h A (its l)] (hc : l.length ≤ c) (hl : l.length ≤ 1000000) : Spec Tryd.prog 42 [.slice A l.length c].toArray [.zone false h] [] (fun _ : Unit => parseV (parseM l)) (fun _ => []) := by
  have hR := read_all h 256 (Nat.le_refl _) l A c hr hc
  rw [show (256 - ((256 : Nat) : Int)) = 0 from rfl] at hR
  refine spec_of Tryd.func42 rfl (n := 64) rfl rfl ?_
  intro W
  refine h_seq ?_
  refine h_reg ?_
  refine h_op (r_assign rfl) ?_
  refine h_op (r_assign rfl) ?_
  refine h_nil ?_
  refine q_then ?_
  refine h_seq ?_
  refine h_reg ?_
  refine h_op (r_assign rfl) ?_
  refine h_nil ?_
  refine q_then ?_
  refine h_seq ?_
  refine h_seq ?_
  refine h_reg ?_
  refine h_op (r_move rfl) ?_
  refine h_op (r_len rfl) ?_
  refine h_op (r_move rfl) ?_
  refine h_nil ?_
  refine q_then ?_
  refine h_block ?_
  refine h_loop (fun (s : Nat × Bool) => s.1 ≤ l.length ∧ (l.take s.1).all kindOk = true ∧ s.2 = (l.take s.1).all cleanItem) (fun (s : Nat × Bool) => [(11, .int .i64 (s.1 : Int)), (10, .int .i64 (l.length : Int)), (9, .slice A l.length c), (4, .bool s.2), (0, .slice A l.length c)]) (fun (s : Nat × Bool) => [.zone false h]) (fun (s : Nat × Bool) => l.length - s.1) (0, true) ((show 0 ≤ l.length ∧ _ ∧ _ from ⟨Nat.zero_le _, rfl, rfl⟩)) ⟨rfl, rfl, rfl, rfl, rfl, trivial⟩ (same) ?_
  rintro ⟨k, b⟩ ⟨hk, hok, hb⟩
  dsimp only at hk hok hb ⊢
  refine h_seq ?_
  refine h_reg ?_
  refine h_op (r_lss rfl rfl) ?_
  refine h_nil ?_
  refine q_then ?_
  refine h_seq ?_
  refine h_cond rfl (fun hlt => ?_) (fun hlt => ?_)
  · have hk2 : k < l.length := by omega
    obtain ⟨x, hx⟩ : ∃ x, l[k]? = some x := ⟨_, List.getElem?_eq_getElem hk2⟩
    have hak := all_take kindOk l k x hx
    have hac := all_take cleanItem l k x hx
    rw [hok, Bool.true_and] at hak
    rw [← hb] at hac
    have h0 : 0 < (its l).length := by rw [its_len]; omega
    obtain ⟨bb, o, rfl, -⟩ := hr.at_ 0 _ (List.getElem?_eq_getElem h0)
    have hat := its_at hx
    by_cases h1 : x.kind < 0
    · have hpm : parseM l = .error 7 := by
        unfold parseM
        rw [if_neg]
        intro ha
        have := List.all_eq_true.1 ha x (List.mem_of_getElem? hx)
        unfold kindOk at this
        simp at this
        omega
      rw [hpm]
      refine h_skip ?_
      refine q_then ?_
      refine h_seq ?_
      refine h_block ?_
      refine h_seq ?_
      refine h_reg ?_
      refine h_op (r_idx rfl rfl) ?_
      refine h_op (r_nthr rfl (out := x.cells) (Item.cells_length x) hat) ?_
      refine h_opX (x_alloc) fun g6 => ?_
      refine h_opS (s_storer rfl rfl) ?_
      refine h_nil ?_
      refine q_then ?_
      refine h_seq ?_
      refine h_seq ?_
      refine h_reg ?_
      refine h_op (r_field rfl) ?_
      refine h_op (r_loadc rfl) ?_
      refine h_op (r_bool (r_lss rfl rfl) (decide_eq_true h1)) ?_
      refine h_op (r_move rfl) ?_
      refine h_opOff ?_
      refine h_opOff ?_
      refine h_opOff ?_
      refine h_op (r_pick rfl rfl) ?_
      refine h_nil ?_
      refine q_then ?_
      refine h_condT rfl ?_
      refine h_seq ?_
      refine h_reg ?_
      refine h_op (r_assign rfl) ?_
      refine h_op (r_assign rfl) ?_
      refine h_nil ?_
      refine q_then ?_
      refine h_ret ?_
      refine q_thenR ?_
      refine q_blockR ?_
      refine q_thenR ?_
      refine q_thenR ?_
      refine q_blockR ?_
      refine q_thenR ?_
      exact h_ret2 rfl rfl rfl fun w s => ⟨(), rfl, s.res (List.nil_sublist _) (by simp)⟩
    · by_cases h2 : 3 < x.kind
      · have hpm : parseM l = .error 7 := by
          unfold parseM
          rw [if_neg]
          intro ha
          have := List.all_eq_true.1 ha x (List.mem_of_getElem? hx)
          unfold kindOk at this
          simp at this
          omega
        rw [hpm]
        refine h_skip ?_
        refine q_then ?_
        refine h_seq ?_
        refine h_block ?_
        refine h_seq ?_
        refine h_reg ?_
        refine h_op (r_idx rfl rfl) ?_
        refine h_op (r_nthr rfl (out := x.cells) (Item.cells_length x) hat) ?_
        refine h_opX (x_alloc) fun g6 => ?_
        refine h_opS (s_storer rfl rfl) ?_
        refine h_nil ?_
        refine q_then ?_
        refine h_seq ?_
        refine h_seq ?_
        refine h_reg ?_
        refine h_op (r_field rfl) ?_
        refine h_op (r_loadc rfl) ?_
        refine h_op (r_bool (r_lss rfl rfl) (decide_eq_false h1)) ?_
        refine h_op (r_move rfl) ?_
        refine h_op (r_field rfl) ?_
        refine h_op (r_loadc rfl) ?_
        refine h_op (r_bool (r_gtr rfl rfl) (decide_eq_true h2)) ?_
        refine h_op (r_pick rfl rfl) ?_
        refine h_nil ?_
        refine q_then ?_
        refine h_condT rfl ?_
        refine h_seq ?_
        refine h_reg ?_
        refine h_op (r_assign rfl) ?_
        refine h_op (r_assign rfl) ?_
        refine h_nil ?_
        refine q_then ?_
        refine h_ret ?_
        refine q_thenR ?_
        refine q_blockR ?_
        refine q_thenR ?_
        refine q_thenR ?_
        refine q_blockR ?_
        refine q_thenR ?_
        exact h_ret2 rfl rfl rfl fun w s => ⟨(), rfl, s.res (List.nil_sublist _) (by simp)⟩
      · have hok' : (l.take (k + 1)).all kindOk = true := by rw [hak]; unfold kindOk; simp; omega
        refine h_skip ?_
        refine q_then ?_
        refine h_seq ?_
        refine h_block ?_
        refine h_seq ?_
        refine h_reg ?_
        refine h_op (r_idx rfl rfl) ?_
        refine h_op (r_nthr rfl (out := x.cells) (Item.cells_length x) hat) ?_
        refine h_opX (x_alloc) fun g6 => ?_
        refine h_opS (s_storer rfl rfl) ?_
        refine h_nil ?_
        refine q_then ?_
        refine h_seq ?_
        refine h_seq ?_
        refine h_reg ?_
        refine h_op (r_field rfl) ?_
        refine h_op (r_loadc rfl) ?_
        refine h_op (r_bool (r_lss rfl rfl) (decide_eq_false h1)) ?_
        refine h_op (r_move rfl) ?_
        refine h_op (r_field rfl) ?_
        refine h_op (r_loadc rfl) ?_
        refine h_op (r_bool (r_gtr rfl rfl) (decide_eq_false h2)) ?_
        refine h_op (r_pick rfl rfl) ?_
        refine h_nil ?_
        refine q_then ?_
        refine h_condF rfl ?_
        rcases b with _ | _
        · refine h_skip ?_
          refine q_then ?_
          refine h_reg ?_
          refine h_op (r_move rfl) ?_
          refine h_op (r_move rfl) ?_
          refine h_opOff ?_
          refine h_opOff ?_
          refine h_opOff ?_
          refine h_opOff ?_
          refine h_opOff ?_
          refine h_opOff ?_
          refine h_opOff ?_
          refine h_opOff ?_
          refine h_opOff ?_
          refine h_op (r_pick rfl rfl) ?_
          refine h_op (r_move rfl) ?_
          refine h_opOff ?_
          refine h_opOff ?_
          refine h_opOff ?_
          refine h_opOff ?_
          refine h_opOff ?_
          refine h_opOff ?_
          refine h_opOff ?_
          refine h_opOff ?_
          refine h_opOff ?_
          refine h_op (r_pick rfl rfl) ?_
          refine h_op (r_assign rfl) ?_
          refine h_nil ?_
          refine q_block ?_
          refine q_then ?_
          refine h_reg ?_
          refine h_op (r_add rfl rfl) ?_
          refine h_op (r_move rfl) ?_
          refine h_nil ?_
          exact h_back (k + 1, false) (⟨hk2, hok', by rw [hac]; rfl⟩) ((show l.length - (k + 1) < l.length - k by omega)) ⟨rfl, rfl, rfl, rfl, rfl, trivial⟩ (same)
        · rw [Bool.true_and] at hac
          by_cases h3 : x.kind = 3
          · refine h_skip ?_
            refine q_then ?_
            refine h_reg ?_
            refine h_op (r_move rfl) ?_
            refine h_op (r_move rfl) ?_
            refine h_op (r_field rfl) ?_
            refine h_op (r_loadc rfl) ?_
            refine h_op (r_bool (r_eql rfl rfl) (decide_eq_true h3)) ?_
            refine h_op (r_move rfl) ?_
            refine h_opOff ?_
            refine h_opOff ?_
            refine h_opOff ?_
            refine h_opOff ?_
            refine h_op (r_pick rfl rfl) ?_
            refine h_op (r_pick rfl rfl) ?_
            refine h_op (r_move rfl) ?_
            refine h_op (r_field rfl) ?_
            refine h_op (r_loadc rfl) ?_
            refine h_op (r_bool (r_eql rfl rfl) (decide_eq_false (by omega))) ?_
            refine h_op (r_move rfl) ?_
            refine h_op (r_field rfl) ?_
            refine h_op (r_loadr rfl) ?_
            refine h_op (r_build rfl) ?_
            refine h_op (r_eqr rfl rfl) ?_
            refine h_op (r_pick rfl rfl) ?_
            refine h_op (r_pick rfl rfl) ?_
            refine h_op (r_assign rfl) ?_
            refine h_nil ?_
            refine q_block ?_
            refine q_then ?_
            refine h_reg ?_
            refine h_op (r_add rfl rfl) ?_
            refine h_op (r_move rfl) ?_
            refine h_nil ?_
            exact h_back (k + 1, decide (x.leaf = zLeaf)) (⟨hk2, hok', by rw [hac, clean3 h3]⟩) ((show l.length - (k + 1) < l.length - k by omega)) ⟨rfl, rfl, rfl, rfl, rfl, trivial⟩ (same)
          · by_cases hd : x.digest = zB32
            · by_cases h4 : x.kind = 1
              · refine h_skip ?_
                refine q_then ?_
                refine h_reg ?_
                refine h_op (r_move rfl) ?_
                refine h_op (r_move rfl) ?_
                refine h_op (r_field rfl) ?_
                refine h_op (r_loadc rfl) ?_
                refine h_op (r_bool (r_eql rfl rfl) (decide_eq_false h3)) ?_
                refine h_op (r_move rfl) ?_
                refine h_op (r_field rfl) ?_
                refine h_op (r_loadr rfl) ?_
                refine h_op (r_build rfl) ?_
                refine h_op (r_bool (r_eqr rfl rfl) (decide_eq_true hd)) ?_
                refine h_op (r_pick rfl rfl) ?_
                refine h_op (r_pick rfl rfl) ?_
                refine h_op (r_move rfl) ?_
                refine h_op (r_field rfl) ?_
                refine h_op (r_loadc rfl) ?_
                refine h_op (r_bool (r_eql rfl rfl) (decide_eq_true h4)) ?_
                refine h_op (r_move rfl) ?_
                refine h_opOff ?_
                refine h_opOff ?_
                refine h_opOff ?_
                refine h_opOff ?_
                refine h_op (r_pick rfl rfl) ?_
                refine h_op (r_pick rfl rfl) ?_
                refine h_op (r_assign rfl) ?_
                refine h_nil ?_
                refine q_block ?_
                refine q_then ?_
                refine h_reg ?_
                refine h_op (r_add rfl rfl) ?_
                refine h_op (r_move rfl) ?_
                refine h_nil ?_
                exact h_back (k + 1, true) (⟨hk2, hok', by rw [hac, clean1 h3 hd h4]⟩) ((show l.length - (k + 1) < l.length - k by omega)) ⟨rfl, rfl, rfl, rfl, rfl, trivial⟩ (same)
              · refine h_skip ?_
                refine q_then ?_
                refine h_reg ?_
                refine h_op (r_move rfl) ?_
                refine h_op (r_move rfl) ?_
                refine h_op (r_field rfl) ?_
                refine h_op (r_loadc rfl) ?_
                refine h_op (r_bool (r_eql rfl rfl) (decide_eq_false h3)) ?_
                refine h_op (r_move rfl) ?_
                refine h_op (r_field rfl) ?_
                refine h_op (r_loadr rfl) ?_
                refine h_op (r_build rfl) ?_
                refine h_op (r_bool (r_eqr rfl rfl) (decide_eq_true hd)) ?_
                refine h_op (r_pick rfl rfl) ?_
                refine h_op (r_pick rfl rfl) ?_
                refine h_op (r_move rfl) ?_
                refine h_op (r_field rfl) ?_
                refine h_op (r_loadc rfl) ?_
                refine h_op (r_bool (r_eql rfl rfl) (decide_eq_false h4)) ?_
                refine h_op (r_move rfl) ?_
                refine h_op (r_field rfl) ?_
                refine h_op (r_loadr rfl) ?_
                refine h_op (r_build rfl) ?_
                refine h_op (r_eqr rfl rfl) ?_
                refine h_op (r_pick rfl rfl) ?_
                refine h_op (r_pick rfl rfl) ?_
                refine h_op (r_assign rfl) ?_
                refine h_nil ?_
                refine q_block ?_
                refine q_then ?_
                refine h_reg ?_
                refine h_op (r_add rfl rfl) ?_
                refine h_op (r_move rfl) ?_
                refine h_nil ?_
                exact h_back (k + 1, decide (x.leaf = zLeaf)) (⟨hk2, hok', by rw [hac, clean0 h3 hd h4]⟩) ((show l.length - (k + 1) < l.length - k by omega)) ⟨rfl, rfl, rfl, rfl, rfl, trivial⟩ (same)
            · refine h_skip ?_
              refine q_then ?_
              refine h_reg ?_
              refine h_op (r_move rfl) ?_
              refine h_op (r_move rfl) ?_
              refine h_op (r_field rfl) ?_
              refine h_op (r_loadc rfl) ?_
              refine h_op (r_bool (r_eql rfl rfl) (decide_eq_false h3)) ?_
              refine h_op (r_move rfl) ?_
              refine h_op (r_field rfl) ?_
              refine h_op (r_loadr rfl) ?_
              refine h_op (r_build rfl) ?_
              refine h_op (r_bool (r_eqr rfl rfl) (decide_eq_false hd)) ?_
              refine h_op (r_pick rfl rfl) ?_
              refine h_op (r_pick rfl rfl) ?_
              refine h_op (r_move rfl) ?_
              refine h_opOff ?_
              refine h_opOff ?_
              refine h_opOff ?_
              refine h_opOff ?_
              refine h_opOff ?_
              refine h_opOff ?_
              refine h_opOff ?_
              refine h_opOff ?_
              refine h_opOff ?_
              refine h_op (r_pick rfl rfl) ?_
              refine h_op (r_assign rfl) ?_
              refine h_nil ?_
              refine q_block ?_
              refine q_then ?_
              refine h_reg ?_
              refine h_op (r_add rfl rfl) ?_
              refine h_op (r_move rfl) ?_
              refine h_nil ?_
              exact h_back (k + 1, false) (⟨hk2, hok', by rw [hac, cleanN h3 hd]⟩) ((show l.length - (k + 1) < l.length - k by omega)) ⟨rfl, rfl, rfl, rfl, rfl, trivial⟩ (same)
  · obtain rfl : k = l.length := by omega
    rw [List.take_length] at hok hb
    have hpm : parseM l = match readM 256 l with | some (t, []) => if l.all cleanItem then .ok t else .error 5 | _ => .error 5 := by
      unfold parseM
      rw [if_pos hok]
      rcases readM 256 l with _ | ⟨t, r⟩
      · rfl
      · cases r <;> rfl
    rw [hpm]
    rcases hm : readM 256 l with _ | ⟨t, r⟩
    · rw [hm] at hR
      refine h_exit ?_
      refine q_thenE ?_
      refine q_thenE ?_
      refine q_blockE ?_
      refine q_then ?_
      refine h_seq ?_
      refine h_reg ?_
      refine h_op (r_move rfl) ?_
      refine h_call (hR.comes) rfl rfl rfl fun _ => ?_
      rcases b with _ | _
      · refine h_op (r_move rfl) ?_
        refine h_op (r_extract rfl rfl) ?_
        refine h_op (r_extract rfl rfl) ?_
        refine h_op (r_assign rfl) ?_
        refine h_op (r_assign rfl) ?_
        refine h_nil ?_
        refine q_then ?_
        refine h_seq ?_
        refine h_seq ?_
        refine h_reg ?_
        refine h_op (r_move rfl) ?_
        refine h_op (r_not rfl) ?_
        refine h_op (r_move rfl) ?_
        refine h_opOff ?_
        refine h_opOff ?_
        refine h_op (r_pick rfl rfl) ?_
        refine h_op (r_move rfl) ?_
        refine h_opOff ?_
        refine h_opOff ?_
        refine h_opOff ?_
        refine h_op (r_pick rfl rfl) ?_
        refine h_nil ?_
        refine q_then ?_
        refine h_condT rfl ?_
        refine h_seq ?_
        refine h_reg ?_
        refine h_op (r_assign rfl) ?_
        refine h_op (r_assign rfl) ?_
        refine h_nil ?_
        refine q_then ?_
        refine h_ret ?_
        refine q_thenR ?_
        exact h_ret2 rfl rfl rfl fun w s => ⟨(), rfl, s.res (List.nil_sublist _) (by simp)⟩
      · refine h_op (r_move rfl) ?_
        refine h_op (r_extract rfl rfl) ?_
        refine h_op (r_extract rfl rfl) ?_
        refine h_op (r_assign rfl) ?_
        refine h_op (r_assign rfl) ?_
        refine h_nil ?_
        refine q_then ?_
        refine h_seq ?_
        refine h_seq ?_
        refine h_reg ?_
        refine h_op (r_move rfl) ?_
        refine h_op (r_not rfl) ?_
        refine h_op (r_move rfl) ?_
        refine h_op (r_move rfl) ?_
        refine h_op (r_nilnil rfl) ?_
        refine h_op (r_pick rfl rfl) ?_
        refine h_op (r_move rfl) ?_
        refine h_opOff ?_
        refine h_opOff ?_
        refine h_opOff ?_
        refine h_op (r_pick rfl rfl) ?_
        refine h_nil ?_
        refine q_then ?_
        refine h_condT rfl ?_
        refine h_seq ?_
        refine h_reg ?_
        refine h_op (r_assign rfl) ?_
        refine h_op (r_assign rfl) ?_
        refine h_nil ?_
        refine q_then ?_
        refine h_ret ?_
        refine q_thenR ?_
        exact h_ret2 rfl rfl rfl fun w s => ⟨(), rfl, s.res (List.nil_sublist _) (by simp)⟩
    · rw [hm] at hR
      refine h_exit ?_
      refine q_thenE ?_
      refine q_thenE ?_
      refine q_blockE ?_
      refine q_then ?_
      refine h_seq ?_
      refine h_reg ?_
      refine h_op (r_move rfl) ?_
      refine h_call (hR.comes) rfl rfl rfl fun ⟨⟨A1, c1⟩, hz1, hc1⟩ => ?_
      dsimp only at hz1 hc1 ⊢
      rcases b with _ | _
      · rw [show parseV (match (some (t, r) : Option (Sub × List Item)) with | some (t, []) => if l.all cleanItem then .ok t else .error 5 | _ => .error 5) = parseV (.error 5) by cases r <;> simp [← hb]]
        refine h_op (r_move rfl) ?_
        refine h_op (r_extract rfl rfl) ?_
        refine h_op (r_extract rfl rfl) ?_
        refine h_op (r_assign rfl) ?_
        refine h_op (r_assign rfl) ?_
        refine h_nil ?_
        refine q_then ?_
        refine h_seq ?_
        refine h_seq ?_
        refine h_reg ?_
        refine h_op (r_move rfl) ?_
        refine h_op (r_not rfl) ?_
        refine h_op (r_move rfl) ?_
        refine h_opOff ?_
        refine h_opOff ?_
        refine h_op (r_pick rfl rfl) ?_
        refine h_op (r_move rfl) ?_
        refine h_opOff ?_
        refine h_opOff ?_
        refine h_opOff ?_
        refine h_op (r_pick rfl rfl) ?_
        refine h_nil ?_
        refine q_then ?_
        refine h_condT rfl ?_
        refine h_seq ?_
        refine h_reg ?_
        refine h_op (r_assign rfl) ?_
        refine h_op (r_assign rfl) ?_
        refine h_nil ?_
        refine q_then ?_
        refine h_ret ?_
        refine q_thenR ?_
        exact h_ret2 rfl rfl rfl fun w s => ⟨(), rfl, s.res (List.nil_sublist _) (by simp)⟩
      · rcases r with _ | ⟨y, r⟩
        · rw [show parseV (match (some (t, []) : Option (Sub × List Item)) with | some (t, []) => if l.all cleanItem then .ok t else .error 5 | _ => .error 5) = parseV (.ok t) by simp [← hb]]
          refine h_op (r_move rfl) ?_
          refine h_op (r_extract rfl rfl) ?_
          refine h_op (r_extract rfl rfl) ?_
          refine h_op (r_assign rfl) ?_
          refine h_op (r_assign rfl) ?_
          refine h_nil ?_
          refine q_then ?_
          refine h_seq ?_
          refine h_seq ?_
          refine h_reg ?_
          refine h_op (r_move rfl) ?_
          refine h_op (r_not rfl) ?_
          refine h_op (r_move rfl) ?_
          refine h_op (r_move rfl) ?_
          refine h_op (r_ifnil rfl) ?_
          refine h_op (r_pick rfl rfl) ?_
          refine h_op (r_move rfl) ?_
          refine h_op (r_move rfl) ?_
          refine h_op (r_len rfl) ?_
          refine h_op (r_bool (r_gtr rfl rfl) (show _ = false from rfl)) ?_
          refine h_op (r_pick rfl rfl) ?_
          refine h_nil ?_
          refine q_then ?_
          refine h_condF rfl ?_
          refine h_skip ?_
          refine q_then ?_
          refine h_seq ?_
          refine h_reg ?_
          refine h_op (r_move rfl) ?_
          refine h_op (r_assign rfl) ?_
          refine h_op (r_assign rfl) ?_
          refine h_nil ?_
          refine q_then ?_
          refine h_ret ?_
          exact h_ret2 rfl rfl rfl fun w s => ⟨(), rfl, s.res (List.nil_sublist _) (by simp)⟩
        · refine h_op (r_move rfl) ?_
          refine h_op (r_extract rfl rfl) ?_
          refine h_op (r_extract rfl rfl) ?_
          refine h_op (r_assign rfl) ?_
          refine h_op (r_assign rfl) ?_
          refine h_nil ?_
          refine q_then ?_
          refine h_seq ?_
          refine h_seq ?_
          refine h_reg ?_
          refine h_op (r_move rfl) ?_
          refine h_op (r_not rfl) ?_
          refine h_op (r_move rfl) ?_
          refine h_op (r_move rfl) ?_
          refine h_op (r_ifnil rfl) ?_
          refine h_op (r_pick rfl rfl) ?_
          refine h_op (r_move rfl) ?_
          refine h_op (r_move rfl) ?_
          refine h_op (r_len rfl) ?_
          refine h_op (r_bool (r_gtr rfl rfl) (decide_eq_true (by simp))) ?_
          refine h_op (r_pick rfl rfl) ?_
          refine h_nil ?_
          refine q_then ?_
          refine h_condT rfl ?_
          refine h_seq ?_
          refine h_reg ?_
          refine h_op (r_assign rfl) ?_
          refine h_op (r_assign rfl) ?_
          refine h_nil ?_
          refine q_then ?_
          refine h_ret ?_
          refine q_thenR ?_
          exact h_ret2 rfl rfl rfl fun w s => ⟨(), rfl, s.res (List.nil_sublist _) (by simp)⟩
theorem mCheck_s (l : List Item) (A : Option Addr) (c : Nat) [hr : RdZ h A (its l)] (hc : l.length ≤ c) (hl : l.length ≤ 1000000) : Spec Tryd.prog 17 [.slice A l.length c].toArray [.zone false h] [] (fun _ : Unit => .int .i64 (checkM l)) (fun _ => []) := by
  have hp := parse_s h l A c hc hl
  unfold checkM
  refine spec_of Tryd.func17 rfl (n := 11) rfl rfl ?_
  intro W
  refine h_seq ?_
  refine h_reg ?_
  refine h_op (r_assign rfl) ?_
  refine h_nil ?_
  refine q_then ?_
  refine h_seq ?_
  refine h_reg ?_
  refine h_op (r_move rfl) ?_
  refine h_call (hp.comes) rfl rfl rfl fun _ => ?_
  cases parseM l
  · refine h_op (r_move rfl) ?_
    refine h_op (r_extract rfl rfl) ?_
    refine h_op (r_extract rfl rfl) ?_
    refine h_op (r_assign rfl) ?_
    refine h_op (r_assign rfl) ?_
    refine h_nil ?_
    refine q_then ?_
    refine h_seq ?_
    refine h_reg ?_
    refine h_op (r_move rfl) ?_
    refine h_op (r_assign rfl) ?_
    refine h_nil ?_
    refine q_then ?_
    refine h_ret ?_
    exact h_ret1 rfl rfl fun w s => ⟨(), rfl, s.res (List.nil_sublist _) (by simp)⟩
  · refine h_op (r_move rfl) ?_
    refine h_op (r_extract rfl rfl) ?_
    refine h_op (r_extract rfl rfl) ?_
    refine h_op (r_assign rfl) ?_
    refine h_op (r_assign rfl) ?_
    refine h_nil ?_
    refine q_then ?_
    refine h_seq ?_
    refine h_reg ?_
    refine h_op (r_move rfl) ?_
    refine h_op (r_assign rfl) ?_
    refine h_nil ?_
    refine q_then ?_
    refine h_ret ?_
    exact h_ret1 rfl rfl fun w s => ⟨(), rfl, s.res (List.nil_sublist _) (by simp)⟩
end
end Go.Proofs.YtgfkbeipckbkiaaDoor
/- U64 -/
namespace Go.Proofs.YtgfkbeipckbkiaaDoor
set_option linter.unusedSimpArgs false
set_option linter.unusedVariables false
open Go.RowKit
def Sub.cost : Sub → Nat
  | .one x => if x.kind = 3 then 0 else 1
  | .two l r => l.cost + r.cost + 1
def Sub.dig : Sub → FuncId
  | .one _ => 137
  | .two _ _ => 134
instance : MethT Tryd.prog 122 "sparsetree/multi.digest" 137 := ⟨fun v args w => by kernel_rfl⟩
instance : MethT Tryd.prog 120 "sparsetree/multi.digest" 134 := ⟨fun v args w => by kernel_rfl⟩
instance (t : Sub) : MethT Tryd.prog t.tag "sparsetree/multi.digest" t.dig := by
  cases t
  · exact inferInstanceAs (MethT Tryd.prog 122 _ 137)
  · exact inferInstanceAs (MethT Tryd.prog 120 _ 134)
instance (t : Sub) : Ent Tryd.prog t.dig := by
  cases t
  · exact inferInstanceAs (Ent Tryd.prog 137)
  · exact inferInstanceAs (Ent Tryd.prog 134)
end Go.Proofs.YtgfkbeipckbkiaaDoor
/- U65 -/
namespace Go.Proofs.YtgfkbeipckbkiaaDoor
set_option linter.unusedSimpArgs false
set_option linter.unusedVariables false
open Go.RowKit
end Go.Proofs.YtgfkbeipckbkiaaDoor
/- U66 -/
namespace Go.Proofs.YtgfkbeipckbkiaaDoor
set_option linter.unusedSimpArgs false
set_option linter.unusedVariables false
open Go.RowKit
end Go.Proofs.YtgfkbeipckbkiaaDoor
/- U67 -/
namespace Go.Proofs.YtgfkbeipckbkiaaDoor
set_option linter.unusedSimpArgs false
set_option linter.unusedVariables false
open Go.RowKit
end Go.Proofs.YtgfkbeipckbkiaaDoor
/- E18 -/
namespace Go.Proofs.YtgfkbeipckbkiaaDoor
set_option linter.unusedSimpArgs false
set_option linter.unusedVariables false
open Go.RowKit
abbrev innerI : Item := ⟨2, zB32, zLeaf⟩
def Sub.flat : Sub → List Item
  | .one x => [x]
  | .two l r => innerI :: (l.flat ++ r.flat)
def Sub.ht : Sub → Nat
  | .one _ => 0
  | .two l r => max l.ht r.ht + 1
def Sub.ok : Sub → Prop
  | .one x => x.kind ≠ 2 ∧ kindOk x = true ∧ cleanItem x = true
  | .two l r => l.ok ∧ r.ok
def Sub.sz : Sub → Nat
  | .one _ => 1
  | .two l r => l.sz + r.sz + 1
theorem read_flat : ∀ (t : Sub) (d : Nat) (rest : List Item), t.ok → t.ht ≤ d → readM d (t.flat ++ rest) = some (t, rest)
  | .one x, d, rest, ho, _ => by
    show readM d (x :: rest) = _
    cases d <;> (unfold readM; rw [if_neg ho.1])
  | .two l r, 0, rest, ho, hd => absurd hd (by simp [Sub.ht])
  | .two l r, d + 1, rest, ho, hd => by
    have hd' : max l.ht r.ht + 1 ≤ d + 1 := hd
    show readM (d + 1) (innerI :: ((l.flat ++ r.flat) ++ rest)) = _
    unfold readM
    rw [if_pos rfl, List.append_assoc, read_flat l d _ ho.1 (by omega)]
    simp only [Option.bind_some]
    rw [read_flat r d _ ho.2 (by omega)]
    rfl
theorem Sub.flat_all : ∀ t : Sub, t.ok → t.flat.all kindOk = true ∧ t.flat.all cleanItem = true
  | .one x, h => ⟨by show ([x].all kindOk) = true; simp [h.2.1], by show ([x].all cleanItem) = true; simp [h.2.2]⟩
  | .two l r, h => by
    have h1 := l.flat_all h.1
    have h2 := r.flat_all h.2
    constructor
    · show ((innerI :: (l.flat ++ r.flat)).all kindOk) = true
      rw [List.all_cons, List.all_append, h1.1, h2.1]; rfl
    · show ((innerI :: (l.flat ++ r.flat)).all cleanItem) = true
      rw [List.all_cons, List.all_append, h1.2, h2.2]; decide
theorem flat_parse {t : Sub} (h : t.ok) (hh : t.ht ≤ 256) : parseM t.flat = .ok t := by
  have h1 := t.flat_all h
  have h2 := read_flat t 256 [] h hh
  rw [List.append_nil] at h2
  unfold parseM
  rw [if_pos h1.1, h2]
  simp only [h1.2, if_true]
/-! the end of a key's way, its indices -/
/-! the ends of keys -/
/-! what add appends is the flat list of a subtree -/
def subT (n : Nat) : Tr → List B32 → Nat → Sub
  | .nil, _, _ => .one ⟨0, zB32, zLeaf⟩
  | t, [], _ => .one ⟨3, dgT n t, zLeaf⟩
  | .leaf k v, _, _ => .one ⟨1, zB32, leafOf n k v⟩
  | .node l r, ks, d => .two (subT n l (keysB ks d false) (d + 1)) (subT n r (keysB ks d true) (d + 1))
theorem addT_flat (n : Nat) : ∀ (t : Tr) (ks : List B32) (d : Nat), addT n t ks d = (subT n t ks d).flat
  | .nil, ks, d => by unfold addT subT; rfl
  | .leaf k v, [], d => rfl
  | .leaf k v, _ :: _, d => rfl
  | .node l r, [], d => rfl
  | .node l r, x :: ks, d => by
    unfold addT subT
    rw [addT_flat n l, addT_flat n r]
    rfl
theorem subT_ok (n : Nat) : ∀ (t : Tr) (ks : List B32) (d : Nat), (subT n t ks d).ok
  | .nil, ks, d => by unfold subT; exact ⟨by decide, by decide, by decide⟩
  | .leaf k v, [], d => ⟨by simp, by simp [kindOk], by simp [cleanItem]⟩
  | .leaf k v, _ :: _, d => ⟨by simp, by simp [kindOk], by simp [cleanItem]⟩
  | .node l r, [], d => ⟨by simp, by simp [kindOk], by simp [cleanItem]⟩
  | .node l r, x :: ks, d => ⟨subT_ok n l _ _, subT_ok n r _ _⟩
end Go.Proofs.YtgfkbeipckbkiaaDoor
/- N15 -/
namespace Go.Proofs.YtgfkbeipckbkiaaDoor
set_option linter.unusedSimpArgs false
set_option linter.unusedVariables false
open Go.RowKit
/-- the model's entry of bytealg.Compare -/
class TCmp (P : Program) (f : FuncId) : Prop where
  ok : ∀ args w, (callFunc f args).run P w = ((Extern.BytealgCompare.compare args).run P w).andThen fun v w' => .ok (.value v) w'
theorem bytes_back (l : List UInt8) : Lib.bytesOf (l.map fun x => (x.toNat : Int)) = l := by
  unfold Lib.bytesOf
  rw [List.map_map]
  conv => rhs; rw [← List.map_id l]
  apply List.map_congr_left
  intro x _
  simp
theorem run_bytesOf_rd {P : Program} {w : World} {A : Option Addr} {l : List UInt8} {c : Nat} (hr : Rd w A (bc l)) : (Extern.Bytes.bytesOf (.slice A l.length c)).run P w = .ok ⟨l.toArray⟩ w := by
  cases A with
  | none =>
    have : l = [] := by
      cases l with
      | nil => rfl
      | cons x l => obtain ⟨b, o, e, _⟩ := hr 0 (.int .u8 x.toNat) rfl; cases e
    subst this
    rfl
  | some a =>
    have h := Lib.run_loadBytesX (P := P) (w := w) (l.map fun x => (x.toNat : Int)) a .empty (fun j x hj => by
      obtain ⟨y, hy, rfl⟩ : ∃ y, l[j]? = some y ∧ (y.toNat : Int) = x := by simpa using hj
      have hj' : (bc l)[j]? = some (.int .u8 (y.toNat : Int)) := by simp [bc, hy]
      obtain ⟨b, o, e, h2⟩ := hr j _ hj'
      injection e with e
      subst e
      rw [Addr.add_mid]
      exact h2)
    rw [List.length_map, bytes_back] at h
    show (Extern.Bytes.loadBytes a l.length .empty).run P w = _
    rw [h]
    simp
section
variable {P : Program} {n : Nat} {D : List Deferred} {E : Env} {L : List Fa}
theorem r_cmp {f : FuncId} [hf : TCmp P f] {x y : Operand} {ts : Array TypeId} {A B : Option Addr} {c c' : Nat} {a b : List UInt8} (hx : ev E x = some (.slice A a.length c)) (hy : ev E y = some (.slice B b.length c')) [hA : Rd1 L (.rd A (bc a))] [hB : Rd1 L (.rd B (bc b))] : Runs0 P n D E L (.call ⟨.value (.func f), #[x, y], ts⟩) (.int .i64 (Lib.compareBytes a b)) := fun act w ka s o ho => by
  have h1 := run_bytesOf_rd (P := P) (c := c) (hA.ok s).2.1
  have h2 := run_bytesOf_rd (P := P) (c := c') (hB.ok s).2.1
  have e0 : ev E (.func f) = some (.func (.func f) #[] #[]) := rfl
  unfold execOp
  simp only [ho, resolve, ka.ev e0, Deferred.ofValue, Sem.run_bind, Sem.run_pure, Result.andThen_ok, invoke]
  have e1 : (#[x, y].map act.eval) = #[.slice A a.length c, .slice B b.length c'] := by simp [ka.ev hx, ka.ev hy]
  rw [e1]
  show (callFunc f #[.slice A a.length c, .slice B b.length c']).run P w = _
  have e2 : (Extern.BytealgCompare.compare #[.slice A a.length c, .slice B b.length c']).run P w = .ok (.int .i64 (Lib.compareBytes a b)) w := by
    change Sem.run P (do pure (goInt (Extern.BytealgCompare.cmp (← Extern.Bytes.bytesOf (.slice A a.length c)) (← Extern.Bytes.bytesOf (.slice B b.length c'))))) w = _
    simp only [Sem.run_bind, h1, h2, Result.andThen_ok, Sem.run_pure, Lib.cmp_eq]
    rfl
  rw [hf.ok, e2]
  rfl
end
end Go.Proofs.YtgfkbeipckbkiaaDoor
