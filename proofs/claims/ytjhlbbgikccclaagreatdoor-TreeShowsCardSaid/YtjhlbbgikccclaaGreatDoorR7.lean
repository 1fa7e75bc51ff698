/- node: what is read of a subtree; node: what makes a subtree; node.Join; find: the way of a key; find: the end of the way, the subtrees beside it; The reference's maps; An argument that is a list of entries, opened; What decoding a proof computes: plain; The reference's maps: Put, Of, Few, Root; The reference's maps: Few, Root; the tree that grows out of a map; The tree that grows out of a map (joined texts: U33 U34 U35 U36 U37 U38 TE E23 U39 U40 U41) -/
import Derived.Test.YtjhlbbgikccclaaGreatDoorR6
set_option linter.all false
/- U33 -/
namespace Go.Proofs.YtjhlbbgikccclaaGreatDoor
open Go.RowKit
section
variable (n : Nat) (h : Zh) (t : Tr) (p : Option Addr) [ht : TrZ n h t p]
include ht
theorem Kind_s : Spec Tryz.prog 91 [.pointer p].toArray [.zone false h] [] (fun _ : Unit => .int .i64 ((t.kind : Nat) : Int)) (fun _ => []) := by
 have ho := ht.ok
 clear ht
 refine spec_of Tryz.func91 rfl (n := 15) rfl rfl ?_
 intro W
 rcases t with _ | ⟨kk, b⟩ | ⟨l, r⟩
 ·obtain rfl : p = none := ho
  refine yR ?_
  refine yS rfl ?_
  refine yN ?_
  refine h_seq ?_
  refine yR ?_
  refine yM rfl ?_
  refine h_op (r_nilR rfl rfl) ?_
  refine yN ?_
  refine h_condT rfl ?_
  refine yR ?_
  refine yS rfl ?_
  refine yN ?_
  refine h_ret ?_
  refine q_thenR ?_
  exact h_ret1 rfl rfl fun w s => ⟨(), rfl, s.res (List.nil_sublist _) (by simp)⟩
 ·obtain ⟨g, s, rfl, hr, hs⟩ := ho
  refine yR ?_
  refine yS rfl ?_
  refine yN ?_
  refine h_seq ?_
  refine yR ?_
  refine yM rfl ?_
  refine h_op (r_nilR rfl rfl) ?_
  refine yN ?_
  refine h_condF rfl ?_
  refine h_skip ?_
  refine q_then ?_
  refine h_seq ?_
  refine yR ?_
  refine yM rfl ?_
  refine h_op (r_nilc rfl) ?_
  refine h_op (r_field rfl) ?_
  refine h_op (r_loadc rfl) ?_
  refine yN ?_
  refine h_block ?_
  refine yR ?_
  refine h_op (r_as2 rfl) ?_
  refine h_op (r_extract rfl rfl) ?_
  refine h_op (r_extract rfl rfl) ?_
  refine yN ?_
  refine h_condT rfl ?_
  refine yR ?_
  refine yS rfl ?_
  refine yN ?_
  refine h_ret ?_
  refine q_blockR ?_
  refine q_thenR ?_
  exact h_ret1 rfl rfl fun w s => ⟨(), rfl, s.res (List.nil_sublist _) (by simp)⟩
 ·obtain ⟨g, pl, pr, rfl, hr, hl, hr2⟩ := ho
  refine yR ?_
  refine yS rfl ?_
  refine yN ?_
  refine h_seq ?_
  refine yR ?_
  refine yM rfl ?_
  refine h_op (r_nilR rfl rfl) ?_
  refine yN ?_
  refine h_condF rfl ?_
  refine h_skip ?_
  refine q_then ?_
  refine h_seq ?_
  refine yR ?_
  refine yM rfl ?_
  refine h_op (r_nilc rfl) ?_
  refine h_op (r_field rfl) ?_
  refine h_op (r_loadc rfl) ?_
  refine yN ?_
  refine h_block ?_
  refine yR ?_
  refine h_op (r_as2n rfl) ?_
  refine h_op (r_extract rfl rfl) ?_
  refine h_op (r_extract rfl rfl) ?_
  refine yN ?_
  refine h_condF rfl ?_
  refine yR ?_
  refine h_op (r_as2 rfl) ?_
  refine h_op (r_extract rfl rfl) ?_
  refine h_op (r_extract rfl rfl) ?_
  refine yN ?_
  refine h_condT rfl ?_
  refine yR ?_
  refine yS rfl ?_
  refine yN ?_
  refine h_ret ?_
  refine q_blockR ?_
  refine q_thenR ?_
  exact h_ret1 rfl rfl fun w s => ⟨(), rfl, s.res (List.nil_sublist _) (by simp)⟩
end
theorem leaf_s (n : Nat) (h : Zh) (kk : B32) (b : List UInt8) (p : Option Addr) [ht : TrZ n h (.leaf kk b) p] : Spec Tryz.prog 154 [.pointer p].toArray [.zone false h] [] (fun s : {s : Sl // SlZ h s b} => .agg (NLeaf.cells ⟨leafOf n kk b, s.1⟩).toArray) (fun _ => []) := by
 obtain ⟨g, s, rfl, hr, hs⟩ := ht.ok
 refine spec_of Tryz.func154 rfl (n := 12) rfl rfl ?_
 intro W
 refine yR ?_
 refine h_opX (x_alloc) fun g2 => ?_
 refine yN ?_
 refine h_seq ?_
 refine yR ?_
 refine yM rfl ?_
 refine h_call ((Kind_s n h (.leaf kk b) (some ⟨g, 0, none⟩)).comes) rfl rfl rfl fun _ => ?_
 refine h_op (r_bool (r_neq rfl rfl) (show _ = false by simp [Tr.kind])) ?_
 refine yN ?_
 refine h_condF rfl ?_
 refine h_skip ?_
 refine q_then ?_
 refine yR ?_
 refine yM rfl ?_
 refine h_op (r_nilc rfl) ?_
 refine h_op (r_field rfl) ?_
 refine h_op (r_loadc rfl) ?_
 refine h_op (r_as1 rfl) ?_
 refine h_opS (s_storer rfl rfl) ?_
 refine yN ?_
 refine h_ret ?_
 exact h_ret1 rfl (rv_row rfl) fun w s' => ⟨⟨s, hs⟩, rfl, s'.res (List.nil_sublist _) (by simp)⟩
theorem leaf_no (n : Nat) (h : Zh) (t : Tr) (p : Option Addr) [ht : TrZ n h t p] (hk : t.kind ≠ 1) : Spec Tryz.prog 154 [.pointer p].toArray [.zone false h] [] (fun _ : Unit => .agg zNLeaf.cells.toArray) (fun _ => []) := by
 refine spec_of Tryz.func154 rfl (n := 12) rfl rfl ?_
 intro W
 refine yR ?_
 refine h_opX (x_alloc) fun g2 => ?_
 refine yN ?_
 refine h_seq ?_
 refine yR ?_
 refine yM rfl ?_
 refine h_call ((Kind_s n h t p).comes) rfl rfl rfl fun _ => ?_
 refine h_op (r_bool (r_neq rfl rfl) (show _ = true by simp; omega)) ?_
 refine yN ?_
 refine h_condT rfl ?_
 refine yR ?_
 refine h_op (r_build rfl) ?_
 refine h_opS (s_storer rfl rfl) ?_
 refine yN ?_
 refine h_ret ?_
 refine q_thenR ?_
 exact h_ret1 rfl (rv_row rfl) fun w s' => ⟨(), rfl, s'.res (List.nil_sublist _) (by simp)⟩
theorem Leaf_s (n : Nat) (h : Zh) (t : Tr) (p : Option Addr) [ht : TrZ n h t p] : Spec Tryz.prog 99 [.pointer p].toArray [.zone false h] [] (fun _ : Unit => .agg (leafT n t).cells.toArray) (fun _ => []) := by
 refine spec_of Tryz.func99 rfl (n := 6) rfl rfl ?_
 intro W
 rcases t with _ | ⟨kk, b⟩ | ⟨l, r⟩
 ·refine h_seq ?_
  refine h_reg ?_
  refine h_opX (x_alloc) fun g2 => ?_
  refine yN ?_
  refine yR ?_
  refine yM rfl ?_
  refine h_call ((leaf_no n h .nil p (by simp [Tr.kind])).comes) rfl rfl rfl fun _ => ?_
  refine h_op (r_fldr rfl) ?_
  refine h_opS (s_storer rfl rfl) ?_
  refine yN ?_
  refine h_ret ?_
  exact h_ret1 rfl (rv_row rfl) fun w s' => ⟨(), rfl, s'.res (List.nil_sublist _) (by simp)⟩
 ·refine h_seq ?_
  refine h_reg ?_
  refine h_opX (x_alloc) fun g2 => ?_
  refine yN ?_
  refine yR ?_
  refine yM rfl ?_
  refine h_call ((leaf_s n h kk b p).comes) rfl rfl rfl fun ⟨s, hs⟩ => ?_
  refine h_op (r_fldr rfl) ?_
  refine h_opS (s_storer rfl rfl) ?_
  refine yN ?_
  refine h_ret ?_
  exact h_ret1 rfl (rv_row rfl) fun w s' => ⟨(), rfl, s'.res (List.nil_sublist _) (by simp)⟩
 ·refine h_seq ?_
  refine h_reg ?_
  refine h_opX (x_alloc) fun g2 => ?_
  refine yN ?_
  refine yR ?_
  refine yM rfl ?_
  refine h_call ((leaf_no n h (.node l r) p (by simp [Tr.kind])).comes) rfl rfl rfl fun _ => ?_
  refine h_op (r_fldr rfl) ?_
  refine h_opS (s_storer rfl rfl) ?_
  refine yN ?_
  refine h_ret ?_
  exact h_ret1 rfl (rv_row rfl) fun w s' => ⟨(), rfl, s'.res (List.nil_sublist _) (by simp)⟩
theorem inner_s (n : Nat) (h : Zh) (l r : Tr) (p : Option Addr) [ht : TrZ n h (.node l r) p] : Spec Tryz.prog 92 [.pointer p].toArray [.zone false h] [] (fun _ : Unit => .agg (NInner.cells ⟨subP h false p, subP h true p, dgT n l, dgT n r, ((l.cnt + r.cnt : Nat) : Int)⟩).toArray) (fun _ => []) := by
 obtain ⟨g, pl, pr, rfl, hr, hl, hr2⟩ := ht.ok
 rw [subP_node hr, subP_node hr]
 refine spec_of Tryz.func92 rfl (n := 12) rfl rfl ?_
 intro W
 refine yR ?_
 refine h_opX (x_alloc) fun g2 => ?_
 refine yN ?_
 refine h_seq ?_
 refine yR ?_
 refine yM rfl ?_
 refine h_call ((Kind_s n h (.node l r) (some ⟨g, 0, none⟩)).comes) rfl rfl rfl fun _ => ?_
 refine h_op (r_bool (r_neq rfl rfl) (show _ = false by simp [Tr.kind])) ?_
 refine yN ?_
 refine h_condF rfl ?_
 refine h_skip ?_
 refine q_then ?_
 refine yR ?_
 refine yM rfl ?_
 refine h_op (r_nilc rfl) ?_
 refine h_op (r_field rfl) ?_
 refine h_op (r_loadc rfl) ?_
 refine h_op (r_as1 rfl) ?_
 refine h_opS (s_storer rfl rfl) ?_
 refine yN ?_
 refine h_ret ?_
 exact h_ret1 rfl (rv_row rfl) fun w s' => ⟨(), rfl, s'.res (List.nil_sublist _) (by simp)⟩
theorem inner_no (n : Nat) (h : Zh) (t : Tr) (p : Option Addr) [ht : TrZ n h t p] (hk : t.kind ≠ 2) : Spec Tryz.prog 92 [.pointer p].toArray [.zone false h] [] (fun _ : Unit => .agg zNInner.cells.toArray) (fun _ => []) := by
 refine spec_of Tryz.func92 rfl (n := 12) rfl rfl ?_
 intro W
 refine yR ?_
 refine h_opX (x_alloc) fun g2 => ?_
 refine yN ?_
 refine h_seq ?_
 refine yR ?_
 refine yM rfl ?_
 refine h_call ((Kind_s n h t p).comes) rfl rfl rfl fun _ => ?_
 refine h_op (r_bool (r_neq rfl rfl) (show _ = true by simp; omega)) ?_
 refine yN ?_
 refine h_condT rfl ?_
 refine yR ?_
 refine h_op (r_build rfl) ?_
 refine h_opS (s_storer rfl rfl) ?_
 refine yN ?_
 refine h_ret ?_
 refine q_thenR ?_
 exact h_ret1 rfl (rv_row rfl) fun w s' => ⟨(), rfl, s'.res (List.nil_sublist _) (by simp)⟩
theorem Left_s (n : Nat) (h : Zh) (t : Tr) (p : Option Addr) [ht : TrZ n h t p] : Spec Tryz.prog 226 [.pointer p].toArray [.zone false h] [] (fun _ : Unit => .pointer (subP h false p)) (fun _ => []) := by
 refine spec_of Tryz.func226 rfl (n := 7) rfl rfl ?_
 intro W
 by_cases hk : t.kind = 2
 ·rcases t with _ | ⟨kk, b⟩ | ⟨l, r⟩
  ·cases hk
  ·cases hk
  refine yR ?_
  refine yS rfl ?_
  refine yN ?_
  refine yR ?_
  refine yM rfl ?_
  refine h_call ((inner_s n h l r p).comes) rfl rfl rfl fun _ => ?_
  refine h_op (r_fldr rfl) ?_
  refine h_op (r_ixc rfl rfl (v := .pointer (subP h false p)) rfl) ?_
  refine yS rfl ?_
  refine yN ?_
  refine h_ret ?_
  exact h_ret1 rfl rfl fun w s' => ⟨(), rfl, s'.res (List.nil_sublist _) (by simp)⟩
 ·have e : subP h false p = none := by
   have := ht.ok.sub false
   rcases t with _ | ⟨kk, b⟩ | ⟨l, r⟩
   ·exact this
   ·exact this
   ·exact (hk rfl).elim
  rw [e]
  refine yR ?_
  refine yS rfl ?_
  refine yN ?_
  refine yR ?_
  refine yM rfl ?_
  refine h_call ((inner_no n h t p hk).comes) rfl rfl rfl fun _ => ?_
  refine h_op (r_fldr rfl) ?_
  refine h_op (r_ixc rfl rfl (v := .pointer none) rfl) ?_
  refine yS rfl ?_
  refine yN ?_
  refine h_ret ?_
  exact h_ret1 rfl rfl fun w s' => ⟨(), rfl, s'.res (List.nil_sublist _) (by simp)⟩
theorem Right_s (n : Nat) (h : Zh) (t : Tr) (p : Option Addr) [ht : TrZ n h t p] : Spec Tryz.prog 227 [.pointer p].toArray [.zone false h] [] (fun _ : Unit => .pointer (subP h true p)) (fun _ => []) := by
 refine spec_of Tryz.func227 rfl (n := 7) rfl rfl ?_
 intro W
 by_cases hk : t.kind = 2
 ·rcases t with _ | ⟨kk, b⟩ | ⟨l, r⟩
  ·cases hk
  ·cases hk
  refine yR ?_
  refine yS rfl ?_
  refine yN ?_
  refine yR ?_
  refine yM rfl ?_
  refine h_call ((inner_s n h l r p).comes) rfl rfl rfl fun _ => ?_
  refine h_op (r_fldr rfl) ?_
  refine h_op (r_ixc rfl rfl (v := .pointer (subP h true p)) rfl) ?_
  refine yS rfl ?_
  refine yN ?_
  refine h_ret ?_
  exact h_ret1 rfl rfl fun w s' => ⟨(), rfl, s'.res (List.nil_sublist _) (by simp)⟩
 ·have e : subP h true p = none := by
   have := ht.ok.sub true
   rcases t with _ | ⟨kk, b⟩ | ⟨l, r⟩
   ·exact this
   ·exact this
   ·exact (hk rfl).elim
  rw [e]
  refine yR ?_
  refine yS rfl ?_
  refine yN ?_
  refine yR ?_
  refine yM rfl ?_
  refine h_call ((inner_no n h t p hk).comes) rfl rfl rfl fun _ => ?_
  refine h_op (r_fldr rfl) ?_
  refine h_op (r_ixc rfl rfl (v := .pointer none) rfl) ?_
  refine yS rfl ?_
  refine yN ?_
  refine h_ret ?_
  exact h_ret1 rfl rfl fun w s' => ⟨(), rfl, s'.res (List.nil_sublist _) (by simp)⟩
theorem NLen_s (n : Nat) (h : Zh) (t : Tr) (p : Option Addr) [ht : TrZ n h t p] : Spec Tryz.prog 44 [.pointer p].toArray [.zone false h] [] (fun _ : Unit => .int .i64 ((t.cnt : Nat) : Int)) (fun _ => []) := by
 refine spec_of Tryz.func44 rfl (n := 9) rfl rfl ?_
 intro W
 rcases t with _ | ⟨kk, b⟩ | ⟨l, r⟩
 ·refine h_seq ?_
  refine h_reg ?_
  refine yS rfl ?_
  refine yN ?_
  refine h_seq ?_
  refine yR ?_
  refine yM rfl ?_
  refine h_call ((Kind_s n h .nil p).comes) rfl rfl rfl fun _ => ?_
  refine h_op (r_bool (r_eql rfl rfl) (show _ = false by simp [Tr.kind])) ?_
  refine yN ?_
  refine h_condF rfl ?_
  refine h_skip ?_
  refine q_then ?_
  refine yR ?_
  refine yM rfl ?_
  refine h_call ((inner_no n h .nil p (by simp [Tr.kind])).comes) rfl rfl rfl fun _ => ?_
  refine h_op (r_fldc rfl) ?_
  refine yS rfl ?_
  refine yN ?_
  refine h_ret ?_
  exact h_ret1 rfl rfl fun w s' => ⟨(), rfl, s'.res (List.nil_sublist _) (by simp)⟩
 ·refine h_seq ?_
  refine h_reg ?_
  refine yS rfl ?_
  refine yN ?_
  refine h_seq ?_
  refine yR ?_
  refine yM rfl ?_
  refine h_call ((Kind_s n h (.leaf kk b) p).comes) rfl rfl rfl fun _ => ?_
  refine h_op (r_bool (r_eql rfl rfl) (show _ = true by simp [Tr.kind])) ?_
  refine yN ?_
  refine h_condT rfl ?_
  refine yR ?_
  refine yS rfl ?_
  refine yN ?_
  refine h_ret ?_
  refine q_thenR ?_
  exact h_ret1 rfl rfl fun w s' => ⟨(), rfl, s'.res (List.nil_sublist _) (by simp)⟩
 ·refine h_seq ?_
  refine h_reg ?_
  refine yS rfl ?_
  refine yN ?_
  refine h_seq ?_
  refine yR ?_
  refine yM rfl ?_
  refine h_call ((Kind_s n h (.node l r) p).comes) rfl rfl rfl fun _ => ?_
  refine h_op (r_bool (r_eql rfl rfl) (show _ = false by simp [Tr.kind])) ?_
  refine yN ?_
  refine h_condF rfl ?_
  refine h_skip ?_
  refine q_then ?_
  refine yR ?_
  refine yM rfl ?_
  refine h_call ((inner_s n h l r p).comes) rfl rfl rfl fun _ => ?_
  refine h_op (r_fldc rfl) ?_
  refine yS rfl ?_
  refine yN ?_
  refine h_ret ?_
  exact h_ret1 rfl rfl fun w s' => ⟨(), rfl, s'.res (List.nil_sublist _) (by simp)⟩
theorem Digest_s (n : Nat) (hn : n ≤ 256) (gh gc k : Nat) (hk : k ≤ 1000000000000) (h : Zh) (t : Tr) (p : Option Addr) [ht : TrZ n h t p] : Spec Tryz.prog 43 [.pointer (some ⟨gh, 0, none⟩), .pointer p].toArray [HR gh gc n, .zone false h, TBL] [CN gc k] (fun _ : Unit => .agg (dgT n t).cells.toArray) (fun _ => [CN gc (k + if t.kind = 0 then 1 else 0)]) := by
 have ho := ht.ok
 rcases t with _ | ⟨kk, b⟩ | ⟨l, r⟩
 ·obtain rfl : p = none := ho
  refine spec_of Tryz.func43 rfl (n := 14) rfl rfl ?_
  intro W
  refine yR ?_
  refine h_opX (x_alloc) fun g4 => ?_
  refine yN ?_
  refine h_seq ?_
  refine yR ?_
  refine yM rfl ?_
  refine h_op (r_nilR rfl rfl) ?_
  refine yN ?_
  refine h_condT rfl ?_
  refine yR ?_
  refine yM rfl ?_
  refine h_call (pEmpty_s.comes) rfl rfl rfl fun ⟨g8, c8⟩ => ?_
  dsimp only
  refine h_call ((HSum_s n hn gh gc k hk preE (some ⟨g8, 0, none⟩) c8 (fun h => by cases h) (by decide)).comes) rfl rfl rfl fun _ => ?_
  refine h_opS (s_storer rfl rfl) ?_
  refine yN ?_
  refine h_ret ?_
  refine q_thenR ?_
  exact h_ret1 rfl (rv_row rfl) fun w s => ⟨(), rfl, (same (L' := [CN gc (k + 1)]) w s).res (List.Sublist.refl _) (by simp [Fa.wr])⟩
 ·obtain ⟨g, s, rfl, hr, hs⟩ := ho
  refine spec_of Tryz.func43 rfl (n := 14) rfl rfl ?_
  intro W
  refine yR ?_
  refine h_opX (x_alloc) fun g4 => ?_
  refine yN ?_
  refine h_seq ?_
  refine yR ?_
  refine yM rfl ?_
  refine h_op (r_nilR rfl rfl) ?_
  refine yN ?_
  refine h_condF rfl ?_
  refine h_skip ?_
  refine q_then ?_
  refine yR ?_
  refine yM rfl ?_
  refine h_op (r_nilc rfl) ?_
  refine h_op (r_field rfl) ?_
  refine h_op (r_loadr rfl) ?_
  refine h_opS (s_storer rfl rfl) ?_
  refine yN ?_
  refine h_ret ?_
  exact h_ret1 rfl (rv_row rfl) fun w s => ⟨(), rfl, (same (L' := [CN gc k]) w s).res (List.Sublist.refl _) (by simp [Fa.wr])⟩
 ·obtain ⟨g, pl, pr, rfl, hr, hl, hr2⟩ := ho
  refine spec_of Tryz.func43 rfl (n := 14) rfl rfl ?_
  intro W
  refine yR ?_
  refine h_opX (x_alloc) fun g4 => ?_
  refine yN ?_
  refine h_seq ?_
  refine yR ?_
  refine yM rfl ?_
  refine h_op (r_nilR rfl rfl) ?_
  refine yN ?_
  refine h_condF rfl ?_
  refine h_skip ?_
  refine q_then ?_
  refine yR ?_
  refine yM rfl ?_
  refine h_op (r_nilc rfl) ?_
  refine h_op (r_field rfl) ?_
  refine h_op (r_loadr rfl) ?_
  refine h_opS (s_storer rfl rfl) ?_
  refine yN ?_
  refine h_ret ?_
  exact h_ret1 rfl (rv_row rfl) fun w s => ⟨(), rfl, (same (L' := [CN gc k]) w s).res (List.Sublist.refl _) (by simp [Fa.wr])⟩
end Go.Proofs.YtjhlbbgikccclaaGreatDoor
/- U34 -/
namespace Go.Proofs.YtjhlbbgikccclaaGreatDoor
open Go.RowKit
theorem Clone_s (l : List UInt8) (B : Option Addr) (c : Nat) (hB : B = none → l.length = 0 ∧ c = 0) (hl : l.length ≤ 1000000000) : Spec Tryz.prog 161 [.slice B l.length c].toArray [.rd B (bc l)] [] (fun u : Option Addr × Nat => .slice u.1 l.length u.2) (fun u => [.own (.slice u.1 l.length u.2) l.length 5 1 (bc l)]) := by
 refine spec_of Tryz.func161 rfl (n := 8) rfl rfl ?_
 intro W
 rcases B with _ | B
 ·obtain ⟨h1, h2⟩ := hB rfl
  obtain rfl : l = [] := List.eq_nil_of_length_eq_zero h1
  refine yR ?_
  refine yS rfl ?_
  refine yN ?_
  refine h_seq ?_
  refine yR ?_
  refine yM rfl ?_
  refine h_op (r_slnil rfl rfl) ?_
  refine yN ?_
  refine h_condT rfl ?_
  refine yR ?_
  refine yS rfl ?_
  refine yN ?_
  refine h_ret ?_
  refine q_thenR ?_
  refine h_nil_own 5 1 (xs := bc []) rfl ?_
  exact h_ret1 rfl rfl fun w s => ⟨(none, 0), rfl, (same w s).res (List.Sublist.refl _) (by simp [Fa.wr])⟩
 ·refine h_seq ?_
  refine h_reg ?_
  refine yS rfl ?_
  refine yN ?_
  refine h_seq ?_
  refine yR ?_
  refine yM rfl ?_
  refine h_op (r_slnil rfl rfl) ?_
  refine yN ?_
  refine h_condF rfl ?_
  refine h_skip ?_
  refine q_then ?_
  refine yR ?_
  refine h_opX (x_bsl0 (xs := bc [])) fun g5 => ?_
  refine yM rfl ?_
  refine h_opX (x_appAB rfl rfl hB rfl (hN := Nat.zero_add _)) fun ⟨A7, c7⟩ => ?_
  refine yS rfl ?_
  refine yN ?_
  refine h_ret ?_
  rw [List.nil_append]
  exact h_ret1 rfl rfl fun w s => ⟨(A7, c7), rfl, (same w s).res (List.Sublist.refl _) (by simp [Fa.wr])⟩
theorem pValue_s (l : List UInt8) (B : Option Addr) (c : Nat) (hB : B = none → l.length = 0 ∧ c = 0) (hl : l.length ≤ 100000000) : Spec Tryz.prog 129 [.slice B l.length c].toArray [.rd B (bc l)] [] (fun u : Nat × Nat => .slice (some ⟨u.1, 0, none⟩) (preV l).length u.2) (fun u => [.own (.slice (some ⟨u.1, 0, none⟩) (preV l).length u.2) (preV l).length 5 1 (bc (preV l))]) := by
 have hseg : (2 : UInt8) :: segB [(B, c, l)] = preV l := by simp [segB, preV]
 refine spec_of Tryz.func129 rfl (n := 6) rfl rfl ?_
 intro W
 refine yR ?_
 refine yS rfl ?_
 refine yN ?_
 refine yR ?_
 refine yM rfl ?_
 refine h_opX (x_bslV (ys := [.slice B l.length c]) (svs [(B, c, l)]) rfl rfl (svs_one _)) fun g4 => ?_
 refine h_call ((build_s 2 [(B, c, l)] (some ⟨g4, 0, none⟩) 1 (by simpa using hB) (by simp [segN]; omega)).comes) rfl rfl rfl fun ⟨g8, c8⟩ => ?_
 dsimp only
 rw [hseg]
 refine yS rfl ?_
 refine yN ?_
 refine h_ret ?_
 exact h_ret1 rfl rfl fun w s => ⟨(g8, c8), rfl, (same w s).res (List.Sublist.refl _) (by simp [Fa.wr])⟩
theorem LeafOf_s (n : Nat) (hn : n ≤ 256) (gh gc k : Nat) (hk : k ≤ 1000000000000) (key : B32) (l : List UInt8) (B : Option Addr) (c : Nat) (hB : B = none → l.length = 0 ∧ c = 0) (hl : l.length ≤ 100000000) : Spec Tryz.prog 245 [.pointer (some ⟨gh, 0, none⟩), .agg key.cells.toArray, .slice B l.length c].toArray [HR gh gc n, .rd B (bc l), TBL] [CN gc k] (fun _ : Unit => .agg (leafOf n key l).cells.toArray) (fun _ => [CN gc (k + 1)]) := by
 have hpl : (preV l).length = l.length + 1 := rfl
 refine spec_of Tryz.func245 rfl (n := 13) rfl rfl ?_
 intro W
 refine yR ?_
 refine h_opX (x_box rfl) fun g4 => ?_
 refine h_opX (x_alloc) fun g6 => ?_
 refine yN ?_
 refine h_seq ?_
 refine ha_start [.blk g4 key.cells 34] [] mixed (same) ?_
 refine ha_take 0 rfl (r_loadr rfl) ?_
 refine ha_takeP 1 rfl (r_move rfl) ?_
 refine ha_takeP 2 rfl (r_move rfl) ?_
 refine ha_one 3 ?_
 refine ho_C 3 rfl ((pValue_s l B c hB hl).comes) rfl rfl rfl (fun xx => same) fun ⟨g10, c10⟩ => ?_
 refine ha_one 4 ?_
 refine ho_C 4 rfl ((HSum_s n hn gh gc k hk (preV l) (some ⟨g10, 0, none⟩) c10 (fun h => by cases h) (by omega)).comes) rfl rfl rfl (fun xx => same) fun _ => ?_
 refine ha_takeP 5 rfl (r_build rfl) ?_
 refine ha_one 6 ?_
 refine ho_SL 6 rfl (s_storer rfl rfl) ?_
 refine q_then ?_
 refine h_ret ?_
 exact h_ret1 rfl (rv_row rfl) fun w s => ⟨(), rfl, (same w s).res (List.Sublist.refl _) (by simp [Fa.wr])⟩
theorem lpre_s (x : NLeaf) : Spec Tryz.prog 316 [.agg x.cells.toArray].toArray [] [] (fun u : Nat × Nat => .slice (some ⟨u.1, 0, none⟩) (preL x.leaf).length u.2) (fun u => [.own (.slice (some ⟨u.1, 0, none⟩) (preL x.leaf).length u.2) (preL x.leaf).length 5 1 (bc (preL x.leaf))]) := by
 refine spec_of Tryz.func316 rfl (n := 6) rfl rfl ?_
 intro W
 refine yR ?_
 refine h_opX (x_box rfl) fun g1 => ?_
 refine yS rfl ?_
 refine yN ?_
 refine yR ?_
 refine h_op (r_field rfl) ?_
 refine h_op (r_loadr rfl) ?_
 refine h_call ((pLeaf_s x.leaf).comes) rfl rfl rfl fun ⟨g5, c5⟩ => ?_
 refine yS rfl ?_
 refine yN ?_
 refine h_ret ?_
 exact h_ret1 rfl rfl fun w s => ⟨(g5, c5), rfl, (same w s).res (List.Sublist.refl _) (by simp [Fa.wr])⟩
theorem ipre_s (x : NInner) : Spec Tryz.prog 310 [.agg x.cells.toArray].toArray [] [] (fun u : Nat × Nat => .slice (some ⟨u.1, 0, none⟩) (preN x.dl x.dr).length u.2) (fun u => [.own (.slice (some ⟨u.1, 0, none⟩) (preN x.dl x.dr).length u.2) (preN x.dl x.dr).length 5 1 (bc (preN x.dl x.dr))]) := by
 refine spec_of Tryz.func310 rfl (n := 10) rfl rfl ?_
 intro W
 refine yR ?_
 refine h_opX (x_box rfl) fun g1 => ?_
 refine yS rfl ?_
 refine yN ?_
 refine yR ?_
 refine h_op (r_field rfl) ?_
 refine h_op (r_idxA rfl rfl) ?_
 refine h_op (r_loadr rfl) ?_
 refine h_op (r_field rfl) ?_
 refine h_op (r_idxA rfl rfl) ?_
 refine h_op (r_loadr rfl) ?_
 refine h_call ((pNode_s x.dl x.dr).comes) rfl rfl rfl fun ⟨g9, c9⟩ => ?_
 refine yS rfl ?_
 refine yN ?_
 refine h_ret ?_
 exact h_ret1 rfl rfl fun w s => ⟨(g9, c9), rfl, (same w s).res (List.Sublist.refl _) (by simp [Fa.wr])⟩
theorem with_s (n : Nat) (hn : n ≤ 256) (gh gc k : Nat) (hk : k ≤ 1000000000000) (T f : Nat) (u : Value) (pre : List UInt8) [MethT Tryz.prog T "sparsetree/node.preimage" f] [Ent Tryz.prog f] (hp : pre.length ≤ 1000000000)
  (hm : Spec Tryz.prog f [u].toArray [] [] (fun u : Nat × Nat => .slice (some ⟨u.1, 0, none⟩) pre.length u.2) (fun u => [.own (.slice (some ⟨u.1, 0, none⟩) pre.length u.2) pre.length 5 1 (bc pre)])) :
  Spec Tryz.prog 244 [.pointer (some ⟨gh, 0, none⟩), .iface T u].toArray [HR gh gc n, TBL] [CN gc k] (fun g : Nat => .pointer (some ⟨g, 0, none⟩)) (fun g => [.blk g (Nd.cells ⟨.iface T u, sumB n pre⟩) 177, CN gc (k + 1)]) := by
 refine spec_of Tryz.func244 rfl (n := 12) rfl rfl ?_
 intro W
 refine yR ?_
 refine yS rfl ?_
 refine yN ?_
 refine yR ?_
 refine yM rfl ?_
 refine yM rfl ?_
 refine yM rfl ?_
 refine h_callM (hm.comes) rfl rfl rfl fun ⟨g8, c8⟩ => ?_
 refine h_call ((HSum_s n hn gh gc k hk pre (some ⟨g8, 0, none⟩) c8 (fun h => by cases h) (by omega)).comes) rfl rfl rfl fun _ => ?_
 refine h_op (r_build rfl) ?_
 refine h_opX (x_box rfl) fun g11 => ?_
 refine yS rfl ?_
 refine yN ?_
 refine h_ret ?_
 exact h_ret1 rfl rfl fun w s => ⟨g11, rfl, (same w s).res (List.Sublist.refl _) (by simp [Fa.wr])⟩
theorem NewLeaf_s (n : Nat) (hn : n ≤ 256) (gh gc k : Nat) (hk : k ≤ 100000000000) (h : Zh) [ht : RdZ h (some ⟨1, 0, none⟩) hashT] (key : B32) (s : Sl) (b : List UInt8) [hs : SlZ h s b] (hb : b.length ≤ 100000000) :
  Spec Tryz.prog 172 [.pointer (some ⟨gh, 0, none⟩), .agg (Entry.cells ⟨key, s⟩).toArray].toArray [HR gh gc n] [.zone true h, CN gc k] (fun x : {x : Zh × Option Addr // LeZ h x.1 ∧ TrZ n x.1 (.leaf key b) x.2} => .pointer x.1.2) (fun x => [.zone true x.1.1, CN gc (k + 2)]) := by
 obtain ⟨B, N, c⟩ := s
 obtain rfl : N = b.length := hs.len
 have hB : B = none → b.length = 0 ∧ c = 0 := hs.nil
 have hrd : RdZ h B (bc b) := hs.rd
 refine spec_of Tryz.func172 rfl (n := 18) rfl rfl ?_
 intro W
 refine yR ?_
 refine h_opX (x_box rfl) fun g3 => ?_
 refine yS rfl ?_
 refine yN ?_
 refine h_seq ?_
 refine ha_start [.blk g3 (Entry.cells ⟨key, ⟨B, b.length, c⟩⟩) 89] [] mixed (same) ?_
 refine ha_takeP 0 rfl (r_move rfl) ?_
 refine ha_takeP 1 rfl (r_move rfl) ?_
 refine ha_takeP 2 rfl (r_field rfl) ?_
 refine ha_take 3 rfl (r_loadr rfl) ?_
 refine ha_takeP 4 rfl (r_field rfl) ?_
 refine ha_take 5 rfl (r_loadc rfl) ?_
 refine ha_takeP 7 rfl (r_field rfl) ?_
 refine ha_take 8 rfl (r_loadc rfl) ?_
 refine ha_one 6 ?_
 refine ho_C 6 rfl ((LeafOf_s n hn gh gc k (by omega) key b B c hB hb).comes) rfl rfl rfl (fun xx => same) fun _ => ?_
 refine ha_one 9 ?_
 refine ho_C 9 rfl ((Clone_s b B c hB (by omega)).comes) rfl rfl rfl (fun xx => same) fun ⟨A14, c14⟩ => ?_
 refine ha_takeP 10 rfl (r_build rfl) ?_
 refine ha_takeP 11 rfl (r_mkI rfl) ?_
 refine ha_one 12 ?_
 refine ho_C 12 rfl ((with_s n hn gh gc (k + 1) (by omega) 281 316 (.agg (NLeaf.cells ⟨leafOf n key b, ⟨A14, b.length, c14⟩⟩).toArray) (preL (leafOf n key b)) (by rw [preL_len]; decide) (lpre_s ⟨leafOf n key b, ⟨A14, b.length, c14⟩⟩)).comes) rfl rfl rfl (fun xx => same) fun g17 => ?_
 refine ha_takeP 13 rfl (r_assign rfl) ?_
 refine ha_done (by kernel_rfl) ?_
 refine q_then ?_
 dsimp only
 refine h_freezeO (.slice A14 b.length c14) fun h1 B1 c1 e1 hle1 hlen1 hnil1 hz1 hr1 => ?_
 injection e1 with e1 _ e2
 subst e1 e2
 refine h_freeze g17 fun h2 hz2 hr2 => ?_
 refine h_ret ?_
 exact h_ret1 rfl rfl fun w s => ⟨⟨(h2, some ⟨g17, 0, none⟩), hz1.trans hz2, ⟨g17, ⟨A14, b.length, c14⟩, rfl, hr2, ⟨rfl, hle1, hnil1, hr1.mono hz2⟩⟩⟩, rfl, (same w s).res (List.Sublist.refl _) (by simp [Fa.wr])⟩
end Go.Proofs.YtjhlbbgikccclaaGreatDoor
/- U35 -/
namespace Go.Proofs.YtjhlbbgikccclaaGreatDoor
open Go.RowKit
def joinT (l r : Tr) : Tr := if l.kind = 0 ∧ r.kind ≠ 2 then r else if r.kind = 0 ∧ l.kind ≠ 2 then l else .node l r
def joinC (l r : Tr) : Nat := if l.kind = 0 ∧ r.kind ≠ 2 then 0 else if r.kind = 0 ∧ l.kind ≠ 2 then 0 else (if l.kind = 0 then 1 else 0) + (if r.kind = 0 then 1 else 0) + 1
theorem i01 (p : Prop) [Decidable p] : (if p then 1 else 0 : Nat) ≤ 1 := by split <;> omega
theorem joinC_le (l r : Tr) : joinC l r ≤ 3 := by
 unfold joinC
 repeat' split
 all_goals omega
theorem trZ_none {n : Nat} {h : Zh} {t : Tr} {p : Option Addr} (x : trZ n h t p) : p.isNone = decide (t.kind = 0) := by
 rcases t with _ | ⟨kk, b⟩ | ⟨l, r⟩
 ·obtain rfl : p = none := x
  rfl
 ·obtain ⟨g, s, rfl, _⟩ := x
  rfl
 ·obtain ⟨g, pl, pr, rfl, _⟩ := x
  rfl
theorem Join_s (n : Nat) (hn : n ≤ 256) (gh gc k : Nat) (hk : k ≤ 100000000000) (h : Zh) [ht : RdZ h (some ⟨1, 0, none⟩) hashT] (l r : Tr) (pl pr : Option Addr) [hl : TrZ n h l pl] [hr : TrZ n h r pr] (hct : l.cnt + r.cnt ≤ 1000000000000) :
  Spec Tryz.prog 175 [.pointer (some ⟨gh, 0, none⟩), .pointer pl, .pointer pr].toArray [HR gh gc n] [.zone true h, CN gc k] (fun x : {x : Zh × Option Addr // LeZ h x.1 ∧ TrZ n x.1 (joinT l r) x.2} => .pointer x.1.2) (fun x => [.zone true x.1.1, CN gc (k + joinC l r)]) := by
 have el := trZ_none hl.ok
 have er := trZ_none hr.ok
 refine spec_of Tryz.func175 rfl (n := 44) rfl rfl ?_
 intro W
 by_cases h1 : l.kind = 0
 ·by_cases h2 : r.kind = 2
  ·have hj : joinT l r = .node l r := by unfold joinT; rw [if_neg (by omega), if_neg (by omega)]
   have hc : k + joinC l r = k + (if l.kind = 0 then 1 else 0) + (if r.kind = 0 then 1 else 0) + 1 := by unfold joinC; rw [if_neg (by omega), if_neg (by omega)]; omega
   refine yR ?_
   refine yS rfl ?_
   refine yN ?_
   refine h_seq ?_
   refine yR ?_
   refine yM rfl ?_
   refine h_op (r_bool (r_nilR rfl rfl) (el.trans (decide_eq_true h1))) ?_
   refine yM rfl ?_
   refine yM rfl ?_
   refine h_call ((Kind_s n h r pr).comes) rfl rfl rfl fun _ => ?_
   refine h_op (r_bool (r_neq rfl rfl) (decide_eq_false (fun e => e (by omega)))) ?_
   refine h_op (r_pick rfl rfl) ?_
   refine yN ?_
   refine h_condF rfl ?_
   refine h_skip ?_
   refine q_then ?_
   refine h_seq ?_
   refine yR ?_
   refine yM rfl ?_
   refine h_op (r_bool (r_nilR rfl rfl) (er.trans (decide_eq_false (by omega)))) ?_
   refine yM rfl ?_
   refine h_opOff ?_
   refine h_opOff ?_
   refine h_opOff ?_
   refine h_op (r_pick rfl rfl) ?_
   refine yN ?_
   refine h_condF rfl ?_
   refine h_skip ?_
   refine q_then ?_
   refine yR ?_
   refine yM rfl ?_
   refine yM rfl ?_
   refine h_op (r_build rfl) ?_
   refine h_opX (x_alloc) fun g7 => ?_
   refine h_opS (s_storer rfl rfl) ?_
   refine yN ?_
   refine h_seq ?_
   refine ha_start [.blk g7 [.pointer pl, .pointer pr] 178] [] mixed (same) ?_
   refine ha_takeP 0 rfl (r_move rfl) ?_
   refine ha_take 1 rfl (r_loadr rfl) ?_
   refine ha_takeP 2 rfl (r_move rfl) ?_
   refine ha_takeP 3 rfl (r_move rfl) ?_
   refine ha_takeP 5 rfl (r_move rfl) ?_
   refine ha_takeP 6 rfl (r_move rfl) ?_
   refine ha_takeP 9 rfl (r_move rfl) ?_
   refine ha_takeP 11 rfl (r_move rfl) ?_
   refine ha_one 4 ?_
   refine ho_C 4 rfl ((Digest_s n hn gh gc k (by omega) h l pl).comes) rfl rfl rfl (fun xx => same) fun _ => ?_
   refine ha_one 7 ?_
   refine ho_C 7 rfl ((Digest_s n hn gh gc (k + if l.kind = 0 then 1 else 0) (by have := i01 (l.kind = 0); omega) h r pr).comes) rfl rfl rfl (fun xx => same) fun _ => ?_
   refine ha_takeP 8 rfl (r_build rfl) ?_
   refine ha_one 10 ?_
   refine ho_C 10 rfl ((NLen_s n h l pl).comes) rfl rfl rfl (fun xx => same) fun _ => ?_
   refine ha_one 12 ?_
   refine ho_C 12 rfl ((NLen_s n h r pr).comes) rfl rfl rfl (fun xx => same) fun _ => ?_
   refine ha_takeP 13 rfl (r_int (r_add rfl rfl) (show _ = ((l.cnt + r.cnt : Nat) : Int) by omega)) ?_
   refine ha_takeP 14 rfl (r_build rfl) ?_
   refine ha_takeP 15 rfl (r_mkI rfl) ?_
   refine ha_one 16 ?_
   refine ho_C 16 rfl ((with_s n hn gh gc (k + (if l.kind = 0 then 1 else 0) + if r.kind = 0 then 1 else 0) (by have := i01 (l.kind = 0); have := i01 (r.kind = 0); omega) 181 310 (.agg (NInner.cells ⟨pl, pr, dgT n l, dgT n r, ((l.cnt + r.cnt : Nat) : Int)⟩).toArray) (preN (dgT n l) (dgT n r)) (by rw [preN_len]; decide) (ipre_s ⟨pl, pr, dgT n l, dgT n r, ((l.cnt + r.cnt : Nat) : Int)⟩)).comes) rfl rfl rfl (fun xx => same) fun g43 => ?_
   refine ha_takeP 17 rfl (r_assign rfl) ?_
   refine ha_done (by kernel_rfl) ?_
   refine q_then ?_
   dsimp only
   refine h_freeze g43 fun h2 hz2 hr2 => ?_
   refine h_ret ?_
   exact h_ret1 rfl rfl fun w s => ⟨⟨(h2, some ⟨g43, 0, none⟩), hz2, by rw [hj]; exact ⟨g43, pl, pr, rfl, hr2, hl.ok.mono hz2, hr.ok.mono hz2⟩⟩, rfl, by rw [hc]; exact (same w s).res (List.Sublist.refl _) (by simp [Fa.wr])⟩
  ·have hj : joinT l r = r := by unfold joinT; rw [if_pos ⟨h1, h2⟩]
   have hc : joinC l r = 0 := by unfold joinC; rw [if_pos ⟨h1, h2⟩]
   refine yR ?_
   refine yS rfl ?_
   refine yN ?_
   refine h_seq ?_
   refine yR ?_
   refine yM rfl ?_
   refine h_op (r_bool (r_nilR rfl rfl) (el.trans (decide_eq_true h1))) ?_
   refine yM rfl ?_
   refine yM rfl ?_
   refine h_call ((Kind_s n h r pr).comes) rfl rfl rfl fun _ => ?_
   refine h_op (r_bool (r_neq rfl rfl) (decide_eq_true (by omega))) ?_
   refine h_op (r_pick rfl rfl) ?_
   refine yN ?_
   refine h_condT rfl ?_
   refine yR ?_
   refine yM rfl ?_
   refine yS rfl ?_
   refine yN ?_
   refine h_ret ?_
   refine q_thenR ?_
   exact h_ret1 rfl rfl fun w s => ⟨⟨(h, pr), LeZ.refl h, by rw [hj]; exact hr⟩, rfl, by rw [hc]; exact (same w s).res (List.Sublist.refl _) (by simp [Fa.wr])⟩
 ·by_cases h2 : r.kind = 0
  ·by_cases h3 : l.kind = 2
   ·have hj : joinT l r = .node l r := by unfold joinT; rw [if_neg (by omega), if_neg (by omega)]
    have hc : k + joinC l r = k + (if l.kind = 0 then 1 else 0) + (if r.kind = 0 then 1 else 0) + 1 := by unfold joinC; rw [if_neg (by omega), if_neg (by omega)]; omega
    refine yR ?_
    refine yS rfl ?_
    refine yN ?_
    refine h_seq ?_
    refine yR ?_
    refine yM rfl ?_
    refine h_op (r_bool (r_nilR rfl rfl) (el.trans (decide_eq_false h1))) ?_
    refine yM rfl ?_
    refine h_opOff ?_
    refine h_opOff ?_
    refine h_opOff ?_
    refine h_op (r_pick rfl rfl) ?_
    refine yN ?_
    refine h_condF rfl ?_
    refine h_skip ?_
    refine q_then ?_
    refine h_seq ?_
    refine yR ?_
    refine yM rfl ?_
    refine h_op (r_bool (r_nilR rfl rfl) (er.trans (decide_eq_true h2))) ?_
    refine yM rfl ?_
    refine yM rfl ?_
    refine h_call ((Kind_s n h l pl).comes) rfl rfl rfl fun _ => ?_
    refine h_op (r_bool (r_neq rfl rfl) (decide_eq_false (fun e => e (by omega)))) ?_
    refine h_op (r_pick rfl rfl) ?_
    refine yN ?_
    refine h_condF rfl ?_
    refine h_skip ?_
    refine q_then ?_
    refine yR ?_
    refine yM rfl ?_
    refine yM rfl ?_
    refine h_op (r_build rfl) ?_
    refine h_opX (x_alloc) fun g7 => ?_
    refine h_opS (s_storer rfl rfl) ?_
    refine yN ?_
    refine h_seq ?_
    refine ha_start [.blk g7 [.pointer pl, .pointer pr] 178] [] mixed (same) ?_
    refine ha_takeP 0 rfl (r_move rfl) ?_
    refine ha_take 1 rfl (r_loadr rfl) ?_
    refine ha_takeP 2 rfl (r_move rfl) ?_
    refine ha_takeP 3 rfl (r_move rfl) ?_
    refine ha_takeP 5 rfl (r_move rfl) ?_
    refine ha_takeP 6 rfl (r_move rfl) ?_
    refine ha_takeP 9 rfl (r_move rfl) ?_
    refine ha_takeP 11 rfl (r_move rfl) ?_
    refine ha_one 4 ?_
    refine ho_C 4 rfl ((Digest_s n hn gh gc k (by omega) h l pl).comes) rfl rfl rfl (fun xx => same) fun _ => ?_
    refine ha_one 7 ?_
    refine ho_C 7 rfl ((Digest_s n hn gh gc (k + if l.kind = 0 then 1 else 0) (by have := i01 (l.kind = 0); omega) h r pr).comes) rfl rfl rfl (fun xx => same) fun _ => ?_
    refine ha_takeP 8 rfl (r_build rfl) ?_
    refine ha_one 10 ?_
    refine ho_C 10 rfl ((NLen_s n h l pl).comes) rfl rfl rfl (fun xx => same) fun _ => ?_
    refine ha_one 12 ?_
    refine ho_C 12 rfl ((NLen_s n h r pr).comes) rfl rfl rfl (fun xx => same) fun _ => ?_
    refine ha_takeP 13 rfl (r_int (r_add rfl rfl) (show _ = ((l.cnt + r.cnt : Nat) : Int) by omega)) ?_
    refine ha_takeP 14 rfl (r_build rfl) ?_
    refine ha_takeP 15 rfl (r_mkI rfl) ?_
    refine ha_one 16 ?_
    refine ho_C 16 rfl ((with_s n hn gh gc (k + (if l.kind = 0 then 1 else 0) + if r.kind = 0 then 1 else 0) (by have := i01 (l.kind = 0); have := i01 (r.kind = 0); omega) 181 310 (.agg (NInner.cells ⟨pl, pr, dgT n l, dgT n r, ((l.cnt + r.cnt : Nat) : Int)⟩).toArray) (preN (dgT n l) (dgT n r)) (by rw [preN_len]; decide) (ipre_s ⟨pl, pr, dgT n l, dgT n r, ((l.cnt + r.cnt : Nat) : Int)⟩)).comes) rfl rfl rfl (fun xx => same) fun g43 => ?_
    refine ha_takeP 17 rfl (r_assign rfl) ?_
    refine ha_done (by kernel_rfl) ?_
    refine q_then ?_
    dsimp only
    refine h_freeze g43 fun h2 hz2 hr2 => ?_
    refine h_ret ?_
    exact h_ret1 rfl rfl fun w s => ⟨⟨(h2, some ⟨g43, 0, none⟩), hz2, by rw [hj]; exact ⟨g43, pl, pr, rfl, hr2, hl.ok.mono hz2, hr.ok.mono hz2⟩⟩, rfl, by rw [hc]; exact (same w s).res (List.Sublist.refl _) (by simp [Fa.wr])⟩
   ·have hj : joinT l r = l := by unfold joinT; rw [if_neg (by omega), if_pos ⟨h2, h3⟩]
    have hc : joinC l r = 0 := by unfold joinC; rw [if_neg (by omega), if_pos ⟨h2, h3⟩]
    refine yR ?_
    refine yS rfl ?_
    refine yN ?_
    refine h_seq ?_
    refine yR ?_
    refine yM rfl ?_
    refine h_op (r_bool (r_nilR rfl rfl) (el.trans (decide_eq_false h1))) ?_
    refine yM rfl ?_
    refine h_opOff ?_
    refine h_opOff ?_
    refine h_opOff ?_
    refine h_op (r_pick rfl rfl) ?_
    refine yN ?_
    refine h_condF rfl ?_
    refine h_skip ?_
    refine q_then ?_
    refine h_seq ?_
    refine yR ?_
    refine yM rfl ?_
    refine h_op (r_bool (r_nilR rfl rfl) (er.trans (decide_eq_true h2))) ?_
    refine yM rfl ?_
    refine yM rfl ?_
    refine h_call ((Kind_s n h l pl).comes) rfl rfl rfl fun _ => ?_
    refine h_op (r_bool (r_neq rfl rfl) (decide_eq_true (by omega))) ?_
    refine h_op (r_pick rfl rfl) ?_
    refine yN ?_
    refine h_condT rfl ?_
    refine yR ?_
    refine yM rfl ?_
    refine yS rfl ?_
    refine yN ?_
    refine h_ret ?_
    refine q_thenR ?_
    exact h_ret1 rfl rfl fun w s => ⟨⟨(h, pl), LeZ.refl h, by rw [hj]; exact hl⟩, rfl, by rw [hc]; exact (same w s).res (List.Sublist.refl _) (by simp [Fa.wr])⟩
  ·have hj : joinT l r = .node l r := by unfold joinT; rw [if_neg (by omega), if_neg (by omega)]
   have hc : k + joinC l r = k + (if l.kind = 0 then 1 else 0) + (if r.kind = 0 then 1 else 0) + 1 := by unfold joinC; rw [if_neg (by omega), if_neg (by omega)]; omega
   refine yR ?_
   refine yS rfl ?_
   refine yN ?_
   refine h_seq ?_
   refine yR ?_
   refine yM rfl ?_
   refine h_op (r_bool (r_nilR rfl rfl) (el.trans (decide_eq_false h1))) ?_
   refine yM rfl ?_
   refine h_opOff ?_
   refine h_opOff ?_
   refine h_opOff ?_
   refine h_op (r_pick rfl rfl) ?_
   refine yN ?_
   refine h_condF rfl ?_
   refine h_skip ?_
   refine q_then ?_
   refine h_seq ?_
   refine yR ?_
   refine yM rfl ?_
   refine h_op (r_bool (r_nilR rfl rfl) (er.trans (decide_eq_false h2))) ?_
   refine yM rfl ?_
   refine h_opOff ?_
   refine h_opOff ?_
   refine h_opOff ?_
   refine h_op (r_pick rfl rfl) ?_
   refine yN ?_
   refine h_condF rfl ?_
   refine h_skip ?_
   refine q_then ?_
   refine yR ?_
   refine yM rfl ?_
   refine yM rfl ?_
   refine h_op (r_build rfl) ?_
   refine h_opX (x_alloc) fun g7 => ?_
   refine h_opS (s_storer rfl rfl) ?_
   refine yN ?_
   refine h_seq ?_
   refine ha_start [.blk g7 [.pointer pl, .pointer pr] 178] [] mixed (same) ?_
   refine ha_takeP 0 rfl (r_move rfl) ?_
   refine ha_take 1 rfl (r_loadr rfl) ?_
   refine ha_takeP 2 rfl (r_move rfl) ?_
   refine ha_takeP 3 rfl (r_move rfl) ?_
   refine ha_takeP 5 rfl (r_move rfl) ?_
   refine ha_takeP 6 rfl (r_move rfl) ?_
   refine ha_takeP 9 rfl (r_move rfl) ?_
   refine ha_takeP 11 rfl (r_move rfl) ?_
   refine ha_one 4 ?_
   refine ho_C 4 rfl ((Digest_s n hn gh gc k (by omega) h l pl).comes) rfl rfl rfl (fun xx => same) fun _ => ?_
   refine ha_one 7 ?_
   refine ho_C 7 rfl ((Digest_s n hn gh gc (k + if l.kind = 0 then 1 else 0) (by have := i01 (l.kind = 0); omega) h r pr).comes) rfl rfl rfl (fun xx => same) fun _ => ?_
   refine ha_takeP 8 rfl (r_build rfl) ?_
   refine ha_one 10 ?_
   refine ho_C 10 rfl ((NLen_s n h l pl).comes) rfl rfl rfl (fun xx => same) fun _ => ?_
   refine ha_one 12 ?_
   refine ho_C 12 rfl ((NLen_s n h r pr).comes) rfl rfl rfl (fun xx => same) fun _ => ?_
   refine ha_takeP 13 rfl (r_int (r_add rfl rfl) (show _ = ((l.cnt + r.cnt : Nat) : Int) by omega)) ?_
   refine ha_takeP 14 rfl (r_build rfl) ?_
   refine ha_takeP 15 rfl (r_mkI rfl) ?_
   refine ha_one 16 ?_
   refine ho_C 16 rfl ((with_s n hn gh gc (k + (if l.kind = 0 then 1 else 0) + if r.kind = 0 then 1 else 0) (by have := i01 (l.kind = 0); have := i01 (r.kind = 0); omega) 181 310 (.agg (NInner.cells ⟨pl, pr, dgT n l, dgT n r, ((l.cnt + r.cnt : Nat) : Int)⟩).toArray) (preN (dgT n l) (dgT n r)) (by rw [preN_len]; decide) (ipre_s ⟨pl, pr, dgT n l, dgT n r, ((l.cnt + r.cnt : Nat) : Int)⟩)).comes) rfl rfl rfl (fun xx => same) fun g43 => ?_
   refine ha_takeP 17 rfl (r_assign rfl) ?_
   refine ha_done (by kernel_rfl) ?_
   refine q_then ?_
   dsimp only
   refine h_freeze g43 fun h2 hz2 hr2 => ?_
   refine h_ret ?_
   exact h_ret1 rfl rfl fun w s => ⟨⟨(h2, some ⟨g43, 0, none⟩), hz2, by rw [hj]; exact ⟨g43, pl, pr, rfl, hr2, hl.ok.mono hz2, hr.ok.mono hz2⟩⟩, rfl, by rw [hc]; exact (same w s).res (List.Sublist.refl _) (by simp [Fa.wr])⟩
end Go.Proofs.YtjhlbbgikccclaaGreatDoor
/- U36 -/
namespace Go.Proofs.YtjhlbbgikccclaaGreatDoor
open Go.RowKit
theorem Child_s (n : Nat) (h : Zh) (t : Tr) (p : Option Addr) [ht : TrZ n h t p] (i : Int) (b : Bool) (hb : (i = 0) = (b = false)) : Spec Tryz.prog 155 [.pointer p, .int .i64 i].toArray [.zone false h] [] (fun _ : Unit => .pointer (subP h b p)) (fun _ => []) := by
 refine spec_of Tryz.func155 rfl (n := 11) rfl rfl ?_
 intro W
 refine yR ?_
 refine yS rfl ?_
 refine yN ?_
 refine h_seq ?_
 refine yR ?_
 refine yM rfl ?_
 refine h_op (r_eql rfl rfl) ?_
 refine yN ?_
 refine h_cond rfl (fun h1 => ?_) (fun h1 => ?_)
 ·obtain rfl : b = false := hb.mp h1
  refine yR ?_
  refine yM rfl ?_
  refine h_call ((Left_s n h t p).comes) rfl rfl rfl fun _ => ?_
  refine yS rfl ?_
  refine yN ?_
  refine h_ret ?_
  refine q_thenR ?_
  exact h_ret1 rfl rfl fun w s => ⟨(), rfl, s.res (List.nil_sublist _) (by simp)⟩
 ·obtain rfl : b = true := by cases b <;> simp_all
  refine h_skip ?_
  refine q_then ?_
  refine yR ?_
  refine yM rfl ?_
  refine h_call ((Right_s n h t p).comes) rfl rfl rfl fun _ => ?_
  refine yS rfl ?_
  refine yN ?_
  refine h_ret ?_
  exact h_ret1 rfl rfl fun w s => ⟨(), rfl, s.res (List.nil_sublist _) (by simp)⟩
theorem bitN_zero (b : B32) (i : Nat) : (((bitN b i : Nat) : Int) = 0) = (bitAt b i = false) := by
 unfold bitN
 cases bitAt b i <;> simp
theorem bitN_not (b : B32) (i : Nat) : ((1 - ((bitN b i : Nat) : Int)) = 0) = ((!bitAt b i) = false) := by
 unfold bitN
 cases bitAt b i <;> simp
theorem way_s (p : Option Addr) (key : B32) : Spec Tryz.prog 153 [.pointer p, .agg key.cells.toArray].toArray [] [] (fun u : Nat × Nat => .func (.func 228) #[] [.pointer (some ⟨u.1, 0, none⟩), .pointer (some ⟨u.2, 0, none⟩)].toArray) (fun u => [.blk u.1 [.pointer p] 31, .blk u.2 key.cells 34]) := by
 refine spec_of Tryz.func153 rfl (n := 6) rfl rfl ?_
 intro W
 refine yR ?_
 refine h_opX (x_box1 rfl) fun g2 => ?_
 refine h_opX (x_box rfl) fun g3 => ?_
 refine yS rfl ?_
 refine yN ?_
 refine yR ?_
 refine h_op (r_func rfl rfl) ?_
 refine yS rfl ?_
 refine yN ?_
 refine h_ret ?_
 exact h_ret1 rfl rfl fun w s => ⟨(g2, g3), rfl, (same w s).res (List.Sublist.refl _) (by simp [Fa.wr])⟩
theorem way_it (n : Nat) (h : Zh) (t : Tr) (p : Option Addr) [ht : TrZ n h t p] (key : B32) (D : Nat) (hD : WayTo key t D) (g1 g2 : Nat) : Iter Tryz.prog 228 [.pointer (some ⟨g1, 0, none⟩), .pointer (some ⟨g2, 0, none⟩)] [.rd (some ⟨g2, 0, none⟩) key.cells, .zone false h] [.blk g1 [.pointer p] 31] (List.range (D + 1)) (fun i => [.int .i64 (i : Int), .pointer (wayQ h key p i)]) [.blk g1 [.pointer (wayQ h key p D)] 31] := by
 have hle := hD.le
 refine iter_of Tryz.func228 rfl (n := 21) rfl rfl ?_
 intro l J Rm m0 W hJw hRm hy h0
 refine yR ?_
 refine yS rfl ?_
 refine yN ?_
 refine h_block ?_
 refine h_loop (fun (s : Nat × List Fa) => s.1 ≤ D ∧ J (List.range s.1) s.2) (fun (s : Nat × List Fa) => [(4, .int .i64 (s.1 : Int)), (0, .func (.yield l) #[] #[]), (1, .pointer (some ⟨g1, 0, none⟩)), (2, .pointer (some ⟨g2, 0, none⟩))]) (fun (s : Nat × List Fa) => .blk g1 [.pointer (wayQ h key p s.1)] 31 :: .rd (some ⟨g2, 0, none⟩) key.cells :: .zone false h :: (s.2 ++ Rm)) (fun (s : Nat × List Fa) => D + 1 - s.1) (0, m0) ((show 0 ≤ D ∧ J (List.range 0) m0 from ⟨by omega, h0⟩)) ⟨rfl, rfl, rfl, rfl, trivial⟩ (fun _ s => s) ?_
 rintro ⟨i, mm⟩ ⟨hi, hJ⟩
 dsimp only at hi hJ ⊢
 refine h_seq ?_
 refine yR ?_
 refine yM rfl ?_
 refine yM rfl ?_
 refine h_op (r_loadc rfl) ?_
 refine h_yield (hy _ _ _ _ (range_cut (m := D + 1) (i := i) (by omega)) hJ) hRm rfl rfl fun m' hJ' => ?_
 rw [← List.range_succ] at hJ'
 by_cases hk : (wayK key t i).kind = 2
 ·have hiD : i < D := by
   rcases Nat.lt_or_ge i D with h1 | h1
   ·exact h1
   ·obtain rfl : i = D := by omega
    exact (hD.end_ hk).elim
  refine yM rfl ?_
  refine h_op (r_loadc rfl) ?_
  refine h_call ((Kind_s n h (wayK key t i) (wayQ h key p i)).comes) rfl rfl rfl fun _ => ?_
  refine h_op (r_bool (r_eql rfl rfl) (decide_eq_true (by omega))) ?_
  refine h_op (r_pick rfl rfl) ?_
  refine yN ?_
  refine h_condT rfl ?_
  refine h_skip ?_
  refine q_then ?_
  refine h_seq ?_
  refine h_block ?_
  refine ha_start [.blk g1 [.pointer (wayQ h key p i)] 31, .rd (some ⟨g2, 0, none⟩) key.cells] [] mixed (same) ?_
  refine ha_take 0 rfl (r_loadc rfl) ?_
  refine ha_take 1 rfl (r_loadr rfl) ?_
  refine ha_takeP 2 rfl (r_move rfl) ?_
  refine ha_one 3 ?_
  refine ho_C 3 rfl ((Bit_s key i (by omega)).comes) rfl rfl rfl (fun xx => same) fun _ => ?_
  refine ha_one 4 ?_
  refine ho_C 4 rfl ((Child_s n h (wayK key t i) (wayQ h key p i) _ (bitAt key i) (bitN_zero key i)).comes) rfl rfl rfl (fun xx => same) fun _ => ?_
  refine ha_one 5 ?_
  refine ho_SL 5 rfl (s_store rfl rfl rfl) ?_
  refine q_block ?_
  refine q_then ?_
  refine h_reg ?_
  refine yM rfl ?_
  refine h_op (r_add rfl rfl) ?_
  refine yS rfl ?_
  refine h_nil ?_
  exact h_back (i + 1, m') ((show i + 1 ≤ D ∧ J (List.range (i + 1)) m' from ⟨by omega, hJ'⟩)) ((show D + 1 - (i + 1) < D + 1 - i by omega)) ⟨rfl, rfl, rfl, rfl, trivial⟩ (fun _ s => s)
 ·have hiD : i = D := by
   rcases Nat.lt_or_ge i D with h1 | h1
   ·exact (hk (hD.on i h1)).elim
   ·omega
  subst hiD
  refine yM rfl ?_
  refine h_op (r_loadc rfl) ?_
  refine h_call ((Kind_s n h (wayK key t i) (wayQ h key p i)).comes) rfl rfl rfl fun _ => ?_
  refine h_op (r_bool (r_eql rfl rfl) (decide_eq_false (by omega))) ?_
  refine h_op (r_pick rfl rfl) ?_
  refine yN ?_
  refine h_condF rfl ?_
  refine h_exit ?_
  refine q_thenE ?_
  refine q_thenE ?_
  refine q_blockE ?_
  refine h_end ?_
  exact h_ret0 rfl fun w s => ⟨_, m', rfl, hJ', s.res ((((List.sublist_append_left _ _).cons _).cons _).cons_cons _) (by
   intro f hf
   rcases List.mem_cons.1 hf with rfl | hf
   ·rfl
   ·exact hJw _ _ hJ' f hf)⟩
end Go.Proofs.YtjhlbbgikccclaaGreatDoor
/- U37 -/
namespace Go.Proofs.YtjhlbbgikccclaaGreatDoor
open Go.RowKit
def lastQ {α : Type} (f : Nat → α) (z : α) : Nat → α
 | 0 => z
 | k + 1 => f k
theorem Locate_s (n : Nat) (h : Zh) (t : Tr) (p : Option Addr) [ht : TrZ n h t p] (key : B32) (D : Nat) (hD : WayTo key t D) : Spec Tryz.prog 98 [.pointer p, .agg key.cells.toArray].toArray [.zone false h] [] (fun _ : Unit => .tuple #[.pointer (wayQ h key p D), .int .i64 (D : Int)]) (fun _ => []) := by
 have hle := hD.le
 refine spec_of Tryz.func98 rfl (n := 17) rfl rfl ?_
 intro W
 refine yR ?_
 refine h_opX (x_box rfl) fun g3 => ?_
 refine h_opX (x_alloc) fun g4 => ?_
 refine h_opX (x_alloc) fun g5 => ?_
 refine yN ?_
 refine h_seq ?_
 refine yR ?_
 refine yM rfl ?_
 refine h_op (r_loadr rfl) ?_
 refine h_call ((way_s p key).comes) rfl rfl rfl fun ⟨g1, g2⟩ => ?_
 dsimp only
 refine yN ?_
 refine h_block ?_
 change H _ _ _ _ _ (_ :: _ :: .blk g5 [.int .i64 ((0 - 1 : Nat) : Int)] _ :: .blk g4 [.pointer (lastQ (wayQ h key p) none 0)] _ :: _) _
 refine h_range (way_it n h t p key D hD g1 g2) rfl (fun pre mm => mm = [.blk g4 [.pointer (lastQ (wayQ h key p) none pre.length)] 31, .blk g5 [.int .i64 ((pre.length - 1 : Nat) : Int)] 3]) [.blk g4 [.pointer (lastQ (wayQ h key p) none 0)] 31, .blk g5 [.int .i64 ((0 - 1 : Nat) : Int)] 3] [] (by rintro pre mm rfl f hf; simp only [List.mem_cons, List.not_mem_nil, or_false] at hf; rcases hf with rfl | rfl <;> rfl) rfl rfl (fun _ => rfl) ?_ ?_
 ·intro ll rr pre i post mm W1 hr hrp hxs hJ
  subst hJ
  have hpre : pre = List.range i ∧ i < D + 1 := range_mid hxs
  obtain ⟨rfl, hi⟩ := hpre
  rw [List.length_range]
  simp only [List.nil_append, List.cons_append]
  refine yR ?_
  refine yS rfl ?_
  refine yN ?_
  refine h_reg ?_
  refine yS rfl ?_
  refine yN ?_
  refine h_begin hr ?_
  refine h_block ?_
  refine h_reg ?_
  refine yM rfl ?_
  refine yM rfl ?_
  refine h_opS (s_store rfl rfl rfl) ?_
  refine h_opS (s_store rfl rfl rfl) ?_
  refine h_nil ?_
  refine q_block ?_
  exact h_endround [.blk g4 [.pointer (wayQ h key p i)] 31, .blk g5 [.int .i64 (i : Int)] 3] hr hrp (by simp [lastQ]) (by intro f hf; simp only [List.mem_cons, List.not_mem_nil, or_false] at hf; rcases hf with rfl | rfl <;> rfl)
 ·intro bb mm hJ
  subst hJ
  rw [List.length_range]
  refine q_block ?_
  refine q_then ?_
  simp only [List.nil_append, List.cons_append]
  change H _ _ _ _ _ (_ :: .blk g4 [.pointer (wayQ h key p D)] _ :: .blk g5 [.int .i64 (D : Int)] _ :: _) _
  refine h_seq ?_
  refine ha_start [.blk g4 [.pointer (wayQ h key p D)] 31, .blk g5 [.int .i64 (D : Int)] 3] [] mixed (same) ?_
  refine ha_take 0 rfl (r_loadc rfl) ?_
  refine ha_take 1 rfl (r_loadc rfl) ?_
  refine ha_one 2 ?_
  refine ho_S 2 rfl (s_store rfl rfl rfl) (same) ?_
  refine ha_one 3 ?_
  refine ho_SL 3 rfl (s_store rfl rfl rfl) ?_
  refine q_then ?_
  refine h_ret ?_
  refine h_mark ?_
  exact h_ret2 rfl (rv_cell rfl) (rv_cell rfl) fun w s => ⟨(), rfl, s.res (List.nil_sublist _) (by simp)⟩
def sibK (key : B32) (t : Tr) (i : Nat) : Tr := (wayK key t i).sub (!bitAt key i)
def sibQ (h : Zh) (key : B32) (p : Option Addr) (i : Nat) : Option Addr := subP h (!bitAt key i) (wayQ h key p i)
def ptrs (l : List (Option Addr)) : List Value := l.map Value.pointer
theorem ptrs_get {l : List (Option Addr)} {k : Nat} {p : Option Addr} (h : l[k]? = some p) : (ptrs l)[k]? = some (.pointer p) := by simp [ptrs, h]
def sibL (h : Zh) (key : B32) (p : Option Addr) (D : Nat) : List (Option Addr) := (List.range D).map (sibQ h key p)
theorem sibL_len (h : Zh) (key : B32) (p : Option Addr) (D : Nat) : (sibL h key p D).length = D := by simp [sibL]
theorem sibL_at (h : Zh) (key : B32) (p : Option Addr) {D i : Nat} (hi : i < D) : (sibL h key p D)[i]? = some (sibQ h key p i) := by unfold sibL; rw [List.getElem?_map, List.getElem?_range hi]; rfl
theorem sibL_succ (h : Zh) (key : B32) (p : Option Addr) (i : Nat) : ptrs (sibL h key p i) ++ [.pointer (sibQ h key p i)] = ptrs (sibL h key p (i + 1)) := by unfold sibL ptrs; rw [List.range_succ, List.map_append, List.map_append]; rfl
def dsK (key : B32) (t : Tr) (D : Nat) : List Nat := (List.range D).filter fun i => decide ((sibK key t i).kind ≠ 0)
def prfK (n : Nat) (key : B32) (t : Tr) (D : Nat) (A : Option Addr) (c : Nat) : Proof := ⟨(((wayK key t D).kind : Nat) : Int), (D : Int), leafT n (wayK key t D), dset (dsK key t D), ⟨A, (dsK key t D).length, c⟩⟩
end Go.Proofs.YtjhlbbgikccclaaGreatDoor
/- U38 -/
namespace Go.Proofs.YtjhlbbgikccclaaGreatDoor
open Go.RowKit
def ents (l : List En) : List Value := l.flatMap fun e => e.e.cells
theorem ents_len (l : List En) : (ents l).length = l.length * 33 := by
 induction l with
 | nil => rfl
 | cons e l ih =>
  show (e.e.cells ++ ents l).length = _
  rw [List.length_append, ih, Entry.cells_length, List.length_cons]; omega
theorem ents_snoc (l : List En) (e : En) : ents l ++ e.e.cells = ents (l ++ [e]) := by unfold ents; rw [List.flatMap_append]; simp
theorem ents_at {l : List En} {k : Nat} {e : En} (h : l[k]? = some e) : ∀ j v, e.e.cells[j]? = some v → (ents l)[k * 33 + j]? = some v := by
 induction l generalizing k with
 | nil => cases h
 | cons x l ih =>
  intro j v hv
  show (x.e.cells ++ ents l)[k * 33 + j]? = some v
  cases k with
  | zero =>
   obtain rfl : x = e := by simpa using h
   rw [Nat.zero_mul, Nat.zero_add, List.getElem?_append_left (List.getElem?_eq_some_iff.1 hv).1]
   exact hv
  | succ k =>
   rw [List.getElem?_append_right (by rw [Entry.cells_length]; omega), Entry.cells_length, show (k + 1) * 33 + j - 33 = k * 33 + j by omega]
   exact ih (by simpa using h) j v hv
theorem ents_key {l : List En} {k : Nat} {e : En} (h : l[k]? = some e) : ∀ j v, e.key.cells[j]? = some v → (ents l)[k * 33 + j]? = some v := fun j v hv =>
 ents_at h j v (by
  show (e.e.key.cells ++ ([.slice e.e.value.A e.e.value.n e.e.value.c] ++ []))[j]? = some v
  rw [List.getElem?_append_left (List.getElem?_eq_some_iff.1 hv).1]
  exact hv)
theorem ents_val {l : List En} {k : Nat} {e : En} (h : l[k]? = some e) : (ents l)[k * 33 + 32]? = some (.slice e.e.value.A e.e.value.n e.e.value.c) :=
 ents_at h 32 _ (by
  show (e.e.key.cells ++ ([.slice e.e.value.A e.e.value.n e.e.value.c] ++ []))[32]? = _
  rw [List.getElem?_append_right (by rw [B32.cells_length]; omega), B32.cells_length]
  rfl)
theorem filt_yes {α : Type} {p : α → Bool} {l : List α} {k : Nat} {x : α} (h : l[k]? = some x) (hp : p x = true) : (l.take (k + 1)).filter p = (l.take k).filter p ++ [x] := by
 rw [List.take_add_one, h, Option.toList_some, List.filter_append, List.filter_cons_of_pos hp, List.filter_nil]
theorem filt_no {α : Type} {p : α → Bool} {l : List α} {k : Nat} {x : α} (h : l[k]? = some x) (hp : ¬ p x = true) : (l.take (k + 1)).filter p = (l.take k).filter p := by
 rw [List.take_add_one, h, Option.toList_some, List.filter_append, List.filter_cons_of_neg hp, List.filter_nil, List.append_nil]
theorem getE {l : List En} {k : Nat} (h : k < l.length) : ∃ e, l[k]? = some e := ⟨_, List.getElem?_eq_getElem h⟩
theorem Compare_s (a b : B32) : Spec Tryz.prog 106 [.agg a.cells.toArray, .agg b.cells.toArray].toArray [] [] (fun _ : Unit => .int .i64 (cmpB a b)) (fun _ => []) := by
 have ha := a.2
 have hb := b.2
 refine spec_of Tryz.func106 rfl (n := 24) rfl rfl ?_
 intro W
 refine yR ?_
 refine h_opX (x_box rfl) fun g2 => ?_
 refine h_opX (x_box rfl) fun g3 => ?_
 refine yS rfl ?_
 refine yN ?_
 refine h_seq ?_
 refine yR ?_
 refine yS rfl ?_
 refine yN ?_
 refine h_block ?_
 refine h_loop (fun (k : Nat) => k ≤ 32 ∧ cmpL (a.1.drop k) (b.1.drop k) = cmpB a b) (fun (k : Nat) => [(5, .int .i64 (k : Int)), (2, .pointer (some ⟨g2, 0, none⟩)), (3, .pointer (some ⟨g3, 0, none⟩))]) (fun (k : Nat) => [.blk g3 b.cells 34, .blk g2 a.cells 34]) (fun (k : Nat) => 32 - k) 0 (⟨Nat.zero_le _, rfl⟩) ⟨rfl, rfl, rfl, trivial⟩ (same) ?_
 rintro k ⟨hk, hc⟩
 refine h_seq ?_
 refine yR ?_
 refine yM rfl ?_
 refine h_op (r_lss rfl rfl) ?_
 refine yN ?_
 refine h_cond rfl (fun h => ?_) (fun h => ?_)
 ·have hk32 : k < 32 := by omega
  have e1 : a.1.drop k = a.1.getD k 0 :: a.1.drop (k + 1) := by rw [List.drop_eq_getElem_cons (by omega), List.getD_eq_getElem?_getD, List.getElem?_eq_getElem (by omega), Option.getD_some]
  have e2 : b.1.drop k = b.1.getD k 0 :: b.1.drop (k + 1) := by rw [List.drop_eq_getElem_cons (by omega), List.getD_eq_getElem?_getD, List.getElem?_eq_getElem (by omega), Option.getD_some]
  rw [e1, e2, cmpL] at hc
  refine h_skip ?_
  refine q_then ?_
  refine h_seq ?_
  refine h_block ?_
  refine h_seq ?_
  refine h_seq ?_
  refine ha_start [.blk g3 b.cells 34, .blk g2 a.cells 34] [] mixed (same) ?_
  refine ha_takeP 0 rfl (r_move rfl) ?_
  refine ha_takeP 1 rfl (r_idxA rfl rfl) ?_
  refine ha_take 2 rfl (r_nth rfl (bc_at' (by omega))) ?_
  refine ha_takeP 3 rfl (r_move rfl) ?_
  refine ha_takeP 4 rfl (r_idxA rfl rfl) ?_
  refine ha_take 5 rfl (r_nth rfl (bc_at' (by omega))) ?_
  refine ha_takeP 6 rfl (r_lss rfl rfl) ?_
  refine ha_done (by kernel_rfl) ?_
  refine q_then ?_
  refine h_cond rfl (fun h1 => ?_) (fun h1 => ?_)
  ·rw [if_pos (UInt8.lt_iff_toNat_lt.2 (by omega))] at hc
   rw [← hc]
   refine yR ?_
   refine yS rfl ?_
   refine yN ?_
   refine h_ret ?_
   refine q_thenR ?_
   refine q_blockR ?_
   refine q_thenR ?_
   refine q_thenR ?_
   refine q_blockR ?_
   refine q_thenR ?_
   exact h_ret1 rfl rfl fun w s => ⟨(), rfl, s.res (List.nil_sublist _) (by simp)⟩
  ·rw [if_neg (fun h => by have := UInt8.lt_iff_toNat_lt.1 h; omega)] at hc
   refine h_skip ?_
   refine q_then ?_
   refine h_seq ?_
   refine ha_start [.blk g3 b.cells 34, .blk g2 a.cells 34] [] mixed (same) ?_
   refine ha_takeP 0 rfl (r_move rfl) ?_
   refine ha_takeP 1 rfl (r_idxA rfl rfl) ?_
   refine ha_take 2 rfl (r_nth rfl (bc_at' (by omega))) ?_
   refine ha_takeP 3 rfl (r_move rfl) ?_
   refine ha_takeP 4 rfl (r_idxA rfl rfl) ?_
   refine ha_take 5 rfl (r_nth rfl (bc_at' (by omega))) ?_
   refine ha_takeP 6 rfl (r_gtr rfl rfl) ?_
   refine ha_done (by kernel_rfl) ?_
   refine q_then ?_
   refine h_cond rfl (fun h2 => ?_) (fun h2 => ?_)
   ·rw [if_pos (UInt8.lt_iff_toNat_lt.2 (by omega))] at hc
    rw [← hc]
    refine yR ?_
    refine yS rfl ?_
    refine yN ?_
    refine h_ret ?_
    refine q_blockR ?_
    refine q_thenR ?_
    refine q_thenR ?_
    refine q_blockR ?_
    refine q_thenR ?_
    exact h_ret1 rfl rfl fun w s => ⟨(), rfl, s.res (List.nil_sublist _) (by simp)⟩
   ·rw [if_neg (fun h => by have := UInt8.lt_iff_toNat_lt.1 h; omega)] at hc
    refine h_skip ?_
    refine q_block ?_
    refine q_then ?_
    refine h_reg ?_
    refine yM rfl ?_
    refine h_op (r_add rfl rfl) ?_
    refine yS rfl ?_
    refine h_nil ?_
    exact h_back (k + 1) (⟨by omega, hc⟩) (by omega) ⟨rfl, rfl, rfl, trivial⟩ (same)
 ·obtain rfl : k = 32 := by omega
  have : cmpB a b = 0 := by rw [← hc, List.drop_eq_nil_of_le (by omega), List.drop_eq_nil_of_le (by omega)]; rfl
  rw [this]
  refine h_exit ?_
  refine q_thenE ?_
  refine q_thenE ?_
  refine q_blockE ?_
  refine q_then ?_
  refine yR ?_
  refine yS rfl ?_
  refine yN ?_
  refine h_ret ?_
  exact h_ret1 rfl rfl fun w s => ⟨(), rfl, s.res (List.nil_sublist _) (by simp)⟩
def bI (b : Bool) : Int := if b then 1 else 0
theorem Part_s (m : List En) (B : Option Addr) (c d : Nat) (b : Bool) (hd : d < 256) (hm : m.length ≤ 100000000) : Spec Tryz.prog 146 [.slice B m.length c, .int .i64 (d : Int), .int .i64 (bI b)].toArray [.rd B (ents m)] [] (fun u : Option Addr × Nat => .slice u.1 (part m d b).length u.2) (fun u => [.own (.slice u.1 (part m d b).length u.2) (part m d b).length 89 33 (ents (part m d b))]) := by
 refine spec_of Tryz.func146 rfl (n := 32) rfl rfl ?_
 intro W
 refine yR ?_
 refine yS rfl ?_
 refine yN ?_
 refine yR ?_
 refine yS rfl ?_
 refine yN ?_
 refine h_seq ?_
 refine yR ?_
 refine yS rfl ?_
 refine yN ?_
 refine h_block ?_
 refine h_nil_own 89 33 (xs := ents (part (m.take 0) d b)) rfl ?_
 change H _ _ _ _ _ (.own (.slice none (part (m.take 0) d b).length 0) (part (m.take 0) d b).length _ _ _ :: _) _
 refine h_loop (fun (s : Nat × Option Addr × Nat) => s.1 ≤ m.length) (fun (s : Nat × Option Addr × Nat) => [(8, .int .i64 (s.1 : Int)), (7, .slice s.2.1 (part (m.take s.1) d b).length s.2.2), (0, .slice B m.length c), (1, .int .i64 (d : Int)), (2, .int .i64 (bI b))]) (fun (s : Nat × Option Addr × Nat) => [.own (.slice s.2.1 (part (m.take s.1) d b).length s.2.2) (part (m.take s.1) d b).length 89 33 (ents (part (m.take s.1) d b)), .rd B (ents m)]) (fun (s : Nat × Option Addr × Nat) => m.length - s.1) (0, none, 0) ((show 0 ≤ m.length from Nat.zero_le _)) ⟨rfl, rfl, rfl, rfl, rfl, trivial⟩ (same) ?_
 rintro ⟨k, A, c'⟩ hk
 dsimp only at hk ⊢
 have hlen : (part (m.take k) d b).length ≤ m.length := Nat.le_trans (part_le _ _ _) (by rw [List.length_take]; omega)
 refine h_seq ?_
 refine yR ?_
 refine yM rfl ?_
 refine yM rfl ?_
 refine h_op (r_len rfl) ?_
 refine h_op (r_lss rfl rfl) ?_
 refine yN ?_
 refine h_cond rfl (fun h => ?_) (fun h => ?_)
 ·obtain ⟨e, he⟩ := getE (l := m) (k := k) (by omega)
  refine h_pure (φ := ∃ b o, B = some ⟨b, o, none⟩) (fun w s => Rd.some (s.ok (.rd B (ents m)) (by simp)) (by rw [ents_len]; omega)) ?_
  rintro ⟨bb, o, rfl⟩
  refine h_skip ?_
  refine q_then ?_
  refine h_seq ?_
  refine h_block ?_
  refine yR ?_
  refine yM rfl ?_
  refine yM rfl ?_
  refine h_op (r_idx rfl rfl) ?_
  refine h_op (r_field rfl) ?_
  refine h_op (r_nthr rfl (out := e.key.cells) (B32.cells_length _) (ents_key he)) ?_
  refine yM rfl ?_
  refine h_call ((refBit_s e.key d hd).comes) rfl rfl rfl fun _ => ?_
  refine yM rfl ?_
  refine h_op (r_bool (r_eql rfl rfl) (show _ = (bitAt e.key d == b) by unfold bI bitN; cases bitAt e.key d <;> cases b <;> rfl)) ?_
  refine yN ?_
  refine h_condB rfl (fun h2 => ?_) (fun h2 => ?_)
  ·have hf : part (m.take (k + 1)) d b = part (m.take k) d b ++ [e] := filt_yes he h2
   have hl : (part (m.take k) d b).length + 1 = (part (m.take (k + 1)) d b).length := by rw [hf, List.length_append]; rfl
   refine h_reg ?_
   refine yM rfl ?_
   refine yM rfl ?_
   refine yM rfl ?_
   refine h_op (r_idx rfl rfl) ?_
   refine h_op (r_nthr rfl (out := e.e.cells) (Entry.cells_length _) (ents_at he)) ?_
   refine h_opX (x_bsl rfl rfl) fun g29 => ?_
   refine h_opX (x_app rfl rfl (k := 33)) fun ⟨g30, c30⟩ => ?_
   refine yS rfl ?_
   refine h_nil ?_
   refine q_block ?_
   refine q_then ?_
   refine h_reg ?_
   refine yM rfl ?_
   refine h_op (r_add rfl rfl) ?_
   refine yS rfl ?_
   refine h_nil ?_
   rw [ents_snoc, ← hf, hl]
   exact h_back (k + 1, some ⟨g30, 0, none⟩, c30) ((show k + 1 ≤ m.length by omega)) ((show m.length - (k + 1) < m.length - k by omega)) ⟨rfl, rfl, rfl, rfl, rfl, trivial⟩ (same)
  ·have hf : part (m.take (k + 1)) d b = part (m.take k) d b := filt_no he (by rw [h2]; simp)
   rw [← hf]
   refine h_skip ?_
   refine q_block ?_
   refine q_then ?_
   refine h_reg ?_
   refine yM rfl ?_
   refine h_op (r_add rfl rfl) ?_
   refine yS rfl ?_
   refine h_nil ?_
   exact h_back (k + 1, A, c') ((show k + 1 ≤ m.length by omega)) ((show m.length - (k + 1) < m.length - k by omega)) ⟨rfl, rfl, rfl, rfl, rfl, trivial⟩ (same)
 ·obtain rfl : k = m.length := by omega
  rw [List.take_length]
  refine h_exit ?_
  refine q_thenE ?_
  refine q_thenE ?_
  refine q_blockE ?_
  refine q_then ?_
  refine yR ?_
  refine yM rfl ?_
  refine yS rfl ?_
  refine yN ?_
  refine h_ret ?_
  exact h_ret1 rfl rfl fun w s => ⟨(A, c'), rfl, (same w s).res (List.Sublist.refl _) (by simp [Fa.wr])⟩
theorem Remove_s (m : List En) (B : Option Addr) (c : Nat) (key : B32) (hm : m.length ≤ 100000000) : Spec Tryz.prog 81 [.slice B m.length c, .agg key.cells.toArray].toArray [.rd B (ents m)] [] (fun u : Option Addr × Nat => .slice u.1 (remK m key).length u.2) (fun u => [.own (.slice u.1 (remK m key).length u.2) (remK m key).length 89 33 (ents (remK m key))]) := by
 refine spec_of Tryz.func81 rfl (n := 28) rfl rfl ?_
 intro W
 refine yR ?_
 refine h_opX (x_box rfl) fun g3 => ?_
 refine yS rfl ?_
 refine yN ?_
 refine yR ?_
 refine yS rfl ?_
 refine yN ?_
 refine h_seq ?_
 refine yR ?_
 refine yS rfl ?_
 refine yN ?_
 refine h_block ?_
 refine h_nil_own 89 33 (xs := ents (remK (m.take 0) key)) rfl ?_
 change H _ _ _ _ _ (.own (.slice none (remK (m.take 0) key).length 0) (remK (m.take 0) key).length _ _ _ :: _) _
 refine h_loop (fun (s : Nat × Option Addr × Nat) => s.1 ≤ m.length) (fun (s : Nat × Option Addr × Nat) => [(6, .int .i64 (s.1 : Int)), (5, .slice s.2.1 (remK (m.take s.1) key).length s.2.2), (0, .slice B m.length c), (3, .pointer (some ⟨g3, 0, none⟩))]) (fun (s : Nat × Option Addr × Nat) => [.own (.slice s.2.1 (remK (m.take s.1) key).length s.2.2) (remK (m.take s.1) key).length 89 33 (ents (remK (m.take s.1) key)), .blk g3 key.cells 34, .rd B (ents m)]) (fun (s : Nat × Option Addr × Nat) => m.length - s.1) (0, none, 0) ((show 0 ≤ m.length from Nat.zero_le _)) ⟨rfl, rfl, rfl, rfl, trivial⟩ (same) ?_
 rintro ⟨k, A, c'⟩ hk
 dsimp only at hk ⊢
 have hlen : (remK (m.take k) key).length ≤ m.length := Nat.le_trans (List.length_filter_le _ _) (by rw [List.length_take]; omega)
 refine h_seq ?_
 refine yR ?_
 refine yM rfl ?_
 refine yM rfl ?_
 refine h_op (r_len rfl) ?_
 refine h_op (r_lss rfl rfl) ?_
 refine yN ?_
 refine h_cond rfl (fun h => ?_) (fun h => ?_)
 ·obtain ⟨e, he⟩ := getE (l := m) (k := k) (by omega)
  refine h_pure (φ := ∃ b o, B = some ⟨b, o, none⟩) (fun w s => Rd.some (s.ok (.rd B (ents m)) (by simp)) (by rw [ents_len]; omega)) ?_
  rintro ⟨bb, o, rfl⟩
  refine h_skip ?_
  refine q_then ?_
  refine h_seq ?_
  refine h_block ?_
  refine h_seq ?_
  refine ha_start [.blk g3 key.cells 34, .rd (some ⟨bb, o, none⟩) (ents m)] [] mixed (same) ?_
  refine ha_takeP 0 rfl (r_move rfl) ?_
  refine ha_takeP 1 rfl (r_move rfl) ?_
  refine ha_takeP 2 rfl (r_idx rfl rfl) ?_
  refine ha_takeP 3 rfl (r_field rfl) ?_
  refine ha_take 4 rfl (r_nthr rfl (out := e.key.cells) (B32.cells_length _) (ents_key he)) ?_
  refine ha_take 5 rfl (r_loadr rfl) ?_
  refine ha_takeP 6 rfl (r_ner rfl rfl) ?_
  refine ha_done (by kernel_rfl) ?_
  refine q_then ?_
  refine h_cond rfl (fun h2 => ?_) (fun h2 => ?_)
  ·have hf : remK (m.take (k + 1)) key = remK (m.take k) key ++ [e] := filt_yes he (by simpa using h2)
   have hl : (remK (m.take k) key).length + 1 = (remK (m.take (k + 1)) key).length := by rw [hf, List.length_append]; rfl
   refine h_reg ?_
   refine yM rfl ?_
   refine yM rfl ?_
   refine yM rfl ?_
   refine h_op (r_idx rfl rfl) ?_
   refine h_op (r_nthr rfl (out := e.e.cells) (Entry.cells_length _) (ents_at he)) ?_
   refine h_opX (x_bsl rfl rfl) fun g25 => ?_
   refine h_opX (x_app rfl rfl (k := 33)) fun ⟨g26, c26⟩ => ?_
   refine yS rfl ?_
   refine h_nil ?_
   refine q_block ?_
   refine q_then ?_
   refine h_reg ?_
   refine yM rfl ?_
   refine h_op (r_add rfl rfl) ?_
   refine yS rfl ?_
   refine h_nil ?_
   rw [ents_snoc, ← hf, hl]
   exact h_back (k + 1, some ⟨g26, 0, none⟩, c26) ((show k + 1 ≤ m.length by omega)) ((show m.length - (k + 1) < m.length - k by omega)) ⟨rfl, rfl, rfl, rfl, trivial⟩ (same)
  ·have hf : remK (m.take (k + 1)) key = remK (m.take k) key := filt_no he (by simpa using h2)
   rw [← hf]
   refine h_skip ?_
   refine q_block ?_
   refine q_then ?_
   refine h_reg ?_
   refine yM rfl ?_
   refine h_op (r_add rfl rfl) ?_
   refine yS rfl ?_
   refine h_nil ?_
   exact h_back (k + 1, A, c') ((show k + 1 ≤ m.length by omega)) ((show m.length - (k + 1) < m.length - k by omega)) ⟨rfl, rfl, rfl, rfl, trivial⟩ (same)
 ·obtain rfl : k = m.length := by omega
  rw [List.take_length]
  refine h_exit ?_
  refine q_thenE ?_
  refine q_thenE ?_
  refine q_blockE ?_
  refine q_then ?_
  refine yR ?_
  refine yM rfl ?_
  refine yS rfl ?_
  refine yN ?_
  refine h_ret ?_
  exact h_ret1 rfl rfl fun w s => ⟨(A, c'), rfl, (same w s).res (List.Sublist.refl _) (by simp [Fa.wr])⟩
end Go.Proofs.YtjhlbbgikccclaaGreatDoor
/- TE -/
namespace Go.Proofs.YtjhlbbgikccclaaGreatDoor
open Go.RowKit Go.ChangeShapes Go.WideShapes
section
variable {H : Type} {enc : TypeId × Value → H} {w : World} {base : Nat} {spare : Nat → Bool} {held : Bool} {v : Value} {d : DataW H} {ps : List MemPlace} {r : Reach} {b0 : Nat}
theorem c_bytes : Tryz.prog.cellsOf 35 = 1 := by kernel_rfl
end
end Go.Proofs.YtjhlbbgikccclaaGreatDoor
/- E23 -/
namespace Go.Proofs.YtjhlbbgikccclaaGreatDoor
open Go.RowKit
def b32At (l : List UInt8) (o : Nat) : B32 := ⟨(List.range 32).map fun j => l.getD (o + j) 0, by simp⟩
theorem b32At_drop {l : List UInt8} {o : Nat} (h : o + 32 ≤ l.length) : l.drop o = (b32At l o).1 ++ l.drop (o + 32) := by
 have e : (b32At l o).1 = (l.drop o).take 32 := by
  apply List.ext_getElem?
  intro j
  show ((List.range 32).map fun j => l.getD (o + j) 0)[j]? = _
  by_cases hj : j < 32
  ·rw [List.getElem?_map, List.getElem?_range hj, List.getElem?_take, if_pos hj, List.getElem?_drop, List.getElem?_eq_getElem (show o + j < l.length by omega)]
   simp only [Option.map_some, List.getD_eq_getElem?_getD]
   rw [List.getElem?_eq_getElem (show o + j < l.length by omega)]
   rfl
  ·rw [List.getElem?_eq_none (by simp; omega), List.getElem?_take, if_neg hj]
 rw [e, ← List.drop_drop, List.take_append_drop]
structure DP where
 k : Nat
 d : Nat
 lf : Leaf
 bm : B32
 ss : List B32
def DP.pr (p : DP) (A : Option Addr) (c : Nat) : Proof := ⟨(p.k : Int), (p.d : Int), p.lf, p.bm, ⟨A, p.ss.length, c⟩⟩
end Go.Proofs.YtjhlbbgikccclaaGreatDoor
/- U39 -/
namespace Go.Proofs.YtjhlbbgikccclaaGreatDoor
open Go.RowKit
def putK (e : En) (r : List En) (k : Nat) (done : Bool) : List En := if done then insE e (r.take k) else r.take k
theorem putK_len (e : En) (r : List En) (k : Nat) (done : Bool) : (putK e r k done).length ≤ r.length + 1 := by
 unfold putK
 split
 ·rw [insE_len, List.length_take]; omega
 ·rw [List.length_take]; omega
def doneK (e : En) (r : List En) (k : Nat) (done : Bool) : Prop := if done = true then ∃ f ∈ r.take k, cmpB e.key f.key < 0 else ∀ f ∈ r.take k, ¬ cmpB e.key f.key < 0
theorem take_snocE {α : Type} {l : List α} {k : Nat} {x : α} (h : l[k]? = some x) : l.take (k + 1) = l.take k ++ [x] := by rw [List.take_add_one, h]; rfl
theorem putK_done {e x : En} {r : List En} {k : Nat} (h : r[k]? = some x) (hd : doneK e r k true) : putK e r (k + 1) true = putK e r k true ++ [x] ∧ doneK e r (k + 1) true := by
 unfold doneK at hd ⊢
 rw [if_pos rfl] at hd ⊢
 unfold putK
 rw [if_pos rfl, if_pos rfl, take_snocE h, insE_snoc_in hd]
 obtain ⟨f, hf, h2⟩ := hd
 exact ⟨rfl, f, List.mem_append_left _ hf, h2⟩
theorem putK_now {e x : En} {r : List En} {k : Nat} (h : r[k]? = some x) (hd : doneK e r k false) (hc : cmpB e.key x.key < 0) : putK e r (k + 1) true = putK e r k false ++ [e] ++ [x] ∧ doneK e r (k + 1) true := by
 unfold doneK at hd ⊢
 rw [if_neg (by simp)] at hd
 rw [if_pos rfl]
 unfold putK
 rw [if_pos rfl, if_neg (by simp), take_snocE h, insE_snoc_now hd hc]
 exact ⟨by simp, x, by simp, hc⟩
theorem putK_not {e x : En} {r : List En} {k : Nat} (h : r[k]? = some x) (hd : doneK e r k false) (hc : ¬ cmpB e.key x.key < 0) : putK e r (k + 1) false = putK e r k false ++ [x] ∧ doneK e r (k + 1) false := by
 unfold doneK at hd ⊢
 rw [if_neg (by simp)] at hd ⊢
 unfold putK
 rw [if_neg (by simp), if_neg (by simp), take_snocE h]
 refine ⟨rfl, fun f hf => ?_⟩
 rcases List.mem_append.1 hf with hf | hf
 ·exact hd f hf
 ·rw [List.mem_singleton.1 hf]; exact hc
theorem putK_end {e : En} {r : List En} {done : Bool} (hd : doneK e r r.length done) : insE e r = if done then putK e r r.length true else putK e r r.length false ++ [e] := by
 unfold doneK at hd
 unfold putK
 cases done
 ·rw [if_neg (by simp), List.take_length] at hd
  rw [insE_none hd]; simp
 ·simp
theorem remK_len (m : List En) (key : B32) : (remK m key).length ≤ m.length := List.length_filter_le _ _
theorem Put_s (m : List En) (B : Option Addr) (c : Nat) (e : En) (hm : m.length ≤ 10000000) : Spec Tryz.prog 80 [.slice B m.length c, .agg e.key.cells.toArray, .slice e.e.value.A e.e.value.n e.e.value.c].toArray [.rd B (ents m)] [] (fun u : Option Addr × Nat => .slice u.1 (putM m e).length u.2) (fun u => [.own (.slice u.1 (putM m e).length u.2) (putM m e).length 89 33 (ents (putM m e))]) := by
 have hrl := remK_len m e.key
 unfold putM
 refine spec_of Tryz.func80 rfl (n := 54) rfl rfl ?_
 intro W
 refine yR ?_
 refine h_opX (x_box rfl) fun g4 => ?_
 refine yS rfl ?_
 refine yN ?_
 refine yR ?_
 refine yS rfl ?_
 refine yN ?_
 refine yR ?_
 refine yS rfl ?_
 refine yN ?_
 refine yR ?_
 refine yM rfl ?_
 refine h_op (r_loadr rfl) ?_
 refine h_call ((Remove_s m B c e.key (by omega)).comes) rfl rfl rfl fun ⟨A13, c13⟩ => ?_
 dsimp only
 have hR : Spec Tryz.prog 106 [.agg e.key.cells.toArray, .agg e.key.cells.toArray].toArray [] [] (fun _ : Unit => .int .i64 (cmpB e.key e.key)) (fun _ => []) := Compare_s e.key e.key
 clear hR
 generalize remK m e.key = r at *
 refine h_pure (φ := ∀ i, i < r.length → ∃ g, A13 = some ⟨g, 0, none⟩) (fun w s i hi => s.ownSome (N := r.length) (c := c13) (by omega)) fun hA13 => ?_
 refine yS rfl ?_
 refine yN ?_
 refine h_seq ?_
 refine yR ?_
 refine yS rfl ?_
 refine yN ?_
 refine h_block ?_
 refine h_nil_own 89 33 (xs := ents (putK e r 0 false)) rfl ?_
 change H _ _ _ _ _ (.own (.slice none (putK e r 0 false).length 0) (putK e r 0 false).length _ _ _ :: _) _
 refine h_loop (fun (s : Nat × Bool × Option Addr × Nat) => s.1 ≤ r.length ∧ doneK e r s.1 s.2.1) (fun (s : Nat × Bool × Option Addr × Nat) => [(10, .int .i64 (s.1 : Int)), (8, .bool s.2.1), (7, .slice s.2.2.1 (putK e r s.1 s.2.1).length s.2.2.2), (9, .slice A13 r.length c13), (4, .pointer (some ⟨g4, 0, none⟩)), (2, .slice e.e.value.A e.e.value.n e.e.value.c)]) (fun (s : Nat × Bool × Option Addr × Nat) => [.own (.slice s.2.2.1 (putK e r s.1 s.2.1).length s.2.2.2) (putK e r s.1 s.2.1).length 89 33 (ents (putK e r s.1 s.2.1)), .own (.slice A13 r.length c13) r.length 89 33 (ents r), .blk g4 e.key.cells 34]) (fun (s : Nat × Bool × Option Addr × Nat) => r.length - s.1) (0, false, none, 0) ((show 0 ≤ r.length ∧ doneK e r 0 false from ⟨Nat.zero_le _, by unfold doneK; rw [if_neg (by simp)]; intro f hf; simp at hf⟩)) ⟨rfl, rfl, rfl, rfl, rfl, rfl, trivial⟩ (same) ?_
 rintro ⟨k, done, A, c'⟩ ⟨hk, hd⟩
 dsimp only at hk hd ⊢
 have hlen := putK_len e r k done
 refine h_seq ?_
 refine yR ?_
 refine yM rfl ?_
 refine yM rfl ?_
 refine h_op (r_len rfl) ?_
 refine h_op (r_lss rfl rfl) ?_
 refine yN ?_
 refine h_cond rfl (fun h => ?_) (fun h => ?_)
 ·obtain ⟨x, hx⟩ := getE (l := r) (k := k) (by omega)
  obtain ⟨g, rfl⟩ := hA13 k (by omega)
  rcases done with _ | _
  ·by_cases hc : cmpB e.key x.key < 0
   ·obtain ⟨hp, hd2⟩ := putK_now hx hd hc
    have hl : (putK e r k false).length + 1 + 1 = (putK e r (k + 1) true).length := by rw [hp]; simp
    refine h_skip ?_
    refine q_then ?_
    refine h_seq ?_
    refine h_block ?_
    refine h_seq ?_
    refine h_seq ?_
    refine ha_start [.blk g4 e.key.cells 34, .own (.slice (some ⟨g, 0, none⟩) r.length c13) r.length 89 33 (ents r)] [] mixed (same) ?_
    refine ha_takeP 0 rfl (r_move rfl) ?_
    refine ha_takeP 1 rfl (r_not rfl) ?_
    refine ha_takeP 2 rfl (r_move rfl) ?_
    refine ha_take 3 rfl (r_loadr rfl) ?_
    refine ha_takeP 4 rfl (r_move rfl) ?_
    refine ha_takeP 5 rfl (r_move rfl) ?_
    refine ha_takeP 6 rfl (r_idx rfl rfl) ?_
    refine ha_takeP 7 rfl (r_field rfl) ?_
    refine ha_take 8 rfl (r_nthr rfl (out := x.key.cells) (B32.cells_length _) (ents_key hx)) ?_
    refine ha_one 9 ?_
    refine ho_C 9 rfl ((Compare_s e.key x.key).comes) rfl rfl rfl (fun xx => same) fun _ => ?_
    refine ha_takeP 10 rfl (r_bool (r_lss rfl rfl) (decide_eq_true hc)) ?_
    refine ha_takeP 11 rfl (r_pick rfl rfl) ?_
    refine ha_done (by kernel_rfl) ?_
    refine q_then ?_
    refine h_condT rfl ?_
    refine yR ?_
    refine yM rfl ?_
    refine h_op (r_loadr rfl) ?_
    refine yM rfl ?_
    refine h_op (r_build rfl) ?_
    refine h_opX (x_bsl rfl rfl) fun g36 => ?_
    refine h_opX (x_app rfl rfl (k := 33)) fun ⟨g37, c37⟩ => ?_
    refine yS rfl ?_
    refine yN ?_
    refine h_reg ?_
    refine yS rfl ?_
    refine yN ?_
    refine h_reg ?_
    refine yM rfl ?_
    refine yM rfl ?_
    refine yM rfl ?_
    refine h_op (r_idx rfl rfl) ?_
    refine h_op (r_nthr rfl (out := x.e.cells) (Entry.cells_length _) (ents_at hx)) ?_
    refine h_opX (x_bsl rfl rfl) fun g43 => ?_
    refine h_opX (x_app rfl rfl (k := 33)) fun ⟨g44, c44⟩ => ?_
    refine yS rfl ?_
    refine h_nil ?_
    refine q_block ?_
    refine q_then ?_
    refine h_reg ?_
    refine yM rfl ?_
    refine h_op (r_add rfl rfl) ?_
    refine yS rfl ?_
    refine h_nil ?_
    rw [show Entry.cells _ = e.e.cells from rfl, ents_snoc, ents_snoc, ← hp, hl]
    exact h_back (k + 1, true, some ⟨g44, 0, none⟩, c44) ((show k + 1 ≤ r.length ∧ doneK e r (k + 1) true from ⟨by omega, hd2⟩)) ((show r.length - (k + 1) < r.length - k by omega)) ⟨rfl, rfl, rfl, rfl, rfl, rfl, trivial⟩ (same)
   ·obtain ⟨hp, hd2⟩ := putK_not hx hd hc
    have hl : (putK e r k false).length + 1 = (putK e r (k + 1) false).length := by rw [hp]; simp
    refine h_skip ?_
    refine q_then ?_
    refine h_seq ?_
    refine h_block ?_
    refine h_seq ?_
    refine h_seq ?_
    refine ha_start [.blk g4 e.key.cells 34, .own (.slice (some ⟨g, 0, none⟩) r.length c13) r.length 89 33 (ents r)] [] mixed (same) ?_
    refine ha_takeP 0 rfl (r_move rfl) ?_
    refine ha_takeP 1 rfl (r_not rfl) ?_
    refine ha_takeP 2 rfl (r_move rfl) ?_
    refine ha_take 3 rfl (r_loadr rfl) ?_
    refine ha_takeP 4 rfl (r_move rfl) ?_
    refine ha_takeP 5 rfl (r_move rfl) ?_
    refine ha_takeP 6 rfl (r_idx rfl rfl) ?_
    refine ha_takeP 7 rfl (r_field rfl) ?_
    refine ha_take 8 rfl (r_nthr rfl (out := x.key.cells) (B32.cells_length _) (ents_key hx)) ?_
    refine ha_one 9 ?_
    refine ho_C 9 rfl ((Compare_s e.key x.key).comes) rfl rfl rfl (fun xx => same) fun _ => ?_
    refine ha_takeP 10 rfl (r_bool (r_lss rfl rfl) (decide_eq_false hc)) ?_
    refine ha_takeP 11 rfl (r_pick rfl rfl) ?_
    refine ha_done (by kernel_rfl) ?_
    refine q_then ?_
    refine h_condF rfl ?_
    refine h_skip ?_
    refine q_then ?_
    refine h_reg ?_
    refine yM rfl ?_
    refine yM rfl ?_
    refine yM rfl ?_
    refine h_op (r_idx rfl rfl) ?_
    refine h_op (r_nthr rfl (out := x.e.cells) (Entry.cells_length _) (ents_at hx)) ?_
    refine h_opX (x_bsl rfl rfl) fun g43 => ?_
    refine h_opX (x_app rfl rfl (k := 33)) fun ⟨g44, c44⟩ => ?_
    refine yS rfl ?_
    refine h_nil ?_
    refine q_block ?_
    refine q_then ?_
    refine h_reg ?_
    refine yM rfl ?_
    refine h_op (r_add rfl rfl) ?_
    refine yS rfl ?_
    refine h_nil ?_
    rw [ents_snoc, ← hp, hl]
    exact h_back (k + 1, false, some ⟨g44, 0, none⟩, c44) ((show k + 1 ≤ r.length ∧ doneK e r (k + 1) false from ⟨by omega, hd2⟩)) ((show r.length - (k + 1) < r.length - k by omega)) ⟨rfl, rfl, rfl, rfl, rfl, rfl, trivial⟩ (same)
  ·obtain ⟨hp, hd2⟩ := putK_done hx hd
   have hl : (putK e r k true).length + 1 = (putK e r (k + 1) true).length := by rw [hp]; simp
   refine h_skip ?_
   refine q_then ?_
   refine h_seq ?_
   refine h_block ?_
   refine h_seq ?_
   refine h_seq ?_
   refine ha_start [.blk g4 e.key.cells 34, .own (.slice (some ⟨g, 0, none⟩) r.length c13) r.length 89 33 (ents r)] [] mixed (same) ?_
   refine ha_takeP 0 rfl (r_move rfl) ?_
   refine ha_takeP 1 rfl (r_not rfl) ?_
   refine ha_takeP 2 rfl (r_move rfl) ?_
   refine ha_off 3 rfl ?_
   refine ha_off 4 rfl ?_
   refine ha_off 5 rfl ?_
   refine ha_off 6 rfl ?_
   refine ha_off 7 rfl ?_
   refine ha_off 8 rfl ?_
   refine ha_off 9 rfl ?_
   refine ha_off 10 rfl ?_
   refine ha_takeP 11 rfl (r_pick rfl rfl) ?_
   refine ha_done (by kernel_rfl) ?_
   refine q_then ?_
   refine h_condF rfl ?_
   refine h_skip ?_
   refine q_then ?_
   refine h_reg ?_
   refine yM rfl ?_
   refine yM rfl ?_
   refine yM rfl ?_
   refine h_op (r_idx rfl rfl) ?_
   refine h_op (r_nthr rfl (out := x.e.cells) (Entry.cells_length _) (ents_at hx)) ?_
   refine h_opX (x_bsl rfl rfl) fun g43 => ?_
   refine h_opX (x_app rfl rfl (k := 33)) fun ⟨g44, c44⟩ => ?_
   refine yS rfl ?_
   refine h_nil ?_
   refine q_block ?_
   refine q_then ?_
   refine h_reg ?_
   refine yM rfl ?_
   refine h_op (r_add rfl rfl) ?_
   refine yS rfl ?_
   refine h_nil ?_
   rw [ents_snoc, ← hp, hl]
   exact h_back (k + 1, true, some ⟨g44, 0, none⟩, c44) ((show k + 1 ≤ r.length ∧ doneK e r (k + 1) true from ⟨by omega, hd2⟩)) ((show r.length - (k + 1) < r.length - k by omega)) ⟨rfl, rfl, rfl, rfl, rfl, rfl, trivial⟩ (same)
 ·obtain rfl : k = r.length := by omega
  have hp := putK_end hd
  rcases done with _ | _
  ·rw [if_neg (by simp)] at hp
   have hl : (putK e r r.length false).length + 1 = (insE e r).length := by rw [hp]; simp
   refine h_exit ?_
   refine q_thenE ?_
   refine q_thenE ?_
   refine q_blockE ?_
   refine q_then ?_
   refine h_seq ?_
   refine yR ?_
   refine yM rfl ?_
   refine h_op (r_not rfl) ?_
   refine yN ?_
   refine h_condT rfl ?_
   refine h_reg ?_
   refine yM rfl ?_
   refine h_op (r_loadr rfl) ?_
   refine yM rfl ?_
   refine h_op (r_build rfl) ?_
   refine h_opX (x_bsl rfl rfl) fun g51 => ?_
   refine h_opX (x_app rfl rfl (k := 33)) fun ⟨g52, c52⟩ => ?_
   refine yS rfl ?_
   refine yN ?_
   refine yR ?_
   refine yM rfl ?_
   refine yS rfl ?_
   refine yN ?_
   refine h_ret ?_
   rw [show Entry.cells _ = e.e.cells from rfl, ents_snoc, ← hp, hl]
   exact h_ret1 rfl rfl fun w s => ⟨(some ⟨g52, 0, none⟩, c52), rfl, (same w s).res (List.Sublist.refl _) (by simp [Fa.wr])⟩
  ·rw [if_pos rfl] at hp
   rw [hp]
   refine h_exit ?_
   refine q_thenE ?_
   refine q_thenE ?_
   refine q_blockE ?_
   refine q_then ?_
   refine h_seq ?_
   refine yR ?_
   refine yM rfl ?_
   refine h_op (r_not rfl) ?_
   refine yN ?_
   refine h_condF rfl ?_
   refine h_skip ?_
   refine q_then ?_
   refine yR ?_
   refine yM rfl ?_
   refine yS rfl ?_
   refine yN ?_
   refine h_ret ?_
   exact h_ret1 rfl rfl fun w s => ⟨(A, c'), rfl, (same w s).res (List.Sublist.refl _) (by simp [Fa.wr])⟩
end Go.Proofs.YtjhlbbgikccclaaGreatDoor
/- U40 -/
namespace Go.Proofs.YtjhlbbgikccclaaGreatDoor
open Go.RowKit
theorem rValue_s (l : List UInt8) (B : Option Addr) (c : Nat) (hB : B = none → l.length = 0 ∧ c = 0) (hl : l.length ≤ 100000000) : Spec Tryz.prog 220 [.slice B l.length c].toArray [.rd B (bc l)] [] (fun u : Nat × Nat => .slice (some ⟨u.1, 0, none⟩) (preV l).length u.2) (fun u => [.own (.slice (some ⟨u.1, 0, none⟩) (preV l).length u.2) (preV l).length 5 1 (bc (preV l))]) := by
 have e : [(2 : UInt8)] ++ l = preV l := rfl
 refine spec_of Tryz.func220 rfl (n := 6) rfl rfl ?_
 intro W
 refine yR ?_
 refine yS rfl ?_
 refine yN ?_
 refine yR ?_
 refine h_opX (x_bslV (ys := [.int .u8 2]) (bc [2]) rfl rfl (bc_one _)) fun g3 => ?_
 refine yM rfl ?_
 refine h_opX (x_appAB rfl rfl hB rfl (N' := (preV l).length) (hN := Nat.add_comm _ _)) fun ⟨A5, c5⟩ => ?_
 refine h_pure (φ := ∃ g, A5 = some ⟨g, 0, none⟩) (fun w s => s.ownSome (N := (preV l).length) (c := c5) (Nat.succ_pos _)) ?_
 rintro ⟨g, rfl⟩
 rw [e]
 refine yS rfl ?_
 refine yN ?_
 refine h_ret ?_
 exact h_ret1 rfl rfl fun w s => ⟨(g, c5), rfl, (same w s).res (List.Sublist.refl _) (by simp [Fa.wr])⟩
theorem rLeafOf_s (n : Nat) (hn : n ≤ 256) (key : B32) (l : List UInt8) (B : Option Addr) (c : Nat) (hB : B = none → l.length = 0 ∧ c = 0) (hl : l.length ≤ 100000000) : Spec Tryz.prog 145 [.int .i64 (n : Int), .agg key.cells.toArray, .slice B l.length c].toArray [.rd B (bc l)] [] (fun _ : Unit => .agg (leafOf n key l).cells.toArray) (fun _ => []) := by
 have hpl : (preV l).length = l.length + 1 := rfl
 refine spec_of Tryz.func145 rfl (n := 13) rfl rfl ?_
 intro W
 refine yR ?_
 refine h_opX (x_box rfl) fun g4 => ?_
 refine h_opX (x_alloc) fun g6 => ?_
 refine yN ?_
 refine h_seq ?_
 refine ha_start [.blk g4 key.cells 34] [] mixed (same) ?_
 refine ha_take 0 rfl (r_loadr rfl) ?_
 refine ha_takeP 1 rfl (r_move rfl) ?_
 refine ha_takeP 2 rfl (r_move rfl) ?_
 refine ha_one 3 ?_
 refine ho_C 3 rfl ((rValue_s l B c hB hl).comes) rfl rfl rfl (fun xx => same) fun ⟨g10, c10⟩ => ?_
 refine ha_one 4 ?_
 refine ho_C 4 rfl ((refSum5_s n hn (preV l) (some ⟨g10, 0, none⟩) c10 (fun h => by cases h) (by omega)).comes) rfl rfl rfl (fun xx => same) fun _ => ?_
 refine ha_takeP 5 rfl (r_build rfl) ?_
 refine ha_one 6 ?_
 refine ho_SL 6 rfl (s_storer rfl rfl) ?_
 refine q_then ?_
 refine h_ret ?_
 exact h_ret1 rfl (rv_row rfl) fun w s => ⟨(), rfl, s.res (List.nil_sublist _) (by simp)⟩
theorem ents_key0 (e : En) : ∀ j v, e.key.cells[j]? = some v → (ents [e])[0 + j]? = some v := fun j v hv => by have := ents_key (l := [e]) (k := 0) rfl j v hv; rwa [Nat.zero_mul] at this
theorem ents_val0 (e : En) : (ents [e])[32]? = some (.slice e.e.value.A e.e.value.n e.e.value.c) := by have := ents_val (l := [e]) (k := 0) rfl; rwa [Nat.zero_mul, Nat.zero_add] at this
def ValsZ (h : Zh) (m : List En) : Prop := ∀ e ∈ m, SlZ h e.e.value e.val ∧ e.val.length ≤ 10000000
theorem ValsZ.part {h : Zh} {m : List En} (x : ValsZ h m) (d : Nat) (b : Bool) : ValsZ h (part m d b) := fun e he => x e (part_mem.1 he).1
theorem ValsZ.mono {h h' : Zh} (hl : LeZ h h') {m : List En} (x : ValsZ h m) : ValsZ h' m := fun e he => ⟨(x e he).1.mono hl, (x e he).2⟩
theorem Root_any (n : Nat) (hn : n ≤ 256) (h : Zh) {m : List En} {d : Nat} (hd : d ≤ 256) (ha : Alike m d) : m.length ≤ 1000000 → ValsZ h m → ∀ (B : Option Addr) (c : Nat), Spec Tryz.prog 87 [.int .i64 (n : Int), .slice B m.length c, .int .i64 (d : Int)].toArray [.rd B (ents m), .zone false h] [] (fun _ : Unit => .agg (rootM n m d).cells.toArray) (fun _ => []) := by
 refine parts_ind (p := fun m d => m.length ≤ 1000000 → ValsZ h m → ∀ (B : Option Addr) (c : Nat), Spec Tryz.prog 87 [.int .i64 (n : Int), .slice B m.length c, .int .i64 (d : Int)].toArray [.rd B (ents m), .zone false h] [] (fun _ : Unit => .agg (rootM n m d).cells.toArray) (fun _ => [])) ?_ ?_ ?_ (256 - d) m d (Nat.le_refl _) hd ha
 ·intro d _ _ B c
  rw [rootM_nil]
  refine spec_of Tryz.func87 rfl (n := 49) rfl rfl ?_
  intro W
  refine yR ?_
  refine h_opX (x_alloc) fun g6 => ?_
  refine yN ?_
  refine h_seq ?_
  refine yR ?_
  refine yM rfl ?_
  refine h_op (r_len rfl) ?_
  refine h_op (r_bool (r_eql rfl rfl) (show _ = true by simp)) ?_
  refine yN ?_
  refine h_condT rfl ?_
  refine yR ?_
  refine yM rfl ?_
  refine h_call ((rEmpty_s n hn).comes) rfl rfl rfl fun _ => ?_
  refine h_opS (s_storer rfl rfl) ?_
  refine yN ?_
  refine h_ret ?_
  refine q_thenR ?_
  exact h_ret1 rfl (rv_row rfl) fun w s => ⟨(), rfl, s.res (List.nil_sublist _) (by simp)⟩
 ·intro e d hd _ hv B c
  rw [rootM_one n e hd]
  obtain ⟨hs, hvl⟩ := hv e (by simp)
  obtain ⟨⟨key, A, N, cc⟩, b⟩ := e
  obtain rfl : N = b.length := hs.len
  have hA : A = none → b.length = 0 ∧ cc = 0 := hs.nil
  have hrd : RdZ h A (bc b) := hs.rd
  dsimp only at hvl
  refine spec_of Tryz.func87 rfl (n := 49) rfl rfl ?_
  intro W
  refine yR ?_
  refine h_opX (x_alloc) fun g6 => ?_
  refine yN ?_
  refine h_seq ?_
  refine yR ?_
  refine yM rfl ?_
  refine h_op (r_len rfl) ?_
  refine h_op (r_bool (r_eql rfl rfl) (show _ = false by simp)) ?_
  refine yN ?_
  refine h_condF rfl ?_
  refine h_skip ?_
  refine q_then ?_
  refine h_seq ?_
  refine yR ?_
  refine yM rfl ?_
  refine h_op (r_len rfl) ?_
  refine h_op (r_bool (r_eql rfl rfl) (show _ = true by simp)) ?_
  refine yN ?_
  refine h_condT rfl ?_
  refine h_pure (φ := ∃ b o, B = some ⟨b, o, none⟩) (fun w s => Rd.some (s.ok (.rd B (ents [⟨⟨key, ⟨A, b.length, cc⟩⟩, b⟩])) (by simp)) (by rw [ents_len]; exact Nat.zero_lt_succ _)) ?_
  rintro ⟨bb, o, rfl⟩
  refine h_seq ?_
  refine ha_start [.rd (some ⟨bb, o, none⟩) (ents [⟨⟨key, ⟨A, b.length, cc⟩⟩, b⟩])] [] mixed (same) ?_
  refine ha_takeP 0 rfl (r_move rfl) ?_
  refine ha_takeP 1 rfl (r_move rfl) ?_
  refine ha_takeP 2 rfl (r_move rfl) ?_
  refine ha_takeP 3 rfl (r_idx rfl rfl (hm := by simp)) ?_
  refine ha_takeP 4 rfl (r_field rfl) ?_
  refine ha_take 5 rfl (r_nthr rfl (out := key.cells) (B32.cells_length _) (ents_key0 ⟨⟨key, ⟨A, b.length, cc⟩⟩, b⟩)) ?_
  refine ha_takeP 6 rfl (r_move rfl) ?_
  refine ha_takeP 7 rfl (r_idx rfl rfl (hm := by simp)) ?_
  refine ha_takeP 8 rfl (r_field rfl) ?_
  refine ha_take 9 rfl (r_nth rfl (ents_val0 ⟨⟨key, ⟨A, b.length, cc⟩⟩, b⟩)) ?_
  refine ha_one 10 ?_
  refine ho_C 10 rfl ((rLeafOf_s n hn key b A cc hA (by omega)).comes) rfl rfl rfl (fun xx => same) fun _ => ?_
  refine ha_one 11 ?_
  refine ho_C 11 rfl ((rLeaf_s (leafOf n key b)).comes) rfl rfl rfl (fun xx => same) fun ⟨g28, c28⟩ => ?_
  refine ha_one 12 ?_
  refine ho_C 12 rfl ((refSum5_s n hn (preL (leafOf n key b)) (some ⟨g28, 0, none⟩) c28 (fun h => by cases h) (by rw [preL_len]; decide)).comes) rfl rfl rfl (fun xx => same) fun _ => ?_
  refine ha_one 13 ?_
  refine ho_SL 13 rfl (s_storer rfl rfl) ?_
  refine q_then ?_
  refine h_ret ?_
  refine q_thenR ?_
  exact h_ret1 rfl (rv_row rfl) fun w s => ⟨(), rfl, s.res (List.nil_sublist _) (by simp)⟩
 ·intro m d ha hm hd i1 i2 hl hv B c
  have p1 := part_le m d false
  have p2 := part_le m d true
  rw [rootM_two n hm (by omega)]
  refine spec_of Tryz.func87 rfl (n := 49) rfl rfl ?_
  intro W
  refine yR ?_
  refine h_opX (x_alloc) fun g6 => ?_
  refine yN ?_
  refine h_seq ?_
  refine yR ?_
  refine yM rfl ?_
  refine h_op (r_len rfl) ?_
  refine h_op (r_eql rfl rfl) ?_
  refine yN ?_
  refine h_no rfl ((by omega)) ?_
  refine h_skip ?_
  refine q_then ?_
  refine h_seq ?_
  refine yR ?_
  refine yM rfl ?_
  refine h_op (r_len rfl) ?_
  refine h_op (r_eql rfl rfl) ?_
  refine yN ?_
  refine h_no rfl ((by omega)) ?_
  refine h_skip ?_
  refine q_then ?_
  refine yR ?_
  refine yM rfl ?_
  refine yM rfl ?_
  refine yM rfl ?_
  refine h_call ((Part_s m B c d false hd (by omega)).comes) rfl rfl rfl fun ⟨A33, c33⟩ => ?_
  refine yM rfl ?_
  refine h_op (r_add rfl rfl) ?_
  refine h_call ((i1 (by omega) (hv.part d false) A33 c33).comes) rfl rfl rfl fun _ => ?_
  refine h_opX (x_alloc) fun g7 => ?_
  refine h_opS (s_storer rfl rfl) ?_
  refine yN ?_
  refine yR ?_
  refine yM rfl ?_
  refine yM rfl ?_
  refine yM rfl ?_
  refine h_call ((Part_s m B c d true hd (by omega)).comes) rfl rfl rfl fun ⟨A40, c40⟩ => ?_
  refine yM rfl ?_
  refine h_op (r_add rfl rfl) ?_
  refine h_call ((i2 (by omega) (hv.part d true) A40 c40).comes) rfl rfl rfl fun _ => ?_
  refine h_opX (x_alloc) fun g8 => ?_
  refine h_opS (s_storer rfl rfl) ?_
  refine yN ?_
  refine yR ?_
  refine yM rfl ?_
  refine h_op (r_loadr rfl) ?_
  refine h_op (r_loadr rfl) ?_
  refine h_call ((rNode_s (rootM n (part m d false) (d + 1)) (rootM n (part m d true) (d + 1))).comes) rfl rfl rfl fun ⟨g47, c47⟩ => ?_
  refine h_call ((refSum5_s n hn (preN (rootM n (part m d false) (d + 1)) (rootM n (part m d true) (d + 1))) (some ⟨g47, 0, none⟩) c47 (fun h => by cases h) (by rw [preN_len]; decide)).comes) rfl rfl rfl fun _ => ?_
  refine h_opS (s_storer rfl rfl) ?_
  refine yN ?_
  refine h_ret ?_
  exact h_ret1 rfl (rv_row rfl) fun w s => ⟨(), rfl, s.res (List.nil_sublist _) (by simp)⟩
end Go.Proofs.YtjhlbbgikccclaaGreatDoor
/- U41 -/
namespace Go.Proofs.YtjhlbbgikccclaaGreatDoor
open Go.RowKit
theorem ValsZ.of {h : Zh} {l : List En} (x : ValsZ h l) : ValsZ h (ofM l) := fun e he => x e (ofM_mem he)
end Go.Proofs.YtjhlbbgikccclaaGreatDoor
