/- multi: the digest of a subtree; multiproofs: the reference's Skip; multiproofs: the reference's Check; multiproofs: Root; the reference's Digest and Preimage; Multiproofs as the flat lists of their subtrees: plain; key.Split; multi.add; The reference's view of the keys below a prefix; heights, sizes: plain; How long a multiproof is: plain; The bytes of a multiproof: plain; What decoding a multiproof computes, for all bytes: plain; The example of chapter 18: plain; The reference's proof of a map: List, Bytes, End, Sibling; law15.alive: it is true; The reference's proof of a map; The laws' trees: inputs that they leave out; a key's way; law15: ProofIsTrue is true; The zero proof is well-formed; law16.alive: it is true; law16: FoldLeads is true; A proof's bytes, decoded; a claim against a map's proof: plain; The bytes of a multiproof decode to it: plain (joined texts: U64 U65 U66 U67 E18 U70 U71 E19 E20 E26 E27 E24 U49 U46 U50 U51t U52 U26z U27 U55 E25 E28) -/
import Derived.Test.YtjhocljhhpkiiaaGreatDoorG12
set_option linter.all false
/- U64 -/
namespace Go.Proofs.YtjhocljhhpkiiaaGreatDoor
set_option linter.unusedSimpArgs false
set_option linter.unusedVariables false
open Go.RowKit
def preI (x : Item) : List UInt8 := if x.kind = 1 then preL x.leaf else preE
def dgS (n : Nat) : Sub → B32
  | .one x => if x.kind = 3 then x.digest else sumB n (preI x)
  | .two l r => sumB n (preN (dgS n l) (dgS n r))
def Sub.cost : Sub → Nat
  | .one x => if x.kind = 3 then 0 else 1
  | .two l r => l.cost + r.cost + 1
def Sub.dig : Sub → FuncId
  | .one _ => 249
  | .two _ _ => 248
instance iU64_1 : MethT Tryz.prog 235 "sparsetree/multi.digest" 249 := ⟨fun v args w => by kernel_rfl⟩
instance iU64_2 : MethT Tryz.prog 232 "sparsetree/multi.digest" 248 := ⟨fun v args w => by kernel_rfl⟩
instance (t : Sub) : MethT Tryz.prog t.tag "sparsetree/multi.digest" t.dig := by
  cases t
  · exact inferInstanceAs (MethT Tryz.prog 235 _ 249)
  · exact inferInstanceAs (MethT Tryz.prog 232 _ 248)
instance (t : Sub) : Ent Tryz.prog t.dig := by
  cases t
  · exact inferInstanceAs (Ent Tryz.prog 249)
  · exact inferInstanceAs (Ent Tryz.prog 248)
theorem preI_len (x : Item) : (preI x).length ≤ 65 := by
  unfold preI
  split
  · rw [preL_len]; exact Nat.le_refl _
  · decide
theorem epre_s (x : Item) : Spec Tryz.prog 148 [.agg x.cells.toArray].toArray [] [] (fun u : Nat × Nat => .slice (some ⟨u.1, 0, none⟩) (preI x).length u.2) (fun u => [.own (.slice (some ⟨u.1, 0, none⟩) (preI x).length u.2) (preI x).length 5 1 (bc (preI x))]) := by
  refine spec_of Tryz.func148 rfl (n := 12) rfl rfl ?_
  intro W
  by_cases hk : x.kind = 1
  · rw [show preI x = preL x.leaf from if_pos hk]
    refine h_seq ?_
    refine h_reg ?_
    refine h_opX (x_box rfl) fun g1 => ?_
    refine h_op (r_assign rfl) ?_
    refine h_nil ?_
    refine q_then ?_
    refine h_seq ?_
    refine h_seq ?_
    refine h_reg ?_
    refine h_op (r_field rfl) ?_
    refine h_op (r_field rfl) ?_
    refine h_op (r_loadc rfl) ?_
    refine h_op (r_bool (r_eql rfl rfl) (decide_eq_true hk)) ?_
    refine h_nil ?_
    refine q_then ?_
    refine h_condT rfl ?_
    refine h_seq ?_
    refine h_reg ?_
    refine h_op (r_field rfl) ?_
    refine h_op (r_field rfl) ?_
    refine h_op (r_loadr rfl) ?_
    refine h_call ((pLeaf_s x.leaf).comes) rfl rfl rfl fun ⟨g10, c10⟩ => ?_
    refine h_op (r_assign rfl) ?_
    refine h_nil ?_
    refine q_then ?_
    refine h_ret ?_
    refine q_thenR ?_
    exact h_ret1 rfl rfl fun w s => ⟨(g10, c10), rfl, (same w s).res (List.Sublist.refl _) (by simp [Fa.wr])⟩
  · rw [show preI x = preE from if_neg hk, show preE.length = 1 from rfl]
    refine h_seq ?_
    refine h_reg ?_
    refine h_opX (x_box rfl) fun g1 => ?_
    refine h_op (r_assign rfl) ?_
    refine h_nil ?_
    refine q_then ?_
    refine h_seq ?_
    refine h_seq ?_
    refine h_reg ?_
    refine h_op (r_field rfl) ?_
    refine h_op (r_field rfl) ?_
    refine h_op (r_loadc rfl) ?_
    refine h_op (r_bool (r_eql rfl rfl) (decide_eq_false hk)) ?_
    refine h_nil ?_
    refine q_then ?_
    refine h_condF rfl ?_
    refine h_skip ?_
    refine q_then ?_
    refine h_seq ?_
    refine h_reg ?_
    refine h_call ((pEmpty_s).comes) rfl rfl rfl fun ⟨g11, c11⟩ => ?_
    refine h_op (r_assign rfl) ?_
    refine h_nil ?_
    refine q_then ?_
    refine h_ret ?_
    exact h_ret1 rfl rfl fun w s => ⟨(g11, c11), rfl, (same w s).res (List.Sublist.refl _) (by simp [Fa.wr])⟩
section
variable (n : Nat) (hn : n ≤ 256) (gh gc : Nat)
include hn
theorem edig_s (x : Item) (k : Nat) (hk : k ≤ 100000000000) : Spec Tryz.prog 249 [.agg x.cells.toArray, .pointer (some ⟨gh, 0, none⟩)].toArray [HR gh gc n, TBL] [CN gc k] (fun _ : Unit => .agg (dgS n (.one x)).cells.toArray) (fun _ => [CN gc (k + (Sub.one x).cost)]) := by
  have hl := preI_len x
  unfold dgS Sub.cost
  refine spec_of Tryz.func249 rfl (n := 16) rfl rfl ?_
  intro W
  by_cases h3 : x.kind = 3
  · rw [if_pos h3, if_pos h3]
    refine h_seq ?_
    refine h_reg ?_
    refine h_opX (x_box rfl) fun g2 => ?_
    refine h_opX (x_alloc) fun g4 => ?_
    refine h_nil ?_
    refine q_then ?_
    refine h_seq ?_
    refine h_seq ?_
    refine h_reg ?_
    refine h_op (r_field rfl) ?_
    refine h_op (r_field rfl) ?_
    refine h_op (r_loadc rfl) ?_
    refine h_op (r_bool (r_eql rfl rfl) (decide_eq_true h3)) ?_
    refine h_nil ?_
    refine q_then ?_
    refine h_condT rfl ?_
    refine h_seq ?_
    refine h_reg ?_
    refine h_op (r_field rfl) ?_
    refine h_op (r_field rfl) ?_
    refine h_op (r_loadr rfl) ?_
    refine h_opS (s_storer rfl rfl) ?_
    refine h_nil ?_
    refine q_then ?_
    refine h_ret ?_
    refine q_thenR ?_
    exact h_ret1 rfl (rv_row rfl) fun w s => ⟨(), rfl, (same (L' := [CN gc k]) w s).res (List.Sublist.refl _) (by simp [Fa.wr])⟩
  · rw [if_neg h3, if_neg h3]
    refine h_seq ?_
    refine h_reg ?_
    refine h_opX (x_box rfl) fun g2 => ?_
    refine h_opX (x_alloc) fun g4 => ?_
    refine h_nil ?_
    refine q_then ?_
    refine h_seq ?_
    refine h_seq ?_
    refine h_reg ?_
    refine h_op (r_field rfl) ?_
    refine h_op (r_field rfl) ?_
    refine h_op (r_loadc rfl) ?_
    refine h_op (r_bool (r_eql rfl rfl) (decide_eq_false h3)) ?_
    refine h_nil ?_
    refine q_then ?_
    refine h_condF rfl ?_
    refine h_skip ?_
    refine q_then ?_
    refine h_seq ?_
    refine h_reg ?_
    refine h_op (r_move rfl) ?_
    refine h_op (r_loadr rfl) ?_
    refine h_call ((epre_s x).comes) rfl rfl rfl fun ⟨g14, c14⟩ => ?_
    refine h_call ((HSum_s n hn gh gc k (by omega) (preI x) (some ⟨g14, 0, none⟩) c14 (fun h => by cases h) (by omega)).comes) rfl rfl rfl fun _ => ?_
    refine h_opS (s_storer rfl rfl) ?_
    refine h_nil ?_
    refine q_then ?_
    refine h_ret ?_
    exact h_ret1 rfl (rv_row rfl) fun w s => ⟨(), rfl, (same (L' := [CN gc (k + 1)]) w s).res (List.Sublist.refl _) (by simp [Fa.wr])⟩
/-- what a subtree's digest brings -/
def DigS (t : Sub) : Prop := ∀ k, k + t.cost ≤ 100000000000 → Spec Tryz.prog t.dig [t.val, .pointer (some ⟨gh, 0, none⟩)].toArray [HR gh gc n, TBL] [CN gc k] (fun _ : Unit => .agg (dgS n t).cells.toArray) (fun _ => [CN gc (k + t.cost)])
omit hn in
theorem ppre_s (l r : Sub) (hl : DigS n gh gc l) (hr : DigS n gh gc r) (k : Nat) (hk : k + (l.cost + r.cost) ≤ 100000000000) : Spec Tryz.prog 146 [(Sub.two l r).val, .pointer (some ⟨gh, 0, none⟩)].toArray [HR gh gc n, TBL] [CN gc k] (fun u : Nat × Nat => .slice (some ⟨u.1, 0, none⟩) (preN (dgS n l) (dgS n r)).length u.2) (fun u => [.own (.slice (some ⟨u.1, 0, none⟩) (preN (dgS n l) (dgS n r)).length u.2) (preN (dgS n l) (dgS n r)).length 5 1 (bc (preN (dgS n l) (dgS n r))), CN gc (k + l.cost + r.cost)]) := by
  refine spec_of Tryz.func146 rfl (n := 14) rfl rfl ?_
  intro W
  change H _ _ _ _ (argsEnv 0 [.agg [.iface l.tag l.val, .iface r.tag r.val].toArray, .pointer (some ⟨gh, 0, none⟩)]) _ _
  refine h_seq ?_
  refine h_reg ?_
  refine h_opX (x_box rfl) fun g2 => ?_
  refine h_op (r_assign rfl) ?_
  refine h_nil ?_
  refine q_then ?_
  refine h_seq ?_
  refine ha_start [.blk g2 [.iface l.tag l.val, .iface r.tag r.val] 232] [] mixed (same) ?_
  refine ha_takeP 0 rfl (r_idxA rfl rfl) ?_
  refine ha_take 1 rfl (r_loadc rfl) ?_
  refine ha_takeP 2 rfl (r_move rfl) ?_
  refine ha_takeP 4 rfl (r_idxA rfl rfl) ?_
  refine ha_take 5 rfl (r_loadc rfl) ?_
  refine ha_takeP 6 rfl (r_move rfl) ?_
  refine ha_one 3 ?_
  refine ho_CM 3 rfl ((hl k (by omega)).comes) rfl rfl rfl (fun xx => same) fun _ => ?_
  refine ha_one 7 ?_
  refine ho_CM 7 rfl ((hr (k + l.cost) (by omega)).comes) rfl rfl rfl (fun xx => same) fun _ => ?_
  refine ha_one 8 ?_
  refine ho_C 8 rfl ((pNode_s (dgS n l) (dgS n r)).comes) rfl rfl rfl (fun xx => same) fun ⟨g13, c13⟩ => ?_
  refine ha_takeP 9 rfl (r_assign rfl) ?_
  refine ha_done (by kernel_rfl) ?_
  refine q_then ?_
  refine h_ret ?_
  exact h_ret1 rfl rfl fun w s => ⟨(g13, c13), rfl, (same w s).res (List.Sublist.refl _) (by simp [Fa.wr])⟩
theorem dig_s : ∀ t : Sub, DigS n gh gc t
  | .one x => fun k hk => edig_s n hn gh gc x k (by omega)
  | .two l r => fun k hk => by
    have ihl := dig_s l
    have ihr := dig_s r
    have hk' : k + (l.cost + r.cost + 1) ≤ 100000000000 := hk
    show Spec Tryz.prog 248 _ _ _ _ (fun _ => [CN gc (k + (l.cost + r.cost + 1))])
    unfold dgS
    have hP := ppre_s n gh gc l r ihl ihr k (by omega)
    have hpl := preN_len (dgS n l) (dgS n r)
    rw [show k + (l.cost + r.cost + 1) = k + l.cost + r.cost + 1 by omega]
    refine spec_of Tryz.func248 rfl (n := 10) rfl rfl ?_
    intro W
    change H _ _ _ _ (argsEnv 0 [.agg [.iface l.tag l.val, .iface r.tag r.val].toArray, .pointer (some ⟨gh, 0, none⟩)]) _ _
    refine h_seq ?_
    refine h_reg ?_
    refine h_opX (x_box rfl) fun g2 => ?_
    refine h_opX (x_alloc) fun g4 => ?_
    refine h_nil ?_
    refine q_then ?_
    refine h_seq ?_
    refine h_reg ?_
    refine h_op (r_move rfl) ?_
    refine h_op (r_loadr rfl) ?_
    refine h_op (r_move rfl) ?_
    refine h_call (hP.comes) rfl rfl rfl fun ⟨g8, c8⟩ => ?_
    dsimp only
    refine h_call ((HSum_s n hn gh gc (k + l.cost + r.cost) (by omega) (preN (dgS n l) (dgS n r)) (some ⟨g8, 0, none⟩) c8 (fun h => by cases h) (by omega)).comes) rfl rfl rfl fun _ => ?_
    refine h_opS (s_storer rfl rfl) ?_
    refine h_nil ?_
    refine q_then ?_
    refine h_ret ?_
    exact h_ret1 rfl (rv_row rfl) fun w s => ⟨(), rfl, (same (L' := [CN gc (k + l.cost + r.cost + 1)]) w s).res (List.Sublist.refl _) (by simp [Fa.wr])⟩
end
end Go.Proofs.YtjhocljhhpkiiaaGreatDoor
/- U65 -/
namespace Go.Proofs.YtjhocljhhpkiiaaGreatDoor
set_option linter.unusedSimpArgs false
set_option linter.unusedVariables false
open Go.RowKit
theorem its_kind {l : List Item} {k : Nat} {x : Item} (h : l[k]? = some x) : (its l)[k * 97]? = some (.int .i64 x.kind) := by
  have := its_at h 0 (.int .i64 x.kind) (by simp [Item.cells])
  rwa [Nat.add_zero] at this
theorem Skip_neg (l : List Item) (A : Option Addr) (c : Nat) (i : Int) : Spec Tryz.prog 93 [.slice A l.length c, .int .i64 (-1), .int .i64 i].toArray [.rd A (its l)] [] (fun _ : Unit => .int .i64 (-1)) (fun _ => []) := by
  refine spec_of Tryz.func93 rfl (n := 45) rfl rfl ?_
  intro W
  refine h_seq ?_
  refine h_reg ?_
  refine h_op (r_assign rfl) ?_
  refine h_nil ?_
  refine q_then ?_
  refine h_seq ?_
  refine h_seq ?_
  refine h_reg ?_
  refine h_op (r_move rfl) ?_
  refine h_op (r_bool (r_lss rfl rfl) (show _ = true from rfl)) ?_
  refine h_op (r_move rfl) ?_
  refine h_opOff ?_
  refine h_opOff ?_
  refine h_opOff ?_
  refine h_opOff ?_
  refine h_op (r_pick rfl rfl) ?_
  refine h_op (r_move rfl) ?_
  refine h_opOff ?_
  refine h_opOff ?_
  refine h_opOff ?_
  refine h_opOff ?_
  refine h_opOff ?_
  refine h_opOff ?_
  refine h_opOff ?_
  refine h_opOff ?_
  refine h_opOff ?_
  refine h_opOff ?_
  refine h_op (r_pick rfl rfl) ?_
  refine h_nil ?_
  refine q_then ?_
  refine h_condT rfl ?_
  refine h_seq ?_
  refine h_reg ?_
  refine h_op (r_assign rfl) ?_
  refine h_nil ?_
  refine q_then ?_
  refine h_ret ?_
  refine q_thenR ?_
  exact h_ret1 rfl rfl fun w s => ⟨(), rfl, s.res (List.nil_sublist _) (by simp)⟩
theorem Skip_end (l : List Item) (A : Option Addr) (c at_ : Nat) (h : l.length ≤ at_) (i : Int) : Spec Tryz.prog 93 [.slice A l.length c, .int .i64 (at_ : Int), .int .i64 i].toArray [.rd A (its l)] [] (fun _ : Unit => .int .i64 (-1)) (fun _ => []) := by
  refine spec_of Tryz.func93 rfl (n := 45) rfl rfl ?_
  intro W
  refine h_seq ?_
  refine h_reg ?_
  refine h_op (r_assign rfl) ?_
  refine h_nil ?_
  refine q_then ?_
  refine h_seq ?_
  refine h_seq ?_
  refine h_reg ?_
  refine h_op (r_move rfl) ?_
  refine h_op (r_bool (r_lss rfl rfl) (decide_eq_false (by omega))) ?_
  refine h_op (r_move rfl) ?_
  refine h_op (r_move rfl) ?_
  refine h_op (r_move rfl) ?_
  refine h_op (r_len rfl) ?_
  refine h_op (r_bool (r_geq rfl rfl) (decide_eq_true (by omega))) ?_
  refine h_op (r_pick rfl rfl) ?_
  refine h_op (r_move rfl) ?_
  refine h_opOff ?_
  refine h_opOff ?_
  refine h_opOff ?_
  refine h_opOff ?_
  refine h_opOff ?_
  refine h_opOff ?_
  refine h_opOff ?_
  refine h_opOff ?_
  refine h_opOff ?_
  refine h_opOff ?_
  refine h_op (r_pick rfl rfl) ?_
  refine h_nil ?_
  refine q_then ?_
  refine h_condT rfl ?_
  refine h_seq ?_
  refine h_reg ?_
  refine h_op (r_assign rfl) ?_
  refine h_nil ?_
  refine q_then ?_
  refine h_ret ?_
  refine q_thenR ?_
  exact h_ret1 rfl rfl fun w s => ⟨(), rfl, s.res (List.nil_sublist _) (by simp)⟩
section
variable (l : List Item) (A : Option Addr) (c : Nat) (at_ : Nat) (x : Item) (hx : l[at_]? = some x) (hl : l.length ≤ 1000000)
include hx hl
theorem Skip_one (hk : x.kind ≠ 2) (i : Int) : Spec Tryz.prog 93 [.slice A l.length c, .int .i64 (at_ : Int), .int .i64 i].toArray [.rd A (its l)] [] (fun _ : Unit => .int .i64 ((at_ + 1 : Nat) : Int)) (fun _ => []) := by
  have hat : at_ < l.length := (List.getElem?_eq_some_iff.1 hx).1
  have hki := its_kind hx
  refine spec_of Tryz.func93 rfl (n := 45) rfl rfl ?_
  intro W
  refine h_pure (φ := ∃ b o, A = some ⟨b, o, none⟩) (fun w s => Rd.some (s.ok (.rd A (its l)) (by simp)) (by rw [its_len]; omega)) ?_
  rintro ⟨b, o, rfl⟩
  refine h_seq ?_
  refine h_reg ?_
  refine h_op (r_assign rfl) ?_
  refine h_nil ?_
  refine q_then ?_
  refine h_seq ?_
  refine h_seq ?_
  refine h_reg ?_
  refine h_op (r_move rfl) ?_
  refine h_op (r_bool (r_lss rfl rfl) (decide_eq_false (by omega))) ?_
  refine h_op (r_move rfl) ?_
  refine h_op (r_move rfl) ?_
  refine h_op (r_move rfl) ?_
  refine h_op (r_len rfl) ?_
  refine h_op (r_bool (r_geq rfl rfl) (decide_eq_false (by omega))) ?_
  refine h_op (r_pick rfl rfl) ?_
  refine h_op (r_move rfl) ?_
  refine h_op (r_move rfl) ?_
  refine h_op (r_move rfl) ?_
  refine h_op (r_idx rfl rfl) ?_
  refine h_op (r_field rfl) ?_
  refine h_op (r_nth rfl hki) ?_
  refine h_op (r_bool (r_eql rfl rfl) (decide_eq_false hk)) ?_
  refine h_op (r_move rfl) ?_
  refine h_opOff ?_
  refine h_opOff ?_
  refine h_op (r_pick rfl rfl) ?_
  refine h_op (r_pick rfl rfl) ?_
  refine h_nil ?_
  refine q_then ?_
  refine h_condF rfl ?_
  refine h_skip ?_
  refine q_then ?_
  refine h_seq ?_
  refine h_seq ?_
  refine h_reg ?_
  refine h_op (r_move rfl) ?_
  refine h_op (r_move rfl) ?_
  refine h_op (r_idx rfl rfl) ?_
  refine h_op (r_field rfl) ?_
  refine h_op (r_nth rfl hki) ?_
  refine h_op (r_bool (r_neq rfl rfl) (decide_eq_true hk)) ?_
  refine h_nil ?_
  refine q_then ?_
  refine h_condT rfl ?_
  refine h_seq ?_
  refine h_reg ?_
  refine h_op (r_move rfl) ?_
  refine h_op (r_add rfl rfl) ?_
  refine h_op (r_assign rfl) ?_
  refine h_nil ?_
  refine q_then ?_
  refine h_ret ?_
  refine q_thenR ?_
  exact h_ret1 rfl rfl fun w s => ⟨(), rfl, s.res (List.nil_sublist _) (by simp)⟩
theorem Skip_deep (hk : x.kind = 2) (i : Int) (hi : 255 < i) : Spec Tryz.prog 93 [.slice A l.length c, .int .i64 (at_ : Int), .int .i64 i].toArray [.rd A (its l)] [] (fun _ : Unit => .int .i64 (-1)) (fun _ => []) := by
  have hat : at_ < l.length := (List.getElem?_eq_some_iff.1 hx).1
  have hki := its_kind hx
  refine spec_of Tryz.func93 rfl (n := 45) rfl rfl ?_
  intro W
  refine h_pure (φ := ∃ b o, A = some ⟨b, o, none⟩) (fun w s => Rd.some (s.ok (.rd A (its l)) (by simp)) (by rw [its_len]; omega)) ?_
  rintro ⟨b, o, rfl⟩
  refine h_seq ?_
  refine h_reg ?_
  refine h_op (r_assign rfl) ?_
  refine h_nil ?_
  refine q_then ?_
  refine h_seq ?_
  refine h_seq ?_
  refine h_reg ?_
  refine h_op (r_move rfl) ?_
  refine h_op (r_bool (r_lss rfl rfl) (decide_eq_false (by omega))) ?_
  refine h_op (r_move rfl) ?_
  refine h_op (r_move rfl) ?_
  refine h_op (r_move rfl) ?_
  refine h_op (r_len rfl) ?_
  refine h_op (r_bool (r_geq rfl rfl) (decide_eq_false (by omega))) ?_
  refine h_op (r_pick rfl rfl) ?_
  refine h_op (r_move rfl) ?_
  refine h_op (r_move rfl) ?_
  refine h_op (r_move rfl) ?_
  refine h_op (r_idx rfl rfl) ?_
  refine h_op (r_field rfl) ?_
  refine h_op (r_nth rfl hki) ?_
  refine h_op (r_bool (r_eql rfl rfl) (decide_eq_true hk)) ?_
  refine h_op (r_move rfl) ?_
  refine h_op (r_move rfl) ?_
  refine h_op (r_bool (r_gtr rfl rfl) (decide_eq_true (by omega))) ?_
  refine h_op (r_pick rfl rfl) ?_
  refine h_op (r_pick rfl rfl) ?_
  refine h_nil ?_
  refine q_then ?_
  refine h_condT rfl ?_
  refine h_seq ?_
  refine h_reg ?_
  refine h_op (r_assign rfl) ?_
  refine h_nil ?_
  refine q_then ?_
  refine h_ret ?_
  refine q_thenR ?_
  exact h_ret1 rfl rfl fun w s => ⟨(), rfl, s.res (List.nil_sublist _) (by simp)⟩
theorem Skip_two (hk : x.kind = 2) (d : Nat) (hd : d < 256) (r1 r2 : Int) (h1 : Spec Tryz.prog 93 [.slice A l.length c, .int .i64 ((at_ + 1 : Nat) : Int), .int .i64 (256 - (d : Int))].toArray [.rd A (its l)] [] (fun _ : Unit => .int .i64 r1) (fun _ => []))
    (h2 : Spec Tryz.prog 93 [.slice A l.length c, .int .i64 r1, .int .i64 (256 - (d : Int))].toArray [.rd A (its l)] [] (fun _ : Unit => .int .i64 r2) (fun _ => [])) : Spec Tryz.prog 93 [.slice A l.length c, .int .i64 (at_ : Int), .int .i64 (256 - ((d + 1 : Nat) : Int))].toArray [.rd A (its l)] [] (fun _ : Unit => .int .i64 r2) (fun _ => []) := by
  have hat : at_ < l.length := (List.getElem?_eq_some_iff.1 hx).1
  have hki := its_kind hx
  refine spec_of Tryz.func93 rfl (n := 45) rfl rfl ?_
  intro W
  refine h_pure (φ := ∃ b o, A = some ⟨b, o, none⟩) (fun w s => Rd.some (s.ok (.rd A (its l)) (by simp)) (by rw [its_len]; omega)) ?_
  rintro ⟨b, o, rfl⟩
  refine h_seq ?_
  refine h_reg ?_
  refine h_op (r_assign rfl) ?_
  refine h_nil ?_
  refine q_then ?_
  refine h_seq ?_
  refine h_seq ?_
  refine h_reg ?_
  refine h_op (r_move rfl) ?_
  refine h_op (r_bool (r_lss rfl rfl) (decide_eq_false (by omega))) ?_
  refine h_op (r_move rfl) ?_
  refine h_op (r_move rfl) ?_
  refine h_op (r_move rfl) ?_
  refine h_op (r_len rfl) ?_
  refine h_op (r_bool (r_geq rfl rfl) (decide_eq_false (by omega))) ?_
  refine h_op (r_pick rfl rfl) ?_
  refine h_op (r_move rfl) ?_
  refine h_op (r_move rfl) ?_
  refine h_op (r_move rfl) ?_
  refine h_op (r_idx rfl rfl) ?_
  refine h_op (r_field rfl) ?_
  refine h_op (r_nth rfl hki) ?_
  refine h_op (r_bool (r_eql rfl rfl) (decide_eq_true hk)) ?_
  refine h_op (r_move rfl) ?_
  refine h_op (r_move rfl) ?_
  refine h_op (r_bool (r_gtr rfl rfl) (decide_eq_false (by omega))) ?_
  refine h_op (r_pick rfl rfl) ?_
  refine h_op (r_pick rfl rfl) ?_
  refine h_nil ?_
  refine q_then ?_
  refine h_condF rfl ?_
  refine h_skip ?_
  refine q_then ?_
  refine h_seq ?_
  refine h_seq ?_
  refine h_reg ?_
  refine h_op (r_move rfl) ?_
  refine h_op (r_move rfl) ?_
  refine h_op (r_idx rfl rfl) ?_
  refine h_op (r_field rfl) ?_
  refine h_op (r_nth rfl hki) ?_
  refine h_op (r_bool (r_neq rfl rfl) (decide_eq_false (fun h => h hk))) ?_
  refine h_nil ?_
  refine q_then ?_
  refine h_condF rfl ?_
  refine h_skip ?_
  refine q_then ?_
  refine h_seq ?_
  refine h_reg ?_
  refine h_op (r_move rfl) ?_
  refine h_op (r_move rfl) ?_
  refine h_op (r_move rfl) ?_
  refine h_op (r_int (r_add rfl rfl) (show _ = ((at_ + 1 : Nat) : Int) by omega)) ?_
  refine h_op (r_move rfl) ?_
  refine h_op (r_int (r_add rfl rfl) (show _ = 256 - (d : Int) by omega)) ?_
  refine h_call (h1.comes) rfl rfl rfl fun _ => ?_
  refine h_op (r_move rfl) ?_
  refine h_op (r_int (r_add rfl rfl) (show _ = 256 - (d : Int) by omega)) ?_
  refine h_call (h2.comes) rfl rfl rfl fun _ => ?_
  refine h_op (r_assign rfl) ?_
  refine h_nil ?_
  refine q_then ?_
  refine h_ret ?_
  exact h_ret1 rfl rfl fun w s => ⟨(), rfl, s.res (List.nil_sublist _) (by simp)⟩
end
theorem drop_get {l : List Item} {k : Nat} {x : Item} (h : l[k]? = some x) : l.drop k = x :: l.drop (k + 1) := by
  obtain ⟨h1, h2⟩ := List.getElem?_eq_some_iff.1 h
  rw [List.drop_eq_getElem_cons h1, h2]
theorem Skip_s (l : List Item) (A : Option Addr) (c : Nat) (hl : l.length ≤ 1000000) : ∀ (d : Nat), d ≤ 256 → ∀ at_ : Nat, Spec Tryz.prog 93 [.slice A l.length c, .int .i64 (at_ : Int), .int .i64 (256 - (d : Int))].toArray [.rd A (its l)] [] (fun _ : Unit => .int .i64 (skipI l (readM d (l.drop at_)))) (fun _ => [])
  | d, hd, at_ => by
    cases hx : l[at_]? with
    | none =>
      have h1 := List.getElem?_eq_none_iff.1 hx
      rw [List.drop_of_length_le h1, show readM d [] = none by cases d <;> rfl]
      exact Skip_end l A c at_ h1 _
    | some x =>
      have hat : at_ < l.length := (List.getElem?_eq_some_iff.1 hx).1
      rw [drop_get hx]
      by_cases hk : x.kind = 2
      · match d, hd with
        | 0, _ =>
          rw [show readM 0 (x :: l.drop (at_ + 1)) = none by unfold readM; rw [if_pos hk]]
          exact Skip_deep l A c at_ x hx hl hk _ (by simp)
        | d + 1, hd =>
          have h1 := Skip_s l A c hl d (by omega) (at_ + 1)
          have e : readM (d + 1) (x :: l.drop (at_ + 1)) = (readM d (l.drop (at_ + 1))).bind fun p => (readM d p.2).bind fun q => some (.two p.1 q.1, q.2) := by
            conv => lhs; unfold readM
            rw [if_pos hk]
          rw [e]
          cases hm : readM d (l.drop (at_ + 1)) with
          | none =>
            rw [hm] at h1
            exact Skip_two l A c at_ x hx hl hk d (by omega) _ _ h1 (Skip_neg l A c _)
          | some p =>
            obtain ⟨t, rest⟩ := p
            obtain ⟨m, hm0, hml, rfl⟩ := readM_suffix d _ t rest hm
            rw [hm] at h1
            rw [List.length_drop] at hml
            have e2 : skipI l (some (t, (l.drop (at_ + 1)).drop m)) = ((at_ + 1 + m : Nat) : Int) := by
              simp only [skipI, List.length_drop]; omega
            rw [e2] at h1
            have h2 := Skip_s l A c hl d (by omega) (at_ + 1 + m)
            rw [← List.drop_drop] at h2
            have h3 := Skip_two l A c at_ x hx hl hk d (by omega) _ _ h1 h2
            have e3 : skipI l (readM d ((l.drop (at_ + 1)).drop m)) = skipI l ((some (t, (l.drop (at_ + 1)).drop m)).bind fun p => (readM d p.2).bind fun q => some (Sub.two p.1 q.1, q.2)) := by
              show _ = skipI l ((readM d ((l.drop (at_ + 1)).drop m)).bind fun q => some (Sub.two t q.1, q.2))
              cases readM d ((l.drop (at_ + 1)).drop m) <;> rfl
            rw [← e3]
            exact h3
      · rw [show readM d (x :: l.drop (at_ + 1)) = some (.one x, l.drop (at_ + 1)) by cases d <;> (unfold readM; rw [if_neg hk])]
        rw [show skipI l (some (Sub.one x, l.drop (at_ + 1))) = ((at_ + 1 : Nat) : Int) by simp only [skipI, List.length_drop]; omega]
        exact Skip_one l A c at_ x hx hl hk _
termination_by d => d
end Go.Proofs.YtjhocljhhpkiiaaGreatDoor
/- U66 -/
namespace Go.Proofs.YtjhocljhhpkiiaaGreatDoor
set_option linter.unusedSimpArgs false
set_option linter.unusedVariables false
open Go.RowKit
theorem its_dg {l : List Item} {k : Nat} {x : Item} (h : l[k]? = some x) : ∀ j v, x.digest.cells[j]? = some v → (its l)[k * 97 + 1 + j]? = some v := fun j v hv => by
  have := its_at h (1 + j) v (by
    show (.int .i64 x.kind :: (x.digest.cells ++ x.leaf.cells))[1 + j]? = some v
    rw [Nat.add_comm, List.getElem?_cons_succ, List.getElem?_append_left (List.getElem?_eq_some_iff.1 hv).1]
    exact hv)
  rwa [Nat.add_assoc]
theorem its_lf {l : List Item} {k : Nat} {x : Item} (h : l[k]? = some x) : ∀ j v, x.leaf.cells[j]? = some v → (its l)[k * 97 + 33 + j]? = some v := fun j v hv => by
  have := its_at h (33 + j) v (by
    show (.int .i64 x.kind :: (x.digest.cells ++ x.leaf.cells))[33 + j]? = some v
    rw [show 33 + j = (32 + j) + 1 by omega, List.getElem?_cons_succ, List.getElem?_append_right (by rw [B32.cells_length]; omega), B32.cells_length, Nat.add_sub_cancel_left]
    exact hv)
  rwa [Nat.add_assoc]
theorem all_bad {α : Type} {p : α → Bool} {l : List α} {k : Nat} {x : α} (h : l[k]? = some x) (hp : p x = false) : ¬ l.all p = true := fun ha => by
  have := List.all_eq_true.1 ha x (List.mem_of_getElem? h)
  rw [hp] at this
  cases this
theorem rCheck19_s (l : List Item) (A : Option Addr) (c : Nat) (hl : l.length ≤ 1000000) : Spec Tryz.prog 40 [.slice A l.length c].toArray [.rd A (its l)] [] (fun _ : Unit => .int .i64 (checkM l)) (fun _ => []) := by
  rw [checkM_eq]
  have hSk := Skip_s l A c hl 256 (Nat.le_refl _) 0
  rw [List.drop_zero, show (256 - ((256 : Nat) : Int)) = 0 from rfl] at hSk
  refine spec_of Tryz.func40 rfl (n := 75) rfl rfl ?_
  intro W
  refine h_seq ?_
  refine h_reg ?_
  refine h_op (r_assign rfl) ?_
  refine h_nil ?_
  refine q_then ?_
  refine h_seq ?_
  refine h_reg ?_
  refine h_opX (x_alloc) fun g3 => ?_
  refine h_nil ?_
  refine q_then ?_
  refine h_seq ?_
  refine h_reg ?_
  refine h_opX (x_alloc) fun g4 => ?_
  refine h_nil ?_
  refine q_then ?_
  refine h_seq ?_
  refine h_seq ?_
  refine h_reg ?_
  refine h_op (r_assign rfl) ?_
  refine h_nil ?_
  refine q_then ?_
  refine h_block ?_
  refine h_loop (fun (k : Nat) => k ≤ l.length ∧ (l.take k).all kindOk = true) (fun (k : Nat) => [(5, .int .i64 (k : Int)), (0, .slice A l.length c), (3, .pointer (some ⟨g3, 0, none⟩)), (4, .pointer (some ⟨g4, 0, none⟩))]) (fun (k : Nat) => [.blk g4 zLeaf.cells 51, .blk g3 zB32.cells 42, .rd A (its l)]) (fun (k : Nat) => l.length - k) 0 (⟨Nat.zero_le _, rfl⟩) ⟨rfl, rfl, rfl, rfl, trivial⟩ (same) ?_
  rintro k ⟨hk, hok⟩
  refine h_seq ?_
  refine h_seq ?_
  refine h_reg ?_
  refine h_op (r_move rfl) ?_
  refine h_op (r_move rfl) ?_
  refine h_op (r_len rfl) ?_
  refine h_op (r_lss rfl rfl) ?_
  refine h_nil ?_
  refine q_then ?_
  refine h_cond rfl (fun hlt => ?_) (fun hlt => ?_)
  · have hk2 : k < l.length := by omega
    obtain ⟨x, hx⟩ : ∃ x, l[k]? = some x := ⟨_, List.getElem?_eq_getElem hk2⟩
    have hki := its_kind hx
    have hak := all_take kindOk l k x hx
    rw [hok, Bool.true_and] at hak
    refine h_pure (φ := ∃ b o, A = some ⟨b, o, none⟩) (fun w s => Rd.some (s.ok (.rd A (its l)) (by simp)) (by rw [its_len]; omega)) ?_
    rintro ⟨b, o, rfl⟩
    by_cases h1 : x.kind < 0
    · rw [if_neg (all_bad hx (by unfold kindOk; simp; omega))]
      refine h_skip ?_
      refine q_then ?_
      refine h_seq ?_
      refine h_block ?_
      refine h_seq ?_
      refine h_reg ?_
      refine h_op (r_move rfl) ?_
      refine h_op (r_move rfl) ?_
      refine h_op (r_idx rfl rfl) ?_
      refine h_op (r_field rfl) ?_
      refine h_op (r_nth rfl hki) ?_
      refine h_op (r_bool (r_lss rfl rfl) (decide_eq_true h1)) ?_
      refine h_op (r_move rfl) ?_
      refine h_opOff ?_
      refine h_opOff ?_
      refine h_opOff ?_
      refine h_opOff ?_
      refine h_opOff ?_
      refine h_opOff ?_
      refine h_op (r_pick rfl rfl) ?_
      refine h_nil ?_
      refine q_then ?_
      refine h_condT rfl ?_
      refine h_seq ?_
      refine h_reg ?_
      refine h_op (r_assign rfl) ?_
      refine h_nil ?_
      refine q_then ?_
      refine h_ret ?_
      refine q_blockR ?_
      refine q_thenR ?_
      refine q_thenR ?_
      refine q_blockR ?_
      refine q_thenR ?_
      exact h_ret1 rfl rfl fun w s => ⟨(), rfl, s.res (List.nil_sublist _) (by simp)⟩
    · by_cases h2 : 3 < x.kind
      · rw [if_neg (all_bad hx (by unfold kindOk; simp; omega))]
        refine h_skip ?_
        refine q_then ?_
        refine h_seq ?_
        refine h_block ?_
        refine h_seq ?_
        refine h_reg ?_
        refine h_op (r_move rfl) ?_
        refine h_op (r_move rfl) ?_
        refine h_op (r_idx rfl rfl) ?_
        refine h_op (r_field rfl) ?_
        refine h_op (r_nth rfl hki) ?_
        refine h_op (r_bool (r_lss rfl rfl) (decide_eq_false h1)) ?_
        refine h_op (r_move rfl) ?_
        refine h_op (r_move rfl) ?_
        refine h_op (r_move rfl) ?_
        refine h_op (r_idx rfl rfl) ?_
        refine h_op (r_field rfl) ?_
        refine h_op (r_nth rfl hki) ?_
        refine h_op (r_bool (r_gtr rfl rfl) (decide_eq_true h2)) ?_
        refine h_op (r_pick rfl rfl) ?_
        refine h_nil ?_
        refine q_then ?_
        refine h_condT rfl ?_
        refine h_seq ?_
        refine h_reg ?_
        refine h_op (r_assign rfl) ?_
        refine h_nil ?_
        refine q_then ?_
        refine h_ret ?_
        refine q_blockR ?_
        refine q_thenR ?_
        refine q_thenR ?_
        refine q_blockR ?_
        refine q_thenR ?_
        exact h_ret1 rfl rfl fun w s => ⟨(), rfl, s.res (List.nil_sublist _) (by simp)⟩
      · have hok' : (l.take (k + 1)).all kindOk = true := by rw [hak]; unfold kindOk; simp; omega
        refine h_skip ?_
        refine q_then ?_
        refine h_seq ?_
        refine h_block ?_
        refine h_seq ?_
        refine h_reg ?_
        refine h_op (r_move rfl) ?_
        refine h_op (r_move rfl) ?_
        refine h_op (r_idx rfl rfl) ?_
        refine h_op (r_field rfl) ?_
        refine h_op (r_nth rfl hki) ?_
        refine h_op (r_bool (r_lss rfl rfl) (decide_eq_false h1)) ?_
        refine h_op (r_move rfl) ?_
        refine h_op (r_move rfl) ?_
        refine h_op (r_move rfl) ?_
        refine h_op (r_idx rfl rfl) ?_
        refine h_op (r_field rfl) ?_
        refine h_op (r_nth rfl hki) ?_
        refine h_op (r_bool (r_gtr rfl rfl) (decide_eq_false h2)) ?_
        refine h_op (r_pick rfl rfl) ?_
        refine h_nil ?_
        refine q_then ?_
        refine h_condF rfl ?_
        refine h_skip ?_
        refine q_block ?_
        refine q_then ?_
        refine h_reg ?_
        refine h_op (r_move rfl) ?_
        refine h_op (r_add rfl rfl) ?_
        refine h_op (r_assign rfl) ?_
        refine h_nil ?_
        exact h_back (k + 1) (⟨hk2, hok'⟩) (by omega) ⟨rfl, rfl, rfl, rfl, trivial⟩ (same)
  · obtain rfl : k = l.length := by omega
    rw [List.take_length] at hok
    rw [if_pos hok]
    refine h_exit ?_
    refine q_thenE ?_
    refine q_thenE ?_
    refine q_blockE ?_
    refine q_then ?_
    refine h_seq ?_
    refine h_seq ?_
    refine h_reg ?_
    refine h_op (r_assign rfl) ?_
    refine h_nil ?_
    refine q_then ?_
    refine h_block ?_
    refine h_loop (fun (k : Nat) => k ≤ l.length ∧ (l.take k).all cleanItem = true) (fun (k : Nat) => [(6, .int .i64 (k : Int)), (0, .slice A l.length c), (3, .pointer (some ⟨g3, 0, none⟩)), (4, .pointer (some ⟨g4, 0, none⟩))]) (fun (k : Nat) => [.blk g4 zLeaf.cells 51, .blk g3 zB32.cells 42, .rd A (its l)]) (fun (k : Nat) => l.length - k) 0 (⟨Nat.zero_le _, rfl⟩) ⟨rfl, rfl, rfl, rfl, trivial⟩ (same) ?_
    rintro k ⟨hk, hcl⟩
    refine h_seq ?_
    refine h_seq ?_
    refine h_reg ?_
    refine h_op (r_move rfl) ?_
    refine h_op (r_move rfl) ?_
    refine h_op (r_len rfl) ?_
    refine h_op (r_lss rfl rfl) ?_
    refine h_nil ?_
    refine q_then ?_
    refine h_cond rfl (fun hlt => ?_) (fun hlt => ?_)
    · have hk2 : k < l.length := by omega
      obtain ⟨x, hx⟩ : ∃ x, l[k]? = some x := ⟨_, List.getElem?_eq_getElem hk2⟩
      have hki := its_kind hx
      have hdg := its_dg hx
      have hlf := its_lf hx
      have hac := all_take cleanItem l k x hx
      rw [hcl, Bool.true_and] at hac
      refine h_pure (φ := ∃ b o, A = some ⟨b, o, none⟩) (fun w s => Rd.some (s.ok (.rd A (its l)) (by simp)) (by rw [its_len]; omega)) ?_
      rintro ⟨b, o, rfl⟩
      refine h_skip ?_
      refine q_then ?_
      refine h_seq ?_
      refine h_block ?_
      refine h_seq ?_
      by_cases h3 : x.kind = 3
      · by_cases hz : x.leaf = zLeaf
        · have hok' : (l.take (k + 1)).all cleanItem = true := by rw [hac, clean3 h3, decide_eq_true hz]
          refine ha_start [.blk g4 zLeaf.cells 51, .blk g3 zB32.cells 42, .rd (some ⟨b, o, none⟩) (its l)] [] mixed (same) ?_
          refine ha_takeP 0 rfl (r_move rfl) ?_
          refine ha_takeP 1 rfl (r_move rfl) ?_
          refine ha_takeP 2 rfl (r_idx rfl rfl) ?_
          refine ha_takeP 3 rfl (r_field rfl) ?_
          refine ha_take 4 rfl (r_nth rfl hki) ?_
          refine ha_takeP 5 rfl (r_bool (r_neq rfl rfl) (decide_eq_false (fun h => h h3))) ?_
          refine ha_takeP 6 rfl (r_move rfl) ?_
          refine ha_off 7 rfl ?_
          refine ha_off 8 rfl ?_
          refine ha_off 9 rfl ?_
          refine ha_off 10 rfl ?_
          refine ha_off 11 rfl ?_
          refine ha_off 12 rfl ?_
          refine ha_off 13 rfl ?_
          refine ha_takeP 14 rfl (r_pick rfl rfl) ?_
          refine ha_takeP 15 rfl (r_move rfl) ?_
          refine ha_takeP 16 rfl (r_move rfl) ?_
          refine ha_takeP 17 rfl (r_move rfl) ?_
          refine ha_takeP 18 rfl (r_idx rfl rfl) ?_
          refine ha_takeP 19 rfl (r_field rfl) ?_
          refine ha_take 20 rfl (r_nth rfl hki) ?_
          refine ha_takeP 21 rfl (r_bool (r_neq rfl rfl) (decide_eq_true (by omega))) ?_
          refine ha_takeP 22 rfl (r_move rfl) ?_
          refine ha_takeP 23 rfl (r_move rfl) ?_
          refine ha_takeP 24 rfl (r_move rfl) ?_
          refine ha_takeP 25 rfl (r_idx rfl rfl) ?_
          refine ha_takeP 26 rfl (r_field rfl (O' := o + (k * 97 + 33)) (by omega)) ?_
          refine ha_take 27 rfl (r_nthr rfl (out := x.leaf.cells) (Leaf.cells_length _) hlf) ?_
          refine ha_take 28 rfl (r_loadr rfl) ?_
          refine ha_takeP 29 rfl (r_bool (r_ner rfl rfl) (decide_eq_false (fun h => h hz))) ?_
          refine ha_takeP 30 rfl (r_pick rfl rfl) ?_
          refine ha_takeP 31 rfl (r_pick rfl rfl) ?_
          refine ha_done (by kernel_rfl) ?_
          refine q_then ?_
          refine h_condF rfl ?_
          refine h_skip ?_
          refine q_block ?_
          refine q_then ?_
          refine h_reg ?_
          refine h_op (r_move rfl) ?_
          refine h_op (r_add rfl rfl) ?_
          refine h_op (r_assign rfl) ?_
          refine h_nil ?_
          exact h_back (k + 1) (⟨hk2, hok'⟩) (by omega) ⟨rfl, rfl, rfl, rfl, trivial⟩ (same)
        · rw [if_neg (all_bad hx (by rw [clean3 h3]; exact decide_eq_false hz))]
          refine ha_start [.blk g4 zLeaf.cells 51, .blk g3 zB32.cells 42, .rd (some ⟨b, o, none⟩) (its l)] [] mixed (same) ?_
          refine ha_takeP 0 rfl (r_move rfl) ?_
          refine ha_takeP 1 rfl (r_move rfl) ?_
          refine ha_takeP 2 rfl (r_idx rfl rfl) ?_
          refine ha_takeP 3 rfl (r_field rfl) ?_
          refine ha_take 4 rfl (r_nth rfl hki) ?_
          refine ha_takeP 5 rfl (r_bool (r_neq rfl rfl) (decide_eq_false (fun h => h h3))) ?_
          refine ha_takeP 6 rfl (r_move rfl) ?_
          refine ha_off 7 rfl ?_
          refine ha_off 8 rfl ?_
          refine ha_off 9 rfl ?_
          refine ha_off 10 rfl ?_
          refine ha_off 11 rfl ?_
          refine ha_off 12 rfl ?_
          refine ha_off 13 rfl ?_
          refine ha_takeP 14 rfl (r_pick rfl rfl) ?_
          refine ha_takeP 15 rfl (r_move rfl) ?_
          refine ha_takeP 16 rfl (r_move rfl) ?_
          refine ha_takeP 17 rfl (r_move rfl) ?_
          refine ha_takeP 18 rfl (r_idx rfl rfl) ?_
          refine ha_takeP 19 rfl (r_field rfl) ?_
          refine ha_take 20 rfl (r_nth rfl hki) ?_
          refine ha_takeP 21 rfl (r_bool (r_neq rfl rfl) (decide_eq_true (by omega))) ?_
          refine ha_takeP 22 rfl (r_move rfl) ?_
          refine ha_takeP 23 rfl (r_move rfl) ?_
          refine ha_takeP 24 rfl (r_move rfl) ?_
          refine ha_takeP 25 rfl (r_idx rfl rfl) ?_
          refine ha_takeP 26 rfl (r_field rfl (O' := o + (k * 97 + 33)) (by omega)) ?_
          refine ha_take 27 rfl (r_nthr rfl (out := x.leaf.cells) (Leaf.cells_length _) hlf) ?_
          refine ha_take 28 rfl (r_loadr rfl) ?_
          refine ha_takeP 29 rfl (r_bool (r_ner rfl rfl) (decide_eq_true hz)) ?_
          refine ha_takeP 30 rfl (r_pick rfl rfl) ?_
          refine ha_takeP 31 rfl (r_pick rfl rfl) ?_
          refine ha_done (by kernel_rfl) ?_
          refine q_then ?_
          refine h_condT rfl ?_
          refine h_seq ?_
          refine h_reg ?_
          refine h_op (r_assign rfl) ?_
          refine h_nil ?_
          refine q_then ?_
          refine h_ret ?_
          refine q_blockR ?_
          refine q_thenR ?_
          refine q_thenR ?_
          refine q_blockR ?_
          refine q_thenR ?_
          exact h_ret1 rfl rfl fun w s => ⟨(), rfl, s.res (List.nil_sublist _) (by simp)⟩
      · by_cases hd : x.digest = zB32
        · by_cases h4 : x.kind = 1
          · have hok' : (l.take (k + 1)).all cleanItem = true := by rw [hac, clean1 h3 hd h4]
            refine ha_start [.blk g4 zLeaf.cells 51, .blk g3 zB32.cells 42, .rd (some ⟨b, o, none⟩) (its l)] [] mixed (same) ?_
            refine ha_takeP 0 rfl (r_move rfl) ?_
            refine ha_takeP 1 rfl (r_move rfl) ?_
            refine ha_takeP 2 rfl (r_idx rfl rfl) ?_
            refine ha_takeP 3 rfl (r_field rfl) ?_
            refine ha_take 4 rfl (r_nth rfl hki) ?_
            refine ha_takeP 5 rfl (r_bool (r_neq rfl rfl) (decide_eq_true h3)) ?_
            refine ha_takeP 6 rfl (r_move rfl) ?_
            refine ha_takeP 7 rfl (r_move rfl) ?_
            refine ha_takeP 8 rfl (r_move rfl) ?_
            refine ha_takeP 9 rfl (r_idx rfl rfl) ?_
            refine ha_takeP 10 rfl (r_field rfl (O' := o + (k * 97 + 1)) (by omega)) ?_
            refine ha_take 11 rfl (r_nthr rfl (out := x.digest.cells) (B32.cells_length _) hdg) ?_
            refine ha_take 12 rfl (r_loadr rfl) ?_
            refine ha_takeP 13 rfl (r_bool (r_ner rfl rfl) (decide_eq_false (fun h => h hd))) ?_
            refine ha_takeP 14 rfl (r_pick rfl rfl) ?_
            refine ha_takeP 15 rfl (r_move rfl) ?_
            refine ha_takeP 16 rfl (r_move rfl) ?_
            refine ha_takeP 17 rfl (r_move rfl) ?_
            refine ha_takeP 18 rfl (r_idx rfl rfl) ?_
            refine ha_takeP 19 rfl (r_field rfl) ?_
            refine ha_take 20 rfl (r_nth rfl hki) ?_
            refine ha_takeP 21 rfl (r_bool (r_neq rfl rfl) (decide_eq_false (fun h => h h4))) ?_
            refine ha_takeP 22 rfl (r_move rfl) ?_
            refine ha_off 23 rfl ?_
            refine ha_off 24 rfl ?_
            refine ha_off 25 rfl ?_
            refine ha_off 26 rfl ?_
            refine ha_off 27 rfl ?_
            refine ha_off 28 rfl ?_
            refine ha_off 29 rfl ?_
            refine ha_takeP 30 rfl (r_pick rfl rfl) ?_
            refine ha_takeP 31 rfl (r_pick rfl rfl) ?_
            refine ha_done (by kernel_rfl) ?_
            refine q_then ?_
            refine h_condF rfl ?_
            refine h_skip ?_
            refine q_block ?_
            refine q_then ?_
            refine h_reg ?_
            refine h_op (r_move rfl) ?_
            refine h_op (r_add rfl rfl) ?_
            refine h_op (r_assign rfl) ?_
            refine h_nil ?_
            exact h_back (k + 1) (⟨hk2, hok'⟩) (by omega) ⟨rfl, rfl, rfl, rfl, trivial⟩ (same)
          · by_cases hz : x.leaf = zLeaf
            · have hok' : (l.take (k + 1)).all cleanItem = true := by rw [hac, clean0 h3 hd h4, decide_eq_true hz]
              refine ha_start [.blk g4 zLeaf.cells 51, .blk g3 zB32.cells 42, .rd (some ⟨b, o, none⟩) (its l)] [] mixed (same) ?_
              refine ha_takeP 0 rfl (r_move rfl) ?_
              refine ha_takeP 1 rfl (r_move rfl) ?_
              refine ha_takeP 2 rfl (r_idx rfl rfl) ?_
              refine ha_takeP 3 rfl (r_field rfl) ?_
              refine ha_take 4 rfl (r_nth rfl hki) ?_
              refine ha_takeP 5 rfl (r_bool (r_neq rfl rfl) (decide_eq_true h3)) ?_
              refine ha_takeP 6 rfl (r_move rfl) ?_
              refine ha_takeP 7 rfl (r_move rfl) ?_
              refine ha_takeP 8 rfl (r_move rfl) ?_
              refine ha_takeP 9 rfl (r_idx rfl rfl) ?_
              refine ha_takeP 10 rfl (r_field rfl (O' := o + (k * 97 + 1)) (by omega)) ?_
              refine ha_take 11 rfl (r_nthr rfl (out := x.digest.cells) (B32.cells_length _) hdg) ?_
              refine ha_take 12 rfl (r_loadr rfl) ?_
              refine ha_takeP 13 rfl (r_bool (r_ner rfl rfl) (decide_eq_false (fun h => h hd))) ?_
              refine ha_takeP 14 rfl (r_pick rfl rfl) ?_
              refine ha_takeP 15 rfl (r_move rfl) ?_
              refine ha_takeP 16 rfl (r_move rfl) ?_
              refine ha_takeP 17 rfl (r_move rfl) ?_
              refine ha_takeP 18 rfl (r_idx rfl rfl) ?_
              refine ha_takeP 19 rfl (r_field rfl) ?_
              refine ha_take 20 rfl (r_nth rfl hki) ?_
              refine ha_takeP 21 rfl (r_bool (r_neq rfl rfl) (decide_eq_true h4)) ?_
              refine ha_takeP 22 rfl (r_move rfl) ?_
              refine ha_takeP 23 rfl (r_move rfl) ?_
              refine ha_takeP 24 rfl (r_move rfl) ?_
              refine ha_takeP 25 rfl (r_idx rfl rfl) ?_
              refine ha_takeP 26 rfl (r_field rfl (O' := o + (k * 97 + 33)) (by omega)) ?_
              refine ha_take 27 rfl (r_nthr rfl (out := x.leaf.cells) (Leaf.cells_length _) hlf) ?_
              refine ha_take 28 rfl (r_loadr rfl) ?_
              refine ha_takeP 29 rfl (r_bool (r_ner rfl rfl) (decide_eq_false (fun h => h hz))) ?_
              refine ha_takeP 30 rfl (r_pick rfl rfl) ?_
              refine ha_takeP 31 rfl (r_pick rfl rfl) ?_
              refine ha_done (by kernel_rfl) ?_
              refine q_then ?_
              refine h_condF rfl ?_
              refine h_skip ?_
              refine q_block ?_
              refine q_then ?_
              refine h_reg ?_
              refine h_op (r_move rfl) ?_
              refine h_op (r_add rfl rfl) ?_
              refine h_op (r_assign rfl) ?_
              refine h_nil ?_
              exact h_back (k + 1) (⟨hk2, hok'⟩) (by omega) ⟨rfl, rfl, rfl, rfl, trivial⟩ (same)
            · rw [if_neg (all_bad hx (by rw [clean0 h3 hd h4]; exact decide_eq_false hz))]
              refine ha_start [.blk g4 zLeaf.cells 51, .blk g3 zB32.cells 42, .rd (some ⟨b, o, none⟩) (its l)] [] mixed (same) ?_
              refine ha_takeP 0 rfl (r_move rfl) ?_
              refine ha_takeP 1 rfl (r_move rfl) ?_
              refine ha_takeP 2 rfl (r_idx rfl rfl) ?_
              refine ha_takeP 3 rfl (r_field rfl) ?_
              refine ha_take 4 rfl (r_nth rfl hki) ?_
              refine ha_takeP 5 rfl (r_bool (r_neq rfl rfl) (decide_eq_true h3)) ?_
              refine ha_takeP 6 rfl (r_move rfl) ?_
              refine ha_takeP 7 rfl (r_move rfl) ?_
              refine ha_takeP 8 rfl (r_move rfl) ?_
              refine ha_takeP 9 rfl (r_idx rfl rfl) ?_
              refine ha_takeP 10 rfl (r_field rfl (O' := o + (k * 97 + 1)) (by omega)) ?_
              refine ha_take 11 rfl (r_nthr rfl (out := x.digest.cells) (B32.cells_length _) hdg) ?_
              refine ha_take 12 rfl (r_loadr rfl) ?_
              refine ha_takeP 13 rfl (r_bool (r_ner rfl rfl) (decide_eq_false (fun h => h hd))) ?_
              refine ha_takeP 14 rfl (r_pick rfl rfl) ?_
              refine ha_takeP 15 rfl (r_move rfl) ?_
              refine ha_takeP 16 rfl (r_move rfl) ?_
              refine ha_takeP 17 rfl (r_move rfl) ?_
              refine ha_takeP 18 rfl (r_idx rfl rfl) ?_
              refine ha_takeP 19 rfl (r_field rfl) ?_
              refine ha_take 20 rfl (r_nth rfl hki) ?_
              refine ha_takeP 21 rfl (r_bool (r_neq rfl rfl) (decide_eq_true h4)) ?_
              refine ha_takeP 22 rfl (r_move rfl) ?_
              refine ha_takeP 23 rfl (r_move rfl) ?_
              refine ha_takeP 24 rfl (r_move rfl) ?_
              refine ha_takeP 25 rfl (r_idx rfl rfl) ?_
              refine ha_takeP 26 rfl (r_field rfl (O' := o + (k * 97 + 33)) (by omega)) ?_
              refine ha_take 27 rfl (r_nthr rfl (out := x.leaf.cells) (Leaf.cells_length _) hlf) ?_
              refine ha_take 28 rfl (r_loadr rfl) ?_
              refine ha_takeP 29 rfl (r_bool (r_ner rfl rfl) (decide_eq_true hz)) ?_
              refine ha_takeP 30 rfl (r_pick rfl rfl) ?_
              refine ha_takeP 31 rfl (r_pick rfl rfl) ?_
              refine ha_done (by kernel_rfl) ?_
              refine q_then ?_
              refine h_condT rfl ?_
              refine h_seq ?_
              refine h_reg ?_
              refine h_op (r_assign rfl) ?_
              refine h_nil ?_
              refine q_then ?_
              refine h_ret ?_
              refine q_blockR ?_
              refine q_thenR ?_
              refine q_thenR ?_
              refine q_blockR ?_
              refine q_thenR ?_
              exact h_ret1 rfl rfl fun w s => ⟨(), rfl, s.res (List.nil_sublist _) (by simp)⟩
        · rw [if_neg (all_bad hx (cleanN h3 hd))]
          refine ha_start [.blk g4 zLeaf.cells 51, .blk g3 zB32.cells 42, .rd (some ⟨b, o, none⟩) (its l)] [] mixed (same) ?_
          refine ha_takeP 0 rfl (r_move rfl) ?_
          refine ha_takeP 1 rfl (r_move rfl) ?_
          refine ha_takeP 2 rfl (r_idx rfl rfl) ?_
          refine ha_takeP 3 rfl (r_field rfl) ?_
          refine ha_take 4 rfl (r_nth rfl hki) ?_
          refine ha_takeP 5 rfl (r_bool (r_neq rfl rfl) (decide_eq_true h3)) ?_
          refine ha_takeP 6 rfl (r_move rfl) ?_
          refine ha_takeP 7 rfl (r_move rfl) ?_
          refine ha_takeP 8 rfl (r_move rfl) ?_
          refine ha_takeP 9 rfl (r_idx rfl rfl) ?_
          refine ha_takeP 10 rfl (r_field rfl (O' := o + (k * 97 + 1)) (by omega)) ?_
          refine ha_take 11 rfl (r_nthr rfl (out := x.digest.cells) (B32.cells_length _) hdg) ?_
          refine ha_take 12 rfl (r_loadr rfl) ?_
          refine ha_takeP 13 rfl (r_bool (r_ner rfl rfl) (decide_eq_true hd)) ?_
          refine ha_takeP 14 rfl (r_pick rfl rfl) ?_
          refine ha_takeP 15 rfl (r_move rfl) ?_
          refine ha_off 16 rfl ?_
          refine ha_off 17 rfl ?_
          refine ha_off 18 rfl ?_
          refine ha_off 19 rfl ?_
          refine ha_off 20 rfl ?_
          refine ha_off 21 rfl ?_
          refine ha_off 22 rfl ?_
          refine ha_off 23 rfl ?_
          refine ha_off 24 rfl ?_
          refine ha_off 25 rfl ?_
          refine ha_off 26 rfl ?_
          refine ha_off 27 rfl ?_
          refine ha_off 28 rfl ?_
          refine ha_off 29 rfl ?_
          refine ha_off 30 rfl ?_
          refine ha_takeP 31 rfl (r_pick rfl rfl) ?_
          refine ha_done (by kernel_rfl) ?_
          refine q_then ?_
          refine h_condT rfl ?_
          refine h_seq ?_
          refine h_reg ?_
          refine h_op (r_assign rfl) ?_
          refine h_nil ?_
          refine q_then ?_
          refine h_ret ?_
          refine q_blockR ?_
          refine q_thenR ?_
          refine q_thenR ?_
          refine q_blockR ?_
          refine q_thenR ?_
          exact h_ret1 rfl rfl fun w s => ⟨(), rfl, s.res (List.nil_sublist _) (by simp)⟩
    · obtain rfl : k = l.length := by omega
      rw [List.take_length] at hcl
      rw [if_pos hcl]
      by_cases h0 : l.length = 0
      · rw [if_pos (.inl h0)]
        refine h_exit ?_
        refine q_thenE ?_
        refine q_thenE ?_
        refine q_blockE ?_
        refine q_then ?_
        refine h_seq ?_
        refine h_seq ?_
        refine h_reg ?_
        refine h_op (r_move rfl) ?_
        refine h_op (r_len rfl) ?_
        refine h_op (r_bool (r_eql rfl rfl) (decide_eq_true (by omega))) ?_
        refine h_op (r_move rfl) ?_
        refine h_opOff ?_
        refine h_opOff ?_
        refine h_opOff ?_
        refine h_opOff ?_
        refine h_opOff ?_
        refine h_op (r_pick rfl rfl) ?_
        refine h_nil ?_
        refine q_then ?_
        refine h_condT rfl ?_
        refine h_seq ?_
        refine h_reg ?_
        refine h_op (r_assign rfl) ?_
        refine h_nil ?_
        refine q_then ?_
        refine h_ret ?_
        refine q_thenR ?_
        exact h_ret1 rfl rfl fun w s => ⟨(), rfl, s.res (List.nil_sublist _) (by simp)⟩
      · refine h_exit ?_
        refine q_thenE ?_
        refine q_thenE ?_
        refine q_blockE ?_
        refine q_then ?_
        refine h_seq ?_
        refine h_seq ?_
        refine h_reg ?_
        refine h_op (r_move rfl) ?_
        refine h_op (r_len rfl) ?_
        refine h_op (r_bool (r_eql rfl rfl) (decide_eq_false (by omega))) ?_
        refine h_op (r_move rfl) ?_
        refine h_op (r_move rfl) ?_
        refine h_call (hSk.comes) rfl rfl rfl fun _ => ?_
        by_cases hs : skipI l (readM 256 l) = (l.length : Int)
        · rw [if_neg (fun h => h.elim h0 (fun h => h hs))]
          refine h_op (r_move rfl) ?_
          refine h_op (r_len rfl) ?_
          refine h_op (r_bool (r_neq rfl rfl) (decide_eq_false (fun h => h hs))) ?_
          refine h_op (r_pick rfl rfl) ?_
          refine h_nil ?_
          refine q_then ?_
          refine h_condF rfl ?_
          refine h_skip ?_
          refine q_then ?_
          refine h_seq ?_
          refine h_reg ?_
          refine h_op (r_assign rfl) ?_
          refine h_nil ?_
          refine q_then ?_
          refine h_ret ?_
          exact h_ret1 rfl rfl fun w s => ⟨(), rfl, s.res (List.nil_sublist _) (by simp)⟩
        · rw [if_pos (.inr hs)]
          refine h_op (r_move rfl) ?_
          refine h_op (r_len rfl) ?_
          refine h_op (r_bool (r_neq rfl rfl) (decide_eq_true hs)) ?_
          refine h_op (r_pick rfl rfl) ?_
          refine h_nil ?_
          refine q_then ?_
          refine h_condT rfl ?_
          refine h_seq ?_
          refine h_reg ?_
          refine h_op (r_assign rfl) ?_
          refine h_nil ?_
          refine q_then ?_
          refine h_ret ?_
          refine q_thenR ?_
          exact h_ret1 rfl rfl fun w s => ⟨(), rfl, s.res (List.nil_sublist _) (by simp)⟩
end Go.Proofs.YtjhocljhhpkiiaaGreatDoor
/- U67 -/
namespace Go.Proofs.YtjhocljhhpkiiaaGreatDoor
set_option linter.unusedSimpArgs false
set_option linter.unusedVariables false
open Go.RowKit
theorem readM_cost : ∀ (d : Nat) (l : List Item) (t : Sub) (r : List Item), readM d l = some (t, r) → t.cost + r.length ≤ l.length
  | d, [], t, r, h => by cases d <;> cases h
  | d, x :: l, t, r, h => by
    by_cases hk : x.kind = 2
    · match d, h with
      | 0, h => unfold readM at h; rw [if_pos hk] at h; cases h
      | d + 1, h =>
        unfold readM at h
        rw [if_pos hk] at h
        obtain ⟨p, hp, h⟩ := Option.bind_eq_some_iff.1 h
        obtain ⟨q, hq, h⟩ := Option.bind_eq_some_iff.1 h
        have h1 := readM_cost d l p.1 p.2 hp
        have h2 := readM_cost d p.2 q.1 q.2 hq
        simp only [Option.some.injEq, Prod.mk.injEq] at h
        rw [← h.1, ← h.2]
        show p.1.cost + q.1.cost + 1 + q.2.length ≤ (x :: l).length
        rw [List.length_cons]
        omega
    · have h' : readM d (x :: l) = some (.one x, l) := by cases d <;> (unfold readM; rw [if_neg hk])
      rw [h'] at h
      simp only [Option.some.injEq, Prod.mk.injEq] at h
      rw [← h.1, ← h.2]
      show (if x.kind = 3 then 0 else 1) + l.length ≤ (x :: l).length
      rw [List.length_cons]
      split <;> omega
theorem parse_ok {l : List Item} {t : Sub} (h : parseM l = .ok t) : readM 256 l = some (t, []) ∧ l.all kindOk = true ∧ l.all cleanItem = true := by
  unfold parseM at h
  by_cases h1 : l.all kindOk = true
  · rw [if_pos h1] at h
    rcases hm : readM 256 l with _ | ⟨t', r⟩
    · rw [hm] at h; cases h
    · rw [hm] at h
      cases r with
      | nil =>
        by_cases h2 : l.all cleanItem = true
        · simp only [h2, if_true] at h
          injection h with h
          exact ⟨by rw [h], h1, h2⟩
        · simp only [h2] at h
          cases h
      | cons y r => cases h
  · rw [if_neg h1] at h
    cases h
section
variable (h : Zh) [hT : RdZ h (some ⟨1, 0, none⟩) hashT]
theorem mRoot_s (n : Nat) (hn : n ≤ 256) (gh gc k : Nat) (hk : k ≤ 1000000000) (l : List Item) (A : Option Addr) (c : Nat) [hr : RdZ h A (its l)] (hc : l.length ≤ c) (hl : l.length ≤ 1000000) (t : Sub) (hp : parseM l = .ok t) : Spec Tryz.prog 156 [.pointer (some ⟨gh, 0, none⟩), .slice A l.length c].toArray [.zone false h, HR gh gc n] [CN gc k] (fun _ : Unit => .tuple #[.agg (dgS n t).cells.toArray, .int .i64 0]) (fun _ => [CN gc (k + t.cost)]) := by
  have hP := parse_s h l A c hc hl
  rw [hp] at hP
  have hco := readM_cost 256 l t [] (parse_ok hp).1
  have hD := dig_s n hn gh gc t k (by simp at hco; omega)
  refine spec_of Tryz.func156 rfl (n := 20) rfl rfl ?_
  intro W
  refine h_seq ?_
  refine h_reg ?_
  refine h_opX (x_alloc) fun g4 => ?_
  refine h_op (r_assign rfl) ?_
  refine h_nil ?_
  refine q_then ?_
  refine h_seq ?_
  refine h_reg ?_
  refine h_op (r_move rfl) ?_
  refine h_call (hP.comes) rfl rfl rfl fun _ => ?_
  refine h_op (r_move rfl) ?_
  refine h_op (r_extract rfl rfl) ?_
  refine h_op (r_extract rfl rfl) ?_
  refine h_op (r_assign rfl) ?_
  refine h_op (r_assign rfl) ?_
  refine h_nil ?_
  refine q_then ?_
  refine h_seq ?_
  refine h_seq ?_
  refine h_reg ?_
  refine h_op (r_move rfl) ?_
  refine h_op (r_neq rfl rfl) ?_
  refine h_nil ?_
  refine q_then ?_
  refine h_no rfl ((fun h => h rfl)) ?_
  refine h_skip ?_
  refine q_then ?_
  refine h_seq ?_
  refine h_reg ?_
  refine h_op (r_move rfl) ?_
  refine h_op (r_move rfl) ?_
  refine h_callM (hD.comes) rfl rfl rfl fun _ => ?_
  refine h_opS (s_storer rfl rfl) ?_
  refine h_op (r_assign rfl) ?_
  refine h_nil ?_
  refine q_then ?_
  refine h_ret ?_
  exact h_ret2 rfl (rv_row rfl) rfl fun w s => ⟨(), rfl, (same (L' := [CN gc (k + t.cost)]) w s).res (List.Sublist.refl _) (by simp [Fa.wr])⟩
end
end Go.Proofs.YtjhocljhhpkiiaaGreatDoor
/- E18 -/
namespace Go.Proofs.YtjhocljhhpkiiaaGreatDoor
set_option linter.unusedSimpArgs false
set_option linter.unusedVariables false
open Go.RowKit
abbrev innerI : Item := ⟨2, zB32, zLeaf⟩
def Sub.flat : Sub → List Item
  | .one x => [x]
  | .two l r => innerI :: (l.flat ++ r.flat)
def Sub.ht : Sub → Nat
  | .one _ => 0
  | .two l r => max l.ht r.ht + 1
def Sub.ok : Sub → Prop
  | .one x => x.kind ≠ 2 ∧ kindOk x = true ∧ cleanItem x = true
  | .two l r => l.ok ∧ r.ok
def Sub.sz : Sub → Nat
  | .one _ => 1
  | .two l r => l.sz + r.sz + 1
theorem Sub.flat_len : ∀ t : Sub, t.flat.length = t.sz
  | .one _ => rfl
  | .two l r => by
    show (l.flat ++ r.flat).length + 1 = _
    rw [List.length_append, l.flat_len, r.flat_len]
    rfl
theorem Sub.sz_pos : ∀ t : Sub, 0 < t.sz
  | .one _ => Nat.one_pos
  | .two _ _ => Nat.succ_pos _
theorem read_flat : ∀ (t : Sub) (d : Nat) (rest : List Item), t.ok → t.ht ≤ d → readM d (t.flat ++ rest) = some (t, rest)
  | .one x, d, rest, ho, _ => by
    show readM d (x :: rest) = _
    cases d <;> (unfold readM; rw [if_neg ho.1])
  | .two l r, 0, rest, ho, hd => absurd hd (by simp [Sub.ht])
  | .two l r, d + 1, rest, ho, hd => by
    have hd' : max l.ht r.ht + 1 ≤ d + 1 := hd
    show readM (d + 1) (innerI :: ((l.flat ++ r.flat) ++ rest)) = _
    unfold readM
    rw [if_pos rfl, List.append_assoc, read_flat l d _ ho.1 (by omega)]
    simp only [Option.bind_some]
    rw [read_flat r d _ ho.2 (by omega)]
    rfl
theorem flat_read : ∀ (d : Nat) (l : List Item) (t : Sub) (rest : List Item), readM d l = some (t, rest) → l.all kindOk = true → l.all cleanItem = true → l = t.flat ++ rest ∧ t.ok ∧ t.ht ≤ d ∧ rest.all kindOk = true ∧ rest.all cleanItem = true
  | d, [], t, r, h, _, _ => by cases d <;> cases h
  | d, x :: l, t, r, h, hk, hc => by
    rw [List.all_cons, Bool.and_eq_true] at hk hc
    by_cases hk2 : x.kind = 2
    · match d, h with
      | 0, h => unfold readM at h; rw [if_pos hk2] at h; cases h
      | d + 1, h =>
        unfold readM at h
        rw [if_pos hk2] at h
        obtain ⟨p, hp, h⟩ := Option.bind_eq_some_iff.1 h
        obtain ⟨q, hq, h⟩ := Option.bind_eq_some_iff.1 h
        obtain ⟨a1, a2, a3, a4, a5⟩ := flat_read d l p.1 p.2 hp hk.2 hc.2
        obtain ⟨b1, b2, b3, b4, b5⟩ := flat_read d p.2 q.1 q.2 hq a4 a5
        simp only [Option.some.injEq, Prod.mk.injEq] at h
        rw [← h.1, ← h.2]
        refine ⟨?_, ⟨a2, b2⟩, ?_, b4, b5⟩
        · show x :: l = innerI :: (p.1.flat ++ q.1.flat) ++ q.2
          have hx : x = innerI := by
            have h1 := hc.1
            unfold cleanItem at h1
            simp only [hk2] at h1
            simp at h1
            obtain ⟨k, dg, lf⟩ := x
            simp only at hk2 h1
            rw [hk2, h1.1, h1.2]
          rw [hx, List.cons_append, List.append_assoc, ← b1, ← a1]
        · show max p.1.ht q.1.ht + 1 ≤ d + 1
          omega
    · have h' : readM d (x :: l) = some (.one x, l) := by cases d <;> (unfold readM; rw [if_neg hk2])
      rw [h'] at h
      simp only [Option.some.injEq, Prod.mk.injEq] at h
      rw [← h.1, ← h.2]
      exact ⟨rfl, ⟨hk2, hk.1, hc.1⟩, Nat.zero_le _, hk.2, hc.2⟩
theorem parse_flat {l : List Item} {t : Sub} (h : parseM l = .ok t) : l = t.flat ∧ t.ok ∧ t.ht ≤ 256 := by
  obtain ⟨h1, h2, h3⟩ := parse_ok h
  obtain ⟨a, b, c, _⟩ := flat_read 256 l t [] h1 h2 h3
  exact ⟨by rw [a, List.append_nil], b, c⟩
/-! the end of a key's way, its indices -/
def Sub.endI (k : B32) : Sub → Nat → Item × Nat
  | .one x, d => (x, d)
  | .two l r, d => if bitAt k d then r.endI k (d + 1) else l.endI k (d + 1)
def Sub.way (k : B32) : Sub → Nat → Nat → List Nat
  | .one _, _, i => [i]
  | .two l r, d, i => i :: if bitAt k d then r.way k (d + 1) (i + 1 + l.sz) else l.way k (d + 1) (i + 1)
theorem way_rng {k : B32} : ∀ {t : Sub} {d i j : Nat}, j ∈ t.way k d i → i ≤ j ∧ j < i + t.sz
  | .one _, d, i, j, h => by obtain rfl := List.mem_singleton.1 h; exact ⟨Nat.le_refl _, Nat.lt_succ_self _⟩
  | .two l r, d, i, j, h => by
    show i ≤ j ∧ j < i + (l.sz + r.sz + 1)
    rcases List.mem_cons.1 h with rfl | h
    · omega
    · cases hb : bitAt k d
      · rw [hb, if_neg (by simp)] at h
        have := way_rng h
        omega
      · rw [hb, if_pos rfl] at h
        have := way_rng h
        omega
theorem way_head (k : B32) (t : Sub) (d i : Nat) : i ∈ t.way k d i := by cases t <;> exact List.mem_cons_self ..
/-! the ends of keys -/
def endsM : Sub → List B32 → Nat → List (Item × Nat) × Bool
  | .one x, ks, d => (ks.map fun _ => (x, d), x.kind != 3 || ks.isEmpty)
  | .two l r, ks, d => if ks.isEmpty then ([], false) else
      if (endsM l (keysB ks d false) (d + 1)).2 then ((endsM l (keysB ks d false) (d + 1)).1 ++ (endsM r (keysB ks d true) (d + 1)).1, (endsM r (keysB ks d true) (d + 1)).2)
      else ((endsM l (keysB ks d false) (d + 1)).1, false)
theorem endsM_len : ∀ (t : Sub) (ks : List B32) (d : Nat), (endsM t ks d).1.length ≤ ks.length
  | .one x, ks, d => by show (ks.map _).length ≤ _; rw [List.length_map]; exact Nat.le_refl _
  | .two l r, ks, d => by
    have h1 := endsM_len l (keysB ks d false) (d + 1)
    have h2 := endsM_len r (keysB ks d true) (d + 1)
    have h3 : (keysB ks d false).length + (keysB ks d true).length = ks.length := by
      unfold keysB
      clear h1 h2
      induction ks with
      | nil => rfl
      | cons e m ih =>
        cases hb : bitAt e d
        · rw [List.filter_cons_of_pos (by simp [hb]), List.filter_cons_of_neg (by simp [hb]), List.length_cons, List.length_cons]; omega
        · rw [List.filter_cons_of_neg (by simp [hb]), List.filter_cons_of_pos (by simp [hb]), List.length_cons, List.length_cons]; omega
    unfold endsM
    split
    · exact Nat.zero_le _
    · split
      · rw [List.length_append]; omega
      · show (endsM l _ _).1.length ≤ _
        omega
theorem keys_cut {ks : List B32} {d : Nat} (ho : ks.Pairwise ltK) (ha : AlikeK ks d) : keysB ks d false ++ keysB ks d true = ks := by
  obtain ⟨m, _, _, h1, h2⟩ := split_at ho ha
  unfold keysB
  rw [← h1, ← h2, List.take_append_drop]
theorem keysB_mem {ks : List B32} {d : Nat} {b : Bool} {k : B32} : k ∈ keysB ks d b ↔ k ∈ ks ∧ bitAt k d = b := by unfold keysB; simp
theorem endsM_map : ∀ (t : Sub) (ks : List B32) (d : Nat), ks.Pairwise ltK → AlikeK ks d → (endsM t ks d).2 = true → (endsM t ks d).1 = ks.map fun k => t.endI k d
  | .one x, ks, d, _, _, _ => rfl
  | .two l r, ks, d, ho, ha, h => by
    unfold endsM at h ⊢
    split at h
    · cases h
    · split at h
      · rename_i h1 h2
        rw [if_neg h1, if_pos h2]
        show (endsM l _ _).1 ++ (endsM r _ _).1 = _
        rw [endsM_map l _ _ (keysB_ord ho _) (keysB_alike ha _) h2, endsM_map r _ _ (keysB_ord ho _) (keysB_alike ha _) h]
        conv => rhs; rw [← keys_cut ho ha, List.map_append]
        congr 1
        · exact List.map_congr_left fun k hk => by rw [Sub.endI, (keysB_mem.1 hk).2]; rfl
        · exact List.map_congr_left fun k hk => by rw [Sub.endI, (keysB_mem.1 hk).2]; rfl
      · cases h
/-- the reference's view of whether a subtree fits keys -/
def fitsR (t : Sub) (ks : List B32) (d i : Nat) : Prop := (∀ k ∈ ks, (t.endI k d).1.kind ≠ 3) ∧ ∀ (j : Nat) (x : Item), t.flat[j]? = some x → x.kind = 2 → ∃ k ∈ ks, i + j ∈ t.way k d i
theorem fits_iff : ∀ (t : Sub) (ks : List B32) (d i : Nat), t.ok → ((endsM t ks d).2 = true ↔ fitsR t ks d i)
  | .one x, ks, d, i, ho => by
    show (x.kind != 3 || ks.isEmpty) = true ↔ _
    constructor
    · intro h
      refine ⟨fun k hk => ?_, fun j y hj hy => ?_⟩
      · show x.kind ≠ 3
        cases ks with
        | nil => cases hk
        | cons => simpa using h
      · cases j with
        | zero => obtain rfl : x = y := by simpa [Sub.flat] using hj
                  exact (ho.1 hy).elim
        | succ j => simp [Sub.flat] at hj
    · rintro ⟨h, _⟩
      cases ks with
      | nil => simp
      | cons k ks =>
        have : x.kind ≠ 3 := h k (List.mem_cons_self ..)
        simp [this]
  | .two l r, ks, d, i, ho => by
    have ihl := fits_iff l (keysB ks d false) (d + 1) (i + 1) ho.1
    have ihr := fits_iff r (keysB ks d true) (d + 1) (i + 1 + l.sz) ho.2
    have h0 : (endsM (.two l r) ks d).2 = true ↔ ks ≠ [] ∧ (endsM l (keysB ks d false) (d + 1)).2 = true ∧ (endsM r (keysB ks d true) (d + 1)).2 = true := by
      conv => lhs; unfold endsM
      cases ks with
      | nil => simp
      | cons k ks =>
        by_cases h1 : (endsM l (keysB (k :: ks) d false) (d + 1)).2 = true
        · simp [h1]
        · simp [h1]
    rw [h0, ihl, ihr]
    have hE : ∀ k b, bitAt k d = b → (Sub.two l r).endI k d = if b then r.endI k (d + 1) else l.endI k (d + 1) := fun k b hb => by rw [Sub.endI, hb]
    have hW : ∀ k b, bitAt k d = b → (Sub.two l r).way k d i = i :: if b then r.way k (d + 1) (i + 1 + l.sz) else l.way k (d + 1) (i + 1) := fun k b hb => by rw [Sub.way, hb]
    have hf : (Sub.two l r).flat = innerI :: (l.flat ++ r.flat) := rfl
    constructor
    · rintro ⟨hne, ⟨a1, a2⟩, b1, b2⟩
      refine ⟨fun k hk => ?_, fun j x hj hx => ?_⟩
      · cases hb : bitAt k d
        · rw [hE k _ hb]; exact a1 k (keysB_mem.2 ⟨hk, hb⟩)
        · rw [hE k _ hb]; exact b1 k (keysB_mem.2 ⟨hk, hb⟩)
      · rw [hf] at hj
        cases j with
        | zero =>
          obtain ⟨k, ks', rfl⟩ := List.exists_cons_of_ne_nil hne
          exact ⟨k, List.mem_cons_self .., way_head k _ d i⟩
        | succ j =>
          rw [List.getElem?_cons_succ] at hj
          rcases Nat.lt_or_ge j l.sz with h1 | h1
          · rw [List.getElem?_append_left (by rw [l.flat_len]; exact h1)] at hj
            obtain ⟨k, hk, hw⟩ := a2 j x hj hx
            obtain ⟨hk, hb⟩ := keysB_mem.1 hk
            refine ⟨k, hk, ?_⟩
            rw [hW k _ hb]
            exact List.mem_cons_of_mem _ (by rw [show i + (j + 1) = i + 1 + j by omega]; exact hw)
          · rw [List.getElem?_append_right (by rw [l.flat_len]; exact h1), l.flat_len] at hj
            obtain ⟨k, hk, hw⟩ := b2 (j - l.sz) x hj hx
            obtain ⟨hk, hb⟩ := keysB_mem.1 hk
            refine ⟨k, hk, ?_⟩
            rw [hW k _ hb]
            exact List.mem_cons_of_mem _ (by rw [show i + (j + 1) = i + 1 + l.sz + (j - l.sz) by omega]; exact hw)
    · rintro ⟨h1, h2⟩
      refine ⟨fun e => ?_, ⟨fun k hk => ?_, fun j x hj hx => ?_⟩, fun k hk => ?_, fun j x hj hx => ?_⟩
      · obtain ⟨k, hk, _⟩ := h2 0 innerI rfl rfl
        rw [e] at hk
        cases hk
      · obtain ⟨hk, hb⟩ := keysB_mem.1 hk
        have := h1 k hk
        rwa [hE k _ hb] at this
      · have hl := (List.getElem?_eq_some_iff.1 hj).1
        rw [l.flat_len] at hl
        obtain ⟨k, hk, hw⟩ := h2 (j + 1) x (by rw [hf, List.getElem?_cons_succ, List.getElem?_append_left (by rw [l.flat_len]; exact hl)]; exact hj) hx
        cases hb : bitAt k d
        · rw [hW k _ hb] at hw
          rcases List.mem_cons.1 hw with e | hw
          · omega
          · exact ⟨k, keysB_mem.2 ⟨hk, hb⟩, by rw [show i + 1 + j = i + (j + 1) by omega]; exact hw⟩
        · rw [hW k _ hb] at hw
          rcases List.mem_cons.1 hw with e | hw
          · omega
          · have := way_rng hw
            omega
      · obtain ⟨hk, hb⟩ := keysB_mem.1 hk
        have := h1 k hk
        rwa [hE k _ hb] at this
      · have hl := (List.getElem?_eq_some_iff.1 hj).1
        rw [r.flat_len] at hl
        obtain ⟨k, hk, hw⟩ := h2 (l.sz + j + 1) x (by rw [hf, List.getElem?_cons_succ, List.getElem?_append_right (by rw [l.flat_len]; omega), l.flat_len, Nat.add_sub_cancel_left]; exact hj) hx
        cases hb : bitAt k d
        · rw [hW k _ hb] at hw
          rcases List.mem_cons.1 hw with e | hw
          · omega
          · have := way_rng hw
            omega
        · rw [hW k _ hb] at hw
          rcases List.mem_cons.1 hw with e | hw
          · omega
          · exact ⟨k, keysB_mem.2 ⟨hk, hb⟩, by rw [show i + 1 + l.sz + j = i + (l.sz + j + 1) by omega]; exact hw⟩
/-! what add appends is the flat list of a subtree -/
end Go.Proofs.YtjhocljhhpkiiaaGreatDoor
/- U70 -/
namespace Go.Proofs.YtjhocljhhpkiiaaGreatDoor
set_option linter.unusedSimpArgs false
set_option linter.unusedVariables false
open Go.RowKit
theorem splitF_s (l : List B32) (A : Option Addr) (c i j g2 g3 : Nat) (hj : j < l.length) (hi : i < 256) : Spec Tryz.prog 211 [.int .i64 (j : Int), .pointer (some ⟨g2, 0, none⟩), .pointer (some ⟨g3, 0, none⟩)].toArray [.rd (some ⟨g2, 0, none⟩) [.slice A l.length c], .rd (some ⟨g3, 0, none⟩) [.int .i64 (i : Int)], .rd A (dgs l)] [] (fun _ : Unit => .bool (bitAt (l.getD j zB32) i)) (fun _ => []) := by
  have h1 := dgs_at hj
  refine spec_of Tryz.func211 rfl (n := 12) rfl rfl ?_
  intro W
  refine h_pure (φ := ∃ b o, A = some ⟨b, o, none⟩) (fun w s => Rd.some (s.ok (.rd A (dgs l)) (by simp)) (by rw [dgs_len]; omega)) ?_
  rintro ⟨b, o, rfl⟩
  refine h_seq ?_
  refine h_reg ?_
  refine h_op (r_assign rfl) ?_
  refine h_nil ?_
  refine q_then ?_
  refine h_seq ?_
  refine ha_start [.rd (some ⟨g2, 0, none⟩) [.slice (some ⟨b, o, none⟩) l.length c], .rd (some ⟨g3, 0, none⟩) [.int .i64 (i : Int)], .rd (some ⟨b, o, none⟩) (dgs l)] [] mixed (same) ?_
  refine ha_take 0 rfl (r_loadc rfl) ?_
  refine ha_takeP 1 rfl (r_move rfl) ?_
  refine ha_takeP 2 rfl (r_idx rfl rfl) ?_
  refine ha_take 3 rfl (r_nthr rfl (out := (l.getD j zB32).cells) (B32.cells_length _) h1) ?_
  refine ha_take 4 rfl (r_loadc rfl) ?_
  refine ha_one 5 ?_
  refine ho_C 5 rfl ((Bit_s (l.getD j zB32) i hi).comes) rfl rfl rfl (fun xx => same) fun _ => ?_
  refine ha_takeP 6 rfl (r_bool (r_eql rfl rfl) (bitN_one (l.getD j zB32) i)) ?_
  refine ha_takeP 7 rfl (r_assign rfl) ?_
  refine ha_done (by kernel_rfl) ?_
  refine q_then ?_
  refine h_ret ?_
  exact h_ret1 rfl rfl fun w s => ⟨(), rfl, s.res (List.nil_sublist _) (by simp)⟩
theorem half (a : Nat) (h : a < 18446744073709551616) : (((BitVec.ofNat 64 a) >>> 1).toNat : Int) = ((a / 2 : Nat) : Int) := by
  rw [BitVec.toNat_ushiftRight, BitVec.toNat_ofNat, Nat.mod_eq_of_lt (by omega), Nat.shiftRight_eq_div_pow]
theorem Search_s (l : List B32) (A : Option Addr) (c i g2 g3 m : Nat) (hi : i < 256) (hl : l.length ≤ 1000000) (hm : m ≤ l.length) (hp : ∀ j, j < l.length → bitAt (l.getD j zB32) i = decide (m ≤ j)) : Spec Tryz.prog 210 [.int .i64 (l.length : Int), .func (.func 211) #[] [.pointer (some ⟨g2, 0, none⟩), .pointer (some ⟨g3, 0, none⟩)].toArray].toArray [.rd (some ⟨g2, 0, none⟩) [.slice A l.length c], .rd (some ⟨g3, 0, none⟩) [.int .i64 (i : Int)], .rd A (dgs l)] [] (fun _ : Unit => .int .i64 (m : Int)) (fun _ => []) := by
  refine spec_of Tryz.func210 rfl (n := 26) rfl rfl ?_
  intro W
  refine h_seq ?_
  refine h_reg ?_
  refine h_op (r_assign rfl) ?_
  refine h_nil ?_
  refine q_then ?_
  refine h_seq ?_
  refine h_reg ?_
  refine h_op (r_move rfl) ?_
  refine h_op (r_assign rfl) ?_
  refine h_op (r_assign rfl) ?_
  refine h_nil ?_
  refine q_then ?_
  refine h_seq ?_
  refine h_block ?_
  refine h_loop (fun (s : Nat × Nat) => s.1 ≤ m ∧ m ≤ s.2 ∧ s.2 ≤ l.length) (fun (s : Nat × Nat) => [(5, .int .i64 (s.1 : Int)), (6, .int .i64 (s.2 : Int)), (1, .func (.func 211) #[] [.pointer (some ⟨g2, 0, none⟩), .pointer (some ⟨g3, 0, none⟩)].toArray)]) (fun (s : Nat × Nat) => [.rd (some ⟨g2, 0, none⟩) [.slice A l.length c], .rd (some ⟨g3, 0, none⟩) [.int .i64 (i : Int)], .rd A (dgs l)]) (fun (s : Nat × Nat) => s.2 - s.1) (0, l.length) (⟨Nat.zero_le _, hm, Nat.le_refl _⟩) ⟨rfl, rfl, rfl, trivial⟩ (same) ?_
  rintro ⟨a, b⟩ ⟨h1, h2, h3⟩
  dsimp only at h1 h2 h3 ⊢
  refine h_seq ?_
  refine h_seq ?_
  refine h_reg ?_
  refine h_op (r_move rfl) ?_
  refine h_op (r_move rfl) ?_
  refine h_op (r_lss rfl rfl) ?_
  refine h_nil ?_
  refine q_then ?_
  refine h_cond rfl (fun hlt => ?_) (fun hlt => ?_)
  · have hh : (a + b) / 2 < l.length := by omega
    have hb := splitF_s l A c i ((a + b) / 2) g2 g3 hh hi
    rw [hp _ hh] at hb
    refine h_skip ?_
    refine q_then ?_
    refine h_block ?_
    refine h_seq ?_
    refine h_reg ?_
    refine h_op (r_move rfl) ?_
    refine h_op (r_move rfl) ?_
    refine h_op (r_int (r_add rfl rfl) (show _ = ((a + b : Nat) : Int) by omega)) ?_
    refine h_op (r_cNW rfl) ?_
    refine h_op (r_int (r_shr rfl rfl) (half (a + b) (by omega))) ?_
    refine h_op (r_cN rfl (IntWalk.i64_in _ (by omega))) ?_
    refine h_op (r_assign rfl) ?_
    refine h_nil ?_
    refine q_then ?_
    refine h_seq ?_
    refine h_reg ?_
    refine h_op (r_move rfl) ?_
    refine h_op (r_move rfl) ?_
    by_cases hc : m ≤ (a + b) / 2
    · rw [decide_eq_true hc] at hb
      refine h_call (hb.comes) rfl rfl rfl fun _ => ?_
      refine h_op (r_not rfl) ?_
      refine h_nil ?_
      refine q_then ?_
      refine h_condF rfl ?_
      refine h_reg ?_
      refine h_op (r_move rfl) ?_
      refine h_op (r_assign rfl) ?_
      refine h_nil ?_
      refine q_block ?_
      exact h_back (a, (a + b) / 2) (⟨h1, hc, by dsimp only; omega⟩) ((show (a + b) / 2 - a < b - a by omega)) ⟨rfl, rfl, rfl, trivial⟩ (same)
    · rw [decide_eq_false hc] at hb
      refine h_call (hb.comes) rfl rfl rfl fun _ => ?_
      refine h_op (r_not rfl) ?_
      refine h_nil ?_
      refine q_then ?_
      refine h_condT rfl ?_
      refine h_reg ?_
      refine h_op (r_move rfl) ?_
      refine h_op (r_add rfl rfl) ?_
      refine h_op (r_assign rfl) ?_
      refine h_nil ?_
      refine q_block ?_
      exact h_back ((a + b) / 2 + 1, b) (⟨by dsimp only; omega, h2, h3⟩) ((show b - ((a + b) / 2 + 1) < b - a by omega)) ⟨aI rfl (by omega), rfl, rfl, trivial⟩ (same)
  · obtain rfl : a = m := by omega
    refine h_exit ?_
    refine q_thenE ?_
    refine q_thenE ?_
    refine q_blockE ?_
    refine q_then ?_
    refine h_seq ?_
    refine h_reg ?_
    refine h_op (r_move rfl) ?_
    refine h_op (r_assign rfl) ?_
    refine h_nil ?_
    refine q_then ?_
    refine h_ret ?_
    exact h_ret1 rfl rfl fun w s => ⟨(), rfl, s.res (List.nil_sublist _) (by simp)⟩
theorem Split_s (l : List B32) (A : Option Addr) (c i m : Nat) (hi : i < 256) (hl : l.length ≤ 1000000) (hm : m ≤ l.length) (hp : ∀ j, j < l.length → bitAt (l.getD j zB32) i = decide (m ≤ j)) : Spec Tryz.prog 166 [.slice A l.length c, .int .i64 (i : Int)].toArray [.rd A (dgs l)] [] (fun _ : Unit => .int .i64 (m : Int)) (fun _ => []) := by
  refine spec_of Tryz.func166 rfl (n := 9) rfl rfl ?_
  intro W
  refine h_seq ?_
  refine h_reg ?_
  refine h_opX (x_box1 rfl) fun g2 => ?_
  refine h_opX (x_box1 rfl) fun g3 => ?_
  refine h_op (r_assign rfl) ?_
  refine h_nil ?_
  refine q_then ?_
  refine h_seq ?_
  refine h_reg ?_
  refine h_op (r_loadc rfl) ?_
  refine h_op (r_len rfl) ?_
  refine h_op (r_func rfl rfl) ?_
  refine h_call ((Search_s l A c i g2 g3 m hi hl hm hp).comes) rfl rfl rfl fun _ => ?_
  refine h_op (r_assign rfl) ?_
  refine h_nil ?_
  refine q_then ?_
  refine h_ret ?_
  exact h_ret1 rfl rfl fun w s => ⟨(), rfl, s.res (List.nil_sublist _) (by simp)⟩
end Go.Proofs.YtjhocljhhpkiiaaGreatDoor
/- U71 -/
namespace Go.Proofs.YtjhocljhhpkiiaaGreatDoor
set_option linter.unusedSimpArgs false
set_option linter.unusedVariables false
open Go.RowKit
def Tr.ht : Tr → Nat
  | .node l r => max l.ht r.ht + 1
  | _ => 0
def Tr.sz : Tr → Nat
  | .node l r => l.sz + r.sz + 1
  | _ => 1
theorem dgs_takeZ {h : Zh} {A : Option Addr} {ks : List B32} (hr : RdZ h A (dgs ks)) (m : Nat) : RdZ h A (dgs (ks.take m)) := by
  have e : dgs ks = dgs (ks.take m) ++ dgs (ks.drop m) := by rw [← dgs_append, List.take_append_drop]
  refine ⟨fun j v hv => hr.at_ j v ?_⟩
  rw [e, List.getElem?_append_left (List.getElem?_eq_some_iff.1 hv).1]
  exact hv
theorem dgs_dropZ {h : Zh} {A : Option Addr} {ks : List B32} {c m : Nat} (hr : RdZ h A (dgs ks)) (hm : m ≤ ks.length) (hc : ks.length ≤ c) : RdZ h (cutA A c m 32) (dgs (ks.drop m)) := by
  have e : dgs ks = dgs (ks.take m) ++ dgs (ks.drop m) := by rw [← dgs_append, List.take_append_drop]
  have hl : (dgs (ks.take m)).length = m * 32 := by rw [dgs_len, List.length_take, Nat.min_eq_left hm]
  unfold cutA
  split
  · have : ks.drop m = [] := List.drop_of_length_le (by omega)
    rw [this]
    exact RdZ.nil _ _
  · refine ⟨fun j v hv => ?_⟩
    have h1 := hr.at_ (m * 32 + j) v (by rw [e, List.getElem?_append_right (by omega), hl, Nat.add_sub_cancel_left]; exact hv)
    obtain ⟨b, o, rfl, h2⟩ := h1
    exact ⟨b, o + m * 32, by simp [Addr.add_mid], by rw [Nat.add_assoc]; exact h2⟩
end Go.Proofs.YtjhocljhhpkiiaaGreatDoor
/- E19 -/
namespace Go.Proofs.YtjhocljhhpkiiaaGreatDoor
set_option linter.unusedSimpArgs false
set_option linter.unusedVariables false
open Go.RowKit
theorem ltK_of {a b : B32} (h : cmpB a b < 0) : ltK a b := cmpB_bits h
theorem chk_ord : ∀ {l : List B32}, chkK l = 0 → l.Pairwise ltK
  | [], _ => .nil
  | [a], _ => List.pairwise_singleton ..
  | a :: b :: l, h => by
    unfold chkK at h
    split at h
    · cases h
    · split at h
      · cases h
      · have ih := chk_ord h
        have hab : ltK a b := ltK_of (by omega)
        refine List.pairwise_cons.2 ⟨fun x hx => ?_, ih⟩
        rcases List.mem_cons.1 hx with rfl | hx
        · exact hab
        · exact ltK_trans hab ((List.pairwise_cons.1 ih).1 x hx)
theorem keysE_ok {l : List B32} (h : keysE l = 0) : l.length ≠ 0 ∧ l.length ≤ 65535 ∧ l.Pairwise ltK := by
  unfold keysE at h
  split at h
  · cases h
  · split at h
    · cases h
    · exact ⟨by assumption, by omega, chk_ord h⟩
end Go.Proofs.YtjhocljhhpkiiaaGreatDoor
/- E20 -/
namespace Go.Proofs.YtjhocljhhpkiiaaGreatDoor
set_option linter.unusedSimpArgs false
set_option linter.unusedVariables false
open Go.RowKit
/-- how many items have a kind -/
def cntI (k : Int) (l : List Item) : Nat := l.countP fun x => x.kind == k
end Go.Proofs.YtjhocljhhpkiiaaGreatDoor
/- E26 -/
namespace Go.Proofs.YtjhocljhhpkiiaaGreatDoor
set_option linter.unusedSimpArgs false
set_option linter.unusedVariables false
open Go.RowKit
/-- how many bytes an item has after its kind -/
def payN (k : Int) : Nat := if k = 1 then 64 else if k = 3 then 32 else 0
def itB (x : Item) : List UInt8 := u8n x.kind.toNat :: (if x.kind = 1 then x.leaf.key.1 ++ x.leaf.value.1 else if x.kind = 3 then x.digest.1 else [])
theorem itB_len (x : Item) : (itB x).length = 1 + payN x.kind := by
  unfold itB payN
  have h1 := x.leaf.key.2
  have h2 := x.leaf.value.2
  have h3 := x.digest.2
  split
  · simp [h1, h2]
  · split <;> simp [h3]
def itsB (l : List Item) : List UInt8 := l.flatMap itB
def lenI (l : List Item) : Nat := (l.map fun x => 1 + payN x.kind).sum
theorem itsB_len : ∀ l : List Item, (itsB l).length = lenI l
  | [] => rfl
  | x :: l => by
    have ih := itsB_len l
    unfold itsB lenI at ih ⊢
    rw [List.flatMap_cons, List.length_append, itB_len, ih, List.map_cons, List.sum_cons]
theorem itsB_snoc {l : List Item} {k : Nat} {x : Item} (h : l[k]? = some x) : itsB (l.take (k + 1)) = itsB (l.take k) ++ itB x := by
  unfold itsB
  rw [List.take_add_one, h, List.flatMap_append]
  simp
theorem lenI_snoc {l : List Item} {k : Nat} {x : Item} (h : l[k]? = some x) : lenI (l.take (k + 1)) = lenI (l.take k) + (1 + payN x.kind) := by
  rw [← itsB_len, ← itsB_len, itsB_snoc h, List.length_append, itB_len]
theorem payN_le (k : Int) : payN k ≤ 64 := by unfold payN; split <;> (try split) <;> omega
theorem lenI_le : ∀ l : List Item, lenI l ≤ 65 * l.length
  | [] => Nat.le_refl _
  | x :: l => by
    have ih := lenI_le l
    have h := payN_le x.kind
    unfold lenI at ih ⊢
    rw [List.map_cons, List.sum_cons, List.length_cons]
    omega
/-- by kinds -/
theorem lenI_cnt : ∀ l : List Item, lenI l = l.length + 64 * cntI 1 l + 32 * cntI 3 l
  | [] => rfl
  | x :: l => by
    have ih := lenI_cnt l
    unfold lenI cntI at ih ⊢
    rw [List.map_cons, List.sum_cons, ih, List.length_cons, List.countP_cons, List.countP_cons]
    unfold payN
    by_cases h1 : x.kind = 1
    · simp [h1]; omega
    · by_cases h3 : x.kind = 3
      · simp [h3]; omega
      · simp [h1, h3]; omega
/-- the bytes ahead of the items -/
def headM (n : Nat) : List UInt8 := [1, 2, u8n (n / 2 ^ 24), u8n (n / 2 ^ 16), u8n (n / 2 ^ 8), u8n (n / 2 ^ 0)]
def encM (l : List Item) : List UInt8 := headM l.length ++ itsB l
theorem encM_len (l : List Item) : (encM l).length = 6 + lenI l := by
  unfold encM
  rw [List.length_append, itsB_len]
  rfl
end Go.Proofs.YtjhocljhhpkiiaaGreatDoor
/- E27 -/
namespace Go.Proofs.YtjhocljhhpkiiaaGreatDoor
set_option linter.unusedSimpArgs false
set_option linter.unusedVariables false
open Go.RowKit
/-- the item of a kind, and of the bytes behind it -/
def itemB (k : UInt8) (r : List UInt8) : Item :=
  if k.toNat = 1 then ⟨1, zB32, ⟨b32At r 0, b32At r 32⟩⟩ else if k.toNat = 3 then ⟨3, b32At r 0, zLeaf⟩ else ⟨(k.toNat : Int), zB32, zLeaf⟩
/-- how many bytes stand behind a kind -/
abbrev payB (k : UInt8) : Nat := payN (k.toNat : Int)
theorem itemB_kind (k : UInt8) (r : List UInt8) : (itemB k r).kind = (k.toNat : Int) := by
  unfold itemB
  split
  · show (1 : Int) = _; omega
  · split
    · show (3 : Int) = _; omega
    · rfl
/-- all items of bytes, or none where the last one is cut off -/
def itsN : Nat → List UInt8 → Option (List Item)
  | _, [] => some []
  | 0, _ :: _ => none
  | n + 1, k :: r => if r.length < payB k then none else (itsN n (r.drop (payB k))).map (itemB k r :: ·)
def itsD (s : List UInt8) : Option (List Item) := itsN s.length s
theorem itsN_eq : ∀ (n : Nat) (s : List UInt8), s.length ≤ n → itsN n s = itsD s := by
  intro n
  induction n using Nat.strongRecOn with
  | ind n ih =>
    intro s hs
    cases s with
    | nil => cases n <;> rfl
    | cons k r =>
      cases n with
      | zero => simp at hs
      | succ n =>
        unfold itsD
        simp only [List.length_cons, itsN] at hs ⊢
        split
        · rfl
        · rw [ih n (by omega) _ (by simp; omega)]
          have h2 : itsN r.length (r.drop (payB k)) = itsD (r.drop (payB k)) := by
            by_cases h : r.length < n + 1
            · exact ih _ h _ (by simp)
            · omega
          rw [h2]
theorem itsD_nil : itsD [] = some [] := rfl
theorem itsD_cons (k : UInt8) (r : List UInt8) : itsD (k :: r) = if r.length < payB k then none else (itsD (r.drop (payB k))).map (itemB k r :: ·) := by
  have : itsD (k :: r) = itsN (r.length + 1) (k :: r) := rfl
  rw [this, itsN, itsN_eq r.length _ (by simp)]
/-- the number that the head tells -/
def cntH (b : List UInt8) : Nat := (((b.getD 2 0).toNat * 256 + (b.getD 3 0).toNat) * 256 + (b.getD 4 0).toNat) * 256 + (b.getD 5 0).toNat
def decM (b : List UInt8) : Except Int (List Item) :=
  if b.length < 6 then .error 5 else if b.getD 0 0 ≠ 1 then .error 6 else if b.getD 1 0 ≠ 2 then .error 7 else
  match itsD (b.drop 6) with
  | some l => if l.length = cntH b ∧ checkM l = 0 then .ok l else .error 5
  | none => .error 5
/-- what a loop that has read some items, and stops at a number of them, has still to find -/
theorem itsD_pos {s : List UInt8} {l : List Item} (h : itsD s = some l) : s.length = lenI l := by
  suffices H : ∀ (n : Nat) (s : List UInt8) (l : List Item), s.length ≤ n → itsD s = some l → s.length = lenI l from H s.length s l (Nat.le_refl _) h
  intro n
  induction n with
  | zero =>
    intro s l hs h
    obtain rfl := List.eq_nil_of_length_eq_zero (Nat.le_zero.1 hs)
    obtain rfl : [] = l := Option.some.inj h
    rfl
  | succ n ih =>
    intro s l hs h
    cases s with
    | nil =>
      obtain rfl : [] = l := Option.some.inj h
      rfl
    | cons k r =>
      rw [itsD_cons] at h
      split at h
      · cases h
      · obtain ⟨m, hm, rfl⟩ := Option.map_eq_some_iff.1 h
        have h2 := ih _ _ (by rw [List.length_drop]; simp at hs; omega) hm
        rw [List.length_drop] at h2
        unfold lenI at h2 ⊢
        have h3 : payB k = payN (k.toNat : Int) := rfl
        rw [List.map_cons, List.sum_cons, ← h2, itemB_kind, List.length_cons]
        omega
end Go.Proofs.YtjhocljhhpkiiaaGreatDoor
/- E24 -/
namespace Go.Proofs.YtjhocljhhpkiiaaGreatDoor
set_option linter.unusedSimpArgs false
set_option linter.unusedVariables false
open Go.RowKit
abbrev E18 : B32 := sumB 256 preE
abbrev kb18 : List UInt8 := List.replicate 32 0
theorem keyOf_val (x : B32) : keyOf x.1 = x := by unfold keyOf; rw [dif_pos x.2]
end Go.Proofs.YtjhocljhhpkiiaaGreatDoor
/- U49 -/
namespace Go.Proofs.YtjhocljhhpkiiaaGreatDoor
set_option linter.unusedSimpArgs false
set_option linter.unusedVariables false
open Go.RowKit
/-! sets of depths -/
/-! the way of a key -/
end Go.Proofs.YtjhocljhhpkiiaaGreatDoor
/- U46 -/
namespace Go.Proofs.YtjhocljhhpkiiaaGreatDoor
set_option linter.unusedSimpArgs false
set_option linter.unusedVariables false
open Go.RowKit
def kB (x : UInt8) : B32 := ⟨x :: List.replicate 31 0, rfl⟩
def L15 : List En := [⟨⟨zB32, ⟨none, 0, 0⟩⟩, []⟩, ⟨⟨kB 255, ⟨none, 0, 0⟩⟩, []⟩]
theorem slz_nil (h : Zh) : SlZ h ⟨none, 0, 0⟩ [] := ⟨rfl, Nat.le_refl _, fun _ => ⟨rfl, rfl⟩, RdZ.nil _ _⟩
theorem z7 : prfK 256 (kB 7) .nil 0 none 0 = zProof := by
  unfold prfK
  show (⟨0, 0, zLeaf, dset [], ⟨none, 0, 0⟩⟩ : Proof) = zProof
  rw [dset_nil]; rfl
end Go.Proofs.YtjhocljhhpkiiaaGreatDoor
/- U50 -/
namespace Go.Proofs.YtjhocljhhpkiiaaGreatDoor
set_option linter.unusedSimpArgs false
set_option linter.unusedVariables false
open Go.RowKit
end Go.Proofs.YtjhocljhhpkiiaaGreatDoor
/- U51t -/
namespace Go.Proofs.YtjhocljhhpkiiaaGreatDoor
set_option linter.unusedSimpArgs false
set_option linter.unusedVariables false
open Go.RowKit
instance iU51t_1 : TBool Tryz.prog 4 := ⟨Tryz.underlying4⟩
end Go.Proofs.YtjhocljhhpkiiaaGreatDoor
/- U52 -/
namespace Go.Proofs.YtjhocljhhpkiiaaGreatDoor
set_option linter.unusedSimpArgs false
set_option linter.unusedVariables false
open Go.RowKit
end Go.Proofs.YtjhocljhhpkiiaaGreatDoor
/- U26z -/
namespace Go.Proofs.YtjhocljhhpkiiaaGreatDoor
set_option linter.unusedSimpArgs false
set_option linter.unusedVariables false
open Go.RowKit
instance (L : List Fa) (A : Option Addr) : Rd1 L (.rd A (dgs [])) := inferInstanceAs (Rd1 L (.rd A []))
end Go.Proofs.YtjhocljhhpkiiaaGreatDoor
/- U27 -/
namespace Go.Proofs.YtjhocljhhpkiiaaGreatDoor
set_option linter.unusedSimpArgs false
set_option linter.unusedVariables false
open Go.RowKit
end Go.Proofs.YtjhocljhhpkiiaaGreatDoor
/- U55 -/
namespace Go.Proofs.YtjhocljhhpkiiaaGreatDoor
set_option linter.unusedSimpArgs false
set_option linter.unusedVariables false
open Go.RowKit
end Go.Proofs.YtjhocljhhpkiiaaGreatDoor
/- E25 -/
namespace Go.Proofs.YtjhocljhhpkiiaaGreatDoor
set_option linter.unusedSimpArgs false
set_option linter.unusedVariables false
open Go.RowKit
theorem b32At_of {l pre post : List UInt8} {x : B32} {o : Nat} (h : l = pre ++ (x.1 ++ post)) (hp : pre.length = o) : b32At l o = x := by
  subst hp
  subst h
  apply Subtype.ext
  apply List.ext_getElem?
  intro j
  show ((List.range 32).map fun j => (pre ++ (x.1 ++ post)).getD (pre.length + j) 0)[j]? = _
  have hx := x.2
  by_cases hj : j < 32
  · rw [List.getElem?_map, List.getElem?_range hj]
    simp only [Option.map_some, List.getD_eq_getElem?_getD]
    rw [List.getElem?_append_right (by omega), Nat.add_sub_cancel_left, List.getElem?_append_left (by omega), List.getElem?_eq_getElem (by omega)]
    rfl
  · rw [List.getElem?_eq_none (by simp; omega), List.getElem?_eq_none (by omega)]
theorem u8n_nat {m : Nat} (h : m < 256) : (u8n m).toNat = m := by
  unfold u8n
  rw [UInt8.toNat_ofNat']
  exact Nat.mod_eq_of_lt h
end Go.Proofs.YtjhocljhhpkiiaaGreatDoor
/- E28 -/
namespace Go.Proofs.YtjhocljhhpkiiaaGreatDoor
set_option linter.unusedSimpArgs false
set_option linter.unusedVariables false
open Go.RowKit
theorem itsD_item (x : Item) (hk : kindOk x = true) (hc : cleanItem x = true) (r : List UInt8) : itsD (itB x ++ r) = (itsD r).map (x :: ·) := by
  obtain ⟨kind, digest, leaf⟩ := x
  simp only [kindOk, Bool.and_eq_true, decide_eq_true_eq] at hk
  simp only [cleanItem, Bool.and_eq_true, Bool.or_eq_true, decide_eq_true_eq, beq_iff_eq] at hc
  obtain ⟨k, rfl⟩ : ∃ k : Nat, kind = (k : Int) := ⟨kind.toNat, by omega⟩
  have hu : (u8n k).toNat = k := u8n_nat (by omega)
  have hl1 := leaf.key.2
  have hl2 := leaf.value.2
  have hl3 := digest.2
  have hpb : payB (u8n k) = payN (k : Int) := by unfold payB; rw [hu]
  by_cases k1 : k = 1
  · subst k1
    have hd : digest = zB32 := hc.1.resolve_left (by omega)
    subst hd
    have e : itB ⟨((1 : Nat) : Int), zB32, leaf⟩ = u8n 1 :: (leaf.key.1 ++ leaf.value.1) := by unfold itB; rw [if_pos (show ((1 : Nat) : Int) = 1 from rfl)]; rfl
    have hp : payB (u8n 1) = 64 := by rw [hpb]; rfl
    rw [e, List.cons_append, itsD_cons, hp, if_neg (by simp [hl1, hl2]; omega)]
    have e2 : (leaf.key.1 ++ leaf.value.1 ++ r).drop 64 = r := List.drop_left' (by rw [List.length_append, hl1, hl2])
    have e3 : itemB (u8n 1) (leaf.key.1 ++ leaf.value.1 ++ r) = ⟨((1 : Nat) : Int), zB32, leaf⟩ := by
      unfold itemB
      rw [if_pos hu, b32At_of (o := 0) (pre := []) (x := leaf.key) (post := leaf.value.1 ++ r) (by simp) rfl, b32At_of (o := 32) (pre := leaf.key.1) (x := leaf.value) (post := r) (by simp) hl1]
      rfl
    rw [e2, e3]
  · have hlf : leaf = zLeaf := hc.2.resolve_left (by omega)
    subst hlf
    by_cases k3 : k = 3
    · subst k3
      have e : itB ⟨((3 : Nat) : Int), digest, zLeaf⟩ = u8n 3 :: digest.1 := by unfold itB; rw [if_neg (show ¬ ((3 : Nat) : Int) = 1 by decide), if_pos (show ((3 : Nat) : Int) = 3 from rfl)]; rfl
      have hp : payB (u8n 3) = 32 := by rw [hpb]; rfl
      rw [e, List.cons_append, itsD_cons, hp, if_neg (by simp [hl3]; try omega)]
      have e2 : (digest.1 ++ r).drop 32 = r := List.drop_left' hl3
      have e3 : itemB (u8n 3) (digest.1 ++ r) = ⟨((3 : Nat) : Int), digest, zLeaf⟩ := by
        unfold itemB
        rw [if_neg (by omega), if_pos hu, b32At_of (o := 0) (pre := []) (x := digest) (post := r) (by simp) rfl]
        rfl
      rw [e2, e3]
    · have hd : digest = zB32 := hc.1.resolve_left (by omega)
      subst hd
      have e : itB ⟨(k : Int), zB32, zLeaf⟩ = [u8n k] := by unfold itB; rw [if_neg (show ¬ (k : Int) = 1 by omega), if_neg (show ¬ (k : Int) = 3 by omega)]; rfl
      have hp : payB (u8n k) = 0 := by rw [hpb]; unfold payN; rw [if_neg (by omega), if_neg (by omega)]
      have e3 : itemB (u8n k) r = ⟨(k : Int), zB32, zLeaf⟩ := by
        unfold itemB
        rw [hu, if_neg (by omega), if_neg (by omega)]
      rw [e, List.singleton_append, itsD_cons, hp, if_neg (by omega), List.drop_zero, e3]
theorem itsD_its : ∀ (l : List Item), l.all kindOk = true → l.all cleanItem = true → itsD (itsB l) = some l
  | [], _, _ => rfl
  | x :: l, h1, h2 => by
    rw [List.all_cons, Bool.and_eq_true] at h1 h2
    show itsD (itB x ++ itsB l) = _
    rw [itsD_item x h1.1 h2.1, itsD_its l h1.2 h2.2]
    rfl
theorem decM_enc (l : List Item) (h : checkM l = 0) (hl : l.length < 4294967296) : decM (encM l) = .ok l := by
  have hk : l.all kindOk = true ∧ l.all cleanItem = true := by
    have h' := h
    rw [checkM_eq] at h'
    split at h'
    · split at h'
      · exact ⟨‹_›, ‹_›⟩
      · cases h'
    · cases h'
  have hlen := encM_len l
  have hd : (encM l).drop 6 = itsB l := rfl
  have hc : cntH (encM l) = l.length := by
    show (((u8n (l.length / 2 ^ 24)).toNat * 256 + (u8n (l.length / 2 ^ 16)).toNat) * 256 + (u8n (l.length / 2 ^ 8)).toNat) * 256 + (u8n (l.length / 2 ^ 0)).toNat = _
    unfold u8n
    simp only [UInt8.toNat_ofNat']
    omega
  unfold decM
  rw [if_neg (by omega), if_neg (show ¬ (encM l).getD 0 0 ≠ 1 from fun h => h rfl), if_neg (show ¬ (encM l).getD 1 0 ≠ 2 from fun h => h rfl), hd, itsD_its l hk.1 hk.2]
  show (if l.length = cntH (encM l) ∧ checkM l = 0 then _ else _) = _
  rw [if_pos ⟨hc.symm, h⟩]
end Go.Proofs.YtjhocljhhpkiiaaGreatDoor
