/- multi: the subtree that items begin with; Arguments that are lists of items or of keys, opened; Repeat; node: what is read of a subtree; node: what makes a subtree; node.Join; find: the way of a key (joined texts: U62 TI U16 U33 U34 U35 U36) -/
import Derived.Test.YtgfkbeipckbkiaaGreatDoorZ9
set_option linter.all false
/- U62 -/
namespace Go.Proofs.YtgfkbeipckbkiaaGreatDoor
set_option linter.unusedSimpArgs false
set_option linter.unusedVariables false
open Go.RowKit
instance : TIf Tryz.prog 117 := ⟨by kernel_rfl⟩
def Sub.tag : Sub → TypeId
  | .one _ => 146
  | .two _ _ => 142
def Sub.val : Sub → Value
  | .one x => .agg x.cells.toArray
  | .two l r => .agg #[.iface l.tag l.val, .iface r.tag r.val]
def its (l : List Item) : List Value := l.flatMap Item.cells
theorem its_len (l : List Item) : (its l).length = l.length * 97 := by
  induction l with
  | nil => rfl
  | cons x l ih =>
    show (x.cells ++ its l).length = _
    rw [List.length_append, ih, Item.cells_length, List.length_cons]; omega
theorem its_cons (x : Item) (l : List Item) : its (x :: l) = x.cells ++ its l := rfl
theorem its_tail {h : Zh} {A : Option Addr} {x : Item} {l : List Item} {c : Nat} (hr : RdZ h A (its (x :: l))) (hc : l.length + 1 ≤ c) : RdZ h (cutA A c 1 97) (its l) := by
  rw [its_cons] at hr
  unfold cutA
  split
  · have : l = [] := List.eq_nil_of_length_eq_zero (by omega)
    rw [this]
    exact RdZ.nil _ _
  · refine ⟨fun j v hv => ?_⟩
    have h1 := hr.at_ (97 + j) v (by rw [List.getElem?_append_right (by rw [Item.cells_length]; omega), Item.cells_length, Nat.add_sub_cancel_left]; exact hv)
    obtain ⟨b, o, rfl, h2⟩ := h1
    exact ⟨b, o + 97, by simp [Addr.add_mid], by rw [Nat.add_assoc]; exact h2⟩
section
variable (h : Zh)
theorem read_nil (A : Option Addr) (c : Nat) (i : Int) : Spec Tryz.prog 104 [.slice A 0 c, .int .i64 i].toArray [.zone false h] [] (fun _ : Unit => .tuple #[.nilIface, .slice none 0 0]) (fun _ => []) := by
  refine spec_of Tryz.func104 rfl (n := 47) rfl rfl ?_
  intro W
  refine h_seq ?_
  refine h_reg ?_
  refine h_op (r_assign rfl) ?_
  refine h_op (r_assign rfl) ?_
  refine h_nil ?_
  refine q_then ?_
  refine h_seq ?_
  refine h_seq ?_
  refine h_reg ?_
  refine h_op (r_move rfl) ?_
  refine h_op (r_len rfl) ?_
  refine h_op (r_bool (r_eql rfl rfl) (show _ = true from rfl)) ?_
  refine h_nil ?_
  refine q_then ?_
  refine h_condT rfl ?_
  refine h_seq ?_
  refine h_reg ?_
  refine h_op (r_assign rfl) ?_
  refine h_op (r_assign rfl) ?_
  refine h_nil ?_
  refine q_then ?_
  refine h_ret ?_
  refine q_thenR ?_
  exact h_ret2 rfl rfl rfl fun w s => ⟨(), rfl, s.res (List.nil_sublist _) (by simp)⟩
theorem read_one (x : Item) (r : List Item) (hk : x.kind ≠ 2) (A : Option Addr) (c : Nat) (i : Int) [hr : RdZ h A (its (x :: r))] (hc : r.length + 1 ≤ c) : Spec Tryz.prog 104 [.slice A (r.length + 1) c, .int .i64 i].toArray [.zone false h] [] (fun _ : Unit => .tuple #[.iface (Sub.one x).tag (Sub.one x).val, .slice (cutA A c 1 97) r.length (c - 1)]) (fun _ => []) := by
  have h0 : 0 < (its (x :: r)).length := by rw [its_len, List.length_cons]; omega
  obtain ⟨b, o, rfl, -⟩ := hr.at_ 0 _ (List.getElem?_eq_getElem h0)
  have hx : ∀ j v, x.cells[j]? = some v → (its (x :: r))[0 + j]? = some v := fun j v hv => by rw [its_cons, Nat.zero_add, List.getElem?_append_left (List.getElem?_eq_some_iff.1 hv).1]; exact hv
  refine spec_of Tryz.func104 rfl (n := 47) rfl rfl ?_
  intro W
  refine h_seq ?_
  refine h_reg ?_
  refine h_op (r_assign rfl) ?_
  refine h_op (r_assign rfl) ?_
  refine h_nil ?_
  refine q_then ?_
  refine h_seq ?_
  refine h_seq ?_
  refine h_reg ?_
  refine h_op (r_move rfl) ?_
  refine h_op (r_len rfl) ?_
  refine h_op (r_bool (r_eql rfl rfl) (decide_eq_false (by omega))) ?_
  refine h_nil ?_
  refine q_then ?_
  refine h_condF rfl ?_
  refine h_skip ?_
  refine q_then ?_
  refine h_seq ?_
  refine ha_start [.zone false h] [] mixed (same) ?_
  refine ha_takeP 0 rfl (r_move rfl) ?_
  refine ha_takeP 1 rfl (r_idx rfl rfl) ?_
  refine ha_take 2 rfl (r_nthr rfl (out := x.cells) (Item.cells_length x) hx) ?_
  refine ha_takeP 3 rfl (r_move rfl) ?_
  refine ha_takeP 4 rfl (r_as (r_slL rfl rfl) (show _ = Value.slice (cutA (some ⟨b, o, none⟩) c 1 97) r.length (c - 1) by rw [Nat.add_sub_cancel])) ?_
  refine ha_one 5 ?_
  refine ho_X 5 rfl (rk (x_alloc)) (fun _ => same) fun g6 => ?_
  refine ha_one 6 ?_
  refine ho_S 6 rfl (s_storer rfl rfl) (same) ?_
  refine ha_takeP 7 rfl (r_assign rfl) ?_
  refine ha_done (by kernel_rfl) ?_
  refine q_then ?_
  refine h_seq ?_
  refine h_seq ?_
  refine h_reg ?_
  refine h_op (r_field rfl) ?_
  refine h_op (r_loadc rfl) ?_
  refine h_op (r_bool (r_neq rfl rfl) (decide_eq_true hk)) ?_
  refine h_nil ?_
  refine q_then ?_
  refine h_condT rfl ?_
  refine h_seq ?_
  refine h_reg ?_
  refine h_op (r_loadr rfl) ?_
  refine h_op (r_build rfl) ?_
  refine h_op (r_mkI rfl) ?_
  refine h_op (r_move rfl) ?_
  refine h_op (r_assign rfl) ?_
  refine h_op (r_assign rfl) ?_
  refine h_nil ?_
  refine q_then ?_
  refine h_ret ?_
  refine q_thenR ?_
  exact h_ret2 rfl rfl rfl fun w s => ⟨(), rfl, s.res (List.nil_sublist _) (by simp)⟩
theorem read_deep (x : Item) (r : List Item) (hk : x.kind = 2) (A : Option Addr) (c : Nat) (i : Int) (hi : 256 ≤ i) [hr : RdZ h A (its (x :: r))] (hc : r.length + 1 ≤ c) : Spec Tryz.prog 104 [.slice A (r.length + 1) c, .int .i64 i].toArray [.zone false h] [] (fun _ : Unit => .tuple #[.nilIface, .slice none 0 0]) (fun _ => []) := by
  have h0 : 0 < (its (x :: r)).length := by rw [its_len, List.length_cons]; omega
  obtain ⟨b, o, rfl, -⟩ := hr.at_ 0 _ (List.getElem?_eq_getElem h0)
  have hx : ∀ j v, x.cells[j]? = some v → (its (x :: r))[0 + j]? = some v := fun j v hv => by rw [its_cons, Nat.zero_add, List.getElem?_append_left (List.getElem?_eq_some_iff.1 hv).1]; exact hv
  refine spec_of Tryz.func104 rfl (n := 47) rfl rfl ?_
  intro W
  refine h_seq ?_
  refine h_reg ?_
  refine h_op (r_assign rfl) ?_
  refine h_op (r_assign rfl) ?_
  refine h_nil ?_
  refine q_then ?_
  refine h_seq ?_
  refine h_seq ?_
  refine h_reg ?_
  refine h_op (r_move rfl) ?_
  refine h_op (r_len rfl) ?_
  refine h_op (r_bool (r_eql rfl rfl) (decide_eq_false (by omega))) ?_
  refine h_nil ?_
  refine q_then ?_
  refine h_condF rfl ?_
  refine h_skip ?_
  refine q_then ?_
  refine h_seq ?_
  refine ha_start [.zone false h] [] mixed (same) ?_
  refine ha_takeP 0 rfl (r_move rfl) ?_
  refine ha_takeP 1 rfl (r_idx rfl rfl) ?_
  refine ha_take 2 rfl (r_nthr rfl (out := x.cells) (Item.cells_length x) hx) ?_
  refine ha_takeP 3 rfl (r_move rfl) ?_
  refine ha_takeP 4 rfl (r_as (r_slL rfl rfl) (show _ = Value.slice (cutA (some ⟨b, o, none⟩) c 1 97) r.length (c - 1) by rw [Nat.add_sub_cancel])) ?_
  refine ha_one 5 ?_
  refine ho_X 5 rfl (rk (x_alloc)) (fun _ => same) fun g6 => ?_
  refine ha_one 6 ?_
  refine ho_S 6 rfl (s_storer rfl rfl) (same) ?_
  refine ha_takeP 7 rfl (r_assign rfl) ?_
  refine ha_done (by kernel_rfl) ?_
  refine q_then ?_
  refine h_seq ?_
  refine h_seq ?_
  refine h_reg ?_
  refine h_op (r_field rfl) ?_
  refine h_op (r_loadc rfl) ?_
  refine h_op (r_bool (r_neq rfl rfl) (decide_eq_false (fun h => h hk))) ?_
  refine h_nil ?_
  refine q_then ?_
  refine h_condF rfl ?_
  refine h_skip ?_
  refine q_then ?_
  refine h_seq ?_
  refine h_seq ?_
  refine h_reg ?_
  refine h_op (r_move rfl) ?_
  refine h_op (r_bool (r_geq rfl rfl) (decide_eq_true (by omega))) ?_
  refine h_nil ?_
  refine q_then ?_
  refine h_condT rfl ?_
  refine h_seq ?_
  refine h_reg ?_
  refine h_op (r_assign rfl) ?_
  refine h_op (r_assign rfl) ?_
  refine h_nil ?_
  refine q_then ?_
  refine h_ret ?_
  refine q_thenR ?_
  exact h_ret2 rfl rfl rfl fun w s => ⟨(), rfl, s.res (List.nil_sublist _) (by simp)⟩
/-- what a call of read brings -/
def ReadS (d : Nat) (l : List Item) : Prop := ∀ (A : Option Addr) (c : Nat), RdZ h A (its l) → l.length ≤ c →
  match readM d l with
  | none => Spec Tryz.prog 104 [.slice A l.length c, .int .i64 (256 - (d : Int))].toArray [.zone false h] [] (fun _ : Unit => .tuple #[.nilIface, .slice none 0 0]) (fun _ => [])
  | some (t, r) => Spec Tryz.prog 104 [.slice A l.length c, .int .i64 (256 - (d : Int))].toArray [.zone false h] [] (fun y : {y : Option Addr × Nat // RdZ h y.1 (its r) ∧ r.length ≤ y.2} => .tuple #[.iface t.tag t.val, .slice y.1.1 r.length y.1.2]) (fun _ => [])
theorem read_no1 (x : Item) (r : List Item) (hk : x.kind = 2) (d : Nat) (hd : d < 256) (h1 : readM d r = none) (hS : ReadS h d r) (A : Option Addr) (c : Nat) [hr : RdZ h A (its (x :: r))] (hc : r.length + 1 ≤ c) : Spec Tryz.prog 104 [.slice A (r.length + 1) c, .int .i64 (256 - ((d + 1 : Nat) : Int))].toArray [.zone false h] [] (fun _ : Unit => .tuple #[.nilIface, .slice none 0 0]) (fun _ => []) := by
  have h0 : 0 < (its (x :: r)).length := by rw [its_len, List.length_cons]; omega
  have hT := hS _ _ (its_tail hr hc) (show r.length ≤ c - 1 by omega)
  rw [h1] at hT
  obtain ⟨b, o, rfl, -⟩ := hr.at_ 0 _ (List.getElem?_eq_getElem h0)
  have hx : ∀ j v, x.cells[j]? = some v → (its (x :: r))[0 + j]? = some v := fun j v hv => by rw [its_cons, Nat.zero_add, List.getElem?_append_left (List.getElem?_eq_some_iff.1 hv).1]; exact hv
  refine spec_of Tryz.func104 rfl (n := 47) rfl rfl ?_
  intro W
  refine h_seq ?_
  refine h_reg ?_
  refine h_op (r_assign rfl) ?_
  refine h_op (r_assign rfl) ?_
  refine h_nil ?_
  refine q_then ?_
  refine h_seq ?_
  refine h_seq ?_
  refine h_reg ?_
  refine h_op (r_move rfl) ?_
  refine h_op (r_len rfl) ?_
  refine h_op (r_bool (r_eql rfl rfl) (decide_eq_false (by omega))) ?_
  refine h_nil ?_
  refine q_then ?_
  refine h_condF rfl ?_
  refine h_skip ?_
  refine q_then ?_
  refine h_seq ?_
  refine ha_start [.zone false h] [] mixed (same) ?_
  refine ha_takeP 0 rfl (r_move rfl) ?_
  refine ha_takeP 1 rfl (r_idx rfl rfl) ?_
  refine ha_take 2 rfl (r_nthr rfl (out := x.cells) (Item.cells_length x) hx) ?_
  refine ha_takeP 3 rfl (r_move rfl) ?_
  refine ha_takeP 4 rfl (r_as (r_slL rfl rfl) (show _ = Value.slice (cutA (some ⟨b, o, none⟩) c 1 97) r.length (c - 1) by rw [Nat.add_sub_cancel])) ?_
  refine ha_one 5 ?_
  refine ho_X 5 rfl (rk (x_alloc)) (fun _ => same) fun g6 => ?_
  refine ha_one 6 ?_
  refine ho_S 6 rfl (s_storer rfl rfl) (same) ?_
  refine ha_takeP 7 rfl (r_assign rfl) ?_
  refine ha_done (by kernel_rfl) ?_
  refine q_then ?_
  refine h_seq ?_
  refine h_seq ?_
  refine h_reg ?_
  refine h_op (r_field rfl) ?_
  refine h_op (r_loadc rfl) ?_
  refine h_op (r_bool (r_neq rfl rfl) (decide_eq_false (fun h => h hk))) ?_
  refine h_nil ?_
  refine q_then ?_
  refine h_condF rfl ?_
  refine h_skip ?_
  refine q_then ?_
  refine h_seq ?_
  refine h_seq ?_
  refine h_reg ?_
  refine h_op (r_move rfl) ?_
  refine h_op (r_bool (r_geq rfl rfl) (decide_eq_false (by omega))) ?_
  refine h_nil ?_
  refine q_then ?_
  refine h_condF rfl ?_
  refine h_skip ?_
  refine q_then ?_
  refine h_seq ?_
  refine h_reg ?_
  refine h_opX (x_alloc) fun g8 => ?_
  refine h_nil ?_
  refine q_then ?_
  refine h_seq ?_
  refine h_seq ?_
  refine h_reg ?_
  refine h_op (r_move rfl) ?_
  refine h_nil ?_
  refine q_then ?_
  refine h_block ?_
  refine h_loop (fun (u : Unit) => True) (fun (u : Unit) => [(27, .int .i64 0), (8, .pointer (some ⟨g8, 0, none⟩)), (7, .slice (cutA (some ⟨b, o, none⟩) c 1 97) r.length (c - 1)), (1, .int .i64 (256 - ((d + 1 : Nat) : Int)))]) (fun (u : Unit) => [.blk g8 [.nilIface, .nilIface] 142, .zone false h]) (fun (u : Unit) => 0) () (trivial) ⟨rfl, rfl, rfl, rfl, trivial⟩ (same) ?_
  rintro ⟨⟩ -
  refine h_seq ?_
  refine h_reg ?_
  refine h_op (r_lss rfl rfl) ?_
  refine h_nil ?_
  refine q_then ?_
  refine h_seq ?_
  refine h_condT rfl ?_
  refine h_skip ?_
  refine q_then ?_
  refine h_seq ?_
  refine h_block ?_
  refine h_seq ?_
  refine h_reg ?_
  refine h_op (r_move rfl) ?_
  refine h_op (r_assign rfl) ?_
  refine h_nil ?_
  refine q_then ?_
  refine h_seq ?_
  refine h_reg ?_
  refine h_op (r_move rfl) ?_
  refine h_op (r_move rfl) ?_
  refine h_op (r_move rfl) ?_
  refine h_op (r_int (r_add rfl rfl) (show _ = 256 - (d : Int) by omega)) ?_
  refine h_call (hT.comes) rfl rfl rfl fun _ => ?_
  refine h_op (r_move rfl) ?_
  refine h_op (r_extract rfl rfl) ?_
  refine h_op (r_extract rfl rfl) ?_
  refine h_op (r_idxA rfl rfl) ?_
  refine h_opS (s_store rfl rfl rfl) ?_
  refine h_op (r_assign rfl) ?_
  refine h_nil ?_
  refine q_then ?_
  refine h_seq ?_
  refine h_reg ?_
  refine h_op (r_move rfl) ?_
  refine h_op (r_idxA rfl rfl) ?_
  refine h_op (r_loadc rfl) ?_
  refine h_op (r_nilnil rfl) ?_
  refine h_nil ?_
  refine q_then ?_
  refine h_condT rfl ?_
  refine h_seq ?_
  refine h_reg ?_
  refine h_op (r_assign rfl) ?_
  refine h_op (r_assign rfl) ?_
  refine h_nil ?_
  refine q_then ?_
  refine h_ret ?_
  refine q_blockR ?_
  refine q_thenR ?_
  refine q_thenR ?_
  refine q_blockR ?_
  refine q_thenR ?_
  exact h_ret2 rfl rfl rfl fun w s => ⟨(), rfl, s.res (List.nil_sublist _) (by simp)⟩
theorem read_no2 (x : Item) (r r1 : List Item) (t1 : Sub) (hk : x.kind = 2) (d : Nat) (hd : d < 256) (h1 : readM d r = some (t1, r1)) (h2 : readM d r1 = none) (hS : ReadS h d r) (hS1 : ReadS h d r1) (A : Option Addr) (c : Nat) [hr : RdZ h A (its (x :: r))] (hc : r.length + 1 ≤ c) : Spec Tryz.prog 104 [.slice A (r.length + 1) c, .int .i64 (256 - ((d + 1 : Nat) : Int))].toArray [.zone false h] [] (fun _ : Unit => .tuple #[.nilIface, .slice none 0 0]) (fun _ => []) := by
  have hT2 : ∀ A c, RdZ h A (its r1) → r1.length ≤ c → Spec Tryz.prog 104 [.slice A r1.length c, .int .i64 (256 - (d : Int))].toArray [.zone false h] [] (fun _ : Unit => .tuple #[.nilIface, .slice none 0 0]) (fun _ => []) := fun A c a b => by
    have := hS1 A c a b
    rw [h2] at this
    exact this
  have h0 : 0 < (its (x :: r)).length := by rw [its_len, List.length_cons]; omega
  have hz0 := its_tail hr hc
  have hT1 : ∀ A c, RdZ h A (its r) → r.length ≤ c → Spec Tryz.prog 104 [.slice A r.length c, .int .i64 (256 - (d : Int))].toArray [.zone false h] [] (fun y : {y : Option Addr × Nat // RdZ h y.1 (its r1) ∧ r1.length ≤ y.2} => .tuple #[.iface t1.tag t1.val, .slice y.1.1 r1.length y.1.2]) (fun _ => []) := fun A c a b => by
    have := hS A c a b
    rw [h1] at this
    exact this
  obtain ⟨b, o, rfl, -⟩ := hr.at_ 0 _ (List.getElem?_eq_getElem h0)
  have hx : ∀ j v, x.cells[j]? = some v → (its (x :: r))[0 + j]? = some v := fun j v hv => by rw [its_cons, Nat.zero_add, List.getElem?_append_left (List.getElem?_eq_some_iff.1 hv).1]; exact hv
  refine spec_of Tryz.func104 rfl (n := 47) rfl rfl ?_
  intro W
  refine h_seq ?_
  refine h_reg ?_
  refine h_op (r_assign rfl) ?_
  refine h_op (r_assign rfl) ?_
  refine h_nil ?_
  refine q_then ?_
  refine h_seq ?_
  refine h_seq ?_
  refine h_reg ?_
  refine h_op (r_move rfl) ?_
  refine h_op (r_len rfl) ?_
  refine h_op (r_bool (r_eql rfl rfl) (decide_eq_false (by omega))) ?_
  refine h_nil ?_
  refine q_then ?_
  refine h_condF rfl ?_
  refine h_skip ?_
  refine q_then ?_
  refine h_seq ?_
  refine ha_start [.zone false h] [] mixed (same) ?_
  refine ha_takeP 0 rfl (r_move rfl) ?_
  refine ha_takeP 1 rfl (r_idx rfl rfl) ?_
  refine ha_take 2 rfl (r_nthr rfl (out := x.cells) (Item.cells_length x) hx) ?_
  refine ha_takeP 3 rfl (r_move rfl) ?_
  refine ha_takeP 4 rfl (r_as (r_slL rfl rfl) (show _ = Value.slice (cutA (some ⟨b, o, none⟩) c 1 97) r.length (c - 1) by rw [Nat.add_sub_cancel])) ?_
  refine ha_one 5 ?_
  refine ho_X 5 rfl (rk (x_alloc)) (fun _ => same) fun g6 => ?_
  refine ha_one 6 ?_
  refine ho_S 6 rfl (s_storer rfl rfl) (same) ?_
  refine ha_takeP 7 rfl (r_assign rfl) ?_
  refine ha_done (by kernel_rfl) ?_
  refine q_then ?_
  refine h_seq ?_
  refine h_seq ?_
  refine h_reg ?_
  refine h_op (r_field rfl) ?_
  refine h_op (r_loadc rfl) ?_
  refine h_op (r_bool (r_neq rfl rfl) (decide_eq_false (fun h => h hk))) ?_
  refine h_nil ?_
  refine q_then ?_
  refine h_condF rfl ?_
  refine h_skip ?_
  refine q_then ?_
  refine h_seq ?_
  refine h_seq ?_
  refine h_reg ?_
  refine h_op (r_move rfl) ?_
  refine h_op (r_bool (r_geq rfl rfl) (decide_eq_false (by omega))) ?_
  refine h_nil ?_
  refine q_then ?_
  refine h_condF rfl ?_
  refine h_skip ?_
  refine q_then ?_
  refine h_seq ?_
  refine h_reg ?_
  refine h_opX (x_alloc) fun g8 => ?_
  refine h_nil ?_
  refine q_then ?_
  refine h_seq ?_
  refine h_seq ?_
  refine h_reg ?_
  refine h_op (r_move rfl) ?_
  refine h_nil ?_
  refine q_then ?_
  refine h_block ?_
  refine h_loop (fun (s : Nat × Value × List Item × Option Addr × Nat) => (s.1 = 0 ∧ s.2.1 = .nilIface ∧ s.2.2.1 = r ∧ RdZ h s.2.2.2.1 (its r) ∧ r.length ≤ s.2.2.2.2) ∨ (s.1 = 1 ∧ s.2.1 = .iface t1.tag t1.val ∧ s.2.2.1 = r1 ∧ RdZ h s.2.2.2.1 (its r1) ∧ r1.length ≤ s.2.2.2.2)) (fun (s : Nat × Value × List Item × Option Addr × Nat) => [(27, .int .i64 (s.1 : Int)), (8, .pointer (some ⟨g8, 0, none⟩)), (7, .slice s.2.2.2.1 s.2.2.1.length s.2.2.2.2), (1, .int .i64 (256 - ((d + 1 : Nat) : Int)))]) (fun (s : Nat × Value × List Item × Option Addr × Nat) => [.blk g8 [s.2.1, .nilIface] 142, .zone false h]) (fun (s : Nat × Value × List Item × Option Addr × Nat) => 2 - s.1) (0, .nilIface, r, cutA (some ⟨b, o, none⟩) c 1 97, c - 1) ((.inl ⟨rfl, rfl, rfl, hz0, (show r.length ≤ c - 1 by omega)⟩)) ⟨rfl, rfl, rfl, rfl, trivial⟩ (same) ?_
  rintro ⟨i, v1, l, Ar, cr⟩ hp
  dsimp only at hp ⊢
  rcases hp with ⟨rfl, rfl, rfl, hz, hcr⟩ | ⟨rfl, rfl, rfl, hz, hcr⟩
  · refine h_seq ?_
    refine h_reg ?_
    refine h_op (r_lss rfl rfl) ?_
    refine h_nil ?_
    refine q_then ?_
    refine h_seq ?_
    refine h_condT rfl ?_
    refine h_skip ?_
    refine q_then ?_
    refine h_seq ?_
    refine h_block ?_
    refine h_seq ?_
    refine h_reg ?_
    refine h_op (r_move rfl) ?_
    refine h_op (r_assign rfl) ?_
    refine h_nil ?_
    refine q_then ?_
    refine h_seq ?_
    refine h_reg ?_
    refine h_op (r_move rfl) ?_
    refine h_op (r_move rfl) ?_
    refine h_op (r_move rfl) ?_
    refine h_op (r_int (r_add rfl rfl) (show _ = 256 - (d : Int) by omega)) ?_
    refine h_call ((hT1 Ar cr hz hcr).comes) rfl rfl rfl fun ⟨⟨A1, c1⟩, hz1, hc1⟩ => ?_
    dsimp only at hz1 hc1 ⊢
    refine h_op (r_move rfl) ?_
    refine h_op (r_extract rfl rfl) ?_
    refine h_op (r_extract rfl rfl) ?_
    refine h_op (r_idxA rfl rfl) ?_
    refine h_opS (s_store rfl rfl rfl) ?_
    refine h_op (r_assign rfl) ?_
    refine h_nil ?_
    refine q_then ?_
    refine h_seq ?_
    refine h_reg ?_
    refine h_op (r_move rfl) ?_
    refine h_op (r_idxA rfl rfl) ?_
    refine h_op (r_loadc rfl) ?_
    refine h_op (r_ifnil rfl) ?_
    refine h_nil ?_
    refine q_then ?_
    refine h_condF rfl ?_
    refine h_skip ?_
    refine q_block ?_
    refine q_then ?_
    refine h_reg ?_
    refine h_op (r_add rfl rfl) ?_
    refine h_op (r_move rfl) ?_
    refine h_nil ?_
    exact h_back (1, .iface t1.tag t1.val, r1, A1, c1) ((.inr ⟨rfl, rfl, rfl, hz1, hc1⟩)) ((show 2 - 1 < 2 - 0 by omega)) ⟨rfl, rfl, rfl, rfl, trivial⟩ (same)
  · refine h_seq ?_
    refine h_reg ?_
    refine h_op (r_lss rfl rfl) ?_
    refine h_nil ?_
    refine q_then ?_
    refine h_seq ?_
    refine h_condT rfl ?_
    refine h_skip ?_
    refine q_then ?_
    refine h_seq ?_
    refine h_block ?_
    refine h_seq ?_
    refine h_reg ?_
    refine h_op (r_move rfl) ?_
    refine h_op (r_assign rfl) ?_
    refine h_nil ?_
    refine q_then ?_
    refine h_seq ?_
    refine h_reg ?_
    refine h_op (r_move rfl) ?_
    refine h_op (r_move rfl) ?_
    refine h_op (r_move rfl) ?_
    refine h_op (r_int (r_add rfl rfl) (show _ = 256 - (d : Int) by omega)) ?_
    refine h_call ((hT2 Ar cr hz hcr).comes) rfl rfl rfl fun _ => ?_
    refine h_op (r_move rfl) ?_
    refine h_op (r_extract rfl rfl) ?_
    refine h_op (r_extract rfl rfl) ?_
    refine h_op (r_idxA rfl rfl) ?_
    refine h_opS (s_store rfl rfl rfl) ?_
    refine h_op (r_assign rfl) ?_
    refine h_nil ?_
    refine q_then ?_
    refine h_seq ?_
    refine h_reg ?_
    refine h_op (r_move rfl) ?_
    refine h_op (r_idxA rfl rfl) ?_
    refine h_op (r_loadc rfl) ?_
    refine h_op (r_nilnil rfl) ?_
    refine h_nil ?_
    refine q_then ?_
    refine h_condT rfl ?_
    refine h_seq ?_
    refine h_reg ?_
    refine h_op (r_assign rfl) ?_
    refine h_op (r_assign rfl) ?_
    refine h_nil ?_
    refine q_then ?_
    refine h_ret ?_
    refine q_blockR ?_
    refine q_thenR ?_
    refine q_thenR ?_
    refine q_blockR ?_
    refine q_thenR ?_
    exact h_ret2 rfl rfl rfl fun w s => ⟨(), rfl, s.res (List.nil_sublist _) (by simp)⟩
theorem read_yes2 (x : Item) (r r1 r2 : List Item) (t1 t2 : Sub) (hk : x.kind = 2) (d : Nat) (hd : d < 256) (h1 : readM d r = some (t1, r1)) (h2 : readM d r1 = some (t2, r2)) (hS : ReadS h d r) (hS1 : ReadS h d r1) (A : Option Addr) (c : Nat) [hr : RdZ h A (its (x :: r))] (hc : r.length + 1 ≤ c) : Spec Tryz.prog 104 [.slice A (r.length + 1) c, .int .i64 (256 - ((d + 1 : Nat) : Int))].toArray [.zone false h] [] (fun y : {y : Option Addr × Nat // RdZ h y.1 (its r2) ∧ r2.length ≤ y.2} => .tuple #[.iface (Sub.two t1 t2).tag (Sub.two t1 t2).val, .slice y.1.1 r2.length y.1.2]) (fun _ => []) := by
  have hT2 : ∀ A c, RdZ h A (its r1) → r1.length ≤ c → Spec Tryz.prog 104 [.slice A r1.length c, .int .i64 (256 - (d : Int))].toArray [.zone false h] [] (fun y : {y : Option Addr × Nat // RdZ h y.1 (its r2) ∧ r2.length ≤ y.2} => .tuple #[.iface t2.tag t2.val, .slice y.1.1 r2.length y.1.2]) (fun _ => []) := fun A c a b => by
    have := hS1 A c a b
    rw [h2] at this
    exact this
  have h0 : 0 < (its (x :: r)).length := by rw [its_len, List.length_cons]; omega
  have hz0 := its_tail hr hc
  have hT1 : ∀ A c, RdZ h A (its r) → r.length ≤ c → Spec Tryz.prog 104 [.slice A r.length c, .int .i64 (256 - (d : Int))].toArray [.zone false h] [] (fun y : {y : Option Addr × Nat // RdZ h y.1 (its r1) ∧ r1.length ≤ y.2} => .tuple #[.iface t1.tag t1.val, .slice y.1.1 r1.length y.1.2]) (fun _ => []) := fun A c a b => by
    have := hS A c a b
    rw [h1] at this
    exact this
  obtain ⟨b, o, rfl, -⟩ := hr.at_ 0 _ (List.getElem?_eq_getElem h0)
  have hx : ∀ j v, x.cells[j]? = some v → (its (x :: r))[0 + j]? = some v := fun j v hv => by rw [its_cons, Nat.zero_add, List.getElem?_append_left (List.getElem?_eq_some_iff.1 hv).1]; exact hv
  refine spec_of Tryz.func104 rfl (n := 47) rfl rfl ?_
  intro W
  refine h_seq ?_
  refine h_reg ?_
  refine h_op (r_assign rfl) ?_
  refine h_op (r_assign rfl) ?_
  refine h_nil ?_
  refine q_then ?_
  refine h_seq ?_
  refine h_seq ?_
  refine h_reg ?_
  refine h_op (r_move rfl) ?_
  refine h_op (r_len rfl) ?_
  refine h_op (r_bool (r_eql rfl rfl) (decide_eq_false (by omega))) ?_
  refine h_nil ?_
  refine q_then ?_
  refine h_condF rfl ?_
  refine h_skip ?_
  refine q_then ?_
  refine h_seq ?_
  refine ha_start [.zone false h] [] mixed (same) ?_
  refine ha_takeP 0 rfl (r_move rfl) ?_
  refine ha_takeP 1 rfl (r_idx rfl rfl) ?_
  refine ha_take 2 rfl (r_nthr rfl (out := x.cells) (Item.cells_length x) hx) ?_
  refine ha_takeP 3 rfl (r_move rfl) ?_
  refine ha_takeP 4 rfl (r_as (r_slL rfl rfl) (show _ = Value.slice (cutA (some ⟨b, o, none⟩) c 1 97) r.length (c - 1) by rw [Nat.add_sub_cancel])) ?_
  refine ha_one 5 ?_
  refine ho_X 5 rfl (rk (x_alloc)) (fun _ => same) fun g6 => ?_
  refine ha_one 6 ?_
  refine ho_S 6 rfl (s_storer rfl rfl) (same) ?_
  refine ha_takeP 7 rfl (r_assign rfl) ?_
  refine ha_done (by kernel_rfl) ?_
  refine q_then ?_
  refine h_seq ?_
  refine h_seq ?_
  refine h_reg ?_
  refine h_op (r_field rfl) ?_
  refine h_op (r_loadc rfl) ?_
  refine h_op (r_bool (r_neq rfl rfl) (decide_eq_false (fun h => h hk))) ?_
  refine h_nil ?_
  refine q_then ?_
  refine h_condF rfl ?_
  refine h_skip ?_
  refine q_then ?_
  refine h_seq ?_
  refine h_seq ?_
  refine h_reg ?_
  refine h_op (r_move rfl) ?_
  refine h_op (r_bool (r_geq rfl rfl) (decide_eq_false (by omega))) ?_
  refine h_nil ?_
  refine q_then ?_
  refine h_condF rfl ?_
  refine h_skip ?_
  refine q_then ?_
  refine h_seq ?_
  refine h_reg ?_
  refine h_opX (x_alloc) fun g8 => ?_
  refine h_nil ?_
  refine q_then ?_
  refine h_seq ?_
  refine h_seq ?_
  refine h_reg ?_
  refine h_op (r_move rfl) ?_
  refine h_nil ?_
  refine q_then ?_
  refine h_block ?_
  refine h_loop (fun (s : Nat × (Value × Value) × List Item × Option Addr × Nat) => (s.1 = 0 ∧ s.2.1 = (.nilIface, .nilIface) ∧ s.2.2.1 = r ∧ RdZ h s.2.2.2.1 (its r) ∧ r.length ≤ s.2.2.2.2) ∨ (s.1 = 1 ∧ s.2.1 = (.iface t1.tag t1.val, .nilIface) ∧ s.2.2.1 = r1 ∧ RdZ h s.2.2.2.1 (its r1) ∧ r1.length ≤ s.2.2.2.2) ∨ (s.1 = 2 ∧ s.2.1 = (.iface t1.tag t1.val, .iface t2.tag t2.val) ∧ s.2.2.1 = r2 ∧ RdZ h s.2.2.2.1 (its r2) ∧ r2.length ≤ s.2.2.2.2)) (fun (s : Nat × (Value × Value) × List Item × Option Addr × Nat) => [(27, .int .i64 (s.1 : Int)), (8, .pointer (some ⟨g8, 0, none⟩)), (7, .slice s.2.2.2.1 s.2.2.1.length s.2.2.2.2), (1, .int .i64 (256 - ((d + 1 : Nat) : Int)))]) (fun (s : Nat × (Value × Value) × List Item × Option Addr × Nat) => [.blk g8 [s.2.1.1, s.2.1.2] 142, .zone false h]) (fun (s : Nat × (Value × Value) × List Item × Option Addr × Nat) => 2 - s.1) (0, (.nilIface, .nilIface), r, cutA (some ⟨b, o, none⟩) c 1 97, c - 1) ((.inl ⟨rfl, rfl, rfl, hz0, (show r.length ≤ c - 1 by omega)⟩)) ⟨rfl, rfl, rfl, rfl, trivial⟩ (same) ?_
  rintro ⟨i, v1, l, Ar, cr⟩ hp
  dsimp only at hp ⊢
  rcases hp with ⟨rfl, rfl, rfl, hz, hcr⟩ | ⟨rfl, rfl, rfl, hz, hcr⟩ | ⟨rfl, rfl, rfl, hz, hcr⟩
  · refine h_seq ?_
    refine h_reg ?_
    refine h_op (r_lss rfl rfl) ?_
    refine h_nil ?_
    refine q_then ?_
    refine h_seq ?_
    refine h_condT rfl ?_
    refine h_skip ?_
    refine q_then ?_
    refine h_seq ?_
    refine h_block ?_
    refine h_seq ?_
    refine h_reg ?_
    refine h_op (r_move rfl) ?_
    refine h_op (r_assign rfl) ?_
    refine h_nil ?_
    refine q_then ?_
    refine h_seq ?_
    refine h_reg ?_
    refine h_op (r_move rfl) ?_
    refine h_op (r_move rfl) ?_
    refine h_op (r_move rfl) ?_
    refine h_op (r_int (r_add rfl rfl) (show _ = 256 - (d : Int) by omega)) ?_
    refine h_call ((hT1 Ar cr hz hcr).comes) rfl rfl rfl fun ⟨⟨A1, c1⟩, hz1, hc1⟩ => ?_
    dsimp only at hz1 hc1 ⊢
    refine h_op (r_move rfl) ?_
    refine h_op (r_extract rfl rfl) ?_
    refine h_op (r_extract rfl rfl) ?_
    refine h_op (r_idxA rfl rfl) ?_
    refine h_opS (s_store rfl rfl rfl) ?_
    refine h_op (r_assign rfl) ?_
    refine h_nil ?_
    refine q_then ?_
    refine h_seq ?_
    refine h_reg ?_
    refine h_op (r_move rfl) ?_
    refine h_op (r_idxA rfl rfl) ?_
    refine h_op (r_loadc rfl) ?_
    refine h_op (r_ifnil rfl) ?_
    refine h_nil ?_
    refine q_then ?_
    refine h_condF rfl ?_
    refine h_skip ?_
    refine q_block ?_
    refine q_then ?_
    refine h_reg ?_
    refine h_op (r_add rfl rfl) ?_
    refine h_op (r_move rfl) ?_
    refine h_nil ?_
    exact h_back (1, (.iface t1.tag t1.val, .nilIface), r1, A1, c1) ((.inr (.inl ⟨rfl, rfl, rfl, hz1, hc1⟩))) ((show 2 - 1 < 2 - 0 by omega)) ⟨rfl, rfl, rfl, rfl, trivial⟩ (same)
  · refine h_seq ?_
    refine h_reg ?_
    refine h_op (r_lss rfl rfl) ?_
    refine h_nil ?_
    refine q_then ?_
    refine h_seq ?_
    refine h_condT rfl ?_
    refine h_skip ?_
    refine q_then ?_
    refine h_seq ?_
    refine h_block ?_
    refine h_seq ?_
    refine h_reg ?_
    refine h_op (r_move rfl) ?_
    refine h_op (r_assign rfl) ?_
    refine h_nil ?_
    refine q_then ?_
    refine h_seq ?_
    refine h_reg ?_
    refine h_op (r_move rfl) ?_
    refine h_op (r_move rfl) ?_
    refine h_op (r_move rfl) ?_
    refine h_op (r_int (r_add rfl rfl) (show _ = 256 - (d : Int) by omega)) ?_
    refine h_call ((hT2 Ar cr hz hcr).comes) rfl rfl rfl fun ⟨⟨A1, c1⟩, hz1, hc1⟩ => ?_
    dsimp only at hz1 hc1 ⊢
    refine h_op (r_move rfl) ?_
    refine h_op (r_extract rfl rfl) ?_
    refine h_op (r_extract rfl rfl) ?_
    refine h_op (r_idxA rfl rfl) ?_
    refine h_opS (s_store rfl rfl rfl) ?_
    refine h_op (r_assign rfl) ?_
    refine h_nil ?_
    refine q_then ?_
    refine h_seq ?_
    refine h_reg ?_
    refine h_op (r_move rfl) ?_
    refine h_op (r_idxA rfl rfl) ?_
    refine h_op (r_loadc rfl) ?_
    refine h_op (r_ifnil rfl) ?_
    refine h_nil ?_
    refine q_then ?_
    refine h_condF rfl ?_
    refine h_skip ?_
    refine q_block ?_
    refine q_then ?_
    refine h_reg ?_
    refine h_op (r_add rfl rfl) ?_
    refine h_op (r_move rfl) ?_
    refine h_nil ?_
    exact h_back (2, (.iface t1.tag t1.val, .iface t2.tag t2.val), r2, A1, c1) ((.inr (.inr ⟨rfl, rfl, rfl, hz1, hc1⟩))) ((show 2 - 2 < 2 - 1 by omega)) ⟨rfl, rfl, rfl, rfl, trivial⟩ (same)
  · refine h_seq ?_
    refine h_reg ?_
    refine h_op (r_lss rfl rfl) ?_
    refine h_nil ?_
    refine q_then ?_
    refine h_seq ?_
    refine h_condF rfl ?_
    refine h_exit ?_
    refine q_thenE ?_
    refine q_thenE ?_
    refine q_blockE ?_
    refine q_then ?_
    refine h_seq ?_
    refine h_reg ?_
    refine h_op (r_loadr rfl) ?_
    refine h_op (r_mkI rfl) ?_
    refine h_op (r_move rfl) ?_
    refine h_op (r_assign rfl) ?_
    refine h_op (r_assign rfl) ?_
    refine h_nil ?_
    refine q_then ?_
    refine h_ret ?_
    exact h_ret2 rfl rfl rfl fun w s => ⟨⟨(Ar, cr), hz, hcr⟩, rfl, s.res (List.nil_sublist _) (by simp)⟩
theorem read_all : ∀ (d : Nat), d ≤ 256 → ∀ l : List Item, ReadS h d l
  | d, hd, [] => fun A c _ _ => by
    have : readM d [] = none := by cases d <;> rfl
    rw [this]
    exact read_nil h A c _
  | 0, hd, x :: r => fun A c hr hc => by
    unfold readM
    by_cases hk : x.kind = 2
    · rw [if_pos hk]
      exact read_deep h x r hk A c _ (by simp) hc
    · rw [if_neg hk]
      intro w hw hR
      exact (read_one h x r hk A c _ (hr := hr) hc w hw hR).mono fun e w' ⟨_, e1, e2⟩ => ⟨⟨(cutA A c 1 97, c - 1), its_tail hr hc, by have : r.length + 1 ≤ c := hc; dsimp only; omega⟩, e1, e2⟩
  | d + 1, hd, x :: r => fun A c hr hc => by
    have ih := fun l => read_all d (by omega) l
    unfold readM
    by_cases hk : x.kind = 2
    · rw [if_pos hk]
      cases h1 : readM d r with
      | none => exact read_no1 h x r hk d (by omega) h1 (ih r) A c hc
      | some p =>
        obtain ⟨t1, r1⟩ := p
        show match (readM d r1).bind fun q => some (Sub.two t1 q.1, q.2) with | none => _ | some (t, r) => _
        cases h2 : readM d r1 with
        | none => exact read_no2 h x r r1 t1 hk d (by omega) h1 h2 (ih r) (ih r1) A c hc
        | some q =>
          obtain ⟨t2, r2⟩ := q
          exact read_yes2 h x r r1 r2 t1 t2 hk d (by omega) h1 h2 (ih r) (ih r1) A c hc
    · rw [if_neg hk]
      intro w hw hR
      exact (read_one h x r hk A c _ (hr := hr) hc w hw hR).mono fun e w' ⟨_, e1, e2⟩ => ⟨⟨(cutA A c 1 97, c - 1), its_tail hr hc, by have : r.length + 1 ≤ c := hc; dsimp only; omega⟩, e1, e2⟩
end
end Go.Proofs.YtgfkbeipckbkiaaGreatDoor
/- TI -/
namespace Go.Proofs.YtgfkbeipckbkiaaGreatDoor
set_option linter.unusedSimpArgs false
set_option linter.unusedVariables false
open Go.RowKit Go.ChangeShapes Go.WideShapes
section
variable {H : Type} {enc : TypeId × Value → H} {w : World} {base : Nat} {spare : Nat → Bool} {held : Bool} {v : Value} {d : DataW H} {ps : List MemPlace} {r : Reach} {b0 : Nat}
theorem c_Item : Tryz.prog.cellsOf 53 = 97 := by kernel_rfl
theorem itemFieldsO : ∃ f1 f2 f3 : Field, Tryz.prog.underlying 53 = some (.struct #[f1, f2, f3]) ∧ f1.type = 3 ∧ f2.type = 41 ∧ f3.type = 51 ∧ f1.offset = 0 ∧ f2.offset = 1 ∧ f3.offset = 33 :=
  ⟨_, _, _, Tryz.underlying53, rfl, rfl, rfl, rfl, rfl, rfl⟩
instance : Inhabited Item := ⟨zItem⟩
set_option maxRecDepth 100000 in
theorem dec_It {fuel : Nat} {cs : List Value} {x : DataW H × List MemPlace} (h : DataW.trod enc Tryz.prog w base spare held fuel 53 cs = some x) : ∃ y : Item, cs = y.cells ∧ True := by
  obtain ⟨f1, f2, f3, hT, t1, t2, t3, o1, o2, o3⟩ := itemFieldsO
  obtain ⟨g1, g2, hL, -, -, s1, s2, p1, p2⟩ := leafFields'
  obtain ⟨xs, n, -, -, hl, hxl, hx⟩ := DataW.trod_struct hT h
  rw [c_Item] at hl
  have hxl' : xs.length = 3 := hxl
  have k1 := hx 0 f1 rfl
  have k2 := hx 1 f2 rfl
  have k3 := hx 2 f3 rfl
  rw [List.getElem?_eq_getElem (by omega)] at k1 k2 k3
  rw [o1, t1, c_int, List.drop_zero] at k1
  rw [o2, t2, c_Digest] at k2
  rw [o3, t3, c_Leaf] at k3
  obtain ⟨m1, e1, -, -⟩ := DataW.trod_int Tryz.underlying3 k1
  obtain ⟨y2, e2⟩ := dec_B32 Tryz.underlying41 c_Digest Tryz.underlying5 c_u8 k2
  obtain ⟨y3, e3⟩ := dec_Leaf hL c_Leaf p1 p2 (by rw [s1]; exact Tryz.underlying39) (by rw [s2]; exact Tryz.underlying41) (by rw [s1]; exact c_Key) (by rw [s2]; exact c_Digest) Tryz.underlying5 c_u8 k3
  refine ⟨⟨m1, y2, y3⟩, ?_, trivial⟩
  have r1 : cs = cs.take 1 ++ ((cs.drop 1).take 32 ++ (cs.drop 33).take 64) := by
    rw [List.take_of_length_le (l := cs.drop 33) (by simp; omega)]
    rw [show cs.drop 33 = (cs.drop 1).drop 32 by rw [List.drop_drop], List.take_append_drop, List.take_append_drop]
  rw [r1, e1, e2, e3]
  rfl
set_option maxRecDepth 100000 in
theorem openItems (hval : Value.okWide Tryz.prog w r b0 30 v) (hd : DataW.Trod enc Tryz.prog w base spare held 30 v d ps) :
    ∃ (l : List Item) (A : Option Addr) (cap : Nat), v = .slice A l.length cap ∧ l.length ≤ cap ∧ RdZ (World.zh w) A (its l) := by
  obtain ⟨l, A, c, h1, h4, -, -, h2, -⟩ := open_rows (f := fun y : Item => y.cells) Item.cells_length (by omega) Tryz.underlying30 c_Item (fun _ => True) (fun fuel cs x h => dec_It h) hval hd
  exact ⟨l, A, c, h1, h4, RdZ.of h2⟩
set_option maxRecDepth 100000 in
theorem openKeys (hval : Value.okWide Tryz.prog w r b0 23 v) (hd : DataW.Trod enc Tryz.prog w base spare held 23 v d ps) :
    ∃ (l : List B32) (A : Option Addr) (cap : Nat), v = .slice A l.length cap ∧ l.length ≤ cap ∧ RdZ (World.zh w) A (dgs l) ∧ cap ≤ 9223372036854775807 := by
  have : Inhabited B32 := ⟨zB32⟩
  obtain ⟨l, A, c, h1, h4, h5, -, h2, -⟩ := open_rows (f := fun y : B32 => y.cells) B32.cells_length (by omega) Tryz.underlying23 c_Key (fun _ => True) (fun fuel cs x h => (dec_B32 Tryz.underlying39 c_Key Tryz.underlying5 c_u8 h).imp fun _ h => ⟨h, trivial⟩) hval hd
  exact ⟨l, A, c, h1, h4, RdZ.of h2, by have : maxLen ≤ 9223372036854775807 := by decide
                                        omega⟩
end
end Go.Proofs.YtgfkbeipckbkiaaGreatDoor
/- U16 -/
namespace Go.Proofs.YtgfkbeipckbkiaaGreatDoor
set_option linter.unusedSimpArgs false
set_option linter.unusedVariables false
open Go.RowKit
instance : Wd 64 4294967295 4294967295 := ⟨rfl⟩
def rep (k n : Nat) (x : B32) : List B32 := List.replicate k x ++ List.replicate (n - k) zB32
end Go.Proofs.YtgfkbeipckbkiaaGreatDoor
/- U33 -/
namespace Go.Proofs.YtgfkbeipckbkiaaGreatDoor
set_option linter.unusedSimpArgs false
set_option linter.unusedVariables false
open Go.RowKit
section
variable (n : Nat) (h : Zh) (t : Tr) (p : Option Addr) [ht : TrZ n h t p]
include ht
theorem Kind_s : Spec Tryz.prog 24 [.pointer p].toArray [.zone false h] [] (fun _ : Unit => .int .i64 ((t.kind : Nat) : Int)) (fun _ => []) := by
  have ho := ht.ok
  clear ht
  refine spec_of Tryz.func24 rfl (n := 15) rfl rfl ?_
  intro W
  rcases t with _ | ⟨kk, b⟩ | ⟨l, r⟩
  · obtain rfl : p = none := ho
    refine h_seq ?_
    refine h_reg ?_
    refine h_op (r_assign rfl) ?_
    refine h_nil ?_
    refine q_then ?_
    refine h_seq ?_
    refine h_seq ?_
    refine h_reg ?_
    refine h_op (r_move rfl) ?_
    refine h_op (r_nilR rfl rfl) ?_
    refine h_nil ?_
    refine q_then ?_
    refine h_condT rfl ?_
    refine h_seq ?_
    refine h_reg ?_
    refine h_op (r_assign rfl) ?_
    refine h_nil ?_
    refine q_then ?_
    refine h_ret ?_
    refine q_thenR ?_
    exact h_ret1 rfl rfl fun w s => ⟨(), rfl, s.res (List.nil_sublist _) (by simp)⟩
  · obtain ⟨g, s, rfl, hr, hs⟩ := ho
    refine h_seq ?_
    refine h_reg ?_
    refine h_op (r_assign rfl) ?_
    refine h_nil ?_
    refine q_then ?_
    refine h_seq ?_
    refine h_seq ?_
    refine h_reg ?_
    refine h_op (r_move rfl) ?_
    refine h_op (r_nilR rfl rfl) ?_
    refine h_nil ?_
    refine q_then ?_
    refine h_condF rfl ?_
    refine h_skip ?_
    refine q_then ?_
    refine h_seq ?_
    refine h_seq ?_
    refine h_reg ?_
    refine h_op (r_move rfl) ?_
    refine h_op (r_nilc rfl) ?_
    refine h_op (r_field rfl) ?_
    refine h_op (r_loadc rfl) ?_
    refine h_nil ?_
    refine q_then ?_
    refine h_block ?_
    refine h_seq ?_
    refine h_reg ?_
    refine h_op (r_as2 rfl) ?_
    refine h_op (r_extract rfl rfl) ?_
    refine h_op (r_extract rfl rfl) ?_
    refine h_nil ?_
    refine q_then ?_
    refine h_condT rfl ?_
    refine h_seq ?_
    refine h_reg ?_
    refine h_op (r_assign rfl) ?_
    refine h_nil ?_
    refine q_then ?_
    refine h_ret ?_
    refine q_blockR ?_
    refine q_thenR ?_
    exact h_ret1 rfl rfl fun w s => ⟨(), rfl, s.res (List.nil_sublist _) (by simp)⟩
  · obtain ⟨g, pl, pr, rfl, hr, hl, hr2⟩ := ho
    refine h_seq ?_
    refine h_reg ?_
    refine h_op (r_assign rfl) ?_
    refine h_nil ?_
    refine q_then ?_
    refine h_seq ?_
    refine h_seq ?_
    refine h_reg ?_
    refine h_op (r_move rfl) ?_
    refine h_op (r_nilR rfl rfl) ?_
    refine h_nil ?_
    refine q_then ?_
    refine h_condF rfl ?_
    refine h_skip ?_
    refine q_then ?_
    refine h_seq ?_
    refine h_seq ?_
    refine h_reg ?_
    refine h_op (r_move rfl) ?_
    refine h_op (r_nilc rfl) ?_
    refine h_op (r_field rfl) ?_
    refine h_op (r_loadc rfl) ?_
    refine h_nil ?_
    refine q_then ?_
    refine h_block ?_
    refine h_seq ?_
    refine h_reg ?_
    refine h_op (r_as2n rfl) ?_
    refine h_op (r_extract rfl rfl) ?_
    refine h_op (r_extract rfl rfl) ?_
    refine h_nil ?_
    refine q_then ?_
    refine h_condF rfl ?_
    refine h_seq ?_
    refine h_reg ?_
    refine h_op (r_as2 rfl) ?_
    refine h_op (r_extract rfl rfl) ?_
    refine h_op (r_extract rfl rfl) ?_
    refine h_nil ?_
    refine q_then ?_
    refine h_condT rfl ?_
    refine h_seq ?_
    refine h_reg ?_
    refine h_op (r_assign rfl) ?_
    refine h_nil ?_
    refine q_then ?_
    refine h_ret ?_
    refine q_blockR ?_
    refine q_thenR ?_
    exact h_ret1 rfl rfl fun w s => ⟨(), rfl, s.res (List.nil_sublist _) (by simp)⟩
end
theorem leaf_s (n : Nat) (h : Zh) (kk : B32) (b : List UInt8) (p : Option Addr) [ht : TrZ n h (.leaf kk b) p] : Spec Tryz.prog 69 [.pointer p].toArray [.zone false h] [] (fun s : {s : Sl // SlZ h s b} => .agg (NLeaf.cells ⟨leafOf n kk b, s.1⟩).toArray) (fun _ => []) := by
  obtain ⟨g, s, rfl, hr, hs⟩ := ht.ok
  refine spec_of Tryz.func69 rfl (n := 12) rfl rfl ?_
  intro W
  refine h_seq ?_
  refine h_reg ?_
  refine h_opX (x_alloc) fun g2 => ?_
  refine h_nil ?_
  refine q_then ?_
  refine h_seq ?_
  refine h_seq ?_
  refine h_reg ?_
  refine h_op (r_move rfl) ?_
  refine h_call ((Kind_s n h (.leaf kk b) (some ⟨g, 0, none⟩)).comes) rfl rfl rfl fun _ => ?_
  refine h_op (r_bool (r_neq rfl rfl) (show _ = false by simp [Tr.kind])) ?_
  refine h_nil ?_
  refine q_then ?_
  refine h_condF rfl ?_
  refine h_skip ?_
  refine q_then ?_
  refine h_seq ?_
  refine h_reg ?_
  refine h_op (r_move rfl) ?_
  refine h_op (r_nilc rfl) ?_
  refine h_op (r_field rfl) ?_
  refine h_op (r_loadc rfl) ?_
  refine h_op (r_as1 rfl) ?_
  refine h_opS (s_storer rfl rfl) ?_
  refine h_nil ?_
  refine q_then ?_
  refine h_ret ?_
  exact h_ret1 rfl (rv_row rfl) fun w s' => ⟨⟨s, hs⟩, rfl, s'.res (List.nil_sublist _) (by simp)⟩
theorem leaf_no (n : Nat) (h : Zh) (t : Tr) (p : Option Addr) [ht : TrZ n h t p] (hk : t.kind ≠ 1) : Spec Tryz.prog 69 [.pointer p].toArray [.zone false h] [] (fun _ : Unit => .agg zNLeaf.cells.toArray) (fun _ => []) := by
  refine spec_of Tryz.func69 rfl (n := 12) rfl rfl ?_
  intro W
  refine h_seq ?_
  refine h_reg ?_
  refine h_opX (x_alloc) fun g2 => ?_
  refine h_nil ?_
  refine q_then ?_
  refine h_seq ?_
  refine h_seq ?_
  refine h_reg ?_
  refine h_op (r_move rfl) ?_
  refine h_call ((Kind_s n h t p).comes) rfl rfl rfl fun _ => ?_
  refine h_op (r_bool (r_neq rfl rfl) (show _ = true by simp; omega)) ?_
  refine h_nil ?_
  refine q_then ?_
  refine h_condT rfl ?_
  refine h_seq ?_
  refine h_reg ?_
  refine h_op (r_build rfl) ?_
  refine h_opS (s_storer rfl rfl) ?_
  refine h_nil ?_
  refine q_then ?_
  refine h_ret ?_
  refine q_thenR ?_
  exact h_ret1 rfl (rv_row rfl) fun w s' => ⟨(), rfl, s'.res (List.nil_sublist _) (by simp)⟩
theorem Leaf_s (n : Nat) (h : Zh) (t : Tr) (p : Option Addr) [ht : TrZ n h t p] : Spec Tryz.prog 25 [.pointer p].toArray [.zone false h] [] (fun _ : Unit => .agg (leafT n t).cells.toArray) (fun _ => []) := by
  refine spec_of Tryz.func25 rfl (n := 6) rfl rfl ?_
  intro W
  rcases t with _ | ⟨kk, b⟩ | ⟨l, r⟩
  · refine h_seq ?_
    refine h_reg ?_
    refine h_opX (x_alloc) fun g2 => ?_
    refine h_nil ?_
    refine q_then ?_
    refine h_seq ?_
    refine h_reg ?_
    refine h_op (r_move rfl) ?_
    refine h_call ((leaf_no n h .nil p (by simp [Tr.kind])).comes) rfl rfl rfl fun _ => ?_
    refine h_op (r_fldr rfl) ?_
    refine h_opS (s_storer rfl rfl) ?_
    refine h_nil ?_
    refine q_then ?_
    refine h_ret ?_
    exact h_ret1 rfl (rv_row rfl) fun w s' => ⟨(), rfl, s'.res (List.nil_sublist _) (by simp)⟩
  · refine h_seq ?_
    refine h_reg ?_
    refine h_opX (x_alloc) fun g2 => ?_
    refine h_nil ?_
    refine q_then ?_
    refine h_seq ?_
    refine h_reg ?_
    refine h_op (r_move rfl) ?_
    refine h_call ((leaf_s n h kk b p).comes) rfl rfl rfl fun ⟨s, hs⟩ => ?_
    refine h_op (r_fldr rfl) ?_
    refine h_opS (s_storer rfl rfl) ?_
    refine h_nil ?_
    refine q_then ?_
    refine h_ret ?_
    exact h_ret1 rfl (rv_row rfl) fun w s' => ⟨(), rfl, s'.res (List.nil_sublist _) (by simp)⟩
  · refine h_seq ?_
    refine h_reg ?_
    refine h_opX (x_alloc) fun g2 => ?_
    refine h_nil ?_
    refine q_then ?_
    refine h_seq ?_
    refine h_reg ?_
    refine h_op (r_move rfl) ?_
    refine h_call ((leaf_no n h (.node l r) p (by simp [Tr.kind])).comes) rfl rfl rfl fun _ => ?_
    refine h_op (r_fldr rfl) ?_
    refine h_opS (s_storer rfl rfl) ?_
    refine h_nil ?_
    refine q_then ?_
    refine h_ret ?_
    exact h_ret1 rfl (rv_row rfl) fun w s' => ⟨(), rfl, s'.res (List.nil_sublist _) (by simp)⟩
theorem inner_s (n : Nat) (h : Zh) (l r : Tr) (p : Option Addr) [ht : TrZ n h (.node l r) p] : Spec Tryz.prog 168 [.pointer p].toArray [.zone false h] [] (fun _ : Unit => .agg (NInner.cells ⟨subP h false p, subP h true p, dgT n l, dgT n r, ((l.cnt + r.cnt : Nat) : Int)⟩).toArray) (fun _ => []) := by
  obtain ⟨g, pl, pr, rfl, hr, hl, hr2⟩ := ht.ok
  rw [subP_node hr, subP_node hr]
  refine spec_of Tryz.func168 rfl (n := 12) rfl rfl ?_
  intro W
  refine h_seq ?_
  refine h_reg ?_
  refine h_opX (x_alloc) fun g2 => ?_
  refine h_nil ?_
  refine q_then ?_
  refine h_seq ?_
  refine h_seq ?_
  refine h_reg ?_
  refine h_op (r_move rfl) ?_
  refine h_call ((Kind_s n h (.node l r) (some ⟨g, 0, none⟩)).comes) rfl rfl rfl fun _ => ?_
  refine h_op (r_bool (r_neq rfl rfl) (show _ = false by simp [Tr.kind])) ?_
  refine h_nil ?_
  refine q_then ?_
  refine h_condF rfl ?_
  refine h_skip ?_
  refine q_then ?_
  refine h_seq ?_
  refine h_reg ?_
  refine h_op (r_move rfl) ?_
  refine h_op (r_nilc rfl) ?_
  refine h_op (r_field rfl) ?_
  refine h_op (r_loadc rfl) ?_
  refine h_op (r_as1 rfl) ?_
  refine h_opS (s_storer rfl rfl) ?_
  refine h_nil ?_
  refine q_then ?_
  refine h_ret ?_
  exact h_ret1 rfl (rv_row rfl) fun w s' => ⟨(), rfl, s'.res (List.nil_sublist _) (by simp)⟩
theorem inner_no (n : Nat) (h : Zh) (t : Tr) (p : Option Addr) [ht : TrZ n h t p] (hk : t.kind ≠ 2) : Spec Tryz.prog 168 [.pointer p].toArray [.zone false h] [] (fun _ : Unit => .agg zNInner.cells.toArray) (fun _ => []) := by
  refine spec_of Tryz.func168 rfl (n := 12) rfl rfl ?_
  intro W
  refine h_seq ?_
  refine h_reg ?_
  refine h_opX (x_alloc) fun g2 => ?_
  refine h_nil ?_
  refine q_then ?_
  refine h_seq ?_
  refine h_seq ?_
  refine h_reg ?_
  refine h_op (r_move rfl) ?_
  refine h_call ((Kind_s n h t p).comes) rfl rfl rfl fun _ => ?_
  refine h_op (r_bool (r_neq rfl rfl) (show _ = true by simp; omega)) ?_
  refine h_nil ?_
  refine q_then ?_
  refine h_condT rfl ?_
  refine h_seq ?_
  refine h_reg ?_
  refine h_op (r_build rfl) ?_
  refine h_opS (s_storer rfl rfl) ?_
  refine h_nil ?_
  refine q_then ?_
  refine h_ret ?_
  refine q_thenR ?_
  exact h_ret1 rfl (rv_row rfl) fun w s' => ⟨(), rfl, s'.res (List.nil_sublist _) (by simp)⟩
theorem Left_s (n : Nat) (h : Zh) (t : Tr) (p : Option Addr) [ht : TrZ n h t p] : Spec Tryz.prog 142 [.pointer p].toArray [.zone false h] [] (fun _ : Unit => .pointer (subP h false p)) (fun _ => []) := by
  refine spec_of Tryz.func142 rfl (n := 7) rfl rfl ?_
  intro W
  by_cases hk : t.kind = 2
  · rcases t with _ | ⟨kk, b⟩ | ⟨l, r⟩
    · cases hk
    · cases hk
    refine h_seq ?_
    refine h_reg ?_
    refine h_op (r_assign rfl) ?_
    refine h_nil ?_
    refine q_then ?_
    refine h_seq ?_
    refine h_reg ?_
    refine h_op (r_move rfl) ?_
    refine h_call ((inner_s n h l r p).comes) rfl rfl rfl fun _ => ?_
    refine h_op (r_fldr rfl) ?_
    refine h_op (r_ixc rfl rfl (v := .pointer (subP h false p)) rfl) ?_
    refine h_op (r_assign rfl) ?_
    refine h_nil ?_
    refine q_then ?_
    refine h_ret ?_
    exact h_ret1 rfl rfl fun w s' => ⟨(), rfl, s'.res (List.nil_sublist _) (by simp)⟩
  · have e : subP h false p = none := by
      have := ht.ok.sub false
      rcases t with _ | ⟨kk, b⟩ | ⟨l, r⟩
      · exact this
      · exact this
      · exact (hk rfl).elim
    rw [e]
    refine h_seq ?_
    refine h_reg ?_
    refine h_op (r_assign rfl) ?_
    refine h_nil ?_
    refine q_then ?_
    refine h_seq ?_
    refine h_reg ?_
    refine h_op (r_move rfl) ?_
    refine h_call ((inner_no n h t p hk).comes) rfl rfl rfl fun _ => ?_
    refine h_op (r_fldr rfl) ?_
    refine h_op (r_ixc rfl rfl (v := .pointer none) rfl) ?_
    refine h_op (r_assign rfl) ?_
    refine h_nil ?_
    refine q_then ?_
    refine h_ret ?_
    exact h_ret1 rfl rfl fun w s' => ⟨(), rfl, s'.res (List.nil_sublist _) (by simp)⟩
theorem Right_s (n : Nat) (h : Zh) (t : Tr) (p : Option Addr) [ht : TrZ n h t p] : Spec Tryz.prog 143 [.pointer p].toArray [.zone false h] [] (fun _ : Unit => .pointer (subP h true p)) (fun _ => []) := by
  refine spec_of Tryz.func143 rfl (n := 7) rfl rfl ?_
  intro W
  by_cases hk : t.kind = 2
  · rcases t with _ | ⟨kk, b⟩ | ⟨l, r⟩
    · cases hk
    · cases hk
    refine h_seq ?_
    refine h_reg ?_
    refine h_op (r_assign rfl) ?_
    refine h_nil ?_
    refine q_then ?_
    refine h_seq ?_
    refine h_reg ?_
    refine h_op (r_move rfl) ?_
    refine h_call ((inner_s n h l r p).comes) rfl rfl rfl fun _ => ?_
    refine h_op (r_fldr rfl) ?_
    refine h_op (r_ixc rfl rfl (v := .pointer (subP h true p)) rfl) ?_
    refine h_op (r_assign rfl) ?_
    refine h_nil ?_
    refine q_then ?_
    refine h_ret ?_
    exact h_ret1 rfl rfl fun w s' => ⟨(), rfl, s'.res (List.nil_sublist _) (by simp)⟩
  · have e : subP h true p = none := by
      have := ht.ok.sub true
      rcases t with _ | ⟨kk, b⟩ | ⟨l, r⟩
      · exact this
      · exact this
      · exact (hk rfl).elim
    rw [e]
    refine h_seq ?_
    refine h_reg ?_
    refine h_op (r_assign rfl) ?_
    refine h_nil ?_
    refine q_then ?_
    refine h_seq ?_
    refine h_reg ?_
    refine h_op (r_move rfl) ?_
    refine h_call ((inner_no n h t p hk).comes) rfl rfl rfl fun _ => ?_
    refine h_op (r_fldr rfl) ?_
    refine h_op (r_ixc rfl rfl (v := .pointer none) rfl) ?_
    refine h_op (r_assign rfl) ?_
    refine h_nil ?_
    refine q_then ?_
    refine h_ret ?_
    exact h_ret1 rfl rfl fun w s' => ⟨(), rfl, s'.res (List.nil_sublist _) (by simp)⟩
theorem NLen_s (n : Nat) (h : Zh) (t : Tr) (p : Option Addr) [ht : TrZ n h t p] : Spec Tryz.prog 138 [.pointer p].toArray [.zone false h] [] (fun _ : Unit => .int .i64 ((t.cnt : Nat) : Int)) (fun _ => []) := by
  refine spec_of Tryz.func138 rfl (n := 9) rfl rfl ?_
  intro W
  rcases t with _ | ⟨kk, b⟩ | ⟨l, r⟩
  · refine h_seq ?_
    refine h_reg ?_
    refine h_op (r_assign rfl) ?_
    refine h_nil ?_
    refine q_then ?_
    refine h_seq ?_
    refine h_seq ?_
    refine h_reg ?_
    refine h_op (r_move rfl) ?_
    refine h_call ((Kind_s n h .nil p).comes) rfl rfl rfl fun _ => ?_
    refine h_op (r_bool (r_eql rfl rfl) (show _ = false by simp [Tr.kind])) ?_
    refine h_nil ?_
    refine q_then ?_
    refine h_condF rfl ?_
    refine h_skip ?_
    refine q_then ?_
    refine h_seq ?_
    refine h_reg ?_
    refine h_op (r_move rfl) ?_
    refine h_call ((inner_no n h .nil p (by simp [Tr.kind])).comes) rfl rfl rfl fun _ => ?_
    refine h_op (r_fldc rfl) ?_
    refine h_op (r_assign rfl) ?_
    refine h_nil ?_
    refine q_then ?_
    refine h_ret ?_
    exact h_ret1 rfl rfl fun w s' => ⟨(), rfl, s'.res (List.nil_sublist _) (by simp)⟩
  · refine h_seq ?_
    refine h_reg ?_
    refine h_op (r_assign rfl) ?_
    refine h_nil ?_
    refine q_then ?_
    refine h_seq ?_
    refine h_seq ?_
    refine h_reg ?_
    refine h_op (r_move rfl) ?_
    refine h_call ((Kind_s n h (.leaf kk b) p).comes) rfl rfl rfl fun _ => ?_
    refine h_op (r_bool (r_eql rfl rfl) (show _ = true by simp [Tr.kind])) ?_
    refine h_nil ?_
    refine q_then ?_
    refine h_condT rfl ?_
    refine h_seq ?_
    refine h_reg ?_
    refine h_op (r_assign rfl) ?_
    refine h_nil ?_
    refine q_then ?_
    refine h_ret ?_
    refine q_thenR ?_
    exact h_ret1 rfl rfl fun w s' => ⟨(), rfl, s'.res (List.nil_sublist _) (by simp)⟩
  · refine h_seq ?_
    refine h_reg ?_
    refine h_op (r_assign rfl) ?_
    refine h_nil ?_
    refine q_then ?_
    refine h_seq ?_
    refine h_seq ?_
    refine h_reg ?_
    refine h_op (r_move rfl) ?_
    refine h_call ((Kind_s n h (.node l r) p).comes) rfl rfl rfl fun _ => ?_
    refine h_op (r_bool (r_eql rfl rfl) (show _ = false by simp [Tr.kind])) ?_
    refine h_nil ?_
    refine q_then ?_
    refine h_condF rfl ?_
    refine h_skip ?_
    refine q_then ?_
    refine h_seq ?_
    refine h_reg ?_
    refine h_op (r_move rfl) ?_
    refine h_call ((inner_s n h l r p).comes) rfl rfl rfl fun _ => ?_
    refine h_op (r_fldc rfl) ?_
    refine h_op (r_assign rfl) ?_
    refine h_nil ?_
    refine q_then ?_
    refine h_ret ?_
    exact h_ret1 rfl rfl fun w s' => ⟨(), rfl, s'.res (List.nil_sublist _) (by simp)⟩
theorem Digest_s (n : Nat) (hn : n ≤ 256) (gh gc k : Nat) (hk : k ≤ 1000000000000) (h : Zh) (t : Tr) (p : Option Addr) [ht : TrZ n h t p] : Spec Tryz.prog 92 [.pointer (some ⟨gh, 0, none⟩), .pointer p].toArray [HR gh gc n, .zone false h, TBL] [CN gc k] (fun _ : Unit => .agg (dgT n t).cells.toArray) (fun _ => [CN gc (k + if t.kind = 0 then 1 else 0)]) := by
  have ho := ht.ok
  rcases t with _ | ⟨kk, b⟩ | ⟨l, r⟩
  · obtain rfl : p = none := ho
    refine spec_of Tryz.func92 rfl (n := 14) rfl rfl ?_
    intro W
    refine h_seq ?_
    refine h_reg ?_
    refine h_opX (x_alloc) fun g4 => ?_
    refine h_nil ?_
    refine q_then ?_
    refine h_seq ?_
    refine h_seq ?_
    refine h_reg ?_
    refine h_op (r_move rfl) ?_
    refine h_op (r_nilR rfl rfl) ?_
    refine h_nil ?_
    refine q_then ?_
    refine h_condT rfl ?_
    refine h_seq ?_
    refine h_reg ?_
    refine h_op (r_move rfl) ?_
    refine h_call (pEmpty_s.comes) rfl rfl rfl fun ⟨g8, c8⟩ => ?_
    dsimp only
    refine h_call ((HSum_s n hn gh gc k hk preE (some ⟨g8, 0, none⟩) c8 (fun h => by cases h) (by decide)).comes) rfl rfl rfl fun _ => ?_
    refine h_opS (s_storer rfl rfl) ?_
    refine h_nil ?_
    refine q_then ?_
    refine h_ret ?_
    refine q_thenR ?_
    exact h_ret1 rfl (rv_row rfl) fun w s => ⟨(), rfl, (same (L' := [CN gc (k + 1)]) w s).res (List.Sublist.refl _) (by simp [Fa.wr])⟩
  · obtain ⟨g, s, rfl, hr, hs⟩ := ho
    refine spec_of Tryz.func92 rfl (n := 14) rfl rfl ?_
    intro W
    refine h_seq ?_
    refine h_reg ?_
    refine h_opX (x_alloc) fun g4 => ?_
    refine h_nil ?_
    refine q_then ?_
    refine h_seq ?_
    refine h_seq ?_
    refine h_reg ?_
    refine h_op (r_move rfl) ?_
    refine h_op (r_nilR rfl rfl) ?_
    refine h_nil ?_
    refine q_then ?_
    refine h_condF rfl ?_
    refine h_skip ?_
    refine q_then ?_
    refine h_seq ?_
    refine h_reg ?_
    refine h_op (r_move rfl) ?_
    refine h_op (r_nilc rfl) ?_
    refine h_op (r_field rfl) ?_
    refine h_op (r_loadr rfl) ?_
    refine h_opS (s_storer rfl rfl) ?_
    refine h_nil ?_
    refine q_then ?_
    refine h_ret ?_
    exact h_ret1 rfl (rv_row rfl) fun w s => ⟨(), rfl, (same (L' := [CN gc k]) w s).res (List.Sublist.refl _) (by simp [Fa.wr])⟩
  · obtain ⟨g, pl, pr, rfl, hr, hl, hr2⟩ := ho
    refine spec_of Tryz.func92 rfl (n := 14) rfl rfl ?_
    intro W
    refine h_seq ?_
    refine h_reg ?_
    refine h_opX (x_alloc) fun g4 => ?_
    refine h_nil ?_
    refine q_then ?_
    refine h_seq ?_
    refine h_seq ?_
    refine h_reg ?_
    refine h_op (r_move rfl) ?_
    refine h_op (r_nilR rfl rfl) ?_
    refine h_nil ?_
    refine q_then ?_
    refine h_condF rfl ?_
    refine h_skip ?_
    refine q_then ?_
    refine h_seq ?_
    refine h_reg ?_
    refine h_op (r_move rfl) ?_
    refine h_op (r_nilc rfl) ?_
    refine h_op (r_field rfl) ?_
    refine h_op (r_loadr rfl) ?_
    refine h_opS (s_storer rfl rfl) ?_
    refine h_nil ?_
    refine q_then ?_
    refine h_ret ?_
    exact h_ret1 rfl (rv_row rfl) fun w s => ⟨(), rfl, (same (L' := [CN gc k]) w s).res (List.Sublist.refl _) (by simp [Fa.wr])⟩
end Go.Proofs.YtgfkbeipckbkiaaGreatDoor
/- U34 -/
namespace Go.Proofs.YtgfkbeipckbkiaaGreatDoor
set_option linter.unusedSimpArgs false
set_option linter.unusedVariables false
open Go.RowKit
theorem Clone_s (l : List UInt8) (B : Option Addr) (c : Nat) (hB : B = none → l.length = 0 ∧ c = 0) (hl : l.length ≤ 1000000000) : Spec Tryz.prog 137 [.slice B l.length c].toArray [.rd B (bc l)] [] (fun u : Option Addr × Nat => .slice u.1 l.length u.2) (fun u => [.own (.slice u.1 l.length u.2) l.length 5 1 (bc l)]) := by
  refine spec_of Tryz.func137 rfl (n := 8) rfl rfl ?_
  intro W
  rcases B with _ | B
  · obtain ⟨h1, h2⟩ := hB rfl
    obtain rfl : l = [] := List.eq_nil_of_length_eq_zero h1
    refine h_seq ?_
    refine h_reg ?_
    refine h_op (r_assign rfl) ?_
    refine h_nil ?_
    refine q_then ?_
    refine h_seq ?_
    refine h_seq ?_
    refine h_reg ?_
    refine h_op (r_move rfl) ?_
    refine h_op (r_slnil rfl rfl) ?_
    refine h_nil ?_
    refine q_then ?_
    refine h_condT rfl ?_
    refine h_seq ?_
    refine h_reg ?_
    refine h_op (r_assign rfl) ?_
    refine h_nil ?_
    refine q_then ?_
    refine h_ret ?_
    refine q_thenR ?_
    refine h_nil_own 5 1 (xs := bc []) rfl ?_
    exact h_ret1 rfl rfl fun w s => ⟨(none, 0), rfl, (same w s).res (List.Sublist.refl _) (by simp [Fa.wr])⟩
  · refine h_seq ?_
    refine h_reg ?_
    refine h_op (r_assign rfl) ?_
    refine h_nil ?_
    refine q_then ?_
    refine h_seq ?_
    refine h_seq ?_
    refine h_reg ?_
    refine h_op (r_move rfl) ?_
    refine h_op (r_slnil rfl rfl) ?_
    refine h_nil ?_
    refine q_then ?_
    refine h_condF rfl ?_
    refine h_skip ?_
    refine q_then ?_
    refine h_seq ?_
    refine h_reg ?_
    refine h_opX (x_bsl0 (xs := bc [])) fun g5 => ?_
    refine h_op (r_move rfl) ?_
    refine h_opX (x_appAB rfl rfl hB rfl (hN := Nat.zero_add _)) fun ⟨A7, c7⟩ => ?_
    refine h_op (r_assign rfl) ?_
    refine h_nil ?_
    refine q_then ?_
    refine h_ret ?_
    rw [List.nil_append]
    exact h_ret1 rfl rfl fun w s => ⟨(A7, c7), rfl, (same w s).res (List.Sublist.refl _) (by simp [Fa.wr])⟩
theorem pValue_s (l : List UInt8) (B : Option Addr) (c : Nat) (hB : B = none → l.length = 0 ∧ c = 0) (hl : l.length ≤ 100000000) : Spec Tryz.prog 128 [.slice B l.length c].toArray [.rd B (bc l)] [] (fun u : Nat × Nat => .slice (some ⟨u.1, 0, none⟩) (preV l).length u.2) (fun u => [.own (.slice (some ⟨u.1, 0, none⟩) (preV l).length u.2) (preV l).length 5 1 (bc (preV l))]) := by
  have hseg : (2 : UInt8) :: segB [(B, c, l)] = preV l := by simp [segB, preV]
  refine spec_of Tryz.func128 rfl (n := 6) rfl rfl ?_
  intro W
  refine h_seq ?_
  refine h_reg ?_
  refine h_op (r_assign rfl) ?_
  refine h_nil ?_
  refine q_then ?_
  refine h_seq ?_
  refine h_reg ?_
  refine h_op (r_move rfl) ?_
  refine h_opX (x_bslV (ys := [.slice B l.length c]) (svs [(B, c, l)]) rfl rfl (svs_one _)) fun g4 => ?_
  refine h_call ((build_s 2 [(B, c, l)] (some ⟨g4, 0, none⟩) 1 (by simpa using hB) (by simp [segN]; omega)).comes) rfl rfl rfl fun ⟨g8, c8⟩ => ?_
  dsimp only
  rw [hseg]
  refine h_op (r_assign rfl) ?_
  refine h_nil ?_
  refine q_then ?_
  refine h_ret ?_
  exact h_ret1 rfl rfl fun w s => ⟨(g8, c8), rfl, (same w s).res (List.Sublist.refl _) (by simp [Fa.wr])⟩
theorem LeafOf_s (n : Nat) (hn : n ≤ 256) (gh gc k : Nat) (hk : k ≤ 1000000000000) (key : B32) (l : List UInt8) (B : Option Addr) (c : Nat) (hB : B = none → l.length = 0 ∧ c = 0) (hl : l.length ≤ 100000000) : Spec Tryz.prog 136 [.pointer (some ⟨gh, 0, none⟩), .agg key.cells.toArray, .slice B l.length c].toArray [HR gh gc n, .rd B (bc l), TBL] [CN gc k] (fun _ : Unit => .agg (leafOf n key l).cells.toArray) (fun _ => [CN gc (k + 1)]) := by
  have hpl : (preV l).length = l.length + 1 := rfl
  refine spec_of Tryz.func136 rfl (n := 13) rfl rfl ?_
  intro W
  refine h_seq ?_
  refine h_reg ?_
  refine h_opX (x_box rfl) fun g4 => ?_
  refine h_opX (x_alloc) fun g6 => ?_
  refine h_nil ?_
  refine q_then ?_
  refine h_seq ?_
  refine ha_start [.blk g4 key.cells 39] [] mixed (same) ?_
  refine ha_take 0 rfl (r_loadr rfl) ?_
  refine ha_takeP 1 rfl (r_move rfl) ?_
  refine ha_takeP 2 rfl (r_move rfl) ?_
  refine ha_one 3 ?_
  refine ho_C 3 rfl ((pValue_s l B c hB hl).comes) rfl rfl rfl (fun _ => same) fun ⟨g10, c10⟩ => ?_
  refine ha_one 4 ?_
  refine ho_C 4 rfl ((HSum_s n hn gh gc k hk (preV l) (some ⟨g10, 0, none⟩) c10 (fun h => by cases h) (by omega)).comes) rfl rfl rfl (fun _ => same) fun _ => ?_
  refine ha_takeP 5 rfl (r_build rfl) ?_
  refine ha_one 6 ?_
  refine ho_SL 6 rfl (s_storer rfl rfl) ?_
  refine q_then ?_
  refine h_ret ?_
  exact h_ret1 rfl (rv_row rfl) fun w s => ⟨(), rfl, (same w s).res (List.Sublist.refl _) (by simp [Fa.wr])⟩
theorem lpre_s (x : NLeaf) : Spec Tryz.prog 217 [.agg x.cells.toArray].toArray [] [] (fun u : Nat × Nat => .slice (some ⟨u.1, 0, none⟩) (preL x.leaf).length u.2) (fun u => [.own (.slice (some ⟨u.1, 0, none⟩) (preL x.leaf).length u.2) (preL x.leaf).length 5 1 (bc (preL x.leaf))]) := by
  refine spec_of Tryz.func217 rfl (n := 6) rfl rfl ?_
  intro W
  refine h_seq ?_
  refine h_reg ?_
  refine h_opX (x_box rfl) fun g1 => ?_
  refine h_op (r_assign rfl) ?_
  refine h_nil ?_
  refine q_then ?_
  refine h_seq ?_
  refine h_reg ?_
  refine h_op (r_field rfl) ?_
  refine h_op (r_loadr rfl) ?_
  refine h_call ((pLeaf_s x.leaf).comes) rfl rfl rfl fun ⟨g5, c5⟩ => ?_
  refine h_op (r_assign rfl) ?_
  refine h_nil ?_
  refine q_then ?_
  refine h_ret ?_
  exact h_ret1 rfl rfl fun w s => ⟨(g5, c5), rfl, (same w s).res (List.Sublist.refl _) (by simp [Fa.wr])⟩
theorem ipre_s (x : NInner) : Spec Tryz.prog 218 [.agg x.cells.toArray].toArray [] [] (fun u : Nat × Nat => .slice (some ⟨u.1, 0, none⟩) (preN x.dl x.dr).length u.2) (fun u => [.own (.slice (some ⟨u.1, 0, none⟩) (preN x.dl x.dr).length u.2) (preN x.dl x.dr).length 5 1 (bc (preN x.dl x.dr))]) := by
  refine spec_of Tryz.func218 rfl (n := 10) rfl rfl ?_
  intro W
  refine h_seq ?_
  refine h_reg ?_
  refine h_opX (x_box rfl) fun g1 => ?_
  refine h_op (r_assign rfl) ?_
  refine h_nil ?_
  refine q_then ?_
  refine h_seq ?_
  refine h_reg ?_
  refine h_op (r_field rfl) ?_
  refine h_op (r_idxA rfl rfl) ?_
  refine h_op (r_loadr rfl) ?_
  refine h_op (r_field rfl) ?_
  refine h_op (r_idxA rfl rfl) ?_
  refine h_op (r_loadr rfl) ?_
  refine h_call ((pNode_s x.dl x.dr).comes) rfl rfl rfl fun ⟨g9, c9⟩ => ?_
  refine h_op (r_assign rfl) ?_
  refine h_nil ?_
  refine q_then ?_
  refine h_ret ?_
  exact h_ret1 rfl rfl fun w s => ⟨(g9, c9), rfl, (same w s).res (List.Sublist.refl _) (by simp [Fa.wr])⟩
theorem with_s (n : Nat) (hn : n ≤ 256) (gh gc k : Nat) (hk : k ≤ 1000000000000) (T f : Nat) (u : Value) (pre : List UInt8) [MethT Tryz.prog T "sparsetree/node.preimage" f] [Ent Tryz.prog f] (hp : pre.length ≤ 1000000000)
    (hm : Spec Tryz.prog f [u].toArray [] [] (fun u : Nat × Nat => .slice (some ⟨u.1, 0, none⟩) pre.length u.2) (fun u => [.own (.slice (some ⟨u.1, 0, none⟩) pre.length u.2) pre.length 5 1 (bc pre)])) :
    Spec Tryz.prog 135 [.pointer (some ⟨gh, 0, none⟩), .iface T u].toArray [HR gh gc n, TBL] [CN gc k] (fun g : Nat => .pointer (some ⟨g, 0, none⟩)) (fun g => [.blk g (Nd.cells ⟨.iface T u, sumB n pre⟩) 133, CN gc (k + 1)]) := by
  refine spec_of Tryz.func135 rfl (n := 12) rfl rfl ?_
  intro W
  refine h_seq ?_
  refine h_reg ?_
  refine h_op (r_assign rfl) ?_
  refine h_nil ?_
  refine q_then ?_
  refine h_seq ?_
  refine h_reg ?_
  refine h_op (r_move rfl) ?_
  refine h_op (r_move rfl) ?_
  refine h_op (r_move rfl) ?_
  refine h_callM (hm.comes) rfl rfl rfl fun ⟨g8, c8⟩ => ?_
  refine h_call ((HSum_s n hn gh gc k hk pre (some ⟨g8, 0, none⟩) c8 (fun h => by cases h) (by omega)).comes) rfl rfl rfl fun _ => ?_
  refine h_op (r_build rfl) ?_
  refine h_opX (x_box rfl) fun g11 => ?_
  refine h_op (r_assign rfl) ?_
  refine h_nil ?_
  refine q_then ?_
  refine h_ret ?_
  exact h_ret1 rfl rfl fun w s => ⟨g11, rfl, (same w s).res (List.Sublist.refl _) (by simp [Fa.wr])⟩
theorem NewLeaf_s (n : Nat) (hn : n ≤ 256) (gh gc k : Nat) (hk : k ≤ 100000000000) (h : Zh) [ht : RdZ h (some ⟨2, 0, none⟩) hashT] (key : B32) (s : Sl) (b : List UInt8) [hs : SlZ h s b] (hb : b.length ≤ 100000000) :
    Spec Tryz.prog 95 [.pointer (some ⟨gh, 0, none⟩), .agg (Entry.cells ⟨key, s⟩).toArray].toArray [HR gh gc n] [.zone true h, CN gc k] (fun x : {x : Zh × Option Addr // LeZ h x.1 ∧ TrZ n x.1 (.leaf key b) x.2} => .pointer x.1.2) (fun x => [.zone true x.1.1, CN gc (k + 2)]) := by
  obtain ⟨B, N, c⟩ := s
  obtain rfl : N = b.length := hs.len
  have hB : B = none → b.length = 0 ∧ c = 0 := hs.nil
  have hrd : RdZ h B (bc b) := hs.rd
  refine spec_of Tryz.func95 rfl (n := 18) rfl rfl ?_
  intro W
  refine h_seq ?_
  refine h_reg ?_
  refine h_opX (x_box rfl) fun g3 => ?_
  refine h_op (r_assign rfl) ?_
  refine h_nil ?_
  refine q_then ?_
  refine h_seq ?_
  refine ha_start [.blk g3 (Entry.cells ⟨key, ⟨B, b.length, c⟩⟩) 109] [] mixed (same) ?_
  refine ha_takeP 0 rfl (r_move rfl) ?_
  refine ha_takeP 1 rfl (r_move rfl) ?_
  refine ha_takeP 2 rfl (r_field rfl) ?_
  refine ha_take 3 rfl (r_loadr rfl) ?_
  refine ha_takeP 4 rfl (r_field rfl) ?_
  refine ha_take 5 rfl (r_loadc rfl) ?_
  refine ha_takeP 7 rfl (r_field rfl) ?_
  refine ha_take 8 rfl (r_loadc rfl) ?_
  refine ha_one 6 ?_
  refine ho_C 6 rfl ((LeafOf_s n hn gh gc k (by omega) key b B c hB hb).comes) rfl rfl rfl (fun _ => same) fun _ => ?_
  refine ha_one 9 ?_
  refine ho_C 9 rfl ((Clone_s b B c hB (by omega)).comes) rfl rfl rfl (fun _ => same) fun ⟨A14, c14⟩ => ?_
  refine ha_takeP 10 rfl (r_build rfl) ?_
  refine ha_takeP 11 rfl (r_mkI rfl) ?_
  refine ha_one 12 ?_
  refine ho_C 12 rfl ((with_s n hn gh gc (k + 1) (by omega) 135 217 (.agg (NLeaf.cells ⟨leafOf n key b, ⟨A14, b.length, c14⟩⟩).toArray) (preL (leafOf n key b)) (by rw [preL_len]; decide) (lpre_s ⟨leafOf n key b, ⟨A14, b.length, c14⟩⟩)).comes) rfl rfl rfl (fun _ => same) fun g17 => ?_
  refine ha_takeP 13 rfl (r_assign rfl) ?_
  refine ha_done (by kernel_rfl) ?_
  refine q_then ?_
  dsimp only
  refine h_freezeO (.slice A14 b.length c14) fun h1 B1 c1 e1 hle1 hlen1 hnil1 hz1 hr1 => ?_
  injection e1 with e1 _ e2
  subst e1 e2
  refine h_freeze g17 fun h2 hz2 hr2 => ?_
  refine h_ret ?_
  exact h_ret1 rfl rfl fun w s => ⟨⟨(h2, some ⟨g17, 0, none⟩), hz1.trans hz2, ⟨g17, ⟨A14, b.length, c14⟩, rfl, hr2, ⟨rfl, hle1, hnil1, hr1.mono hz2⟩⟩⟩, rfl, (same w s).res (List.Sublist.refl _) (by simp [Fa.wr])⟩
end Go.Proofs.YtgfkbeipckbkiaaGreatDoor
/- U35 -/
namespace Go.Proofs.YtgfkbeipckbkiaaGreatDoor
set_option linter.unusedSimpArgs false
set_option linter.unusedVariables false
open Go.RowKit
/-- what stands for two subtrees -/
def joinT (l r : Tr) : Tr := if l.kind = 0 ∧ r.kind ≠ 2 then r else if r.kind = 0 ∧ l.kind ≠ 2 then l else .node l r
/-- how many digests it takes -/
def joinC (l r : Tr) : Nat := if l.kind = 0 ∧ r.kind ≠ 2 then 0 else if r.kind = 0 ∧ l.kind ≠ 2 then 0 else (if l.kind = 0 then 1 else 0) + (if r.kind = 0 then 1 else 0) + 1
theorem i01 (p : Prop) [Decidable p] : (if p then 1 else 0 : Nat) ≤ 1 := by split <;> omega
theorem joinC_le (l r : Tr) : joinC l r ≤ 3 := by
  unfold joinC
  repeat' split
  all_goals omega
theorem trZ_none {n : Nat} {h : Zh} {t : Tr} {p : Option Addr} (x : trZ n h t p) : p.isNone = decide (t.kind = 0) := by
  rcases t with _ | ⟨kk, b⟩ | ⟨l, r⟩
  · obtain rfl : p = none := x
    rfl
  · obtain ⟨g, s, rfl, _⟩ := x
    rfl
  · obtain ⟨g, pl, pr, rfl, _⟩ := x
    rfl
theorem Join_s (n : Nat) (hn : n ≤ 256) (gh gc k : Nat) (hk : k ≤ 100000000000) (h : Zh) [ht : RdZ h (some ⟨2, 0, none⟩) hashT] (l r : Tr) (pl pr : Option Addr) [hl : TrZ n h l pl] [hr : TrZ n h r pr] (hct : l.cnt + r.cnt ≤ 1000000000000) :
    Spec Tryz.prog 96 [.pointer (some ⟨gh, 0, none⟩), .pointer pl, .pointer pr].toArray [HR gh gc n] [.zone true h, CN gc k] (fun x : {x : Zh × Option Addr // LeZ h x.1 ∧ TrZ n x.1 (joinT l r) x.2} => .pointer x.1.2) (fun x => [.zone true x.1.1, CN gc (k + joinC l r)]) := by
  have el := trZ_none hl.ok
  have er := trZ_none hr.ok
  refine spec_of Tryz.func96 rfl (n := 44) rfl rfl ?_
  intro W
  by_cases h1 : l.kind = 0
  · by_cases h2 : r.kind = 2
    · have hj : joinT l r = .node l r := by unfold joinT; rw [if_neg (by omega), if_neg (by omega)]
      have hc : k + joinC l r = k + (if l.kind = 0 then 1 else 0) + (if r.kind = 0 then 1 else 0) + 1 := by unfold joinC; rw [if_neg (by omega), if_neg (by omega)]; omega
      refine h_seq ?_
      refine h_reg ?_
      refine h_op (r_assign rfl) ?_
      refine h_nil ?_
      refine q_then ?_
      refine h_seq ?_
      refine h_seq ?_
      refine h_reg ?_
      refine h_op (r_move rfl) ?_
      refine h_op (r_bool (r_nilR rfl rfl) (el.trans (decide_eq_true h1))) ?_
      refine h_op (r_move rfl) ?_
      refine h_op (r_move rfl) ?_
      refine h_call ((Kind_s n h r pr).comes) rfl rfl rfl fun _ => ?_
      refine h_op (r_bool (r_neq rfl rfl) (decide_eq_false (fun e => e (by omega)))) ?_
      refine h_op (r_pick rfl rfl) ?_
      refine h_nil ?_
      refine q_then ?_
      refine h_condF rfl ?_
      refine h_skip ?_
      refine q_then ?_
      refine h_seq ?_
      refine h_seq ?_
      refine h_reg ?_
      refine h_op (r_move rfl) ?_
      refine h_op (r_bool (r_nilR rfl rfl) (er.trans (decide_eq_false (by omega)))) ?_
      refine h_op (r_move rfl) ?_
      refine h_opOff ?_
      refine h_opOff ?_
      refine h_opOff ?_
      refine h_op (r_pick rfl rfl) ?_
      refine h_nil ?_
      refine q_then ?_
      refine h_condF rfl ?_
      refine h_skip ?_
      refine q_then ?_
      refine h_seq ?_
      refine h_reg ?_
      refine h_op (r_move rfl) ?_
      refine h_op (r_move rfl) ?_
      refine h_op (r_build rfl) ?_
      refine h_opX (x_alloc) fun g7 => ?_
      refine h_opS (s_storer rfl rfl) ?_
      refine h_nil ?_
      refine q_then ?_
      refine h_seq ?_
      refine ha_start [.blk g7 [.pointer pl, .pointer pr] 136] [] mixed (same) ?_
      refine ha_takeP 0 rfl (r_move rfl) ?_
      refine ha_take 1 rfl (r_loadr rfl) ?_
      refine ha_takeP 2 rfl (r_move rfl) ?_
      refine ha_takeP 3 rfl (r_move rfl) ?_
      refine ha_takeP 5 rfl (r_move rfl) ?_
      refine ha_takeP 6 rfl (r_move rfl) ?_
      refine ha_takeP 9 rfl (r_move rfl) ?_
      refine ha_takeP 11 rfl (r_move rfl) ?_
      refine ha_one 4 ?_
      refine ho_C 4 rfl ((Digest_s n hn gh gc k (by omega) h l pl).comes) rfl rfl rfl (fun _ => same) fun _ => ?_
      refine ha_one 7 ?_
      refine ho_C 7 rfl ((Digest_s n hn gh gc (k + if l.kind = 0 then 1 else 0) (by have := i01 (l.kind = 0); omega) h r pr).comes) rfl rfl rfl (fun _ => same) fun _ => ?_
      refine ha_takeP 8 rfl (r_build rfl) ?_
      refine ha_one 10 ?_
      refine ho_C 10 rfl ((NLen_s n h l pl).comes) rfl rfl rfl (fun _ => same) fun _ => ?_
      refine ha_one 12 ?_
      refine ho_C 12 rfl ((NLen_s n h r pr).comes) rfl rfl rfl (fun _ => same) fun _ => ?_
      refine ha_takeP 13 rfl (r_int (r_add rfl rfl) (show _ = ((l.cnt + r.cnt : Nat) : Int) by omega)) ?_
      refine ha_takeP 14 rfl (r_build rfl) ?_
      refine ha_takeP 15 rfl (r_mkI rfl) ?_
      refine ha_one 16 ?_
      refine ho_C 16 rfl ((with_s n hn gh gc (k + (if l.kind = 0 then 1 else 0) + if r.kind = 0 then 1 else 0) (by have := i01 (l.kind = 0); have := i01 (r.kind = 0); omega) 139 218 (.agg (NInner.cells ⟨pl, pr, dgT n l, dgT n r, ((l.cnt + r.cnt : Nat) : Int)⟩).toArray) (preN (dgT n l) (dgT n r)) (by rw [preN_len]; decide) (ipre_s ⟨pl, pr, dgT n l, dgT n r, ((l.cnt + r.cnt : Nat) : Int)⟩)).comes) rfl rfl rfl (fun _ => same) fun g43 => ?_
      refine ha_takeP 17 rfl (r_assign rfl) ?_
      refine ha_done (by kernel_rfl) ?_
      refine q_then ?_
      dsimp only
      refine h_freeze g43 fun h2 hz2 hr2 => ?_
      refine h_ret ?_
      exact h_ret1 rfl rfl fun w s => ⟨⟨(h2, some ⟨g43, 0, none⟩), hz2, by rw [hj]; exact ⟨g43, pl, pr, rfl, hr2, hl.ok.mono hz2, hr.ok.mono hz2⟩⟩, rfl, by rw [hc]; exact (same w s).res (List.Sublist.refl _) (by simp [Fa.wr])⟩
    · have hj : joinT l r = r := by unfold joinT; rw [if_pos ⟨h1, h2⟩]
      have hc : joinC l r = 0 := by unfold joinC; rw [if_pos ⟨h1, h2⟩]
      refine h_seq ?_
      refine h_reg ?_
      refine h_op (r_assign rfl) ?_
      refine h_nil ?_
      refine q_then ?_
      refine h_seq ?_
      refine h_seq ?_
      refine h_reg ?_
      refine h_op (r_move rfl) ?_
      refine h_op (r_bool (r_nilR rfl rfl) (el.trans (decide_eq_true h1))) ?_
      refine h_op (r_move rfl) ?_
      refine h_op (r_move rfl) ?_
      refine h_call ((Kind_s n h r pr).comes) rfl rfl rfl fun _ => ?_
      refine h_op (r_bool (r_neq rfl rfl) (decide_eq_true (by omega))) ?_
      refine h_op (r_pick rfl rfl) ?_
      refine h_nil ?_
      refine q_then ?_
      refine h_condT rfl ?_
      refine h_seq ?_
      refine h_reg ?_
      refine h_op (r_move rfl) ?_
      refine h_op (r_assign rfl) ?_
      refine h_nil ?_
      refine q_then ?_
      refine h_ret ?_
      refine q_thenR ?_
      exact h_ret1 rfl rfl fun w s => ⟨⟨(h, pr), LeZ.refl h, by rw [hj]; exact hr⟩, rfl, by rw [hc]; exact (same w s).res (List.Sublist.refl _) (by simp [Fa.wr])⟩
  · by_cases h2 : r.kind = 0
    · by_cases h3 : l.kind = 2
      · have hj : joinT l r = .node l r := by unfold joinT; rw [if_neg (by omega), if_neg (by omega)]
        have hc : k + joinC l r = k + (if l.kind = 0 then 1 else 0) + (if r.kind = 0 then 1 else 0) + 1 := by unfold joinC; rw [if_neg (by omega), if_neg (by omega)]; omega
        refine h_seq ?_
        refine h_reg ?_
        refine h_op (r_assign rfl) ?_
        refine h_nil ?_
        refine q_then ?_
        refine h_seq ?_
        refine h_seq ?_
        refine h_reg ?_
        refine h_op (r_move rfl) ?_
        refine h_op (r_bool (r_nilR rfl rfl) (el.trans (decide_eq_false h1))) ?_
        refine h_op (r_move rfl) ?_
        refine h_opOff ?_
        refine h_opOff ?_
        refine h_opOff ?_
        refine h_op (r_pick rfl rfl) ?_
        refine h_nil ?_
        refine q_then ?_
        refine h_condF rfl ?_
        refine h_skip ?_
        refine q_then ?_
        refine h_seq ?_
        refine h_seq ?_
        refine h_reg ?_
        refine h_op (r_move rfl) ?_
        refine h_op (r_bool (r_nilR rfl rfl) (er.trans (decide_eq_true h2))) ?_
        refine h_op (r_move rfl) ?_
        refine h_op (r_move rfl) ?_
        refine h_call ((Kind_s n h l pl).comes) rfl rfl rfl fun _ => ?_
        refine h_op (r_bool (r_neq rfl rfl) (decide_eq_false (fun e => e (by omega)))) ?_
        refine h_op (r_pick rfl rfl) ?_
        refine h_nil ?_
        refine q_then ?_
        refine h_condF rfl ?_
        refine h_skip ?_
        refine q_then ?_
        refine h_seq ?_
        refine h_reg ?_
        refine h_op (r_move rfl) ?_
        refine h_op (r_move rfl) ?_
        refine h_op (r_build rfl) ?_
        refine h_opX (x_alloc) fun g7 => ?_
        refine h_opS (s_storer rfl rfl) ?_
        refine h_nil ?_
        refine q_then ?_
        refine h_seq ?_
        refine ha_start [.blk g7 [.pointer pl, .pointer pr] 136] [] mixed (same) ?_
        refine ha_takeP 0 rfl (r_move rfl) ?_
        refine ha_take 1 rfl (r_loadr rfl) ?_
        refine ha_takeP 2 rfl (r_move rfl) ?_
        refine ha_takeP 3 rfl (r_move rfl) ?_
        refine ha_takeP 5 rfl (r_move rfl) ?_
        refine ha_takeP 6 rfl (r_move rfl) ?_
        refine ha_takeP 9 rfl (r_move rfl) ?_
        refine ha_takeP 11 rfl (r_move rfl) ?_
        refine ha_one 4 ?_
        refine ho_C 4 rfl ((Digest_s n hn gh gc k (by omega) h l pl).comes) rfl rfl rfl (fun _ => same) fun _ => ?_
        refine ha_one 7 ?_
        refine ho_C 7 rfl ((Digest_s n hn gh gc (k + if l.kind = 0 then 1 else 0) (by have := i01 (l.kind = 0); omega) h r pr).comes) rfl rfl rfl (fun _ => same) fun _ => ?_
        refine ha_takeP 8 rfl (r_build rfl) ?_
        refine ha_one 10 ?_
        refine ho_C 10 rfl ((NLen_s n h l pl).comes) rfl rfl rfl (fun _ => same) fun _ => ?_
        refine ha_one 12 ?_
        refine ho_C 12 rfl ((NLen_s n h r pr).comes) rfl rfl rfl (fun _ => same) fun _ => ?_
        refine ha_takeP 13 rfl (r_int (r_add rfl rfl) (show _ = ((l.cnt + r.cnt : Nat) : Int) by omega)) ?_
        refine ha_takeP 14 rfl (r_build rfl) ?_
        refine ha_takeP 15 rfl (r_mkI rfl) ?_
        refine ha_one 16 ?_
        refine ho_C 16 rfl ((with_s n hn gh gc (k + (if l.kind = 0 then 1 else 0) + if r.kind = 0 then 1 else 0) (by have := i01 (l.kind = 0); have := i01 (r.kind = 0); omega) 139 218 (.agg (NInner.cells ⟨pl, pr, dgT n l, dgT n r, ((l.cnt + r.cnt : Nat) : Int)⟩).toArray) (preN (dgT n l) (dgT n r)) (by rw [preN_len]; decide) (ipre_s ⟨pl, pr, dgT n l, dgT n r, ((l.cnt + r.cnt : Nat) : Int)⟩)).comes) rfl rfl rfl (fun _ => same) fun g43 => ?_
        refine ha_takeP 17 rfl (r_assign rfl) ?_
        refine ha_done (by kernel_rfl) ?_
        refine q_then ?_
        dsimp only
        refine h_freeze g43 fun h2 hz2 hr2 => ?_
        refine h_ret ?_
        exact h_ret1 rfl rfl fun w s => ⟨⟨(h2, some ⟨g43, 0, none⟩), hz2, by rw [hj]; exact ⟨g43, pl, pr, rfl, hr2, hl.ok.mono hz2, hr.ok.mono hz2⟩⟩, rfl, by rw [hc]; exact (same w s).res (List.Sublist.refl _) (by simp [Fa.wr])⟩
      · have hj : joinT l r = l := by unfold joinT; rw [if_neg (by omega), if_pos ⟨h2, h3⟩]
        have hc : joinC l r = 0 := by unfold joinC; rw [if_neg (by omega), if_pos ⟨h2, h3⟩]
        refine h_seq ?_
        refine h_reg ?_
        refine h_op (r_assign rfl) ?_
        refine h_nil ?_
        refine q_then ?_
        refine h_seq ?_
        refine h_seq ?_
        refine h_reg ?_
        refine h_op (r_move rfl) ?_
        refine h_op (r_bool (r_nilR rfl rfl) (el.trans (decide_eq_false h1))) ?_
        refine h_op (r_move rfl) ?_
        refine h_opOff ?_
        refine h_opOff ?_
        refine h_opOff ?_
        refine h_op (r_pick rfl rfl) ?_
        refine h_nil ?_
        refine q_then ?_
        refine h_condF rfl ?_
        refine h_skip ?_
        refine q_then ?_
        refine h_seq ?_
        refine h_seq ?_
        refine h_reg ?_
        refine h_op (r_move rfl) ?_
        refine h_op (r_bool (r_nilR rfl rfl) (er.trans (decide_eq_true h2))) ?_
        refine h_op (r_move rfl) ?_
        refine h_op (r_move rfl) ?_
        refine h_call ((Kind_s n h l pl).comes) rfl rfl rfl fun _ => ?_
        refine h_op (r_bool (r_neq rfl rfl) (decide_eq_true (by omega))) ?_
        refine h_op (r_pick rfl rfl) ?_
        refine h_nil ?_
        refine q_then ?_
        refine h_condT rfl ?_
        refine h_seq ?_
        refine h_reg ?_
        refine h_op (r_move rfl) ?_
        refine h_op (r_assign rfl) ?_
        refine h_nil ?_
        refine q_then ?_
        refine h_ret ?_
        refine q_thenR ?_
        exact h_ret1 rfl rfl fun w s => ⟨⟨(h, pl), LeZ.refl h, by rw [hj]; exact hl⟩, rfl, by rw [hc]; exact (same w s).res (List.Sublist.refl _) (by simp [Fa.wr])⟩
    · have hj : joinT l r = .node l r := by unfold joinT; rw [if_neg (by omega), if_neg (by omega)]
      have hc : k + joinC l r = k + (if l.kind = 0 then 1 else 0) + (if r.kind = 0 then 1 else 0) + 1 := by unfold joinC; rw [if_neg (by omega), if_neg (by omega)]; omega
      refine h_seq ?_
      refine h_reg ?_
      refine h_op (r_assign rfl) ?_
      refine h_nil ?_
      refine q_then ?_
      refine h_seq ?_
      refine h_seq ?_
      refine h_reg ?_
      refine h_op (r_move rfl) ?_
      refine h_op (r_bool (r_nilR rfl rfl) (el.trans (decide_eq_false h1))) ?_
      refine h_op (r_move rfl) ?_
      refine h_opOff ?_
      refine h_opOff ?_
      refine h_opOff ?_
      refine h_op (r_pick rfl rfl) ?_
      refine h_nil ?_
      refine q_then ?_
      refine h_condF rfl ?_
      refine h_skip ?_
      refine q_then ?_
      refine h_seq ?_
      refine h_seq ?_
      refine h_reg ?_
      refine h_op (r_move rfl) ?_
      refine h_op (r_bool (r_nilR rfl rfl) (er.trans (decide_eq_false h2))) ?_
      refine h_op (r_move rfl) ?_
      refine h_opOff ?_
      refine h_opOff ?_
      refine h_opOff ?_
      refine h_op (r_pick rfl rfl) ?_
      refine h_nil ?_
      refine q_then ?_
      refine h_condF rfl ?_
      refine h_skip ?_
      refine q_then ?_
      refine h_seq ?_
      refine h_reg ?_
      refine h_op (r_move rfl) ?_
      refine h_op (r_move rfl) ?_
      refine h_op (r_build rfl) ?_
      refine h_opX (x_alloc) fun g7 => ?_
      refine h_opS (s_storer rfl rfl) ?_
      refine h_nil ?_
      refine q_then ?_
      refine h_seq ?_
      refine ha_start [.blk g7 [.pointer pl, .pointer pr] 136] [] mixed (same) ?_
      refine ha_takeP 0 rfl (r_move rfl) ?_
      refine ha_take 1 rfl (r_loadr rfl) ?_
      refine ha_takeP 2 rfl (r_move rfl) ?_
      refine ha_takeP 3 rfl (r_move rfl) ?_
      refine ha_takeP 5 rfl (r_move rfl) ?_
      refine ha_takeP 6 rfl (r_move rfl) ?_
      refine ha_takeP 9 rfl (r_move rfl) ?_
      refine ha_takeP 11 rfl (r_move rfl) ?_
      refine ha_one 4 ?_
      refine ho_C 4 rfl ((Digest_s n hn gh gc k (by omega) h l pl).comes) rfl rfl rfl (fun _ => same) fun _ => ?_
      refine ha_one 7 ?_
      refine ho_C 7 rfl ((Digest_s n hn gh gc (k + if l.kind = 0 then 1 else 0) (by have := i01 (l.kind = 0); omega) h r pr).comes) rfl rfl rfl (fun _ => same) fun _ => ?_
      refine ha_takeP 8 rfl (r_build rfl) ?_
      refine ha_one 10 ?_
      refine ho_C 10 rfl ((NLen_s n h l pl).comes) rfl rfl rfl (fun _ => same) fun _ => ?_
      refine ha_one 12 ?_
      refine ho_C 12 rfl ((NLen_s n h r pr).comes) rfl rfl rfl (fun _ => same) fun _ => ?_
      refine ha_takeP 13 rfl (r_int (r_add rfl rfl) (show _ = ((l.cnt + r.cnt : Nat) : Int) by omega)) ?_
      refine ha_takeP 14 rfl (r_build rfl) ?_
      refine ha_takeP 15 rfl (r_mkI rfl) ?_
      refine ha_one 16 ?_
      refine ho_C 16 rfl ((with_s n hn gh gc (k + (if l.kind = 0 then 1 else 0) + if r.kind = 0 then 1 else 0) (by have := i01 (l.kind = 0); have := i01 (r.kind = 0); omega) 139 218 (.agg (NInner.cells ⟨pl, pr, dgT n l, dgT n r, ((l.cnt + r.cnt : Nat) : Int)⟩).toArray) (preN (dgT n l) (dgT n r)) (by rw [preN_len]; decide) (ipre_s ⟨pl, pr, dgT n l, dgT n r, ((l.cnt + r.cnt : Nat) : Int)⟩)).comes) rfl rfl rfl (fun _ => same) fun g43 => ?_
      refine ha_takeP 17 rfl (r_assign rfl) ?_
      refine ha_done (by kernel_rfl) ?_
      refine q_then ?_
      dsimp only
      refine h_freeze g43 fun h2 hz2 hr2 => ?_
      refine h_ret ?_
      exact h_ret1 rfl rfl fun w s => ⟨⟨(h2, some ⟨g43, 0, none⟩), hz2, by rw [hj]; exact ⟨g43, pl, pr, rfl, hr2, hl.ok.mono hz2, hr.ok.mono hz2⟩⟩, rfl, by rw [hc]; exact (same w s).res (List.Sublist.refl _) (by simp [Fa.wr])⟩
end Go.Proofs.YtgfkbeipckbkiaaGreatDoor
/- U36 -/
namespace Go.Proofs.YtgfkbeipckbkiaaGreatDoor
set_option linter.unusedSimpArgs false
set_option linter.unusedVariables false
open Go.RowKit
theorem Child_s (n : Nat) (h : Zh) (t : Tr) (p : Option Addr) [ht : TrZ n h t p] (i : Int) (b : Bool) (hb : (i = 0) = (b = false)) : Spec Tryz.prog 99 [.pointer p, .int .i64 i].toArray [.zone false h] [] (fun _ : Unit => .pointer (subP h b p)) (fun _ => []) := by
  refine spec_of Tryz.func99 rfl (n := 11) rfl rfl ?_
  intro W
  refine h_seq ?_
  refine h_reg ?_
  refine h_op (r_assign rfl) ?_
  refine h_nil ?_
  refine q_then ?_
  refine h_seq ?_
  refine h_seq ?_
  refine h_reg ?_
  refine h_op (r_move rfl) ?_
  refine h_op (r_eql rfl rfl) ?_
  refine h_nil ?_
  refine q_then ?_
  refine h_cond rfl (fun h1 => ?_) (fun h1 => ?_)
  · obtain rfl : b = false := hb.mp h1
    refine h_seq ?_
    refine h_reg ?_
    refine h_op (r_move rfl) ?_
    refine h_call ((Left_s n h t p).comes) rfl rfl rfl fun _ => ?_
    refine h_op (r_assign rfl) ?_
    refine h_nil ?_
    refine q_then ?_
    refine h_ret ?_
    refine q_thenR ?_
    exact h_ret1 rfl rfl fun w s => ⟨(), rfl, s.res (List.nil_sublist _) (by simp)⟩
  · obtain rfl : b = true := by cases b <;> simp_all
    refine h_skip ?_
    refine q_then ?_
    refine h_seq ?_
    refine h_reg ?_
    refine h_op (r_move rfl) ?_
    refine h_call ((Right_s n h t p).comes) rfl rfl rfl fun _ => ?_
    refine h_op (r_assign rfl) ?_
    refine h_nil ?_
    refine q_then ?_
    refine h_ret ?_
    exact h_ret1 rfl rfl fun w s => ⟨(), rfl, s.res (List.nil_sublist _) (by simp)⟩
theorem bitN_zero (b : B32) (i : Nat) : (((bitN b i : Nat) : Int) = 0) = (bitAt b i = false) := by
  unfold bitN
  cases bitAt b i <;> simp
theorem bitN_not (b : B32) (i : Nat) : ((1 - ((bitN b i : Nat) : Int)) = 0) = ((!bitAt b i) = false) := by
  unfold bitN
  cases bitAt b i <;> simp
theorem way_s (p : Option Addr) (key : B32) : Spec Tryz.prog 68 [.pointer p, .agg key.cells.toArray].toArray [] [] (fun u : Nat × Nat => .func (.func 108) #[] [.pointer (some ⟨u.1, 0, none⟩), .pointer (some ⟨u.2, 0, none⟩)].toArray) (fun u => [.blk u.1 [.pointer p] 24, .blk u.2 key.cells 39]) := by
  refine spec_of Tryz.func68 rfl (n := 6) rfl rfl ?_
  intro W
  refine h_seq ?_
  refine h_reg ?_
  refine h_opX (x_box1 rfl) fun g2 => ?_
  refine h_opX (x_box rfl) fun g3 => ?_
  refine h_op (r_assign rfl) ?_
  refine h_nil ?_
  refine q_then ?_
  refine h_seq ?_
  refine h_reg ?_
  refine h_op (r_func rfl rfl) ?_
  refine h_op (r_assign rfl) ?_
  refine h_nil ?_
  refine q_then ?_
  refine h_ret ?_
  exact h_ret1 rfl rfl fun w s => ⟨(g2, g3), rfl, (same w s).res (List.Sublist.refl _) (by simp [Fa.wr])⟩
/-- the subtrees on the way, with their depths -/
theorem way_it (n : Nat) (h : Zh) (t : Tr) (p : Option Addr) [ht : TrZ n h t p] (key : B32) (D : Nat) (hD : WayTo key t D) (g1 g2 : Nat) : Iter Tryz.prog 108 [.pointer (some ⟨g1, 0, none⟩), .pointer (some ⟨g2, 0, none⟩)] [.rd (some ⟨g2, 0, none⟩) key.cells, .zone false h] [.blk g1 [.pointer p] 24] (List.range (D + 1)) (fun i => [.int .i64 (i : Int), .pointer (wayQ h key p i)]) [.blk g1 [.pointer (wayQ h key p D)] 24] := by
  have hle := hD.le
  refine iter_of Tryz.func108 rfl (n := 21) rfl rfl ?_
  intro l J Rm m0 W hJw hRm hy h0
  refine h_seq ?_
  refine h_reg ?_
  refine h_op (r_assign rfl) ?_
  refine h_nil ?_
  refine q_then ?_
  refine h_block ?_
  refine h_loop (fun (s : Nat × List Fa) => s.1 ≤ D ∧ J (List.range s.1) s.2) (fun (s : Nat × List Fa) => [(4, .int .i64 (s.1 : Int)), (0, .func (.yield l) #[] #[]), (1, .pointer (some ⟨g1, 0, none⟩)), (2, .pointer (some ⟨g2, 0, none⟩))]) (fun (s : Nat × List Fa) => .blk g1 [.pointer (wayQ h key p s.1)] 24 :: .rd (some ⟨g2, 0, none⟩) key.cells :: .zone false h :: (s.2 ++ Rm)) (fun (s : Nat × List Fa) => D + 1 - s.1) (0, m0) ((show 0 ≤ D ∧ J (List.range 0) m0 from ⟨by omega, h0⟩)) ⟨rfl, rfl, rfl, rfl, trivial⟩ (fun _ s => s) ?_
  rintro ⟨i, mm⟩ ⟨hi, hJ⟩
  dsimp only at hi hJ ⊢
  refine h_seq ?_
  refine h_seq ?_
  refine h_reg ?_
  refine h_op (r_move rfl) ?_
  refine h_op (r_move rfl) ?_
  refine h_op (r_loadc rfl) ?_
  refine h_yield (hy _ _ _ _ (range_cut (m := D + 1) (i := i) (by omega)) hJ) hRm rfl rfl fun m' hJ' => ?_
  rw [← List.range_succ] at hJ'
  by_cases hk : (wayK key t i).kind = 2
  · have hiD : i < D := by
      rcases Nat.lt_or_ge i D with h1 | h1
      · exact h1
      · obtain rfl : i = D := by omega
        exact (hD.end_ hk).elim
    refine h_op (r_move rfl) ?_
    refine h_op (r_loadc rfl) ?_
    refine h_call ((Kind_s n h (wayK key t i) (wayQ h key p i)).comes) rfl rfl rfl fun _ => ?_
    refine h_op (r_bool (r_eql rfl rfl) (decide_eq_true (by omega))) ?_
    refine h_op (r_pick rfl rfl) ?_
    refine h_nil ?_
    refine q_then ?_
    refine h_condT rfl ?_
    refine h_skip ?_
    refine q_then ?_
    refine h_seq ?_
    refine h_block ?_
    refine ha_start [.blk g1 [.pointer (wayQ h key p i)] 24, .rd (some ⟨g2, 0, none⟩) key.cells] [] mixed (same) ?_
    refine ha_take 0 rfl (r_loadc rfl) ?_
    refine ha_take 1 rfl (r_loadr rfl) ?_
    refine ha_takeP 2 rfl (r_move rfl) ?_
    refine ha_one 3 ?_
    refine ho_C 3 rfl ((Bit_s key i (by omega)).comes) rfl rfl rfl (fun _ => same) fun _ => ?_
    refine ha_one 4 ?_
    refine ho_C 4 rfl ((Child_s n h (wayK key t i) (wayQ h key p i) _ (bitAt key i) (bitN_zero key i)).comes) rfl rfl rfl (fun _ => same) fun _ => ?_
    refine ha_one 5 ?_
    refine ho_SL 5 rfl (s_store rfl rfl rfl) ?_
    refine q_block ?_
    refine q_then ?_
    refine h_reg ?_
    refine h_op (r_move rfl) ?_
    refine h_op (r_add rfl rfl) ?_
    refine h_op (r_assign rfl) ?_
    refine h_nil ?_
    exact h_back (i + 1, m') ((show i + 1 ≤ D ∧ J (List.range (i + 1)) m' from ⟨by omega, hJ'⟩)) ((show D + 1 - (i + 1) < D + 1 - i by omega)) ⟨rfl, rfl, rfl, rfl, trivial⟩ (fun _ s => s)
  · have hiD : i = D := by
      rcases Nat.lt_or_ge i D with h1 | h1
      · exact (hk (hD.on i h1)).elim
      · omega
    subst hiD
    refine h_op (r_move rfl) ?_
    refine h_op (r_loadc rfl) ?_
    refine h_call ((Kind_s n h (wayK key t i) (wayQ h key p i)).comes) rfl rfl rfl fun _ => ?_
    refine h_op (r_bool (r_eql rfl rfl) (decide_eq_false (by omega))) ?_
    refine h_op (r_pick rfl rfl) ?_
    refine h_nil ?_
    refine q_then ?_
    refine h_condF rfl ?_
    refine h_exit ?_
    refine q_thenE ?_
    refine q_thenE ?_
    refine q_blockE ?_
    refine h_end ?_
    exact h_ret0 rfl fun w s => ⟨_, m', rfl, hJ', s.res ((((List.sublist_append_left _ _).cons _).cons _).cons_cons _) (by
      intro f hf
      rcases List.mem_cons.1 hf with rfl | hf
      · rfl
      · exact hJw _ _ hJ' f hf)⟩
end Go.Proofs.YtgfkbeipckbkiaaGreatDoor
