/- errors.As at the errors of this program; fault.Code, First; verify.Check; errors.As at the errors of this program; fault.Code, First; The condition of two laid variables (the table of rounds, errors.errorType's handle); arguments that are claims, pairs of byte slices, roots with proofs, opened; Multiproofs: the subtrees that items describe: plain; multi: the subtree that items begin with; Arguments that are lists of items or of keys, opened; When a proof is well-formed: plain; The reference's depths and expansion; The reference's check; The reference: parts of bytes, decoding of proofs; verify.Check, Accepts; The reference's Supports; The reference's expansion (joined texts: U94 U95 TV E14 U62 TI U26p U23 U26 U97 U96 U45r U23e) -/
import Derived.Test.YtjhocljhhpkiiaaGreatDoorR9
import Derived.LaidHandle
set_option linter.all false
/- U94 -/
namespace Go.Proofs.YtjhocljhhpkiiaaGreatDoor
open Go.RowKit Go.Extern.Stop Go.Stop Go.Extern
end Go.Proofs.YtjhocljhhpkiiaaGreatDoor
/- U95 -/
namespace Go.Proofs.YtjhocljhhpkiiaaGreatDoor
open Go.RowKit Go.Extern.Stop Go.Stop Go.Extern
end Go.Proofs.YtjhocljhhpkiiaaGreatDoor
/- TV -/
namespace Go.Proofs.YtjhocljhhpkiiaaGreatDoor
open Go.RowKit Go.ChangeShapes Go.WideShapes
section
variable {H : Type} {enc : TypeId × Value → H} {w : World} {base : Nat} {spare : Nat → Bool} {held : Bool} {v : Value} {d : DataW H} {ps : List MemPlace} {r : Reach} {b0 : Nat}
theorem c_bool : Tryz.prog.cellsOf 4 = 1 := by kernel_rfl
theorem c_Claim : Tryz.prog.cellsOf 25 = 3 := by kernel_rfl
theorem claimFields' : ∃ f1 f2 f3 : Field, Tryz.prog.underlying 25 = some (.struct #[f1, f2, f3]) ∧ f1.type = 23 ∧ f2.type = 23 ∧ f3.type = 4 ∧ f1.offset = 0 ∧ f2.offset = 1 ∧ f3.offset = 2 :=
 ⟨_, _, _, Tryz.underlying25, rfl, rfl, rfl, rfl, rfl, rfl⟩
theorem dec_bytes {fuel : Nat} {cs : List Value} {x : DataW H × List MemPlace} (h : DataW.trod enc Tryz.prog w base spare held fuel 23 cs = some x) : ∃ (s : Sl) (l : List UInt8), cs = [.slice s.A s.n s.c] ∧ SlZ (World.zh w) s l := by
 obtain ⟨l, A, c, e2, hlc, -, hA, hr, -⟩ := open_rows_t (f := fun b : UInt8 => [Value.int .u8 b.toNat]) (fun _ => rfl) Nat.one_pos Tryz.underlying23 c_u8 (fun _ => True) (fun fuel cs x h => by
  obtain ⟨n, rfl, _, hw⟩ := DataW.trod_int Tryz.underlying5 h
  have := bounds_u8 hw
  exact ⟨toByte (.int .u8 n), by rw [toByte_int this.1 this.2], trivial⟩) h
 rw [byteOf_bc] at hr
 refine ⟨⟨A, l.length, c⟩, l, e2, ⟨rfl, hlc, fun h0 => ?_, RdZ.of hr⟩⟩
 have := hA h0
 exact ⟨(show l.length = 0 by omega), this⟩
end
end Go.Proofs.YtjhocljhhpkiiaaGreatDoor
/- E14 -/
namespace Go.Proofs.YtjhocljhhpkiiaaGreatDoor
open Go.RowKit
inductive Sub where
 | one (x : Item)
 | two (l r : Sub)
def readM : Nat → List Item → Option (Sub × List Item)
 | _, [] => none
 | 0, x :: rest => if x.kind = 2 then none else some (.one x, rest)
 | d + 1, x :: rest => if x.kind = 2 then (readM d rest).bind fun p => (readM d p.2).bind fun q => some (.two p.1 q.1, q.2) else some (.one x, rest)
def kindOk (x : Item) : Bool := decide (0 ≤ x.kind) && decide (x.kind ≤ 3)
def cleanItem (x : Item) : Bool := (x.kind == 3 || decide (x.digest = zB32)) && (x.kind == 1 || decide (x.leaf = zLeaf))
def parseM (l : List Item) : Except Int Sub :=
 if l.all kindOk then
  match readM 256 l with
  | some (t, []) => if l.all cleanItem then .ok t else .error 5
  | _ => .error 5
 else .error 7
theorem all_take {α : Type} (p : α → Bool) (l : List α) (k : Nat) (x : α) (h : l[k]? = some x) : (l.take (k + 1)).all p = ((l.take k).all p && p x) := by
 rw [List.take_add_one, h, List.all_append]
 simp
def skipI (l : List Item) (r : Option (Sub × List Item)) : Int := match r with | none => -1 | some p => (l.length : Int) - p.2.length
def checkM (l : List Item) : Int := match parseM l with | .ok _ => 0 | .error c => c
end Go.Proofs.YtjhocljhhpkiiaaGreatDoor
/- U62 -/
namespace Go.Proofs.YtjhocljhhpkiiaaGreatDoor
open Go.RowKit
instance iU62_1 : TIf Tryz.prog 228 := ⟨by kernel_rfl⟩
def Sub.tag : Sub → TypeId
 | .one _ => 235
 | .two _ _ => 232
def Sub.val : Sub → Value
 | .one x => .agg x.cells.toArray
 | .two l r => .agg #[.iface l.tag l.val, .iface r.tag r.val]
def its (l : List Item) : List Value := l.flatMap Item.cells
theorem its_len (l : List Item) : (its l).length = l.length * 97 := by
 induction l with
 | nil => rfl
 | cons x l ih =>
  show (x.cells ++ its l).length = _
  rw [List.length_append, ih, Item.cells_length, List.length_cons]; omega
theorem its_cons (x : Item) (l : List Item) : its (x :: l) = x.cells ++ its l := rfl
theorem its_tail {h : Zh} {A : Option Addr} {x : Item} {l : List Item} {c : Nat} (hr : RdZ h A (its (x :: l))) (hc : l.length + 1 ≤ c) : RdZ h (cutA A c 1 97) (its l) := by
 rw [its_cons] at hr
 unfold cutA
 split
 ·have : l = [] := List.eq_nil_of_length_eq_zero (by omega)
  rw [this]
  exact RdZ.nil _ _
 ·refine ⟨fun j v hv => ?_⟩
  have h1 := hr.at_ (97 + j) v (by rw [List.getElem?_append_right (by rw [Item.cells_length]; omega), Item.cells_length, Nat.add_sub_cancel_left]; exact hv)
  obtain ⟨b, o, rfl, h2⟩ := h1
  exact ⟨b, o + 97, by simp [Addr.add_mid], by rw [Nat.add_assoc]; exact h2⟩
section
variable (h : Zh)
theorem read_nil (A : Option Addr) (c : Nat) (i : Int) : Spec Tryz.prog 194 [.slice A 0 c, .int .i64 i].toArray [.zone false h] [] (fun _ : Unit => .tuple #[.nilIface, .slice none 0 0]) (fun _ => []) := by
 refine spec_of Tryz.func194 rfl (n := 47) rfl rfl ?_
 intro W
 refine yR ?_
 refine yS rfl ?_
 refine yS rfl ?_
 refine yN ?_
 refine h_seq ?_
 refine yR ?_
 refine yM rfl ?_
 refine h_op (r_len rfl) ?_
 refine h_op (r_bool (r_eql rfl rfl) (show _ = true from rfl)) ?_
 refine yN ?_
 refine h_condT rfl ?_
 refine yR ?_
 refine yS rfl ?_
 refine yS rfl ?_
 refine yN ?_
 refine h_ret ?_
 refine q_thenR ?_
 exact h_ret2 rfl rfl rfl fun w s => ⟨(), rfl, s.res (List.nil_sublist _) (by simp)⟩
theorem read_one (x : Item) (r : List Item) (hk : x.kind ≠ 2) (A : Option Addr) (c : Nat) (i : Int) [hr : RdZ h A (its (x :: r))] (hc : r.length + 1 ≤ c) : Spec Tryz.prog 194 [.slice A (r.length + 1) c, .int .i64 i].toArray [.zone false h] [] (fun _ : Unit => .tuple #[.iface (Sub.one x).tag (Sub.one x).val, .slice (cutA A c 1 97) r.length (c - 1)]) (fun _ => []) := by
 have h0 : 0 < (its (x :: r)).length := by rw [its_len, List.length_cons]; omega
 obtain ⟨b, o, rfl, -⟩ := hr.at_ 0 _ (List.getElem?_eq_getElem h0)
 have hx : ∀ j v, x.cells[j]? = some v → (its (x :: r))[0 + j]? = some v := fun j v hv => by rw [its_cons, Nat.zero_add, List.getElem?_append_left (List.getElem?_eq_some_iff.1 hv).1]; exact hv
 refine spec_of Tryz.func194 rfl (n := 47) rfl rfl ?_
 intro W
 refine yR ?_
 refine yS rfl ?_
 refine yS rfl ?_
 refine yN ?_
 refine h_seq ?_
 refine yR ?_
 refine yM rfl ?_
 refine h_op (r_len rfl) ?_
 refine h_op (r_bool (r_eql rfl rfl) (decide_eq_false (by omega))) ?_
 refine yN ?_
 refine h_condF rfl ?_
 refine h_skip ?_
 refine q_then ?_
 refine h_seq ?_
 refine ha_start [.zone false h] [] mixed (same) ?_
 refine ha_takeP 0 rfl (r_move rfl) ?_
 refine ha_takeP 1 rfl (r_idx rfl rfl) ?_
 refine ha_take 2 rfl (r_nthr rfl (out := x.cells) (Item.cells_length x) hx) ?_
 refine ha_takeP 3 rfl (r_move rfl) ?_
 refine ha_takeP 4 rfl (r_as (r_slL rfl rfl) (show _ = Value.slice (cutA (some ⟨b, o, none⟩) c 1 97) r.length (c - 1) by rw [Nat.add_sub_cancel])) ?_
 refine ha_one 5 ?_
 refine ho_X 5 rfl (rk (x_alloc)) (fun _ => same) fun g6 => ?_
 refine ha_one 6 ?_
 refine ho_S 6 rfl (s_storer rfl rfl) (same) ?_
 refine ha_takeP 7 rfl (r_assign rfl) ?_
 refine ha_done (by kernel_rfl) ?_
 refine q_then ?_
 refine h_seq ?_
 refine yR ?_
 refine h_op (r_field rfl) ?_
 refine h_op (r_loadc rfl) ?_
 refine h_op (r_bool (r_neq rfl rfl) (decide_eq_true hk)) ?_
 refine yN ?_
 refine h_condT rfl ?_
 refine yR ?_
 refine h_op (r_loadr rfl) ?_
 refine h_op (r_build rfl) ?_
 refine h_op (r_mkI rfl) ?_
 refine yM rfl ?_
 refine yS rfl ?_
 refine yS rfl ?_
 refine yN ?_
 refine h_ret ?_
 refine q_thenR ?_
 exact h_ret2 rfl rfl rfl fun w s => ⟨(), rfl, s.res (List.nil_sublist _) (by simp)⟩
theorem read_deep (x : Item) (r : List Item) (hk : x.kind = 2) (A : Option Addr) (c : Nat) (i : Int) (hi : 256 ≤ i) [hr : RdZ h A (its (x :: r))] (hc : r.length + 1 ≤ c) : Spec Tryz.prog 194 [.slice A (r.length + 1) c, .int .i64 i].toArray [.zone false h] [] (fun _ : Unit => .tuple #[.nilIface, .slice none 0 0]) (fun _ => []) := by
 have h0 : 0 < (its (x :: r)).length := by rw [its_len, List.length_cons]; omega
 obtain ⟨b, o, rfl, -⟩ := hr.at_ 0 _ (List.getElem?_eq_getElem h0)
 have hx : ∀ j v, x.cells[j]? = some v → (its (x :: r))[0 + j]? = some v := fun j v hv => by rw [its_cons, Nat.zero_add, List.getElem?_append_left (List.getElem?_eq_some_iff.1 hv).1]; exact hv
 refine spec_of Tryz.func194 rfl (n := 47) rfl rfl ?_
 intro W
 refine yR ?_
 refine yS rfl ?_
 refine yS rfl ?_
 refine yN ?_
 refine h_seq ?_
 refine yR ?_
 refine yM rfl ?_
 refine h_op (r_len rfl) ?_
 refine h_op (r_bool (r_eql rfl rfl) (decide_eq_false (by omega))) ?_
 refine yN ?_
 refine h_condF rfl ?_
 refine h_skip ?_
 refine q_then ?_
 refine h_seq ?_
 refine ha_start [.zone false h] [] mixed (same) ?_
 refine ha_takeP 0 rfl (r_move rfl) ?_
 refine ha_takeP 1 rfl (r_idx rfl rfl) ?_
 refine ha_take 2 rfl (r_nthr rfl (out := x.cells) (Item.cells_length x) hx) ?_
 refine ha_takeP 3 rfl (r_move rfl) ?_
 refine ha_takeP 4 rfl (r_as (r_slL rfl rfl) (show _ = Value.slice (cutA (some ⟨b, o, none⟩) c 1 97) r.length (c - 1) by rw [Nat.add_sub_cancel])) ?_
 refine ha_one 5 ?_
 refine ho_X 5 rfl (rk (x_alloc)) (fun _ => same) fun g6 => ?_
 refine ha_one 6 ?_
 refine ho_S 6 rfl (s_storer rfl rfl) (same) ?_
 refine ha_takeP 7 rfl (r_assign rfl) ?_
 refine ha_done (by kernel_rfl) ?_
 refine q_then ?_
 refine h_seq ?_
 refine yR ?_
 refine h_op (r_field rfl) ?_
 refine h_op (r_loadc rfl) ?_
 refine h_op (r_bool (r_neq rfl rfl) (decide_eq_false (fun h => h hk))) ?_
 refine yN ?_
 refine h_condF rfl ?_
 refine h_skip ?_
 refine q_then ?_
 refine h_seq ?_
 refine yR ?_
 refine yM rfl ?_
 refine h_op (r_bool (r_geq rfl rfl) (decide_eq_true (by omega))) ?_
 refine yN ?_
 refine h_condT rfl ?_
 refine yR ?_
 refine yS rfl ?_
 refine yS rfl ?_
 refine yN ?_
 refine h_ret ?_
 refine q_thenR ?_
 exact h_ret2 rfl rfl rfl fun w s => ⟨(), rfl, s.res (List.nil_sublist _) (by simp)⟩
def ReadS (d : Nat) (l : List Item) : Prop := ∀ (A : Option Addr) (c : Nat), RdZ h A (its l) → l.length ≤ c →
 match readM d l with
 | none => Spec Tryz.prog 194 [.slice A l.length c, .int .i64 (256 - (d : Int))].toArray [.zone false h] [] (fun _ : Unit => .tuple #[.nilIface, .slice none 0 0]) (fun _ => [])
 | some (t, r) => Spec Tryz.prog 194 [.slice A l.length c, .int .i64 (256 - (d : Int))].toArray [.zone false h] [] (fun y : {y : Option Addr × Nat // RdZ h y.1 (its r) ∧ r.length ≤ y.2} => .tuple #[.iface t.tag t.val, .slice y.1.1 r.length y.1.2]) (fun _ => [])
theorem read_no1 (x : Item) (r : List Item) (hk : x.kind = 2) (d : Nat) (hd : d < 256) (h1 : readM d r = none) (hS : ReadS h d r) (A : Option Addr) (c : Nat) [hr : RdZ h A (its (x :: r))] (hc : r.length + 1 ≤ c) : Spec Tryz.prog 194 [.slice A (r.length + 1) c, .int .i64 (256 - ((d + 1 : Nat) : Int))].toArray [.zone false h] [] (fun _ : Unit => .tuple #[.nilIface, .slice none 0 0]) (fun _ => []) := by
 have h0 : 0 < (its (x :: r)).length := by rw [its_len, List.length_cons]; omega
 have hT := hS _ _ (its_tail hr hc) (show r.length ≤ c - 1 by omega)
 rw [h1] at hT
 obtain ⟨b, o, rfl, -⟩ := hr.at_ 0 _ (List.getElem?_eq_getElem h0)
 have hx : ∀ j v, x.cells[j]? = some v → (its (x :: r))[0 + j]? = some v := fun j v hv => by rw [its_cons, Nat.zero_add, List.getElem?_append_left (List.getElem?_eq_some_iff.1 hv).1]; exact hv
 refine spec_of Tryz.func194 rfl (n := 47) rfl rfl ?_
 intro W
 refine yR ?_
 refine yS rfl ?_
 refine yS rfl ?_
 refine yN ?_
 refine h_seq ?_
 refine yR ?_
 refine yM rfl ?_
 refine h_op (r_len rfl) ?_
 refine h_op (r_bool (r_eql rfl rfl) (decide_eq_false (by omega))) ?_
 refine yN ?_
 refine h_condF rfl ?_
 refine h_skip ?_
 refine q_then ?_
 refine h_seq ?_
 refine ha_start [.zone false h] [] mixed (same) ?_
 refine ha_takeP 0 rfl (r_move rfl) ?_
 refine ha_takeP 1 rfl (r_idx rfl rfl) ?_
 refine ha_take 2 rfl (r_nthr rfl (out := x.cells) (Item.cells_length x) hx) ?_
 refine ha_takeP 3 rfl (r_move rfl) ?_
 refine ha_takeP 4 rfl (r_as (r_slL rfl rfl) (show _ = Value.slice (cutA (some ⟨b, o, none⟩) c 1 97) r.length (c - 1) by rw [Nat.add_sub_cancel])) ?_
 refine ha_one 5 ?_
 refine ho_X 5 rfl (rk (x_alloc)) (fun _ => same) fun g6 => ?_
 refine ha_one 6 ?_
 refine ho_S 6 rfl (s_storer rfl rfl) (same) ?_
 refine ha_takeP 7 rfl (r_assign rfl) ?_
 refine ha_done (by kernel_rfl) ?_
 refine q_then ?_
 refine h_seq ?_
 refine yR ?_
 refine h_op (r_field rfl) ?_
 refine h_op (r_loadc rfl) ?_
 refine h_op (r_bool (r_neq rfl rfl) (decide_eq_false (fun h => h hk))) ?_
 refine yN ?_
 refine h_condF rfl ?_
 refine h_skip ?_
 refine q_then ?_
 refine h_seq ?_
 refine yR ?_
 refine yM rfl ?_
 refine h_op (r_bool (r_geq rfl rfl) (decide_eq_false (by omega))) ?_
 refine yN ?_
 refine h_condF rfl ?_
 refine h_skip ?_
 refine q_then ?_
 refine yR ?_
 refine h_opX (x_alloc) fun g8 => ?_
 refine yN ?_
 refine h_seq ?_
 refine yR ?_
 refine yM rfl ?_
 refine yN ?_
 refine h_block ?_
 refine h_loop (fun (u : Unit) => True) (fun (u : Unit) => [(27, .int .i64 0), (8, .pointer (some ⟨g8, 0, none⟩)), (7, .slice (cutA (some ⟨b, o, none⟩) c 1 97) r.length (c - 1)), (1, .int .i64 (256 - ((d + 1 : Nat) : Int)))]) (fun (u : Unit) => [.blk g8 [.nilIface, .nilIface] 232, .zone false h]) (fun (u : Unit) => 0) () (trivial) ⟨rfl, rfl, rfl, rfl, trivial⟩ (same) ?_
 rintro ⟨⟩ -
 refine yR ?_
 refine h_op (r_lss rfl rfl) ?_
 refine yN ?_
 refine h_seq ?_
 refine h_condT rfl ?_
 refine h_skip ?_
 refine q_then ?_
 refine h_seq ?_
 refine h_block ?_
 refine yR ?_
 refine yM rfl ?_
 refine yS rfl ?_
 refine yN ?_
 refine yR ?_
 refine yM rfl ?_
 refine yM rfl ?_
 refine yM rfl ?_
 refine h_op (r_int (r_add rfl rfl) (show _ = 256 - (d : Int) by omega)) ?_
 refine h_call (hT.comes) rfl rfl rfl fun _ => ?_
 refine yM rfl ?_
 refine h_op (r_extract rfl rfl) ?_
 refine h_op (r_extract rfl rfl) ?_
 refine h_op (r_idxA rfl rfl) ?_
 refine h_opS (s_store rfl rfl rfl) ?_
 refine yS rfl ?_
 refine yN ?_
 refine yR ?_
 refine yM rfl ?_
 refine h_op (r_idxA rfl rfl) ?_
 refine h_op (r_loadc rfl) ?_
 refine h_op (r_nilnil rfl) ?_
 refine yN ?_
 refine h_condT rfl ?_
 refine yR ?_
 refine yS rfl ?_
 refine yS rfl ?_
 refine yN ?_
 refine h_ret ?_
 refine q_blockR ?_
 refine q_thenR ?_
 refine q_thenR ?_
 refine q_blockR ?_
 refine q_thenR ?_
 exact h_ret2 rfl rfl rfl fun w s => ⟨(), rfl, s.res (List.nil_sublist _) (by simp)⟩
theorem read_no2 (x : Item) (r r1 : List Item) (t1 : Sub) (hk : x.kind = 2) (d : Nat) (hd : d < 256) (h1 : readM d r = some (t1, r1)) (h2 : readM d r1 = none) (hS : ReadS h d r) (hS1 : ReadS h d r1) (A : Option Addr) (c : Nat) [hr : RdZ h A (its (x :: r))] (hc : r.length + 1 ≤ c) : Spec Tryz.prog 194 [.slice A (r.length + 1) c, .int .i64 (256 - ((d + 1 : Nat) : Int))].toArray [.zone false h] [] (fun _ : Unit => .tuple #[.nilIface, .slice none 0 0]) (fun _ => []) := by
 have hT2 : ∀ A c, RdZ h A (its r1) → r1.length ≤ c → Spec Tryz.prog 194 [.slice A r1.length c, .int .i64 (256 - (d : Int))].toArray [.zone false h] [] (fun _ : Unit => .tuple #[.nilIface, .slice none 0 0]) (fun _ => []) := fun A c a b => by
  have := hS1 A c a b
  rw [h2] at this
  exact this
 have h0 : 0 < (its (x :: r)).length := by rw [its_len, List.length_cons]; omega
 have hz0 := its_tail hr hc
 have hT1 : ∀ A c, RdZ h A (its r) → r.length ≤ c → Spec Tryz.prog 194 [.slice A r.length c, .int .i64 (256 - (d : Int))].toArray [.zone false h] [] (fun y : {y : Option Addr × Nat // RdZ h y.1 (its r1) ∧ r1.length ≤ y.2} => .tuple #[.iface t1.tag t1.val, .slice y.1.1 r1.length y.1.2]) (fun _ => []) := fun A c a b => by
  have := hS A c a b
  rw [h1] at this
  exact this
 obtain ⟨b, o, rfl, -⟩ := hr.at_ 0 _ (List.getElem?_eq_getElem h0)
 have hx : ∀ j v, x.cells[j]? = some v → (its (x :: r))[0 + j]? = some v := fun j v hv => by rw [its_cons, Nat.zero_add, List.getElem?_append_left (List.getElem?_eq_some_iff.1 hv).1]; exact hv
 refine spec_of Tryz.func194 rfl (n := 47) rfl rfl ?_
 intro W
 refine yR ?_
 refine yS rfl ?_
 refine yS rfl ?_
 refine yN ?_
 refine h_seq ?_
 refine yR ?_
 refine yM rfl ?_
 refine h_op (r_len rfl) ?_
 refine h_op (r_bool (r_eql rfl rfl) (decide_eq_false (by omega))) ?_
 refine yN ?_
 refine h_condF rfl ?_
 refine h_skip ?_
 refine q_then ?_
 refine h_seq ?_
 refine ha_start [.zone false h] [] mixed (same) ?_
 refine ha_takeP 0 rfl (r_move rfl) ?_
 refine ha_takeP 1 rfl (r_idx rfl rfl) ?_
 refine ha_take 2 rfl (r_nthr rfl (out := x.cells) (Item.cells_length x) hx) ?_
 refine ha_takeP 3 rfl (r_move rfl) ?_
 refine ha_takeP 4 rfl (r_as (r_slL rfl rfl) (show _ = Value.slice (cutA (some ⟨b, o, none⟩) c 1 97) r.length (c - 1) by rw [Nat.add_sub_cancel])) ?_
 refine ha_one 5 ?_
 refine ho_X 5 rfl (rk (x_alloc)) (fun _ => same) fun g6 => ?_
 refine ha_one 6 ?_
 refine ho_S 6 rfl (s_storer rfl rfl) (same) ?_
 refine ha_takeP 7 rfl (r_assign rfl) ?_
 refine ha_done (by kernel_rfl) ?_
 refine q_then ?_
 refine h_seq ?_
 refine yR ?_
 refine h_op (r_field rfl) ?_
 refine h_op (r_loadc rfl) ?_
 refine h_op (r_bool (r_neq rfl rfl) (decide_eq_false (fun h => h hk))) ?_
 refine yN ?_
 refine h_condF rfl ?_
 refine h_skip ?_
 refine q_then ?_
 refine h_seq ?_
 refine yR ?_
 refine yM rfl ?_
 refine h_op (r_bool (r_geq rfl rfl) (decide_eq_false (by omega))) ?_
 refine yN ?_
 refine h_condF rfl ?_
 refine h_skip ?_
 refine q_then ?_
 refine yR ?_
 refine h_opX (x_alloc) fun g8 => ?_
 refine yN ?_
 refine h_seq ?_
 refine yR ?_
 refine yM rfl ?_
 refine yN ?_
 refine h_block ?_
 refine h_loop (fun (s : Nat × Value × List Item × Option Addr × Nat) => (s.1 = 0 ∧ s.2.1 = .nilIface ∧ s.2.2.1 = r ∧ RdZ h s.2.2.2.1 (its r) ∧ r.length ≤ s.2.2.2.2) ∨ (s.1 = 1 ∧ s.2.1 = .iface t1.tag t1.val ∧ s.2.2.1 = r1 ∧ RdZ h s.2.2.2.1 (its r1) ∧ r1.length ≤ s.2.2.2.2)) (fun (s : Nat × Value × List Item × Option Addr × Nat) => [(27, .int .i64 (s.1 : Int)), (8, .pointer (some ⟨g8, 0, none⟩)), (7, .slice s.2.2.2.1 s.2.2.1.length s.2.2.2.2), (1, .int .i64 (256 - ((d + 1 : Nat) : Int)))]) (fun (s : Nat × Value × List Item × Option Addr × Nat) => [.blk g8 [s.2.1, .nilIface] 232, .zone false h]) (fun (s : Nat × Value × List Item × Option Addr × Nat) => 2 - s.1) (0, .nilIface, r, cutA (some ⟨b, o, none⟩) c 1 97, c - 1) ((.inl ⟨rfl, rfl, rfl, hz0, (show r.length ≤ c - 1 by omega)⟩)) ⟨rfl, rfl, rfl, rfl, trivial⟩ (same) ?_
 rintro ⟨i, v1, l, Ar, cr⟩ hp
 dsimp only at hp ⊢
 rcases hp with ⟨rfl, rfl, rfl, hz, hcr⟩ | ⟨rfl, rfl, rfl, hz, hcr⟩
 ·refine h_seq ?_
  refine h_reg ?_
  refine h_op (r_lss rfl rfl) ?_
  refine yN ?_
  refine h_seq ?_
  refine h_condT rfl ?_
  refine h_skip ?_
  refine q_then ?_
  refine h_seq ?_
  refine h_block ?_
  refine yR ?_
  refine yM rfl ?_
  refine yS rfl ?_
  refine yN ?_
  refine yR ?_
  refine yM rfl ?_
  refine yM rfl ?_
  refine yM rfl ?_
  refine h_op (r_int (r_add rfl rfl) (show _ = 256 - (d : Int) by omega)) ?_
  refine h_call ((hT1 Ar cr hz hcr).comes) rfl rfl rfl fun ⟨⟨A1, c1⟩, hz1, hc1⟩ => ?_
  dsimp only at hz1 hc1 ⊢
  refine yM rfl ?_
  refine h_op (r_extract rfl rfl) ?_
  refine h_op (r_extract rfl rfl) ?_
  refine h_op (r_idxA rfl rfl) ?_
  refine h_opS (s_store rfl rfl rfl) ?_
  refine yS rfl ?_
  refine yN ?_
  refine yR ?_
  refine yM rfl ?_
  refine h_op (r_idxA rfl rfl) ?_
  refine h_op (r_loadc rfl) ?_
  refine h_op (r_ifnil rfl) ?_
  refine yN ?_
  refine h_condF rfl ?_
  refine h_skip ?_
  refine q_block ?_
  refine q_then ?_
  refine h_reg ?_
  refine h_op (r_add rfl rfl) ?_
  refine yM rfl ?_
  refine h_nil ?_
  exact h_back (1, .iface t1.tag t1.val, r1, A1, c1) ((.inr ⟨rfl, rfl, rfl, hz1, hc1⟩)) ((show 2 - 1 < 2 - 0 by omega)) ⟨rfl, rfl, rfl, rfl, trivial⟩ (same)
 ·refine h_seq ?_
  refine h_reg ?_
  refine h_op (r_lss rfl rfl) ?_
  refine yN ?_
  refine h_seq ?_
  refine h_condT rfl ?_
  refine h_skip ?_
  refine q_then ?_
  refine h_seq ?_
  refine h_block ?_
  refine yR ?_
  refine yM rfl ?_
  refine yS rfl ?_
  refine yN ?_
  refine yR ?_
  refine yM rfl ?_
  refine yM rfl ?_
  refine yM rfl ?_
  refine h_op (r_int (r_add rfl rfl) (show _ = 256 - (d : Int) by omega)) ?_
  refine h_call ((hT2 Ar cr hz hcr).comes) rfl rfl rfl fun _ => ?_
  refine yM rfl ?_
  refine h_op (r_extract rfl rfl) ?_
  refine h_op (r_extract rfl rfl) ?_
  refine h_op (r_idxA rfl rfl) ?_
  refine h_opS (s_store rfl rfl rfl) ?_
  refine yS rfl ?_
  refine yN ?_
  refine yR ?_
  refine yM rfl ?_
  refine h_op (r_idxA rfl rfl) ?_
  refine h_op (r_loadc rfl) ?_
  refine h_op (r_nilnil rfl) ?_
  refine yN ?_
  refine h_condT rfl ?_
  refine yR ?_
  refine yS rfl ?_
  refine yS rfl ?_
  refine yN ?_
  refine h_ret ?_
  refine q_blockR ?_
  refine q_thenR ?_
  refine q_thenR ?_
  refine q_blockR ?_
  refine q_thenR ?_
  exact h_ret2 rfl rfl rfl fun w s => ⟨(), rfl, s.res (List.nil_sublist _) (by simp)⟩
theorem read_yes2 (x : Item) (r r1 r2 : List Item) (t1 t2 : Sub) (hk : x.kind = 2) (d : Nat) (hd : d < 256) (h1 : readM d r = some (t1, r1)) (h2 : readM d r1 = some (t2, r2)) (hS : ReadS h d r) (hS1 : ReadS h d r1) (A : Option Addr) (c : Nat) [hr : RdZ h A (its (x :: r))] (hc : r.length + 1 ≤ c) : Spec Tryz.prog 194 [.slice A (r.length + 1) c, .int .i64 (256 - ((d + 1 : Nat) : Int))].toArray [.zone false h] [] (fun y : {y : Option Addr × Nat // RdZ h y.1 (its r2) ∧ r2.length ≤ y.2} => .tuple #[.iface (Sub.two t1 t2).tag (Sub.two t1 t2).val, .slice y.1.1 r2.length y.1.2]) (fun _ => []) := by
 have hT2 : ∀ A c, RdZ h A (its r1) → r1.length ≤ c → Spec Tryz.prog 194 [.slice A r1.length c, .int .i64 (256 - (d : Int))].toArray [.zone false h] [] (fun y : {y : Option Addr × Nat // RdZ h y.1 (its r2) ∧ r2.length ≤ y.2} => .tuple #[.iface t2.tag t2.val, .slice y.1.1 r2.length y.1.2]) (fun _ => []) := fun A c a b => by
  have := hS1 A c a b
  rw [h2] at this
  exact this
 have h0 : 0 < (its (x :: r)).length := by rw [its_len, List.length_cons]; omega
 have hz0 := its_tail hr hc
 have hT1 : ∀ A c, RdZ h A (its r) → r.length ≤ c → Spec Tryz.prog 194 [.slice A r.length c, .int .i64 (256 - (d : Int))].toArray [.zone false h] [] (fun y : {y : Option Addr × Nat // RdZ h y.1 (its r1) ∧ r1.length ≤ y.2} => .tuple #[.iface t1.tag t1.val, .slice y.1.1 r1.length y.1.2]) (fun _ => []) := fun A c a b => by
  have := hS A c a b
  rw [h1] at this
  exact this
 obtain ⟨b, o, rfl, -⟩ := hr.at_ 0 _ (List.getElem?_eq_getElem h0)
 have hx : ∀ j v, x.cells[j]? = some v → (its (x :: r))[0 + j]? = some v := fun j v hv => by rw [its_cons, Nat.zero_add, List.getElem?_append_left (List.getElem?_eq_some_iff.1 hv).1]; exact hv
 refine spec_of Tryz.func194 rfl (n := 47) rfl rfl ?_
 intro W
 refine yR ?_
 refine yS rfl ?_
 refine yS rfl ?_
 refine yN ?_
 refine h_seq ?_
 refine yR ?_
 refine yM rfl ?_
 refine h_op (r_len rfl) ?_
 refine h_op (r_bool (r_eql rfl rfl) (decide_eq_false (by omega))) ?_
 refine yN ?_
 refine h_condF rfl ?_
 refine h_skip ?_
 refine q_then ?_
 refine h_seq ?_
 refine ha_start [.zone false h] [] mixed (same) ?_
 refine ha_takeP 0 rfl (r_move rfl) ?_
 refine ha_takeP 1 rfl (r_idx rfl rfl) ?_
 refine ha_take 2 rfl (r_nthr rfl (out := x.cells) (Item.cells_length x) hx) ?_
 refine ha_takeP 3 rfl (r_move rfl) ?_
 refine ha_takeP 4 rfl (r_as (r_slL rfl rfl) (show _ = Value.slice (cutA (some ⟨b, o, none⟩) c 1 97) r.length (c - 1) by rw [Nat.add_sub_cancel])) ?_
 refine ha_one 5 ?_
 refine ho_X 5 rfl (rk (x_alloc)) (fun _ => same) fun g6 => ?_
 refine ha_one 6 ?_
 refine ho_S 6 rfl (s_storer rfl rfl) (same) ?_
 refine ha_takeP 7 rfl (r_assign rfl) ?_
 refine ha_done (by kernel_rfl) ?_
 refine q_then ?_
 refine h_seq ?_
 refine yR ?_
 refine h_op (r_field rfl) ?_
 refine h_op (r_loadc rfl) ?_
 refine h_op (r_bool (r_neq rfl rfl) (decide_eq_false (fun h => h hk))) ?_
 refine yN ?_
 refine h_condF rfl ?_
 refine h_skip ?_
 refine q_then ?_
 refine h_seq ?_
 refine yR ?_
 refine yM rfl ?_
 refine h_op (r_bool (r_geq rfl rfl) (decide_eq_false (by omega))) ?_
 refine yN ?_
 refine h_condF rfl ?_
 refine h_skip ?_
 refine q_then ?_
 refine yR ?_
 refine h_opX (x_alloc) fun g8 => ?_
 refine yN ?_
 refine h_seq ?_
 refine yR ?_
 refine yM rfl ?_
 refine yN ?_
 refine h_block ?_
 refine h_loop (fun (s : Nat × (Value × Value) × List Item × Option Addr × Nat) => (s.1 = 0 ∧ s.2.1 = (.nilIface, .nilIface) ∧ s.2.2.1 = r ∧ RdZ h s.2.2.2.1 (its r) ∧ r.length ≤ s.2.2.2.2) ∨ (s.1 = 1 ∧ s.2.1 = (.iface t1.tag t1.val, .nilIface) ∧ s.2.2.1 = r1 ∧ RdZ h s.2.2.2.1 (its r1) ∧ r1.length ≤ s.2.2.2.2) ∨ (s.1 = 2 ∧ s.2.1 = (.iface t1.tag t1.val, .iface t2.tag t2.val) ∧ s.2.2.1 = r2 ∧ RdZ h s.2.2.2.1 (its r2) ∧ r2.length ≤ s.2.2.2.2)) (fun (s : Nat × (Value × Value) × List Item × Option Addr × Nat) => [(27, .int .i64 (s.1 : Int)), (8, .pointer (some ⟨g8, 0, none⟩)), (7, .slice s.2.2.2.1 s.2.2.1.length s.2.2.2.2), (1, .int .i64 (256 - ((d + 1 : Nat) : Int)))]) (fun (s : Nat × (Value × Value) × List Item × Option Addr × Nat) => [.blk g8 [s.2.1.1, s.2.1.2] 232, .zone false h]) (fun (s : Nat × (Value × Value) × List Item × Option Addr × Nat) => 2 - s.1) (0, (.nilIface, .nilIface), r, cutA (some ⟨b, o, none⟩) c 1 97, c - 1) ((.inl ⟨rfl, rfl, rfl, hz0, (show r.length ≤ c - 1 by omega)⟩)) ⟨rfl, rfl, rfl, rfl, trivial⟩ (same) ?_
 rintro ⟨i, v1, l, Ar, cr⟩ hp
 dsimp only at hp ⊢
 rcases hp with ⟨rfl, rfl, rfl, hz, hcr⟩ | ⟨rfl, rfl, rfl, hz, hcr⟩ | ⟨rfl, rfl, rfl, hz, hcr⟩
 ·refine h_seq ?_
  refine h_reg ?_
  refine h_op (r_lss rfl rfl) ?_
  refine yN ?_
  refine h_seq ?_
  refine h_condT rfl ?_
  refine h_skip ?_
  refine q_then ?_
  refine h_seq ?_
  refine h_block ?_
  refine yR ?_
  refine yM rfl ?_
  refine yS rfl ?_
  refine yN ?_
  refine yR ?_
  refine yM rfl ?_
  refine yM rfl ?_
  refine yM rfl ?_
  refine h_op (r_int (r_add rfl rfl) (show _ = 256 - (d : Int) by omega)) ?_
  refine h_call ((hT1 Ar cr hz hcr).comes) rfl rfl rfl fun ⟨⟨A1, c1⟩, hz1, hc1⟩ => ?_
  dsimp only at hz1 hc1 ⊢
  refine yM rfl ?_
  refine h_op (r_extract rfl rfl) ?_
  refine h_op (r_extract rfl rfl) ?_
  refine h_op (r_idxA rfl rfl) ?_
  refine h_opS (s_store rfl rfl rfl) ?_
  refine yS rfl ?_
  refine yN ?_
  refine yR ?_
  refine yM rfl ?_
  refine h_op (r_idxA rfl rfl) ?_
  refine h_op (r_loadc rfl) ?_
  refine h_op (r_ifnil rfl) ?_
  refine yN ?_
  refine h_condF rfl ?_
  refine h_skip ?_
  refine q_block ?_
  refine q_then ?_
  refine h_reg ?_
  refine h_op (r_add rfl rfl) ?_
  refine yM rfl ?_
  refine h_nil ?_
  exact h_back (1, (.iface t1.tag t1.val, .nilIface), r1, A1, c1) ((.inr (.inl ⟨rfl, rfl, rfl, hz1, hc1⟩))) ((show 2 - 1 < 2 - 0 by omega)) ⟨rfl, rfl, rfl, rfl, trivial⟩ (same)
 ·refine h_seq ?_
  refine h_reg ?_
  refine h_op (r_lss rfl rfl) ?_
  refine yN ?_
  refine h_seq ?_
  refine h_condT rfl ?_
  refine h_skip ?_
  refine q_then ?_
  refine h_seq ?_
  refine h_block ?_
  refine yR ?_
  refine yM rfl ?_
  refine yS rfl ?_
  refine yN ?_
  refine yR ?_
  refine yM rfl ?_
  refine yM rfl ?_
  refine yM rfl ?_
  refine h_op (r_int (r_add rfl rfl) (show _ = 256 - (d : Int) by omega)) ?_
  refine h_call ((hT2 Ar cr hz hcr).comes) rfl rfl rfl fun ⟨⟨A1, c1⟩, hz1, hc1⟩ => ?_
  dsimp only at hz1 hc1 ⊢
  refine yM rfl ?_
  refine h_op (r_extract rfl rfl) ?_
  refine h_op (r_extract rfl rfl) ?_
  refine h_op (r_idxA rfl rfl) ?_
  refine h_opS (s_store rfl rfl rfl) ?_
  refine yS rfl ?_
  refine yN ?_
  refine yR ?_
  refine yM rfl ?_
  refine h_op (r_idxA rfl rfl) ?_
  refine h_op (r_loadc rfl) ?_
  refine h_op (r_ifnil rfl) ?_
  refine yN ?_
  refine h_condF rfl ?_
  refine h_skip ?_
  refine q_block ?_
  refine q_then ?_
  refine h_reg ?_
  refine h_op (r_add rfl rfl) ?_
  refine yM rfl ?_
  refine h_nil ?_
  exact h_back (2, (.iface t1.tag t1.val, .iface t2.tag t2.val), r2, A1, c1) ((.inr (.inr ⟨rfl, rfl, rfl, hz1, hc1⟩))) ((show 2 - 2 < 2 - 1 by omega)) ⟨rfl, rfl, rfl, rfl, trivial⟩ (same)
 ·refine h_seq ?_
  refine h_reg ?_
  refine h_op (r_lss rfl rfl) ?_
  refine yN ?_
  refine h_seq ?_
  refine h_condF rfl ?_
  refine h_exit ?_
  refine q_thenE ?_
  refine q_thenE ?_
  refine q_blockE ?_
  refine q_then ?_
  refine yR ?_
  refine h_op (r_loadr rfl) ?_
  refine h_op (r_mkI rfl) ?_
  refine yM rfl ?_
  refine yS rfl ?_
  refine yS rfl ?_
  refine yN ?_
  refine h_ret ?_
  exact h_ret2 rfl rfl rfl fun w s => ⟨⟨(Ar, cr), hz, hcr⟩, rfl, s.res (List.nil_sublist _) (by simp)⟩
theorem read_all : ∀ (d : Nat), d ≤ 256 → ∀ l : List Item, ReadS h d l
 | d, hd, [] => fun A c _ _ => by
  have : readM d [] = none := by cases d <;> rfl
  rw [this]
  exact read_nil h A c _
 | 0, hd, x :: r => fun A c hr hc => by
  unfold readM
  by_cases hk : x.kind = 2
  ·rw [if_pos hk]
   exact read_deep h x r hk A c _ (by simp) hc
  ·rw [if_neg hk]
   intro w hw hR
   exact (read_one h x r hk A c _ (hr := hr) hc w hw hR).mono fun e w' ⟨_, e1, e2⟩ => ⟨⟨(cutA A c 1 97, c - 1), its_tail hr hc, by have : r.length + 1 ≤ c := hc; dsimp only; omega⟩, e1, e2⟩
 | d + 1, hd, x :: r => fun A c hr hc => by
  have ih := fun l => read_all d (by omega) l
  unfold readM
  by_cases hk : x.kind = 2
  ·rw [if_pos hk]
   cases h1 : readM d r with
   | none => exact read_no1 h x r hk d (by omega) h1 (ih r) A c hc
   | some p =>
    obtain ⟨t1, r1⟩ := p
    show match (readM d r1).bind fun q => some (Sub.two t1 q.1, q.2) with | none => _ | some (t, r) => _
    cases h2 : readM d r1 with
    | none => exact read_no2 h x r r1 t1 hk d (by omega) h1 h2 (ih r) (ih r1) A c hc
    | some q =>
     obtain ⟨t2, r2⟩ := q
     exact read_yes2 h x r r1 r2 t1 t2 hk d (by omega) h1 h2 (ih r) (ih r1) A c hc
  ·rw [if_neg hk]
   intro w hw hR
   exact (read_one h x r hk A c _ (hr := hr) hc w hw hR).mono fun e w' ⟨_, e1, e2⟩ => ⟨⟨(cutA A c 1 97, c - 1), its_tail hr hc, by have : r.length + 1 ≤ c := hc; dsimp only; omega⟩, e1, e2⟩
end
end Go.Proofs.YtjhocljhhpkiiaaGreatDoor
/- TI -/
namespace Go.Proofs.YtjhocljhhpkiiaaGreatDoor
open Go.RowKit Go.ChangeShapes Go.WideShapes
section
variable {H : Type} {enc : TypeId × Value → H} {w : World} {base : Nat} {spare : Nat → Bool} {held : Bool} {v : Value} {d : DataW H} {ps : List MemPlace} {r : Reach} {b0 : Nat}
theorem c_Item : Tryz.prog.cellsOf 126 = 97 := by kernel_rfl
theorem itemFieldsO : ∃ f1 f2 f3 : Field, Tryz.prog.underlying 126 = some (.struct #[f1, f2, f3]) ∧ f1.type = 3 ∧ f2.type = 42 ∧ f3.type = 51 ∧ f1.offset = 0 ∧ f2.offset = 1 ∧ f3.offset = 33 :=
 ⟨_, _, _, Tryz.underlying126, rfl, rfl, rfl, rfl, rfl, rfl⟩
instance : Inhabited Item := ⟨zItem⟩
set_option maxRecDepth 100000 in
theorem dec_It {fuel : Nat} {cs : List Value} {x : DataW H × List MemPlace} (h : DataW.trod enc Tryz.prog w base spare held fuel 126 cs = some x) : ∃ y : Item, cs = y.cells ∧ True := by
 obtain ⟨f1, f2, f3, hT, t1, t2, t3, o1, o2, o3⟩ := itemFieldsO
 obtain ⟨g1, g2, hL, -, -, s1, s2, p1, p2⟩ := leafFields'
 obtain ⟨xs, n, -, -, hl, hxl, hx⟩ := DataW.trod_struct hT h
 rw [c_Item] at hl
 have hxl' : xs.length = 3 := hxl
 have k1 := hx 0 f1 rfl
 have k2 := hx 1 f2 rfl
 have k3 := hx 2 f3 rfl
 rw [List.getElem?_eq_getElem (by omega)] at k1 k2 k3
 rw [o1, t1, c_int, List.drop_zero] at k1
 rw [o2, t2, c_Digest] at k2
 rw [o3, t3, c_Leaf] at k3
 obtain ⟨m1, e1, -, -⟩ := DataW.trod_int Tryz.underlying3 k1
 obtain ⟨y2, e2⟩ := dec_B32 Tryz.underlying42 c_Digest Tryz.underlying5 c_u8 k2
 obtain ⟨y3, e3⟩ := dec_Leaf hL c_Leaf p1 p2 (by rw [s1]; exact Tryz.underlying35) (by rw [s2]; exact Tryz.underlying42) (by rw [s1]; exact c_Key) (by rw [s2]; exact c_Digest) Tryz.underlying5 c_u8 k3
 refine ⟨⟨m1, y2, y3⟩, ?_, trivial⟩
 have r1 : cs = cs.take 1 ++ ((cs.drop 1).take 32 ++ (cs.drop 33).take 64) := by
  rw [List.take_of_length_le (l := cs.drop 33) (by simp; omega)]
  rw [show cs.drop 33 = (cs.drop 1).drop 32 by rw [List.drop_drop], List.take_append_drop, List.take_append_drop]
 rw [r1, e1, e2, e3]
 rfl
end
end Go.Proofs.YtjhocljhhpkiiaaGreatDoor
/- U26p -/
namespace Go.Proofs.YtjhocljhhpkiiaaGreatDoor
open Go.RowKit
theorem checkP_5 {p : Proof} (h0 : okJ p 0 = true) {j : Nat} (hj : 1 ≤ j ∧ j < 5) (h : okJ p j = false) : checkP p = 5 := by
 unfold checkP
 rw [h0, if_neg (by simp)]
 rcases (show j = 1 ∨ j = 2 ∨ j = 3 ∨ j = 4 by omega) with rfl | rfl | rfl | rfl
 ·rw [if_pos h]
 ·by_cases h1 : okJ p 1 = false
  ·rw [if_pos h1]
  ·rw [if_neg h1, if_pos h]
 ·by_cases h1 : okJ p 1 = false
  ·rw [if_pos h1]
  ·by_cases h2 : okJ p 2 = false
   ·rw [if_neg h1, if_pos h2]
   ·rw [if_neg h1, if_neg h2, if_pos h]
 ·by_cases h1 : okJ p 1 = false
  ·rw [if_pos h1]
  ·by_cases h2 : okJ p 2 = false
   ·rw [if_neg h1, if_pos h2]
   ·by_cases h3 : okJ p 3 = false
    ·rw [if_neg h1, if_neg h2, if_pos h3]
    ·rw [if_neg h1, if_neg h2, if_neg h3, if_pos h]
theorem checkP_ok {p : Proof} (h0 : okJ p 0 = true) (h1 : okJ p 1 = true) (h2 : okJ p 2 = true) (h3 : okJ p 3 = true) (h4 : okJ p 4 = true) : checkP p = 0 := by
 unfold checkP
 rw [h0, if_neg (by simp), h1, if_neg (by simp), h2, if_neg (by simp), h3, if_neg (by simp), h4, if_neg (by simp)]
theorem lastI_pos {b : B32} (h : 0 < (depths b).length) : lastI b 256 = (((depths b).getD ((depths b).length - 1) 0 : Nat) : Int) := by
 rw [lastI_depths, List.getLast?_eq_getElem?, List.getD]
 cases hx : (depths b)[(depths b).length - 1]? with
 | none => rw [List.getElem?_eq_none_iff] at hx; omega
 | some i => rfl
theorem lastI_nil {b : B32} (h : (depths b).length = 0) : lastI b 256 = -1 := by
 rw [lastI_depths, List.eq_nil_of_length_eq_zero h]
 rfl
end Go.Proofs.YtjhocljhhpkiiaaGreatDoor
/- U23 -/
namespace Go.Proofs.YtjhocljhhpkiiaaGreatDoor
open Go.RowKit
theorem rDepths_s (p : Proof) : Spec Tryz.prog 85 [.agg p.cells.toArray].toArray [] [] (fun u : Option Addr × Nat => .slice u.1 (depths p.bitmap).length u.2) (fun u => [.own (.slice u.1 (depths p.bitmap).length u.2) (depths p.bitmap).length 3 1 (ic (depths p.bitmap))]) := by
 refine spec_of Tryz.func85 rfl (n := 19) rfl rfl ?_
 intro W
 refine yR ?_
 refine h_opX (x_box rfl) fun g1 => ?_
 refine yS rfl ?_
 refine yN ?_
 refine yR ?_
 refine yS rfl ?_
 refine yN ?_
 refine h_seq ?_
 refine yR ?_
 refine yS rfl ?_
 refine yN ?_
 refine h_block ?_
 refine h_nil_own 3 1 (xs := ic (dep p.bitmap 0)) rfl ?_
 change H _ _ _ _ _ (.own (.slice none (dep p.bitmap 0).length 0) (dep p.bitmap 0).length _ _ _ :: _) _
 refine h_loop (fun (s : Nat × Option Addr × Nat) => s.1 ≤ 256) (fun (s : Nat × Option Addr × Nat) => [(4, .int .i64 (s.1 : Int)), (3, .slice s.2.1 (dep p.bitmap s.1).length s.2.2), (1, .pointer (some ⟨g1, 0, none⟩))]) (fun (s : Nat × Option Addr × Nat) => [.own (.slice s.2.1 (dep p.bitmap s.1).length s.2.2) (dep p.bitmap s.1).length 3 1 (ic (dep p.bitmap s.1)), .blk g1 p.cells 54]) (fun (s : Nat × Option Addr × Nat) => 256 - s.1) (0, none, 0) ((show 0 ≤ 256 by omega)) ⟨rfl, rfl, rfl, trivial⟩ (same) ?_
 rintro ⟨k, B, c⟩ hk
 dsimp only at hk ⊢
 have hd := dep_len p.bitmap k
 refine h_seq ?_
 refine yR ?_
 refine yM rfl ?_
 refine h_op (r_lss rfl rfl) ?_
 refine yN ?_
 refine h_cond rfl (fun h => ?_) (fun h => ?_)
 ·refine h_skip ?_
  refine q_then ?_
  refine h_seq ?_
  refine h_block ?_
  refine yR ?_
  refine h_op (r_field rfl) ?_
  refine h_op (r_loadr rfl) ?_
  refine yM rfl ?_
  refine h_call ((refBit_s p.bitmap k (by omega)).comes) rfl rfl rfl fun _ => ?_
  refine h_op (r_bool (r_eql rfl rfl) (bitN_one p.bitmap k)) ?_
  refine yN ?_
  refine h_condB rfl (fun h2 => ?_) (fun h2 => ?_)
  ·have he := dep_yes h2
   have hl : (dep p.bitmap k).length + 1 = (dep p.bitmap (k + 1)).length := by rw [he]; simp
   refine h_reg ?_
   refine yM rfl ?_
   refine yM rfl ?_
   refine h_opX (x_bsl rfl rfl) fun g16 => ?_
   refine h_opX (x_app1I rfl rfl (hN := hl)) fun ⟨g17, c17⟩ => ?_
   refine yS rfl ?_
   refine h_nil ?_
   refine q_block ?_
   refine q_then ?_
   refine h_reg ?_
   refine yM rfl ?_
   refine h_op (r_add rfl rfl) ?_
   refine yS rfl ?_
   refine h_nil ?_
   rw [← he]
   exact h_back (k + 1, some ⟨g17, 0, none⟩, c17) ((show k + 1 ≤ 256 by omega)) ((show 256 - (k + 1) < 256 - k by omega)) ⟨rfl, rfl, rfl, trivial⟩ (same)
  ·have he := dep_no (b := p.bitmap) (k := k) (by rw [h2]; simp)
   refine h_skip ?_
   refine q_block ?_
   refine q_then ?_
   refine h_reg ?_
   refine yM rfl ?_
   refine h_op (r_add rfl rfl) ?_
   refine yS rfl ?_
   refine h_nil ?_
   rw [← he]
   exact h_back (k + 1, B, c) ((show k + 1 ≤ 256 by omega)) ((show 256 - (k + 1) < 256 - k by omega)) ⟨rfl, rfl, rfl, trivial⟩ (same)
 ·obtain rfl : k = 256 := by omega
  refine h_exit ?_
  refine q_thenE ?_
  refine q_thenE ?_
  refine q_blockE ?_
  refine q_then ?_
  refine yR ?_
  refine yM rfl ?_
  refine yS rfl ?_
  refine yN ?_
  refine h_ret ?_
  exact h_ret1 rfl rfl fun w s => ⟨(B, c), rfl, s.res ((List.nil_sublist _).cons_cons _) (by simp [Fa.wr])⟩
end Go.Proofs.YtjhocljhhpkiiaaGreatDoor
/- U26 -/
namespace Go.Proofs.YtjhocljhhpkiiaaGreatDoor
open Go.RowKit
theorem rCheck_s (p : Proof) : Spec Tryz.prog 31 [.agg p.cells.toArray].toArray [] [] (fun _ : Unit => .int .i64 (checkP p)) (fun _ => []) := by
 have hdl := dep_len p.bitmap 256
 rw [dep_256] at hdl
 refine spec_of Tryz.func31 rfl (n := 69) rfl rfl ?_
 intro W
 by_cases hk : p.kind = 0
 ·have h0 : okJ p 0 = true := by simp [okJ, hk]
  refine yR ?_
  refine h_opX (x_box rfl) fun g1 => ?_
  refine yS rfl ?_
  refine yN ?_
  refine h_seq ?_
  refine yR ?_
  refine h_op (r_field rfl) ?_
  refine h_op (r_loadc rfl) ?_
  refine h_op (r_bool (r_neq rfl rfl) (decide_eq_false (fun h => h hk))) ?_
  refine yM rfl ?_
  refine h_opOff ?_
  refine h_opOff ?_
  refine h_opOff ?_
  refine h_op (r_pick rfl rfl) ?_
  refine yN ?_
  refine h_condF rfl ?_
  refine h_skip ?_
  refine q_then ?_
  refine yR ?_
  refine h_op (r_loadr rfl) ?_
  refine h_call ((rDepths_s p).comes) rfl rfl rfl fun ⟨A14, c14⟩ => ?_
  dsimp only
  refine yS rfl ?_
  refine yN ?_
  refine yR ?_
  refine h_opX (x_alloc) fun g4 => ?_
  refine yN ?_
  refine h_seq ?_
  refine h_block ?_
  refine yR ?_
  by_cases hd1 : p.depth < 0
  ·refine h_op (r_field rfl) ?_
   refine h_op (r_loadc rfl) ?_
   refine h_op (r_bool (r_lss rfl rfl) (decide_eq_true hd1)) ?_
   refine yM rfl ?_
   refine h_opOff ?_
   refine h_opOff ?_
   refine h_opOff ?_
   refine h_op (r_pick rfl rfl) ?_
   refine yM rfl ?_
   refine h_opOff ?_
   refine h_opOff ?_
   refine h_opOff ?_
   refine h_opOff ?_
   refine h_opOff ?_
   refine h_opOff ?_
   refine h_opOff ?_
   refine h_opOff ?_
   refine h_opOff ?_
   refine h_op (r_pick rfl rfl) ?_
   refine yM rfl ?_
   refine h_opOff ?_
   refine h_opOff ?_
   refine h_opOff ?_
   refine h_opOff ?_
   refine h_opOff ?_
   refine h_opOff ?_
   refine h_op (r_pick rfl rfl) ?_
   refine yS rfl ?_
   refine yN ?_
   refine h_condT rfl ?_
   refine yR ?_
   refine yS rfl ?_
   refine yN ?_
   refine h_ret ?_
   refine q_blockR ?_
   refine q_thenR ?_
   exact h_ret1 rfl (aI rfl (checkP_5 h0 (j := 1) (by omega) (by simp only [okJ, Bool.and_eq_false_iff, decide_eq_false_iff_not]; omega)).symm) fun w s => ⟨(), rfl, s.res (List.nil_sublist _) (by simp)⟩
  ·by_cases hd2 : 256 < p.depth
   ·refine h_op (r_field rfl) ?_
    refine h_op (r_loadc rfl) ?_
    refine h_op (r_bool (r_lss rfl rfl) (decide_eq_false hd1)) ?_
    refine yM rfl ?_
    refine h_op (r_field rfl) ?_
    refine h_op (r_loadc rfl) ?_
    refine h_op (r_bool (r_gtr rfl rfl) (decide_eq_true hd2)) ?_
    refine h_op (r_pick rfl rfl) ?_
    refine yM rfl ?_
    refine h_opOff ?_
    refine h_opOff ?_
    refine h_opOff ?_
    refine h_opOff ?_
    refine h_opOff ?_
    refine h_opOff ?_
    refine h_opOff ?_
    refine h_opOff ?_
    refine h_opOff ?_
    refine h_op (r_pick rfl rfl) ?_
    refine yM rfl ?_
    refine h_opOff ?_
    refine h_opOff ?_
    refine h_opOff ?_
    refine h_opOff ?_
    refine h_opOff ?_
    refine h_opOff ?_
    refine h_op (r_pick rfl rfl) ?_
    refine yS rfl ?_
    refine yN ?_
    refine h_condT rfl ?_
    refine yR ?_
    refine yS rfl ?_
    refine yN ?_
    refine h_ret ?_
    refine q_blockR ?_
    refine q_thenR ?_
    exact h_ret1 rfl (aI rfl (checkP_5 h0 (j := 1) (by omega) (by simp only [okJ, Bool.and_eq_false_iff, decide_eq_false_iff_not]; omega)).symm) fun w s => ⟨(), rfl, s.res (List.nil_sublist _) (by simp)⟩
   ·have h1 : okJ p 1 = true := by simp only [okJ, Bool.and_eq_true, decide_eq_true_eq]; omega
    by_cases hlf : p.leaf = zLeaf
    ·have h2 : okJ p 2 = true := by simp [okJ, hlf]
     refine h_op (r_field rfl) ?_
     refine h_op (r_loadc rfl) ?_
     refine h_op (r_bool (r_lss rfl rfl) (decide_eq_false hd1)) ?_
     refine yM rfl ?_
     refine h_op (r_field rfl) ?_
     refine h_op (r_loadc rfl) ?_
     refine h_op (r_bool (r_gtr rfl rfl) (decide_eq_false hd2)) ?_
     refine h_op (r_pick rfl rfl) ?_
     refine yM rfl ?_
     refine h_op (r_field rfl) ?_
     refine h_op (r_loadc rfl) ?_
     refine h_op (r_bool (r_eql rfl rfl) (decide_eq_true hk)) ?_
     refine yM rfl ?_
     refine h_op (r_field rfl) ?_
     refine h_op (r_loadr rfl) ?_
     refine h_op (r_loadr rfl) ?_
     refine h_op (r_bool (r_ner rfl rfl) (show _ = false by simp [hlf])) ?_
     refine h_op (r_pick rfl rfl) ?_
     refine h_op (r_pick rfl rfl) ?_
     refine yM rfl ?_
     refine yM rfl ?_
     refine h_op (r_len rfl) ?_
     refine h_op (r_field rfl) ?_
     refine h_op (r_loadc rfl) ?_
     refine h_op (r_len rfl) ?_
     refine h_op (r_neq rfl rfl) ?_
     refine h_op (r_pick rfl rfl) ?_
     refine yS rfl ?_
     refine yN ?_
     refine h_cond rfl (fun hlen => ?_) (fun hlen => ?_)
     ·refine h_seq ?_
      refine h_reg ?_
      refine yS rfl ?_
      refine yN ?_
      refine h_ret ?_
      refine q_blockR ?_
      refine q_thenR ?_
      exact h_ret1 rfl (aI rfl (checkP_5 h0 (j := 4) (by omega) (by simp only [okJ, decide_eq_false_iff_not]; exact hlen)).symm) fun w s => ⟨(), rfl, s.res (List.nil_sublist _) (by simp)⟩
     ·have h4 : okJ p 4 = true := by simp only [okJ, decide_eq_true_eq]; omega
      by_cases hz : (depths p.bitmap).length = 0
      ·refine h_seq ?_
       refine ha_start [.blk g1 p.cells 54] [] mixed (same) ?_
       refine ha_takeP 0 rfl (r_move rfl) ?_
       refine ha_takeP 1 rfl (r_len rfl) ?_
       refine ha_takeP 2 rfl (r_bool (r_gtr rfl rfl) (decide_eq_false (by omega))) ?_
       refine ha_takeP 3 rfl (r_move rfl) ?_
       refine ha_off 4 rfl ?_
       refine ha_off 5 rfl ?_
       refine ha_off 6 rfl ?_
       refine ha_off 7 rfl ?_
       refine ha_off 8 rfl ?_
       refine ha_off 9 rfl ?_
       refine ha_off 10 rfl ?_
       refine ha_off 11 rfl ?_
       refine ha_off 12 rfl ?_
       refine ha_off 13 rfl ?_
       refine ha_takeP 14 rfl (r_pick rfl rfl) ?_
       refine ha_takeP 15 rfl (r_move rfl) ?_
       refine ha_takeP 16 rfl (r_move rfl) ?_
       refine ha_takeP 17 rfl (r_len rfl) ?_
       refine ha_takeP 18 rfl (r_bool (r_eql rfl rfl) (decide_eq_true (by omega))) ?_
       refine ha_takeP 19 rfl (r_move rfl) ?_
       refine ha_takeP 20 rfl (r_field rfl) ?_
       refine ha_take 21 rfl (r_loadc rfl) ?_
       refine ha_takeP 22 rfl (r_gtr rfl rfl) ?_
       refine ha_takeP 23 rfl (r_pick rfl rfl) ?_
       refine ha_takeP 24 rfl (r_pick rfl rfl) ?_
       refine ha_takeP 25 rfl (r_assign rfl) ?_
       refine ha_done (by kernel_rfl) ?_
       refine q_then ?_
       refine h_cond rfl (fun hp => ?_) (fun hp => ?_)
       ·refine h_seq ?_
        refine h_reg ?_
        refine yS rfl ?_
        refine yN ?_
        refine h_ret ?_
        refine q_blockR ?_
        refine q_thenR ?_
        exact h_ret1 rfl (aI rfl (checkP_5 h0 (j := 3) (by omega) (by simp only [okJ, decide_eq_false_iff_not]; rw [lastI_nil hz]; omega)).symm) fun w s => ⟨(), rfl, s.res (List.nil_sublist _) (by simp)⟩
       ·rw [checkP_ok h0 h1 h2 (by simp only [okJ, decide_eq_true_eq]; rw [lastI_nil hz]; omega) h4]
        refine h_skip ?_
        refine q_block ?_
        refine q_then ?_
        refine yR ?_
        refine yS rfl ?_
        refine yN ?_
        refine h_ret ?_
        exact h_ret1 rfl rfl fun w s => ⟨(), rfl, s.res (List.nil_sublist _) (by simp)⟩
      ·refine h_pure (φ := ∃ g, A14 = some ⟨g, 0, none⟩) (fun w s => s.ownSome (N := (depths p.bitmap).length) (c := c14) (by omega)) ?_
       rintro ⟨g14, rfl⟩
       have hlp := lastI_pos (b := p.bitmap) (by omega)
       by_cases hq : (((depths p.bitmap).getD ((depths p.bitmap).length - 1) 0 : Nat) : Int) = p.depth - 1
       ·rw [checkP_ok h0 h1 h2 (by simp only [okJ, decide_eq_true_eq]; rw [hlp]; exact hq) h4]
        refine h_seq ?_
        refine ha_start [.blk g1 p.cells 54, .own (.slice (some ⟨g14, 0, none⟩) (depths p.bitmap).length c14) (depths p.bitmap).length 3 1 (ic (depths p.bitmap))] [] mixed (same) ?_
        refine ha_takeP 0 rfl (r_move rfl) ?_
        refine ha_takeP 1 rfl (r_len rfl) ?_
        refine ha_takeP 2 rfl (r_bool (r_gtr rfl rfl) (decide_eq_true (by omega))) ?_
        refine ha_takeP 3 rfl (r_move rfl) ?_
        refine ha_takeP 4 rfl (r_move rfl) ?_
        refine ha_takeP 5 rfl (r_move rfl) ?_
        refine ha_takeP 6 rfl (r_len rfl) ?_
        refine ha_takeP 7 rfl (r_subN rfl rfl) ?_
        refine ha_takeP 8 rfl (r_idx rfl rfl) ?_
        refine ha_take 9 rfl (r_nth rfl (ic_at (by omega))) ?_
        refine ha_takeP 10 rfl (r_field rfl) ?_
        refine ha_take 11 rfl (r_loadc rfl) ?_
        refine ha_takeP 12 rfl (r_sub rfl rfl) ?_
        refine ha_takeP 13 rfl (r_bool (r_neq rfl rfl) (decide_eq_false (fun h => h hq))) ?_
        refine ha_takeP 14 rfl (r_pick rfl rfl) ?_
        refine ha_takeP 15 rfl (r_move rfl) ?_
        refine ha_takeP 16 rfl (r_move rfl) ?_
        refine ha_takeP 17 rfl (r_len rfl) ?_
        refine ha_takeP 18 rfl (r_bool (r_eql rfl rfl) (decide_eq_false (by omega))) ?_
        refine ha_takeP 19 rfl (r_move rfl) ?_
        refine ha_off 20 rfl ?_
        refine ha_off 21 rfl ?_
        refine ha_off 22 rfl ?_
        refine ha_takeP 23 rfl (r_pick rfl rfl) ?_
        refine ha_takeP 24 rfl (r_pick rfl rfl) ?_
        refine ha_takeP 25 rfl (r_assign rfl) ?_
        refine ha_done (by kernel_rfl) ?_
        refine q_then ?_
        refine h_condF rfl ?_
        refine h_skip ?_
        refine q_block ?_
        refine q_then ?_
        refine yR ?_
        refine yS rfl ?_
        refine yN ?_
        refine h_ret ?_
        exact h_ret1 rfl rfl fun w s => ⟨(), rfl, s.res (List.nil_sublist _) (by simp)⟩
       ·refine h_seq ?_
        refine ha_start [.blk g1 p.cells 54, .own (.slice (some ⟨g14, 0, none⟩) (depths p.bitmap).length c14) (depths p.bitmap).length 3 1 (ic (depths p.bitmap))] [] mixed (same) ?_
        refine ha_takeP 0 rfl (r_move rfl) ?_
        refine ha_takeP 1 rfl (r_len rfl) ?_
        refine ha_takeP 2 rfl (r_bool (r_gtr rfl rfl) (decide_eq_true (by omega))) ?_
        refine ha_takeP 3 rfl (r_move rfl) ?_
        refine ha_takeP 4 rfl (r_move rfl) ?_
        refine ha_takeP 5 rfl (r_move rfl) ?_
        refine ha_takeP 6 rfl (r_len rfl) ?_
        refine ha_takeP 7 rfl (r_subN rfl rfl) ?_
        refine ha_takeP 8 rfl (r_idx rfl rfl) ?_
        refine ha_take 9 rfl (r_nth rfl (ic_at (by omega))) ?_
        refine ha_takeP 10 rfl (r_field rfl) ?_
        refine ha_take 11 rfl (r_loadc rfl) ?_
        refine ha_takeP 12 rfl (r_sub rfl rfl) ?_
        refine ha_takeP 13 rfl (r_bool (r_neq rfl rfl) (decide_eq_true hq)) ?_
        refine ha_takeP 14 rfl (r_pick rfl rfl) ?_
        refine ha_takeP 15 rfl (r_move rfl) ?_
        refine ha_off 16 rfl ?_
        refine ha_off 17 rfl ?_
        refine ha_off 18 rfl ?_
        refine ha_off 19 rfl ?_
        refine ha_off 20 rfl ?_
        refine ha_off 21 rfl ?_
        refine ha_off 22 rfl ?_
        refine ha_off 23 rfl ?_
        refine ha_takeP 24 rfl (r_pick rfl rfl) ?_
        refine ha_takeP 25 rfl (r_assign rfl) ?_
        refine ha_done (by kernel_rfl) ?_
        refine q_then ?_
        refine h_condT rfl ?_
        refine yR ?_
        refine yS rfl ?_
        refine yN ?_
        refine h_ret ?_
        refine q_blockR ?_
        refine q_thenR ?_
        exact h_ret1 rfl (aI rfl (checkP_5 h0 (j := 3) (by omega) (by simp only [okJ, decide_eq_false_iff_not]; rw [hlp]; exact hq)).symm) fun w s => ⟨(), rfl, s.res (List.nil_sublist _) (by simp)⟩
    ·have hk1 : ¬ p.kind = 1 := by omega
     refine h_op (r_field rfl) ?_
     refine h_op (r_loadc rfl) ?_
     refine h_op (r_bool (r_lss rfl rfl) (decide_eq_false hd1)) ?_
     refine yM rfl ?_
     refine h_op (r_field rfl) ?_
     refine h_op (r_loadc rfl) ?_
     refine h_op (r_bool (r_gtr rfl rfl) (decide_eq_false hd2)) ?_
     refine h_op (r_pick rfl rfl) ?_
     refine yM rfl ?_
     refine h_op (r_field rfl) ?_
     refine h_op (r_loadc rfl) ?_
     refine h_op (r_bool (r_eql rfl rfl) (decide_eq_true hk)) ?_
     refine yM rfl ?_
     refine h_op (r_field rfl) ?_
     refine h_op (r_loadr rfl) ?_
     refine h_op (r_loadr rfl) ?_
     refine h_op (r_bool (r_ner rfl rfl) (show _ = true by simp [hlf])) ?_
     refine h_op (r_pick rfl rfl) ?_
     refine h_op (r_pick rfl rfl) ?_
     refine yM rfl ?_
     refine h_opOff ?_
     refine h_opOff ?_
     refine h_opOff ?_
     refine h_opOff ?_
     refine h_opOff ?_
     refine h_opOff ?_
     refine h_op (r_pick rfl rfl) ?_
     refine yS rfl ?_
     refine yN ?_
     refine h_condT rfl ?_
     refine yR ?_
     refine yS rfl ?_
     refine yN ?_
     refine h_ret ?_
     refine q_blockR ?_
     refine q_thenR ?_
     exact h_ret1 rfl (aI rfl (checkP_5 h0 (j := 2) (by omega) (by simp [okJ, hlf, hk1])).symm) fun w s => ⟨(), rfl, s.res (List.nil_sublist _) (by simp)⟩
 ·by_cases hk1 : p.kind = 1
  ·have h0 : okJ p 0 = true := by simp [okJ, hk1]
   refine yR ?_
   refine h_opX (x_box rfl) fun g1 => ?_
   refine yS rfl ?_
   refine yN ?_
   refine h_seq ?_
   refine yR ?_
   refine h_op (r_field rfl) ?_
   refine h_op (r_loadc rfl) ?_
   refine h_op (r_bool (r_neq rfl rfl) (decide_eq_true hk)) ?_
   refine yM rfl ?_
   refine h_op (r_field rfl) ?_
   refine h_op (r_loadc rfl) ?_
   refine h_op (r_bool (r_neq rfl rfl) (decide_eq_false (fun h => h hk1))) ?_
   refine h_op (r_pick rfl rfl) ?_
   refine yN ?_
   refine h_condF rfl ?_
   refine h_skip ?_
   refine q_then ?_
   refine yR ?_
   refine h_op (r_loadr rfl) ?_
   refine h_call ((rDepths_s p).comes) rfl rfl rfl fun ⟨A14, c14⟩ => ?_
   dsimp only
   refine yS rfl ?_
   refine yN ?_
   refine yR ?_
   refine h_opX (x_alloc) fun g4 => ?_
   refine yN ?_
   refine h_seq ?_
   refine h_block ?_
   refine yR ?_
   by_cases hd1 : p.depth < 0
   ·refine h_op (r_field rfl) ?_
    refine h_op (r_loadc rfl) ?_
    refine h_op (r_bool (r_lss rfl rfl) (decide_eq_true hd1)) ?_
    refine yM rfl ?_
    refine h_opOff ?_
    refine h_opOff ?_
    refine h_opOff ?_
    refine h_op (r_pick rfl rfl) ?_
    refine yM rfl ?_
    refine h_opOff ?_
    refine h_opOff ?_
    refine h_opOff ?_
    refine h_opOff ?_
    refine h_opOff ?_
    refine h_opOff ?_
    refine h_opOff ?_
    refine h_opOff ?_
    refine h_opOff ?_
    refine h_op (r_pick rfl rfl) ?_
    refine yM rfl ?_
    refine h_opOff ?_
    refine h_opOff ?_
    refine h_opOff ?_
    refine h_opOff ?_
    refine h_opOff ?_
    refine h_opOff ?_
    refine h_op (r_pick rfl rfl) ?_
    refine yS rfl ?_
    refine yN ?_
    refine h_condT rfl ?_
    refine yR ?_
    refine yS rfl ?_
    refine yN ?_
    refine h_ret ?_
    refine q_blockR ?_
    refine q_thenR ?_
    exact h_ret1 rfl (aI rfl (checkP_5 h0 (j := 1) (by omega) (by simp only [okJ, Bool.and_eq_false_iff, decide_eq_false_iff_not]; omega)).symm) fun w s => ⟨(), rfl, s.res (List.nil_sublist _) (by simp)⟩
   ·by_cases hd2 : 256 < p.depth
    ·refine h_op (r_field rfl) ?_
     refine h_op (r_loadc rfl) ?_
     refine h_op (r_bool (r_lss rfl rfl) (decide_eq_false hd1)) ?_
     refine yM rfl ?_
     refine h_op (r_field rfl) ?_
     refine h_op (r_loadc rfl) ?_
     refine h_op (r_bool (r_gtr rfl rfl) (decide_eq_true hd2)) ?_
     refine h_op (r_pick rfl rfl) ?_
     refine yM rfl ?_
     refine h_opOff ?_
     refine h_opOff ?_
     refine h_opOff ?_
     refine h_opOff ?_
     refine h_opOff ?_
     refine h_opOff ?_
     refine h_opOff ?_
     refine h_opOff ?_
     refine h_opOff ?_
     refine h_op (r_pick rfl rfl) ?_
     refine yM rfl ?_
     refine h_opOff ?_
     refine h_opOff ?_
     refine h_opOff ?_
     refine h_opOff ?_
     refine h_opOff ?_
     refine h_opOff ?_
     refine h_op (r_pick rfl rfl) ?_
     refine yS rfl ?_
     refine yN ?_
     refine h_condT rfl ?_
     refine yR ?_
     refine yS rfl ?_
     refine yN ?_
     refine h_ret ?_
     refine q_blockR ?_
     refine q_thenR ?_
     exact h_ret1 rfl (aI rfl (checkP_5 h0 (j := 1) (by omega) (by simp only [okJ, Bool.and_eq_false_iff, decide_eq_false_iff_not]; omega)).symm) fun w s => ⟨(), rfl, s.res (List.nil_sublist _) (by simp)⟩
    ·have h1 : okJ p 1 = true := by simp only [okJ, Bool.and_eq_true, decide_eq_true_eq]; omega
     have h2 : okJ p 2 = true := by simp [okJ, hk1]
     refine h_op (r_field rfl) ?_
     refine h_op (r_loadc rfl) ?_
     refine h_op (r_bool (r_lss rfl rfl) (decide_eq_false hd1)) ?_
     refine yM rfl ?_
     refine h_op (r_field rfl) ?_
     refine h_op (r_loadc rfl) ?_
     refine h_op (r_bool (r_gtr rfl rfl) (decide_eq_false hd2)) ?_
     refine h_op (r_pick rfl rfl) ?_
     refine yM rfl ?_
     refine h_op (r_field rfl) ?_
     refine h_op (r_loadc rfl) ?_
     refine h_op (r_bool (r_eql rfl rfl) (decide_eq_false (by omega))) ?_
     refine yM rfl ?_
     refine h_opOff ?_
     refine h_opOff ?_
     refine h_opOff ?_
     refine h_opOff ?_
     refine h_op (r_pick rfl rfl) ?_
     refine h_op (r_pick rfl rfl) ?_
     refine yM rfl ?_
     refine yM rfl ?_
     refine h_op (r_len rfl) ?_
     refine h_op (r_field rfl) ?_
     refine h_op (r_loadc rfl) ?_
     refine h_op (r_len rfl) ?_
     refine h_op (r_neq rfl rfl) ?_
     refine h_op (r_pick rfl rfl) ?_
     refine yS rfl ?_
     refine yN ?_
     refine h_cond rfl (fun hlen => ?_) (fun hlen => ?_)
     ·refine h_seq ?_
      refine h_reg ?_
      refine yS rfl ?_
      refine yN ?_
      refine h_ret ?_
      refine q_blockR ?_
      refine q_thenR ?_
      exact h_ret1 rfl (aI rfl (checkP_5 h0 (j := 4) (by omega) (by simp only [okJ, decide_eq_false_iff_not]; exact hlen)).symm) fun w s => ⟨(), rfl, s.res (List.nil_sublist _) (by simp)⟩
     ·have h4 : okJ p 4 = true := by simp only [okJ, decide_eq_true_eq]; omega
      by_cases hz : (depths p.bitmap).length = 0
      ·refine h_seq ?_
       refine ha_start [.blk g1 p.cells 54] [] mixed (same) ?_
       refine ha_takeP 0 rfl (r_move rfl) ?_
       refine ha_takeP 1 rfl (r_len rfl) ?_
       refine ha_takeP 2 rfl (r_bool (r_gtr rfl rfl) (decide_eq_false (by omega))) ?_
       refine ha_takeP 3 rfl (r_move rfl) ?_
       refine ha_off 4 rfl ?_
       refine ha_off 5 rfl ?_
       refine ha_off 6 rfl ?_
       refine ha_off 7 rfl ?_
       refine ha_off 8 rfl ?_
       refine ha_off 9 rfl ?_
       refine ha_off 10 rfl ?_
       refine ha_off 11 rfl ?_
       refine ha_off 12 rfl ?_
       refine ha_off 13 rfl ?_
       refine ha_takeP 14 rfl (r_pick rfl rfl) ?_
       refine ha_takeP 15 rfl (r_move rfl) ?_
       refine ha_takeP 16 rfl (r_move rfl) ?_
       refine ha_takeP 17 rfl (r_len rfl) ?_
       refine ha_takeP 18 rfl (r_bool (r_eql rfl rfl) (decide_eq_true (by omega))) ?_
       refine ha_takeP 19 rfl (r_move rfl) ?_
       refine ha_takeP 20 rfl (r_field rfl) ?_
       refine ha_take 21 rfl (r_loadc rfl) ?_
       refine ha_takeP 22 rfl (r_gtr rfl rfl) ?_
       refine ha_takeP 23 rfl (r_pick rfl rfl) ?_
       refine ha_takeP 24 rfl (r_pick rfl rfl) ?_
       refine ha_takeP 25 rfl (r_assign rfl) ?_
       refine ha_done (by kernel_rfl) ?_
       refine q_then ?_
       refine h_cond rfl (fun hp => ?_) (fun hp => ?_)
       ·refine h_seq ?_
        refine h_reg ?_
        refine yS rfl ?_
        refine yN ?_
        refine h_ret ?_
        refine q_blockR ?_
        refine q_thenR ?_
        exact h_ret1 rfl (aI rfl (checkP_5 h0 (j := 3) (by omega) (by simp only [okJ, decide_eq_false_iff_not]; rw [lastI_nil hz]; omega)).symm) fun w s => ⟨(), rfl, s.res (List.nil_sublist _) (by simp)⟩
       ·rw [checkP_ok h0 h1 h2 (by simp only [okJ, decide_eq_true_eq]; rw [lastI_nil hz]; omega) h4]
        refine h_skip ?_
        refine q_block ?_
        refine q_then ?_
        refine yR ?_
        refine yS rfl ?_
        refine yN ?_
        refine h_ret ?_
        exact h_ret1 rfl rfl fun w s => ⟨(), rfl, s.res (List.nil_sublist _) (by simp)⟩
      ·refine h_pure (φ := ∃ g, A14 = some ⟨g, 0, none⟩) (fun w s => s.ownSome (N := (depths p.bitmap).length) (c := c14) (by omega)) ?_
       rintro ⟨g14, rfl⟩
       have hlp := lastI_pos (b := p.bitmap) (by omega)
       by_cases hq : (((depths p.bitmap).getD ((depths p.bitmap).length - 1) 0 : Nat) : Int) = p.depth - 1
       ·rw [checkP_ok h0 h1 h2 (by simp only [okJ, decide_eq_true_eq]; rw [hlp]; exact hq) h4]
        refine h_seq ?_
        refine ha_start [.blk g1 p.cells 54, .own (.slice (some ⟨g14, 0, none⟩) (depths p.bitmap).length c14) (depths p.bitmap).length 3 1 (ic (depths p.bitmap))] [] mixed (same) ?_
        refine ha_takeP 0 rfl (r_move rfl) ?_
        refine ha_takeP 1 rfl (r_len rfl) ?_
        refine ha_takeP 2 rfl (r_bool (r_gtr rfl rfl) (decide_eq_true (by omega))) ?_
        refine ha_takeP 3 rfl (r_move rfl) ?_
        refine ha_takeP 4 rfl (r_move rfl) ?_
        refine ha_takeP 5 rfl (r_move rfl) ?_
        refine ha_takeP 6 rfl (r_len rfl) ?_
        refine ha_takeP 7 rfl (r_subN rfl rfl) ?_
        refine ha_takeP 8 rfl (r_idx rfl rfl) ?_
        refine ha_take 9 rfl (r_nth rfl (ic_at (by omega))) ?_
        refine ha_takeP 10 rfl (r_field rfl) ?_
        refine ha_take 11 rfl (r_loadc rfl) ?_
        refine ha_takeP 12 rfl (r_sub rfl rfl) ?_
        refine ha_takeP 13 rfl (r_bool (r_neq rfl rfl) (decide_eq_false (fun h => h hq))) ?_
        refine ha_takeP 14 rfl (r_pick rfl rfl) ?_
        refine ha_takeP 15 rfl (r_move rfl) ?_
        refine ha_takeP 16 rfl (r_move rfl) ?_
        refine ha_takeP 17 rfl (r_len rfl) ?_
        refine ha_takeP 18 rfl (r_bool (r_eql rfl rfl) (decide_eq_false (by omega))) ?_
        refine ha_takeP 19 rfl (r_move rfl) ?_
        refine ha_off 20 rfl ?_
        refine ha_off 21 rfl ?_
        refine ha_off 22 rfl ?_
        refine ha_takeP 23 rfl (r_pick rfl rfl) ?_
        refine ha_takeP 24 rfl (r_pick rfl rfl) ?_
        refine ha_takeP 25 rfl (r_assign rfl) ?_
        refine ha_done (by kernel_rfl) ?_
        refine q_then ?_
        refine h_condF rfl ?_
        refine h_skip ?_
        refine q_block ?_
        refine q_then ?_
        refine yR ?_
        refine yS rfl ?_
        refine yN ?_
        refine h_ret ?_
        exact h_ret1 rfl rfl fun w s => ⟨(), rfl, s.res (List.nil_sublist _) (by simp)⟩
       ·refine h_seq ?_
        refine ha_start [.blk g1 p.cells 54, .own (.slice (some ⟨g14, 0, none⟩) (depths p.bitmap).length c14) (depths p.bitmap).length 3 1 (ic (depths p.bitmap))] [] mixed (same) ?_
        refine ha_takeP 0 rfl (r_move rfl) ?_
        refine ha_takeP 1 rfl (r_len rfl) ?_
        refine ha_takeP 2 rfl (r_bool (r_gtr rfl rfl) (decide_eq_true (by omega))) ?_
        refine ha_takeP 3 rfl (r_move rfl) ?_
        refine ha_takeP 4 rfl (r_move rfl) ?_
        refine ha_takeP 5 rfl (r_move rfl) ?_
        refine ha_takeP 6 rfl (r_len rfl) ?_
        refine ha_takeP 7 rfl (r_subN rfl rfl) ?_
        refine ha_takeP 8 rfl (r_idx rfl rfl) ?_
        refine ha_take 9 rfl (r_nth rfl (ic_at (by omega))) ?_
        refine ha_takeP 10 rfl (r_field rfl) ?_
        refine ha_take 11 rfl (r_loadc rfl) ?_
        refine ha_takeP 12 rfl (r_sub rfl rfl) ?_
        refine ha_takeP 13 rfl (r_bool (r_neq rfl rfl) (decide_eq_true hq)) ?_
        refine ha_takeP 14 rfl (r_pick rfl rfl) ?_
        refine ha_takeP 15 rfl (r_move rfl) ?_
        refine ha_off 16 rfl ?_
        refine ha_off 17 rfl ?_
        refine ha_off 18 rfl ?_
        refine ha_off 19 rfl ?_
        refine ha_off 20 rfl ?_
        refine ha_off 21 rfl ?_
        refine ha_off 22 rfl ?_
        refine ha_off 23 rfl ?_
        refine ha_takeP 24 rfl (r_pick rfl rfl) ?_
        refine ha_takeP 25 rfl (r_assign rfl) ?_
        refine ha_done (by kernel_rfl) ?_
        refine q_then ?_
        refine h_condT rfl ?_
        refine yR ?_
        refine yS rfl ?_
        refine yN ?_
        refine h_ret ?_
        refine q_blockR ?_
        refine q_thenR ?_
        exact h_ret1 rfl (aI rfl (checkP_5 h0 (j := 3) (by omega) (by simp only [okJ, decide_eq_false_iff_not]; rw [hlp]; exact hq)).symm) fun w s => ⟨(), rfl, s.res (List.nil_sublist _) (by simp)⟩
  ·refine h_seq ?_
   refine h_reg ?_
   refine h_opX (x_box rfl) fun g1 => ?_
   refine yS rfl ?_
   refine yN ?_
   refine h_seq ?_
   refine yR ?_
   refine h_op (r_field rfl) ?_
   refine h_op (r_loadc rfl) ?_
   refine h_op (r_bool (r_neq rfl rfl) (decide_eq_true hk)) ?_
   refine yM rfl ?_
   refine h_op (r_field rfl) ?_
   refine h_op (r_loadc rfl) ?_
   refine h_op (r_bool (r_neq rfl rfl) (decide_eq_true hk1)) ?_
   refine h_op (r_pick rfl rfl) ?_
   refine yN ?_
   refine h_condT rfl ?_
   refine yR ?_
   refine yS rfl ?_
   refine yN ?_
   refine h_ret ?_
   refine q_thenR ?_
   exact h_ret1 rfl (aI rfl (by rw [checkP_bad (k := 0) (by omega) (fun j hj => by omega) (by simp [okJ, hk, hk1])]; rfl)) fun w s => ⟨(), rfl, s.res (List.nil_sublist _) (by simp)⟩
end Go.Proofs.YtjhocljhhpkiiaaGreatDoor
/- U97 -/
namespace Go.Proofs.YtjhocljhhpkiiaaGreatDoor
open Go.RowKit
def fillP (f : Nat → UInt8) (k : Nat) : List UInt8 := (List.range k).map f ++ List.replicate (32 - k) 0
theorem fillP_len (f : Nat → UInt8) {k : Nat} (h : k ≤ 32) : (fillP f k).length = 32 := by simp [fillP]; omega
theorem fillP_set (f : Nat → UInt8) {k : Nat} (h : k < 32) : (fillP f k).set k (f k) = fillP f (k + 1) := by
 unfold fillP
 rw [List.set_append_right _ _ (by simp), show 32 - k = (32 - (k + 1)) + 1 by omega, List.replicate_succ]
 simp only [List.length_map, List.length_range, Nat.sub_self, List.set_cons_zero]
 rw [List.range_succ, List.map_append, List.append_assoc]
 rfl
theorem fillP_all (l : List UInt8) (o : Nat) : fillP (fun j => l.getD (o + j) 0) 32 = (b32At l o).1 := by
 show (List.range 32).map _ ++ List.replicate 0 0 = _
 rw [List.replicate_zero, List.append_nil]
 rfl
theorem rOf_s (l : List UInt8) (A : Option Addr) (c : Nat) (hl : l.length = 32) : Spec Tryz.prog 70 [.slice A l.length c].toArray [.rd A (bc l)] [] (fun _ : Unit => .agg (keyOf l).cells.toArray) (fun _ => []) := by
 have hko : (b32At l 0) = keyOf l := by
  have h1 := b32At_drop (l := l) (o := 0) (by omega)
  rw [List.drop_zero, List.drop_of_length_le (by omega), List.append_nil] at h1
  unfold keyOf
  rw [dif_pos hl]
  exact Subtype.ext h1.symm
 rw [← hko]
 refine spec_of Tryz.func70 rfl (n := 16) rfl rfl ?_
 intro W
 refine h_pure (φ := ∃ b o, A = some ⟨b, o, none⟩) (fun w s => Rd.some (s.ok (.rd A (bc l)) (by simp)) (by rw [bc_length]; omega)) ?_
 rintro ⟨b, o, rfl⟩
 refine yR ?_
 refine h_opX (x_alloc) fun g2 => ?_
 refine yN ?_
 refine yR ?_
 refine h_opX (x_alloc) fun g3 => ?_
 refine yN ?_
 refine h_seq ?_
 refine yR ?_
 refine yS rfl ?_
 refine yN ?_
 refine h_block ?_
 change H _ _ _ _ _ (.blk g3 (bc (fillP (fun j => l.getD (0 + j) 0) 0)) _ :: _) _
 refine h_loop (fun (k : Nat) => k ≤ 32) (fun (k : Nat) => [(4, .int .i64 (k : Int)), (3, .pointer (some ⟨g3, 0, none⟩)), (2, .pointer (some ⟨g2, 0, none⟩)), (0, .slice (some ⟨b, o, none⟩) l.length c)]) (fun (k : Nat) => [.blk g3 (bc (fillP (fun j => l.getD (0 + j) 0) k)) 35, .blk g2 zB32.cells 35, .rd (some ⟨b, o, none⟩) (bc l)]) (fun (k : Nat) => 32 - k) 0 ((show 0 ≤ 32 by omega)) ⟨rfl, rfl, rfl, rfl, trivial⟩ (same) ?_
 rintro k hk
 refine h_seq ?_
 refine yR ?_
 refine yM rfl ?_
 refine h_op (r_lss rfl rfl) ?_
 refine yN ?_
 refine h_cond rfl (fun hlt => ?_) (fun hlt => ?_)
 ·have hfl := fillP_len (fun j => l.getD (0 + j) 0) (k := k) hk
  refine h_skip ?_
  refine q_then ?_
  refine h_seq ?_
  refine h_block ?_
  refine h_reg ?_
  refine yM rfl ?_
  refine yM rfl ?_
  refine yM rfl ?_
  refine h_op (r_idx rfl rfl) ?_
  refine h_op (r_nth rfl (bc_at' (l := l) (i := k) (by omega))) ?_
  refine h_op (r_idxA rfl rfl) ?_
  refine h_opS (s_setB rfl rfl) ?_
  refine h_nil ?_
  refine q_block ?_
  refine q_then ?_
  refine h_reg ?_
  refine yM rfl ?_
  refine h_op (r_add rfl rfl) ?_
  refine yS rfl ?_
  refine h_nil ?_
  change H _ _ _ _ _ (.blk g3 (bc ((fillP (fun j => l.getD (0 + j) 0) k).set k (l.getD k 0))) _ :: _) _
  rw [show l.getD k 0 = l.getD (0 + k) 0 by rw [Nat.zero_add], fillP_set (fun j => l.getD (0 + j) 0) (by omega)]
  exact h_back (k + 1) ((show k + 1 ≤ 32 by omega)) ((show 32 - (k + 1) < 32 - k by omega)) ⟨rfl, rfl, rfl, rfl, trivial⟩ (same)
 ·obtain rfl : k = 32 := by omega
  rw [fillP_all]
  change H _ _ _ _ _ (.blk g3 (b32At l 0).cells _ :: _) _
  refine h_exit ?_
  refine q_thenE ?_
  refine q_thenE ?_
  refine q_blockE ?_
  refine q_then ?_
  refine yR ?_
  refine h_op (r_loadr rfl) ?_
  refine h_opS (s_storer rfl rfl) ?_
  refine yN ?_
  refine h_ret ?_
  exact h_ret1 rfl (rv_row rfl) fun w s => ⟨(), rfl, s.res (List.nil_sublist _) (by simp)⟩
end Go.Proofs.YtjhocljhhpkiiaaGreatDoor
/- U96 -/
namespace Go.Proofs.YtjhocljhhpkiiaaGreatDoor
open Go.RowKit
theorem r_ifnn {P : Program} {n : Nat} {D : List Deferred} {E : Env} {L : List Fa} {T T' : TypeId} {t : Nat} {u : TypeId} {v : Value} [hT : TIf P T] (hx : ev E (.tmp t) = some (.iface u v)) : Runs0 P n D E L (.binOp .neq T (.tmp t) (.const .nilIface) T') (.bool true) := fun a w ka s o ho =>
 run_bin ho (ka.ev hx) (v := .nilIface) rfl rfl (run_neq_held_nil w T u v hT.und)
theorem r_nilnn {P : Program} {n : Nat} {D : List Deferred} {E : Env} {L : List Fa} {T T' : TypeId} {t : Nat} [hT : TIf P T] (hx : ev E (.tmp t) = some .nilIface) : Runs0 P n D E L (.binOp .neq T (.tmp t) (.const .nilIface) T') (.bool false) := fun a w ka s o ho =>
 run_bin ho (ka.ev hx) (v := .nilIface) rfl rfl (run_neq_nil_nil w T hT.und)
def dpOf (p : Proof) (ss : List B32) : DP := ⟨p.kind.toNat, p.depth.toNat, p.leaf, p.bitmap, ss⟩
theorem ok_kind {p : Proof} (h : checkP p = 0) : p.kind = 0 ∨ p.kind = 1 := by simpa [okJ] using checkP_zero h 0 (by omega)
theorem dpOf_pr {p : Proof} {ss : List B32} (hs : p.sibs.n = ss.length) (hc : checkP p = 0) : p = (dpOf p ss).pr p.sibs.A p.sibs.c := by
 have h1 := ok_depth hc
 have h2 := ok_kind hc
 obtain ⟨k, d, lf, bm, A, N, c⟩ := p
 dsimp only at hs h1 h2
 subst hs
 unfold DP.pr dpOf
 dsimp only
 rw [Int.toNat_of_nonneg (by omega), Int.toNat_of_nonneg (by omega)]
theorem checkP_sib (p : DP) (A A' : Option Addr) (c c' : Nat) : checkP (p.pr A c) = checkP (p.pr A' c') := rfl
section
variable (n : Nat) (hn : n ≤ 256) (h : Zh) [hT : RdZ h (some ⟨1, 0, none⟩) hashT] (gh gc k : Nat) (hk : k ≤ 100000000) (root : B32) (c : Claim) (kb vb : List UInt8) [hK : SlZ h c.key kb] [hV : SlZ h c.value vb] (hvl : vb.length ≤ 100000000) (p : Proof) (ss : List B32) (hs : p.sibs.n = ss.length) [hS : RdZ h p.sibs.A (dgs ss)]
include hn hk hvl hs
def accV (n : Nat) (root : B32) (c : Claim) (kb vb : List UInt8) (p : Proof) (ss : List B32) : Bool := decide (claimE c = 0) && decide (checkP p = 0) && (supP p (keyOf kb) (valD n c.present vb) c.present && decide (rootP n (dpOf p ss) (keyOf kb) = root))
theorem Accepts_s : Spec Tryz.prog 45 [.pointer (some ⟨gh, 0, none⟩), .agg root.cells.toArray, .agg c.cells.toArray, .agg p.cells.toArray].toArray [HR gh gc n] [.zone true h, CN gc k] (fun u : {u : Zh × Nat // LeZ h u.1 ∧ u.2 ≤ k + 259} => .bool (accV n root c kb vb p ss)) (fun u => [.zone true u.1.1, CN gc u.1.2]) := by
 have hkn := hK.len
 have hC := Claim_s c
 have hCh := Check_s p
 refine spec_of Tryz.func45 rfl (n := 30) rfl rfl ?_
 intro W
 by_cases h1 : claimE c = 0
 ·rw [h1] at hC
  have hk32 : kb.length = 32 := by
   unfold claimE at h1
   split at h1
   ·omega
   ·cases h1
  by_cases h2 : checkP p = 0
  ·rw [h2] at hCh
   have hpe := dpOf_pr hs h2
   refine yR ?_
   refine h_opX (x_box rfl) fun g5 => ?_
   refine h_opX (x_box rfl) fun g6 => ?_
   refine h_opX (x_box rfl) fun g7 => ?_
   refine yS rfl ?_
   refine yN ?_
   refine h_seq ?_
   refine yR ?_
   refine h_op (r_loadr rfl) ?_
   refine h_call (hC.comes) rfl rfl rfl fun _ => ?_
   refine h_op (r_bool (r_neq rfl rfl) rfl) ?_
   refine yM rfl ?_
   refine h_op (r_loadr rfl) ?_
   refine h_call (hCh.comes) rfl rfl rfl fun _ => ?_
   refine h_op (r_bool (r_neq rfl rfl) rfl) ?_
   refine h_op (r_pick rfl rfl) ?_
   refine yN ?_
   refine h_condF rfl ?_
   refine h_skip ?_
   refine q_then ?_
   refine h_seq ?_
   refine ha_start [.blk g5 root.cells 42, .blk g6 c.cells 25, .blk g7 p.cells 54] [] mixed (same) ?_
   refine ha_takeP 0 rfl (r_move rfl) ?_
   refine ha_takeP 1 rfl (r_slA rfl) ?_
   refine ha_take 2 rfl (r_loadr rfl) ?_
   refine ha_take 3 rfl (r_loadr rfl) ?_
   refine ha_takeP 4 rfl (r_build rfl) ?_
   refine ha_one 5 ?_
   refine ho_X 5 rfl (rk (x_box rfl)) (fun _ => same) fun g23 => ?_
   refine ha_takeP 6 rfl (r_assign rfl) ?_
   refine ha_done (by kernel_rfl) ?_
   refine q_then ?_
   change H _ _ _ _ _ (.blk g23 (Chk.cells ⟨some ⟨gh, 0, none⟩, ⟨some ⟨g5, 0, none⟩, 32, 32⟩, c, ⟨none, 0, 0⟩, p⟩) _ :: _) _
   refine h_freeze g5 (cs := root.cells) (T := 42) fun z hz hrz => ?_
   have hTz : RdZ z (some ⟨1, 0, none⟩) hashT := hT.mono hz
   have hKz : SlZ z c.key kb := hK.mono hz
   have hVz : SlZ z c.value vb := hV.mono hz
   have hSz : RdZ z p.sibs.A (dgs ss) := hS.mono hz
   have hRz : SlZ z ⟨some ⟨g5, 0, none⟩, 32, 32⟩ root.1 := ⟨root.2.symm, Nat.le_refl _, (fun h => by cases h), hrz⟩
   have hrk : keyOf root.1 = root := by unfold keyOf; rw [dif_pos root.2]
   have hsu := supports_s n hn z gh gc k g23 (by omega) ⟨some ⟨gh, 0, none⟩, ⟨some ⟨g5, 0, none⟩, 32, 32⟩, c, ⟨none, 0, 0⟩, p⟩ rfl kb vb hk32 hvl
   obtain ⟨bs, hbs⟩ : ∃ bs, supP p (keyOf kb) (valD n c.present vb) c.present = bs := ⟨_, rfl⟩
   rw [hbs] at hsu
   have hdd : (dpOf p ss).d ≤ 256 := by have h9 := ok_depth h2; show p.depth.toNat ≤ 256; omega
   have hck2 : checkP ((dpOf p ss).pr none 0) = 0 := by rw [checkP_sib _ none p.sibs.A 0 p.sibs.c, ← hpe]; exact h2
   have hle := leads_s n hn z gh gc (k + if c.present then 1 else 0) g23 (by split <;> omega) ⟨some ⟨gh, 0, none⟩, ⟨some ⟨g5, 0, none⟩, 32, 32⟩, c, ⟨none, 0, 0⟩, p⟩ rfl kb hk32 root.1 root.2 (dpOf p ss) p.sibs.A p.sibs.c hpe hck2
   rw [hrk] at hle
   rw [show accV n root c kb vb p ss = (bs && decide (rootP n (dpOf p ss) (keyOf kb) = root)) by unfold accV; rw [hbs, decide_eq_true h1, decide_eq_true h2]; rfl]
   cases bs
   ·refine h_seq ?_
    refine h_reg ?_
    refine yM rfl ?_
    refine h_call (hsu.comes) rfl rfl rfl fun _ => ?_
    refine yM rfl ?_
    refine h_opOff ?_
    refine h_opOff ?_
    refine h_op (r_pick rfl rfl) ?_
    refine yS rfl ?_
    refine yN ?_
    refine h_ret ?_
    exact h_ret1 rfl rfl fun w s => ⟨⟨(z, k + if c.present then 1 else 0), hz, by dsimp only; split <;> omega⟩, rfl, (same (L' := [.zone true z, CN gc (k + if c.present then 1 else 0)]) w s).res (List.Sublist.refl _) (by simp [Fa.wr])⟩
   ·refine h_seq ?_
    refine h_reg ?_
    refine yM rfl ?_
    refine h_call (hsu.comes) rfl rfl rfl fun _ => ?_
    refine yM rfl ?_
    refine yM rfl ?_
    refine h_call (hle.comes) rfl rfl rfl fun _ => ?_
    refine h_op (r_pick rfl rfl) ?_
    refine yS rfl ?_
    refine yN ?_
    refine h_ret ?_
    exact h_ret1 rfl rfl fun w s => ⟨⟨(z, (k + if c.present then 1 else 0) + 1 + (dpOf p ss).d + 1), hz, by dsimp only; split <;> omega⟩, rfl, (same (L' := [.zone true z, CN gc ((k + if c.present then 1 else 0) + 1 + (dpOf p ss).d + 1)]) w s).res (List.Sublist.refl _) (by simp [Fa.wr])⟩
  ·rw [show accV n root c kb vb p ss = false by unfold accV; rw [decide_eq_false h2]; simp]
   refine yR ?_
   refine h_opX (x_box rfl) fun g5 => ?_
   refine h_opX (x_box rfl) fun g6 => ?_
   refine h_opX (x_box rfl) fun g7 => ?_
   refine yS rfl ?_
   refine yN ?_
   refine h_seq ?_
   refine yR ?_
   refine h_op (r_loadr rfl) ?_
   refine h_call (hC.comes) rfl rfl rfl fun _ => ?_
   refine h_op (r_bool (r_neq rfl rfl) rfl) ?_
   refine yM rfl ?_
   refine h_op (r_loadr rfl) ?_
   refine h_call (hCh.comes) rfl rfl rfl fun _ => ?_
   refine h_op (r_bool (r_neq rfl rfl) (decide_eq_true h2)) ?_
   refine h_op (r_pick rfl rfl) ?_
   refine yN ?_
   refine h_condT rfl ?_
   refine yR ?_
   refine yS rfl ?_
   refine yN ?_
   refine h_ret ?_
   refine q_thenR ?_
   exact h_ret1 rfl rfl fun w s => ⟨⟨(h, k), LeZ.refl h, Nat.le_add_right _ _⟩, rfl, (same (L' := [.zone true h, CN gc k]) w s).res (List.Sublist.refl _) (by simp [Fa.wr])⟩
 ·rw [show accV n root c kb vb p ss = false by unfold accV; rw [decide_eq_false h1]; simp]
  refine yR ?_
  refine h_opX (x_box rfl) fun g5 => ?_
  refine h_opX (x_box rfl) fun g6 => ?_
  refine h_opX (x_box rfl) fun g7 => ?_
  refine yS rfl ?_
  refine yN ?_
  refine h_seq ?_
  refine yR ?_
  refine h_op (r_loadr rfl) ?_
  refine h_call (hC.comes) rfl rfl rfl fun _ => ?_
  refine h_op (r_bool (r_neq rfl rfl) (decide_eq_true h1)) ?_
  refine yM rfl ?_
  refine h_opOff ?_
  refine h_opOff ?_
  refine h_opOff ?_
  refine h_op (r_pick rfl rfl) ?_
  refine yN ?_
  refine h_condT rfl ?_
  refine yR ?_
  refine yS rfl ?_
  refine yN ?_
  refine h_ret ?_
  refine q_thenR ?_
  exact h_ret1 rfl rfl fun w s => ⟨⟨(h, k), LeZ.refl h, Nat.le_add_right _ _⟩, rfl, (same (L' := [.zone true h, CN gc k]) w s).res (List.Sublist.refl _) (by simp [Fa.wr])⟩
end
end Go.Proofs.YtjhocljhhpkiiaaGreatDoor
/- U45r -/
namespace Go.Proofs.YtjhocljhhpkiiaaGreatDoor
open Go.RowKit
theorem rSupports_s (p : Proof) (key val : B32) (present : Bool) : Spec Tryz.prog 86 [.agg p.cells.toArray, .agg key.cells.toArray, .agg val.cells.toArray, .bool present].toArray [] [] (fun _ : Unit => .bool (supP p key val present)) (fun _ => []) := by
 have hlf : (p.leaf = ⟨key, val⟩) ↔ (p.leaf.key = key ∧ p.leaf.value = val) := by
  constructor
  ·intro e; rw [e]; exact ⟨rfl, rfl⟩
  ·rintro ⟨e1, e2⟩; rw [← e1, ← e2]
 unfold supP
 refine spec_of Tryz.func86 rfl (n := 52) rfl rfl ?_
 intro W
 rcases present with _ | _
 ·rw [if_neg (by simp)]
  by_cases h0 : p.kind = 0
  ·rw [if_neg (by omega), decide_eq_true h0]
   refine yR ?_
   refine h_opX (x_box rfl) fun g4 => ?_
   refine h_opX (x_box rfl) fun g5 => ?_
   refine h_opX (x_box rfl) fun g6 => ?_
   refine yS rfl ?_
   refine yN ?_
   refine h_seq ?_
   refine yR ?_
   refine yM rfl ?_
   refine yN ?_
   refine h_condF rfl ?_
   refine h_skip ?_
   refine q_then ?_
   refine h_seq ?_
   refine ha_start [.blk g4 p.cells 54, .blk g5 key.cells 35] [] mixed (same) ?_
   refine ha_takeP 0 rfl (r_field rfl) ?_
   refine ha_take 1 rfl (r_loadc rfl) ?_
   refine ha_takeP 2 rfl (r_bool (r_eql rfl rfl) (decide_eq_true h0)) ?_
   refine ha_takeP 3 rfl (r_move rfl) ?_
   refine ha_off 4 rfl ?_
   refine ha_off 5 rfl ?_
   refine ha_off 6 rfl ?_
   refine ha_off 7 rfl ?_
   refine ha_off 8 rfl ?_
   refine ha_off 9 rfl ?_
   refine ha_off 10 rfl ?_
   refine ha_off 11 rfl ?_
   refine ha_off 12 rfl ?_
   refine ha_off 13 rfl ?_
   refine ha_off 14 rfl ?_
   refine ha_off 15 rfl ?_
   refine ha_off 16 rfl ?_
   refine ha_off 17 rfl ?_
   refine ha_off 18 rfl ?_
   refine ha_off 19 rfl ?_
   refine ha_off 20 rfl ?_
   refine ha_off 21 rfl ?_
   refine ha_off 22 rfl ?_
   refine ha_off 23 rfl ?_
   refine ha_takeP 24 rfl (r_pick rfl rfl) ?_
   refine ha_takeP 25 rfl (r_assign rfl) ?_
   refine ha_done (by kernel_rfl) ?_
   refine q_then ?_
   refine h_ret ?_
   exact h_ret1 rfl rfl fun w s => ⟨(), rfl, s.res (List.nil_sublist _) (by simp)⟩
  ·by_cases h1 : p.kind = 1
   ·rw [if_pos h1]
    by_cases h2 : p.leaf.key = key
    ·rw [decide_eq_false (show ¬ (p.leaf.key ≠ key ∧ p.depth ≤ (common p.leaf.key key : Int)) from fun e => e.1 h2)]
     refine yR ?_
     refine h_opX (x_box rfl) fun g4 => ?_
     refine h_opX (x_box rfl) fun g5 => ?_
     refine h_opX (x_box rfl) fun g6 => ?_
     refine yS rfl ?_
     refine yN ?_
     refine h_seq ?_
     refine yR ?_
     refine yM rfl ?_
     refine yN ?_
     refine h_condF rfl ?_
     refine h_skip ?_
     refine q_then ?_
     refine h_seq ?_
     refine ha_start [.blk g4 p.cells 54, .blk g5 key.cells 35] [] mixed (same) ?_
     refine ha_takeP 0 rfl (r_field rfl) ?_
     refine ha_take 1 rfl (r_loadc rfl) ?_
     refine ha_takeP 2 rfl (r_bool (r_eql rfl rfl) (decide_eq_false h0)) ?_
     refine ha_takeP 3 rfl (r_move rfl) ?_
     refine ha_takeP 4 rfl (r_field rfl) ?_
     refine ha_take 5 rfl (r_loadc rfl) ?_
     refine ha_takeP 6 rfl (r_bool (r_eql rfl rfl) (decide_eq_true h1)) ?_
     refine ha_takeP 7 rfl (r_move rfl) ?_
     refine ha_takeP 8 rfl (r_field rfl) ?_
     refine ha_takeP 9 rfl (r_field rfl) ?_
     refine ha_take 10 rfl (r_loadr rfl) ?_
     refine ha_take 11 rfl (r_loadr rfl) ?_
     refine ha_takeP 12 rfl (r_bool (r_ner rfl rfl) (decide_eq_false (fun e => e h2))) ?_
     refine ha_takeP 13 rfl (r_pick rfl rfl) ?_
     refine ha_takeP 14 rfl (r_move rfl) ?_
     refine ha_off 15 rfl ?_
     refine ha_off 16 rfl ?_
     refine ha_off 17 rfl ?_
     refine ha_off 18 rfl ?_
     refine ha_off 19 rfl ?_
     refine ha_off 20 rfl ?_
     refine ha_off 21 rfl ?_
     refine ha_off 22 rfl ?_
     refine ha_takeP 23 rfl (r_pick rfl rfl) ?_
     refine ha_takeP 24 rfl (r_pick rfl rfl) ?_
     refine ha_takeP 25 rfl (r_assign rfl) ?_
     refine ha_done (by kernel_rfl) ?_
     refine q_then ?_
     refine h_ret ?_
     exact h_ret1 rfl rfl fun w s => ⟨(), rfl, s.res (List.nil_sublist _) (by simp)⟩
    ·refine h_seq ?_
     refine h_reg ?_
     refine h_opX (x_box rfl) fun g4 => ?_
     refine h_opX (x_box rfl) fun g5 => ?_
     refine h_opX (x_box rfl) fun g6 => ?_
     refine yS rfl ?_
     refine yN ?_
     refine h_seq ?_
     refine yR ?_
     refine yM rfl ?_
     refine yN ?_
     refine h_condF rfl ?_
     refine h_skip ?_
     refine q_then ?_
     refine h_seq ?_
     refine ha_start [.blk g4 p.cells 54, .blk g5 key.cells 35] [] mixed (same) ?_
     refine ha_takeP 0 rfl (r_field rfl) ?_
     refine ha_take 1 rfl (r_loadc rfl) ?_
     refine ha_takeP 2 rfl (r_bool (r_eql rfl rfl) (decide_eq_false h0)) ?_
     refine ha_takeP 3 rfl (r_move rfl) ?_
     refine ha_takeP 4 rfl (r_field rfl) ?_
     refine ha_take 5 rfl (r_loadc rfl) ?_
     refine ha_takeP 6 rfl (r_bool (r_eql rfl rfl) (decide_eq_true h1)) ?_
     refine ha_takeP 7 rfl (r_move rfl) ?_
     refine ha_takeP 8 rfl (r_field rfl) ?_
     refine ha_takeP 9 rfl (r_field rfl) ?_
     refine ha_take 10 rfl (r_loadr rfl) ?_
     refine ha_take 11 rfl (r_loadr rfl) ?_
     refine ha_takeP 12 rfl (r_bool (r_ner rfl rfl) (decide_eq_true h2)) ?_
     refine ha_takeP 13 rfl (r_pick rfl rfl) ?_
     refine ha_takeP 14 rfl (r_move rfl) ?_
     refine ha_takeP 15 rfl (r_field rfl) ?_
     refine ha_takeP 16 rfl (r_field rfl) ?_
     refine ha_take 17 rfl (r_loadr rfl) ?_
     refine ha_take 18 rfl (r_loadr rfl) ?_
     refine ha_takeP 20 rfl (r_field rfl) ?_
     refine ha_take 21 rfl (r_loadc rfl) ?_
     refine ha_one 19 ?_
     refine ho_C 19 rfl ((refCommon_s p.leaf.key key).comes) rfl rfl rfl (fun xx => same) fun _ => ?_
     refine ha_takeP 22 rfl (r_geq rfl rfl) ?_
     refine ha_takeP 23 rfl (r_pick rfl rfl) ?_
     refine ha_takeP 24 rfl (r_pick rfl rfl) ?_
     refine ha_takeP 25 rfl (r_assign rfl) ?_
     refine ha_done (by kernel_rfl) ?_
     refine q_then ?_
     refine h_ret ?_
     exact h_ret1 rfl rfl fun w s => ⟨(), by simp [h2], s.res (List.nil_sublist _) (by simp)⟩
   ·rw [if_neg h1, decide_eq_false h0]
    refine yR ?_
    refine h_opX (x_box rfl) fun g4 => ?_
    refine h_opX (x_box rfl) fun g5 => ?_
    refine h_opX (x_box rfl) fun g6 => ?_
    refine yS rfl ?_
    refine yN ?_
    refine h_seq ?_
    refine yR ?_
    refine yM rfl ?_
    refine yN ?_
    refine h_condF rfl ?_
    refine h_skip ?_
    refine q_then ?_
    refine h_seq ?_
    refine ha_start [.blk g4 p.cells 54, .blk g5 key.cells 35] [] mixed (same) ?_
    refine ha_takeP 0 rfl (r_field rfl) ?_
    refine ha_take 1 rfl (r_loadc rfl) ?_
    refine ha_takeP 2 rfl (r_bool (r_eql rfl rfl) (decide_eq_false h0)) ?_
    refine ha_takeP 3 rfl (r_move rfl) ?_
    refine ha_takeP 4 rfl (r_field rfl) ?_
    refine ha_take 5 rfl (r_loadc rfl) ?_
    refine ha_takeP 6 rfl (r_bool (r_eql rfl rfl) (decide_eq_false h1)) ?_
    refine ha_takeP 7 rfl (r_move rfl) ?_
    refine ha_off 8 rfl ?_
    refine ha_off 9 rfl ?_
    refine ha_off 10 rfl ?_
    refine ha_off 11 rfl ?_
    refine ha_off 12 rfl ?_
    refine ha_takeP 13 rfl (r_pick rfl rfl) ?_
    refine ha_takeP 14 rfl (r_move rfl) ?_
    refine ha_off 15 rfl ?_
    refine ha_off 16 rfl ?_
    refine ha_off 17 rfl ?_
    refine ha_off 18 rfl ?_
    refine ha_off 19 rfl ?_
    refine ha_off 20 rfl ?_
    refine ha_off 21 rfl ?_
    refine ha_off 22 rfl ?_
    refine ha_takeP 23 rfl (r_pick rfl rfl) ?_
    refine ha_takeP 24 rfl (r_pick rfl rfl) ?_
    refine ha_takeP 25 rfl (r_assign rfl) ?_
    refine ha_done (by kernel_rfl) ?_
    refine q_then ?_
    refine h_ret ?_
    exact h_ret1 rfl rfl fun w s => ⟨(), rfl, s.res (List.nil_sublist _) (by simp)⟩
 ·rw [if_pos rfl]
  by_cases h1 : p.kind = 1
  ·by_cases h2 : p.leaf.key = key
   ·refine h_seq ?_
    refine h_reg ?_
    refine h_opX (x_box rfl) fun g4 => ?_
    refine h_opX (x_box rfl) fun g5 => ?_
    refine h_opX (x_box rfl) fun g6 => ?_
    refine yS rfl ?_
    refine yN ?_
    refine h_seq ?_
    refine yR ?_
    refine yM rfl ?_
    refine yN ?_
    refine h_condT rfl ?_
    refine yR ?_
    refine h_op (r_field rfl) ?_
    refine h_op (r_loadc rfl) ?_
    refine h_op (r_bool (r_eql rfl rfl) (decide_eq_true h1)) ?_
    refine yM rfl ?_
    refine h_op (r_field rfl) ?_
    refine h_op (r_field rfl) ?_
    refine h_op (r_loadr rfl) ?_
    refine h_op (r_loadr rfl) ?_
    refine h_op (r_bool (r_eqr rfl rfl) (decide_eq_true h2)) ?_
    refine h_op (r_pick rfl rfl) ?_
    refine yM rfl ?_
    refine h_op (r_field rfl) ?_
    refine h_op (r_field rfl) ?_
    refine h_op (r_loadr rfl) ?_
    refine h_op (r_loadr rfl) ?_
    refine h_op (r_eqr rfl rfl) ?_
    refine h_op (r_pick rfl rfl) ?_
    refine yS rfl ?_
    refine yN ?_
    refine h_ret ?_
    refine q_thenR ?_
    exact h_ret1 rfl rfl fun w s => ⟨(), by simp [h1, h2, hlf], s.res (List.nil_sublist _) (by simp)⟩
   ·rw [decide_eq_false (show ¬ (p.kind = 1 ∧ p.leaf = ⟨key, val⟩) from fun e => h2 (hlf.1 e.2).1)]
    refine yR ?_
    refine h_opX (x_box rfl) fun g4 => ?_
    refine h_opX (x_box rfl) fun g5 => ?_
    refine h_opX (x_box rfl) fun g6 => ?_
    refine yS rfl ?_
    refine yN ?_
    refine h_seq ?_
    refine yR ?_
    refine yM rfl ?_
    refine yN ?_
    refine h_condT rfl ?_
    refine yR ?_
    refine h_op (r_field rfl) ?_
    refine h_op (r_loadc rfl) ?_
    refine h_op (r_bool (r_eql rfl rfl) (decide_eq_true h1)) ?_
    refine yM rfl ?_
    refine h_op (r_field rfl) ?_
    refine h_op (r_field rfl) ?_
    refine h_op (r_loadr rfl) ?_
    refine h_op (r_loadr rfl) ?_
    refine h_op (r_bool (r_eqr rfl rfl) (decide_eq_false h2)) ?_
    refine h_op (r_pick rfl rfl) ?_
    refine yM rfl ?_
    refine h_opOff ?_
    refine h_opOff ?_
    refine h_opOff ?_
    refine h_opOff ?_
    refine h_opOff ?_
    refine h_op (r_pick rfl rfl) ?_
    refine yS rfl ?_
    refine yN ?_
    refine h_ret ?_
    refine q_thenR ?_
    exact h_ret1 rfl rfl fun w s => ⟨(), rfl, s.res (List.nil_sublist _) (by simp)⟩
  ·rw [decide_eq_false (show ¬ (p.kind = 1 ∧ p.leaf = ⟨key, val⟩) from fun e => h1 e.1)]
   refine yR ?_
   refine h_opX (x_box rfl) fun g4 => ?_
   refine h_opX (x_box rfl) fun g5 => ?_
   refine h_opX (x_box rfl) fun g6 => ?_
   refine yS rfl ?_
   refine yN ?_
   refine h_seq ?_
   refine yR ?_
   refine yM rfl ?_
   refine yN ?_
   refine h_condT rfl ?_
   refine yR ?_
   refine h_op (r_field rfl) ?_
   refine h_op (r_loadc rfl) ?_
   refine h_op (r_bool (r_eql rfl rfl) (decide_eq_false h1)) ?_
   refine yM rfl ?_
   refine h_opOff ?_
   refine h_opOff ?_
   refine h_opOff ?_
   refine h_opOff ?_
   refine h_opOff ?_
   refine h_op (r_pick rfl rfl) ?_
   refine yM rfl ?_
   refine h_opOff ?_
   refine h_opOff ?_
   refine h_opOff ?_
   refine h_opOff ?_
   refine h_opOff ?_
   refine h_op (r_pick rfl rfl) ?_
   refine yS rfl ?_
   refine yN ?_
   refine h_ret ?_
   refine q_thenR ?_
   exact h_ret1 rfl rfl fun w s => ⟨(), rfl, s.res (List.nil_sublist _) (by simp)⟩
end Go.Proofs.YtjhocljhhpkiiaaGreatDoor
/- U23e -/
namespace Go.Proofs.YtjhocljhhpkiiaaGreatDoor
open Go.RowKit
theorem expL_succ (e : B32) (b : B32) (ss : List B32) (k : Nat) (x : B32) (h : x = if bitAt b k then ss.getD (dep b k).length zB32 else e) : dgs (expL e b ss k) ++ x.cells = dgs (expL e b ss (k + 1)) := by
 rw [expL, dgs_append, ← h]
 simp [dgs]
theorem rExpand_s (p : Proof) (hc : checkP p = 0) (ss : List B32) (hs : p.sibs.n = ss.length) (n : Nat) (hn : n ≤ 256) (d : Nat) (hd : p.depth = (d : Int)) : Spec Tryz.prog 89 [.int .i64 (n : Int), .agg p.cells.toArray].toArray [.rd p.sibs.A (dgs ss)] [] (fun u : Option Addr × Nat => .slice u.1 d u.2) (fun u => [.own (.slice u.1 d u.2) d 42 32 (dgs (expL (sumB n preE) p.bitmap ss d))]) := by
 have hd2 := ok_depth hc
 have hsb := ok_sibs hc
 refine spec_of Tryz.func89 rfl (n := 35) rfl rfl ?_
 intro W
 refine yR ?_
 refine h_opX (x_box rfl) fun g3 => ?_
 refine yS rfl ?_
 refine yN ?_
 refine yR ?_
 refine yS rfl ?_
 refine yN ?_
 refine yR ?_
 refine yS rfl ?_
 refine yN ?_
 refine h_seq ?_
 refine yR ?_
 refine yS rfl ?_
 refine yN ?_
 refine h_block ?_
 refine h_nil_own 42 32 (xs := dgs (expL (sumB n preE) p.bitmap ss 0)) rfl ?_
 refine h_loop (fun (s : Nat × Option Addr × Nat) => s.1 ≤ d) (fun (s : Nat × Option Addr × Nat) => [(7, .int .i64 (s.1 : Int)), (6, .int .i64 (((dep p.bitmap s.1).length : Nat) : Int)), (5, .slice s.2.1 s.1 s.2.2), (3, .pointer (some ⟨g3, 0, none⟩)), (0, .int .i64 (n : Int))]) (fun (s : Nat × Option Addr × Nat) => [.own (.slice s.2.1 s.1 s.2.2) s.1 42 32 (dgs (expL (sumB n preE) p.bitmap ss s.1)), .blk g3 p.cells 54, .rd p.sibs.A (dgs ss)]) (fun (s : Nat × Option Addr × Nat) => d - s.1) (0, none, 0) ((show 0 ≤ d by omega)) ⟨rfl, rfl, rfl, rfl, rfl, trivial⟩ (same) ?_
 rintro ⟨k, B, c⟩ hk
 dsimp only at hk ⊢
 have hdl := dep_len p.bitmap k
 refine h_seq ?_
 refine yR ?_
 refine yM rfl ?_
 refine h_op (r_field rfl) ?_
 refine h_op (r_int (r_loadc rfl) hd) ?_
 refine h_op (r_lss rfl rfl) ?_
 refine yN ?_
 refine h_cond rfl (fun h => ?_) (fun h => ?_)
 ·have hk256 : k < 256 := by omega
  refine h_skip ?_
  refine q_then ?_
  refine h_seq ?_
  refine h_block ?_
  refine yR ?_
  refine h_op (r_field rfl) ?_
  refine h_op (r_loadr rfl) ?_
  refine yM rfl ?_
  refine h_call ((refBit_s p.bitmap k hk256).comes) rfl rfl rfl fun _ => ?_
  refine h_op (r_bool (r_eql rfl rfl) (bitN_one p.bitmap k)) ?_
  refine yN ?_
  refine h_condB rfl (fun h2 => ?_) (fun h2 => ?_)
  ·have he := dep_yes h2
   have hl := dep_lt hk256 h2
   have hl1 : (dep p.bitmap (k + 1)).length = (dep p.bitmap k).length + 1 := by rw [he]; simp
   have hex := expL_succ (sumB n preE) p.bitmap ss k (ss.getD (dep p.bitmap k).length zB32) (by rw [if_pos h2])
   refine h_pure (φ := ∃ b o, p.sibs.A = some ⟨b, o, none⟩) (fun w s => Rd.some (s.ok (.rd p.sibs.A (dgs ss)) (by simp)) (by rw [dgs_len]; omega)) ?_
   rintro ⟨b, o, hA⟩
   refine yR ?_
   refine yM rfl ?_
   refine h_op (r_field rfl) ?_
   refine h_op (r_loadc rfl) ?_
   rw [hA]
   refine yM rfl ?_
   refine h_op (r_idx rfl rfl) ?_
   refine h_op (r_nthr rfl (out := (ss.getD (dep p.bitmap k).length zB32).cells) (B32.cells_length _) (dgs_at (by omega))) ?_
   refine h_opX (x_bsl rfl rfl) fun g25 => ?_
   refine h_opX (x_app rfl rfl (k := 32)) fun ⟨g26, c26⟩ => ?_
   refine yS rfl ?_
   refine yN ?_
   refine h_reg ?_
   refine yM rfl ?_
   refine h_op (r_add rfl rfl) ?_
   refine yS rfl ?_
   refine h_nil ?_
   refine q_block ?_
   refine q_then ?_
   refine h_reg ?_
   refine yM rfl ?_
   refine h_op (r_add rfl rfl) ?_
   refine yS rfl ?_
   refine h_nil ?_
   rw [hex]
   exact h_back (k + 1, some ⟨g26, 0, none⟩, c26) ((show k + 1 ≤ d by omega)) ((show d - (k + 1) < d - k by omega)) ⟨rfl, aI rfl (by dsimp only; omega), rfl, rfl, rfl, trivial⟩ (same)
  ·have he := dep_no (b := p.bitmap) (k := k) (by rw [h2]; simp)
   have hex := expL_succ (sumB n preE) p.bitmap ss k (sumB n preE) (by rw [if_neg (by rw [h2]; simp)])
   refine h_reg ?_
   refine yM rfl ?_
   refine yM rfl ?_
   refine h_call ((rEmpty_s n hn).comes) rfl rfl rfl fun _ => ?_
   refine h_opX (x_bsl rfl rfl) fun g32 => ?_
   refine h_opX (x_app rfl rfl (k := 32)) fun ⟨g33, c33⟩ => ?_
   refine yS rfl ?_
   refine h_nil ?_
   refine q_block ?_
   refine q_then ?_
   refine h_reg ?_
   refine yM rfl ?_
   refine h_op (r_add rfl rfl) ?_
   refine yS rfl ?_
   refine h_nil ?_
   rw [hex]
   exact h_back (k + 1, some ⟨g33, 0, none⟩, c33) ((show k + 1 ≤ d by omega)) ((show d - (k + 1) < d - k by omega)) ⟨rfl, aI rfl (by dsimp only; rw [he]), rfl, rfl, rfl, trivial⟩ (same)
 ·obtain rfl : k = d := by omega
  refine h_exit ?_
  refine q_thenE ?_
  refine q_thenE ?_
  refine q_blockE ?_
  refine q_then ?_
  refine yR ?_
  refine yM rfl ?_
  refine yS rfl ?_
  refine yN ?_
  refine h_ret ?_
  exact h_ret1 rfl rfl fun w s => ⟨(B, c), rfl, s.res ((List.nil_sublist _).cons_cons _) (by simp [Fa.wr])⟩
end Go.Proofs.YtjhocljhhpkiiaaGreatDoor
