/- The condition of two laid variables (the table of rounds, errors.errorType's handle); arguments that are claims, pairs of byte slices, roots with proofs, opened; Multiproofs: the subtrees that items describe: plain; multi: the subtree that items begin with; Arguments that are lists of items or of keys, opened; When a proof is well-formed: plain; The reference's depths and expansion; The reference's check; The reference: parts of bytes, decoding of proofs; verify.Check, Accepts; The reference's Supports; The reference's expansion; slices.Reverse; fold.Preimages; fold.Preimages; Rows of one's own, one by one: plain; The reference's preimages and steps; The reference's steps; rows of digests that are the same; The reference's checks of claims; Keys compared and checked; What mverify's checks of claims compute: plain (joined texts: TV E14 U62 TI U26p U23 U26 U97 U96 U45r U23e U21 U22 U24p U24 U25 U98 U69 E29) -/
import Derived.Test.YtjhocljhhpkiiaaGreatDoorF9
import Derived.LaidHandle
set_option linter.all false
/- TV -/
namespace Go.Proofs.YtjhocljhhpkiiaaGreatDoor
open Go.RowKit Go.ChangeShapes Go.WideShapes
section
variable {H : Type} {enc : TypeId × Value → H} {w : World} {base : Nat} {spare : Nat → Bool} {held : Bool} {v : Value} {d : DataW H} {ps : List MemPlace} {r : Reach} {b0 : Nat}
theorem c_bool : Tryz.prog.cellsOf 4 = 1 := by kernel_rfl
theorem c_Claim : Tryz.prog.cellsOf 25 = 3 := by kernel_rfl
theorem claimFields' : ∃ f1 f2 f3 : Field, Tryz.prog.underlying 25 = some (.struct #[f1, f2, f3]) ∧ f1.type = 23 ∧ f2.type = 23 ∧ f3.type = 4 ∧ f1.offset = 0 ∧ f2.offset = 1 ∧ f3.offset = 2 :=
 ⟨_, _, _, Tryz.underlying25, rfl, rfl, rfl, rfl, rfl, rfl⟩
theorem dec_bytes {fuel : Nat} {cs : List Value} {x : DataW H × List MemPlace} (h : DataW.trod enc Tryz.prog w base spare held fuel 23 cs = some x) : ∃ (s : Sl) (l : List UInt8), cs = [.slice s.A s.n s.c] ∧ SlZ (World.zh w) s l := by
 obtain ⟨l, A, c, e2, hlc, -, hA, hr, -⟩ := open_rows_t (f := fun b : UInt8 => [Value.int .u8 b.toNat]) (fun _ => rfl) Nat.one_pos Tryz.underlying23 c_u8 (fun _ => True) (fun fuel cs x h => by
  obtain ⟨n, rfl, _, hw⟩ := DataW.trod_int Tryz.underlying5 h
  have := bounds_u8 hw
  exact ⟨toByte (.int .u8 n), by rw [toByte_int this.1 this.2], trivial⟩) h
 rw [byteOf_bc] at hr
 refine ⟨⟨A, l.length, c⟩, l, e2, ⟨rfl, hlc, fun h0 => ?_, RdZ.of hr⟩⟩
 have := hA h0
 exact ⟨(show l.length = 0 by omega), this⟩
end
end Go.Proofs.YtjhocljhhpkiiaaGreatDoor
/- E14 -/
namespace Go.Proofs.YtjhocljhhpkiiaaGreatDoor
open Go.RowKit
inductive Sub where
 | one (x : Item)
 | two (l r : Sub)
def readM : Nat → List Item → Option (Sub × List Item)
 | _, [] => none
 | 0, x :: rest => if x.kind = 2 then none else some (.one x, rest)
 | d + 1, x :: rest => if x.kind = 2 then (readM d rest).bind fun p => (readM d p.2).bind fun q => some (.two p.1 q.1, q.2) else some (.one x, rest)
def kindOk (x : Item) : Bool := decide (0 ≤ x.kind) && decide (x.kind ≤ 3)
def cleanItem (x : Item) : Bool := (x.kind == 3 || decide (x.digest = zB32)) && (x.kind == 1 || decide (x.leaf = zLeaf))
def parseM (l : List Item) : Except Int Sub :=
 if l.all kindOk then
  match readM 256 l with
  | some (t, []) => if l.all cleanItem then .ok t else .error 5
  | _ => .error 5
 else .error 7
theorem all_take {α : Type} (p : α → Bool) (l : List α) (k : Nat) (x : α) (h : l[k]? = some x) : (l.take (k + 1)).all p = ((l.take k).all p && p x) := by
 rw [List.take_add_one, h, List.all_append]
 simp
theorem readM_suffix : ∀ (d : Nat) (l : List Item) (t : Sub) (rest : List Item), readM d l = some (t, rest) → ∃ n, 0 < n ∧ n ≤ l.length ∧ rest = l.drop n
 | _, [], t, rest, h => by cases ‹Nat› <;> simp [readM] at h
 | 0, x :: l, t, rest, h => by
  simp only [readM] at h
  split at h
  ·cases h
  ·simp only [Option.some.injEq, Prod.mk.injEq] at h
   exact ⟨1, by omega, by simp, by simp [h.2]⟩
 | d + 1, x :: l, t, rest, h => by
  simp only [readM] at h
  split at h
  ·obtain ⟨p, hp, h⟩ := Option.bind_eq_some_iff.1 h
   obtain ⟨q, hq, h⟩ := Option.bind_eq_some_iff.1 h
   obtain ⟨n, hn0, hn, e1⟩ := readM_suffix d l p.1 p.2 hp
   obtain ⟨m, hm0, hm, e2⟩ := readM_suffix d p.2 q.1 q.2 hq
   simp only [Option.some.injEq, Prod.mk.injEq] at h
   rw [e1, List.length_drop] at hm
   refine ⟨n + m + 1, by omega, by simp; omega, ?_⟩
   rw [← h.2, e2, e1, List.drop_drop]
   rfl
  ·simp only [Option.some.injEq, Prod.mk.injEq] at h
   exact ⟨1, by omega, by simp, by simp [h.2]⟩
def skipI (l : List Item) (r : Option (Sub × List Item)) : Int := match r with | none => -1 | some p => (l.length : Int) - p.2.length
def checkM (l : List Item) : Int := match parseM l with | .ok _ => 0 | .error c => c
theorem checkM_eq (l : List Item) : checkM l = if l.all kindOk then (if l.all cleanItem then (if l.length = 0 ∨ skipI l (readM 256 l) ≠ l.length then 5 else 0) else 5) else 7 := by
 unfold checkM parseM
 by_cases h1 : l.all kindOk = true
 ·rw [if_pos h1, if_pos h1]
  by_cases h2 : l.all cleanItem = true
  ·rw [if_pos h2]
   cases h3 : readM 256 l with
   | none =>
    have : (skipI l none) ≠ (l.length : Int) := by simp only [skipI]; omega
    simp [this]
   | some p =>
    obtain ⟨t, rest⟩ := p
    obtain ⟨n, hn0, hn, e1⟩ := readM_suffix 256 l t rest h3
    cases rest with
    | nil =>
     have h0 : l.length ≠ 0 := by omega
     have hs : skipI l (some (t, [])) = l.length := by simp [skipI]
     simp [h2, h0, hs]
    | cons y rest =>
     have hs : skipI l (some (t, y :: rest)) ≠ l.length := by simp only [skipI, List.length_cons]; omega
     simp [hs]
  ·have h2' : l.all cleanItem = false := by simpa using h2
   rw [if_neg h2]
   cases h3 : readM 256 l with
   | none => rfl
   | some p =>
    obtain ⟨t, rest⟩ := p
    cases rest <;> simp [h2']
 ·rw [if_neg h1, if_neg h1]
end Go.Proofs.YtjhocljhhpkiiaaGreatDoor
/- U62 -/
namespace Go.Proofs.YtjhocljhhpkiiaaGreatDoor
open Go.RowKit
instance iU62_1 : TIf Tryz.prog 228 := ⟨by kernel_rfl⟩
def Sub.tag : Sub → TypeId
 | .one _ => 235
 | .two _ _ => 232
def Sub.val : Sub → Value
 | .one x => .agg x.cells.toArray
 | .two l r => .agg #[.iface l.tag l.val, .iface r.tag r.val]
def its (l : List Item) : List Value := l.flatMap Item.cells
theorem its_len (l : List Item) : (its l).length = l.length * 97 := by
 induction l with
 | nil => rfl
 | cons x l ih =>
  show (x.cells ++ its l).length = _
  rw [List.length_append, ih, Item.cells_length, List.length_cons]; omega
theorem its_cons (x : Item) (l : List Item) : its (x :: l) = x.cells ++ its l := rfl
theorem its_tail {h : Zh} {A : Option Addr} {x : Item} {l : List Item} {c : Nat} (hr : RdZ h A (its (x :: l))) (hc : l.length + 1 ≤ c) : RdZ h (cutA A c 1 97) (its l) := by
 rw [its_cons] at hr
 unfold cutA
 split
 ·have : l = [] := List.eq_nil_of_length_eq_zero (by omega)
  rw [this]
  exact RdZ.nil _ _
 ·refine ⟨fun j v hv => ?_⟩
  have h1 := hr.at_ (97 + j) v (by rw [List.getElem?_append_right (by rw [Item.cells_length]; omega), Item.cells_length, Nat.add_sub_cancel_left]; exact hv)
  obtain ⟨b, o, rfl, h2⟩ := h1
  exact ⟨b, o + 97, by simp [Addr.add_mid], by rw [Nat.add_assoc]; exact h2⟩
section
variable (h : Zh)
theorem read_nil (A : Option Addr) (c : Nat) (i : Int) : Spec Tryz.prog 194 [.slice A 0 c, .int .i64 i].toArray [.zone false h] [] (fun _ : Unit => .tuple #[.nilIface, .slice none 0 0]) (fun _ => []) := by
 refine spec_of Tryz.func194 rfl (n := 47) rfl rfl ?_
 intro W
 refine yR ?_
 refine yS rfl ?_
 refine yS rfl ?_
 refine yN ?_
 refine h_seq ?_
 refine yR ?_
 refine yM rfl ?_
 refine h_op (r_len rfl) ?_
 refine h_op (r_bool (r_eql rfl rfl) (show _ = true from rfl)) ?_
 refine yN ?_
 refine h_condT rfl ?_
 refine yR ?_
 refine yS rfl ?_
 refine yS rfl ?_
 refine yN ?_
 refine h_ret ?_
 refine q_thenR ?_
 exact h_ret2 rfl rfl rfl fun w s => ⟨(), rfl, s.res (List.nil_sublist _) (by simp)⟩
theorem read_one (x : Item) (r : List Item) (hk : x.kind ≠ 2) (A : Option Addr) (c : Nat) (i : Int) [hr : RdZ h A (its (x :: r))] (hc : r.length + 1 ≤ c) : Spec Tryz.prog 194 [.slice A (r.length + 1) c, .int .i64 i].toArray [.zone false h] [] (fun _ : Unit => .tuple #[.iface (Sub.one x).tag (Sub.one x).val, .slice (cutA A c 1 97) r.length (c - 1)]) (fun _ => []) := by
 have h0 : 0 < (its (x :: r)).length := by rw [its_len, List.length_cons]; omega
 obtain ⟨b, o, rfl, -⟩ := hr.at_ 0 _ (List.getElem?_eq_getElem h0)
 have hx : ∀ j v, x.cells[j]? = some v → (its (x :: r))[0 + j]? = some v := fun j v hv => by rw [its_cons, Nat.zero_add, List.getElem?_append_left (List.getElem?_eq_some_iff.1 hv).1]; exact hv
 refine spec_of Tryz.func194 rfl (n := 47) rfl rfl ?_
 intro W
 refine yR ?_
 refine yS rfl ?_
 refine yS rfl ?_
 refine yN ?_
 refine h_seq ?_
 refine yR ?_
 refine yM rfl ?_
 refine h_op (r_len rfl) ?_
 refine h_op (r_bool (r_eql rfl rfl) (decide_eq_false (by omega))) ?_
 refine yN ?_
 refine h_condF rfl ?_
 refine h_skip ?_
 refine q_then ?_
 refine h_seq ?_
 refine ha_start [.zone false h] [] mixed (same) ?_
 refine ha_takeP 0 rfl (r_move rfl) ?_
 refine ha_takeP 1 rfl (r_idx rfl rfl) ?_
 refine ha_take 2 rfl (r_nthr rfl (out := x.cells) (Item.cells_length x) hx) ?_
 refine ha_takeP 3 rfl (r_move rfl) ?_
 refine ha_takeP 4 rfl (r_as (r_slL rfl rfl) (show _ = Value.slice (cutA (some ⟨b, o, none⟩) c 1 97) r.length (c - 1) by rw [Nat.add_sub_cancel])) ?_
 refine ha_one 5 ?_
 refine ho_X 5 rfl (rk (x_alloc)) (fun _ => same) fun g6 => ?_
 refine ha_one 6 ?_
 refine ho_S 6 rfl (s_storer rfl rfl) (same) ?_
 refine ha_takeP 7 rfl (r_assign rfl) ?_
 refine ha_done (by kernel_rfl) ?_
 refine q_then ?_
 refine h_seq ?_
 refine yR ?_
 refine h_op (r_field rfl) ?_
 refine h_op (r_loadc rfl) ?_
 refine h_op (r_bool (r_neq rfl rfl) (decide_eq_true hk)) ?_
 refine yN ?_
 refine h_condT rfl ?_
 refine yR ?_
 refine h_op (r_loadr rfl) ?_
 refine h_op (r_build rfl) ?_
 refine h_op (r_mkI rfl) ?_
 refine yM rfl ?_
 refine yS rfl ?_
 refine yS rfl ?_
 refine yN ?_
 refine h_ret ?_
 refine q_thenR ?_
 exact h_ret2 rfl rfl rfl fun w s => ⟨(), rfl, s.res (List.nil_sublist _) (by simp)⟩
theorem read_deep (x : Item) (r : List Item) (hk : x.kind = 2) (A : Option Addr) (c : Nat) (i : Int) (hi : 256 ≤ i) [hr : RdZ h A (its (x :: r))] (hc : r.length + 1 ≤ c) : Spec Tryz.prog 194 [.slice A (r.length + 1) c, .int .i64 i].toArray [.zone false h] [] (fun _ : Unit => .tuple #[.nilIface, .slice none 0 0]) (fun _ => []) := by
 have h0 : 0 < (its (x :: r)).length := by rw [its_len, List.length_cons]; omega
 obtain ⟨b, o, rfl, -⟩ := hr.at_ 0 _ (List.getElem?_eq_getElem h0)
 have hx : ∀ j v, x.cells[j]? = some v → (its (x :: r))[0 + j]? = some v := fun j v hv => by rw [its_cons, Nat.zero_add, List.getElem?_append_left (List.getElem?_eq_some_iff.1 hv).1]; exact hv
 refine spec_of Tryz.func194 rfl (n := 47) rfl rfl ?_
 intro W
 refine yR ?_
 refine yS rfl ?_
 refine yS rfl ?_
 refine yN ?_
 refine h_seq ?_
 refine yR ?_
 refine yM rfl ?_
 refine h_op (r_len rfl) ?_
 refine h_op (r_bool (r_eql rfl rfl) (decide_eq_false (by omega))) ?_
 refine yN ?_
 refine h_condF rfl ?_
 refine h_skip ?_
 refine q_then ?_
 refine h_seq ?_
 refine ha_start [.zone false h] [] mixed (same) ?_
 refine ha_takeP 0 rfl (r_move rfl) ?_
 refine ha_takeP 1 rfl (r_idx rfl rfl) ?_
 refine ha_take 2 rfl (r_nthr rfl (out := x.cells) (Item.cells_length x) hx) ?_
 refine ha_takeP 3 rfl (r_move rfl) ?_
 refine ha_takeP 4 rfl (r_as (r_slL rfl rfl) (show _ = Value.slice (cutA (some ⟨b, o, none⟩) c 1 97) r.length (c - 1) by rw [Nat.add_sub_cancel])) ?_
 refine ha_one 5 ?_
 refine ho_X 5 rfl (rk (x_alloc)) (fun _ => same) fun g6 => ?_
 refine ha_one 6 ?_
 refine ho_S 6 rfl (s_storer rfl rfl) (same) ?_
 refine ha_takeP 7 rfl (r_assign rfl) ?_
 refine ha_done (by kernel_rfl) ?_
 refine q_then ?_
 refine h_seq ?_
 refine yR ?_
 refine h_op (r_field rfl) ?_
 refine h_op (r_loadc rfl) ?_
 refine h_op (r_bool (r_neq rfl rfl) (decide_eq_false (fun h => h hk))) ?_
 refine yN ?_
 refine h_condF rfl ?_
 refine h_skip ?_
 refine q_then ?_
 refine h_seq ?_
 refine yR ?_
 refine yM rfl ?_
 refine h_op (r_bool (r_geq rfl rfl) (decide_eq_true (by omega))) ?_
 refine yN ?_
 refine h_condT rfl ?_
 refine yR ?_
 refine yS rfl ?_
 refine yS rfl ?_
 refine yN ?_
 refine h_ret ?_
 refine q_thenR ?_
 exact h_ret2 rfl rfl rfl fun w s => ⟨(), rfl, s.res (List.nil_sublist _) (by simp)⟩
def ReadS (d : Nat) (l : List Item) : Prop := ∀ (A : Option Addr) (c : Nat), RdZ h A (its l) → l.length ≤ c →
 match readM d l with
 | none => Spec Tryz.prog 194 [.slice A l.length c, .int .i64 (256 - (d : Int))].toArray [.zone false h] [] (fun _ : Unit => .tuple #[.nilIface, .slice none 0 0]) (fun _ => [])
 | some (t, r) => Spec Tryz.prog 194 [.slice A l.length c, .int .i64 (256 - (d : Int))].toArray [.zone false h] [] (fun y : {y : Option Addr × Nat // RdZ h y.1 (its r) ∧ r.length ≤ y.2} => .tuple #[.iface t.tag t.val, .slice y.1.1 r.length y.1.2]) (fun _ => [])
theorem read_no1 (x : Item) (r : List Item) (hk : x.kind = 2) (d : Nat) (hd : d < 256) (h1 : readM d r = none) (hS : ReadS h d r) (A : Option Addr) (c : Nat) [hr : RdZ h A (its (x :: r))] (hc : r.length + 1 ≤ c) : Spec Tryz.prog 194 [.slice A (r.length + 1) c, .int .i64 (256 - ((d + 1 : Nat) : Int))].toArray [.zone false h] [] (fun _ : Unit => .tuple #[.nilIface, .slice none 0 0]) (fun _ => []) := by
 have h0 : 0 < (its (x :: r)).length := by rw [its_len, List.length_cons]; omega
 have hT := hS _ _ (its_tail hr hc) (show r.length ≤ c - 1 by omega)
 rw [h1] at hT
 obtain ⟨b, o, rfl, -⟩ := hr.at_ 0 _ (List.getElem?_eq_getElem h0)
 have hx : ∀ j v, x.cells[j]? = some v → (its (x :: r))[0 + j]? = some v := fun j v hv => by rw [its_cons, Nat.zero_add, List.getElem?_append_left (List.getElem?_eq_some_iff.1 hv).1]; exact hv
 refine spec_of Tryz.func194 rfl (n := 47) rfl rfl ?_
 intro W
 refine yR ?_
 refine yS rfl ?_
 refine yS rfl ?_
 refine yN ?_
 refine h_seq ?_
 refine yR ?_
 refine yM rfl ?_
 refine h_op (r_len rfl) ?_
 refine h_op (r_bool (r_eql rfl rfl) (decide_eq_false (by omega))) ?_
 refine yN ?_
 refine h_condF rfl ?_
 refine h_skip ?_
 refine q_then ?_
 refine h_seq ?_
 refine ha_start [.zone false h] [] mixed (same) ?_
 refine ha_takeP 0 rfl (r_move rfl) ?_
 refine ha_takeP 1 rfl (r_idx rfl rfl) ?_
 refine ha_take 2 rfl (r_nthr rfl (out := x.cells) (Item.cells_length x) hx) ?_
 refine ha_takeP 3 rfl (r_move rfl) ?_
 refine ha_takeP 4 rfl (r_as (r_slL rfl rfl) (show _ = Value.slice (cutA (some ⟨b, o, none⟩) c 1 97) r.length (c - 1) by rw [Nat.add_sub_cancel])) ?_
 refine ha_one 5 ?_
 refine ho_X 5 rfl (rk (x_alloc)) (fun _ => same) fun g6 => ?_
 refine ha_one 6 ?_
 refine ho_S 6 rfl (s_storer rfl rfl) (same) ?_
 refine ha_takeP 7 rfl (r_assign rfl) ?_
 refine ha_done (by kernel_rfl) ?_
 refine q_then ?_
 refine h_seq ?_
 refine yR ?_
 refine h_op (r_field rfl) ?_
 refine h_op (r_loadc rfl) ?_
 refine h_op (r_bool (r_neq rfl rfl) (decide_eq_false (fun h => h hk))) ?_
 refine yN ?_
 refine h_condF rfl ?_
 refine h_skip ?_
 refine q_then ?_
 refine h_seq ?_
 refine yR ?_
 refine yM rfl ?_
 refine h_op (r_bool (r_geq rfl rfl) (decide_eq_false (by omega))) ?_
 refine yN ?_
 refine h_condF rfl ?_
 refine h_skip ?_
 refine q_then ?_
 refine yR ?_
 refine h_opX (x_alloc) fun g8 => ?_
 refine yN ?_
 refine h_seq ?_
 refine yR ?_
 refine yM rfl ?_
 refine yN ?_
 refine h_block ?_
 refine h_loop (fun (u : Unit) => True) (fun (u : Unit) => [(27, .int .i64 0), (8, .pointer (some ⟨g8, 0, none⟩)), (7, .slice (cutA (some ⟨b, o, none⟩) c 1 97) r.length (c - 1)), (1, .int .i64 (256 - ((d + 1 : Nat) : Int)))]) (fun (u : Unit) => [.blk g8 [.nilIface, .nilIface] 232, .zone false h]) (fun (u : Unit) => 0) () (trivial) ⟨rfl, rfl, rfl, rfl, trivial⟩ (same) ?_
 rintro ⟨⟩ -
 refine yR ?_
 refine h_op (r_lss rfl rfl) ?_
 refine yN ?_
 refine h_seq ?_
 refine h_condT rfl ?_
 refine h_skip ?_
 refine q_then ?_
 refine h_seq ?_
 refine h_block ?_
 refine yR ?_
 refine yM rfl ?_
 refine yS rfl ?_
 refine yN ?_
 refine yR ?_
 refine yM rfl ?_
 refine yM rfl ?_
 refine yM rfl ?_
 refine h_op (r_int (r_add rfl rfl) (show _ = 256 - (d : Int) by omega)) ?_
 refine h_call (hT.comes) rfl rfl rfl fun _ => ?_
 refine yM rfl ?_
 refine h_op (r_extract rfl rfl) ?_
 refine h_op (r_extract rfl rfl) ?_
 refine h_op (r_idxA rfl rfl) ?_
 refine h_opS (s_store rfl rfl rfl) ?_
 refine yS rfl ?_
 refine yN ?_
 refine yR ?_
 refine yM rfl ?_
 refine h_op (r_idxA rfl rfl) ?_
 refine h_op (r_loadc rfl) ?_
 refine h_op (r_nilnil rfl) ?_
 refine yN ?_
 refine h_condT rfl ?_
 refine yR ?_
 refine yS rfl ?_
 refine yS rfl ?_
 refine yN ?_
 refine h_ret ?_
 refine q_blockR ?_
 refine q_thenR ?_
 refine q_thenR ?_
 refine q_blockR ?_
 refine q_thenR ?_
 exact h_ret2 rfl rfl rfl fun w s => ⟨(), rfl, s.res (List.nil_sublist _) (by simp)⟩
theorem read_no2 (x : Item) (r r1 : List Item) (t1 : Sub) (hk : x.kind = 2) (d : Nat) (hd : d < 256) (h1 : readM d r = some (t1, r1)) (h2 : readM d r1 = none) (hS : ReadS h d r) (hS1 : ReadS h d r1) (A : Option Addr) (c : Nat) [hr : RdZ h A (its (x :: r))] (hc : r.length + 1 ≤ c) : Spec Tryz.prog 194 [.slice A (r.length + 1) c, .int .i64 (256 - ((d + 1 : Nat) : Int))].toArray [.zone false h] [] (fun _ : Unit => .tuple #[.nilIface, .slice none 0 0]) (fun _ => []) := by
 have hT2 : ∀ A c, RdZ h A (its r1) → r1.length ≤ c → Spec Tryz.prog 194 [.slice A r1.length c, .int .i64 (256 - (d : Int))].toArray [.zone false h] [] (fun _ : Unit => .tuple #[.nilIface, .slice none 0 0]) (fun _ => []) := fun A c a b => by
  have := hS1 A c a b
  rw [h2] at this
  exact this
 have h0 : 0 < (its (x :: r)).length := by rw [its_len, List.length_cons]; omega
 have hz0 := its_tail hr hc
 have hT1 : ∀ A c, RdZ h A (its r) → r.length ≤ c → Spec Tryz.prog 194 [.slice A r.length c, .int .i64 (256 - (d : Int))].toArray [.zone false h] [] (fun y : {y : Option Addr × Nat // RdZ h y.1 (its r1) ∧ r1.length ≤ y.2} => .tuple #[.iface t1.tag t1.val, .slice y.1.1 r1.length y.1.2]) (fun _ => []) := fun A c a b => by
  have := hS A c a b
  rw [h1] at this
  exact this
 obtain ⟨b, o, rfl, -⟩ := hr.at_ 0 _ (List.getElem?_eq_getElem h0)
 have hx : ∀ j v, x.cells[j]? = some v → (its (x :: r))[0 + j]? = some v := fun j v hv => by rw [its_cons, Nat.zero_add, List.getElem?_append_left (List.getElem?_eq_some_iff.1 hv).1]; exact hv
 refine spec_of Tryz.func194 rfl (n := 47) rfl rfl ?_
 intro W
 refine yR ?_
 refine yS rfl ?_
 refine yS rfl ?_
 refine yN ?_
 refine h_seq ?_
 refine yR ?_
 refine yM rfl ?_
 refine h_op (r_len rfl) ?_
 refine h_op (r_bool (r_eql rfl rfl) (decide_eq_false (by omega))) ?_
 refine yN ?_
 refine h_condF rfl ?_
 refine h_skip ?_
 refine q_then ?_
 refine h_seq ?_
 refine ha_start [.zone false h] [] mixed (same) ?_
 refine ha_takeP 0 rfl (r_move rfl) ?_
 refine ha_takeP 1 rfl (r_idx rfl rfl) ?_
 refine ha_take 2 rfl (r_nthr rfl (out := x.cells) (Item.cells_length x) hx) ?_
 refine ha_takeP 3 rfl (r_move rfl) ?_
 refine ha_takeP 4 rfl (r_as (r_slL rfl rfl) (show _ = Value.slice (cutA (some ⟨b, o, none⟩) c 1 97) r.length (c - 1) by rw [Nat.add_sub_cancel])) ?_
 refine ha_one 5 ?_
 refine ho_X 5 rfl (rk (x_alloc)) (fun _ => same) fun g6 => ?_
 refine ha_one 6 ?_
 refine ho_S 6 rfl (s_storer rfl rfl) (same) ?_
 refine ha_takeP 7 rfl (r_assign rfl) ?_
 refine ha_done (by kernel_rfl) ?_
 refine q_then ?_
 refine h_seq ?_
 refine yR ?_
 refine h_op (r_field rfl) ?_
 refine h_op (r_loadc rfl) ?_
 refine h_op (r_bool (r_neq rfl rfl) (decide_eq_false (fun h => h hk))) ?_
 refine yN ?_
 refine h_condF rfl ?_
 refine h_skip ?_
 refine q_then ?_
 refine h_seq ?_
 refine yR ?_
 refine yM rfl ?_
 refine h_op (r_bool (r_geq rfl rfl) (decide_eq_false (by omega))) ?_
 refine yN ?_
 refine h_condF rfl ?_
 refine h_skip ?_
 refine q_then ?_
 refine yR ?_
 refine h_opX (x_alloc) fun g8 => ?_
 refine yN ?_
 refine h_seq ?_
 refine yR ?_
 refine yM rfl ?_
 refine yN ?_
 refine h_block ?_
 refine h_loop (fun (s : Nat × Value × List Item × Option Addr × Nat) => (s.1 = 0 ∧ s.2.1 = .nilIface ∧ s.2.2.1 = r ∧ RdZ h s.2.2.2.1 (its r) ∧ r.length ≤ s.2.2.2.2) ∨ (s.1 = 1 ∧ s.2.1 = .iface t1.tag t1.val ∧ s.2.2.1 = r1 ∧ RdZ h s.2.2.2.1 (its r1) ∧ r1.length ≤ s.2.2.2.2)) (fun (s : Nat × Value × List Item × Option Addr × Nat) => [(27, .int .i64 (s.1 : Int)), (8, .pointer (some ⟨g8, 0, none⟩)), (7, .slice s.2.2.2.1 s.2.2.1.length s.2.2.2.2), (1, .int .i64 (256 - ((d + 1 : Nat) : Int)))]) (fun (s : Nat × Value × List Item × Option Addr × Nat) => [.blk g8 [s.2.1, .nilIface] 232, .zone false h]) (fun (s : Nat × Value × List Item × Option Addr × Nat) => 2 - s.1) (0, .nilIface, r, cutA (some ⟨b, o, none⟩) c 1 97, c - 1) ((.inl ⟨rfl, rfl, rfl, hz0, (show r.length ≤ c - 1 by omega)⟩)) ⟨rfl, rfl, rfl, rfl, trivial⟩ (same) ?_
 rintro ⟨i, v1, l, Ar, cr⟩ hp
 dsimp only at hp ⊢
 rcases hp with ⟨rfl, rfl, rfl, hz, hcr⟩ | ⟨rfl, rfl, rfl, hz, hcr⟩
 ·refine h_seq ?_
  refine h_reg ?_
  refine h_op (r_lss rfl rfl) ?_
  refine yN ?_
  refine h_seq ?_
  refine h_condT rfl ?_
  refine h_skip ?_
  refine q_then ?_
  refine h_seq ?_
  refine h_block ?_
  refine yR ?_
  refine yM rfl ?_
  refine yS rfl ?_
  refine yN ?_
  refine yR ?_
  refine yM rfl ?_
  refine yM rfl ?_
  refine yM rfl ?_
  refine h_op (r_int (r_add rfl rfl) (show _ = 256 - (d : Int) by omega)) ?_
  refine h_call ((hT1 Ar cr hz hcr).comes) rfl rfl rfl fun ⟨⟨A1, c1⟩, hz1, hc1⟩ => ?_
  dsimp only at hz1 hc1 ⊢
  refine yM rfl ?_
  refine h_op (r_extract rfl rfl) ?_
  refine h_op (r_extract rfl rfl) ?_
  refine h_op (r_idxA rfl rfl) ?_
  refine h_opS (s_store rfl rfl rfl) ?_
  refine yS rfl ?_
  refine yN ?_
  refine yR ?_
  refine yM rfl ?_
  refine h_op (r_idxA rfl rfl) ?_
  refine h_op (r_loadc rfl) ?_
  refine h_op (r_ifnil rfl) ?_
  refine yN ?_
  refine h_condF rfl ?_
  refine h_skip ?_
  refine q_block ?_
  refine q_then ?_
  refine h_reg ?_
  refine h_op (r_add rfl rfl) ?_
  refine yM rfl ?_
  refine h_nil ?_
  exact h_back (1, .iface t1.tag t1.val, r1, A1, c1) ((.inr ⟨rfl, rfl, rfl, hz1, hc1⟩)) ((show 2 - 1 < 2 - 0 by omega)) ⟨rfl, rfl, rfl, rfl, trivial⟩ (same)
 ·refine h_seq ?_
  refine h_reg ?_
  refine h_op (r_lss rfl rfl) ?_
  refine yN ?_
  refine h_seq ?_
  refine h_condT rfl ?_
  refine h_skip ?_
  refine q_then ?_
  refine h_seq ?_
  refine h_block ?_
  refine yR ?_
  refine yM rfl ?_
  refine yS rfl ?_
  refine yN ?_
  refine yR ?_
  refine yM rfl ?_
  refine yM rfl ?_
  refine yM rfl ?_
  refine h_op (r_int (r_add rfl rfl) (show _ = 256 - (d : Int) by omega)) ?_
  refine h_call ((hT2 Ar cr hz hcr).comes) rfl rfl rfl fun _ => ?_
  refine yM rfl ?_
  refine h_op (r_extract rfl rfl) ?_
  refine h_op (r_extract rfl rfl) ?_
  refine h_op (r_idxA rfl rfl) ?_
  refine h_opS (s_store rfl rfl rfl) ?_
  refine yS rfl ?_
  refine yN ?_
  refine yR ?_
  refine yM rfl ?_
  refine h_op (r_idxA rfl rfl) ?_
  refine h_op (r_loadc rfl) ?_
  refine h_op (r_nilnil rfl) ?_
  refine yN ?_
  refine h_condT rfl ?_
  refine yR ?_
  refine yS rfl ?_
  refine yS rfl ?_
  refine yN ?_
  refine h_ret ?_
  refine q_blockR ?_
  refine q_thenR ?_
  refine q_thenR ?_
  refine q_blockR ?_
  refine q_thenR ?_
  exact h_ret2 rfl rfl rfl fun w s => ⟨(), rfl, s.res (List.nil_sublist _) (by simp)⟩
theorem read_yes2 (x : Item) (r r1 r2 : List Item) (t1 t2 : Sub) (hk : x.kind = 2) (d : Nat) (hd : d < 256) (h1 : readM d r = some (t1, r1)) (h2 : readM d r1 = some (t2, r2)) (hS : ReadS h d r) (hS1 : ReadS h d r1) (A : Option Addr) (c : Nat) [hr : RdZ h A (its (x :: r))] (hc : r.length + 1 ≤ c) : Spec Tryz.prog 194 [.slice A (r.length + 1) c, .int .i64 (256 - ((d + 1 : Nat) : Int))].toArray [.zone false h] [] (fun y : {y : Option Addr × Nat // RdZ h y.1 (its r2) ∧ r2.length ≤ y.2} => .tuple #[.iface (Sub.two t1 t2).tag (Sub.two t1 t2).val, .slice y.1.1 r2.length y.1.2]) (fun _ => []) := by
 have hT2 : ∀ A c, RdZ h A (its r1) → r1.length ≤ c → Spec Tryz.prog 194 [.slice A r1.length c, .int .i64 (256 - (d : Int))].toArray [.zone false h] [] (fun y : {y : Option Addr × Nat // RdZ h y.1 (its r2) ∧ r2.length ≤ y.2} => .tuple #[.iface t2.tag t2.val, .slice y.1.1 r2.length y.1.2]) (fun _ => []) := fun A c a b => by
  have := hS1 A c a b
  rw [h2] at this
  exact this
 have h0 : 0 < (its (x :: r)).length := by rw [its_len, List.length_cons]; omega
 have hz0 := its_tail hr hc
 have hT1 : ∀ A c, RdZ h A (its r) → r.length ≤ c → Spec Tryz.prog 194 [.slice A r.length c, .int .i64 (256 - (d : Int))].toArray [.zone false h] [] (fun y : {y : Option Addr × Nat // RdZ h y.1 (its r1) ∧ r1.length ≤ y.2} => .tuple #[.iface t1.tag t1.val, .slice y.1.1 r1.length y.1.2]) (fun _ => []) := fun A c a b => by
  have := hS A c a b
  rw [h1] at this
  exact this
 obtain ⟨b, o, rfl, -⟩ := hr.at_ 0 _ (List.getElem?_eq_getElem h0)
 have hx : ∀ j v, x.cells[j]? = some v → (its (x :: r))[0 + j]? = some v := fun j v hv => by rw [its_cons, Nat.zero_add, List.getElem?_append_left (List.getElem?_eq_some_iff.1 hv).1]; exact hv
 refine spec_of Tryz.func194 rfl (n := 47) rfl rfl ?_
 intro W
 refine yR ?_
 refine yS rfl ?_
 refine yS rfl ?_
 refine yN ?_
 refine h_seq ?_
 refine yR ?_
 refine yM rfl ?_
 refine h_op (r_len rfl) ?_
 refine h_op (r_bool (r_eql rfl rfl) (decide_eq_false (by omega))) ?_
 refine yN ?_
 refine h_condF rfl ?_
 refine h_skip ?_
 refine q_then ?_
 refine h_seq ?_
 refine ha_start [.zone false h] [] mixed (same) ?_
 refine ha_takeP 0 rfl (r_move rfl) ?_
 refine ha_takeP 1 rfl (r_idx rfl rfl) ?_
 refine ha_take 2 rfl (r_nthr rfl (out := x.cells) (Item.cells_length x) hx) ?_
 refine ha_takeP 3 rfl (r_move rfl) ?_
 refine ha_takeP 4 rfl (r_as (r_slL rfl rfl) (show _ = Value.slice (cutA (some ⟨b, o, none⟩) c 1 97) r.length (c - 1) by rw [Nat.add_sub_cancel])) ?_
 refine ha_one 5 ?_
 refine ho_X 5 rfl (rk (x_alloc)) (fun _ => same) fun g6 => ?_
 refine ha_one 6 ?_
 refine ho_S 6 rfl (s_storer rfl rfl) (same) ?_
 refine ha_takeP 7 rfl (r_assign rfl) ?_
 refine ha_done (by kernel_rfl) ?_
 refine q_then ?_
 refine h_seq ?_
 refine yR ?_
 refine h_op (r_field rfl) ?_
 refine h_op (r_loadc rfl) ?_
 refine h_op (r_bool (r_neq rfl rfl) (decide_eq_false (fun h => h hk))) ?_
 refine yN ?_
 refine h_condF rfl ?_
 refine h_skip ?_
 refine q_then ?_
 refine h_seq ?_
 refine yR ?_
 refine yM rfl ?_
 refine h_op (r_bool (r_geq rfl rfl) (decide_eq_false (by omega))) ?_
 refine yN ?_
 refine h_condF rfl ?_
 refine h_skip ?_
 refine q_then ?_
 refine yR ?_
 refine h_opX (x_alloc) fun g8 => ?_
 refine yN ?_
 refine h_seq ?_
 refine yR ?_
 refine yM rfl ?_
 refine yN ?_
 refine h_block ?_
 refine h_loop (fun (s : Nat × (Value × Value) × List Item × Option Addr × Nat) => (s.1 = 0 ∧ s.2.1 = (.nilIface, .nilIface) ∧ s.2.2.1 = r ∧ RdZ h s.2.2.2.1 (its r) ∧ r.length ≤ s.2.2.2.2) ∨ (s.1 = 1 ∧ s.2.1 = (.iface t1.tag t1.val, .nilIface) ∧ s.2.2.1 = r1 ∧ RdZ h s.2.2.2.1 (its r1) ∧ r1.length ≤ s.2.2.2.2) ∨ (s.1 = 2 ∧ s.2.1 = (.iface t1.tag t1.val, .iface t2.tag t2.val) ∧ s.2.2.1 = r2 ∧ RdZ h s.2.2.2.1 (its r2) ∧ r2.length ≤ s.2.2.2.2)) (fun (s : Nat × (Value × Value) × List Item × Option Addr × Nat) => [(27, .int .i64 (s.1 : Int)), (8, .pointer (some ⟨g8, 0, none⟩)), (7, .slice s.2.2.2.1 s.2.2.1.length s.2.2.2.2), (1, .int .i64 (256 - ((d + 1 : Nat) : Int)))]) (fun (s : Nat × (Value × Value) × List Item × Option Addr × Nat) => [.blk g8 [s.2.1.1, s.2.1.2] 232, .zone false h]) (fun (s : Nat × (Value × Value) × List Item × Option Addr × Nat) => 2 - s.1) (0, (.nilIface, .nilIface), r, cutA (some ⟨b, o, none⟩) c 1 97, c - 1) ((.inl ⟨rfl, rfl, rfl, hz0, (show r.length ≤ c - 1 by omega)⟩)) ⟨rfl, rfl, rfl, rfl, trivial⟩ (same) ?_
 rintro ⟨i, v1, l, Ar, cr⟩ hp
 dsimp only at hp ⊢
 rcases hp with ⟨rfl, rfl, rfl, hz, hcr⟩ | ⟨rfl, rfl, rfl, hz, hcr⟩ | ⟨rfl, rfl, rfl, hz, hcr⟩
 ·refine h_seq ?_
  refine h_reg ?_
  refine h_op (r_lss rfl rfl) ?_
  refine yN ?_
  refine h_seq ?_
  refine h_condT rfl ?_
  refine h_skip ?_
  refine q_then ?_
  refine h_seq ?_
  refine h_block ?_
  refine yR ?_
  refine yM rfl ?_
  refine yS rfl ?_
  refine yN ?_
  refine yR ?_
  refine yM rfl ?_
  refine yM rfl ?_
  refine yM rfl ?_
  refine h_op (r_int (r_add rfl rfl) (show _ = 256 - (d : Int) by omega)) ?_
  refine h_call ((hT1 Ar cr hz hcr).comes) rfl rfl rfl fun ⟨⟨A1, c1⟩, hz1, hc1⟩ => ?_
  dsimp only at hz1 hc1 ⊢
  refine yM rfl ?_
  refine h_op (r_extract rfl rfl) ?_
  refine h_op (r_extract rfl rfl) ?_
  refine h_op (r_idxA rfl rfl) ?_
  refine h_opS (s_store rfl rfl rfl) ?_
  refine yS rfl ?_
  refine yN ?_
  refine yR ?_
  refine yM rfl ?_
  refine h_op (r_idxA rfl rfl) ?_
  refine h_op (r_loadc rfl) ?_
  refine h_op (r_ifnil rfl) ?_
  refine yN ?_
  refine h_condF rfl ?_
  refine h_skip ?_
  refine q_block ?_
  refine q_then ?_
  refine h_reg ?_
  refine h_op (r_add rfl rfl) ?_
  refine yM rfl ?_
  refine h_nil ?_
  exact h_back (1, (.iface t1.tag t1.val, .nilIface), r1, A1, c1) ((.inr (.inl ⟨rfl, rfl, rfl, hz1, hc1⟩))) ((show 2 - 1 < 2 - 0 by omega)) ⟨rfl, rfl, rfl, rfl, trivial⟩ (same)
 ·refine h_seq ?_
  refine h_reg ?_
  refine h_op (r_lss rfl rfl) ?_
  refine yN ?_
  refine h_seq ?_
  refine h_condT rfl ?_
  refine h_skip ?_
  refine q_then ?_
  refine h_seq ?_
  refine h_block ?_
  refine yR ?_
  refine yM rfl ?_
  refine yS rfl ?_
  refine yN ?_
  refine yR ?_
  refine yM rfl ?_
  refine yM rfl ?_
  refine yM rfl ?_
  refine h_op (r_int (r_add rfl rfl) (show _ = 256 - (d : Int) by omega)) ?_
  refine h_call ((hT2 Ar cr hz hcr).comes) rfl rfl rfl fun ⟨⟨A1, c1⟩, hz1, hc1⟩ => ?_
  dsimp only at hz1 hc1 ⊢
  refine yM rfl ?_
  refine h_op (r_extract rfl rfl) ?_
  refine h_op (r_extract rfl rfl) ?_
  refine h_op (r_idxA rfl rfl) ?_
  refine h_opS (s_store rfl rfl rfl) ?_
  refine yS rfl ?_
  refine yN ?_
  refine yR ?_
  refine yM rfl ?_
  refine h_op (r_idxA rfl rfl) ?_
  refine h_op (r_loadc rfl) ?_
  refine h_op (r_ifnil rfl) ?_
  refine yN ?_
  refine h_condF rfl ?_
  refine h_skip ?_
  refine q_block ?_
  refine q_then ?_
  refine h_reg ?_
  refine h_op (r_add rfl rfl) ?_
  refine yM rfl ?_
  refine h_nil ?_
  exact h_back (2, (.iface t1.tag t1.val, .iface t2.tag t2.val), r2, A1, c1) ((.inr (.inr ⟨rfl, rfl, rfl, hz1, hc1⟩))) ((show 2 - 2 < 2 - 1 by omega)) ⟨rfl, rfl, rfl, rfl, trivial⟩ (same)
 ·refine h_seq ?_
  refine h_reg ?_
  refine h_op (r_lss rfl rfl) ?_
  refine yN ?_
  refine h_seq ?_
  refine h_condF rfl ?_
  refine h_exit ?_
  refine q_thenE ?_
  refine q_thenE ?_
  refine q_blockE ?_
  refine q_then ?_
  refine yR ?_
  refine h_op (r_loadr rfl) ?_
  refine h_op (r_mkI rfl) ?_
  refine yM rfl ?_
  refine yS rfl ?_
  refine yS rfl ?_
  refine yN ?_
  refine h_ret ?_
  exact h_ret2 rfl rfl rfl fun w s => ⟨⟨(Ar, cr), hz, hcr⟩, rfl, s.res (List.nil_sublist _) (by simp)⟩
theorem read_all : ∀ (d : Nat), d ≤ 256 → ∀ l : List Item, ReadS h d l
 | d, hd, [] => fun A c _ _ => by
  have : readM d [] = none := by cases d <;> rfl
  rw [this]
  exact read_nil h A c _
 | 0, hd, x :: r => fun A c hr hc => by
  unfold readM
  by_cases hk : x.kind = 2
  ·rw [if_pos hk]
   exact read_deep h x r hk A c _ (by simp) hc
  ·rw [if_neg hk]
   intro w hw hR
   exact (read_one h x r hk A c _ (hr := hr) hc w hw hR).mono fun e w' ⟨_, e1, e2⟩ => ⟨⟨(cutA A c 1 97, c - 1), its_tail hr hc, by have : r.length + 1 ≤ c := hc; dsimp only; omega⟩, e1, e2⟩
 | d + 1, hd, x :: r => fun A c hr hc => by
  have ih := fun l => read_all d (by omega) l
  unfold readM
  by_cases hk : x.kind = 2
  ·rw [if_pos hk]
   cases h1 : readM d r with
   | none => exact read_no1 h x r hk d (by omega) h1 (ih r) A c hc
   | some p =>
    obtain ⟨t1, r1⟩ := p
    show match (readM d r1).bind fun q => some (Sub.two t1 q.1, q.2) with | none => _ | some (t, r) => _
    cases h2 : readM d r1 with
    | none => exact read_no2 h x r r1 t1 hk d (by omega) h1 h2 (ih r) (ih r1) A c hc
    | some q =>
     obtain ⟨t2, r2⟩ := q
     exact read_yes2 h x r r1 r2 t1 t2 hk d (by omega) h1 h2 (ih r) (ih r1) A c hc
  ·rw [if_neg hk]
   intro w hw hR
   exact (read_one h x r hk A c _ (hr := hr) hc w hw hR).mono fun e w' ⟨_, e1, e2⟩ => ⟨⟨(cutA A c 1 97, c - 1), its_tail hr hc, by have : r.length + 1 ≤ c := hc; dsimp only; omega⟩, e1, e2⟩
end
end Go.Proofs.YtjhocljhhpkiiaaGreatDoor
/- TI -/
namespace Go.Proofs.YtjhocljhhpkiiaaGreatDoor
open Go.RowKit Go.ChangeShapes Go.WideShapes
section
variable {H : Type} {enc : TypeId × Value → H} {w : World} {base : Nat} {spare : Nat → Bool} {held : Bool} {v : Value} {d : DataW H} {ps : List MemPlace} {r : Reach} {b0 : Nat}
theorem c_Item : Tryz.prog.cellsOf 126 = 97 := by kernel_rfl
theorem itemFieldsO : ∃ f1 f2 f3 : Field, Tryz.prog.underlying 126 = some (.struct #[f1, f2, f3]) ∧ f1.type = 3 ∧ f2.type = 42 ∧ f3.type = 51 ∧ f1.offset = 0 ∧ f2.offset = 1 ∧ f3.offset = 33 :=
 ⟨_, _, _, Tryz.underlying126, rfl, rfl, rfl, rfl, rfl, rfl⟩
instance : Inhabited Item := ⟨zItem⟩
set_option maxRecDepth 100000 in
theorem dec_It {fuel : Nat} {cs : List Value} {x : DataW H × List MemPlace} (h : DataW.trod enc Tryz.prog w base spare held fuel 126 cs = some x) : ∃ y : Item, cs = y.cells ∧ True := by
 obtain ⟨f1, f2, f3, hT, t1, t2, t3, o1, o2, o3⟩ := itemFieldsO
 obtain ⟨g1, g2, hL, -, -, s1, s2, p1, p2⟩ := leafFields'
 obtain ⟨xs, n, -, -, hl, hxl, hx⟩ := DataW.trod_struct hT h
 rw [c_Item] at hl
 have hxl' : xs.length = 3 := hxl
 have k1 := hx 0 f1 rfl
 have k2 := hx 1 f2 rfl
 have k3 := hx 2 f3 rfl
 rw [List.getElem?_eq_getElem (by omega)] at k1 k2 k3
 rw [o1, t1, c_int, List.drop_zero] at k1
 rw [o2, t2, c_Digest] at k2
 rw [o3, t3, c_Leaf] at k3
 obtain ⟨m1, e1, -, -⟩ := DataW.trod_int Tryz.underlying3 k1
 obtain ⟨y2, e2⟩ := dec_B32 Tryz.underlying42 c_Digest Tryz.underlying5 c_u8 k2
 obtain ⟨y3, e3⟩ := dec_Leaf hL c_Leaf p1 p2 (by rw [s1]; exact Tryz.underlying35) (by rw [s2]; exact Tryz.underlying42) (by rw [s1]; exact c_Key) (by rw [s2]; exact c_Digest) Tryz.underlying5 c_u8 k3
 refine ⟨⟨m1, y2, y3⟩, ?_, trivial⟩
 have r1 : cs = cs.take 1 ++ ((cs.drop 1).take 32 ++ (cs.drop 33).take 64) := by
  rw [List.take_of_length_le (l := cs.drop 33) (by simp; omega)]
  rw [show cs.drop 33 = (cs.drop 1).drop 32 by rw [List.drop_drop], List.take_append_drop, List.take_append_drop]
 rw [r1, e1, e2, e3]
 rfl
end
end Go.Proofs.YtjhocljhhpkiiaaGreatDoor
/- U26p -/
namespace Go.Proofs.YtjhocljhhpkiiaaGreatDoor
open Go.RowKit
end Go.Proofs.YtjhocljhhpkiiaaGreatDoor
/- U23 -/
namespace Go.Proofs.YtjhocljhhpkiiaaGreatDoor
open Go.RowKit
end Go.Proofs.YtjhocljhhpkiiaaGreatDoor
/- U26 -/
namespace Go.Proofs.YtjhocljhhpkiiaaGreatDoor
open Go.RowKit
end Go.Proofs.YtjhocljhhpkiiaaGreatDoor
/- U97 -/
namespace Go.Proofs.YtjhocljhhpkiiaaGreatDoor
open Go.RowKit
def fillP (f : Nat → UInt8) (k : Nat) : List UInt8 := (List.range k).map f ++ List.replicate (32 - k) 0
theorem fillP_len (f : Nat → UInt8) {k : Nat} (h : k ≤ 32) : (fillP f k).length = 32 := by simp [fillP]; omega
theorem fillP_set (f : Nat → UInt8) {k : Nat} (h : k < 32) : (fillP f k).set k (f k) = fillP f (k + 1) := by
 unfold fillP
 rw [List.set_append_right _ _ (by simp), show 32 - k = (32 - (k + 1)) + 1 by omega, List.replicate_succ]
 simp only [List.length_map, List.length_range, Nat.sub_self, List.set_cons_zero]
 rw [List.range_succ, List.map_append, List.append_assoc]
 rfl
theorem fillP_all (l : List UInt8) (o : Nat) : fillP (fun j => l.getD (o + j) 0) 32 = (b32At l o).1 := by
 show (List.range 32).map _ ++ List.replicate 0 0 = _
 rw [List.replicate_zero, List.append_nil]
 rfl
theorem rOf_s (l : List UInt8) (A : Option Addr) (c : Nat) (hl : l.length = 32) : Spec Tryz.prog 70 [.slice A l.length c].toArray [.rd A (bc l)] [] (fun _ : Unit => .agg (keyOf l).cells.toArray) (fun _ => []) := by
 have hko : (b32At l 0) = keyOf l := by
  have h1 := b32At_drop (l := l) (o := 0) (by omega)
  rw [List.drop_zero, List.drop_of_length_le (by omega), List.append_nil] at h1
  unfold keyOf
  rw [dif_pos hl]
  exact Subtype.ext h1.symm
 rw [← hko]
 refine spec_of Tryz.func70 rfl (n := 16) rfl rfl ?_
 intro W
 refine h_pure (φ := ∃ b o, A = some ⟨b, o, none⟩) (fun w s => Rd.some (s.ok (.rd A (bc l)) (by simp)) (by rw [bc_length]; omega)) ?_
 rintro ⟨b, o, rfl⟩
 refine yR ?_
 refine h_opX (x_alloc) fun g2 => ?_
 refine yN ?_
 refine yR ?_
 refine h_opX (x_alloc) fun g3 => ?_
 refine yN ?_
 refine h_seq ?_
 refine yR ?_
 refine yS rfl ?_
 refine yN ?_
 refine h_block ?_
 change H _ _ _ _ _ (.blk g3 (bc (fillP (fun j => l.getD (0 + j) 0) 0)) _ :: _) _
 refine h_loop (fun (k : Nat) => k ≤ 32) (fun (k : Nat) => [(4, .int .i64 (k : Int)), (3, .pointer (some ⟨g3, 0, none⟩)), (2, .pointer (some ⟨g2, 0, none⟩)), (0, .slice (some ⟨b, o, none⟩) l.length c)]) (fun (k : Nat) => [.blk g3 (bc (fillP (fun j => l.getD (0 + j) 0) k)) 35, .blk g2 zB32.cells 35, .rd (some ⟨b, o, none⟩) (bc l)]) (fun (k : Nat) => 32 - k) 0 ((show 0 ≤ 32 by omega)) ⟨rfl, rfl, rfl, rfl, trivial⟩ (same) ?_
 rintro k hk
 refine h_seq ?_
 refine yR ?_
 refine yM rfl ?_
 refine h_op (r_lss rfl rfl) ?_
 refine yN ?_
 refine h_cond rfl (fun hlt => ?_) (fun hlt => ?_)
 ·have hfl := fillP_len (fun j => l.getD (0 + j) 0) (k := k) hk
  refine h_skip ?_
  refine q_then ?_
  refine h_seq ?_
  refine h_block ?_
  refine h_reg ?_
  refine yM rfl ?_
  refine yM rfl ?_
  refine yM rfl ?_
  refine h_op (r_idx rfl rfl) ?_
  refine h_op (r_nth rfl (bc_at' (l := l) (i := k) (by omega))) ?_
  refine h_op (r_idxA rfl rfl) ?_
  refine h_opS (s_setB rfl rfl) ?_
  refine h_nil ?_
  refine q_block ?_
  refine q_then ?_
  refine h_reg ?_
  refine yM rfl ?_
  refine h_op (r_add rfl rfl) ?_
  refine yS rfl ?_
  refine h_nil ?_
  change H _ _ _ _ _ (.blk g3 (bc ((fillP (fun j => l.getD (0 + j) 0) k).set k (l.getD k 0))) _ :: _) _
  rw [show l.getD k 0 = l.getD (0 + k) 0 by rw [Nat.zero_add], fillP_set (fun j => l.getD (0 + j) 0) (by omega)]
  exact h_back (k + 1) ((show k + 1 ≤ 32 by omega)) ((show 32 - (k + 1) < 32 - k by omega)) ⟨rfl, rfl, rfl, rfl, trivial⟩ (same)
 ·obtain rfl : k = 32 := by omega
  rw [fillP_all]
  change H _ _ _ _ _ (.blk g3 (b32At l 0).cells _ :: _) _
  refine h_exit ?_
  refine q_thenE ?_
  refine q_thenE ?_
  refine q_blockE ?_
  refine q_then ?_
  refine yR ?_
  refine h_op (r_loadr rfl) ?_
  refine h_opS (s_storer rfl rfl) ?_
  refine yN ?_
  refine h_ret ?_
  exact h_ret1 rfl (rv_row rfl) fun w s => ⟨(), rfl, s.res (List.nil_sublist _) (by simp)⟩
end Go.Proofs.YtjhocljhhpkiiaaGreatDoor
/- U96 -/
namespace Go.Proofs.YtjhocljhhpkiiaaGreatDoor
open Go.RowKit
theorem r_ifnn {P : Program} {n : Nat} {D : List Deferred} {E : Env} {L : List Fa} {T T' : TypeId} {t : Nat} {u : TypeId} {v : Value} [hT : TIf P T] (hx : ev E (.tmp t) = some (.iface u v)) : Runs0 P n D E L (.binOp .neq T (.tmp t) (.const .nilIface) T') (.bool true) := fun a w ka s o ho =>
 run_bin ho (ka.ev hx) (v := .nilIface) rfl rfl (run_neq_held_nil w T u v hT.und)
theorem r_nilnn {P : Program} {n : Nat} {D : List Deferred} {E : Env} {L : List Fa} {T T' : TypeId} {t : Nat} [hT : TIf P T] (hx : ev E (.tmp t) = some .nilIface) : Runs0 P n D E L (.binOp .neq T (.tmp t) (.const .nilIface) T') (.bool false) := fun a w ka s o ho =>
 run_bin ho (ka.ev hx) (v := .nilIface) rfl rfl (run_neq_nil_nil w T hT.und)
def dpOf (p : Proof) (ss : List B32) : DP := ⟨p.kind.toNat, p.depth.toNat, p.leaf, p.bitmap, ss⟩
theorem ok_kind {p : Proof} (h : checkP p = 0) : p.kind = 0 ∨ p.kind = 1 := by simpa [okJ] using checkP_zero h 0 (by omega)
theorem dpOf_pr {p : Proof} {ss : List B32} (hs : p.sibs.n = ss.length) (hc : checkP p = 0) : p = (dpOf p ss).pr p.sibs.A p.sibs.c := by
 have h1 := ok_depth hc
 have h2 := ok_kind hc
 obtain ⟨k, d, lf, bm, A, N, c⟩ := p
 dsimp only at hs h1 h2
 subst hs
 unfold DP.pr dpOf
 dsimp only
 rw [Int.toNat_of_nonneg (by omega), Int.toNat_of_nonneg (by omega)]
theorem checkP_sib (p : DP) (A A' : Option Addr) (c c' : Nat) : checkP (p.pr A c) = checkP (p.pr A' c') := rfl
section
variable (n : Nat) (hn : n ≤ 256) (h : Zh) [hT : RdZ h (some ⟨1, 0, none⟩) hashT] (gh gc k : Nat) (hk : k ≤ 100000000) (root : B32) (c : Claim) (kb vb : List UInt8) [hK : SlZ h c.key kb] [hV : SlZ h c.value vb] (hvl : vb.length ≤ 100000000) (p : Proof) (ss : List B32) (hs : p.sibs.n = ss.length) [hS : RdZ h p.sibs.A (dgs ss)]
include hn hk hvl hs
def accV (n : Nat) (root : B32) (c : Claim) (kb vb : List UInt8) (p : Proof) (ss : List B32) : Bool := decide (claimE c = 0) && decide (checkP p = 0) && (supP p (keyOf kb) (valD n c.present vb) c.present && decide (rootP n (dpOf p ss) (keyOf kb) = root))
theorem Accepts_s : Spec Tryz.prog 45 [.pointer (some ⟨gh, 0, none⟩), .agg root.cells.toArray, .agg c.cells.toArray, .agg p.cells.toArray].toArray [HR gh gc n] [.zone true h, CN gc k] (fun u : {u : Zh × Nat // LeZ h u.1 ∧ u.2 ≤ k + 259} => .bool (accV n root c kb vb p ss)) (fun u => [.zone true u.1.1, CN gc u.1.2]) := by
 have hkn := hK.len
 have hC := Claim_s c
 have hCh := Check_s p
 refine spec_of Tryz.func45 rfl (n := 30) rfl rfl ?_
 intro W
 by_cases h1 : claimE c = 0
 ·rw [h1] at hC
  have hk32 : kb.length = 32 := by
   unfold claimE at h1
   split at h1
   ·omega
   ·cases h1
  by_cases h2 : checkP p = 0
  ·rw [h2] at hCh
   have hpe := dpOf_pr hs h2
   refine yR ?_
   refine h_opX (x_box rfl) fun g5 => ?_
   refine h_opX (x_box rfl) fun g6 => ?_
   refine h_opX (x_box rfl) fun g7 => ?_
   refine yS rfl ?_
   refine yN ?_
   refine h_seq ?_
   refine yR ?_
   refine h_op (r_loadr rfl) ?_
   refine h_call (hC.comes) rfl rfl rfl fun _ => ?_
   refine h_op (r_bool (r_neq rfl rfl) rfl) ?_
   refine yM rfl ?_
   refine h_op (r_loadr rfl) ?_
   refine h_call (hCh.comes) rfl rfl rfl fun _ => ?_
   refine h_op (r_bool (r_neq rfl rfl) rfl) ?_
   refine h_op (r_pick rfl rfl) ?_
   refine yN ?_
   refine h_condF rfl ?_
   refine h_skip ?_
   refine q_then ?_
   refine h_seq ?_
   refine ha_start [.blk g5 root.cells 42, .blk g6 c.cells 25, .blk g7 p.cells 54] [] mixed (same) ?_
   refine ha_takeP 0 rfl (r_move rfl) ?_
   refine ha_takeP 1 rfl (r_slA rfl) ?_
   refine ha_take 2 rfl (r_loadr rfl) ?_
   refine ha_take 3 rfl (r_loadr rfl) ?_
   refine ha_takeP 4 rfl (r_build rfl) ?_
   refine ha_one 5 ?_
   refine ho_X 5 rfl (rk (x_box rfl)) (fun _ => same) fun g23 => ?_
   refine ha_takeP 6 rfl (r_assign rfl) ?_
   refine ha_done (by kernel_rfl) ?_
   refine q_then ?_
   change H _ _ _ _ _ (.blk g23 (Chk.cells ⟨some ⟨gh, 0, none⟩, ⟨some ⟨g5, 0, none⟩, 32, 32⟩, c, ⟨none, 0, 0⟩, p⟩) _ :: _) _
   refine h_freeze g5 (cs := root.cells) (T := 42) fun z hz hrz => ?_
   have hTz : RdZ z (some ⟨1, 0, none⟩) hashT := hT.mono hz
   have hKz : SlZ z c.key kb := hK.mono hz
   have hVz : SlZ z c.value vb := hV.mono hz
   have hSz : RdZ z p.sibs.A (dgs ss) := hS.mono hz
   have hRz : SlZ z ⟨some ⟨g5, 0, none⟩, 32, 32⟩ root.1 := ⟨root.2.symm, Nat.le_refl _, (fun h => by cases h), hrz⟩
   have hrk : keyOf root.1 = root := by unfold keyOf; rw [dif_pos root.2]
   have hsu := supports_s n hn z gh gc k g23 (by omega) ⟨some ⟨gh, 0, none⟩, ⟨some ⟨g5, 0, none⟩, 32, 32⟩, c, ⟨none, 0, 0⟩, p⟩ rfl kb vb hk32 hvl
   obtain ⟨bs, hbs⟩ : ∃ bs, supP p (keyOf kb) (valD n c.present vb) c.present = bs := ⟨_, rfl⟩
   rw [hbs] at hsu
   have hdd : (dpOf p ss).d ≤ 256 := by have h9 := ok_depth h2; show p.depth.toNat ≤ 256; omega
   have hck2 : checkP ((dpOf p ss).pr none 0) = 0 := by rw [checkP_sib _ none p.sibs.A 0 p.sibs.c, ← hpe]; exact h2
   have hle := leads_s n hn z gh gc (k + if c.present then 1 else 0) g23 (by split <;> omega) ⟨some ⟨gh, 0, none⟩, ⟨some ⟨g5, 0, none⟩, 32, 32⟩, c, ⟨none, 0, 0⟩, p⟩ rfl kb hk32 root.1 root.2 (dpOf p ss) p.sibs.A p.sibs.c hpe hck2
   rw [hrk] at hle
   rw [show accV n root c kb vb p ss = (bs && decide (rootP n (dpOf p ss) (keyOf kb) = root)) by unfold accV; rw [hbs, decide_eq_true h1, decide_eq_true h2]; rfl]
   cases bs
   ·refine h_seq ?_
    refine h_reg ?_
    refine yM rfl ?_
    refine h_call (hsu.comes) rfl rfl rfl fun _ => ?_
    refine yM rfl ?_
    refine h_opOff ?_
    refine h_opOff ?_
    refine h_op (r_pick rfl rfl) ?_
    refine yS rfl ?_
    refine yN ?_
    refine h_ret ?_
    exact h_ret1 rfl rfl fun w s => ⟨⟨(z, k + if c.present then 1 else 0), hz, by dsimp only; split <;> omega⟩, rfl, (same (L' := [.zone true z, CN gc (k + if c.present then 1 else 0)]) w s).res (List.Sublist.refl _) (by simp [Fa.wr])⟩
   ·refine h_seq ?_
    refine h_reg ?_
    refine yM rfl ?_
    refine h_call (hsu.comes) rfl rfl rfl fun _ => ?_
    refine yM rfl ?_
    refine yM rfl ?_
    refine h_call (hle.comes) rfl rfl rfl fun _ => ?_
    refine h_op (r_pick rfl rfl) ?_
    refine yS rfl ?_
    refine yN ?_
    refine h_ret ?_
    exact h_ret1 rfl rfl fun w s => ⟨⟨(z, (k + if c.present then 1 else 0) + 1 + (dpOf p ss).d + 1), hz, by dsimp only; split <;> omega⟩, rfl, (same (L' := [.zone true z, CN gc ((k + if c.present then 1 else 0) + 1 + (dpOf p ss).d + 1)]) w s).res (List.Sublist.refl _) (by simp [Fa.wr])⟩
  ·rw [show accV n root c kb vb p ss = false by unfold accV; rw [decide_eq_false h2]; simp]
   refine yR ?_
   refine h_opX (x_box rfl) fun g5 => ?_
   refine h_opX (x_box rfl) fun g6 => ?_
   refine h_opX (x_box rfl) fun g7 => ?_
   refine yS rfl ?_
   refine yN ?_
   refine h_seq ?_
   refine yR ?_
   refine h_op (r_loadr rfl) ?_
   refine h_call (hC.comes) rfl rfl rfl fun _ => ?_
   refine h_op (r_bool (r_neq rfl rfl) rfl) ?_
   refine yM rfl ?_
   refine h_op (r_loadr rfl) ?_
   refine h_call (hCh.comes) rfl rfl rfl fun _ => ?_
   refine h_op (r_bool (r_neq rfl rfl) (decide_eq_true h2)) ?_
   refine h_op (r_pick rfl rfl) ?_
   refine yN ?_
   refine h_condT rfl ?_
   refine yR ?_
   refine yS rfl ?_
   refine yN ?_
   refine h_ret ?_
   refine q_thenR ?_
   exact h_ret1 rfl rfl fun w s => ⟨⟨(h, k), LeZ.refl h, Nat.le_add_right _ _⟩, rfl, (same (L' := [.zone true h, CN gc k]) w s).res (List.Sublist.refl _) (by simp [Fa.wr])⟩
 ·rw [show accV n root c kb vb p ss = false by unfold accV; rw [decide_eq_false h1]; simp]
  refine yR ?_
  refine h_opX (x_box rfl) fun g5 => ?_
  refine h_opX (x_box rfl) fun g6 => ?_
  refine h_opX (x_box rfl) fun g7 => ?_
  refine yS rfl ?_
  refine yN ?_
  refine h_seq ?_
  refine yR ?_
  refine h_op (r_loadr rfl) ?_
  refine h_call (hC.comes) rfl rfl rfl fun _ => ?_
  refine h_op (r_bool (r_neq rfl rfl) (decide_eq_true h1)) ?_
  refine yM rfl ?_
  refine h_opOff ?_
  refine h_opOff ?_
  refine h_opOff ?_
  refine h_op (r_pick rfl rfl) ?_
  refine yN ?_
  refine h_condT rfl ?_
  refine yR ?_
  refine yS rfl ?_
  refine yN ?_
  refine h_ret ?_
  refine q_thenR ?_
  exact h_ret1 rfl rfl fun w s => ⟨⟨(h, k), LeZ.refl h, Nat.le_add_right _ _⟩, rfl, (same (L' := [.zone true h, CN gc k]) w s).res (List.Sublist.refl _) (by simp [Fa.wr])⟩
end
end Go.Proofs.YtjhocljhhpkiiaaGreatDoor
/- U45r -/
namespace Go.Proofs.YtjhocljhhpkiiaaGreatDoor
open Go.RowKit
theorem rSupports_s (p : Proof) (key val : B32) (present : Bool) : Spec Tryz.prog 86 [.agg p.cells.toArray, .agg key.cells.toArray, .agg val.cells.toArray, .bool present].toArray [] [] (fun _ : Unit => .bool (supP p key val present)) (fun _ => []) := by
 have hlf : (p.leaf = ⟨key, val⟩) ↔ (p.leaf.key = key ∧ p.leaf.value = val) := by
  constructor
  ·intro e; rw [e]; exact ⟨rfl, rfl⟩
  ·rintro ⟨e1, e2⟩; rw [← e1, ← e2]
 unfold supP
 refine spec_of Tryz.func86 rfl (n := 52) rfl rfl ?_
 intro W
 rcases present with _ | _
 ·rw [if_neg (by simp)]
  by_cases h0 : p.kind = 0
  ·rw [if_neg (by omega), decide_eq_true h0]
   refine yR ?_
   refine h_opX (x_box rfl) fun g4 => ?_
   refine h_opX (x_box rfl) fun g5 => ?_
   refine h_opX (x_box rfl) fun g6 => ?_
   refine yS rfl ?_
   refine yN ?_
   refine h_seq ?_
   refine yR ?_
   refine yM rfl ?_
   refine yN ?_
   refine h_condF rfl ?_
   refine h_skip ?_
   refine q_then ?_
   refine h_seq ?_
   refine ha_start [.blk g4 p.cells 54, .blk g5 key.cells 35] [] mixed (same) ?_
   refine ha_takeP 0 rfl (r_field rfl) ?_
   refine ha_take 1 rfl (r_loadc rfl) ?_
   refine ha_takeP 2 rfl (r_bool (r_eql rfl rfl) (decide_eq_true h0)) ?_
   refine ha_takeP 3 rfl (r_move rfl) ?_
   refine ha_off 4 rfl ?_
   refine ha_off 5 rfl ?_
   refine ha_off 6 rfl ?_
   refine ha_off 7 rfl ?_
   refine ha_off 8 rfl ?_
   refine ha_off 9 rfl ?_
   refine ha_off 10 rfl ?_
   refine ha_off 11 rfl ?_
   refine ha_off 12 rfl ?_
   refine ha_off 13 rfl ?_
   refine ha_off 14 rfl ?_
   refine ha_off 15 rfl ?_
   refine ha_off 16 rfl ?_
   refine ha_off 17 rfl ?_
   refine ha_off 18 rfl ?_
   refine ha_off 19 rfl ?_
   refine ha_off 20 rfl ?_
   refine ha_off 21 rfl ?_
   refine ha_off 22 rfl ?_
   refine ha_off 23 rfl ?_
   refine ha_takeP 24 rfl (r_pick rfl rfl) ?_
   refine ha_takeP 25 rfl (r_assign rfl) ?_
   refine ha_done (by kernel_rfl) ?_
   refine q_then ?_
   refine h_ret ?_
   exact h_ret1 rfl rfl fun w s => ⟨(), rfl, s.res (List.nil_sublist _) (by simp)⟩
  ·by_cases h1 : p.kind = 1
   ·rw [if_pos h1]
    by_cases h2 : p.leaf.key = key
    ·rw [decide_eq_false (show ¬ (p.leaf.key ≠ key ∧ p.depth ≤ (common p.leaf.key key : Int)) from fun e => e.1 h2)]
     refine yR ?_
     refine h_opX (x_box rfl) fun g4 => ?_
     refine h_opX (x_box rfl) fun g5 => ?_
     refine h_opX (x_box rfl) fun g6 => ?_
     refine yS rfl ?_
     refine yN ?_
     refine h_seq ?_
     refine yR ?_
     refine yM rfl ?_
     refine yN ?_
     refine h_condF rfl ?_
     refine h_skip ?_
     refine q_then ?_
     refine h_seq ?_
     refine ha_start [.blk g4 p.cells 54, .blk g5 key.cells 35] [] mixed (same) ?_
     refine ha_takeP 0 rfl (r_field rfl) ?_
     refine ha_take 1 rfl (r_loadc rfl) ?_
     refine ha_takeP 2 rfl (r_bool (r_eql rfl rfl) (decide_eq_false h0)) ?_
     refine ha_takeP 3 rfl (r_move rfl) ?_
     refine ha_takeP 4 rfl (r_field rfl) ?_
     refine ha_take 5 rfl (r_loadc rfl) ?_
     refine ha_takeP 6 rfl (r_bool (r_eql rfl rfl) (decide_eq_true h1)) ?_
     refine ha_takeP 7 rfl (r_move rfl) ?_
     refine ha_takeP 8 rfl (r_field rfl) ?_
     refine ha_takeP 9 rfl (r_field rfl) ?_
     refine ha_take 10 rfl (r_loadr rfl) ?_
     refine ha_take 11 rfl (r_loadr rfl) ?_
     refine ha_takeP 12 rfl (r_bool (r_ner rfl rfl) (decide_eq_false (fun e => e h2))) ?_
     refine ha_takeP 13 rfl (r_pick rfl rfl) ?_
     refine ha_takeP 14 rfl (r_move rfl) ?_
     refine ha_off 15 rfl ?_
     refine ha_off 16 rfl ?_
     refine ha_off 17 rfl ?_
     refine ha_off 18 rfl ?_
     refine ha_off 19 rfl ?_
     refine ha_off 20 rfl ?_
     refine ha_off 21 rfl ?_
     refine ha_off 22 rfl ?_
     refine ha_takeP 23 rfl (r_pick rfl rfl) ?_
     refine ha_takeP 24 rfl (r_pick rfl rfl) ?_
     refine ha_takeP 25 rfl (r_assign rfl) ?_
     refine ha_done (by kernel_rfl) ?_
     refine q_then ?_
     refine h_ret ?_
     exact h_ret1 rfl rfl fun w s => ⟨(), rfl, s.res (List.nil_sublist _) (by simp)⟩
    ·refine h_seq ?_
     refine h_reg ?_
     refine h_opX (x_box rfl) fun g4 => ?_
     refine h_opX (x_box rfl) fun g5 => ?_
     refine h_opX (x_box rfl) fun g6 => ?_
     refine yS rfl ?_
     refine yN ?_
     refine h_seq ?_
     refine yR ?_
     refine yM rfl ?_
     refine yN ?_
     refine h_condF rfl ?_
     refine h_skip ?_
     refine q_then ?_
     refine h_seq ?_
     refine ha_start [.blk g4 p.cells 54, .blk g5 key.cells 35] [] mixed (same) ?_
     refine ha_takeP 0 rfl (r_field rfl) ?_
     refine ha_take 1 rfl (r_loadc rfl) ?_
     refine ha_takeP 2 rfl (r_bool (r_eql rfl rfl) (decide_eq_false h0)) ?_
     refine ha_takeP 3 rfl (r_move rfl) ?_
     refine ha_takeP 4 rfl (r_field rfl) ?_
     refine ha_take 5 rfl (r_loadc rfl) ?_
     refine ha_takeP 6 rfl (r_bool (r_eql rfl rfl) (decide_eq_true h1)) ?_
     refine ha_takeP 7 rfl (r_move rfl) ?_
     refine ha_takeP 8 rfl (r_field rfl) ?_
     refine ha_takeP 9 rfl (r_field rfl) ?_
     refine ha_take 10 rfl (r_loadr rfl) ?_
     refine ha_take 11 rfl (r_loadr rfl) ?_
     refine ha_takeP 12 rfl (r_bool (r_ner rfl rfl) (decide_eq_true h2)) ?_
     refine ha_takeP 13 rfl (r_pick rfl rfl) ?_
     refine ha_takeP 14 rfl (r_move rfl) ?_
     refine ha_takeP 15 rfl (r_field rfl) ?_
     refine ha_takeP 16 rfl (r_field rfl) ?_
     refine ha_take 17 rfl (r_loadr rfl) ?_
     refine ha_take 18 rfl (r_loadr rfl) ?_
     refine ha_takeP 20 rfl (r_field rfl) ?_
     refine ha_take 21 rfl (r_loadc rfl) ?_
     refine ha_one 19 ?_
     refine ho_C 19 rfl ((refCommon_s p.leaf.key key).comes) rfl rfl rfl (fun xx => same) fun _ => ?_
     refine ha_takeP 22 rfl (r_geq rfl rfl) ?_
     refine ha_takeP 23 rfl (r_pick rfl rfl) ?_
     refine ha_takeP 24 rfl (r_pick rfl rfl) ?_
     refine ha_takeP 25 rfl (r_assign rfl) ?_
     refine ha_done (by kernel_rfl) ?_
     refine q_then ?_
     refine h_ret ?_
     exact h_ret1 rfl rfl fun w s => ⟨(), by simp [h2], s.res (List.nil_sublist _) (by simp)⟩
   ·rw [if_neg h1, decide_eq_false h0]
    refine yR ?_
    refine h_opX (x_box rfl) fun g4 => ?_
    refine h_opX (x_box rfl) fun g5 => ?_
    refine h_opX (x_box rfl) fun g6 => ?_
    refine yS rfl ?_
    refine yN ?_
    refine h_seq ?_
    refine yR ?_
    refine yM rfl ?_
    refine yN ?_
    refine h_condF rfl ?_
    refine h_skip ?_
    refine q_then ?_
    refine h_seq ?_
    refine ha_start [.blk g4 p.cells 54, .blk g5 key.cells 35] [] mixed (same) ?_
    refine ha_takeP 0 rfl (r_field rfl) ?_
    refine ha_take 1 rfl (r_loadc rfl) ?_
    refine ha_takeP 2 rfl (r_bool (r_eql rfl rfl) (decide_eq_false h0)) ?_
    refine ha_takeP 3 rfl (r_move rfl) ?_
    refine ha_takeP 4 rfl (r_field rfl) ?_
    refine ha_take 5 rfl (r_loadc rfl) ?_
    refine ha_takeP 6 rfl (r_bool (r_eql rfl rfl) (decide_eq_false h1)) ?_
    refine ha_takeP 7 rfl (r_move rfl) ?_
    refine ha_off 8 rfl ?_
    refine ha_off 9 rfl ?_
    refine ha_off 10 rfl ?_
    refine ha_off 11 rfl ?_
    refine ha_off 12 rfl ?_
    refine ha_takeP 13 rfl (r_pick rfl rfl) ?_
    refine ha_takeP 14 rfl (r_move rfl) ?_
    refine ha_off 15 rfl ?_
    refine ha_off 16 rfl ?_
    refine ha_off 17 rfl ?_
    refine ha_off 18 rfl ?_
    refine ha_off 19 rfl ?_
    refine ha_off 20 rfl ?_
    refine ha_off 21 rfl ?_
    refine ha_off 22 rfl ?_
    refine ha_takeP 23 rfl (r_pick rfl rfl) ?_
    refine ha_takeP 24 rfl (r_pick rfl rfl) ?_
    refine ha_takeP 25 rfl (r_assign rfl) ?_
    refine ha_done (by kernel_rfl) ?_
    refine q_then ?_
    refine h_ret ?_
    exact h_ret1 rfl rfl fun w s => ⟨(), rfl, s.res (List.nil_sublist _) (by simp)⟩
 ·rw [if_pos rfl]
  by_cases h1 : p.kind = 1
  ·by_cases h2 : p.leaf.key = key
   ·refine h_seq ?_
    refine h_reg ?_
    refine h_opX (x_box rfl) fun g4 => ?_
    refine h_opX (x_box rfl) fun g5 => ?_
    refine h_opX (x_box rfl) fun g6 => ?_
    refine yS rfl ?_
    refine yN ?_
    refine h_seq ?_
    refine yR ?_
    refine yM rfl ?_
    refine yN ?_
    refine h_condT rfl ?_
    refine yR ?_
    refine h_op (r_field rfl) ?_
    refine h_op (r_loadc rfl) ?_
    refine h_op (r_bool (r_eql rfl rfl) (decide_eq_true h1)) ?_
    refine yM rfl ?_
    refine h_op (r_field rfl) ?_
    refine h_op (r_field rfl) ?_
    refine h_op (r_loadr rfl) ?_
    refine h_op (r_loadr rfl) ?_
    refine h_op (r_bool (r_eqr rfl rfl) (decide_eq_true h2)) ?_
    refine h_op (r_pick rfl rfl) ?_
    refine yM rfl ?_
    refine h_op (r_field rfl) ?_
    refine h_op (r_field rfl) ?_
    refine h_op (r_loadr rfl) ?_
    refine h_op (r_loadr rfl) ?_
    refine h_op (r_eqr rfl rfl) ?_
    refine h_op (r_pick rfl rfl) ?_
    refine yS rfl ?_
    refine yN ?_
    refine h_ret ?_
    refine q_thenR ?_
    exact h_ret1 rfl rfl fun w s => ⟨(), by simp [h1, h2, hlf], s.res (List.nil_sublist _) (by simp)⟩
   ·rw [decide_eq_false (show ¬ (p.kind = 1 ∧ p.leaf = ⟨key, val⟩) from fun e => h2 (hlf.1 e.2).1)]
    refine yR ?_
    refine h_opX (x_box rfl) fun g4 => ?_
    refine h_opX (x_box rfl) fun g5 => ?_
    refine h_opX (x_box rfl) fun g6 => ?_
    refine yS rfl ?_
    refine yN ?_
    refine h_seq ?_
    refine yR ?_
    refine yM rfl ?_
    refine yN ?_
    refine h_condT rfl ?_
    refine yR ?_
    refine h_op (r_field rfl) ?_
    refine h_op (r_loadc rfl) ?_
    refine h_op (r_bool (r_eql rfl rfl) (decide_eq_true h1)) ?_
    refine yM rfl ?_
    refine h_op (r_field rfl) ?_
    refine h_op (r_field rfl) ?_
    refine h_op (r_loadr rfl) ?_
    refine h_op (r_loadr rfl) ?_
    refine h_op (r_bool (r_eqr rfl rfl) (decide_eq_false h2)) ?_
    refine h_op (r_pick rfl rfl) ?_
    refine yM rfl ?_
    refine h_opOff ?_
    refine h_opOff ?_
    refine h_opOff ?_
    refine h_opOff ?_
    refine h_opOff ?_
    refine h_op (r_pick rfl rfl) ?_
    refine yS rfl ?_
    refine yN ?_
    refine h_ret ?_
    refine q_thenR ?_
    exact h_ret1 rfl rfl fun w s => ⟨(), rfl, s.res (List.nil_sublist _) (by simp)⟩
  ·rw [decide_eq_false (show ¬ (p.kind = 1 ∧ p.leaf = ⟨key, val⟩) from fun e => h1 e.1)]
   refine yR ?_
   refine h_opX (x_box rfl) fun g4 => ?_
   refine h_opX (x_box rfl) fun g5 => ?_
   refine h_opX (x_box rfl) fun g6 => ?_
   refine yS rfl ?_
   refine yN ?_
   refine h_seq ?_
   refine yR ?_
   refine yM rfl ?_
   refine yN ?_
   refine h_condT rfl ?_
   refine yR ?_
   refine h_op (r_field rfl) ?_
   refine h_op (r_loadc rfl) ?_
   refine h_op (r_bool (r_eql rfl rfl) (decide_eq_false h1)) ?_
   refine yM rfl ?_
   refine h_opOff ?_
   refine h_opOff ?_
   refine h_opOff ?_
   refine h_opOff ?_
   refine h_opOff ?_
   refine h_op (r_pick rfl rfl) ?_
   refine yM rfl ?_
   refine h_opOff ?_
   refine h_opOff ?_
   refine h_opOff ?_
   refine h_opOff ?_
   refine h_opOff ?_
   refine h_op (r_pick rfl rfl) ?_
   refine yS rfl ?_
   refine yN ?_
   refine h_ret ?_
   refine q_thenR ?_
   exact h_ret1 rfl rfl fun w s => ⟨(), rfl, s.res (List.nil_sublist _) (by simp)⟩
end Go.Proofs.YtjhocljhhpkiiaaGreatDoor
/- U23e -/
namespace Go.Proofs.YtjhocljhhpkiiaaGreatDoor
open Go.RowKit
end Go.Proofs.YtjhocljhhpkiiaaGreatDoor
/- U21 -/
namespace Go.Proofs.YtjhocljhhpkiiaaGreatDoor
open Go.RowKit
def revI (xs : List Value) (i : Nat) : List Value := (List.range xs.length).map fun t => if t < i ∨ xs.length - i ≤ t then xs.getD (xs.length - 1 - t) .nilFunc else xs.getD t .nilFunc
theorem revI_len (xs : List Value) (i : Nat) : (revI xs i).length = xs.length := by simp [revI]
theorem revI_at (xs : List Value) (i t : Nat) (h : t < xs.length) : (revI xs i)[t]? = some (if t < i ∨ xs.length - i ≤ t then xs.getD (xs.length - 1 - t) .nilFunc else xs.getD t .nilFunc) := by
 unfold revI
 rw [List.getElem?_map, List.getElem?_range h]
 rfl
theorem revI_0 (xs : List Value) : revI xs 0 = xs := by
 apply List.ext_getElem?
 intro t
 by_cases h : t < xs.length
 ·rw [revI_at xs 0 t h, if_neg (by omega), List.getD, List.getElem?_eq_getElem h]; rfl
 ·rw [List.getElem?_eq_none (by rw [revI_len]; omega), List.getElem?_eq_none (by omega)]
theorem revI_end (xs : List Value) (i : Nat) (h : xs.length ≤ 2 * i + 1) (hi : i ≤ xs.length) : revI xs i = xs.reverse := by
 apply List.ext_getElem?
 intro t
 by_cases ht : t < xs.length
 ·rw [revI_at xs i t ht, List.getElem?_reverse ht]
  by_cases h2 : t < i ∨ xs.length - i ≤ t
  ·rw [if_pos h2, List.getD, List.getElem?_eq_getElem (by omega)]; rfl
  ·rw [if_neg h2, show xs.length - 1 - t = t by omega, List.getD, List.getElem?_eq_getElem ht]; rfl
 ·rw [List.getElem?_eq_none (by rw [revI_len]; omega), List.getElem?_eq_none (by rw [List.length_reverse]; omega)]
theorem revI_step (xs : List Value) (i : Nat) (h : i < xs.length - 1 - i) : ((revI xs i).set i (xs.getD (xs.length - 1 - i) .nilFunc)).set (xs.length - 1 - i) (xs.getD i .nilFunc) = revI xs (i + 1) := by
 apply List.ext_getElem?
 intro t
 rw [List.getElem?_set, List.length_set, revI_len, List.getElem?_set, revI_len]
 by_cases ht : t < xs.length
 ·rw [revI_at xs (i + 1) t ht, revI_at xs i t ht]
  by_cases e1 : xs.length - 1 - i = t
  ·rw [if_pos e1, if_pos (by omega), if_pos (by omega), show xs.length - 1 - t = i by omega]
  ·rw [if_neg e1]
   by_cases e2 : i = t
   ·rw [if_pos e2, if_pos (by omega), if_pos (by omega), e2]
   ·rw [if_neg e2]
    congr 1
    by_cases h3 : t < i ∨ xs.length - i ≤ t
    ·rw [if_pos h3, if_pos (by omega)]
    ·rw [if_neg h3, if_neg (by omega)]
 ·rw [if_neg (by omega), if_neg (by omega), List.getElem?_eq_none (by rw [revI_len]; omega), List.getElem?_eq_none (by rw [revI_len]; omega)]
theorem getD_one {xs : List Value} (h1 : ∀ v ∈ xs, v.oneCell' = true) (i : Nat) : (xs.getD i .nilFunc).oneCell' = true := by
 rw [List.getD]
 cases h : xs[i]? with
 | none => rfl
 | some v => exact h1 v (List.mem_of_getElem? h)
theorem Reverse_s (xs : List Value) (h1 : ∀ v ∈ xs, v.oneCell' = true) (g c : Nat) (hk : xs.length ≤ 1000000) : Spec Tryz.prog 141 [.slice (some ⟨g, 0, none⟩) xs.length c].toArray [] [.own (.slice (some ⟨g, 0, none⟩) xs.length c) xs.length 23 1 xs] (fun _ : Unit => .tuple #[]) (fun _ => [.own (.slice (some ⟨g, 0, none⟩) xs.length c) xs.length 23 1 xs.reverse]) := by
 refine spec_of Tryz.func141 rfl (n := 28) rfl rfl ?_
 intro W
 refine yR ?_
 refine yM rfl ?_
 refine h_op (r_len rfl) ?_
 refine h_op (r_sub rfl rfl) ?_
 refine yS rfl ?_
 refine yS rfl ?_
 refine yN ?_
 refine h_block ?_
 refine h_L (L' := [.own (.slice (some ⟨g, 0, none⟩) xs.length c) xs.length 23 1 (revI xs 0)]) (fun w s => by rw [revI_0]; exact s) ?_
 refine h_loop (fun (i : Nat) => i ≤ xs.length) (fun (i : Nat) => [(2, .int .i64 (i : Int)), (3, .int .i64 ((xs.length : Int) - 1 - (i : Int))), (0, .slice (some ⟨g, 0, none⟩) xs.length c)]) (fun (i : Nat) => [.own (.slice (some ⟨g, 0, none⟩) xs.length c) xs.length 23 1 (revI xs i)]) (fun (i : Nat) => xs.length - i) 0 (Nat.zero_le _) ⟨rfl, aI rfl (by omega), rfl, trivial⟩ (same) ?_
 intro i hi
 refine h_seq ?_
 refine yR ?_
 refine yM rfl ?_
 refine yM rfl ?_
 refine h_op (r_lss rfl rfl) ?_
 refine yN ?_
 refine h_cond rfl (fun h => ?_) (fun h => ?_)
 ·have hlt : i < xs.length - 1 - i := by omega
  have hstep := revI_step xs i hlt
  have hln := revI_len xs i
  have g1 := revI_at xs i i (by omega)
  rw [if_neg (by omega)] at g1
  have g2 := revI_at xs i (xs.length - 1 - i) (by omega)
  rw [if_neg (by omega)] at g2
  refine h_E (E' := [(2, .int .i64 (i : Int)), (3, .int .i64 ((xs.length - 1 - i : Nat) : Int)), (0, .slice (some ⟨g, 0, none⟩) xs.length c)]) ⟨rfl, aI rfl (by omega), rfl, trivial⟩ ?_
  refine h_skip ?_
  refine q_then ?_
  refine h_seq ?_
  refine h_block ?_
  refine ha_start [.own (.slice (some ⟨g, 0, none⟩) xs.length c) xs.length 23 1 (revI xs i)] [] mixed (same) ?_
  refine ha_takeP 0 rfl (r_move rfl) ?_
  refine ha_takeP 1 rfl (r_move rfl) ?_
  refine ha_takeP 2 rfl (r_move rfl) ?_
  refine ha_takeP 3 rfl (r_move rfl) ?_
  refine ha_takeP 4 rfl (r_move rfl) ?_
  refine ha_takeP 5 rfl (r_move rfl) ?_
  refine ha_takeP 6 rfl (r_idx rfl rfl) ?_
  refine ha_take 7 rfl (r_nth rfl g2) ?_
  refine ha_takeP 8 rfl (r_move rfl) ?_
  refine ha_takeP 9 rfl (r_move rfl) ?_
  refine ha_takeP 10 rfl (r_idx rfl rfl) ?_
  refine ha_take 11 rfl (r_nth rfl g1) ?_
  refine ha_takeP 12 rfl (r_idx rfl rfl) ?_
  refine ha_hl ?_
  refine hl_S 13 rfl (s_setO rfl rfl (getD_one h1 _) (by omega) rfl) ?_
  refine hl_0 14 rfl (r_idx rfl rfl) ?_
  refine hl_S 15 rfl (s_setO rfl rfl (getD_one h1 _) (by rw [List.length_set]; omega) hstep) ?_
  refine hl_done (by kernel_rfl) ?_
  refine q_block ?_
  refine q_then ?_
  refine h_reg ?_
  refine yM rfl ?_
  refine h_op (r_add rfl rfl) ?_
  refine yM rfl ?_
  refine h_op (r_sub rfl rfl) ?_
  refine yS rfl ?_
  refine yS rfl ?_
  refine h_nil ?_
  exact h_back (i + 1) (by omega) (by omega) ⟨rfl, aI rfl (by omega), rfl, trivial⟩ (same)
 ·rw [revI_end xs i (by omega) hi]
  refine h_exit ?_
  refine q_thenE ?_
  refine q_thenE ?_
  refine q_blockE ?_
  refine h_end ?_
  exact h_ret0 rfl fun w s => ⟨(), rfl, s.res (List.Sublist.refl _) (by simp [Fa.wr])⟩
end Go.Proofs.YtjhocljhhpkiiaaGreatDoor
/- U22 -/
namespace Go.Proofs.YtjhocljhhpkiiaaGreatDoor
open Go.RowKit
instance (m : List Fa) : TakeTl m m [] := ⟨by rw [List.append_nil]⟩
theorem Sx.mid0 {A : List Fa} {W w : World} {pre m l : List Fa} (s : Sx A W w (pre ++ (m ++ l))) : Sx A W w (pre ++ (l ++ m)) := s.perm (List.Perm.append_left _ List.perm_append_comm)
def preLs (n : Nat) (key : B32) (ds : List B32) (pre : List UInt8) (N : Nat) : List (List UInt8) := (List.range N).map (wayP n key ds pre)
def ownsOf : List Seg → List Fa
 | [] => []
 | x :: l => .own (sv x) x.2.2.length 5 1 (bc x.2.2) :: ownsOf l
theorem ownsOf_wr (xs : List Seg) : ∀ f ∈ ownsOf xs, f.wr = true := by
 induction xs with
 | nil => intro f hf; cases hf
 | cons x l ih => intro f hf; rcases List.mem_cons.1 hf with rfl | h; rfl; exact ih f h
theorem svs_snoc (ys : List Seg) (x : Seg) : svs ys.reverse ++ [sv x] = svs (x :: ys).reverse := by simp [svs]
theorem svs_rev (ys : List Seg) : (svs ys.reverse).reverse = svs ys := by simp [svs]
def SegsOk (ys : List Seg) (ls : List (List UInt8)) : Prop := ys.map (fun x => x.2.2) = ls ∧ ∀ x ∈ ys, ∃ g, x.1 = some ⟨g, 0, none⟩
theorem SegsOk.len {ys : List Seg} {ls : List (List UInt8)} (h : SegsOk ys ls) : ys.length = ls.length := by rw [← h.1, List.length_map]
theorem preLs_len (n : Nat) (key : B32) (ds : List B32) (pre : List UInt8) (N : Nat) : (preLs n key ds pre N).length = N := by simp [preLs]
theorem preLs_succ (n : Nat) (key : B32) (ds : List B32) (pre : List UInt8) (N : Nat) : (preLs n key ds pre (N + 1)).reverse = wayP n key ds pre N :: (preLs n key ds pre N).reverse := by
 unfold preLs
 rw [List.range_succ, List.map_append, List.reverse_append]
 rfl
theorem Pre_s (p : Proof) (hc : checkP p = 0) (ss : List B32) (hs : p.sibs.n = ss.length) (key : B32) (n : Nat) (hn : n ≤ 256) (gh gc k0 : Nat) (hk : k0 ≤ 800000000000) (d : Nat) (hd : p.depth = (d : Int)) : Spec Tryz.prog 83 [.pointer (some ⟨gh, 0, none⟩), .agg p.cells.toArray, .agg key.cells.toArray].toArray [.rd (some ⟨gh, 0, none⟩) [.pointer (some ⟨gc, 0, none⟩), .int .i64 (n : Int)], .rd p.sibs.A (dgs ss), .rd (some ⟨1, 0, none⟩) hashT] [.blk gc [.int .i64 (k0 : Int)] 144] (fun u : { u : Nat × Nat × List Seg // SegsOk u.2.2 (preLs n key (expL (sumB n preE) p.bitmap ss d) (endP p) (d + 1)).reverse } => .tuple #[.slice (some ⟨u.1.1, 0, none⟩) (d + 1) u.1.2.1, .int .i64 0]) (fun u => .own (.slice (some ⟨u.1.1, 0, none⟩) (d + 1) u.1.2.1) (d + 1) 23 1 (svs u.1.2.2) :: .blk gc [.int .i64 ((k0 + 1 + d + 1 : Nat) : Int)] 144 :: ownsOf u.1.2.2) := by
 have hd2 := ok_depth hc
 have hE := Expand_s p hc ss hs n hn gh gc k0 (by omega) d hd
 have hlen := expL_len (sumB n preE) p.bitmap ss d
 generalize expL (sumB n preE) p.bitmap ss d = ds at *
 subst hlen
 have hds : ds.length ≤ 256 := by omega
 refine spec_of Tryz.func83 rfl (n := 35) rfl rfl ?_
 intro W
 refine yR ?_
 refine h_opX (x_box rfl) fun g4 => ?_
 refine h_opX (x_box rfl) fun g5 => ?_
 refine yS rfl ?_
 refine yS rfl ?_
 refine yN ?_
 refine yR ?_
 refine yM rfl ?_
 refine h_op (r_loadr rfl) ?_
 refine h_call (hE.comes) rfl rfl rfl fun g15 => ?_
 refine yM rfl ?_
 refine h_op (r_extract rfl rfl) ?_
 refine h_op (r_extract rfl rfl) ?_
 refine yS rfl ?_
 refine yS rfl ?_
 refine yN ?_
 refine h_seq ?_
 refine yR ?_
 refine yM rfl ?_
 refine h_op (r_neq rfl rfl) ?_
 refine yN ?_
 refine h_no rfl ((fun h => h rfl)) ?_
 refine h_skip ?_
 refine q_then ?_
 refine yR ?_
 refine h_opX (x_alloc) fun g10 => ?_
 refine yN ?_
 refine h_seq ?_
 refine yR ?_
 refine yM rfl ?_
 refine h_op (r_loadr rfl) ?_
 refine yM rfl ?_
 refine h_op (r_loadr rfl) ?_
 refine h_call ((ways_s (.pointer (some ⟨gh, 0, none⟩)) p (some ⟨g15, 0, none⟩) ds.length ds.length key rfl).comes) rfl rfl rfl fun ⟨a2, a1, a3, a4⟩ => ?_
 dsimp only
 refine h_nil_own 23 1 (xs := svs ([] : List Seg).reverse) rfl ?_
 refine yN ?_
 refine h_block ?_
 refine h_rangeG (ways_it p n hn key ds hds gh gc (k0 + 1) g15 0 ds.length a2 a1 a3 a4 (by omega)) rfl (fun k mm => ∃ (v : Option Addr × Nat) (ys : List Seg), SegsOk ys (preLs n key ds (endP p) k).reverse ∧ mm = .blk g10 [.slice v.1 k v.2] 38 :: .own (.slice v.1 k v.2) k 23 1 (svs ys.reverse) :: ownsOf ys) [.blk g10 [.slice none 0 0] 38, .own (.slice none 0 0) 0 23 1 (svs ([] : List Seg).reverse)] [] (by rintro k mm ⟨v, ys, _, rfl⟩ f hf; simp only [List.mem_cons] at hf; exact hf.elim (fun h => by rw [h]; rfl) (fun h => h.elim (fun h => by rw [h]; rfl) (ownsOf_wr ys f))) ⟨(none, 0), [], ⟨rfl, by simp⟩, rfl⟩ rfl (fun _ _ => rfl) ?_ ?_
 ·intro ll rr k u mm W1 hr hrp hkN hJ2
  obtain ⟨⟨B, c'⟩, ys, hys, rfl⟩ := hJ2
  obtain ⟨g, c⟩ := u
  dsimp only
  simp only [List.nil_append, List.cons_append, List.append_nil]
  have hsn := svs_snoc ys (some ⟨g, 0, none⟩, c, wayP n key ds (endP p) k)
  have hys2 : SegsOk ((some ⟨g, 0, none⟩, c, wayP n key ds (endP p) k) :: ys) (preLs n key ds (endP p) (k + 1)).reverse := ⟨by rw [preLs_succ, List.map_cons, hys.1], fun x hx => (List.mem_cons.1 hx).elim (fun e => ⟨g, by rw [e]⟩) (hys.2 x)⟩
  unfold sv at hsn
  dsimp only at hsn
  refine h_reg ?_
  refine yS rfl ?_
  refine yN ?_
  refine h_begin hr ?_
  refine h_block ?_
  refine h_reg ?_
  refine h_op (r_loadc rfl) ?_
  refine yM rfl ?_
  refine h_opX (x_bsl rfl rfl) fun g30 => ?_
  refine h_opX (x_app rfl rfl) fun ⟨g31, c31⟩ => ?_
  refine h_opS (s_store rfl rfl rfl) ?_
  refine h_nil ?_
  refine q_block ?_
  rw [hsn]
  exact h_endround (.blk g10 [.slice (some ⟨g31, 0, none⟩) (k + 1) c31] 38 :: .own (.slice (some ⟨g31, 0, none⟩) (k + 1) c31) (k + 1) 23 1 (svs ((some ⟨g, 0, none⟩, c, wayP n key ds (endP p) k) :: ys : List Seg).reverse) :: .own (.slice (some ⟨g, 0, none⟩) (wayP n key ds (endP p) k).length c) (wayP n key ds (endP p) k).length 5 1 (bc (wayP n key ds (endP p) k)) :: ownsOf ys) hr hrp ⟨(some ⟨g31, 0, none⟩, c31), _, hys2, rfl⟩ (by intro f hf; simp only [List.mem_cons] at hf; exact hf.elim (fun h => by rw [h]; rfl) (fun h => h.elim (fun h => by rw [h]; rfl) (fun h => h.elim (fun h => by rw [h]; rfl) (ownsOf_wr ys f))))
 ·intro bb mm hJ2
  obtain ⟨⟨B, c'⟩, ys, hys, rfl⟩ := hJ2
  refine q_block ?_
  refine q_then ?_
  dsimp only
  simp only [List.nil_append, List.cons_append]
  refine h_L (fun w s => Sx.mid0 (pre := [_, _, _]) (m := ownsOf ys) (l := [.obj bb (.deferred (some [])), .blk a2 p.cells 54, .blk a1 [.pointer (some ⟨gh, 0, none⟩)] 36, .blk a3 [.slice (some ⟨g15, 0, none⟩) ds.length ds.length] 52, .blk a4 key.cells 35, .own (.slice (some ⟨g15, 0, none⟩) ds.length ds.length) ds.length 42 32 (dgs ds), .blk g5 key.cells 35, .blk g4 p.cells 54, .rd (some ⟨gh, 0, none⟩) [.pointer (some ⟨gc, 0, none⟩), .int .i64 (n : Int)], .rd p.sibs.A (dgs ss), .rd (some ⟨1, 0, none⟩) hashT]) s) ?_
  simp only [List.nil_append, List.cons_append]
  refine h_pure (φ := ∃ g, B = some ⟨g, 0, none⟩) (fun w s => s.ownSome (N := ds.length + 1) (c := c') (by omega)) ?_
  rintro ⟨g, rfl⟩
  have hyl : (svs ys.reverse).length = ds.length + 1 := by rw [svs_len, List.length_reverse, hys.len, List.length_reverse, preLs_len]
  have hR := Reverse_s (svs ys.reverse) (svs_one _) g c' (by omega)
  rw [hyl, svs_rev] at hR
  refine yR ?_
  refine h_op (r_loadc rfl) ?_
  refine h_call (hR.comes) rfl rfl rfl fun _ => ?_
  refine yN ?_
  refine yR ?_
  refine h_op (r_loadc rfl) ?_
  refine yS rfl ?_
  refine yS rfl ?_
  refine yN ?_
  refine h_ret ?_
  refine h_mark ?_
  exact h_ret2 rfl rfl rfl fun w s => ⟨⟨(g, c', ys), hys⟩, rfl, (same w s).res (List.Sublist.refl _) (by intro f hf; simp only [List.mem_cons] at hf; exact hf.elim (fun h => by rw [h]; rfl) (fun h => h.elim (fun h => by rw [h]; rfl) (ownsOf_wr ys f)))⟩
end Go.Proofs.YtjhocljhhpkiiaaGreatDoor
/- U24p -/
namespace Go.Proofs.YtjhocljhhpkiiaaGreatDoor
open Go.RowKit
theorem SegsOk.cons {xs : List Seg} {l : List UInt8} {ls : List (List UInt8)} (h : SegsOk xs (l :: ls)) : ∃ g c xs', xs = (some ⟨g, 0, none⟩, c, l) :: xs' ∧ SegsOk xs' ls := by
 obtain ⟨h1, h2⟩ := h
 cases xs with
 | nil => cases h1
 | cons x xs' =>
  rw [List.map_cons] at h1
  injection h1 with h3 h4
  obtain ⟨g, hg⟩ := h2 x (List.mem_cons_self ..)
  obtain ⟨A, c, l'⟩ := x
  simp only at h3 hg
  subst h3 hg
  exact ⟨g, c, xs', rfl, h4, fun y hy => h2 y (List.mem_cons_of_mem _ hy)⟩
instance (priority := 5) (N M : List Fa) : App N M (N ++ M) := ⟨rfl⟩
theorem SegsOk.at {xs : List Seg} {ls : List (List UInt8)} (h : SegsOk xs ls) {i : Nat} {l : List UInt8} (hl : ls[i]? = some l) : ∃ g c, xs[i]? = some (some ⟨g, 0, none⟩, c, l) := by
 rw [← h.1, List.getElem?_map] at hl
 obtain ⟨x, hx, e⟩ := Option.map_eq_some_iff.1 hl
 obtain ⟨g, hg⟩ := h.2 x (List.mem_of_getElem? hx)
 obtain ⟨A, c, l'⟩ := x
 simp only at e hg
 subst e hg
 exact ⟨g, c, hx⟩
end Go.Proofs.YtjhocljhhpkiiaaGreatDoor
/- U24 -/
namespace Go.Proofs.YtjhocljhhpkiiaaGreatDoor
open Go.RowKit
end Go.Proofs.YtjhocljhhpkiiaaGreatDoor
/- U25 -/
namespace Go.Proofs.YtjhocljhhpkiiaaGreatDoor
open Go.RowKit
end Go.Proofs.YtjhocljhhpkiiaaGreatDoor
/- U98 -/
namespace Go.Proofs.YtjhocljhhpkiiaaGreatDoor
open Go.RowKit
def claimS (c : Claim) : Int := if c.key.n = 32 then (if c.present = true ∧ 65535 < c.value.n then 2 else 0) else 1
theorem rClaim18_s (c : Claim) : Spec Tryz.prog 30 [.agg c.cells.toArray].toArray [] [] (fun _ : Unit => .tuple #[.int .i64 (claimS c), .int .i64 (claimE c)]) (fun _ => []) := by
 obtain ⟨ks, vs, b⟩ := c
 refine spec_of Tryz.func30 rfl (n := 16) rfl rfl ?_
 intro W
 by_cases h1 : ks.n = 32
 ·refine h_seq ?_
  refine h_reg ?_
  refine h_opX (x_box rfl) fun g1 => ?_
  refine yS rfl ?_
  refine yS rfl ?_
  refine yN ?_
  refine h_seq ?_
  refine yR ?_
  refine h_op (r_field rfl) ?_
  refine h_op (r_loadc rfl) ?_
  refine h_op (r_len rfl) ?_
  refine h_op (r_bool (r_neq rfl rfl) (decide_eq_false (show ¬ ¬ (ks.n : Int) = 32 by omega))) ?_
  refine yN ?_
  refine h_condF rfl ?_
  cases b
  ·rw [show claimS ⟨ks, vs, false⟩ = 0 by unfold claimS; rw [if_pos h1, if_neg (by simp)], show claimE ⟨ks, vs, false⟩ = 0 by unfold claimE; rw [if_pos h1, if_neg (by simp)]]
   refine h_skip ?_
   refine q_then ?_
   refine h_seq ?_
   refine yR ?_
   refine h_op (r_field rfl) ?_
   refine h_op (r_loadc rfl) ?_
   refine yM rfl ?_
   refine h_opOff ?_
   refine h_opOff ?_
   refine h_opOff ?_
   refine h_opOff ?_
   refine h_op (r_pick rfl rfl) ?_
   refine yN ?_
   refine h_condF rfl ?_
   refine h_skip ?_
   refine q_then ?_
   refine yR ?_
   refine yS rfl ?_
   refine yS rfl ?_
   refine yN ?_
   refine h_ret ?_
   exact h_ret2 rfl rfl rfl fun w s => ⟨(), rfl, s.res (List.nil_sublist _) (by simp)⟩
  ·by_cases h2 : 65535 < vs.n
   ·rw [show claimS ⟨ks, vs, true⟩ = 2 by unfold claimS; rw [if_pos h1, if_pos ⟨rfl, h2⟩], show claimE ⟨ks, vs, true⟩ = 3 by unfold claimE; rw [if_pos h1, if_pos ⟨rfl, h2⟩]]
    refine h_skip ?_
    refine q_then ?_
    refine h_seq ?_
    refine yR ?_
    refine h_op (r_field rfl) ?_
    refine h_op (r_loadc rfl) ?_
    refine yM rfl ?_
    refine h_op (r_field rfl) ?_
    refine h_op (r_loadc rfl) ?_
    refine h_op (r_len rfl) ?_
    refine h_op (r_bool (r_gtr rfl rfl) (decide_eq_true (show (65535 : Int) < (vs.n : Int) by omega))) ?_
    refine h_op (r_pick rfl rfl) ?_
    refine yN ?_
    refine h_condT rfl ?_
    refine yR ?_
    refine yS rfl ?_
    refine yS rfl ?_
    refine yN ?_
    refine h_ret ?_
    refine q_thenR ?_
    exact h_ret2 rfl rfl rfl fun w s => ⟨(), rfl, s.res (List.nil_sublist _) (by simp)⟩
   ·rw [show claimS ⟨ks, vs, true⟩ = 0 by unfold claimS; rw [if_pos h1, if_neg (fun h => h2 h.2)], show claimE ⟨ks, vs, true⟩ = 0 by unfold claimE; rw [if_pos h1, if_neg (fun h => h2 h.2)]]
    refine h_skip ?_
    refine q_then ?_
    refine h_seq ?_
    refine yR ?_
    refine h_op (r_field rfl) ?_
    refine h_op (r_loadc rfl) ?_
    refine yM rfl ?_
    refine h_op (r_field rfl) ?_
    refine h_op (r_loadc rfl) ?_
    refine h_op (r_len rfl) ?_
    refine h_op (r_bool (r_gtr rfl rfl) (decide_eq_false (show ¬ (65535 : Int) < (vs.n : Int) by omega))) ?_
    refine h_op (r_pick rfl rfl) ?_
    refine yN ?_
    refine h_condF rfl ?_
    refine h_skip ?_
    refine q_then ?_
    refine yR ?_
    refine yS rfl ?_
    refine yS rfl ?_
    refine yN ?_
    refine h_ret ?_
    exact h_ret2 rfl rfl rfl fun w s => ⟨(), rfl, s.res (List.nil_sublist _) (by simp)⟩
 ·rw [show claimS ⟨ks, vs, b⟩ = 1 from if_neg h1, show claimE ⟨ks, vs, b⟩ = 2 from if_neg h1]
  refine yR ?_
  refine h_opX (x_box rfl) fun g1 => ?_
  refine yS rfl ?_
  refine yS rfl ?_
  refine yN ?_
  refine h_seq ?_
  refine yR ?_
  refine h_op (r_field rfl) ?_
  refine h_op (r_loadc rfl) ?_
  refine h_op (r_len rfl) ?_
  refine h_op (r_bool (r_neq rfl rfl) (decide_eq_true (show ¬ (ks.n : Int) = 32 by omega))) ?_
  refine yN ?_
  refine h_condT rfl ?_
  refine yR ?_
  refine yS rfl ?_
  refine yS rfl ?_
  refine yN ?_
  refine h_ret ?_
  refine q_thenR ?_
  exact h_ret2 rfl rfl rfl fun w s => ⟨(), rfl, s.res (List.nil_sublist _) (by simp)⟩
end Go.Proofs.YtjhocljhhpkiiaaGreatDoor
/- U69 -/
namespace Go.Proofs.YtjhocljhhpkiiaaGreatDoor
open Go.RowKit
instance iU69_1 : TCmp Tryz.prog 209 := ⟨fun args w => run_callFunc_extern Tryz.func209 (by kernel_rfl) (by kernel_rfl) (by kernel_rfl) (by kernel_rfl) args w⟩
theorem compare_eq : ∀ (a b : List UInt8), a.length = b.length → Lib.compareBytes a b = cmpL a b
 | [], [], _ => rfl
 | [], _ :: _, h => by cases h
 | _ :: _, [], h => by cases h
 | x :: a, y :: b, h => by
  unfold Lib.compareBytes cmpL
  rw [compare_eq a b (by simpa using h)]
theorem bCompare_s (a b : List UInt8) (hab : a.length = b.length) (A B : Option Addr) (c c' : Nat) : Spec Tryz.prog 164 [.slice A a.length c, .slice B b.length c'].toArray [.rd A (bc a), .rd B (bc b)] [] (fun _ : Unit => .int .i64 (cmpL a b)) (fun _ => []) := by
 rw [← compare_eq a b hab]
 refine spec_of Tryz.func164 rfl (n := 8) rfl rfl ?_
 intro W
 refine yR ?_
 refine yS rfl ?_
 refine yN ?_
 refine yR ?_
 refine yM rfl ?_
 refine yM rfl ?_
 refine h_op (r_cmp rfl rfl) ?_
 refine yS rfl ?_
 refine yN ?_
 refine h_ret ?_
 exact h_ret1 rfl rfl fun w s => ⟨(), rfl, s.res (List.nil_sublist _) (by simp)⟩
theorem kCompare_s (a b : B32) : Spec Tryz.prog 111 [.agg a.cells.toArray, .agg b.cells.toArray].toArray [] [] (fun _ : Unit => .int .i64 (cmpB a b)) (fun _ => []) := by
 have ha := a.2
 have hb := b.2
 have hC := fun A B => bCompare_s a.1 b.1 (by omega) A B 32 32
 rw [ha, hb] at hC
 refine spec_of Tryz.func111 rfl (n := 8) rfl rfl ?_
 intro W
 refine yR ?_
 refine h_opX (x_box rfl) fun g2 => ?_
 refine h_opX (x_box rfl) fun g3 => ?_
 refine yS rfl ?_
 refine yN ?_
 refine h_seq ?_
 refine ha_start [.blk g2 a.cells 35, .blk g3 b.cells 35] [] mixed (same) ?_
 refine ha_takeP 0 rfl (r_slA rfl) ?_
 refine ha_takeP 1 rfl (r_slA rfl) ?_
 refine ha_one 2 ?_
 refine ho_C 2 rfl ((hC (some ⟨g2, 0, none⟩) (some ⟨g3, 0, none⟩)).comes (hr := inferInstanceAs (Rds _ [.rd (some ⟨g2, 0, none⟩) a.cells, .rd (some ⟨g3, 0, none⟩) b.cells]))) rfl rfl rfl (fun xx => same) fun _ => ?_
 refine ha_takeP 3 rfl (r_assign rfl) ?_
 refine ha_done (by kernel_rfl) ?_
 refine q_then ?_
 refine h_ret ?_
 exact h_ret1 rfl rfl fun w s => ⟨(), rfl, s.res (List.nil_sublist _) (by simp)⟩
def chkK : List B32 → Int
 | a :: b :: l => if cmpB a b = 0 then 9 else if 0 < cmpB a b then 8 else chkK (b :: l)
 | _ => 0
def keysE (l : List B32) : Int := if l.length = 0 then 10 else if 65535 < l.length then 11 else chkK l
theorem kCheck_s (l : List B32) (A : Option Addr) (c : Nat) (hl : l.length ≤ 1000000000) : Spec Tryz.prog 165 [.slice A l.length c].toArray [.rd A (dgs l)] [] (fun _ : Unit => .int .i64 (chkK l)) (fun _ => []) := by
 refine spec_of Tryz.func165 rfl (n := 27) rfl rfl ?_
 intro W
 refine yR ?_
 refine yS rfl ?_
 refine yN ?_
 refine h_seq ?_
 refine yR ?_
 refine yS rfl ?_
 refine yN ?_
 refine h_block ?_
 refine h_loop (fun (k : Nat) => 1 ≤ k ∧ (k = 1 ∨ k ≤ l.length) ∧ chkK l = chkK (l.drop (k - 1))) (fun (k : Nat) => [(3, .int .i64 (k : Int)), (0, .slice A l.length c)]) (fun (k : Nat) => [.rd A (dgs l)]) (fun (k : Nat) => l.length - k) 1 (⟨Nat.le_refl _, .inl rfl, rfl⟩) ⟨rfl, rfl, trivial⟩ (same) ?_
 rintro k ⟨hk1, hk2, he⟩
 refine h_seq ?_
 refine yR ?_
 refine yM rfl ?_
 refine yM rfl ?_
 refine h_op (r_len rfl) ?_
 refine h_op (r_lss rfl rfl) ?_
 refine yN ?_
 refine h_cond rfl (fun hlt => ?_) (fun hlt => ?_)
 ·obtain ⟨j, rfl⟩ : ∃ j, k = j + 1 := ⟨k - 1, by omega⟩
  have hj : j + 1 < l.length := by omega
  have hd : l.drop j = l.getD j zB32 :: l.drop (j + 1) := by rw [List.drop_eq_getElem_cons (by omega), List.getD_eq_getElem?_getD, List.getElem?_eq_getElem (by omega)]; rfl
  have hd2 : l.drop (j + 1) = l.getD (j + 1) zB32 :: l.drop (j + 1 + 1) := by rw [List.drop_eq_getElem_cons hj, List.getD_eq_getElem?_getD, List.getElem?_eq_getElem hj]; rfl
  rw [Nat.add_sub_cancel, hd, hd2, chkK, ← hd2] at he
  refine h_pure (φ := ∃ b o, A = some ⟨b, o, none⟩) (fun w s => Rd.some (s.ok (.rd A (dgs l)) (by simp)) (by rw [dgs_len]; omega)) ?_
  rintro ⟨b, o, rfl⟩
  have h1 := dgs_at (l := l) (k := j) (by omega)
  have h2 := dgs_at (l := l) (k := j + 1) hj
  refine h_skip ?_
  refine q_then ?_
  refine h_seq ?_
  refine h_block ?_
  refine h_seq ?_
  refine ha_start [.rd (some ⟨b, o, none⟩) (dgs l)] [] mixed (same) ?_
  refine ha_takeP 0 rfl (r_move rfl) ?_
  refine ha_takeP 1 rfl (r_move rfl) ?_
  refine ha_takeP 2 rfl (r_subN rfl rfl (m := j) (hm := by omega)) ?_
  refine ha_takeP 3 rfl (r_idx rfl rfl) ?_
  refine ha_take 4 rfl (r_nthr rfl (out := (l.getD j zB32).cells) (B32.cells_length _) h1) ?_
  refine ha_takeP 5 rfl (r_move rfl) ?_
  refine ha_takeP 6 rfl (r_move rfl) ?_
  refine ha_takeP 7 rfl (r_idx rfl rfl) ?_
  refine ha_take 8 rfl (r_nthr rfl (out := (l.getD (j + 1) zB32).cells) (B32.cells_length _) h2) ?_
  refine ha_one 9 ?_
  refine ho_C 9 rfl ((kCompare_s (l.getD j zB32) (l.getD (j + 1) zB32)).comes) rfl rfl rfl (fun xx => same) fun _ => ?_
  refine ha_takeP 10 rfl (r_assign rfl) ?_
  refine ha_done (by kernel_rfl) ?_
  refine q_then ?_
  refine h_block ?_
  refine yR ?_
  refine yM rfl ?_
  refine h_op (r_eql rfl rfl) ?_
  refine yS rfl ?_
  refine yN ?_
  refine h_cond rfl (fun h3 => ?_) (fun h3 => ?_)
  ·rw [if_pos h3] at he
   rw [he]
   refine yR ?_
   refine yS rfl ?_
   refine yN ?_
   refine h_ret ?_
   refine q_blockR ?_
   refine q_blockR ?_
   refine q_thenR ?_
   refine q_thenR ?_
   refine q_blockR ?_
   refine q_thenR ?_
   exact h_ret1 rfl rfl fun w s => ⟨(), rfl, s.res (List.nil_sublist _) (by simp)⟩
  ·rw [if_neg h3] at he
   refine yR ?_
   refine yM rfl ?_
   refine h_op (r_gtr rfl rfl) ?_
   refine yS rfl ?_
   refine yN ?_
   refine h_cond rfl (fun h4 => ?_) (fun h4 => ?_)
   ·rw [if_pos h4] at he
    rw [he]
    refine yR ?_
    refine yS rfl ?_
    refine yN ?_
    refine h_ret ?_
    refine q_blockR ?_
    refine q_blockR ?_
    refine q_thenR ?_
    refine q_thenR ?_
    refine q_blockR ?_
    refine q_thenR ?_
    exact h_ret1 rfl rfl fun w s => ⟨(), rfl, s.res (List.nil_sublist _) (by simp)⟩
   ·rw [if_neg h4] at he
    refine h_skip ?_
    refine q_block ?_
    refine q_block ?_
    refine q_then ?_
    refine h_reg ?_
    refine yM rfl ?_
    refine h_op (r_add rfl rfl) ?_
    refine yS rfl ?_
    refine h_nil ?_
    exact h_back (j + 1 + 1) (⟨by omega, .inr (by omega), he⟩) (by omega) ⟨rfl, rfl, trivial⟩ (same)
 ·have h0 : chkK l = 0 := by
   rw [he]
   have hlen : (l.drop (k - 1)).length ≤ 1 := by rw [List.length_drop]; omega
   match l.drop (k - 1), hlen with
   | [], _ => rfl
   | [_], _ => rfl
   | _ :: _ :: _, h => simp at h
  rw [h0]
  refine h_exit ?_
  refine q_thenE ?_
  refine q_thenE ?_
  refine q_blockE ?_
  refine q_then ?_
  refine yR ?_
  refine yS rfl ?_
  refine yN ?_
  refine h_ret ?_
  exact h_ret1 rfl rfl fun w s => ⟨(), rfl, s.res (List.nil_sublist _) (by simp)⟩
theorem mKeys_s (l : List B32) (A : Option Addr) (c : Nat) (hl : l.length ≤ 9223372036854775807) : Spec Tryz.prog 113 [.slice A l.length c].toArray [.rd A (dgs l)] [] (fun _ : Unit => .int .i64 (keysE l)) (fun _ => []) := by
 unfold keysE
 refine spec_of Tryz.func113 rfl (n := 13) rfl rfl ?_
 intro W
 by_cases h0 : l.length = 0
 ·rw [if_pos h0]
  refine yR ?_
  refine yS rfl ?_
  refine yN ?_
  refine h_seq ?_
  refine h_block ?_
  refine yR ?_
  refine yM rfl ?_
  refine h_op (r_len rfl) ?_
  refine h_op (r_bool (r_eql rfl rfl) (decide_eq_true (by omega))) ?_
  refine yS rfl ?_
  refine yN ?_
  refine h_condT rfl ?_
  refine yR ?_
  refine yS rfl ?_
  refine yN ?_
  refine h_ret ?_
  refine q_blockR ?_
  refine q_thenR ?_
  exact h_ret1 rfl rfl fun w s => ⟨(), rfl, s.res (List.nil_sublist _) (by simp)⟩
 ·rw [if_neg h0]
  refine yR ?_
  refine yS rfl ?_
  refine yN ?_
  refine h_seq ?_
  refine h_block ?_
  refine yR ?_
  refine yM rfl ?_
  refine h_op (r_len rfl) ?_
  refine h_op (r_bool (r_eql rfl rfl) (decide_eq_false (by omega))) ?_
  refine yS rfl ?_
  refine yN ?_
  refine h_condF rfl ?_
  by_cases h1 : 65535 < l.length
  ·rw [if_pos h1]
   refine yR ?_
   refine yM rfl ?_
   refine h_op (r_len rfl) ?_
   refine h_op (r_bool (r_gtr rfl rfl) (decide_eq_true (by omega))) ?_
   refine yS rfl ?_
   refine yN ?_
   refine h_condT rfl ?_
   refine yR ?_
   refine yS rfl ?_
   refine yN ?_
   refine h_ret ?_
   refine q_blockR ?_
   refine q_thenR ?_
   exact h_ret1 rfl rfl fun w s => ⟨(), rfl, s.res (List.nil_sublist _) (by simp)⟩
  ·rw [if_neg h1]
   refine yR ?_
   refine yM rfl ?_
   refine h_op (r_len rfl) ?_
   refine h_op (r_bool (r_gtr rfl rfl) (decide_eq_false (by omega))) ?_
   refine yS rfl ?_
   refine yN ?_
   refine h_condF rfl ?_
   refine h_skip ?_
   refine q_block ?_
   refine q_then ?_
   refine yR ?_
   refine yM rfl ?_
   refine h_call ((kCheck_s l A c (by omega)).comes) rfl rfl rfl fun _ => ?_
   refine yS rfl ?_
   refine yN ?_
   refine h_ret ?_
   exact h_ret1 rfl rfl fun w s => ⟨(), rfl, s.res (List.nil_sublist _) (by simp)⟩
end Go.Proofs.YtjhocljhhpkiiaaGreatDoor
/- E29 -/
namespace Go.Proofs.YtjhocljhhpkiiaaGreatDoor
open Go.RowKit
structure CB where
 c : Claim
 kb : List UInt8
 vb : List UInt8
def zCB : CB := ⟨zClaim, [], []⟩
def CB.cells (x : CB) : List Value := x.c.cells
def cbs (l : List CB) : List Value := l.flatMap CB.cells
theorem CB.cells_length (x : CB) : x.cells.length = 3 := Claim.cells_length _
theorem cbs_at {l : List CB} {k : Nat} {x : CB} (h : l[k]? = some x) : ∀ j v, x.c.cells[j]? = some v → (cbs l)[k * 3 + j]? = some v := by
 induction l generalizing k with
 | nil => simp at h
 | cons y l ih =>
  intro j v hv
  show (y.c.cells ++ cbs l)[k * 3 + j]? = some v
  cases k with
  | zero =>
   obtain rfl : y = x := by simpa using h
   rw [Nat.zero_mul, Nat.zero_add, List.getElem?_append_left (List.getElem?_eq_some_iff.1 hv).1]
   exact hv
  | succ k =>
   rw [List.getElem?_append_right (by rw [Claim.cells_length]; omega), Claim.cells_length, show (k + 1) * 3 + j - 3 = k * 3 + j by omega]
   exact ih (by simpa using h) j v hv
def ClsZ (h : Zh) (l : List CB) : Prop := ∀ x ∈ l, SlZ h x.c.key x.kb ∧ SlZ h x.c.value x.vb
theorem ClsZ.mono {h h' : Zh} (hl : LeZ h h') {l : List CB} (hc : ClsZ h l) : ClsZ h' l := fun x hx => ⟨(hc x hx).1.mono hl, (hc x hx).2.mono hl⟩
theorem ClsZ.get {h : Zh} {l : List CB} (hc : ClsZ h l) {k : Nat} (hk : k < l.length) : SlZ h (l.getD k zCB).c.key (l.getD k zCB).kb ∧ SlZ h (l.getD k zCB).c.value (l.getD k zCB).vb := by
 rw [List.getD_eq_getElem?_getD, List.getElem?_eq_getElem hk]
 exact hc _ (List.getElem_mem hk)
theorem getD_get {α : Type} {l : List α} {k : Nat} (z : α) (hk : k < l.length) : l[k]? = some (l.getD k z) := by
 rw [List.getD_eq_getElem?_getD, List.getElem?_eq_getElem hk]; rfl
def keysC (l : List CB) : List B32 := l.map fun x => keyOf x.kb
theorem keysC_len (l : List CB) : (keysC l).length = l.length := by unfold keysC; rw [List.length_map]
def neighE (ks : List B32) (i : Nat) : Int := if i = 0 then 0 else if cmpB (ks.getD (i - 1) zB32) (ks.getD i zB32) < 0 then 0 else if ks.getD (i - 1) zB32 = ks.getD i zB32 then 9 else 8
def claimsR (l : List CB) : Option (Nat × Int) :=
 if l.length = 0 then some (0, 10) else if 65535 < l.length then some (0, 11) else
 match firstF (fun i => claimE (l.getD i zCB).c) l.length 0 with
 | some r => some r
 | none => firstF (neighE (keysC l)) l.length 0
theorem firstF_zero (code : Nat → Int) : ∀ m i, firstF code m i = none → ∀ j, i ≤ j → j < i + m → code j = 0
 | 0, _, _, _, _, _ => by omega
 | m + 1, i, h, j, h1, h2 => by
  unfold firstF at h
  split at h
  ·rename_i h0
   by_cases e : j = i
   ·rw [e]; exact h0
   ·exact firstF_zero code m (i + 1) h j (by omega) (by omega)
  ·cases h
theorem chkK_ok : ∀ l : List B32, (∀ i, i < l.length → neighE l i = 0) → chkK l = 0
 | [], _ => rfl
 | [_], _ => rfl
 | a :: b :: l, h => by
  have h1 := h 1 (by simp)
  have h2 : neighE (a :: b :: l) 1 = if cmpB a b < 0 then 0 else if a = b then 9 else 8 := rfl
  rw [h2] at h1
  have hlt : cmpB a b < 0 := by
   by_cases hc : cmpB a b < 0
   ·exact hc
   ·rw [if_neg hc] at h1
    split at h1 <;> cases h1
  unfold chkK
  rw [if_neg (by omega), if_neg (by omega)]
  refine chkK_ok (b :: l) fun i hi => ?_
  by_cases h0 : i = 0
  ·unfold neighE; rw [if_pos h0]
  ·have h3 := h (i + 1) (by simp at hi ⊢; omega)
   unfold neighE at h3 ⊢
   rw [if_neg (by omega)] at h3
   rw [if_neg h0]
   obtain ⟨j, rfl⟩ : ∃ j, i = j + 1 := ⟨i - 1, by omega⟩
   simpa using h3
theorem claimsR_ok {l : List CB} (h : claimsR l = none) : keysE (keysC l) = 0 ∧ ∀ i, i < l.length → claimE (l.getD i zCB).c = 0 := by
 unfold claimsR at h
 split at h
 ·cases h
 ·split at h
  ·cases h
  ·rename_i h1 h2
   split at h
   ·cases h
   ·rename_i h3
    refine ⟨?_, fun i hi => firstF_zero _ _ _ h3 i (Nat.zero_le _) (by omega)⟩
    unfold keysE
    rw [keysC_len, if_neg h1, if_neg h2]
    exact chkK_ok _ fun i hi => firstF_zero _ _ _ h i (Nat.zero_le _) (by rw [keysC_len] at hi; omega)
end Go.Proofs.YtjhocljhhpkiiaaGreatDoor
