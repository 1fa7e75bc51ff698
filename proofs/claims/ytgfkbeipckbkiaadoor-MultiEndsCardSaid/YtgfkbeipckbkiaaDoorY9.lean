/- Arguments that are lists of items or of keys, opened; The library's comparison of byte slices; Repeat; node: what is read of a subtree; node: what makes a subtree; node.Join; find: the way of a key; find: the end of the way, the subtrees beside it; The reference's maps; Keys compared and checked (joined texts: TI N15 U16 U33 U34 U35 U36 U37 U38 U69) -/
import Derived.Test.YtgfkbeipckbkiaaDoorY8
import Derived.Lib.BytesEntry
import Derived.Lib.Bytealg
set_option linter.all false
/- TI -/
namespace Go.Proofs.YtgfkbeipckbkiaaDoor
set_option linter.unusedSimpArgs false
set_option linter.unusedVariables false
open Go.RowKit Go.ChangeShapes Go.WideShapes
section
variable {H : Type} {enc : TypeId × Value → H} {w : World} {base : Nat} {spare : Nat → Bool} {held : Bool} {v : Value} {d : DataW H} {ps : List MemPlace} {r : Reach} {b0 : Nat}
theorem c_Item : Tryd.prog.cellsOf 45 = 97 := by kernel_rfl
theorem itemFieldsO : ∃ f1 f2 f3 : Field, Tryd.prog.underlying 45 = some (.struct #[f1, f2, f3]) ∧ f1.type = 3 ∧ f2.type = 41 ∧ f3.type = 43 ∧ f1.offset = 0 ∧ f2.offset = 1 ∧ f3.offset = 33 :=
  ⟨_, _, _, Tryd.underlying45, rfl, rfl, rfl, rfl, rfl, rfl⟩
instance : Inhabited Item := ⟨zItem⟩
set_option maxRecDepth 100000 in
theorem dec_It {fuel : Nat} {cs : List Value} {x : DataW H × List MemPlace} (h : DataW.trod enc Tryd.prog w base spare held fuel 45 cs = some x) : ∃ y : Item, cs = y.cells ∧ True := by
  obtain ⟨f1, f2, f3, hT, t1, t2, t3, o1, o2, o3⟩ := itemFieldsO
  obtain ⟨g1, g2, hL, -, -, s1, s2, p1, p2⟩ := leafFields'
  obtain ⟨xs, n, -, -, hl, hxl, hx⟩ := DataW.trod_struct hT h
  rw [c_Item] at hl
  have hxl' : xs.length = 3 := hxl
  have k1 := hx 0 f1 rfl
  have k2 := hx 1 f2 rfl
  have k3 := hx 2 f3 rfl
  rw [List.getElem?_eq_getElem (by omega)] at k1 k2 k3
  rw [o1, t1, c_int, List.drop_zero] at k1
  rw [o2, t2, c_Digest] at k2
  rw [o3, t3, c_Leaf] at k3
  obtain ⟨m1, e1, -, -⟩ := DataW.trod_int Tryd.underlying3 k1
  obtain ⟨y2, e2⟩ := dec_B32 Tryd.underlying41 c_Digest Tryd.underlying5 c_u8 k2
  obtain ⟨y3, e3⟩ := dec_Leaf hL c_Leaf p1 p2 (by rw [s1]; exact Tryd.underlying40) (by rw [s2]; exact Tryd.underlying41) (by rw [s1]; exact c_Key) (by rw [s2]; exact c_Digest) Tryd.underlying5 c_u8 k3
  refine ⟨⟨m1, y2, y3⟩, ?_, trivial⟩
  have r1 : cs = cs.take 1 ++ ((cs.drop 1).take 32 ++ (cs.drop 33).take 64) := by
    rw [List.take_of_length_le (l := cs.drop 33) (by simp; omega)]
    rw [show cs.drop 33 = (cs.drop 1).drop 32 by rw [List.drop_drop], List.take_append_drop, List.take_append_drop]
  rw [r1, e1, e2, e3]
  rfl
set_option maxRecDepth 100000 in
theorem openItems (hval : Value.okWide Tryd.prog w r b0 31 v) (hd : DataW.Trod enc Tryd.prog w base spare held 31 v d ps) :
    ∃ (l : List Item) (A : Option Addr) (cap : Nat), v = .slice A l.length cap ∧ l.length ≤ cap ∧ RdZ (World.zh w) A (its l) := by
  obtain ⟨l, A, c, h1, h4, -, -, h2, -⟩ := open_rows (f := fun y : Item => y.cells) Item.cells_length (by omega) Tryd.underlying31 c_Item (fun _ => True) (fun fuel cs x h => dec_It h) hval hd
  exact ⟨l, A, c, h1, h4, RdZ.of h2⟩
set_option maxRecDepth 100000 in
theorem openKeys (hval : Value.okWide Tryd.prog w r b0 23 v) (hd : DataW.Trod enc Tryd.prog w base spare held 23 v d ps) :
    ∃ (l : List B32) (A : Option Addr) (cap : Nat), v = .slice A l.length cap ∧ l.length ≤ cap ∧ RdZ (World.zh w) A (dgs l) ∧ cap ≤ 9223372036854775807 := by
  have : Inhabited B32 := ⟨zB32⟩
  obtain ⟨l, A, c, h1, h4, h5, -, h2, -⟩ := open_rows (f := fun y : B32 => y.cells) B32.cells_length (by omega) Tryd.underlying23 c_Key (fun _ => True) (fun fuel cs x h => (dec_B32 Tryd.underlying40 c_Key Tryd.underlying5 c_u8 h).imp fun _ h => ⟨h, trivial⟩) hval hd
  exact ⟨l, A, c, h1, h4, RdZ.of h2, by have : maxLen ≤ 9223372036854775807 := by decide
                                        omega⟩
end
end Go.Proofs.YtgfkbeipckbkiaaDoor
/- N15 -/
namespace Go.Proofs.YtgfkbeipckbkiaaDoor
set_option linter.unusedSimpArgs false
set_option linter.unusedVariables false
open Go.RowKit
/-- the model's entry of bytealg.Compare -/
class TCmp (P : Program) (f : FuncId) : Prop where
  ok : ∀ args w, (callFunc f args).run P w = ((Extern.BytealgCompare.compare args).run P w).andThen fun v w' => .ok (.value v) w'
theorem bytes_back (l : List UInt8) : Lib.bytesOf (l.map fun x => (x.toNat : Int)) = l := by
  unfold Lib.bytesOf
  rw [List.map_map]
  conv => rhs; rw [← List.map_id l]
  apply List.map_congr_left
  intro x _
  simp
theorem run_bytesOf_rd {P : Program} {w : World} {A : Option Addr} {l : List UInt8} {c : Nat} (hr : Rd w A (bc l)) : (Extern.Bytes.bytesOf (.slice A l.length c)).run P w = .ok ⟨l.toArray⟩ w := by
  cases A with
  | none =>
    have : l = [] := by
      cases l with
      | nil => rfl
      | cons x l => obtain ⟨b, o, e, _⟩ := hr 0 (.int .u8 x.toNat) rfl; cases e
    subst this
    rfl
  | some a =>
    have h := Lib.run_loadBytesX (P := P) (w := w) (l.map fun x => (x.toNat : Int)) a .empty (fun j x hj => by
      obtain ⟨y, hy, rfl⟩ : ∃ y, l[j]? = some y ∧ (y.toNat : Int) = x := by simpa using hj
      have hj' : (bc l)[j]? = some (.int .u8 (y.toNat : Int)) := by simp [bc, hy]
      obtain ⟨b, o, e, h2⟩ := hr j _ hj'
      injection e with e
      subst e
      rw [Addr.add_mid]
      exact h2)
    rw [List.length_map, bytes_back] at h
    show (Extern.Bytes.loadBytes a l.length .empty).run P w = _
    rw [h]
    simp
section
variable {P : Program} {n : Nat} {D : List Deferred} {E : Env} {L : List Fa}
theorem r_cmp {f : FuncId} [hf : TCmp P f] {x y : Operand} {ts : Array TypeId} {A B : Option Addr} {c c' : Nat} {a b : List UInt8} (hx : ev E x = some (.slice A a.length c)) (hy : ev E y = some (.slice B b.length c')) [hA : Rd1 L (.rd A (bc a))] [hB : Rd1 L (.rd B (bc b))] : Runs0 P n D E L (.call ⟨.value (.func f), #[x, y], ts⟩) (.int .i64 (Lib.compareBytes a b)) := fun act w ka s o ho => by
  have h1 := run_bytesOf_rd (P := P) (c := c) (hA.ok s).2.1
  have h2 := run_bytesOf_rd (P := P) (c := c') (hB.ok s).2.1
  have e0 : ev E (.func f) = some (.func (.func f) #[] #[]) := rfl
  unfold execOp
  simp only [ho, resolve, ka.ev e0, Deferred.ofValue, Sem.run_bind, Sem.run_pure, Result.andThen_ok, invoke]
  have e1 : (#[x, y].map act.eval) = #[.slice A a.length c, .slice B b.length c'] := by simp [ka.ev hx, ka.ev hy]
  rw [e1]
  show (callFunc f #[.slice A a.length c, .slice B b.length c']).run P w = _
  have e2 : (Extern.BytealgCompare.compare #[.slice A a.length c, .slice B b.length c']).run P w = .ok (.int .i64 (Lib.compareBytes a b)) w := by
    change Sem.run P (do pure (goInt (Extern.BytealgCompare.cmp (← Extern.Bytes.bytesOf (.slice A a.length c)) (← Extern.Bytes.bytesOf (.slice B b.length c'))))) w = _
    simp only [Sem.run_bind, h1, h2, Result.andThen_ok, Sem.run_pure, Lib.cmp_eq]
    rfl
  rw [hf.ok, e2]
  rfl
end
end Go.Proofs.YtgfkbeipckbkiaaDoor
/- U16 -/
namespace Go.Proofs.YtgfkbeipckbkiaaDoor
set_option linter.unusedSimpArgs false
set_option linter.unusedVariables false
open Go.RowKit
instance : Wd 64 4294967295 4294967295 := ⟨rfl⟩
def rep (k n : Nat) (x : B32) : List B32 := List.replicate k x ++ List.replicate (n - k) zB32
end Go.Proofs.YtgfkbeipckbkiaaDoor
/- U33 -/
namespace Go.Proofs.YtgfkbeipckbkiaaDoor
set_option linter.unusedSimpArgs false
set_option linter.unusedVariables false
open Go.RowKit
section
variable (n : Nat) (h : Zh) (t : Tr) (p : Option Addr) [ht : TrZ n h t p]
include ht
theorem Kind_s : Spec Tryd.prog 55 [.pointer p].toArray [.zone false h] [] (fun _ : Unit => .int .i64 ((t.kind : Nat) : Int)) (fun _ => []) := by
  have ho := ht.ok
  clear ht
  refine spec_of Tryd.func55 rfl (n := 15) rfl rfl ?_
  intro W
  rcases t with _ | ⟨kk, b⟩ | ⟨l, r⟩
  · obtain rfl : p = none := ho
    refine h_seq ?_
    refine h_reg ?_
    refine h_op (r_assign rfl) ?_
    refine h_nil ?_
    refine q_then ?_
    refine h_seq ?_
    refine h_seq ?_
    refine h_reg ?_
    refine h_op (r_move rfl) ?_
    refine h_op (r_nilR rfl rfl) ?_
    refine h_nil ?_
    refine q_then ?_
    refine h_condT rfl ?_
    refine h_seq ?_
    refine h_reg ?_
    refine h_op (r_assign rfl) ?_
    refine h_nil ?_
    refine q_then ?_
    refine h_ret ?_
    refine q_thenR ?_
    exact h_ret1 rfl rfl fun w s => ⟨(), rfl, s.res (List.nil_sublist _) (by simp)⟩
  · obtain ⟨g, s, rfl, hr, hs⟩ := ho
    refine h_seq ?_
    refine h_reg ?_
    refine h_op (r_assign rfl) ?_
    refine h_nil ?_
    refine q_then ?_
    refine h_seq ?_
    refine h_seq ?_
    refine h_reg ?_
    refine h_op (r_move rfl) ?_
    refine h_op (r_nilR rfl rfl) ?_
    refine h_nil ?_
    refine q_then ?_
    refine h_condF rfl ?_
    refine h_skip ?_
    refine q_then ?_
    refine h_seq ?_
    refine h_seq ?_
    refine h_reg ?_
    refine h_op (r_move rfl) ?_
    refine h_op (r_nilc rfl) ?_
    refine h_op (r_field rfl) ?_
    refine h_op (r_loadc rfl) ?_
    refine h_nil ?_
    refine q_then ?_
    refine h_block ?_
    refine h_seq ?_
    refine h_reg ?_
    refine h_op (r_as2 rfl) ?_
    refine h_op (r_extract rfl rfl) ?_
    refine h_op (r_extract rfl rfl) ?_
    refine h_nil ?_
    refine q_then ?_
    refine h_condT rfl ?_
    refine h_seq ?_
    refine h_reg ?_
    refine h_op (r_assign rfl) ?_
    refine h_nil ?_
    refine q_then ?_
    refine h_ret ?_
    refine q_blockR ?_
    refine q_thenR ?_
    exact h_ret1 rfl rfl fun w s => ⟨(), rfl, s.res (List.nil_sublist _) (by simp)⟩
  · obtain ⟨g, pl, pr, rfl, hr, hl, hr2⟩ := ho
    refine h_seq ?_
    refine h_reg ?_
    refine h_op (r_assign rfl) ?_
    refine h_nil ?_
    refine q_then ?_
    refine h_seq ?_
    refine h_seq ?_
    refine h_reg ?_
    refine h_op (r_move rfl) ?_
    refine h_op (r_nilR rfl rfl) ?_
    refine h_nil ?_
    refine q_then ?_
    refine h_condF rfl ?_
    refine h_skip ?_
    refine q_then ?_
    refine h_seq ?_
    refine h_seq ?_
    refine h_reg ?_
    refine h_op (r_move rfl) ?_
    refine h_op (r_nilc rfl) ?_
    refine h_op (r_field rfl) ?_
    refine h_op (r_loadc rfl) ?_
    refine h_nil ?_
    refine q_then ?_
    refine h_block ?_
    refine h_seq ?_
    refine h_reg ?_
    refine h_op (r_as2n rfl) ?_
    refine h_op (r_extract rfl rfl) ?_
    refine h_op (r_extract rfl rfl) ?_
    refine h_nil ?_
    refine q_then ?_
    refine h_condF rfl ?_
    refine h_seq ?_
    refine h_reg ?_
    refine h_op (r_as2 rfl) ?_
    refine h_op (r_extract rfl rfl) ?_
    refine h_op (r_extract rfl rfl) ?_
    refine h_nil ?_
    refine q_then ?_
    refine h_condT rfl ?_
    refine h_seq ?_
    refine h_reg ?_
    refine h_op (r_assign rfl) ?_
    refine h_nil ?_
    refine q_then ?_
    refine h_ret ?_
    refine q_blockR ?_
    refine q_thenR ?_
    exact h_ret1 rfl rfl fun w s => ⟨(), rfl, s.res (List.nil_sublist _) (by simp)⟩
end
theorem leaf_s (n : Nat) (h : Zh) (kk : B32) (b : List UInt8) (p : Option Addr) [ht : TrZ n h (.leaf kk b) p] : Spec Tryd.prog 78 [.pointer p].toArray [.zone false h] [] (fun s : {s : Sl // SlZ h s b} => .agg (NLeaf.cells ⟨leafOf n kk b, s.1⟩).toArray) (fun _ => []) := by
  obtain ⟨g, s, rfl, hr, hs⟩ := ht.ok
  refine spec_of Tryd.func78 rfl (n := 12) rfl rfl ?_
  intro W
  refine h_seq ?_
  refine h_reg ?_
  refine h_opX (x_alloc) fun g2 => ?_
  refine h_nil ?_
  refine q_then ?_
  refine h_seq ?_
  refine h_seq ?_
  refine h_reg ?_
  refine h_op (r_move rfl) ?_
  refine h_call ((Kind_s n h (.leaf kk b) (some ⟨g, 0, none⟩)).comes) rfl rfl rfl fun _ => ?_
  refine h_op (r_bool (r_neq rfl rfl) (show _ = false by simp [Tr.kind])) ?_
  refine h_nil ?_
  refine q_then ?_
  refine h_condF rfl ?_
  refine h_skip ?_
  refine q_then ?_
  refine h_seq ?_
  refine h_reg ?_
  refine h_op (r_move rfl) ?_
  refine h_op (r_nilc rfl) ?_
  refine h_op (r_field rfl) ?_
  refine h_op (r_loadc rfl) ?_
  refine h_op (r_as1 rfl) ?_
  refine h_opS (s_storer rfl rfl) ?_
  refine h_nil ?_
  refine q_then ?_
  refine h_ret ?_
  exact h_ret1 rfl (rv_row rfl) fun w s' => ⟨⟨s, hs⟩, rfl, s'.res (List.nil_sublist _) (by simp)⟩
theorem leaf_no (n : Nat) (h : Zh) (t : Tr) (p : Option Addr) [ht : TrZ n h t p] (hk : t.kind ≠ 1) : Spec Tryd.prog 78 [.pointer p].toArray [.zone false h] [] (fun _ : Unit => .agg zNLeaf.cells.toArray) (fun _ => []) := by
  refine spec_of Tryd.func78 rfl (n := 12) rfl rfl ?_
  intro W
  refine h_seq ?_
  refine h_reg ?_
  refine h_opX (x_alloc) fun g2 => ?_
  refine h_nil ?_
  refine q_then ?_
  refine h_seq ?_
  refine h_seq ?_
  refine h_reg ?_
  refine h_op (r_move rfl) ?_
  refine h_call ((Kind_s n h t p).comes) rfl rfl rfl fun _ => ?_
  refine h_op (r_bool (r_neq rfl rfl) (show _ = true by simp; omega)) ?_
  refine h_nil ?_
  refine q_then ?_
  refine h_condT rfl ?_
  refine h_seq ?_
  refine h_reg ?_
  refine h_op (r_build rfl) ?_
  refine h_opS (s_storer rfl rfl) ?_
  refine h_nil ?_
  refine q_then ?_
  refine h_ret ?_
  refine q_thenR ?_
  exact h_ret1 rfl (rv_row rfl) fun w s' => ⟨(), rfl, s'.res (List.nil_sublist _) (by simp)⟩
theorem Leaf_s (n : Nat) (h : Zh) (t : Tr) (p : Option Addr) [ht : TrZ n h t p] : Spec Tryd.prog 57 [.pointer p].toArray [.zone false h] [] (fun _ : Unit => .agg (leafT n t).cells.toArray) (fun _ => []) := by
  refine spec_of Tryd.func57 rfl (n := 6) rfl rfl ?_
  intro W
  rcases t with _ | ⟨kk, b⟩ | ⟨l, r⟩
  · refine h_seq ?_
    refine h_reg ?_
    refine h_opX (x_alloc) fun g2 => ?_
    refine h_nil ?_
    refine q_then ?_
    refine h_seq ?_
    refine h_reg ?_
    refine h_op (r_move rfl) ?_
    refine h_call ((leaf_no n h .nil p (by simp [Tr.kind])).comes) rfl rfl rfl fun _ => ?_
    refine h_op (r_fldr rfl) ?_
    refine h_opS (s_storer rfl rfl) ?_
    refine h_nil ?_
    refine q_then ?_
    refine h_ret ?_
    exact h_ret1 rfl (rv_row rfl) fun w s' => ⟨(), rfl, s'.res (List.nil_sublist _) (by simp)⟩
  · refine h_seq ?_
    refine h_reg ?_
    refine h_opX (x_alloc) fun g2 => ?_
    refine h_nil ?_
    refine q_then ?_
    refine h_seq ?_
    refine h_reg ?_
    refine h_op (r_move rfl) ?_
    refine h_call ((leaf_s n h kk b p).comes) rfl rfl rfl fun ⟨s, hs⟩ => ?_
    refine h_op (r_fldr rfl) ?_
    refine h_opS (s_storer rfl rfl) ?_
    refine h_nil ?_
    refine q_then ?_
    refine h_ret ?_
    exact h_ret1 rfl (rv_row rfl) fun w s' => ⟨(), rfl, s'.res (List.nil_sublist _) (by simp)⟩
  · refine h_seq ?_
    refine h_reg ?_
    refine h_opX (x_alloc) fun g2 => ?_
    refine h_nil ?_
    refine q_then ?_
    refine h_seq ?_
    refine h_reg ?_
    refine h_op (r_move rfl) ?_
    refine h_call ((leaf_no n h (.node l r) p (by simp [Tr.kind])).comes) rfl rfl rfl fun _ => ?_
    refine h_op (r_fldr rfl) ?_
    refine h_opS (s_storer rfl rfl) ?_
    refine h_nil ?_
    refine q_then ?_
    refine h_ret ?_
    exact h_ret1 rfl (rv_row rfl) fun w s' => ⟨(), rfl, s'.res (List.nil_sublist _) (by simp)⟩
theorem inner_s (n : Nat) (h : Zh) (l r : Tr) (p : Option Addr) [ht : TrZ n h (.node l r) p] : Spec Tryd.prog 92 [.pointer p].toArray [.zone false h] [] (fun _ : Unit => .agg (NInner.cells ⟨subP h false p, subP h true p, dgT n l, dgT n r, ((l.cnt + r.cnt : Nat) : Int)⟩).toArray) (fun _ => []) := by
  obtain ⟨g, pl, pr, rfl, hr, hl, hr2⟩ := ht.ok
  rw [subP_node hr, subP_node hr]
  refine spec_of Tryd.func92 rfl (n := 12) rfl rfl ?_
  intro W
  refine h_seq ?_
  refine h_reg ?_
  refine h_opX (x_alloc) fun g2 => ?_
  refine h_nil ?_
  refine q_then ?_
  refine h_seq ?_
  refine h_seq ?_
  refine h_reg ?_
  refine h_op (r_move rfl) ?_
  refine h_call ((Kind_s n h (.node l r) (some ⟨g, 0, none⟩)).comes) rfl rfl rfl fun _ => ?_
  refine h_op (r_bool (r_neq rfl rfl) (show _ = false by simp [Tr.kind])) ?_
  refine h_nil ?_
  refine q_then ?_
  refine h_condF rfl ?_
  refine h_skip ?_
  refine q_then ?_
  refine h_seq ?_
  refine h_reg ?_
  refine h_op (r_move rfl) ?_
  refine h_op (r_nilc rfl) ?_
  refine h_op (r_field rfl) ?_
  refine h_op (r_loadc rfl) ?_
  refine h_op (r_as1 rfl) ?_
  refine h_opS (s_storer rfl rfl) ?_
  refine h_nil ?_
  refine q_then ?_
  refine h_ret ?_
  exact h_ret1 rfl (rv_row rfl) fun w s' => ⟨(), rfl, s'.res (List.nil_sublist _) (by simp)⟩
theorem inner_no (n : Nat) (h : Zh) (t : Tr) (p : Option Addr) [ht : TrZ n h t p] (hk : t.kind ≠ 2) : Spec Tryd.prog 92 [.pointer p].toArray [.zone false h] [] (fun _ : Unit => .agg zNInner.cells.toArray) (fun _ => []) := by
  refine spec_of Tryd.func92 rfl (n := 12) rfl rfl ?_
  intro W
  refine h_seq ?_
  refine h_reg ?_
  refine h_opX (x_alloc) fun g2 => ?_
  refine h_nil ?_
  refine q_then ?_
  refine h_seq ?_
  refine h_seq ?_
  refine h_reg ?_
  refine h_op (r_move rfl) ?_
  refine h_call ((Kind_s n h t p).comes) rfl rfl rfl fun _ => ?_
  refine h_op (r_bool (r_neq rfl rfl) (show _ = true by simp; omega)) ?_
  refine h_nil ?_
  refine q_then ?_
  refine h_condT rfl ?_
  refine h_seq ?_
  refine h_reg ?_
  refine h_op (r_build rfl) ?_
  refine h_opS (s_storer rfl rfl) ?_
  refine h_nil ?_
  refine q_then ?_
  refine h_ret ?_
  refine q_thenR ?_
  exact h_ret1 rfl (rv_row rfl) fun w s' => ⟨(), rfl, s'.res (List.nil_sublist _) (by simp)⟩
theorem Left_s (n : Nat) (h : Zh) (t : Tr) (p : Option Addr) [ht : TrZ n h t p] : Spec Tryd.prog 82 [.pointer p].toArray [.zone false h] [] (fun _ : Unit => .pointer (subP h false p)) (fun _ => []) := by
  refine spec_of Tryd.func82 rfl (n := 7) rfl rfl ?_
  intro W
  by_cases hk : t.kind = 2
  · rcases t with _ | ⟨kk, b⟩ | ⟨l, r⟩
    · cases hk
    · cases hk
    refine h_seq ?_
    refine h_reg ?_
    refine h_op (r_assign rfl) ?_
    refine h_nil ?_
    refine q_then ?_
    refine h_seq ?_
    refine h_reg ?_
    refine h_op (r_move rfl) ?_
    refine h_call ((inner_s n h l r p).comes) rfl rfl rfl fun _ => ?_
    refine h_op (r_fldr rfl) ?_
    refine h_op (r_ixc rfl rfl (v := .pointer (subP h false p)) rfl) ?_
    refine h_op (r_assign rfl) ?_
    refine h_nil ?_
    refine q_then ?_
    refine h_ret ?_
    exact h_ret1 rfl rfl fun w s' => ⟨(), rfl, s'.res (List.nil_sublist _) (by simp)⟩
  · have e : subP h false p = none := by
      have := ht.ok.sub false
      rcases t with _ | ⟨kk, b⟩ | ⟨l, r⟩
      · exact this
      · exact this
      · exact (hk rfl).elim
    rw [e]
    refine h_seq ?_
    refine h_reg ?_
    refine h_op (r_assign rfl) ?_
    refine h_nil ?_
    refine q_then ?_
    refine h_seq ?_
    refine h_reg ?_
    refine h_op (r_move rfl) ?_
    refine h_call ((inner_no n h t p hk).comes) rfl rfl rfl fun _ => ?_
    refine h_op (r_fldr rfl) ?_
    refine h_op (r_ixc rfl rfl (v := .pointer none) rfl) ?_
    refine h_op (r_assign rfl) ?_
    refine h_nil ?_
    refine q_then ?_
    refine h_ret ?_
    exact h_ret1 rfl rfl fun w s' => ⟨(), rfl, s'.res (List.nil_sublist _) (by simp)⟩
theorem Right_s (n : Nat) (h : Zh) (t : Tr) (p : Option Addr) [ht : TrZ n h t p] : Spec Tryd.prog 83 [.pointer p].toArray [.zone false h] [] (fun _ : Unit => .pointer (subP h true p)) (fun _ => []) := by
  refine spec_of Tryd.func83 rfl (n := 7) rfl rfl ?_
  intro W
  by_cases hk : t.kind = 2
  · rcases t with _ | ⟨kk, b⟩ | ⟨l, r⟩
    · cases hk
    · cases hk
    refine h_seq ?_
    refine h_reg ?_
    refine h_op (r_assign rfl) ?_
    refine h_nil ?_
    refine q_then ?_
    refine h_seq ?_
    refine h_reg ?_
    refine h_op (r_move rfl) ?_
    refine h_call ((inner_s n h l r p).comes) rfl rfl rfl fun _ => ?_
    refine h_op (r_fldr rfl) ?_
    refine h_op (r_ixc rfl rfl (v := .pointer (subP h true p)) rfl) ?_
    refine h_op (r_assign rfl) ?_
    refine h_nil ?_
    refine q_then ?_
    refine h_ret ?_
    exact h_ret1 rfl rfl fun w s' => ⟨(), rfl, s'.res (List.nil_sublist _) (by simp)⟩
  · have e : subP h true p = none := by
      have := ht.ok.sub true
      rcases t with _ | ⟨kk, b⟩ | ⟨l, r⟩
      · exact this
      · exact this
      · exact (hk rfl).elim
    rw [e]
    refine h_seq ?_
    refine h_reg ?_
    refine h_op (r_assign rfl) ?_
    refine h_nil ?_
    refine q_then ?_
    refine h_seq ?_
    refine h_reg ?_
    refine h_op (r_move rfl) ?_
    refine h_call ((inner_no n h t p hk).comes) rfl rfl rfl fun _ => ?_
    refine h_op (r_fldr rfl) ?_
    refine h_op (r_ixc rfl rfl (v := .pointer none) rfl) ?_
    refine h_op (r_assign rfl) ?_
    refine h_nil ?_
    refine q_then ?_
    refine h_ret ?_
    exact h_ret1 rfl rfl fun w s' => ⟨(), rfl, s'.res (List.nil_sublist _) (by simp)⟩
theorem NLen_s (n : Nat) (h : Zh) (t : Tr) (p : Option Addr) [ht : TrZ n h t p] : Spec Tryd.prog 74 [.pointer p].toArray [.zone false h] [] (fun _ : Unit => .int .i64 ((t.cnt : Nat) : Int)) (fun _ => []) := by
  refine spec_of Tryd.func74 rfl (n := 9) rfl rfl ?_
  intro W
  rcases t with _ | ⟨kk, b⟩ | ⟨l, r⟩
  · refine h_seq ?_
    refine h_reg ?_
    refine h_op (r_assign rfl) ?_
    refine h_nil ?_
    refine q_then ?_
    refine h_seq ?_
    refine h_seq ?_
    refine h_reg ?_
    refine h_op (r_move rfl) ?_
    refine h_call ((Kind_s n h .nil p).comes) rfl rfl rfl fun _ => ?_
    refine h_op (r_bool (r_eql rfl rfl) (show _ = false by simp [Tr.kind])) ?_
    refine h_nil ?_
    refine q_then ?_
    refine h_condF rfl ?_
    refine h_skip ?_
    refine q_then ?_
    refine h_seq ?_
    refine h_reg ?_
    refine h_op (r_move rfl) ?_
    refine h_call ((inner_no n h .nil p (by simp [Tr.kind])).comes) rfl rfl rfl fun _ => ?_
    refine h_op (r_fldc rfl) ?_
    refine h_op (r_assign rfl) ?_
    refine h_nil ?_
    refine q_then ?_
    refine h_ret ?_
    exact h_ret1 rfl rfl fun w s' => ⟨(), rfl, s'.res (List.nil_sublist _) (by simp)⟩
  · refine h_seq ?_
    refine h_reg ?_
    refine h_op (r_assign rfl) ?_
    refine h_nil ?_
    refine q_then ?_
    refine h_seq ?_
    refine h_seq ?_
    refine h_reg ?_
    refine h_op (r_move rfl) ?_
    refine h_call ((Kind_s n h (.leaf kk b) p).comes) rfl rfl rfl fun _ => ?_
    refine h_op (r_bool (r_eql rfl rfl) (show _ = true by simp [Tr.kind])) ?_
    refine h_nil ?_
    refine q_then ?_
    refine h_condT rfl ?_
    refine h_seq ?_
    refine h_reg ?_
    refine h_op (r_assign rfl) ?_
    refine h_nil ?_
    refine q_then ?_
    refine h_ret ?_
    refine q_thenR ?_
    exact h_ret1 rfl rfl fun w s' => ⟨(), rfl, s'.res (List.nil_sublist _) (by simp)⟩
  · refine h_seq ?_
    refine h_reg ?_
    refine h_op (r_assign rfl) ?_
    refine h_nil ?_
    refine q_then ?_
    refine h_seq ?_
    refine h_seq ?_
    refine h_reg ?_
    refine h_op (r_move rfl) ?_
    refine h_call ((Kind_s n h (.node l r) p).comes) rfl rfl rfl fun _ => ?_
    refine h_op (r_bool (r_eql rfl rfl) (show _ = false by simp [Tr.kind])) ?_
    refine h_nil ?_
    refine q_then ?_
    refine h_condF rfl ?_
    refine h_skip ?_
    refine q_then ?_
    refine h_seq ?_
    refine h_reg ?_
    refine h_op (r_move rfl) ?_
    refine h_call ((inner_s n h l r p).comes) rfl rfl rfl fun _ => ?_
    refine h_op (r_fldc rfl) ?_
    refine h_op (r_assign rfl) ?_
    refine h_nil ?_
    refine q_then ?_
    refine h_ret ?_
    exact h_ret1 rfl rfl fun w s' => ⟨(), rfl, s'.res (List.nil_sublist _) (by simp)⟩
theorem Digest_s (n : Nat) (hn : n ≤ 256) (gh gc k : Nat) (hk : k ≤ 1000000000000) (h : Zh) (t : Tr) (p : Option Addr) [ht : TrZ n h t p] : Spec Tryd.prog 56 [.pointer (some ⟨gh, 0, none⟩), .pointer p].toArray [HR gh gc n, .zone false h, TBL] [CN gc k] (fun _ : Unit => .agg (dgT n t).cells.toArray) (fun _ => [CN gc (k + if t.kind = 0 then 1 else 0)]) := by
  have ho := ht.ok
  rcases t with _ | ⟨kk, b⟩ | ⟨l, r⟩
  · obtain rfl : p = none := ho
    refine spec_of Tryd.func56 rfl (n := 14) rfl rfl ?_
    intro W
    refine h_seq ?_
    refine h_reg ?_
    refine h_opX (x_alloc) fun g4 => ?_
    refine h_nil ?_
    refine q_then ?_
    refine h_seq ?_
    refine h_seq ?_
    refine h_reg ?_
    refine h_op (r_move rfl) ?_
    refine h_op (r_nilR rfl rfl) ?_
    refine h_nil ?_
    refine q_then ?_
    refine h_condT rfl ?_
    refine h_seq ?_
    refine h_reg ?_
    refine h_op (r_move rfl) ?_
    refine h_call (pEmpty_s.comes) rfl rfl rfl fun ⟨g8, c8⟩ => ?_
    dsimp only
    refine h_call ((HSum_s n hn gh gc k hk preE (some ⟨g8, 0, none⟩) c8 (fun h => by cases h) (by decide)).comes) rfl rfl rfl fun _ => ?_
    refine h_opS (s_storer rfl rfl) ?_
    refine h_nil ?_
    refine q_then ?_
    refine h_ret ?_
    refine q_thenR ?_
    exact h_ret1 rfl (rv_row rfl) fun w s => ⟨(), rfl, (same (L' := [CN gc (k + 1)]) w s).res (List.Sublist.refl _) (by simp [Fa.wr])⟩
  · obtain ⟨g, s, rfl, hr, hs⟩ := ho
    refine spec_of Tryd.func56 rfl (n := 14) rfl rfl ?_
    intro W
    refine h_seq ?_
    refine h_reg ?_
    refine h_opX (x_alloc) fun g4 => ?_
    refine h_nil ?_
    refine q_then ?_
    refine h_seq ?_
    refine h_seq ?_
    refine h_reg ?_
    refine h_op (r_move rfl) ?_
    refine h_op (r_nilR rfl rfl) ?_
    refine h_nil ?_
    refine q_then ?_
    refine h_condF rfl ?_
    refine h_skip ?_
    refine q_then ?_
    refine h_seq ?_
    refine h_reg ?_
    refine h_op (r_move rfl) ?_
    refine h_op (r_nilc rfl) ?_
    refine h_op (r_field rfl) ?_
    refine h_op (r_loadr rfl) ?_
    refine h_opS (s_storer rfl rfl) ?_
    refine h_nil ?_
    refine q_then ?_
    refine h_ret ?_
    exact h_ret1 rfl (rv_row rfl) fun w s => ⟨(), rfl, (same (L' := [CN gc k]) w s).res (List.Sublist.refl _) (by simp [Fa.wr])⟩
  · obtain ⟨g, pl, pr, rfl, hr, hl, hr2⟩ := ho
    refine spec_of Tryd.func56 rfl (n := 14) rfl rfl ?_
    intro W
    refine h_seq ?_
    refine h_reg ?_
    refine h_opX (x_alloc) fun g4 => ?_
    refine h_nil ?_
    refine q_then ?_
    refine h_seq ?_
    refine h_seq ?_
    refine h_reg ?_
    refine h_op (r_move rfl) ?_
    refine h_op (r_nilR rfl rfl) ?_
    refine h_nil ?_
    refine q_then ?_
    refine h_condF rfl ?_
    refine h_skip ?_
    refine q_then ?_
    refine h_seq ?_
    refine h_reg ?_
    refine h_op (r_move rfl) ?_
    refine h_op (r_nilc rfl) ?_
    refine h_op (r_field rfl) ?_
    refine h_op (r_loadr rfl) ?_
    refine h_opS (s_storer rfl rfl) ?_
    refine h_nil ?_
    refine q_then ?_
    refine h_ret ?_
    exact h_ret1 rfl (rv_row rfl) fun w s => ⟨(), rfl, (same (L' := [CN gc k]) w s).res (List.Sublist.refl _) (by simp [Fa.wr])⟩
end Go.Proofs.YtgfkbeipckbkiaaDoor
/- U34 -/
namespace Go.Proofs.YtgfkbeipckbkiaaDoor
set_option linter.unusedSimpArgs false
set_option linter.unusedVariables false
open Go.RowKit
theorem Clone_s (l : List UInt8) (B : Option Addr) (c : Nat) (hB : B = none → l.length = 0 ∧ c = 0) (hl : l.length ≤ 1000000000) : Spec Tryd.prog 73 [.slice B l.length c].toArray [.rd B (bc l)] [] (fun u : Option Addr × Nat => .slice u.1 l.length u.2) (fun u => [.own (.slice u.1 l.length u.2) l.length 5 1 (bc l)]) := by
  refine spec_of Tryd.func73 rfl (n := 8) rfl rfl ?_
  intro W
  rcases B with _ | B
  · obtain ⟨h1, h2⟩ := hB rfl
    obtain rfl : l = [] := List.eq_nil_of_length_eq_zero h1
    refine h_seq ?_
    refine h_reg ?_
    refine h_op (r_assign rfl) ?_
    refine h_nil ?_
    refine q_then ?_
    refine h_seq ?_
    refine h_seq ?_
    refine h_reg ?_
    refine h_op (r_move rfl) ?_
    refine h_op (r_slnil rfl rfl) ?_
    refine h_nil ?_
    refine q_then ?_
    refine h_condT rfl ?_
    refine h_seq ?_
    refine h_reg ?_
    refine h_op (r_assign rfl) ?_
    refine h_nil ?_
    refine q_then ?_
    refine h_ret ?_
    refine q_thenR ?_
    refine h_nil_own 5 1 (xs := bc []) rfl ?_
    exact h_ret1 rfl rfl fun w s => ⟨(none, 0), rfl, (same w s).res (List.Sublist.refl _) (by simp [Fa.wr])⟩
  · refine h_seq ?_
    refine h_reg ?_
    refine h_op (r_assign rfl) ?_
    refine h_nil ?_
    refine q_then ?_
    refine h_seq ?_
    refine h_seq ?_
    refine h_reg ?_
    refine h_op (r_move rfl) ?_
    refine h_op (r_slnil rfl rfl) ?_
    refine h_nil ?_
    refine q_then ?_
    refine h_condF rfl ?_
    refine h_skip ?_
    refine q_then ?_
    refine h_seq ?_
    refine h_reg ?_
    refine h_opX (x_bsl0 (xs := bc [])) fun g5 => ?_
    refine h_op (r_move rfl) ?_
    refine h_opX (x_appAB rfl rfl hB rfl (hN := Nat.zero_add _)) fun ⟨A7, c7⟩ => ?_
    refine h_op (r_assign rfl) ?_
    refine h_nil ?_
    refine q_then ?_
    refine h_ret ?_
    rw [List.nil_append]
    exact h_ret1 rfl rfl fun w s => ⟨(A7, c7), rfl, (same w s).res (List.Sublist.refl _) (by simp [Fa.wr])⟩
theorem pValue_s (l : List UInt8) (B : Option Addr) (c : Nat) (hB : B = none → l.length = 0 ∧ c = 0) (hl : l.length ≤ 100000000) : Spec Tryd.prog 91 [.slice B l.length c].toArray [.rd B (bc l)] [] (fun u : Nat × Nat => .slice (some ⟨u.1, 0, none⟩) (preV l).length u.2) (fun u => [.own (.slice (some ⟨u.1, 0, none⟩) (preV l).length u.2) (preV l).length 5 1 (bc (preV l))]) := by
  have hseg : (2 : UInt8) :: segB [(B, c, l)] = preV l := by simp [segB, preV]
  refine spec_of Tryd.func91 rfl (n := 6) rfl rfl ?_
  intro W
  refine h_seq ?_
  refine h_reg ?_
  refine h_op (r_assign rfl) ?_
  refine h_nil ?_
  refine q_then ?_
  refine h_seq ?_
  refine h_reg ?_
  refine h_op (r_move rfl) ?_
  refine h_opX (x_bslV (ys := [.slice B l.length c]) (svs [(B, c, l)]) rfl rfl (svs_one _)) fun g4 => ?_
  refine h_call ((build_s 2 [(B, c, l)] (some ⟨g4, 0, none⟩) 1 (by simpa using hB) (by simp [segN]; omega)).comes) rfl rfl rfl fun ⟨g8, c8⟩ => ?_
  dsimp only
  rw [hseg]
  refine h_op (r_assign rfl) ?_
  refine h_nil ?_
  refine q_then ?_
  refine h_ret ?_
  exact h_ret1 rfl rfl fun w s => ⟨(g8, c8), rfl, (same w s).res (List.Sublist.refl _) (by simp [Fa.wr])⟩
theorem LeafOf_s (n : Nat) (hn : n ≤ 256) (gh gc k : Nat) (hk : k ≤ 1000000000000) (key : B32) (l : List UInt8) (B : Option Addr) (c : Nat) (hB : B = none → l.length = 0 ∧ c = 0) (hl : l.length ≤ 100000000) : Spec Tryd.prog 72 [.pointer (some ⟨gh, 0, none⟩), .agg key.cells.toArray, .slice B l.length c].toArray [HR gh gc n, .rd B (bc l), TBL] [CN gc k] (fun _ : Unit => .agg (leafOf n key l).cells.toArray) (fun _ => [CN gc (k + 1)]) := by
  have hpl : (preV l).length = l.length + 1 := rfl
  refine spec_of Tryd.func72 rfl (n := 13) rfl rfl ?_
  intro W
  refine h_seq ?_
  refine h_reg ?_
  refine h_opX (x_box rfl) fun g4 => ?_
  refine h_opX (x_alloc) fun g6 => ?_
  refine h_nil ?_
  refine q_then ?_
  refine h_seq ?_
  refine ha_start [.blk g4 key.cells 40] [] mixed (same) ?_
  refine ha_take 0 rfl (r_loadr rfl) ?_
  refine ha_takeP 1 rfl (r_move rfl) ?_
  refine ha_takeP 2 rfl (r_move rfl) ?_
  refine ha_one 3 ?_
  refine ho_C 3 rfl ((pValue_s l B c hB hl).comes) rfl rfl rfl (fun _ => same) fun ⟨g10, c10⟩ => ?_
  refine ha_one 4 ?_
  refine ho_C 4 rfl ((HSum_s n hn gh gc k hk (preV l) (some ⟨g10, 0, none⟩) c10 (fun h => by cases h) (by omega)).comes) rfl rfl rfl (fun _ => same) fun _ => ?_
  refine ha_takeP 5 rfl (r_build rfl) ?_
  refine ha_one 6 ?_
  refine ho_SL 6 rfl (s_storer rfl rfl) ?_
  refine q_then ?_
  refine h_ret ?_
  exact h_ret1 rfl (rv_row rfl) fun w s => ⟨(), rfl, (same w s).res (List.Sublist.refl _) (by simp [Fa.wr])⟩
theorem lpre_s (x : NLeaf) : Spec Tryd.prog 140 [.agg x.cells.toArray].toArray [] [] (fun u : Nat × Nat => .slice (some ⟨u.1, 0, none⟩) (preL x.leaf).length u.2) (fun u => [.own (.slice (some ⟨u.1, 0, none⟩) (preL x.leaf).length u.2) (preL x.leaf).length 5 1 (bc (preL x.leaf))]) := by
  refine spec_of Tryd.func140 rfl (n := 6) rfl rfl ?_
  intro W
  refine h_seq ?_
  refine h_reg ?_
  refine h_opX (x_box rfl) fun g1 => ?_
  refine h_op (r_assign rfl) ?_
  refine h_nil ?_
  refine q_then ?_
  refine h_seq ?_
  refine h_reg ?_
  refine h_op (r_field rfl) ?_
  refine h_op (r_loadr rfl) ?_
  refine h_call ((pLeaf_s x.leaf).comes) rfl rfl rfl fun ⟨g5, c5⟩ => ?_
  refine h_op (r_assign rfl) ?_
  refine h_nil ?_
  refine q_then ?_
  refine h_ret ?_
  exact h_ret1 rfl rfl fun w s => ⟨(g5, c5), rfl, (same w s).res (List.Sublist.refl _) (by simp [Fa.wr])⟩
theorem ipre_s (x : NInner) : Spec Tryd.prog 141 [.agg x.cells.toArray].toArray [] [] (fun u : Nat × Nat => .slice (some ⟨u.1, 0, none⟩) (preN x.dl x.dr).length u.2) (fun u => [.own (.slice (some ⟨u.1, 0, none⟩) (preN x.dl x.dr).length u.2) (preN x.dl x.dr).length 5 1 (bc (preN x.dl x.dr))]) := by
  refine spec_of Tryd.func141 rfl (n := 10) rfl rfl ?_
  intro W
  refine h_seq ?_
  refine h_reg ?_
  refine h_opX (x_box rfl) fun g1 => ?_
  refine h_op (r_assign rfl) ?_
  refine h_nil ?_
  refine q_then ?_
  refine h_seq ?_
  refine h_reg ?_
  refine h_op (r_field rfl) ?_
  refine h_op (r_idxA rfl rfl) ?_
  refine h_op (r_loadr rfl) ?_
  refine h_op (r_field rfl) ?_
  refine h_op (r_idxA rfl rfl) ?_
  refine h_op (r_loadr rfl) ?_
  refine h_call ((pNode_s x.dl x.dr).comes) rfl rfl rfl fun ⟨g9, c9⟩ => ?_
  refine h_op (r_assign rfl) ?_
  refine h_nil ?_
  refine q_then ?_
  refine h_ret ?_
  exact h_ret1 rfl rfl fun w s => ⟨(g9, c9), rfl, (same w s).res (List.Sublist.refl _) (by simp [Fa.wr])⟩
theorem with_s (n : Nat) (hn : n ≤ 256) (gh gc k : Nat) (hk : k ≤ 1000000000000) (T f : Nat) (u : Value) (pre : List UInt8) [MethT Tryd.prog T "sparsetree/node.preimage" f] [Ent Tryd.prog f] (hp : pre.length ≤ 1000000000)
    (hm : Spec Tryd.prog f [u].toArray [] [] (fun u : Nat × Nat => .slice (some ⟨u.1, 0, none⟩) pre.length u.2) (fun u => [.own (.slice (some ⟨u.1, 0, none⟩) pre.length u.2) pre.length 5 1 (bc pre)])) :
    Spec Tryd.prog 71 [.pointer (some ⟨gh, 0, none⟩), .iface T u].toArray [HR gh gc n, TBL] [CN gc k] (fun g : Nat => .pointer (some ⟨g, 0, none⟩)) (fun g => [.blk g (Nd.cells ⟨.iface T u, sumB n pre⟩) 135, CN gc (k + 1)]) := by
  refine spec_of Tryd.func71 rfl (n := 12) rfl rfl ?_
  intro W
  refine h_seq ?_
  refine h_reg ?_
  refine h_op (r_assign rfl) ?_
  refine h_nil ?_
  refine q_then ?_
  refine h_seq ?_
  refine h_reg ?_
  refine h_op (r_move rfl) ?_
  refine h_op (r_move rfl) ?_
  refine h_op (r_move rfl) ?_
  refine h_callM (hm.comes) rfl rfl rfl fun ⟨g8, c8⟩ => ?_
  refine h_call ((HSum_s n hn gh gc k hk pre (some ⟨g8, 0, none⟩) c8 (fun h => by cases h) (by omega)).comes) rfl rfl rfl fun _ => ?_
  refine h_op (r_build rfl) ?_
  refine h_opX (x_box rfl) fun g11 => ?_
  refine h_op (r_assign rfl) ?_
  refine h_nil ?_
  refine q_then ?_
  refine h_ret ?_
  exact h_ret1 rfl rfl fun w s => ⟨g11, rfl, (same w s).res (List.Sublist.refl _) (by simp [Fa.wr])⟩
theorem NewLeaf_s (n : Nat) (hn : n ≤ 256) (gh gc k : Nat) (hk : k ≤ 100000000000) (h : Zh) [ht : RdZ h (some ⟨1, 0, none⟩) hashT] (key : B32) (s : Sl) (b : List UInt8) [hs : SlZ h s b] (hb : b.length ≤ 100000000) :
    Spec Tryd.prog 49 [.pointer (some ⟨gh, 0, none⟩), .agg (Entry.cells ⟨key, s⟩).toArray].toArray [HR gh gc n] [.zone true h, CN gc k] (fun x : {x : Zh × Option Addr // LeZ h x.1 ∧ TrZ n x.1 (.leaf key b) x.2} => .pointer x.1.2) (fun x => [.zone true x.1.1, CN gc (k + 2)]) := by
  obtain ⟨B, N, c⟩ := s
  obtain rfl : N = b.length := hs.len
  have hB : B = none → b.length = 0 ∧ c = 0 := hs.nil
  have hrd : RdZ h B (bc b) := hs.rd
  refine spec_of Tryd.func49 rfl (n := 18) rfl rfl ?_
  intro W
  refine h_seq ?_
  refine h_reg ?_
  refine h_opX (x_box rfl) fun g3 => ?_
  refine h_op (r_assign rfl) ?_
  refine h_nil ?_
  refine q_then ?_
  refine h_seq ?_
  refine ha_start [.blk g3 (Entry.cells ⟨key, ⟨B, b.length, c⟩⟩) 77] [] mixed (same) ?_
  refine ha_takeP 0 rfl (r_move rfl) ?_
  refine ha_takeP 1 rfl (r_move rfl) ?_
  refine ha_takeP 2 rfl (r_field rfl) ?_
  refine ha_take 3 rfl (r_loadr rfl) ?_
  refine ha_takeP 4 rfl (r_field rfl) ?_
  refine ha_take 5 rfl (r_loadc rfl) ?_
  refine ha_takeP 7 rfl (r_field rfl) ?_
  refine ha_take 8 rfl (r_loadc rfl) ?_
  refine ha_one 6 ?_
  refine ho_C 6 rfl ((LeafOf_s n hn gh gc k (by omega) key b B c hB hb).comes) rfl rfl rfl (fun _ => same) fun _ => ?_
  refine ha_one 9 ?_
  refine ho_C 9 rfl ((Clone_s b B c hB (by omega)).comes) rfl rfl rfl (fun _ => same) fun ⟨A14, c14⟩ => ?_
  refine ha_takeP 10 rfl (r_build rfl) ?_
  refine ha_takeP 11 rfl (r_mkI rfl) ?_
  refine ha_one 12 ?_
  refine ho_C 12 rfl ((with_s n hn gh gc (k + 1) (by omega) 127 140 (.agg (NLeaf.cells ⟨leafOf n key b, ⟨A14, b.length, c14⟩⟩).toArray) (preL (leafOf n key b)) (by rw [preL_len]; decide) (lpre_s ⟨leafOf n key b, ⟨A14, b.length, c14⟩⟩)).comes) rfl rfl rfl (fun _ => same) fun g17 => ?_
  refine ha_takeP 13 rfl (r_assign rfl) ?_
  refine ha_done (by kernel_rfl) ?_
  refine q_then ?_
  dsimp only
  refine h_freezeO (.slice A14 b.length c14) fun h1 B1 c1 e1 hle1 hlen1 hnil1 hz1 hr1 => ?_
  injection e1 with e1 _ e2
  subst e1 e2
  refine h_freeze g17 fun h2 hz2 hr2 => ?_
  refine h_ret ?_
  exact h_ret1 rfl rfl fun w s => ⟨⟨(h2, some ⟨g17, 0, none⟩), hz1.trans hz2, ⟨g17, ⟨A14, b.length, c14⟩, rfl, hr2, ⟨rfl, hle1, hnil1, hr1.mono hz2⟩⟩⟩, rfl, (same w s).res (List.Sublist.refl _) (by simp [Fa.wr])⟩
end Go.Proofs.YtgfkbeipckbkiaaDoor
/- U35 -/
namespace Go.Proofs.YtgfkbeipckbkiaaDoor
set_option linter.unusedSimpArgs false
set_option linter.unusedVariables false
open Go.RowKit
/-- what stands for two subtrees -/
def joinT (l r : Tr) : Tr := if l.kind = 0 ∧ r.kind ≠ 2 then r else if r.kind = 0 ∧ l.kind ≠ 2 then l else .node l r
/-- how many digests it takes -/
def joinC (l r : Tr) : Nat := if l.kind = 0 ∧ r.kind ≠ 2 then 0 else if r.kind = 0 ∧ l.kind ≠ 2 then 0 else (if l.kind = 0 then 1 else 0) + (if r.kind = 0 then 1 else 0) + 1
theorem i01 (p : Prop) [Decidable p] : (if p then 1 else 0 : Nat) ≤ 1 := by split <;> omega
theorem joinC_le (l r : Tr) : joinC l r ≤ 3 := by
  unfold joinC
  repeat' split
  all_goals omega
theorem trZ_none {n : Nat} {h : Zh} {t : Tr} {p : Option Addr} (x : trZ n h t p) : p.isNone = decide (t.kind = 0) := by
  rcases t with _ | ⟨kk, b⟩ | ⟨l, r⟩
  · obtain rfl : p = none := x
    rfl
  · obtain ⟨g, s, rfl, _⟩ := x
    rfl
  · obtain ⟨g, pl, pr, rfl, _⟩ := x
    rfl
theorem Join_s (n : Nat) (hn : n ≤ 256) (gh gc k : Nat) (hk : k ≤ 100000000000) (h : Zh) [ht : RdZ h (some ⟨1, 0, none⟩) hashT] (l r : Tr) (pl pr : Option Addr) [hl : TrZ n h l pl] [hr : TrZ n h r pr] (hct : l.cnt + r.cnt ≤ 1000000000000) :
    Spec Tryd.prog 50 [.pointer (some ⟨gh, 0, none⟩), .pointer pl, .pointer pr].toArray [HR gh gc n] [.zone true h, CN gc k] (fun x : {x : Zh × Option Addr // LeZ h x.1 ∧ TrZ n x.1 (joinT l r) x.2} => .pointer x.1.2) (fun x => [.zone true x.1.1, CN gc (k + joinC l r)]) := by
  have el := trZ_none hl.ok
  have er := trZ_none hr.ok
  refine spec_of Tryd.func50 rfl (n := 44) rfl rfl ?_
  intro W
  by_cases h1 : l.kind = 0
  · by_cases h2 : r.kind = 2
    · have hj : joinT l r = .node l r := by unfold joinT; rw [if_neg (by omega), if_neg (by omega)]
      have hc : k + joinC l r = k + (if l.kind = 0 then 1 else 0) + (if r.kind = 0 then 1 else 0) + 1 := by unfold joinC; rw [if_neg (by omega), if_neg (by omega)]; omega
      refine h_seq ?_
      refine h_reg ?_
      refine h_op (r_assign rfl) ?_
      refine h_nil ?_
      refine q_then ?_
      refine h_seq ?_
      refine h_seq ?_
      refine h_reg ?_
      refine h_op (r_move rfl) ?_
      refine h_op (r_bool (r_nilR rfl rfl) (el.trans (decide_eq_true h1))) ?_
      refine h_op (r_move rfl) ?_
      refine h_op (r_move rfl) ?_
      refine h_call ((Kind_s n h r pr).comes) rfl rfl rfl fun _ => ?_
      refine h_op (r_bool (r_neq rfl rfl) (decide_eq_false (fun e => e (by omega)))) ?_
      refine h_op (r_pick rfl rfl) ?_
      refine h_nil ?_
      refine q_then ?_
      refine h_condF rfl ?_
      refine h_skip ?_
      refine q_then ?_
      refine h_seq ?_
      refine h_seq ?_
      refine h_reg ?_
      refine h_op (r_move rfl) ?_
      refine h_op (r_bool (r_nilR rfl rfl) (er.trans (decide_eq_false (by omega)))) ?_
      refine h_op (r_move rfl) ?_
      refine h_opOff ?_
      refine h_opOff ?_
      refine h_opOff ?_
      refine h_op (r_pick rfl rfl) ?_
      refine h_nil ?_
      refine q_then ?_
      refine h_condF rfl ?_
      refine h_skip ?_
      refine q_then ?_
      refine h_seq ?_
      refine h_reg ?_
      refine h_op (r_move rfl) ?_
      refine h_op (r_move rfl) ?_
      refine h_op (r_build rfl) ?_
      refine h_opX (x_alloc) fun g7 => ?_
      refine h_opS (s_storer rfl rfl) ?_
      refine h_nil ?_
      refine q_then ?_
      refine h_seq ?_
      refine ha_start [.blk g7 [.pointer pl, .pointer pr] 128] [] mixed (same) ?_
      refine ha_takeP 0 rfl (r_move rfl) ?_
      refine ha_take 1 rfl (r_loadr rfl) ?_
      refine ha_takeP 2 rfl (r_move rfl) ?_
      refine ha_takeP 3 rfl (r_move rfl) ?_
      refine ha_takeP 5 rfl (r_move rfl) ?_
      refine ha_takeP 6 rfl (r_move rfl) ?_
      refine ha_takeP 9 rfl (r_move rfl) ?_
      refine ha_takeP 11 rfl (r_move rfl) ?_
      refine ha_one 4 ?_
      refine ho_C 4 rfl ((Digest_s n hn gh gc k (by omega) h l pl).comes) rfl rfl rfl (fun _ => same) fun _ => ?_
      refine ha_one 7 ?_
      refine ho_C 7 rfl ((Digest_s n hn gh gc (k + if l.kind = 0 then 1 else 0) (by have := i01 (l.kind = 0); omega) h r pr).comes) rfl rfl rfl (fun _ => same) fun _ => ?_
      refine ha_takeP 8 rfl (r_build rfl) ?_
      refine ha_one 10 ?_
      refine ho_C 10 rfl ((NLen_s n h l pl).comes) rfl rfl rfl (fun _ => same) fun _ => ?_
      refine ha_one 12 ?_
      refine ho_C 12 rfl ((NLen_s n h r pr).comes) rfl rfl rfl (fun _ => same) fun _ => ?_
      refine ha_takeP 13 rfl (r_int (r_add rfl rfl) (show _ = ((l.cnt + r.cnt : Nat) : Int) by omega)) ?_
      refine ha_takeP 14 rfl (r_build rfl) ?_
      refine ha_takeP 15 rfl (r_mkI rfl) ?_
      refine ha_one 16 ?_
      refine ho_C 16 rfl ((with_s n hn gh gc (k + (if l.kind = 0 then 1 else 0) + if r.kind = 0 then 1 else 0) (by have := i01 (l.kind = 0); have := i01 (r.kind = 0); omega) 131 141 (.agg (NInner.cells ⟨pl, pr, dgT n l, dgT n r, ((l.cnt + r.cnt : Nat) : Int)⟩).toArray) (preN (dgT n l) (dgT n r)) (by rw [preN_len]; decide) (ipre_s ⟨pl, pr, dgT n l, dgT n r, ((l.cnt + r.cnt : Nat) : Int)⟩)).comes) rfl rfl rfl (fun _ => same) fun g43 => ?_
      refine ha_takeP 17 rfl (r_assign rfl) ?_
      refine ha_done (by kernel_rfl) ?_
      refine q_then ?_
      dsimp only
      refine h_freeze g43 fun h2 hz2 hr2 => ?_
      refine h_ret ?_
      exact h_ret1 rfl rfl fun w s => ⟨⟨(h2, some ⟨g43, 0, none⟩), hz2, by rw [hj]; exact ⟨g43, pl, pr, rfl, hr2, hl.ok.mono hz2, hr.ok.mono hz2⟩⟩, rfl, by rw [hc]; exact (same w s).res (List.Sublist.refl _) (by simp [Fa.wr])⟩
    · have hj : joinT l r = r := by unfold joinT; rw [if_pos ⟨h1, h2⟩]
      have hc : joinC l r = 0 := by unfold joinC; rw [if_pos ⟨h1, h2⟩]
      refine h_seq ?_
      refine h_reg ?_
      refine h_op (r_assign rfl) ?_
      refine h_nil ?_
      refine q_then ?_
      refine h_seq ?_
      refine h_seq ?_
      refine h_reg ?_
      refine h_op (r_move rfl) ?_
      refine h_op (r_bool (r_nilR rfl rfl) (el.trans (decide_eq_true h1))) ?_
      refine h_op (r_move rfl) ?_
      refine h_op (r_move rfl) ?_
      refine h_call ((Kind_s n h r pr).comes) rfl rfl rfl fun _ => ?_
      refine h_op (r_bool (r_neq rfl rfl) (decide_eq_true (by omega))) ?_
      refine h_op (r_pick rfl rfl) ?_
      refine h_nil ?_
      refine q_then ?_
      refine h_condT rfl ?_
      refine h_seq ?_
      refine h_reg ?_
      refine h_op (r_move rfl) ?_
      refine h_op (r_assign rfl) ?_
      refine h_nil ?_
      refine q_then ?_
      refine h_ret ?_
      refine q_thenR ?_
      exact h_ret1 rfl rfl fun w s => ⟨⟨(h, pr), LeZ.refl h, by rw [hj]; exact hr⟩, rfl, by rw [hc]; exact (same w s).res (List.Sublist.refl _) (by simp [Fa.wr])⟩
  · by_cases h2 : r.kind = 0
    · by_cases h3 : l.kind = 2
      · have hj : joinT l r = .node l r := by unfold joinT; rw [if_neg (by omega), if_neg (by omega)]
        have hc : k + joinC l r = k + (if l.kind = 0 then 1 else 0) + (if r.kind = 0 then 1 else 0) + 1 := by unfold joinC; rw [if_neg (by omega), if_neg (by omega)]; omega
        refine h_seq ?_
        refine h_reg ?_
        refine h_op (r_assign rfl) ?_
        refine h_nil ?_
        refine q_then ?_
        refine h_seq ?_
        refine h_seq ?_
        refine h_reg ?_
        refine h_op (r_move rfl) ?_
        refine h_op (r_bool (r_nilR rfl rfl) (el.trans (decide_eq_false h1))) ?_
        refine h_op (r_move rfl) ?_
        refine h_opOff ?_
        refine h_opOff ?_
        refine h_opOff ?_
        refine h_op (r_pick rfl rfl) ?_
        refine h_nil ?_
        refine q_then ?_
        refine h_condF rfl ?_
        refine h_skip ?_
        refine q_then ?_
        refine h_seq ?_
        refine h_seq ?_
        refine h_reg ?_
        refine h_op (r_move rfl) ?_
        refine h_op (r_bool (r_nilR rfl rfl) (er.trans (decide_eq_true h2))) ?_
        refine h_op (r_move rfl) ?_
        refine h_op (r_move rfl) ?_
        refine h_call ((Kind_s n h l pl).comes) rfl rfl rfl fun _ => ?_
        refine h_op (r_bool (r_neq rfl rfl) (decide_eq_false (fun e => e (by omega)))) ?_
        refine h_op (r_pick rfl rfl) ?_
        refine h_nil ?_
        refine q_then ?_
        refine h_condF rfl ?_
        refine h_skip ?_
        refine q_then ?_
        refine h_seq ?_
        refine h_reg ?_
        refine h_op (r_move rfl) ?_
        refine h_op (r_move rfl) ?_
        refine h_op (r_build rfl) ?_
        refine h_opX (x_alloc) fun g7 => ?_
        refine h_opS (s_storer rfl rfl) ?_
        refine h_nil ?_
        refine q_then ?_
        refine h_seq ?_
        refine ha_start [.blk g7 [.pointer pl, .pointer pr] 128] [] mixed (same) ?_
        refine ha_takeP 0 rfl (r_move rfl) ?_
        refine ha_take 1 rfl (r_loadr rfl) ?_
        refine ha_takeP 2 rfl (r_move rfl) ?_
        refine ha_takeP 3 rfl (r_move rfl) ?_
        refine ha_takeP 5 rfl (r_move rfl) ?_
        refine ha_takeP 6 rfl (r_move rfl) ?_
        refine ha_takeP 9 rfl (r_move rfl) ?_
        refine ha_takeP 11 rfl (r_move rfl) ?_
        refine ha_one 4 ?_
        refine ho_C 4 rfl ((Digest_s n hn gh gc k (by omega) h l pl).comes) rfl rfl rfl (fun _ => same) fun _ => ?_
        refine ha_one 7 ?_
        refine ho_C 7 rfl ((Digest_s n hn gh gc (k + if l.kind = 0 then 1 else 0) (by have := i01 (l.kind = 0); omega) h r pr).comes) rfl rfl rfl (fun _ => same) fun _ => ?_
        refine ha_takeP 8 rfl (r_build rfl) ?_
        refine ha_one 10 ?_
        refine ho_C 10 rfl ((NLen_s n h l pl).comes) rfl rfl rfl (fun _ => same) fun _ => ?_
        refine ha_one 12 ?_
        refine ho_C 12 rfl ((NLen_s n h r pr).comes) rfl rfl rfl (fun _ => same) fun _ => ?_
        refine ha_takeP 13 rfl (r_int (r_add rfl rfl) (show _ = ((l.cnt + r.cnt : Nat) : Int) by omega)) ?_
        refine ha_takeP 14 rfl (r_build rfl) ?_
        refine ha_takeP 15 rfl (r_mkI rfl) ?_
        refine ha_one 16 ?_
        refine ho_C 16 rfl ((with_s n hn gh gc (k + (if l.kind = 0 then 1 else 0) + if r.kind = 0 then 1 else 0) (by have := i01 (l.kind = 0); have := i01 (r.kind = 0); omega) 131 141 (.agg (NInner.cells ⟨pl, pr, dgT n l, dgT n r, ((l.cnt + r.cnt : Nat) : Int)⟩).toArray) (preN (dgT n l) (dgT n r)) (by rw [preN_len]; decide) (ipre_s ⟨pl, pr, dgT n l, dgT n r, ((l.cnt + r.cnt : Nat) : Int)⟩)).comes) rfl rfl rfl (fun _ => same) fun g43 => ?_
        refine ha_takeP 17 rfl (r_assign rfl) ?_
        refine ha_done (by kernel_rfl) ?_
        refine q_then ?_
        dsimp only
        refine h_freeze g43 fun h2 hz2 hr2 => ?_
        refine h_ret ?_
        exact h_ret1 rfl rfl fun w s => ⟨⟨(h2, some ⟨g43, 0, none⟩), hz2, by rw [hj]; exact ⟨g43, pl, pr, rfl, hr2, hl.ok.mono hz2, hr.ok.mono hz2⟩⟩, rfl, by rw [hc]; exact (same w s).res (List.Sublist.refl _) (by simp [Fa.wr])⟩
      · have hj : joinT l r = l := by unfold joinT; rw [if_neg (by omega), if_pos ⟨h2, h3⟩]
        have hc : joinC l r = 0 := by unfold joinC; rw [if_neg (by omega), if_pos ⟨h2, h3⟩]
        refine h_seq ?_
        refine h_reg ?_
        refine h_op (r_assign rfl) ?_
        refine h_nil ?_
        refine q_then ?_
        refine h_seq ?_
        refine h_seq ?_
        refine h_reg ?_
        refine h_op (r_move rfl) ?_
        refine h_op (r_bool (r_nilR rfl rfl) (el.trans (decide_eq_false h1))) ?_
        refine h_op (r_move rfl) ?_
        refine h_opOff ?_
        refine h_opOff ?_
        refine h_opOff ?_
        refine h_op (r_pick rfl rfl) ?_
        refine h_nil ?_
        refine q_then ?_
        refine h_condF rfl ?_
        refine h_skip ?_
        refine q_then ?_
        refine h_seq ?_
        refine h_seq ?_
        refine h_reg ?_
        refine h_op (r_move rfl) ?_
        refine h_op (r_bool (r_nilR rfl rfl) (er.trans (decide_eq_true h2))) ?_
        refine h_op (r_move rfl) ?_
        refine h_op (r_move rfl) ?_
        refine h_call ((Kind_s n h l pl).comes) rfl rfl rfl fun _ => ?_
        refine h_op (r_bool (r_neq rfl rfl) (decide_eq_true (by omega))) ?_
        refine h_op (r_pick rfl rfl) ?_
        refine h_nil ?_
        refine q_then ?_
        refine h_condT rfl ?_
        refine h_seq ?_
        refine h_reg ?_
        refine h_op (r_move rfl) ?_
        refine h_op (r_assign rfl) ?_
        refine h_nil ?_
        refine q_then ?_
        refine h_ret ?_
        refine q_thenR ?_
        exact h_ret1 rfl rfl fun w s => ⟨⟨(h, pl), LeZ.refl h, by rw [hj]; exact hl⟩, rfl, by rw [hc]; exact (same w s).res (List.Sublist.refl _) (by simp [Fa.wr])⟩
    · have hj : joinT l r = .node l r := by unfold joinT; rw [if_neg (by omega), if_neg (by omega)]
      have hc : k + joinC l r = k + (if l.kind = 0 then 1 else 0) + (if r.kind = 0 then 1 else 0) + 1 := by unfold joinC; rw [if_neg (by omega), if_neg (by omega)]; omega
      refine h_seq ?_
      refine h_reg ?_
      refine h_op (r_assign rfl) ?_
      refine h_nil ?_
      refine q_then ?_
      refine h_seq ?_
      refine h_seq ?_
      refine h_reg ?_
      refine h_op (r_move rfl) ?_
      refine h_op (r_bool (r_nilR rfl rfl) (el.trans (decide_eq_false h1))) ?_
      refine h_op (r_move rfl) ?_
      refine h_opOff ?_
      refine h_opOff ?_
      refine h_opOff ?_
      refine h_op (r_pick rfl rfl) ?_
      refine h_nil ?_
      refine q_then ?_
      refine h_condF rfl ?_
      refine h_skip ?_
      refine q_then ?_
      refine h_seq ?_
      refine h_seq ?_
      refine h_reg ?_
      refine h_op (r_move rfl) ?_
      refine h_op (r_bool (r_nilR rfl rfl) (er.trans (decide_eq_false h2))) ?_
      refine h_op (r_move rfl) ?_
      refine h_opOff ?_
      refine h_opOff ?_
      refine h_opOff ?_
      refine h_op (r_pick rfl rfl) ?_
      refine h_nil ?_
      refine q_then ?_
      refine h_condF rfl ?_
      refine h_skip ?_
      refine q_then ?_
      refine h_seq ?_
      refine h_reg ?_
      refine h_op (r_move rfl) ?_
      refine h_op (r_move rfl) ?_
      refine h_op (r_build rfl) ?_
      refine h_opX (x_alloc) fun g7 => ?_
      refine h_opS (s_storer rfl rfl) ?_
      refine h_nil ?_
      refine q_then ?_
      refine h_seq ?_
      refine ha_start [.blk g7 [.pointer pl, .pointer pr] 128] [] mixed (same) ?_
      refine ha_takeP 0 rfl (r_move rfl) ?_
      refine ha_take 1 rfl (r_loadr rfl) ?_
      refine ha_takeP 2 rfl (r_move rfl) ?_
      refine ha_takeP 3 rfl (r_move rfl) ?_
      refine ha_takeP 5 rfl (r_move rfl) ?_
      refine ha_takeP 6 rfl (r_move rfl) ?_
      refine ha_takeP 9 rfl (r_move rfl) ?_
      refine ha_takeP 11 rfl (r_move rfl) ?_
      refine ha_one 4 ?_
      refine ho_C 4 rfl ((Digest_s n hn gh gc k (by omega) h l pl).comes) rfl rfl rfl (fun _ => same) fun _ => ?_
      refine ha_one 7 ?_
      refine ho_C 7 rfl ((Digest_s n hn gh gc (k + if l.kind = 0 then 1 else 0) (by have := i01 (l.kind = 0); omega) h r pr).comes) rfl rfl rfl (fun _ => same) fun _ => ?_
      refine ha_takeP 8 rfl (r_build rfl) ?_
      refine ha_one 10 ?_
      refine ho_C 10 rfl ((NLen_s n h l pl).comes) rfl rfl rfl (fun _ => same) fun _ => ?_
      refine ha_one 12 ?_
      refine ho_C 12 rfl ((NLen_s n h r pr).comes) rfl rfl rfl (fun _ => same) fun _ => ?_
      refine ha_takeP 13 rfl (r_int (r_add rfl rfl) (show _ = ((l.cnt + r.cnt : Nat) : Int) by omega)) ?_
      refine ha_takeP 14 rfl (r_build rfl) ?_
      refine ha_takeP 15 rfl (r_mkI rfl) ?_
      refine ha_one 16 ?_
      refine ho_C 16 rfl ((with_s n hn gh gc (k + (if l.kind = 0 then 1 else 0) + if r.kind = 0 then 1 else 0) (by have := i01 (l.kind = 0); have := i01 (r.kind = 0); omega) 131 141 (.agg (NInner.cells ⟨pl, pr, dgT n l, dgT n r, ((l.cnt + r.cnt : Nat) : Int)⟩).toArray) (preN (dgT n l) (dgT n r)) (by rw [preN_len]; decide) (ipre_s ⟨pl, pr, dgT n l, dgT n r, ((l.cnt + r.cnt : Nat) : Int)⟩)).comes) rfl rfl rfl (fun _ => same) fun g43 => ?_
      refine ha_takeP 17 rfl (r_assign rfl) ?_
      refine ha_done (by kernel_rfl) ?_
      refine q_then ?_
      dsimp only
      refine h_freeze g43 fun h2 hz2 hr2 => ?_
      refine h_ret ?_
      exact h_ret1 rfl rfl fun w s => ⟨⟨(h2, some ⟨g43, 0, none⟩), hz2, by rw [hj]; exact ⟨g43, pl, pr, rfl, hr2, hl.ok.mono hz2, hr.ok.mono hz2⟩⟩, rfl, by rw [hc]; exact (same w s).res (List.Sublist.refl _) (by simp [Fa.wr])⟩
end Go.Proofs.YtgfkbeipckbkiaaDoor
/- U36 -/
namespace Go.Proofs.YtgfkbeipckbkiaaDoor
set_option linter.unusedSimpArgs false
set_option linter.unusedVariables false
open Go.RowKit
theorem Child_s (n : Nat) (h : Zh) (t : Tr) (p : Option Addr) [ht : TrZ n h t p] (i : Int) (b : Bool) (hb : (i = 0) = (b = false)) : Spec Tryd.prog 59 [.pointer p, .int .i64 i].toArray [.zone false h] [] (fun _ : Unit => .pointer (subP h b p)) (fun _ => []) := by
  refine spec_of Tryd.func59 rfl (n := 11) rfl rfl ?_
  intro W
  refine h_seq ?_
  refine h_reg ?_
  refine h_op (r_assign rfl) ?_
  refine h_nil ?_
  refine q_then ?_
  refine h_seq ?_
  refine h_seq ?_
  refine h_reg ?_
  refine h_op (r_move rfl) ?_
  refine h_op (r_eql rfl rfl) ?_
  refine h_nil ?_
  refine q_then ?_
  refine h_cond rfl (fun h1 => ?_) (fun h1 => ?_)
  · obtain rfl : b = false := hb.mp h1
    refine h_seq ?_
    refine h_reg ?_
    refine h_op (r_move rfl) ?_
    refine h_call ((Left_s n h t p).comes) rfl rfl rfl fun _ => ?_
    refine h_op (r_assign rfl) ?_
    refine h_nil ?_
    refine q_then ?_
    refine h_ret ?_
    refine q_thenR ?_
    exact h_ret1 rfl rfl fun w s => ⟨(), rfl, s.res (List.nil_sublist _) (by simp)⟩
  · obtain rfl : b = true := by cases b <;> simp_all
    refine h_skip ?_
    refine q_then ?_
    refine h_seq ?_
    refine h_reg ?_
    refine h_op (r_move rfl) ?_
    refine h_call ((Right_s n h t p).comes) rfl rfl rfl fun _ => ?_
    refine h_op (r_assign rfl) ?_
    refine h_nil ?_
    refine q_then ?_
    refine h_ret ?_
    exact h_ret1 rfl rfl fun w s => ⟨(), rfl, s.res (List.nil_sublist _) (by simp)⟩
theorem bitN_zero (b : B32) (i : Nat) : (((bitN b i : Nat) : Int) = 0) = (bitAt b i = false) := by
  unfold bitN
  cases bitAt b i <;> simp
theorem bitN_not (b : B32) (i : Nat) : ((1 - ((bitN b i : Nat) : Int)) = 0) = ((!bitAt b i) = false) := by
  unfold bitN
  cases bitAt b i <;> simp
end Go.Proofs.YtgfkbeipckbkiaaDoor
/- U37 -/
namespace Go.Proofs.YtgfkbeipckbkiaaDoor
set_option linter.unusedSimpArgs false
set_option linter.unusedVariables false
open Go.RowKit
/-- the subtrees beside the way, their pointers -/
def sibK (key : B32) (t : Tr) (i : Nat) : Tr := (wayK key t i).sub (!bitAt key i)
def sibQ (h : Zh) (key : B32) (p : Option Addr) (i : Nat) : Option Addr := subP h (!bitAt key i) (wayQ h key p i)
instance (n : Nat) (h : Zh) (t : Tr) (p : Option Addr) (key : B32) (k : Nat) [x : TrZ n h t p] : TrZ n h (sibK key t k) (sibQ h key p k) := ⟨(wayK_ok x.ok key k).sub _⟩
def ptrs (l : List (Option Addr)) : List Value := l.map Value.pointer
theorem ptrs_get {l : List (Option Addr)} {k : Nat} {p : Option Addr} (h : l[k]? = some p) : (ptrs l)[k]? = some (.pointer p) := by simp [ptrs, h]
def sibL (h : Zh) (key : B32) (p : Option Addr) (D : Nat) : List (Option Addr) := (List.range D).map (sibQ h key p)
theorem sibL_len (h : Zh) (key : B32) (p : Option Addr) (D : Nat) : (sibL h key p D).length = D := by simp [sibL]
theorem sibL_at (h : Zh) (key : B32) (p : Option Addr) {D i : Nat} (hi : i < D) : (sibL h key p D)[i]? = some (sibQ h key p i) := by unfold sibL; rw [List.getElem?_map, List.getElem?_range hi]; rfl
theorem sibL_succ (h : Zh) (key : B32) (p : Option Addr) (i : Nat) : ptrs (sibL h key p i) ++ [.pointer (sibQ h key p i)] = ptrs (sibL h key p (i + 1)) := by unfold sibL ptrs; rw [List.range_succ, List.map_append, List.map_append]; rfl
end Go.Proofs.YtgfkbeipckbkiaaDoor
/- U38 -/
namespace Go.Proofs.YtgfkbeipckbkiaaDoor
set_option linter.unusedSimpArgs false
set_option linter.unusedVariables false
open Go.RowKit
def ents (l : List En) : List Value := l.flatMap fun e => e.e.cells
theorem ents_len (l : List En) : (ents l).length = l.length * 33 := by
  induction l with
  | nil => rfl
  | cons e l ih =>
    show (e.e.cells ++ ents l).length = _
    rw [List.length_append, ih, Entry.cells_length, List.length_cons]; omega
theorem ents_snoc (l : List En) (e : En) : ents l ++ e.e.cells = ents (l ++ [e]) := by unfold ents; rw [List.flatMap_append]; simp
theorem ents_at {l : List En} {k : Nat} {e : En} (h : l[k]? = some e) : ∀ j v, e.e.cells[j]? = some v → (ents l)[k * 33 + j]? = some v := by
  induction l generalizing k with
  | nil => cases h
  | cons x l ih =>
    intro j v hv
    show (x.e.cells ++ ents l)[k * 33 + j]? = some v
    cases k with
    | zero =>
      obtain rfl : x = e := by simpa using h
      rw [Nat.zero_mul, Nat.zero_add, List.getElem?_append_left (List.getElem?_eq_some_iff.1 hv).1]
      exact hv
    | succ k =>
      rw [List.getElem?_append_right (by rw [Entry.cells_length]; omega), Entry.cells_length, show (k + 1) * 33 + j - 33 = k * 33 + j by omega]
      exact ih (by simpa using h) j v hv
theorem ents_key {l : List En} {k : Nat} {e : En} (h : l[k]? = some e) : ∀ j v, e.key.cells[j]? = some v → (ents l)[k * 33 + j]? = some v := fun j v hv =>
  ents_at h j v (by
    show (e.e.key.cells ++ ([.slice e.e.value.A e.e.value.n e.e.value.c] ++ []))[j]? = some v
    rw [List.getElem?_append_left (List.getElem?_eq_some_iff.1 hv).1]
    exact hv)
theorem ents_val {l : List En} {k : Nat} {e : En} (h : l[k]? = some e) : (ents l)[k * 33 + 32]? = some (.slice e.e.value.A e.e.value.n e.e.value.c) :=
  ents_at h 32 _ (by
    show (e.e.key.cells ++ ([.slice e.e.value.A e.e.value.n e.e.value.c] ++ []))[32]? = _
    rw [List.getElem?_append_right (by rw [B32.cells_length]; omega), B32.cells_length]
    rfl)
theorem filt_yes {α : Type} {p : α → Bool} {l : List α} {k : Nat} {x : α} (h : l[k]? = some x) (hp : p x = true) : (l.take (k + 1)).filter p = (l.take k).filter p ++ [x] := by
  rw [List.take_add_one, h, Option.toList_some, List.filter_append, List.filter_cons_of_pos hp, List.filter_nil]
theorem filt_no {α : Type} {p : α → Bool} {l : List α} {k : Nat} {x : α} (h : l[k]? = some x) (hp : ¬ p x = true) : (l.take (k + 1)).filter p = (l.take k).filter p := by
  rw [List.take_add_one, h, Option.toList_some, List.filter_append, List.filter_cons_of_neg hp, List.filter_nil, List.append_nil]
theorem getE {l : List En} {k : Nat} (h : k < l.length) : ∃ e, l[k]? = some e := ⟨_, List.getElem?_eq_getElem h⟩
theorem Compare_s (a b : B32) : Spec Tryd.prog 51 [.agg a.cells.toArray, .agg b.cells.toArray].toArray [] [] (fun _ : Unit => .int .i64 (cmpB a b)) (fun _ => []) := by
  have ha := a.2
  have hb := b.2
  refine spec_of Tryd.func51 rfl (n := 24) rfl rfl ?_
  intro W
  refine h_seq ?_
  refine h_reg ?_
  refine h_opX (x_box rfl) fun g2 => ?_
  refine h_opX (x_box rfl) fun g3 => ?_
  refine h_op (r_assign rfl) ?_
  refine h_nil ?_
  refine q_then ?_
  refine h_seq ?_
  refine h_seq ?_
  refine h_reg ?_
  refine h_op (r_assign rfl) ?_
  refine h_nil ?_
  refine q_then ?_
  refine h_block ?_
  refine h_loop (fun (k : Nat) => k ≤ 32 ∧ cmpL (a.1.drop k) (b.1.drop k) = cmpB a b) (fun (k : Nat) => [(5, .int .i64 (k : Int)), (2, .pointer (some ⟨g2, 0, none⟩)), (3, .pointer (some ⟨g3, 0, none⟩))]) (fun (k : Nat) => [.blk g3 b.cells 40, .blk g2 a.cells 40]) (fun (k : Nat) => 32 - k) 0 (⟨Nat.zero_le _, rfl⟩) ⟨rfl, rfl, rfl, trivial⟩ (same) ?_
  rintro k ⟨hk, hc⟩
  refine h_seq ?_
  refine h_seq ?_
  refine h_reg ?_
  refine h_op (r_move rfl) ?_
  refine h_op (r_lss rfl rfl) ?_
  refine h_nil ?_
  refine q_then ?_
  refine h_cond rfl (fun h => ?_) (fun h => ?_)
  · have hk32 : k < 32 := by omega
    have e1 : a.1.drop k = a.1.getD k 0 :: a.1.drop (k + 1) := by rw [List.drop_eq_getElem_cons (by omega), List.getD_eq_getElem?_getD, List.getElem?_eq_getElem (by omega), Option.getD_some]
    have e2 : b.1.drop k = b.1.getD k 0 :: b.1.drop (k + 1) := by rw [List.drop_eq_getElem_cons (by omega), List.getD_eq_getElem?_getD, List.getElem?_eq_getElem (by omega), Option.getD_some]
    rw [e1, e2, cmpL] at hc
    refine h_skip ?_
    refine q_then ?_
    refine h_seq ?_
    refine h_block ?_
    refine h_seq ?_
    refine h_seq ?_
    refine ha_start [.blk g3 b.cells 40, .blk g2 a.cells 40] [] mixed (same) ?_
    refine ha_takeP 0 rfl (r_move rfl) ?_
    refine ha_takeP 1 rfl (r_idxA rfl rfl) ?_
    refine ha_take 2 rfl (r_nth rfl (bc_at' (by omega))) ?_
    refine ha_takeP 3 rfl (r_move rfl) ?_
    refine ha_takeP 4 rfl (r_idxA rfl rfl) ?_
    refine ha_take 5 rfl (r_nth rfl (bc_at' (by omega))) ?_
    refine ha_takeP 6 rfl (r_lss rfl rfl) ?_
    refine ha_done (by kernel_rfl) ?_
    refine q_then ?_
    refine h_cond rfl (fun h1 => ?_) (fun h1 => ?_)
    · rw [if_pos (UInt8.lt_iff_toNat_lt.2 (by omega))] at hc
      rw [← hc]
      refine h_seq ?_
      refine h_reg ?_
      refine h_op (r_assign rfl) ?_
      refine h_nil ?_
      refine q_then ?_
      refine h_ret ?_
      refine q_thenR ?_
      refine q_blockR ?_
      refine q_thenR ?_
      refine q_thenR ?_
      refine q_blockR ?_
      refine q_thenR ?_
      exact h_ret1 rfl rfl fun w s => ⟨(), rfl, s.res (List.nil_sublist _) (by simp)⟩
    · rw [if_neg (fun h => by have := UInt8.lt_iff_toNat_lt.1 h; omega)] at hc
      refine h_skip ?_
      refine q_then ?_
      refine h_seq ?_
      refine ha_start [.blk g3 b.cells 40, .blk g2 a.cells 40] [] mixed (same) ?_
      refine ha_takeP 0 rfl (r_move rfl) ?_
      refine ha_takeP 1 rfl (r_idxA rfl rfl) ?_
      refine ha_take 2 rfl (r_nth rfl (bc_at' (by omega))) ?_
      refine ha_takeP 3 rfl (r_move rfl) ?_
      refine ha_takeP 4 rfl (r_idxA rfl rfl) ?_
      refine ha_take 5 rfl (r_nth rfl (bc_at' (by omega))) ?_
      refine ha_takeP 6 rfl (r_gtr rfl rfl) ?_
      refine ha_done (by kernel_rfl) ?_
      refine q_then ?_
      refine h_cond rfl (fun h2 => ?_) (fun h2 => ?_)
      · rw [if_pos (UInt8.lt_iff_toNat_lt.2 (by omega))] at hc
        rw [← hc]
        refine h_seq ?_
        refine h_reg ?_
        refine h_op (r_assign rfl) ?_
        refine h_nil ?_
        refine q_then ?_
        refine h_ret ?_
        refine q_blockR ?_
        refine q_thenR ?_
        refine q_thenR ?_
        refine q_blockR ?_
        refine q_thenR ?_
        exact h_ret1 rfl rfl fun w s => ⟨(), rfl, s.res (List.nil_sublist _) (by simp)⟩
      · rw [if_neg (fun h => by have := UInt8.lt_iff_toNat_lt.1 h; omega)] at hc
        refine h_skip ?_
        refine q_block ?_
        refine q_then ?_
        refine h_reg ?_
        refine h_op (r_move rfl) ?_
        refine h_op (r_add rfl rfl) ?_
        refine h_op (r_assign rfl) ?_
        refine h_nil ?_
        exact h_back (k + 1) (⟨by omega, hc⟩) (by omega) ⟨rfl, rfl, rfl, trivial⟩ (same)
  · obtain rfl : k = 32 := by omega
    have : cmpB a b = 0 := by rw [← hc, List.drop_eq_nil_of_le (by omega), List.drop_eq_nil_of_le (by omega)]; rfl
    rw [this]
    refine h_exit ?_
    refine q_thenE ?_
    refine q_thenE ?_
    refine q_blockE ?_
    refine q_then ?_
    refine h_seq ?_
    refine h_reg ?_
    refine h_op (r_assign rfl) ?_
    refine h_nil ?_
    refine q_then ?_
    refine h_ret ?_
    exact h_ret1 rfl rfl fun w s => ⟨(), rfl, s.res (List.nil_sublist _) (by simp)⟩
def bI (b : Bool) : Int := if b then 1 else 0
theorem Part_s (m : List En) (B : Option Addr) (c d : Nat) (b : Bool) (hd : d < 256) (hm : m.length ≤ 100000000) : Spec Tryd.prog 39 [.slice B m.length c, .int .i64 (d : Int), .int .i64 (bI b)].toArray [.rd B (ents m)] [] (fun u : Option Addr × Nat => .slice u.1 (part m d b).length u.2) (fun u => [.own (.slice u.1 (part m d b).length u.2) (part m d b).length 77 33 (ents (part m d b))]) := by
  refine spec_of Tryd.func39 rfl (n := 32) rfl rfl ?_
  intro W
  refine h_seq ?_
  refine h_reg ?_
  refine h_op (r_assign rfl) ?_
  refine h_nil ?_
  refine q_then ?_
  refine h_seq ?_
  refine h_reg ?_
  refine h_op (r_assign rfl) ?_
  refine h_nil ?_
  refine q_then ?_
  refine h_seq ?_
  refine h_seq ?_
  refine h_reg ?_
  refine h_op (r_assign rfl) ?_
  refine h_nil ?_
  refine q_then ?_
  refine h_block ?_
  refine h_nil_own 77 33 (xs := ents (part (m.take 0) d b)) rfl ?_
  change H _ _ _ _ _ (.own (.slice none (part (m.take 0) d b).length 0) (part (m.take 0) d b).length _ _ _ :: _) _
  refine h_loop (fun (s : Nat × Option Addr × Nat) => s.1 ≤ m.length) (fun (s : Nat × Option Addr × Nat) => [(8, .int .i64 (s.1 : Int)), (7, .slice s.2.1 (part (m.take s.1) d b).length s.2.2), (0, .slice B m.length c), (1, .int .i64 (d : Int)), (2, .int .i64 (bI b))]) (fun (s : Nat × Option Addr × Nat) => [.own (.slice s.2.1 (part (m.take s.1) d b).length s.2.2) (part (m.take s.1) d b).length 77 33 (ents (part (m.take s.1) d b)), .rd B (ents m)]) (fun (s : Nat × Option Addr × Nat) => m.length - s.1) (0, none, 0) ((show 0 ≤ m.length from Nat.zero_le _)) ⟨rfl, rfl, rfl, rfl, rfl, trivial⟩ (same) ?_
  rintro ⟨k, A, c'⟩ hk
  dsimp only at hk ⊢
  have hlen : (part (m.take k) d b).length ≤ m.length := Nat.le_trans (part_le _ _ _) (by rw [List.length_take]; omega)
  refine h_seq ?_
  refine h_seq ?_
  refine h_reg ?_
  refine h_op (r_move rfl) ?_
  refine h_op (r_move rfl) ?_
  refine h_op (r_len rfl) ?_
  refine h_op (r_lss rfl rfl) ?_
  refine h_nil ?_
  refine q_then ?_
  refine h_cond rfl (fun h => ?_) (fun h => ?_)
  · obtain ⟨e, he⟩ := getE (l := m) (k := k) (by omega)
    refine h_pure (φ := ∃ b o, B = some ⟨b, o, none⟩) (fun w s => Rd.some (s.ok (.rd B (ents m)) (by simp)) (by rw [ents_len]; omega)) ?_
    rintro ⟨bb, o, rfl⟩
    refine h_skip ?_
    refine q_then ?_
    refine h_seq ?_
    refine h_block ?_
    refine h_seq ?_
    refine h_reg ?_
    refine h_op (r_move rfl) ?_
    refine h_op (r_move rfl) ?_
    refine h_op (r_idx rfl rfl) ?_
    refine h_op (r_field rfl) ?_
    refine h_op (r_nthr rfl (out := e.key.cells) (B32.cells_length _) (ents_key he)) ?_
    refine h_op (r_move rfl) ?_
    refine h_call ((refBit_s e.key d hd).comes) rfl rfl rfl fun _ => ?_
    refine h_op (r_move rfl) ?_
    refine h_op (r_bool (r_eql rfl rfl) (show _ = (bitAt e.key d == b) by unfold bI bitN; cases bitAt e.key d <;> cases b <;> rfl)) ?_
    refine h_nil ?_
    refine q_then ?_
    refine h_condB rfl (fun h2 => ?_) (fun h2 => ?_)
    · have hf : part (m.take (k + 1)) d b = part (m.take k) d b ++ [e] := filt_yes he h2
      have hl : (part (m.take k) d b).length + 1 = (part (m.take (k + 1)) d b).length := by rw [hf, List.length_append]; rfl
      refine h_reg ?_
      refine h_op (r_move rfl) ?_
      refine h_op (r_move rfl) ?_
      refine h_op (r_move rfl) ?_
      refine h_op (r_idx rfl rfl) ?_
      refine h_op (r_nthr rfl (out := e.e.cells) (Entry.cells_length _) (ents_at he)) ?_
      refine h_opX (x_bsl rfl rfl) fun g29 => ?_
      refine h_opX (x_app rfl rfl (k := 33)) fun ⟨g30, c30⟩ => ?_
      refine h_op (r_assign rfl) ?_
      refine h_nil ?_
      refine q_block ?_
      refine q_then ?_
      refine h_reg ?_
      refine h_op (r_move rfl) ?_
      refine h_op (r_add rfl rfl) ?_
      refine h_op (r_assign rfl) ?_
      refine h_nil ?_
      rw [ents_snoc, ← hf, hl]
      exact h_back (k + 1, some ⟨g30, 0, none⟩, c30) ((show k + 1 ≤ m.length by omega)) ((show m.length - (k + 1) < m.length - k by omega)) ⟨rfl, rfl, rfl, rfl, rfl, trivial⟩ (same)
    · have hf : part (m.take (k + 1)) d b = part (m.take k) d b := filt_no he (by rw [h2]; simp)
      rw [← hf]
      refine h_skip ?_
      refine q_block ?_
      refine q_then ?_
      refine h_reg ?_
      refine h_op (r_move rfl) ?_
      refine h_op (r_add rfl rfl) ?_
      refine h_op (r_assign rfl) ?_
      refine h_nil ?_
      exact h_back (k + 1, A, c') ((show k + 1 ≤ m.length by omega)) ((show m.length - (k + 1) < m.length - k by omega)) ⟨rfl, rfl, rfl, rfl, rfl, trivial⟩ (same)
  · obtain rfl : k = m.length := by omega
    rw [List.take_length]
    refine h_exit ?_
    refine q_thenE ?_
    refine q_thenE ?_
    refine q_blockE ?_
    refine q_then ?_
    refine h_seq ?_
    refine h_reg ?_
    refine h_op (r_move rfl) ?_
    refine h_op (r_assign rfl) ?_
    refine h_nil ?_
    refine q_then ?_
    refine h_ret ?_
    exact h_ret1 rfl rfl fun w s => ⟨(A, c'), rfl, (same w s).res (List.Sublist.refl _) (by simp [Fa.wr])⟩
end Go.Proofs.YtgfkbeipckbkiaaDoor
/- U69 -/
namespace Go.Proofs.YtgfkbeipckbkiaaDoor
set_option linter.unusedSimpArgs false
set_option linter.unusedVariables false
open Go.RowKit
instance : TCmp Tryd.prog 101 := ⟨fun args w => run_callFunc_extern Tryd.func101 (by kernel_rfl) (by kernel_rfl) (by kernel_rfl) (by kernel_rfl) args w⟩
theorem compare_eq : ∀ (a b : List UInt8), a.length = b.length → Lib.compareBytes a b = cmpL a b
  | [], [], _ => rfl
  | [], _ :: _, h => by cases h
  | _ :: _, [], h => by cases h
  | x :: a, y :: b, h => by
    unfold Lib.compareBytes cmpL
    rw [compare_eq a b (by simpa using h)]
theorem bCompare_s (a b : List UInt8) (hab : a.length = b.length) (A B : Option Addr) (c c' : Nat) : Spec Tryd.prog 93 [.slice A a.length c, .slice B b.length c'].toArray [.rd A (bc a), .rd B (bc b)] [] (fun _ : Unit => .int .i64 (cmpL a b)) (fun _ => []) := by
  rw [← compare_eq a b hab]
  refine spec_of Tryd.func93 rfl (n := 8) rfl rfl ?_
  intro W
  refine h_seq ?_
  refine h_reg ?_
  refine h_op (r_assign rfl) ?_
  refine h_nil ?_
  refine q_then ?_
  refine h_seq ?_
  refine h_reg ?_
  refine h_op (r_move rfl) ?_
  refine h_op (r_move rfl) ?_
  refine h_op (r_cmp rfl rfl) ?_
  refine h_op (r_assign rfl) ?_
  refine h_nil ?_
  refine q_then ?_
  refine h_ret ?_
  exact h_ret1 rfl rfl fun w s => ⟨(), rfl, s.res (List.nil_sublist _) (by simp)⟩
theorem kCompare_s (a b : B32) : Spec Tryd.prog 75 [.agg a.cells.toArray, .agg b.cells.toArray].toArray [] [] (fun _ : Unit => .int .i64 (cmpB a b)) (fun _ => []) := by
  have ha := a.2
  have hb := b.2
  have hC := fun A B => bCompare_s a.1 b.1 (by omega) A B 32 32
  rw [ha, hb] at hC
  refine spec_of Tryd.func75 rfl (n := 8) rfl rfl ?_
  intro W
  refine h_seq ?_
  refine h_reg ?_
  refine h_opX (x_box rfl) fun g2 => ?_
  refine h_opX (x_box rfl) fun g3 => ?_
  refine h_op (r_assign rfl) ?_
  refine h_nil ?_
  refine q_then ?_
  refine h_seq ?_
  refine ha_start [.blk g2 a.cells 40, .blk g3 b.cells 40] [] mixed (same) ?_
  refine ha_takeP 0 rfl (r_slA rfl) ?_
  refine ha_takeP 1 rfl (r_slA rfl) ?_
  refine ha_one 2 ?_
  refine ho_C 2 rfl ((hC (some ⟨g2, 0, none⟩) (some ⟨g3, 0, none⟩)).comes (hr := inferInstanceAs (Rds _ [.rd (some ⟨g2, 0, none⟩) a.cells, .rd (some ⟨g3, 0, none⟩) b.cells]))) rfl rfl rfl (fun _ => same) fun _ => ?_
  refine ha_takeP 3 rfl (r_assign rfl) ?_
  refine ha_done (by kernel_rfl) ?_
  refine q_then ?_
  refine h_ret ?_
  exact h_ret1 rfl rfl fun w s => ⟨(), rfl, s.res (List.nil_sublist _) (by simp)⟩
/-- what is wrong with the order of keys -/
def chkK : List B32 → Int
  | a :: b :: l => if cmpB a b = 0 then 9 else if 0 < cmpB a b then 8 else chkK (b :: l)
  | _ => 0
def keysE (l : List B32) : Int := if l.length = 0 then 10 else if 65535 < l.length then 11 else chkK l
theorem kCheck_s (l : List B32) (A : Option Addr) (c : Nat) (hl : l.length ≤ 1000000000) : Spec Tryd.prog 54 [.slice A l.length c].toArray [.rd A (dgs l)] [] (fun _ : Unit => .int .i64 (chkK l)) (fun _ => []) := by
  refine spec_of Tryd.func54 rfl (n := 27) rfl rfl ?_
  intro W
  refine h_seq ?_
  refine h_reg ?_
  refine h_op (r_assign rfl) ?_
  refine h_nil ?_
  refine q_then ?_
  refine h_seq ?_
  refine h_seq ?_
  refine h_reg ?_
  refine h_op (r_assign rfl) ?_
  refine h_nil ?_
  refine q_then ?_
  refine h_block ?_
  refine h_loop (fun (k : Nat) => 1 ≤ k ∧ (k = 1 ∨ k ≤ l.length) ∧ chkK l = chkK (l.drop (k - 1))) (fun (k : Nat) => [(3, .int .i64 (k : Int)), (0, .slice A l.length c)]) (fun (k : Nat) => [.rd A (dgs l)]) (fun (k : Nat) => l.length - k) 1 (⟨Nat.le_refl _, .inl rfl, rfl⟩) ⟨rfl, rfl, trivial⟩ (same) ?_
  rintro k ⟨hk1, hk2, he⟩
  refine h_seq ?_
  refine h_seq ?_
  refine h_reg ?_
  refine h_op (r_move rfl) ?_
  refine h_op (r_move rfl) ?_
  refine h_op (r_len rfl) ?_
  refine h_op (r_lss rfl rfl) ?_
  refine h_nil ?_
  refine q_then ?_
  refine h_cond rfl (fun hlt => ?_) (fun hlt => ?_)
  · obtain ⟨j, rfl⟩ : ∃ j, k = j + 1 := ⟨k - 1, by omega⟩
    have hj : j + 1 < l.length := by omega
    have hd : l.drop j = l.getD j zB32 :: l.drop (j + 1) := by rw [List.drop_eq_getElem_cons (by omega), List.getD_eq_getElem?_getD, List.getElem?_eq_getElem (by omega)]; rfl
    have hd2 : l.drop (j + 1) = l.getD (j + 1) zB32 :: l.drop (j + 1 + 1) := by rw [List.drop_eq_getElem_cons hj, List.getD_eq_getElem?_getD, List.getElem?_eq_getElem hj]; rfl
    rw [Nat.add_sub_cancel, hd, hd2, chkK, ← hd2] at he
    refine h_pure (φ := ∃ b o, A = some ⟨b, o, none⟩) (fun w s => Rd.some (s.ok (.rd A (dgs l)) (by simp)) (by rw [dgs_len]; omega)) ?_
    rintro ⟨b, o, rfl⟩
    have h1 := dgs_at (l := l) (k := j) (by omega)
    have h2 := dgs_at (l := l) (k := j + 1) hj
    refine h_skip ?_
    refine q_then ?_
    refine h_seq ?_
    refine h_block ?_
    refine h_seq ?_
    refine ha_start [.rd (some ⟨b, o, none⟩) (dgs l)] [] mixed (same) ?_
    refine ha_takeP 0 rfl (r_move rfl) ?_
    refine ha_takeP 1 rfl (r_move rfl) ?_
    refine ha_takeP 2 rfl (r_subN rfl rfl (m := j) (hm := by omega)) ?_
    refine ha_takeP 3 rfl (r_idx rfl rfl) ?_
    refine ha_take 4 rfl (r_nthr rfl (out := (l.getD j zB32).cells) (B32.cells_length _) h1) ?_
    refine ha_takeP 5 rfl (r_move rfl) ?_
    refine ha_takeP 6 rfl (r_move rfl) ?_
    refine ha_takeP 7 rfl (r_idx rfl rfl) ?_
    refine ha_take 8 rfl (r_nthr rfl (out := (l.getD (j + 1) zB32).cells) (B32.cells_length _) h2) ?_
    refine ha_one 9 ?_
    refine ho_C 9 rfl ((kCompare_s (l.getD j zB32) (l.getD (j + 1) zB32)).comes) rfl rfl rfl (fun _ => same) fun _ => ?_
    refine ha_takeP 10 rfl (r_assign rfl) ?_
    refine ha_done (by kernel_rfl) ?_
    refine q_then ?_
    refine h_block ?_
    refine h_seq ?_
    refine h_reg ?_
    refine h_op (r_move rfl) ?_
    refine h_op (r_eql rfl rfl) ?_
    refine h_op (r_assign rfl) ?_
    refine h_nil ?_
    refine q_then ?_
    refine h_cond rfl (fun h3 => ?_) (fun h3 => ?_)
    · rw [if_pos h3] at he
      rw [he]
      refine h_seq ?_
      refine h_reg ?_
      refine h_op (r_assign rfl) ?_
      refine h_nil ?_
      refine q_then ?_
      refine h_ret ?_
      refine q_blockR ?_
      refine q_blockR ?_
      refine q_thenR ?_
      refine q_thenR ?_
      refine q_blockR ?_
      refine q_thenR ?_
      exact h_ret1 rfl rfl fun w s => ⟨(), rfl, s.res (List.nil_sublist _) (by simp)⟩
    · rw [if_neg h3] at he
      refine h_seq ?_
      refine h_reg ?_
      refine h_op (r_move rfl) ?_
      refine h_op (r_gtr rfl rfl) ?_
      refine h_op (r_assign rfl) ?_
      refine h_nil ?_
      refine q_then ?_
      refine h_cond rfl (fun h4 => ?_) (fun h4 => ?_)
      · rw [if_pos h4] at he
        rw [he]
        refine h_seq ?_
        refine h_reg ?_
        refine h_op (r_assign rfl) ?_
        refine h_nil ?_
        refine q_then ?_
        refine h_ret ?_
        refine q_blockR ?_
        refine q_blockR ?_
        refine q_thenR ?_
        refine q_thenR ?_
        refine q_blockR ?_
        refine q_thenR ?_
        exact h_ret1 rfl rfl fun w s => ⟨(), rfl, s.res (List.nil_sublist _) (by simp)⟩
      · rw [if_neg h4] at he
        refine h_skip ?_
        refine q_block ?_
        refine q_block ?_
        refine q_then ?_
        refine h_reg ?_
        refine h_op (r_move rfl) ?_
        refine h_op (r_add rfl rfl) ?_
        refine h_op (r_assign rfl) ?_
        refine h_nil ?_
        exact h_back (j + 1 + 1) (⟨by omega, .inr (by omega), he⟩) (by omega) ⟨rfl, rfl, trivial⟩ (same)
  · have h0 : chkK l = 0 := by
      rw [he]
      have hlen : (l.drop (k - 1)).length ≤ 1 := by rw [List.length_drop]; omega
      match l.drop (k - 1), hlen with
      | [], _ => rfl
      | [_], _ => rfl
      | _ :: _ :: _, h => simp at h
    rw [h0]
    refine h_exit ?_
    refine q_thenE ?_
    refine q_thenE ?_
    refine q_blockE ?_
    refine q_then ?_
    refine h_seq ?_
    refine h_reg ?_
    refine h_op (r_assign rfl) ?_
    refine h_nil ?_
    refine q_then ?_
    refine h_ret ?_
    exact h_ret1 rfl rfl fun w s => ⟨(), rfl, s.res (List.nil_sublist _) (by simp)⟩
theorem rkCheck_s (l : List B32) (A : Option Addr) (c : Nat) (hl : l.length ≤ 1000000000) : Spec Tryd.prog 29 [.slice A l.length c].toArray [.rd A (dgs l)] [] (fun _ : Unit => .int .i64 (chkK l)) (fun _ => []) := by
  refine spec_of Tryd.func29 rfl (n := 25) rfl rfl ?_
  intro W
  refine h_seq ?_
  refine h_reg ?_
  refine h_op (r_assign rfl) ?_
  refine h_nil ?_
  refine q_then ?_
  refine h_seq ?_
  refine h_seq ?_
  refine h_reg ?_
  refine h_op (r_assign rfl) ?_
  refine h_nil ?_
  refine q_then ?_
  refine h_block ?_
  refine h_loop (fun (k : Nat) => 1 ≤ k ∧ (k = 1 ∨ k ≤ l.length) ∧ chkK l = chkK (l.drop (k - 1))) (fun (k : Nat) => [(3, .int .i64 (k : Int)), (0, .slice A l.length c)]) (fun (k : Nat) => [.rd A (dgs l)]) (fun (k : Nat) => l.length - k) 1 (⟨Nat.le_refl _, .inl rfl, rfl⟩) ⟨rfl, rfl, trivial⟩ (same) ?_
  rintro k ⟨hk1, hk2, he⟩
  refine h_seq ?_
  refine h_seq ?_
  refine h_reg ?_
  refine h_op (r_move rfl) ?_
  refine h_op (r_move rfl) ?_
  refine h_op (r_len rfl) ?_
  refine h_op (r_lss rfl rfl) ?_
  refine h_nil ?_
  refine q_then ?_
  refine h_cond rfl (fun hlt => ?_) (fun hlt => ?_)
  · obtain ⟨j, rfl⟩ : ∃ j, k = j + 1 := ⟨k - 1, by omega⟩
    have hj : j + 1 < l.length := by omega
    have hd : l.drop j = l.getD j zB32 :: l.drop (j + 1) := by rw [List.drop_eq_getElem_cons (by omega), List.getD_eq_getElem?_getD, List.getElem?_eq_getElem (by omega)]; rfl
    have hd2 : l.drop (j + 1) = l.getD (j + 1) zB32 :: l.drop (j + 1 + 1) := by rw [List.drop_eq_getElem_cons hj, List.getD_eq_getElem?_getD, List.getElem?_eq_getElem hj]; rfl
    rw [Nat.add_sub_cancel, hd, hd2, chkK, ← hd2] at he
    refine h_pure (φ := ∃ b o, A = some ⟨b, o, none⟩) (fun w s => Rd.some (s.ok (.rd A (dgs l)) (by simp)) (by rw [dgs_len]; omega)) ?_
    rintro ⟨b, o, rfl⟩
    have h1 := dgs_at (l := l) (k := j) (by omega)
    have h2 := dgs_at (l := l) (k := j + 1) hj
    refine h_skip ?_
    refine q_then ?_
    refine h_seq ?_
    refine h_block ?_
    refine h_seq ?_
    refine ha_start [.rd (some ⟨b, o, none⟩) (dgs l)] [] mixed (same) ?_
    refine ha_takeP 0 rfl (r_move rfl) ?_
    refine ha_takeP 1 rfl (r_move rfl) ?_
    refine ha_takeP 2 rfl (r_subN rfl rfl (m := j) (hm := by omega)) ?_
    refine ha_takeP 3 rfl (r_idx rfl rfl) ?_
    refine ha_take 4 rfl (r_nthr rfl (out := (l.getD j zB32).cells) (B32.cells_length _) h1) ?_
    refine ha_takeP 5 rfl (r_move rfl) ?_
    refine ha_takeP 6 rfl (r_move rfl) ?_
    refine ha_takeP 7 rfl (r_idx rfl rfl) ?_
    refine ha_take 8 rfl (r_nthr rfl (out := (l.getD (j + 1) zB32).cells) (B32.cells_length _) h2) ?_
    refine ha_one 9 ?_
    refine ho_C 9 rfl ((Compare_s (l.getD j zB32) (l.getD (j + 1) zB32)).comes) rfl rfl rfl (fun _ => same) fun _ => ?_
    refine ha_takeP 10 rfl (r_assign rfl) ?_
    refine ha_done (by kernel_rfl) ?_
    refine q_then ?_
    refine h_seq ?_
    refine h_seq ?_
    refine h_reg ?_
    refine h_op (r_move rfl) ?_
    refine h_op (r_eql rfl rfl) ?_
    refine h_nil ?_
    refine q_then ?_
    refine h_cond rfl (fun h3 => ?_) (fun h3 => ?_)
    · rw [if_pos h3] at he
      rw [he]
      refine h_seq ?_
      refine h_reg ?_
      refine h_op (r_assign rfl) ?_
      refine h_nil ?_
      refine q_then ?_
      refine h_ret ?_
      refine q_thenR ?_
      refine q_blockR ?_
      refine q_thenR ?_
      refine q_thenR ?_
      refine q_blockR ?_
      refine q_thenR ?_
      exact h_ret1 rfl rfl fun w s => ⟨(), rfl, s.res (List.nil_sublist _) (by simp)⟩
    · rw [if_neg h3] at he
      refine h_skip ?_
      refine q_then ?_
      refine h_seq ?_
      refine h_reg ?_
      refine h_op (r_move rfl) ?_
      refine h_op (r_gtr rfl rfl) ?_
      refine h_nil ?_
      refine q_then ?_
      refine h_cond rfl (fun h4 => ?_) (fun h4 => ?_)
      · rw [if_pos h4] at he
        rw [he]
        refine h_seq ?_
        refine h_reg ?_
        refine h_op (r_assign rfl) ?_
        refine h_nil ?_
        refine q_then ?_
        refine h_ret ?_
        refine q_blockR ?_
        refine q_thenR ?_
        refine q_thenR ?_
        refine q_blockR ?_
        refine q_thenR ?_
        exact h_ret1 rfl rfl fun w s => ⟨(), rfl, s.res (List.nil_sublist _) (by simp)⟩
      · rw [if_neg h4] at he
        refine h_skip ?_
        refine q_block ?_
        refine q_then ?_
        refine h_reg ?_
        refine h_op (r_move rfl) ?_
        refine h_op (r_add rfl rfl) ?_
        refine h_op (r_assign rfl) ?_
        refine h_nil ?_
        exact h_back (j + 1 + 1) (⟨by omega, .inr (by omega), he⟩) (by omega) ⟨rfl, rfl, trivial⟩ (same)
  · have h0 : chkK l = 0 := by
      rw [he]
      have hlen : (l.drop (k - 1)).length ≤ 1 := by rw [List.length_drop]; omega
      match l.drop (k - 1), hlen with
      | [], _ => rfl
      | [_], _ => rfl
      | _ :: _ :: _, h => simp at h
    rw [h0]
    refine h_exit ?_
    refine q_thenE ?_
    refine q_thenE ?_
    refine q_blockE ?_
    refine q_then ?_
    refine h_seq ?_
    refine h_reg ?_
    refine h_op (r_assign rfl) ?_
    refine h_nil ?_
    refine q_then ?_
    refine h_ret ?_
    exact h_ret1 rfl rfl fun w s => ⟨(), rfl, s.res (List.nil_sublist _) (by simp)⟩
theorem mKeys_s (l : List B32) (A : Option Addr) (c : Nat) (hl : l.length ≤ 9223372036854775807) : Spec Tryd.prog 34 [.slice A l.length c].toArray [.rd A (dgs l)] [] (fun _ : Unit => .int .i64 (keysE l)) (fun _ => []) := by
  unfold keysE
  refine spec_of Tryd.func34 rfl (n := 13) rfl rfl ?_
  intro W
  by_cases h0 : l.length = 0
  · rw [if_pos h0]
    refine h_seq ?_
    refine h_reg ?_
    refine h_op (r_assign rfl) ?_
    refine h_nil ?_
    refine q_then ?_
    refine h_seq ?_
    refine h_block ?_
    refine h_seq ?_
    refine h_reg ?_
    refine h_op (r_move rfl) ?_
    refine h_op (r_len rfl) ?_
    refine h_op (r_bool (r_eql rfl rfl) (decide_eq_true (by omega))) ?_
    refine h_op (r_assign rfl) ?_
    refine h_nil ?_
    refine q_then ?_
    refine h_condT rfl ?_
    refine h_seq ?_
    refine h_reg ?_
    refine h_op (r_assign rfl) ?_
    refine h_nil ?_
    refine q_then ?_
    refine h_ret ?_
    refine q_blockR ?_
    refine q_thenR ?_
    exact h_ret1 rfl rfl fun w s => ⟨(), rfl, s.res (List.nil_sublist _) (by simp)⟩
  · rw [if_neg h0]
    refine h_seq ?_
    refine h_reg ?_
    refine h_op (r_assign rfl) ?_
    refine h_nil ?_
    refine q_then ?_
    refine h_seq ?_
    refine h_block ?_
    refine h_seq ?_
    refine h_reg ?_
    refine h_op (r_move rfl) ?_
    refine h_op (r_len rfl) ?_
    refine h_op (r_bool (r_eql rfl rfl) (decide_eq_false (by omega))) ?_
    refine h_op (r_assign rfl) ?_
    refine h_nil ?_
    refine q_then ?_
    refine h_condF rfl ?_
    by_cases h1 : 65535 < l.length
    · rw [if_pos h1]
      refine h_seq ?_
      refine h_reg ?_
      refine h_op (r_move rfl) ?_
      refine h_op (r_len rfl) ?_
      refine h_op (r_bool (r_gtr rfl rfl) (decide_eq_true (by omega))) ?_
      refine h_op (r_assign rfl) ?_
      refine h_nil ?_
      refine q_then ?_
      refine h_condT rfl ?_
      refine h_seq ?_
      refine h_reg ?_
      refine h_op (r_assign rfl) ?_
      refine h_nil ?_
      refine q_then ?_
      refine h_ret ?_
      refine q_blockR ?_
      refine q_thenR ?_
      exact h_ret1 rfl rfl fun w s => ⟨(), rfl, s.res (List.nil_sublist _) (by simp)⟩
    · rw [if_neg h1]
      refine h_seq ?_
      refine h_reg ?_
      refine h_op (r_move rfl) ?_
      refine h_op (r_len rfl) ?_
      refine h_op (r_bool (r_gtr rfl rfl) (decide_eq_false (by omega))) ?_
      refine h_op (r_assign rfl) ?_
      refine h_nil ?_
      refine q_then ?_
      refine h_condF rfl ?_
      refine h_skip ?_
      refine q_block ?_
      refine q_then ?_
      refine h_seq ?_
      refine h_reg ?_
      refine h_op (r_move rfl) ?_
      refine h_call ((kCheck_s l A c (by omega)).comes) rfl rfl rfl fun _ => ?_
      refine h_op (r_assign rfl) ?_
      refine h_nil ?_
      refine q_then ?_
      refine h_ret ?_
      exact h_ret1 rfl rfl fun w s => ⟨(), rfl, s.res (List.nil_sublist _) (by simp)⟩
theorem rKeys_s (l : List B32) (A : Option Addr) (c : Nat) (hl : l.length ≤ 9223372036854775807) : Spec Tryd.prog 9 [.slice A l.length c].toArray [.rd A (dgs l)] [] (fun _ : Unit => .int .i64 (keysE l)) (fun _ => []) := by
  unfold keysE
  refine spec_of Tryd.func9 rfl (n := 11) rfl rfl ?_
  intro W
  by_cases h0 : l.length = 0
  · rw [if_pos h0]
    refine h_seq ?_
    refine h_reg ?_
    refine h_op (r_assign rfl) ?_
    refine h_nil ?_
    refine q_then ?_
    refine h_seq ?_
    refine h_seq ?_
    refine h_reg ?_
    refine h_op (r_move rfl) ?_
    refine h_op (r_len rfl) ?_
    refine h_op (r_bool (r_eql rfl rfl) (decide_eq_true (by omega))) ?_
    refine h_nil ?_
    refine q_then ?_
    refine h_condT rfl ?_
    refine h_seq ?_
    refine h_reg ?_
    refine h_op (r_assign rfl) ?_
    refine h_nil ?_
    refine q_then ?_
    refine h_ret ?_
    refine q_thenR ?_
    exact h_ret1 rfl rfl fun w s => ⟨(), rfl, s.res (List.nil_sublist _) (by simp)⟩
  · rw [if_neg h0]
    refine h_seq ?_
    refine h_reg ?_
    refine h_op (r_assign rfl) ?_
    refine h_nil ?_
    refine q_then ?_
    refine h_seq ?_
    refine h_seq ?_
    refine h_reg ?_
    refine h_op (r_move rfl) ?_
    refine h_op (r_len rfl) ?_
    refine h_op (r_bool (r_eql rfl rfl) (decide_eq_false (by omega))) ?_
    refine h_nil ?_
    refine q_then ?_
    refine h_condF rfl ?_
    by_cases h1 : 65535 < l.length
    · rw [if_pos h1]
      refine h_skip ?_
      refine q_then ?_
      refine h_seq ?_
      refine h_seq ?_
      refine h_reg ?_
      refine h_op (r_move rfl) ?_
      refine h_op (r_len rfl) ?_
      refine h_op (r_bool (r_gtr rfl rfl) (decide_eq_true (by omega))) ?_
      refine h_nil ?_
      refine q_then ?_
      refine h_condT rfl ?_
      refine h_seq ?_
      refine h_reg ?_
      refine h_op (r_assign rfl) ?_
      refine h_nil ?_
      refine q_then ?_
      refine h_ret ?_
      refine q_thenR ?_
      exact h_ret1 rfl rfl fun w s => ⟨(), rfl, s.res (List.nil_sublist _) (by simp)⟩
    · rw [if_neg h1]
      refine h_skip ?_
      refine q_then ?_
      refine h_seq ?_
      refine h_seq ?_
      refine h_reg ?_
      refine h_op (r_move rfl) ?_
      refine h_op (r_len rfl) ?_
      refine h_op (r_bool (r_gtr rfl rfl) (decide_eq_false (by omega))) ?_
      refine h_nil ?_
      refine q_then ?_
      refine h_condF rfl ?_
      refine h_skip ?_
      refine q_then ?_
      refine h_seq ?_
      refine h_reg ?_
      refine h_op (r_move rfl) ?_
      refine h_call ((rkCheck_s l A c (by omega)).comes) rfl rfl rfl fun _ => ?_
      refine h_op (r_assign rfl) ?_
      refine h_nil ?_
      refine q_then ?_
      refine h_ret ?_
      exact h_ret1 rfl rfl fun w s => ⟨(), rfl, s.res (List.nil_sublist _) (by simp)⟩
end Go.Proofs.YtgfkbeipckbkiaaDoor
