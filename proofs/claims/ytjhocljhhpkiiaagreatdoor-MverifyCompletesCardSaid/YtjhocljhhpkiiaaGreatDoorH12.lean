/- errors.As at the errors of this program; fault.Code, First; The condition of two laid variables (the table of rounds, errors.errorType's handle); arguments that are claims, pairs of byte slices, roots with proofs, opened; Multiproofs: the subtrees that items describe: plain; multi: the subtree that items begin with; Arguments that are lists of items or of keys, opened; When a proof is well-formed: plain; The reference's depths and expansion; The reference's check; The reference: parts of bytes, decoding of proofs; verify.Check, Accepts; The reference's Supports; The reference's expansion; slices.Reverse; fold.Preimages; fold.Preimages; Rows of one's own, one by one: plain; The reference's preimages and steps; The reference's steps; rows of digests that are the same; The reference's checks of claims; Keys compared and checked; What mverify's checks of claims compute: plain; Arguments of mverify's laws, opened: claims; a root with bytes; a root with items; keys with an index (joined texts: U95 TV E14 U62 TI U26p U23 U26 U97 U96 U45r U23e U21 U22 U24p U24 U25 U98 U69 E29 TM) -/
import Derived.Test.YtjhocljhhpkiiaaGreatDoorH11
import Derived.LaidHandle
set_option linter.all false
/- U95 -/
namespace Go.Proofs.YtjhocljhhpkiiaaGreatDoor
set_option linter.unusedSimpArgs false
set_option linter.unusedVariables false
open Go.RowKit Go.Extern.Stop Go.Stop Go.Extern
instance iU95_1 : TIf Tryz.prog 20 := ⟨by kernel_rfl⟩
instance iU95_2 : MethT Tryz.prog 174 "Unwrap" 247 := ⟨fun v args w => by kernel_rfl⟩
instance iU95_3 : TRow Tryz.prog 259 3 := ⟨⟨_, Tryz.underlying259, rfl⟩, by kernel_rfl⟩
instance iU95_4 : TZ Tryz.prog 259 [.pointer none, .pointer none, .int .u64 0] := ⟨⟨.agg #[.pointer none, .pointer none, .int .u64 0], by kernel_rfl, rfl⟩⟩
instance iU95_5 : TOne Tryz.prog 262 := ⟨⟨_, Tryz.underlying262, rfl⟩, by kernel_rfl⟩
abbrev ERT : Fa := .rd (some ⟨0, 0, none⟩) [rty 90]
theorem r_asLack {P : Program} {n : Nat} {D : List Deferred} {E : Env} {L : List Fa} {x : Operand} {xT T t : TypeId} {v z : Value} {want : Array (String × TypeId)} (hu : P.underlying T = some (.interface want)) (h : (P.info? t).map (fun i => (lacking want i.methods).isEmpty) = some false) (hz : (P.info? T).map (·.zero) = some (some z)) (hx : ev E x = some (.iface t v)) : Runs0 P n D E L (.typeAssert x xT T true) (.tuple #[z, .bool false]) := fun a w ka s o ho => by
  unfold execOp
  simp only [ho, ka.ev hx]
  rw [Sem.run_bind, run_typeAssert_lacksB hu h hz]
  rfl
theorem r_asHas {P : Program} {n : Nat} {D : List Deferred} {E : Env} {L : List Fa} {x : Operand} {xT T t : TypeId} {v : Value} {want : Array (String × TypeId)} (hu : P.underlying T = some (.interface want)) (h : (P.info? t).map (fun i => (lacking want i.methods).isEmpty) = some true) (hx : ev E x = some (.iface t v)) : Runs0 P n D E L (.typeAssert x xT T true) (.tuple #[.iface t v, .bool true]) := fun a w ka s o ho => by
  unfold execOp
  simp only [ho, ka.ev hx]
  rw [Sem.run_bind, run_typeAssert_hasB hu h]
  rfl
theorem fUnwrap_s (e : Nat) (op : ByteArray) (i c : Int) : Spec Tryz.prog 247 [.pointer (some ⟨e, 0, none⟩)].toArray [.rd (some ⟨e, 0, none⟩) (fltC op i c)] [] (fun _ : Unit => .iface 94 (.int .i64 c)) (fun _ => []) := by
  refine spec_of Tryz.func247 rfl (n := 9) rfl rfl ?_
  intro W
  refine h_seq ?_
  refine h_reg ?_
  refine h_op (r_assign rfl) ?_
  refine h_nil ?_
  refine q_then ?_
  refine h_seq ?_
  refine h_seq ?_
  refine h_reg ?_
  refine h_op (r_move rfl) ?_
  refine h_op (r_nilR rfl rfl) ?_
  refine h_nil ?_
  refine q_then ?_
  refine h_condF rfl ?_
  refine h_skip ?_
  refine q_then ?_
  refine h_seq ?_
  refine h_reg ?_
  refine h_op (r_move rfl) ?_
  refine h_op (r_nilc rfl) ?_
  refine h_op (r_field rfl) ?_
  refine h_op (r_loadc rfl) ?_
  refine h_op (r_assign rfl) ?_
  refine h_nil ?_
  refine q_then ?_
  refine h_ret ?_
  exact h_ret1 rfl rfl fun w s => ⟨(), rfl, s.res (List.nil_sublist _) (by simp)⟩
theorem as_in1 (e t b : Nat) : Spec Tryz.prog 163 [.iface 174 (.pointer (some ⟨e, 0, none⟩)), .iface 176 (.pointer (some ⟨t, 0, none⟩)), rval 176 b 150, rty 174].toArray [.rd (some ⟨b, 0, none⟩) [.pointer (some ⟨t, 0, none⟩)]] [.blk t [.pointer none] 174] (fun _ : Unit => .bool true) (fun _ => [.blk t [.pointer (some ⟨e, 0, none⟩)] 174]) := by
  refine spec_of Tryz.func163 rfl (n := 62) rfl rfl ?_
  intro W
  refine h_seq ?_
  refine h_reg ?_
  refine h_opX (x_box rfl) fun g6 => ?_
  refine h_op (r_assign rfl) ?_
  refine h_nil ?_
  refine q_then ?_
  refine h_block ?_
  refine h_loop (fun (s : Unit) => True) (fun (s : Unit) => [(0, .iface 174 (.pointer (some ⟨e, 0, none⟩))), (3, rty 174), (6, .pointer (some ⟨g6, 0, none⟩))]) (fun (s : Unit) => [.blk g6 [hdl 176, .pointer (some ⟨b, 0, none⟩), .int .u64 150] 259, .blk t [.pointer none] 174, .rd (some ⟨b, 0, none⟩) [.pointer (some ⟨t, 0, none⟩)]]) (fun (s : Unit) => 0) () (trivial) ⟨rfl, rfl, rfl, trivial⟩ (same) ?_
  rintro _ _
  refine h_block ?_
  refine h_seq ?_
  refine h_seq ?_
  refine h_reg ?_
  refine h_op (r_move rfl) ?_
  refine h_op (r_fun (rf_typeOf3 _) rfl) ?_
  refine h_op (r_move rfl) ?_
  refine h_op (r_inv rf_asg33 rfl rfl) ?_
  refine h_nil ?_
  refine q_then ?_
  refine h_condT rfl ?_
  refine h_seq ?_
  refine h_reg ?_
  refine h_op (r_loadr rfl) ?_
  refine h_op (r_funC (u := .pointer (some ⟨t, 0, none⟩)) (fun w hw => rf_elemV1 b t w hw) rfl) ?_
  refine h_op (r_move rfl) ?_
  refine h_opX (x_fun (u := fun b => rval 174 b 150) (cs := [.pointer (some ⟨e, 0, none⟩)]) (rf_val3 ⟨e, 0, none⟩) rfl) fun g23 => ?_
  refine h_opX (x_setV (g := t) (u := .pointer (some ⟨e, 0, none⟩)) (fun w h1 h2 => rf_set1 t g23 ⟨e, 0, none⟩ _ w h1 h2) rfl) fun g24 => ?_
  refine h_nil ?_
  refine q_then ?_
  refine h_seq ?_
  refine h_reg ?_
  refine h_op (r_assign rfl) ?_
  refine h_nil ?_
  refine q_then ?_
  refine h_ret ?_
  refine q_thenR ?_
  refine q_blockR ?_
  refine q_thenR ?_
  refine q_blockR ?_
  exact h_ret1 rfl rfl fun w s => ⟨(), rfl, (same (L' := [.blk t [.pointer (some ⟨e, 0, none⟩)] 174]) w s).res (List.Sublist.refl _) (by simp [Fa.wr])⟩
theorem as_s1 (e t : Nat) : Spec Tryz.prog 104 [.iface 174 (.pointer (some ⟨e, 0, none⟩)), .iface 176 (.pointer (some ⟨t, 0, none⟩))].toArray [ERT] [.blk t [.pointer none] 174] (fun _ : Unit => .bool true) (fun _ => [.blk t [.pointer (some ⟨e, 0, none⟩)] 174]) := by
  refine spec_of Tryz.func104 rfl (n := 42) rfl rfl ?_
  intro W
  refine h_seq ?_
  refine h_reg ?_
  refine h_op (r_assign rfl) ?_
  refine h_nil ?_
  refine q_then ?_
  refine h_seq ?_
  refine h_seq ?_
  refine h_reg ?_
  refine h_op (r_move rfl) ?_
  refine h_op (r_ifnil rfl) ?_
  refine h_nil ?_
  refine q_then ?_
  refine h_condF rfl ?_
  refine h_skip ?_
  refine q_then ?_
  refine h_seq ?_
  refine h_seq ?_
  refine h_reg ?_
  refine h_op (r_move rfl) ?_
  refine h_op (r_ifnil rfl) ?_
  refine h_nil ?_
  refine q_then ?_
  refine h_condF rfl ?_
  refine h_skip ?_
  refine q_then ?_
  refine h_seq ?_
  refine h_reg ?_
  refine h_op (r_move rfl) ?_
  refine h_opX (x_fun (u := fun b => rval 176 b 150) (cs := [.pointer (some ⟨t, 0, none⟩)]) (rf_val1 ⟨t, 0, none⟩) rfl) fun g14 => ?_
  refine h_opX (x_alloc) fun g5 => ?_
  refine h_opS (s_storer rfl rfl) ?_
  refine h_nil ?_
  refine q_then ?_
  refine h_seq ?_
  refine h_reg ?_
  refine h_op (r_loadr rfl) ?_
  refine h_op (r_fun (rf_type1 g14) rfl) ?_
  refine h_op (r_assign rfl) ?_
  refine h_nil ?_
  refine q_then ?_
  refine h_seq ?_
  refine h_seq ?_
  refine h_reg ?_
  refine h_op (r_move rfl) ?_
  refine h_op (r_inv rf_kind1 rfl rfl) ?_
  refine h_op (r_bool (r_neq rfl rfl) rfl) ?_
  refine h_op (r_move rfl) ?_
  refine h_op (r_loadr rfl) ?_
  refine h_op (r_funC (u := .pointer (some ⟨t, 0, none⟩)) (fun w hw => rf_nil1 g14 ⟨t, 0, none⟩ w hw) rfl) ?_
  refine h_op (r_pick rfl rfl) ?_
  refine h_nil ?_
  refine q_then ?_
  refine h_condF rfl ?_
  refine h_skip ?_
  refine q_then ?_
  refine h_seq ?_
  refine h_reg ?_
  refine h_op (r_move rfl) ?_
  refine h_op (r_inv rf_elem1 rfl rfl) ?_
  refine h_op (r_assign rfl) ?_
  refine h_nil ?_
  refine q_then ?_
  refine h_seq ?_
  refine h_seq ?_
  refine h_reg ?_
  refine h_op (r_move rfl) ?_
  refine h_op (r_inv rf_kind3 rfl rfl) ?_
  refine h_op (r_bool (r_neq rfl rfl) rfl) ?_
  refine h_op (r_move rfl) ?_
  refine h_op (r_move rfl) ?_
  refine h_op (r_loadc rfl) ?_
  refine h_op (r_inv rf_impl3 rfl rfl) ?_
  refine h_op (r_not rfl) ?_
  refine h_op (r_pick rfl rfl) ?_
  refine h_nil ?_
  refine q_then ?_
  refine h_condF rfl ?_
  refine h_skip ?_
  refine q_then ?_
  refine h_seq ?_
  refine h_reg ?_
  refine h_op (r_move rfl) ?_
  refine h_op (r_move rfl) ?_
  refine h_op (r_loadr rfl) ?_
  refine h_op (r_move rfl) ?_
  refine h_call ((as_in1 e t g14).comes) rfl rfl rfl fun _ => ?_
  refine h_op (r_assign rfl) ?_
  refine h_nil ?_
  refine q_then ?_
  refine h_ret ?_
  exact h_ret1 rfl rfl fun w s => ⟨(), rfl, (same (L' := [.blk t [.pointer (some ⟨e, 0, none⟩)] 174]) w s).res (List.Sublist.refl _) (by simp [Fa.wr])⟩
theorem as_in2 (e t b : Nat) (op : ByteArray) (i c : Int) : Spec Tryz.prog 163 [.iface 174 (.pointer (some ⟨e, 0, none⟩)), .iface 179 (.pointer (some ⟨t, 0, none⟩)), rval 179 b 150, rty 94].toArray [.rd (some ⟨b, 0, none⟩) [.pointer (some ⟨t, 0, none⟩)], .rd (some ⟨e, 0, none⟩) (fltC op i c)] [.blk t [.int .i64 0] 94] (fun _ : Unit => .bool true) (fun _ => [.blk t [.int .i64 c] 94]) := by
  refine spec_of Tryz.func163 rfl (n := 62) rfl rfl ?_
  intro W
  refine h_seq ?_
  refine h_reg ?_
  refine h_opX (x_box rfl) fun g6 => ?_
  refine h_op (r_assign rfl) ?_
  refine h_nil ?_
  refine q_then ?_
  refine h_block ?_
  refine h_loop (fun (s : Bool) => True) (fun (s : Bool) => [(0, if s then .iface 94 (.int .i64 c) else .iface 174 (.pointer (some ⟨e, 0, none⟩))), (3, rty 94), (6, .pointer (some ⟨g6, 0, none⟩))]) (fun (s : Bool) => [.blk g6 [hdl 179, .pointer (some ⟨b, 0, none⟩), .int .u64 150] 259, .blk t [.int .i64 0] 94, .rd (some ⟨b, 0, none⟩) [.pointer (some ⟨t, 0, none⟩)], .rd (some ⟨e, 0, none⟩) (fltC op i c)]) (fun (s : Bool) => (if s then 0 else 1)) false (trivial) ⟨rfl, rfl, rfl, trivial⟩ (same) ?_
  rintro s _
  cases s
  · refine h_block ?_
    refine h_seq ?_
    refine h_seq ?_
    refine h_reg ?_
    refine h_op (r_move rfl) ?_
    refine h_op (r_fun (rf_typeOf3 _) rfl) ?_
    refine h_op (r_move rfl) ?_
    refine h_op (r_inv rf_asg34 rfl rfl) ?_
    refine h_nil ?_
    refine q_then ?_
    refine h_condF rfl ?_
    refine h_skip ?_
    refine q_then ?_
    refine h_seq ?_
    refine h_seq ?_
    refine h_reg ?_
    refine h_op (r_move rfl) ?_
    refine h_op (r_asLack (t := 174) (z := .nilIface) Tryz.underlying313 (by kernel_rfl) (by kernel_rfl) rfl) ?_
    refine h_op (r_move rfl) ?_
    refine h_op (r_extract rfl rfl) ?_
    refine h_op (r_extract rfl rfl) ?_
    refine h_op (r_assign rfl) ?_
    refine h_op (r_assign rfl) ?_
    refine h_nil ?_
    refine q_then ?_
    refine h_seq ?_
    refine h_reg ?_
    refine h_op (r_move rfl) ?_
    refine h_op (r_move rfl) ?_
    refine h_opOff ?_
    refine h_opOff ?_
    refine h_opOff ?_
    refine h_op (r_pick rfl rfl) ?_
    refine h_nil ?_
    refine q_then ?_
    refine h_condF rfl ?_
    refine h_skip ?_
    refine q_then ?_
    refine h_seq ?_
    refine h_reg ?_
    refine h_op (r_move rfl) ?_
    refine h_nil ?_
    refine q_then ?_
    refine h_block ?_
    refine h_seq ?_
    refine h_reg ?_
    refine h_op (r_asHas (t := 174) Tryz.underlying316 (by kernel_rfl) rfl) ?_
    refine h_op (r_extract rfl rfl) ?_
    refine h_op (r_extract rfl rfl) ?_
    refine h_nil ?_
    refine q_then ?_
    refine h_condT rfl ?_
    refine h_seq ?_
    refine h_reg ?_
    refine h_op (r_assign rfl) ?_
    refine h_nil ?_
    refine q_then ?_
    refine h_seq ?_
    refine h_reg ?_
    refine h_op (r_move rfl) ?_
    refine h_callM ((fUnwrap_s e op i c).comes) rfl rfl rfl fun _ => ?_
    refine h_op (r_assign rfl) ?_
    refine h_nil ?_
    refine q_then ?_
    refine h_seq ?_
    refine h_reg ?_
    refine h_op (r_move rfl) ?_
    refine h_op (r_ifnil rfl) ?_
    refine h_nil ?_
    refine q_then ?_
    refine h_condF rfl ?_
    refine h_skip ?_
    refine q_block ?_
    refine q_block ?_
    exact h_back true (trivial) ((show 0 < 1 by decide)) ⟨rfl, rfl, rfl, trivial⟩ (same)
  · refine h_block ?_
    refine h_seq ?_
    refine h_seq ?_
    refine h_reg ?_
    refine h_op (r_move rfl) ?_
    refine h_op (r_fun (rf_typeOf4 _) rfl) ?_
    refine h_op (r_move rfl) ?_
    refine h_op (r_inv rf_asg44 rfl rfl) ?_
    refine h_nil ?_
    refine q_then ?_
    refine h_condT rfl ?_
    refine h_seq ?_
    refine h_reg ?_
    refine h_op (r_loadr rfl) ?_
    refine h_op (r_funC (u := .pointer (some ⟨t, 0, none⟩)) (fun w hw => rf_elemV2 b t w hw) rfl) ?_
    refine h_op (r_move rfl) ?_
    refine h_opX (x_fun (u := fun b => rval 94 b 130) (cs := [.int .i64 c]) (rf_val4 c) rfl) fun g23 => ?_
    refine h_opX (x_setV (g := t) (u := .int .i64 c) (fun w h1 h2 => rf_set2 t g23 c _ w h1 h2) rfl) fun g24 => ?_
    refine h_nil ?_
    refine q_then ?_
    refine h_seq ?_
    refine h_reg ?_
    refine h_op (r_assign rfl) ?_
    refine h_nil ?_
    refine q_then ?_
    refine h_ret ?_
    refine q_thenR ?_
    refine q_blockR ?_
    refine q_thenR ?_
    refine q_blockR ?_
    exact h_ret1 rfl rfl fun w s => ⟨(), rfl, (same (L' := [.blk t [.int .i64 c] 94]) w s).res (List.Sublist.refl _) (by simp [Fa.wr])⟩
theorem as_s2 (e t : Nat) (op : ByteArray) (i c : Int) : Spec Tryz.prog 104 [.iface 174 (.pointer (some ⟨e, 0, none⟩)), .iface 179 (.pointer (some ⟨t, 0, none⟩))].toArray [ERT, .rd (some ⟨e, 0, none⟩) (fltC op i c)] [.blk t [.int .i64 0] 94] (fun _ : Unit => .bool true) (fun _ => [.blk t [.int .i64 c] 94]) := by
  refine spec_of Tryz.func104 rfl (n := 42) rfl rfl ?_
  intro W
  refine h_seq ?_
  refine h_reg ?_
  refine h_op (r_assign rfl) ?_
  refine h_nil ?_
  refine q_then ?_
  refine h_seq ?_
  refine h_seq ?_
  refine h_reg ?_
  refine h_op (r_move rfl) ?_
  refine h_op (r_ifnil rfl) ?_
  refine h_nil ?_
  refine q_then ?_
  refine h_condF rfl ?_
  refine h_skip ?_
  refine q_then ?_
  refine h_seq ?_
  refine h_seq ?_
  refine h_reg ?_
  refine h_op (r_move rfl) ?_
  refine h_op (r_ifnil rfl) ?_
  refine h_nil ?_
  refine q_then ?_
  refine h_condF rfl ?_
  refine h_skip ?_
  refine q_then ?_
  refine h_seq ?_
  refine h_reg ?_
  refine h_op (r_move rfl) ?_
  refine h_opX (x_fun (u := fun b => rval 179 b 150) (cs := [.pointer (some ⟨t, 0, none⟩)]) (rf_val2 ⟨t, 0, none⟩) rfl) fun g14 => ?_
  refine h_opX (x_alloc) fun g5 => ?_
  refine h_opS (s_storer rfl rfl) ?_
  refine h_nil ?_
  refine q_then ?_
  refine h_seq ?_
  refine h_reg ?_
  refine h_op (r_loadr rfl) ?_
  refine h_op (r_fun (rf_type2 g14) rfl) ?_
  refine h_op (r_assign rfl) ?_
  refine h_nil ?_
  refine q_then ?_
  refine h_seq ?_
  refine h_seq ?_
  refine h_reg ?_
  refine h_op (r_move rfl) ?_
  refine h_op (r_inv rf_kind2 rfl rfl) ?_
  refine h_op (r_bool (r_neq rfl rfl) rfl) ?_
  refine h_op (r_move rfl) ?_
  refine h_op (r_loadr rfl) ?_
  refine h_op (r_funC (u := .pointer (some ⟨t, 0, none⟩)) (fun w hw => rf_nil2 g14 ⟨t, 0, none⟩ w hw) rfl) ?_
  refine h_op (r_pick rfl rfl) ?_
  refine h_nil ?_
  refine q_then ?_
  refine h_condF rfl ?_
  refine h_skip ?_
  refine q_then ?_
  refine h_seq ?_
  refine h_reg ?_
  refine h_op (r_move rfl) ?_
  refine h_op (r_inv rf_elem2 rfl rfl) ?_
  refine h_op (r_assign rfl) ?_
  refine h_nil ?_
  refine q_then ?_
  refine h_seq ?_
  refine h_seq ?_
  refine h_reg ?_
  refine h_op (r_move rfl) ?_
  refine h_op (r_inv rf_kind4 rfl rfl) ?_
  refine h_op (r_bool (r_neq rfl rfl) rfl) ?_
  refine h_op (r_move rfl) ?_
  refine h_op (r_move rfl) ?_
  refine h_op (r_loadc rfl) ?_
  refine h_op (r_inv rf_impl4 rfl rfl) ?_
  refine h_op (r_not rfl) ?_
  refine h_op (r_pick rfl rfl) ?_
  refine h_nil ?_
  refine q_then ?_
  refine h_condF rfl ?_
  refine h_skip ?_
  refine q_then ?_
  refine h_seq ?_
  refine h_reg ?_
  refine h_op (r_move rfl) ?_
  refine h_op (r_move rfl) ?_
  refine h_op (r_loadr rfl) ?_
  refine h_op (r_move rfl) ?_
  refine h_call ((as_in2 e t g14 op i c).comes) rfl rfl rfl fun _ => ?_
  refine h_op (r_assign rfl) ?_
  refine h_nil ?_
  refine q_then ?_
  refine h_ret ?_
  exact h_ret1 rfl rfl fun w s => ⟨(), rfl, (same (L' := [.blk t [.int .i64 c] 94]) w s).res (List.Sublist.refl _) (by simp [Fa.wr])⟩
theorem Code_s (e : Nat) (op : ByteArray) (i c : Int) : Spec Tryz.prog 52 [.iface 174 (.pointer (some ⟨e, 0, none⟩))].toArray [ERT, .rd (some ⟨e, 0, none⟩) (fltC op i c)] [] (fun _ : Unit => .int .i64 c) (fun _ => []) := by
  refine spec_of Tryz.func52 rfl (n := 12) rfl rfl ?_
  intro W
  refine h_seq ?_
  refine h_reg ?_
  refine h_op (r_assign rfl) ?_
  refine h_nil ?_
  refine q_then ?_
  refine h_seq ?_
  refine h_reg ?_
  refine h_opX (x_alloc) fun g3 => ?_
  refine h_nil ?_
  refine q_then ?_
  refine h_seq ?_
  refine h_block ?_
  refine h_seq ?_
  refine h_reg ?_
  refine h_op (r_move rfl) ?_
  refine h_op (r_ifnil rfl) ?_
  refine h_op (r_assign rfl) ?_
  refine h_nil ?_
  refine q_then ?_
  refine h_condF rfl ?_
  refine h_seq ?_
  refine h_reg ?_
  refine h_op (r_move rfl) ?_
  refine h_op (r_mkI rfl) ?_
  refine h_call ((as_s2 e g3 op i c).comes) rfl rfl rfl fun _ => ?_
  refine h_op (r_assign rfl) ?_
  refine h_nil ?_
  refine q_then ?_
  refine h_condT rfl ?_
  refine h_seq ?_
  refine h_reg ?_
  refine h_op (r_loadc rfl) ?_
  refine h_op (r_assign rfl) ?_
  refine h_nil ?_
  refine q_then ?_
  refine h_ret ?_
  refine q_blockR ?_
  refine q_thenR ?_
  exact h_ret1 rfl rfl fun w s => ⟨(), rfl, s.res (List.nil_sublist _) (by simp)⟩
theorem First_s (e : Nat) (op : ByteArray) (i c : Int) : Spec Tryz.prog 51 [.iface 174 (.pointer (some ⟨e, 0, none⟩))].toArray [ERT, .rd (some ⟨e, 0, none⟩) (fltC op i c)] [] (fun _ : Unit => .tuple #[.string op, .int .i64 i, .bool true]) (fun _ => []) := by
  refine spec_of Tryz.func51 rfl (n := 18) rfl rfl ?_
  intro W
  refine h_seq ?_
  refine h_reg ?_
  refine h_op (r_assign rfl) ?_
  refine h_op (r_assign rfl) ?_
  refine h_op (r_assign rfl) ?_
  refine h_nil ?_
  refine q_then ?_
  refine h_seq ?_
  refine h_reg ?_
  refine h_opX (x_alloc) fun g5 => ?_
  refine h_nil ?_
  refine q_then ?_
  refine h_seq ?_
  refine h_seq ?_
  refine h_reg ?_
  refine h_op (r_move rfl) ?_
  refine h_op (r_mkI rfl) ?_
  refine h_call ((as_s1 e g5).comes) rfl rfl rfl fun _ => ?_
  refine h_op (r_not rfl) ?_
  refine h_nil ?_
  refine q_then ?_
  refine h_condF rfl ?_
  refine h_skip ?_
  refine q_then ?_
  refine h_seq ?_
  refine ha_start [.blk g5 [.pointer (some ⟨e, 0, none⟩)] 174, .rd (some ⟨e, 0, none⟩) (fltC op i c)] [] mixed (same) ?_
  refine ha_take 0 rfl (r_loadc rfl) ?_
  refine ha_takeP 1 rfl (r_nilc rfl) ?_
  refine ha_takeP 2 rfl (r_field rfl) ?_
  refine ha_take 3 rfl (r_loadc rfl) ?_
  refine ha_take 4 rfl (r_loadc rfl) ?_
  refine ha_takeP 5 rfl (r_nilc rfl) ?_
  refine ha_takeP 6 rfl (r_field rfl) ?_
  refine ha_take 7 rfl (r_loadc rfl) ?_
  refine ha_takeP 8 rfl (r_assign rfl) ?_
  refine ha_takeP 9 rfl (r_assign rfl) ?_
  refine ha_takeP 10 rfl (r_assign rfl) ?_
  refine ha_done (by kernel_rfl) ?_
  refine q_then ?_
  refine h_ret ?_
  exact h_ret3 rfl rfl rfl rfl fun w s => ⟨(), rfl, s.res (List.nil_sublist _) (by simp)⟩
end Go.Proofs.YtjhocljhhpkiiaaGreatDoor
/- TV -/
namespace Go.Proofs.YtjhocljhhpkiiaaGreatDoor
set_option linter.unusedSimpArgs false
set_option linter.unusedVariables false
open Go.RowKit Go.ChangeShapes Go.WideShapes
/-! the two laid variables -/
abbrev laidR2 : List (String × DataW Unit) := [("errors.errorType", Rows.laid_errors_errorType), ("sparsetree/sha.rounds", Rows.laid_sparsetree_sha_rounds)]
theorem gET : Tryz.prog.globalNamed "errors.errorType" = some 0 := by kernel_rfl
theorem rtET : (Tryz.prog.cutTypes.find? (·.1 == "internal/reflectlite.rtype")).map (·.2) = some 308 := by kernel_rfl
theorem oneError : ((List.range Tryz.prog.types.size).filter fun t => Tryz.prog.rowNamed t [101, 114, 114, 111, 114]) = [90] := by kernel_rfl
theorem laid_both {W : World} (h : laidMetH Tryz.prog laidR2 W) : laidMetH Tryz.prog laidR W ∧ handlesMet Tryz.prog [("errors.errorType", Rows.laid_errors_errorType)] W := by
  have h' : laidMet Tryz.prog laidR W ∧ handlesMet Tryz.prog [("errors.errorType", Rows.laid_errors_errorType)] W := h
  refine ⟨?_, h'.2⟩
  rw [MakeChecks.laidMetH_plain _ _ _ (by kernel_rfl)]
  exact h'.1
theorem error_of {W : World} (h : laidMetH Tryz.prog laidR2 W) : Rd W (some ⟨0, 0, none⟩) [rty 90] := by
  obtain ⟨name, u, ty, e1, e2, e3, e4, e5⟩ := (laid_both h).2 _ (List.mem_singleton.2 rfl)
  have en : name = [101, 114, 114, 111, 114] := (Option.some.inj e1).symm
  subst en
  obtain rfl := Option.some.inj (rtET.symm.trans e2)
  have hm : ty ∈ (List.range Tryz.prog.types.size).filter fun t => Tryz.prog.rowNamed t [101, 114, 114, 111, 114] := List.mem_filter.2 ⟨List.mem_range.2 e3, e4⟩
  rw [oneError] at hm
  obtain rfl := List.mem_singleton.1 hm
  have hh : typeHandle Tryz.prog 90 = hdl 90 := by kernel_rfl
  rw [hh] at e5
  have hc := World.var?_cell gET e5 0
  intro j u hu
  refine ⟨0, 0, rfl, ?_⟩
  match j, hu with
  | 0, hu =>
    rw [← hu]
    simpa using hc
  | j + 1, hu => exact absurd hu (by simp)
theorem door_met2 (os : Os) (args : Array Value) : laidMetH Tryz.prog laidR2 ((World.doorLaid Tryz.prog 21 os).forCall (fun _ _ => 0) ⟨#[], args, []⟩).memory :=
  laidMetH_of_parts3 (fuel := 8) (laidMet_of_run' 8 (by kernel_rfl) (by kernel_rfl)) (by kernel_rfl) (by kernel_rfl)
end Go.Proofs.YtjhocljhhpkiiaaGreatDoor
/- E14 -/
namespace Go.Proofs.YtjhocljhhpkiiaaGreatDoor
set_option linter.unusedSimpArgs false
set_option linter.unusedVariables false
open Go.RowKit
inductive Sub where
  | one (x : Item)
  | two (l r : Sub)
/-- the subtree that items begin with, with at most d levels of inner nodes -/
def readM : Nat → List Item → Option (Sub × List Item)
  | _, [] => none
  | 0, x :: rest => if x.kind = 2 then none else some (.one x, rest)
  | d + 1, x :: rest => if x.kind = 2 then (readM d rest).bind fun p => (readM d p.2).bind fun q => some (.two p.1 q.1, q.2) else some (.one x, rest)

/-- the kind is one of the four -/
def kindOk (x : Item) : Bool := decide (0 ≤ x.kind) && decide (x.kind ≤ 3)
/-- fields that have no meaning are zero -/
def cleanItem (x : Item) : Bool := (x.kind == 3 || decide (x.digest = zB32)) && (x.kind == 1 || decide (x.leaf = zLeaf))
def parseM (l : List Item) : Except Int Sub :=
  if l.all kindOk then
    match readM 256 l with
    | some (t, []) => if l.all cleanItem then .ok t else .error 5
    | _ => .error 5
  else .error 7

theorem all_take {α : Type} (p : α → Bool) (l : List α) (k : Nat) (x : α) (h : l[k]? = some x) : (l.take (k + 1)).all p = ((l.take k).all p && p x) := by
  rw [List.take_add_one, h, List.all_append]
  simp
theorem readM_suffix : ∀ (d : Nat) (l : List Item) (t : Sub) (rest : List Item), readM d l = some (t, rest) → ∃ n, 0 < n ∧ n ≤ l.length ∧ rest = l.drop n
  | _, [], t, rest, h => by cases ‹Nat› <;> simp [readM] at h
  | 0, x :: l, t, rest, h => by
    simp only [readM] at h
    split at h
    · cases h
    · simp only [Option.some.injEq, Prod.mk.injEq] at h
      exact ⟨1, by omega, by simp, by simp [h.2]⟩
  | d + 1, x :: l, t, rest, h => by
    simp only [readM] at h
    split at h
    · obtain ⟨p, hp, h⟩ := Option.bind_eq_some_iff.1 h
      obtain ⟨q, hq, h⟩ := Option.bind_eq_some_iff.1 h
      obtain ⟨n, hn0, hn, e1⟩ := readM_suffix d l p.1 p.2 hp
      obtain ⟨m, hm0, hm, e2⟩ := readM_suffix d p.2 q.1 q.2 hq
      simp only [Option.some.injEq, Prod.mk.injEq] at h
      rw [e1, List.length_drop] at hm
      refine ⟨n + m + 1, by omega, by simp; omega, ?_⟩
      rw [← h.2, e2, e1, List.drop_drop]
      rfl
    · simp only [Option.some.injEq, Prod.mk.injEq] at h
      exact ⟨1, by omega, by simp, by simp [h.2]⟩
/-- the index behind what was read -/
def skipI (l : List Item) (r : Option (Sub × List Item)) : Int := match r with | none => -1 | some p => (l.length : Int) - p.2.length

def checkM (l : List Item) : Int := match parseM l with | .ok _ => 0 | .error c => c
/-- what the reference's Check computes -/
theorem checkM_eq (l : List Item) : checkM l = if l.all kindOk then (if l.all cleanItem then (if l.length = 0 ∨ skipI l (readM 256 l) ≠ l.length then 5 else 0) else 5) else 7 := by
  unfold checkM parseM
  by_cases h1 : l.all kindOk = true
  · rw [if_pos h1, if_pos h1]
    by_cases h2 : l.all cleanItem = true
    · rw [if_pos h2]
      cases h3 : readM 256 l with
      | none =>
        have : (skipI l none) ≠ (l.length : Int) := by simp only [skipI]; omega
        simp [this]
      | some p =>
        obtain ⟨t, rest⟩ := p
        obtain ⟨n, hn0, hn, e1⟩ := readM_suffix 256 l t rest h3
        cases rest with
        | nil =>
          have h0 : l.length ≠ 0 := by omega
          have hs : skipI l (some (t, [])) = l.length := by simp [skipI]
          simp [h2, h0, hs]
        | cons y rest =>
          have hs : skipI l (some (t, y :: rest)) ≠ l.length := by simp only [skipI, List.length_cons]; omega
          simp [hs]
    · have h2' : l.all cleanItem = false := by simpa using h2
      rw [if_neg h2]
      cases h3 : readM 256 l with
      | none => rfl
      | some p =>
        obtain ⟨t, rest⟩ := p
        cases rest <;> simp [h2']
  · rw [if_neg h1, if_neg h1]
end Go.Proofs.YtjhocljhhpkiiaaGreatDoor
/- U62 -/
namespace Go.Proofs.YtjhocljhhpkiiaaGreatDoor
set_option linter.unusedSimpArgs false
set_option linter.unusedVariables false
open Go.RowKit
instance iU62_1 : TIf Tryz.prog 228 := ⟨by kernel_rfl⟩
def Sub.tag : Sub → TypeId
  | .one _ => 235
  | .two _ _ => 232
def Sub.val : Sub → Value
  | .one x => .agg x.cells.toArray
  | .two l r => .agg #[.iface l.tag l.val, .iface r.tag r.val]
def its (l : List Item) : List Value := l.flatMap Item.cells
theorem its_len (l : List Item) : (its l).length = l.length * 97 := by
  induction l with
  | nil => rfl
  | cons x l ih =>
    show (x.cells ++ its l).length = _
    rw [List.length_append, ih, Item.cells_length, List.length_cons]; omega
theorem its_cons (x : Item) (l : List Item) : its (x :: l) = x.cells ++ its l := rfl
theorem its_tail {h : Zh} {A : Option Addr} {x : Item} {l : List Item} {c : Nat} (hr : RdZ h A (its (x :: l))) (hc : l.length + 1 ≤ c) : RdZ h (cutA A c 1 97) (its l) := by
  rw [its_cons] at hr
  unfold cutA
  split
  · have : l = [] := List.eq_nil_of_length_eq_zero (by omega)
    rw [this]
    exact RdZ.nil _ _
  · refine ⟨fun j v hv => ?_⟩
    have h1 := hr.at_ (97 + j) v (by rw [List.getElem?_append_right (by rw [Item.cells_length]; omega), Item.cells_length, Nat.add_sub_cancel_left]; exact hv)
    obtain ⟨b, o, rfl, h2⟩ := h1
    exact ⟨b, o + 97, by simp [Addr.add_mid], by rw [Nat.add_assoc]; exact h2⟩
section
variable (h : Zh)
theorem read_nil (A : Option Addr) (c : Nat) (i : Int) : Spec Tryz.prog 194 [.slice A 0 c, .int .i64 i].toArray [.zone false h] [] (fun _ : Unit => .tuple #[.nilIface, .slice none 0 0]) (fun _ => []) := by
  refine spec_of Tryz.func194 rfl (n := 47) rfl rfl ?_
  intro W
  refine h_seq ?_
  refine h_reg ?_
  refine h_op (r_assign rfl) ?_
  refine h_op (r_assign rfl) ?_
  refine h_nil ?_
  refine q_then ?_
  refine h_seq ?_
  refine h_seq ?_
  refine h_reg ?_
  refine h_op (r_move rfl) ?_
  refine h_op (r_len rfl) ?_
  refine h_op (r_bool (r_eql rfl rfl) (show _ = true from rfl)) ?_
  refine h_nil ?_
  refine q_then ?_
  refine h_condT rfl ?_
  refine h_seq ?_
  refine h_reg ?_
  refine h_op (r_assign rfl) ?_
  refine h_op (r_assign rfl) ?_
  refine h_nil ?_
  refine q_then ?_
  refine h_ret ?_
  refine q_thenR ?_
  exact h_ret2 rfl rfl rfl fun w s => ⟨(), rfl, s.res (List.nil_sublist _) (by simp)⟩
theorem read_one (x : Item) (r : List Item) (hk : x.kind ≠ 2) (A : Option Addr) (c : Nat) (i : Int) [hr : RdZ h A (its (x :: r))] (hc : r.length + 1 ≤ c) : Spec Tryz.prog 194 [.slice A (r.length + 1) c, .int .i64 i].toArray [.zone false h] [] (fun _ : Unit => .tuple #[.iface (Sub.one x).tag (Sub.one x).val, .slice (cutA A c 1 97) r.length (c - 1)]) (fun _ => []) := by
  have h0 : 0 < (its (x :: r)).length := by rw [its_len, List.length_cons]; omega
  obtain ⟨b, o, rfl, -⟩ := hr.at_ 0 _ (List.getElem?_eq_getElem h0)
  have hx : ∀ j v, x.cells[j]? = some v → (its (x :: r))[0 + j]? = some v := fun j v hv => by rw [its_cons, Nat.zero_add, List.getElem?_append_left (List.getElem?_eq_some_iff.1 hv).1]; exact hv
  refine spec_of Tryz.func194 rfl (n := 47) rfl rfl ?_
  intro W
  refine h_seq ?_
  refine h_reg ?_
  refine h_op (r_assign rfl) ?_
  refine h_op (r_assign rfl) ?_
  refine h_nil ?_
  refine q_then ?_
  refine h_seq ?_
  refine h_seq ?_
  refine h_reg ?_
  refine h_op (r_move rfl) ?_
  refine h_op (r_len rfl) ?_
  refine h_op (r_bool (r_eql rfl rfl) (decide_eq_false (by omega))) ?_
  refine h_nil ?_
  refine q_then ?_
  refine h_condF rfl ?_
  refine h_skip ?_
  refine q_then ?_
  refine h_seq ?_
  refine ha_start [.zone false h] [] mixed (same) ?_
  refine ha_takeP 0 rfl (r_move rfl) ?_
  refine ha_takeP 1 rfl (r_idx rfl rfl) ?_
  refine ha_take 2 rfl (r_nthr rfl (out := x.cells) (Item.cells_length x) hx) ?_
  refine ha_takeP 3 rfl (r_move rfl) ?_
  refine ha_takeP 4 rfl (r_as (r_slL rfl rfl) (show _ = Value.slice (cutA (some ⟨b, o, none⟩) c 1 97) r.length (c - 1) by rw [Nat.add_sub_cancel])) ?_
  refine ha_one 5 ?_
  refine ho_X 5 rfl (rk (x_alloc)) (fun _ => same) fun g6 => ?_
  refine ha_one 6 ?_
  refine ho_S 6 rfl (s_storer rfl rfl) (same) ?_
  refine ha_takeP 7 rfl (r_assign rfl) ?_
  refine ha_done (by kernel_rfl) ?_
  refine q_then ?_
  refine h_seq ?_
  refine h_seq ?_
  refine h_reg ?_
  refine h_op (r_field rfl) ?_
  refine h_op (r_loadc rfl) ?_
  refine h_op (r_bool (r_neq rfl rfl) (decide_eq_true hk)) ?_
  refine h_nil ?_
  refine q_then ?_
  refine h_condT rfl ?_
  refine h_seq ?_
  refine h_reg ?_
  refine h_op (r_loadr rfl) ?_
  refine h_op (r_build rfl) ?_
  refine h_op (r_mkI rfl) ?_
  refine h_op (r_move rfl) ?_
  refine h_op (r_assign rfl) ?_
  refine h_op (r_assign rfl) ?_
  refine h_nil ?_
  refine q_then ?_
  refine h_ret ?_
  refine q_thenR ?_
  exact h_ret2 rfl rfl rfl fun w s => ⟨(), rfl, s.res (List.nil_sublist _) (by simp)⟩
theorem read_deep (x : Item) (r : List Item) (hk : x.kind = 2) (A : Option Addr) (c : Nat) (i : Int) (hi : 256 ≤ i) [hr : RdZ h A (its (x :: r))] (hc : r.length + 1 ≤ c) : Spec Tryz.prog 194 [.slice A (r.length + 1) c, .int .i64 i].toArray [.zone false h] [] (fun _ : Unit => .tuple #[.nilIface, .slice none 0 0]) (fun _ => []) := by
  have h0 : 0 < (its (x :: r)).length := by rw [its_len, List.length_cons]; omega
  obtain ⟨b, o, rfl, -⟩ := hr.at_ 0 _ (List.getElem?_eq_getElem h0)
  have hx : ∀ j v, x.cells[j]? = some v → (its (x :: r))[0 + j]? = some v := fun j v hv => by rw [its_cons, Nat.zero_add, List.getElem?_append_left (List.getElem?_eq_some_iff.1 hv).1]; exact hv
  refine spec_of Tryz.func194 rfl (n := 47) rfl rfl ?_
  intro W
  refine h_seq ?_
  refine h_reg ?_
  refine h_op (r_assign rfl) ?_
  refine h_op (r_assign rfl) ?_
  refine h_nil ?_
  refine q_then ?_
  refine h_seq ?_
  refine h_seq ?_
  refine h_reg ?_
  refine h_op (r_move rfl) ?_
  refine h_op (r_len rfl) ?_
  refine h_op (r_bool (r_eql rfl rfl) (decide_eq_false (by omega))) ?_
  refine h_nil ?_
  refine q_then ?_
  refine h_condF rfl ?_
  refine h_skip ?_
  refine q_then ?_
  refine h_seq ?_
  refine ha_start [.zone false h] [] mixed (same) ?_
  refine ha_takeP 0 rfl (r_move rfl) ?_
  refine ha_takeP 1 rfl (r_idx rfl rfl) ?_
  refine ha_take 2 rfl (r_nthr rfl (out := x.cells) (Item.cells_length x) hx) ?_
  refine ha_takeP 3 rfl (r_move rfl) ?_
  refine ha_takeP 4 rfl (r_as (r_slL rfl rfl) (show _ = Value.slice (cutA (some ⟨b, o, none⟩) c 1 97) r.length (c - 1) by rw [Nat.add_sub_cancel])) ?_
  refine ha_one 5 ?_
  refine ho_X 5 rfl (rk (x_alloc)) (fun _ => same) fun g6 => ?_
  refine ha_one 6 ?_
  refine ho_S 6 rfl (s_storer rfl rfl) (same) ?_
  refine ha_takeP 7 rfl (r_assign rfl) ?_
  refine ha_done (by kernel_rfl) ?_
  refine q_then ?_
  refine h_seq ?_
  refine h_seq ?_
  refine h_reg ?_
  refine h_op (r_field rfl) ?_
  refine h_op (r_loadc rfl) ?_
  refine h_op (r_bool (r_neq rfl rfl) (decide_eq_false (fun h => h hk))) ?_
  refine h_nil ?_
  refine q_then ?_
  refine h_condF rfl ?_
  refine h_skip ?_
  refine q_then ?_
  refine h_seq ?_
  refine h_seq ?_
  refine h_reg ?_
  refine h_op (r_move rfl) ?_
  refine h_op (r_bool (r_geq rfl rfl) (decide_eq_true (by omega))) ?_
  refine h_nil ?_
  refine q_then ?_
  refine h_condT rfl ?_
  refine h_seq ?_
  refine h_reg ?_
  refine h_op (r_assign rfl) ?_
  refine h_op (r_assign rfl) ?_
  refine h_nil ?_
  refine q_then ?_
  refine h_ret ?_
  refine q_thenR ?_
  exact h_ret2 rfl rfl rfl fun w s => ⟨(), rfl, s.res (List.nil_sublist _) (by simp)⟩
/-- what a call of read brings -/
def ReadS (d : Nat) (l : List Item) : Prop := ∀ (A : Option Addr) (c : Nat), RdZ h A (its l) → l.length ≤ c →
  match readM d l with
  | none => Spec Tryz.prog 194 [.slice A l.length c, .int .i64 (256 - (d : Int))].toArray [.zone false h] [] (fun _ : Unit => .tuple #[.nilIface, .slice none 0 0]) (fun _ => [])
  | some (t, r) => Spec Tryz.prog 194 [.slice A l.length c, .int .i64 (256 - (d : Int))].toArray [.zone false h] [] (fun y : {y : Option Addr × Nat // RdZ h y.1 (its r) ∧ r.length ≤ y.2} => .tuple #[.iface t.tag t.val, .slice y.1.1 r.length y.1.2]) (fun _ => [])
theorem read_no1 (x : Item) (r : List Item) (hk : x.kind = 2) (d : Nat) (hd : d < 256) (h1 : readM d r = none) (hS : ReadS h d r) (A : Option Addr) (c : Nat) [hr : RdZ h A (its (x :: r))] (hc : r.length + 1 ≤ c) : Spec Tryz.prog 194 [.slice A (r.length + 1) c, .int .i64 (256 - ((d + 1 : Nat) : Int))].toArray [.zone false h] [] (fun _ : Unit => .tuple #[.nilIface, .slice none 0 0]) (fun _ => []) := by
  have h0 : 0 < (its (x :: r)).length := by rw [its_len, List.length_cons]; omega
  have hT := hS _ _ (its_tail hr hc) (show r.length ≤ c - 1 by omega)
  rw [h1] at hT
  obtain ⟨b, o, rfl, -⟩ := hr.at_ 0 _ (List.getElem?_eq_getElem h0)
  have hx : ∀ j v, x.cells[j]? = some v → (its (x :: r))[0 + j]? = some v := fun j v hv => by rw [its_cons, Nat.zero_add, List.getElem?_append_left (List.getElem?_eq_some_iff.1 hv).1]; exact hv
  refine spec_of Tryz.func194 rfl (n := 47) rfl rfl ?_
  intro W
  refine h_seq ?_
  refine h_reg ?_
  refine h_op (r_assign rfl) ?_
  refine h_op (r_assign rfl) ?_
  refine h_nil ?_
  refine q_then ?_
  refine h_seq ?_
  refine h_seq ?_
  refine h_reg ?_
  refine h_op (r_move rfl) ?_
  refine h_op (r_len rfl) ?_
  refine h_op (r_bool (r_eql rfl rfl) (decide_eq_false (by omega))) ?_
  refine h_nil ?_
  refine q_then ?_
  refine h_condF rfl ?_
  refine h_skip ?_
  refine q_then ?_
  refine h_seq ?_
  refine ha_start [.zone false h] [] mixed (same) ?_
  refine ha_takeP 0 rfl (r_move rfl) ?_
  refine ha_takeP 1 rfl (r_idx rfl rfl) ?_
  refine ha_take 2 rfl (r_nthr rfl (out := x.cells) (Item.cells_length x) hx) ?_
  refine ha_takeP 3 rfl (r_move rfl) ?_
  refine ha_takeP 4 rfl (r_as (r_slL rfl rfl) (show _ = Value.slice (cutA (some ⟨b, o, none⟩) c 1 97) r.length (c - 1) by rw [Nat.add_sub_cancel])) ?_
  refine ha_one 5 ?_
  refine ho_X 5 rfl (rk (x_alloc)) (fun _ => same) fun g6 => ?_
  refine ha_one 6 ?_
  refine ho_S 6 rfl (s_storer rfl rfl) (same) ?_
  refine ha_takeP 7 rfl (r_assign rfl) ?_
  refine ha_done (by kernel_rfl) ?_
  refine q_then ?_
  refine h_seq ?_
  refine h_seq ?_
  refine h_reg ?_
  refine h_op (r_field rfl) ?_
  refine h_op (r_loadc rfl) ?_
  refine h_op (r_bool (r_neq rfl rfl) (decide_eq_false (fun h => h hk))) ?_
  refine h_nil ?_
  refine q_then ?_
  refine h_condF rfl ?_
  refine h_skip ?_
  refine q_then ?_
  refine h_seq ?_
  refine h_seq ?_
  refine h_reg ?_
  refine h_op (r_move rfl) ?_
  refine h_op (r_bool (r_geq rfl rfl) (decide_eq_false (by omega))) ?_
  refine h_nil ?_
  refine q_then ?_
  refine h_condF rfl ?_
  refine h_skip ?_
  refine q_then ?_
  refine h_seq ?_
  refine h_reg ?_
  refine h_opX (x_alloc) fun g8 => ?_
  refine h_nil ?_
  refine q_then ?_
  refine h_seq ?_
  refine h_seq ?_
  refine h_reg ?_
  refine h_op (r_move rfl) ?_
  refine h_nil ?_
  refine q_then ?_
  refine h_block ?_
  refine h_loop (fun (u : Unit) => True) (fun (u : Unit) => [(27, .int .i64 0), (8, .pointer (some ⟨g8, 0, none⟩)), (7, .slice (cutA (some ⟨b, o, none⟩) c 1 97) r.length (c - 1)), (1, .int .i64 (256 - ((d + 1 : Nat) : Int)))]) (fun (u : Unit) => [.blk g8 [.nilIface, .nilIface] 232, .zone false h]) (fun (u : Unit) => 0) () (trivial) ⟨rfl, rfl, rfl, rfl, trivial⟩ (same) ?_
  rintro ⟨⟩ -
  refine h_seq ?_
  refine h_reg ?_
  refine h_op (r_lss rfl rfl) ?_
  refine h_nil ?_
  refine q_then ?_
  refine h_seq ?_
  refine h_condT rfl ?_
  refine h_skip ?_
  refine q_then ?_
  refine h_seq ?_
  refine h_block ?_
  refine h_seq ?_
  refine h_reg ?_
  refine h_op (r_move rfl) ?_
  refine h_op (r_assign rfl) ?_
  refine h_nil ?_
  refine q_then ?_
  refine h_seq ?_
  refine h_reg ?_
  refine h_op (r_move rfl) ?_
  refine h_op (r_move rfl) ?_
  refine h_op (r_move rfl) ?_
  refine h_op (r_int (r_add rfl rfl) (show _ = 256 - (d : Int) by omega)) ?_
  refine h_call (hT.comes) rfl rfl rfl fun _ => ?_
  refine h_op (r_move rfl) ?_
  refine h_op (r_extract rfl rfl) ?_
  refine h_op (r_extract rfl rfl) ?_
  refine h_op (r_idxA rfl rfl) ?_
  refine h_opS (s_store rfl rfl rfl) ?_
  refine h_op (r_assign rfl) ?_
  refine h_nil ?_
  refine q_then ?_
  refine h_seq ?_
  refine h_reg ?_
  refine h_op (r_move rfl) ?_
  refine h_op (r_idxA rfl rfl) ?_
  refine h_op (r_loadc rfl) ?_
  refine h_op (r_nilnil rfl) ?_
  refine h_nil ?_
  refine q_then ?_
  refine h_condT rfl ?_
  refine h_seq ?_
  refine h_reg ?_
  refine h_op (r_assign rfl) ?_
  refine h_op (r_assign rfl) ?_
  refine h_nil ?_
  refine q_then ?_
  refine h_ret ?_
  refine q_blockR ?_
  refine q_thenR ?_
  refine q_thenR ?_
  refine q_blockR ?_
  refine q_thenR ?_
  exact h_ret2 rfl rfl rfl fun w s => ⟨(), rfl, s.res (List.nil_sublist _) (by simp)⟩
theorem read_no2 (x : Item) (r r1 : List Item) (t1 : Sub) (hk : x.kind = 2) (d : Nat) (hd : d < 256) (h1 : readM d r = some (t1, r1)) (h2 : readM d r1 = none) (hS : ReadS h d r) (hS1 : ReadS h d r1) (A : Option Addr) (c : Nat) [hr : RdZ h A (its (x :: r))] (hc : r.length + 1 ≤ c) : Spec Tryz.prog 194 [.slice A (r.length + 1) c, .int .i64 (256 - ((d + 1 : Nat) : Int))].toArray [.zone false h] [] (fun _ : Unit => .tuple #[.nilIface, .slice none 0 0]) (fun _ => []) := by
  have hT2 : ∀ A c, RdZ h A (its r1) → r1.length ≤ c → Spec Tryz.prog 194 [.slice A r1.length c, .int .i64 (256 - (d : Int))].toArray [.zone false h] [] (fun _ : Unit => .tuple #[.nilIface, .slice none 0 0]) (fun _ => []) := fun A c a b => by
    have := hS1 A c a b
    rw [h2] at this
    exact this
  have h0 : 0 < (its (x :: r)).length := by rw [its_len, List.length_cons]; omega
  have hz0 := its_tail hr hc
  have hT1 : ∀ A c, RdZ h A (its r) → r.length ≤ c → Spec Tryz.prog 194 [.slice A r.length c, .int .i64 (256 - (d : Int))].toArray [.zone false h] [] (fun y : {y : Option Addr × Nat // RdZ h y.1 (its r1) ∧ r1.length ≤ y.2} => .tuple #[.iface t1.tag t1.val, .slice y.1.1 r1.length y.1.2]) (fun _ => []) := fun A c a b => by
    have := hS A c a b
    rw [h1] at this
    exact this
  obtain ⟨b, o, rfl, -⟩ := hr.at_ 0 _ (List.getElem?_eq_getElem h0)
  have hx : ∀ j v, x.cells[j]? = some v → (its (x :: r))[0 + j]? = some v := fun j v hv => by rw [its_cons, Nat.zero_add, List.getElem?_append_left (List.getElem?_eq_some_iff.1 hv).1]; exact hv
  refine spec_of Tryz.func194 rfl (n := 47) rfl rfl ?_
  intro W
  refine h_seq ?_
  refine h_reg ?_
  refine h_op (r_assign rfl) ?_
  refine h_op (r_assign rfl) ?_
  refine h_nil ?_
  refine q_then ?_
  refine h_seq ?_
  refine h_seq ?_
  refine h_reg ?_
  refine h_op (r_move rfl) ?_
  refine h_op (r_len rfl) ?_
  refine h_op (r_bool (r_eql rfl rfl) (decide_eq_false (by omega))) ?_
  refine h_nil ?_
  refine q_then ?_
  refine h_condF rfl ?_
  refine h_skip ?_
  refine q_then ?_
  refine h_seq ?_
  refine ha_start [.zone false h] [] mixed (same) ?_
  refine ha_takeP 0 rfl (r_move rfl) ?_
  refine ha_takeP 1 rfl (r_idx rfl rfl) ?_
  refine ha_take 2 rfl (r_nthr rfl (out := x.cells) (Item.cells_length x) hx) ?_
  refine ha_takeP 3 rfl (r_move rfl) ?_
  refine ha_takeP 4 rfl (r_as (r_slL rfl rfl) (show _ = Value.slice (cutA (some ⟨b, o, none⟩) c 1 97) r.length (c - 1) by rw [Nat.add_sub_cancel])) ?_
  refine ha_one 5 ?_
  refine ho_X 5 rfl (rk (x_alloc)) (fun _ => same) fun g6 => ?_
  refine ha_one 6 ?_
  refine ho_S 6 rfl (s_storer rfl rfl) (same) ?_
  refine ha_takeP 7 rfl (r_assign rfl) ?_
  refine ha_done (by kernel_rfl) ?_
  refine q_then ?_
  refine h_seq ?_
  refine h_seq ?_
  refine h_reg ?_
  refine h_op (r_field rfl) ?_
  refine h_op (r_loadc rfl) ?_
  refine h_op (r_bool (r_neq rfl rfl) (decide_eq_false (fun h => h hk))) ?_
  refine h_nil ?_
  refine q_then ?_
  refine h_condF rfl ?_
  refine h_skip ?_
  refine q_then ?_
  refine h_seq ?_
  refine h_seq ?_
  refine h_reg ?_
  refine h_op (r_move rfl) ?_
  refine h_op (r_bool (r_geq rfl rfl) (decide_eq_false (by omega))) ?_
  refine h_nil ?_
  refine q_then ?_
  refine h_condF rfl ?_
  refine h_skip ?_
  refine q_then ?_
  refine h_seq ?_
  refine h_reg ?_
  refine h_opX (x_alloc) fun g8 => ?_
  refine h_nil ?_
  refine q_then ?_
  refine h_seq ?_
  refine h_seq ?_
  refine h_reg ?_
  refine h_op (r_move rfl) ?_
  refine h_nil ?_
  refine q_then ?_
  refine h_block ?_
  refine h_loop (fun (s : Nat × Value × List Item × Option Addr × Nat) => (s.1 = 0 ∧ s.2.1 = .nilIface ∧ s.2.2.1 = r ∧ RdZ h s.2.2.2.1 (its r) ∧ r.length ≤ s.2.2.2.2) ∨ (s.1 = 1 ∧ s.2.1 = .iface t1.tag t1.val ∧ s.2.2.1 = r1 ∧ RdZ h s.2.2.2.1 (its r1) ∧ r1.length ≤ s.2.2.2.2)) (fun (s : Nat × Value × List Item × Option Addr × Nat) => [(27, .int .i64 (s.1 : Int)), (8, .pointer (some ⟨g8, 0, none⟩)), (7, .slice s.2.2.2.1 s.2.2.1.length s.2.2.2.2), (1, .int .i64 (256 - ((d + 1 : Nat) : Int)))]) (fun (s : Nat × Value × List Item × Option Addr × Nat) => [.blk g8 [s.2.1, .nilIface] 232, .zone false h]) (fun (s : Nat × Value × List Item × Option Addr × Nat) => 2 - s.1) (0, .nilIface, r, cutA (some ⟨b, o, none⟩) c 1 97, c - 1) ((.inl ⟨rfl, rfl, rfl, hz0, (show r.length ≤ c - 1 by omega)⟩)) ⟨rfl, rfl, rfl, rfl, trivial⟩ (same) ?_
  rintro ⟨i, v1, l, Ar, cr⟩ hp
  dsimp only at hp ⊢
  rcases hp with ⟨rfl, rfl, rfl, hz, hcr⟩ | ⟨rfl, rfl, rfl, hz, hcr⟩
  · refine h_seq ?_
    refine h_reg ?_
    refine h_op (r_lss rfl rfl) ?_
    refine h_nil ?_
    refine q_then ?_
    refine h_seq ?_
    refine h_condT rfl ?_
    refine h_skip ?_
    refine q_then ?_
    refine h_seq ?_
    refine h_block ?_
    refine h_seq ?_
    refine h_reg ?_
    refine h_op (r_move rfl) ?_
    refine h_op (r_assign rfl) ?_
    refine h_nil ?_
    refine q_then ?_
    refine h_seq ?_
    refine h_reg ?_
    refine h_op (r_move rfl) ?_
    refine h_op (r_move rfl) ?_
    refine h_op (r_move rfl) ?_
    refine h_op (r_int (r_add rfl rfl) (show _ = 256 - (d : Int) by omega)) ?_
    refine h_call ((hT1 Ar cr hz hcr).comes) rfl rfl rfl fun ⟨⟨A1, c1⟩, hz1, hc1⟩ => ?_
    dsimp only at hz1 hc1 ⊢
    refine h_op (r_move rfl) ?_
    refine h_op (r_extract rfl rfl) ?_
    refine h_op (r_extract rfl rfl) ?_
    refine h_op (r_idxA rfl rfl) ?_
    refine h_opS (s_store rfl rfl rfl) ?_
    refine h_op (r_assign rfl) ?_
    refine h_nil ?_
    refine q_then ?_
    refine h_seq ?_
    refine h_reg ?_
    refine h_op (r_move rfl) ?_
    refine h_op (r_idxA rfl rfl) ?_
    refine h_op (r_loadc rfl) ?_
    refine h_op (r_ifnil rfl) ?_
    refine h_nil ?_
    refine q_then ?_
    refine h_condF rfl ?_
    refine h_skip ?_
    refine q_block ?_
    refine q_then ?_
    refine h_reg ?_
    refine h_op (r_add rfl rfl) ?_
    refine h_op (r_move rfl) ?_
    refine h_nil ?_
    exact h_back (1, .iface t1.tag t1.val, r1, A1, c1) ((.inr ⟨rfl, rfl, rfl, hz1, hc1⟩)) ((show 2 - 1 < 2 - 0 by omega)) ⟨rfl, rfl, rfl, rfl, trivial⟩ (same)
  · refine h_seq ?_
    refine h_reg ?_
    refine h_op (r_lss rfl rfl) ?_
    refine h_nil ?_
    refine q_then ?_
    refine h_seq ?_
    refine h_condT rfl ?_
    refine h_skip ?_
    refine q_then ?_
    refine h_seq ?_
    refine h_block ?_
    refine h_seq ?_
    refine h_reg ?_
    refine h_op (r_move rfl) ?_
    refine h_op (r_assign rfl) ?_
    refine h_nil ?_
    refine q_then ?_
    refine h_seq ?_
    refine h_reg ?_
    refine h_op (r_move rfl) ?_
    refine h_op (r_move rfl) ?_
    refine h_op (r_move rfl) ?_
    refine h_op (r_int (r_add rfl rfl) (show _ = 256 - (d : Int) by omega)) ?_
    refine h_call ((hT2 Ar cr hz hcr).comes) rfl rfl rfl fun _ => ?_
    refine h_op (r_move rfl) ?_
    refine h_op (r_extract rfl rfl) ?_
    refine h_op (r_extract rfl rfl) ?_
    refine h_op (r_idxA rfl rfl) ?_
    refine h_opS (s_store rfl rfl rfl) ?_
    refine h_op (r_assign rfl) ?_
    refine h_nil ?_
    refine q_then ?_
    refine h_seq ?_
    refine h_reg ?_
    refine h_op (r_move rfl) ?_
    refine h_op (r_idxA rfl rfl) ?_
    refine h_op (r_loadc rfl) ?_
    refine h_op (r_nilnil rfl) ?_
    refine h_nil ?_
    refine q_then ?_
    refine h_condT rfl ?_
    refine h_seq ?_
    refine h_reg ?_
    refine h_op (r_assign rfl) ?_
    refine h_op (r_assign rfl) ?_
    refine h_nil ?_
    refine q_then ?_
    refine h_ret ?_
    refine q_blockR ?_
    refine q_thenR ?_
    refine q_thenR ?_
    refine q_blockR ?_
    refine q_thenR ?_
    exact h_ret2 rfl rfl rfl fun w s => ⟨(), rfl, s.res (List.nil_sublist _) (by simp)⟩
theorem read_yes2 (x : Item) (r r1 r2 : List Item) (t1 t2 : Sub) (hk : x.kind = 2) (d : Nat) (hd : d < 256) (h1 : readM d r = some (t1, r1)) (h2 : readM d r1 = some (t2, r2)) (hS : ReadS h d r) (hS1 : ReadS h d r1) (A : Option Addr) (c : Nat) [hr : RdZ h A (its (x :: r))] (hc : r.length + 1 ≤ c) : Spec Tryz.prog 194 [.slice A (r.length + 1) c, .int .i64 (256 - ((d + 1 : Nat) : Int))].toArray [.zone false h] [] (fun y : {y : Option Addr × Nat // RdZ h y.1 (its r2) ∧ r2.length ≤ y.2} => .tuple #[.iface (Sub.two t1 t2).tag (Sub.two t1 t2).val, .slice y.1.1 r2.length y.1.2]) (fun _ => []) := by
  have hT2 : ∀ A c, RdZ h A (its r1) → r1.length ≤ c → Spec Tryz.prog 194 [.slice A r1.length c, .int .i64 (256 - (d : Int))].toArray [.zone false h] [] (fun y : {y : Option Addr × Nat // RdZ h y.1 (its r2) ∧ r2.length ≤ y.2} => .tuple #[.iface t2.tag t2.val, .slice y.1.1 r2.length y.1.2]) (fun _ => []) := fun A c a b => by
    have := hS1 A c a b
    rw [h2] at this
    exact this
  have h0 : 0 < (its (x :: r)).length := by rw [its_len, List.length_cons]; omega
  have hz0 := its_tail hr hc
  have hT1 : ∀ A c, RdZ h A (its r) → r.length ≤ c → Spec Tryz.prog 194 [.slice A r.length c, .int .i64 (256 - (d : Int))].toArray [.zone false h] [] (fun y : {y : Option Addr × Nat // RdZ h y.1 (its r1) ∧ r1.length ≤ y.2} => .tuple #[.iface t1.tag t1.val, .slice y.1.1 r1.length y.1.2]) (fun _ => []) := fun A c a b => by
    have := hS A c a b
    rw [h1] at this
    exact this
  obtain ⟨b, o, rfl, -⟩ := hr.at_ 0 _ (List.getElem?_eq_getElem h0)
  have hx : ∀ j v, x.cells[j]? = some v → (its (x :: r))[0 + j]? = some v := fun j v hv => by rw [its_cons, Nat.zero_add, List.getElem?_append_left (List.getElem?_eq_some_iff.1 hv).1]; exact hv
  refine spec_of Tryz.func194 rfl (n := 47) rfl rfl ?_
  intro W
  refine h_seq ?_
  refine h_reg ?_
  refine h_op (r_assign rfl) ?_
  refine h_op (r_assign rfl) ?_
  refine h_nil ?_
  refine q_then ?_
  refine h_seq ?_
  refine h_seq ?_
  refine h_reg ?_
  refine h_op (r_move rfl) ?_
  refine h_op (r_len rfl) ?_
  refine h_op (r_bool (r_eql rfl rfl) (decide_eq_false (by omega))) ?_
  refine h_nil ?_
  refine q_then ?_
  refine h_condF rfl ?_
  refine h_skip ?_
  refine q_then ?_
  refine h_seq ?_
  refine ha_start [.zone false h] [] mixed (same) ?_
  refine ha_takeP 0 rfl (r_move rfl) ?_
  refine ha_takeP 1 rfl (r_idx rfl rfl) ?_
  refine ha_take 2 rfl (r_nthr rfl (out := x.cells) (Item.cells_length x) hx) ?_
  refine ha_takeP 3 rfl (r_move rfl) ?_
  refine ha_takeP 4 rfl (r_as (r_slL rfl rfl) (show _ = Value.slice (cutA (some ⟨b, o, none⟩) c 1 97) r.length (c - 1) by rw [Nat.add_sub_cancel])) ?_
  refine ha_one 5 ?_
  refine ho_X 5 rfl (rk (x_alloc)) (fun _ => same) fun g6 => ?_
  refine ha_one 6 ?_
  refine ho_S 6 rfl (s_storer rfl rfl) (same) ?_
  refine ha_takeP 7 rfl (r_assign rfl) ?_
  refine ha_done (by kernel_rfl) ?_
  refine q_then ?_
  refine h_seq ?_
  refine h_seq ?_
  refine h_reg ?_
  refine h_op (r_field rfl) ?_
  refine h_op (r_loadc rfl) ?_
  refine h_op (r_bool (r_neq rfl rfl) (decide_eq_false (fun h => h hk))) ?_
  refine h_nil ?_
  refine q_then ?_
  refine h_condF rfl ?_
  refine h_skip ?_
  refine q_then ?_
  refine h_seq ?_
  refine h_seq ?_
  refine h_reg ?_
  refine h_op (r_move rfl) ?_
  refine h_op (r_bool (r_geq rfl rfl) (decide_eq_false (by omega))) ?_
  refine h_nil ?_
  refine q_then ?_
  refine h_condF rfl ?_
  refine h_skip ?_
  refine q_then ?_
  refine h_seq ?_
  refine h_reg ?_
  refine h_opX (x_alloc) fun g8 => ?_
  refine h_nil ?_
  refine q_then ?_
  refine h_seq ?_
  refine h_seq ?_
  refine h_reg ?_
  refine h_op (r_move rfl) ?_
  refine h_nil ?_
  refine q_then ?_
  refine h_block ?_
  refine h_loop (fun (s : Nat × (Value × Value) × List Item × Option Addr × Nat) => (s.1 = 0 ∧ s.2.1 = (.nilIface, .nilIface) ∧ s.2.2.1 = r ∧ RdZ h s.2.2.2.1 (its r) ∧ r.length ≤ s.2.2.2.2) ∨ (s.1 = 1 ∧ s.2.1 = (.iface t1.tag t1.val, .nilIface) ∧ s.2.2.1 = r1 ∧ RdZ h s.2.2.2.1 (its r1) ∧ r1.length ≤ s.2.2.2.2) ∨ (s.1 = 2 ∧ s.2.1 = (.iface t1.tag t1.val, .iface t2.tag t2.val) ∧ s.2.2.1 = r2 ∧ RdZ h s.2.2.2.1 (its r2) ∧ r2.length ≤ s.2.2.2.2)) (fun (s : Nat × (Value × Value) × List Item × Option Addr × Nat) => [(27, .int .i64 (s.1 : Int)), (8, .pointer (some ⟨g8, 0, none⟩)), (7, .slice s.2.2.2.1 s.2.2.1.length s.2.2.2.2), (1, .int .i64 (256 - ((d + 1 : Nat) : Int)))]) (fun (s : Nat × (Value × Value) × List Item × Option Addr × Nat) => [.blk g8 [s.2.1.1, s.2.1.2] 232, .zone false h]) (fun (s : Nat × (Value × Value) × List Item × Option Addr × Nat) => 2 - s.1) (0, (.nilIface, .nilIface), r, cutA (some ⟨b, o, none⟩) c 1 97, c - 1) ((.inl ⟨rfl, rfl, rfl, hz0, (show r.length ≤ c - 1 by omega)⟩)) ⟨rfl, rfl, rfl, rfl, trivial⟩ (same) ?_
  rintro ⟨i, v1, l, Ar, cr⟩ hp
  dsimp only at hp ⊢
  rcases hp with ⟨rfl, rfl, rfl, hz, hcr⟩ | ⟨rfl, rfl, rfl, hz, hcr⟩ | ⟨rfl, rfl, rfl, hz, hcr⟩
  · refine h_seq ?_
    refine h_reg ?_
    refine h_op (r_lss rfl rfl) ?_
    refine h_nil ?_
    refine q_then ?_
    refine h_seq ?_
    refine h_condT rfl ?_
    refine h_skip ?_
    refine q_then ?_
    refine h_seq ?_
    refine h_block ?_
    refine h_seq ?_
    refine h_reg ?_
    refine h_op (r_move rfl) ?_
    refine h_op (r_assign rfl) ?_
    refine h_nil ?_
    refine q_then ?_
    refine h_seq ?_
    refine h_reg ?_
    refine h_op (r_move rfl) ?_
    refine h_op (r_move rfl) ?_
    refine h_op (r_move rfl) ?_
    refine h_op (r_int (r_add rfl rfl) (show _ = 256 - (d : Int) by omega)) ?_
    refine h_call ((hT1 Ar cr hz hcr).comes) rfl rfl rfl fun ⟨⟨A1, c1⟩, hz1, hc1⟩ => ?_
    dsimp only at hz1 hc1 ⊢
    refine h_op (r_move rfl) ?_
    refine h_op (r_extract rfl rfl) ?_
    refine h_op (r_extract rfl rfl) ?_
    refine h_op (r_idxA rfl rfl) ?_
    refine h_opS (s_store rfl rfl rfl) ?_
    refine h_op (r_assign rfl) ?_
    refine h_nil ?_
    refine q_then ?_
    refine h_seq ?_
    refine h_reg ?_
    refine h_op (r_move rfl) ?_
    refine h_op (r_idxA rfl rfl) ?_
    refine h_op (r_loadc rfl) ?_
    refine h_op (r_ifnil rfl) ?_
    refine h_nil ?_
    refine q_then ?_
    refine h_condF rfl ?_
    refine h_skip ?_
    refine q_block ?_
    refine q_then ?_
    refine h_reg ?_
    refine h_op (r_add rfl rfl) ?_
    refine h_op (r_move rfl) ?_
    refine h_nil ?_
    exact h_back (1, (.iface t1.tag t1.val, .nilIface), r1, A1, c1) ((.inr (.inl ⟨rfl, rfl, rfl, hz1, hc1⟩))) ((show 2 - 1 < 2 - 0 by omega)) ⟨rfl, rfl, rfl, rfl, trivial⟩ (same)
  · refine h_seq ?_
    refine h_reg ?_
    refine h_op (r_lss rfl rfl) ?_
    refine h_nil ?_
    refine q_then ?_
    refine h_seq ?_
    refine h_condT rfl ?_
    refine h_skip ?_
    refine q_then ?_
    refine h_seq ?_
    refine h_block ?_
    refine h_seq ?_
    refine h_reg ?_
    refine h_op (r_move rfl) ?_
    refine h_op (r_assign rfl) ?_
    refine h_nil ?_
    refine q_then ?_
    refine h_seq ?_
    refine h_reg ?_
    refine h_op (r_move rfl) ?_
    refine h_op (r_move rfl) ?_
    refine h_op (r_move rfl) ?_
    refine h_op (r_int (r_add rfl rfl) (show _ = 256 - (d : Int) by omega)) ?_
    refine h_call ((hT2 Ar cr hz hcr).comes) rfl rfl rfl fun ⟨⟨A1, c1⟩, hz1, hc1⟩ => ?_
    dsimp only at hz1 hc1 ⊢
    refine h_op (r_move rfl) ?_
    refine h_op (r_extract rfl rfl) ?_
    refine h_op (r_extract rfl rfl) ?_
    refine h_op (r_idxA rfl rfl) ?_
    refine h_opS (s_store rfl rfl rfl) ?_
    refine h_op (r_assign rfl) ?_
    refine h_nil ?_
    refine q_then ?_
    refine h_seq ?_
    refine h_reg ?_
    refine h_op (r_move rfl) ?_
    refine h_op (r_idxA rfl rfl) ?_
    refine h_op (r_loadc rfl) ?_
    refine h_op (r_ifnil rfl) ?_
    refine h_nil ?_
    refine q_then ?_
    refine h_condF rfl ?_
    refine h_skip ?_
    refine q_block ?_
    refine q_then ?_
    refine h_reg ?_
    refine h_op (r_add rfl rfl) ?_
    refine h_op (r_move rfl) ?_
    refine h_nil ?_
    exact h_back (2, (.iface t1.tag t1.val, .iface t2.tag t2.val), r2, A1, c1) ((.inr (.inr ⟨rfl, rfl, rfl, hz1, hc1⟩))) ((show 2 - 2 < 2 - 1 by omega)) ⟨rfl, rfl, rfl, rfl, trivial⟩ (same)
  · refine h_seq ?_
    refine h_reg ?_
    refine h_op (r_lss rfl rfl) ?_
    refine h_nil ?_
    refine q_then ?_
    refine h_seq ?_
    refine h_condF rfl ?_
    refine h_exit ?_
    refine q_thenE ?_
    refine q_thenE ?_
    refine q_blockE ?_
    refine q_then ?_
    refine h_seq ?_
    refine h_reg ?_
    refine h_op (r_loadr rfl) ?_
    refine h_op (r_mkI rfl) ?_
    refine h_op (r_move rfl) ?_
    refine h_op (r_assign rfl) ?_
    refine h_op (r_assign rfl) ?_
    refine h_nil ?_
    refine q_then ?_
    refine h_ret ?_
    exact h_ret2 rfl rfl rfl fun w s => ⟨⟨(Ar, cr), hz, hcr⟩, rfl, s.res (List.nil_sublist _) (by simp)⟩
theorem read_all : ∀ (d : Nat), d ≤ 256 → ∀ l : List Item, ReadS h d l
  | d, hd, [] => fun A c _ _ => by
    have : readM d [] = none := by cases d <;> rfl
    rw [this]
    exact read_nil h A c _
  | 0, hd, x :: r => fun A c hr hc => by
    unfold readM
    by_cases hk : x.kind = 2
    · rw [if_pos hk]
      exact read_deep h x r hk A c _ (by simp) hc
    · rw [if_neg hk]
      intro w hw hR
      exact (read_one h x r hk A c _ (hr := hr) hc w hw hR).mono fun e w' ⟨_, e1, e2⟩ => ⟨⟨(cutA A c 1 97, c - 1), its_tail hr hc, by have : r.length + 1 ≤ c := hc; dsimp only; omega⟩, e1, e2⟩
  | d + 1, hd, x :: r => fun A c hr hc => by
    have ih := fun l => read_all d (by omega) l
    unfold readM
    by_cases hk : x.kind = 2
    · rw [if_pos hk]
      cases h1 : readM d r with
      | none => exact read_no1 h x r hk d (by omega) h1 (ih r) A c hc
      | some p =>
        obtain ⟨t1, r1⟩ := p
        show match (readM d r1).bind fun q => some (Sub.two t1 q.1, q.2) with | none => _ | some (t, r) => _
        cases h2 : readM d r1 with
        | none => exact read_no2 h x r r1 t1 hk d (by omega) h1 h2 (ih r) (ih r1) A c hc
        | some q =>
          obtain ⟨t2, r2⟩ := q
          exact read_yes2 h x r r1 r2 t1 t2 hk d (by omega) h1 h2 (ih r) (ih r1) A c hc
    · rw [if_neg hk]
      intro w hw hR
      exact (read_one h x r hk A c _ (hr := hr) hc w hw hR).mono fun e w' ⟨_, e1, e2⟩ => ⟨⟨(cutA A c 1 97, c - 1), its_tail hr hc, by have : r.length + 1 ≤ c := hc; dsimp only; omega⟩, e1, e2⟩
end
end Go.Proofs.YtjhocljhhpkiiaaGreatDoor
/- TI -/
namespace Go.Proofs.YtjhocljhhpkiiaaGreatDoor
set_option linter.unusedSimpArgs false
set_option linter.unusedVariables false
open Go.RowKit Go.ChangeShapes Go.WideShapes
section
variable {H : Type} {enc : TypeId × Value → H} {w : World} {base : Nat} {spare : Nat → Bool} {held : Bool} {v : Value} {d : DataW H} {ps : List MemPlace} {r : Reach} {b0 : Nat}
instance : Inhabited Item := ⟨zItem⟩
set_option maxRecDepth 100000 in
theorem openKeys (hval : Value.okWide Tryz.prog w r b0 104 v) (hd : DataW.Trod enc Tryz.prog w base spare held 104 v d ps) :
    ∃ (l : List B32) (A : Option Addr) (cap : Nat), v = .slice A l.length cap ∧ l.length ≤ cap ∧ RdZ (World.zh w) A (dgs l) ∧ cap ≤ 9223372036854775807 := by
  have : Inhabited B32 := ⟨zB32⟩
  obtain ⟨l, A, c, h1, h4, h5, -, h2, -⟩ := open_rows (f := fun y : B32 => y.cells) B32.cells_length (by omega) Tryz.underlying104 c_Key (fun _ => True) (fun fuel cs x h => (dec_B32 Tryz.underlying35 c_Key Tryz.underlying5 c_u8 h).imp fun _ h => ⟨h, trivial⟩) hval hd
  exact ⟨l, A, c, h1, h4, RdZ.of h2, by have : maxLen ≤ 9223372036854775807 := by decide
                                        omega⟩
end
end Go.Proofs.YtjhocljhhpkiiaaGreatDoor
/- U26p -/
namespace Go.Proofs.YtjhocljhhpkiiaaGreatDoor
set_option linter.unusedSimpArgs false
set_option linter.unusedVariables false
open Go.RowKit
end Go.Proofs.YtjhocljhhpkiiaaGreatDoor
/- U23 -/
namespace Go.Proofs.YtjhocljhhpkiiaaGreatDoor
set_option linter.unusedSimpArgs false
set_option linter.unusedVariables false
open Go.RowKit
end Go.Proofs.YtjhocljhhpkiiaaGreatDoor
/- U26 -/
namespace Go.Proofs.YtjhocljhhpkiiaaGreatDoor
set_option linter.unusedSimpArgs false
set_option linter.unusedVariables false
open Go.RowKit
end Go.Proofs.YtjhocljhhpkiiaaGreatDoor
/- U97 -/
namespace Go.Proofs.YtjhocljhhpkiiaaGreatDoor
set_option linter.unusedSimpArgs false
set_option linter.unusedVariables false
open Go.RowKit
end Go.Proofs.YtjhocljhhpkiiaaGreatDoor
/- U96 -/
namespace Go.Proofs.YtjhocljhhpkiiaaGreatDoor
set_option linter.unusedSimpArgs false
set_option linter.unusedVariables false
open Go.RowKit
theorem r_ifnn {P : Program} {n : Nat} {D : List Deferred} {E : Env} {L : List Fa} {T T' : TypeId} {t : Nat} {u : TypeId} {v : Value} [hT : TIf P T] (hx : ev E (.tmp t) = some (.iface u v)) : Runs0 P n D E L (.binOp .neq T (.tmp t) (.const .nilIface) T') (.bool true) := fun a w ka s o ho =>
  run_bin ho (ka.ev hx) (v := .nilIface) rfl rfl (run_neq_held_nil w T u v hT.und)
theorem r_nilnn {P : Program} {n : Nat} {D : List Deferred} {E : Env} {L : List Fa} {T T' : TypeId} {t : Nat} [hT : TIf P T] (hx : ev E (.tmp t) = some .nilIface) : Runs0 P n D E L (.binOp .neq T (.tmp t) (.const .nilIface) T') (.bool false) := fun a w ka s o ho =>
  run_bin ho (ka.ev hx) (v := .nilIface) rfl rfl (run_neq_nil_nil w T hT.und)
/-- the code of what is found -/
def errE : Option (Nat × Int) → Int
  | none => 0
  | some (_, e) => e
end Go.Proofs.YtjhocljhhpkiiaaGreatDoor
/- U45r -/
namespace Go.Proofs.YtjhocljhhpkiiaaGreatDoor
set_option linter.unusedSimpArgs false
set_option linter.unusedVariables false
open Go.RowKit
end Go.Proofs.YtjhocljhhpkiiaaGreatDoor
/- U23e -/
namespace Go.Proofs.YtjhocljhhpkiiaaGreatDoor
set_option linter.unusedSimpArgs false
set_option linter.unusedVariables false
open Go.RowKit
end Go.Proofs.YtjhocljhhpkiiaaGreatDoor
/- U21 -/
namespace Go.Proofs.YtjhocljhhpkiiaaGreatDoor
set_option linter.unusedSimpArgs false
set_option linter.unusedVariables false
open Go.RowKit
end Go.Proofs.YtjhocljhhpkiiaaGreatDoor
/- U22 -/
namespace Go.Proofs.YtjhocljhhpkiiaaGreatDoor
set_option linter.unusedSimpArgs false
set_option linter.unusedVariables false
open Go.RowKit
instance (m : List Fa) : TakeTl m m [] := ⟨by rw [List.append_nil]⟩
/-- rows that are somewhere, with these bytes -/
def SegsOk (ys : List Seg) (ls : List (List UInt8)) : Prop := ys.map (fun x => x.2.2) = ls ∧ ∀ x ∈ ys, ∃ g, x.1 = some ⟨g, 0, none⟩
theorem SegsOk.len {ys : List Seg} {ls : List (List UInt8)} (h : SegsOk ys ls) : ys.length = ls.length := by rw [← h.1, List.length_map]
end Go.Proofs.YtjhocljhhpkiiaaGreatDoor
/- U24p -/
namespace Go.Proofs.YtjhocljhhpkiiaaGreatDoor
set_option linter.unusedSimpArgs false
set_option linter.unusedVariables false
open Go.RowKit
theorem SegsOk.cons {xs : List Seg} {l : List UInt8} {ls : List (List UInt8)} (h : SegsOk xs (l :: ls)) : ∃ g c xs', xs = (some ⟨g, 0, none⟩, c, l) :: xs' ∧ SegsOk xs' ls := by
  obtain ⟨h1, h2⟩ := h
  cases xs with
  | nil => cases h1
  | cons x xs' =>
    rw [List.map_cons] at h1
    injection h1 with h3 h4
    obtain ⟨g, hg⟩ := h2 x (List.mem_cons_self ..)
    obtain ⟨A, c, l'⟩ := x
    simp only at h3 hg
    subst h3 hg
    exact ⟨g, c, xs', rfl, h4, fun y hy => h2 y (List.mem_cons_of_mem _ hy)⟩
instance (priority := 5) (N M : List Fa) : App N M (N ++ M) := ⟨rfl⟩
theorem SegsOk.at {xs : List Seg} {ls : List (List UInt8)} (h : SegsOk xs ls) {i : Nat} {l : List UInt8} (hl : ls[i]? = some l) : ∃ g c, xs[i]? = some (some ⟨g, 0, none⟩, c, l) := by
  rw [← h.1, List.getElem?_map] at hl
  obtain ⟨x, hx, e⟩ := Option.map_eq_some_iff.1 hl
  obtain ⟨g, hg⟩ := h.2 x (List.mem_of_getElem? hx)
  obtain ⟨A, c, l'⟩ := x
  simp only at e hg
  subst e hg
  exact ⟨g, c, hx⟩
end Go.Proofs.YtjhocljhhpkiiaaGreatDoor
/- U24 -/
namespace Go.Proofs.YtjhocljhhpkiiaaGreatDoor
set_option linter.unusedSimpArgs false
set_option linter.unusedVariables false
open Go.RowKit
end Go.Proofs.YtjhocljhhpkiiaaGreatDoor
/- U25 -/
namespace Go.Proofs.YtjhocljhhpkiiaaGreatDoor
set_option linter.unusedSimpArgs false
set_option linter.unusedVariables false
open Go.RowKit
end Go.Proofs.YtjhocljhhpkiiaaGreatDoor
/- U98 -/
namespace Go.Proofs.YtjhocljhhpkiiaaGreatDoor
set_option linter.unusedSimpArgs false
set_option linter.unusedVariables false
open Go.RowKit
end Go.Proofs.YtjhocljhhpkiiaaGreatDoor
/- U69 -/
namespace Go.Proofs.YtjhocljhhpkiiaaGreatDoor
set_option linter.unusedSimpArgs false
set_option linter.unusedVariables false
open Go.RowKit
instance iU69_1 : TCmp Tryz.prog 209 := ⟨fun args w => run_callFunc_extern Tryz.func209 (by kernel_rfl) (by kernel_rfl) (by kernel_rfl) (by kernel_rfl) args w⟩
theorem compare_eq : ∀ (a b : List UInt8), a.length = b.length → Lib.compareBytes a b = cmpL a b
  | [], [], _ => rfl
  | [], _ :: _, h => by cases h
  | _ :: _, [], h => by cases h
  | x :: a, y :: b, h => by
    unfold Lib.compareBytes cmpL
    rw [compare_eq a b (by simpa using h)]
theorem bCompare_s (a b : List UInt8) (hab : a.length = b.length) (A B : Option Addr) (c c' : Nat) : Spec Tryz.prog 164 [.slice A a.length c, .slice B b.length c'].toArray [.rd A (bc a), .rd B (bc b)] [] (fun _ : Unit => .int .i64 (cmpL a b)) (fun _ => []) := by
  rw [← compare_eq a b hab]
  refine spec_of Tryz.func164 rfl (n := 8) rfl rfl ?_
  intro W
  refine h_seq ?_
  refine h_reg ?_
  refine h_op (r_assign rfl) ?_
  refine h_nil ?_
  refine q_then ?_
  refine h_seq ?_
  refine h_reg ?_
  refine h_op (r_move rfl) ?_
  refine h_op (r_move rfl) ?_
  refine h_op (r_cmp rfl rfl) ?_
  refine h_op (r_assign rfl) ?_
  refine h_nil ?_
  refine q_then ?_
  refine h_ret ?_
  exact h_ret1 rfl rfl fun w s => ⟨(), rfl, s.res (List.nil_sublist _) (by simp)⟩
theorem kCompare_s (a b : B32) : Spec Tryz.prog 111 [.agg a.cells.toArray, .agg b.cells.toArray].toArray [] [] (fun _ : Unit => .int .i64 (cmpB a b)) (fun _ => []) := by
  have ha := a.2
  have hb := b.2
  have hC := fun A B => bCompare_s a.1 b.1 (by omega) A B 32 32
  rw [ha, hb] at hC
  refine spec_of Tryz.func111 rfl (n := 8) rfl rfl ?_
  intro W
  refine h_seq ?_
  refine h_reg ?_
  refine h_opX (x_box rfl) fun g2 => ?_
  refine h_opX (x_box rfl) fun g3 => ?_
  refine h_op (r_assign rfl) ?_
  refine h_nil ?_
  refine q_then ?_
  refine h_seq ?_
  refine ha_start [.blk g2 a.cells 35, .blk g3 b.cells 35] [] mixed (same) ?_
  refine ha_takeP 0 rfl (r_slA rfl) ?_
  refine ha_takeP 1 rfl (r_slA rfl) ?_
  refine ha_one 2 ?_
  refine ho_C 2 rfl ((hC (some ⟨g2, 0, none⟩) (some ⟨g3, 0, none⟩)).comes (hr := inferInstanceAs (Rds _ [.rd (some ⟨g2, 0, none⟩) a.cells, .rd (some ⟨g3, 0, none⟩) b.cells]))) rfl rfl rfl (fun xx => same) fun _ => ?_
  refine ha_takeP 3 rfl (r_assign rfl) ?_
  refine ha_done (by kernel_rfl) ?_
  refine q_then ?_
  refine h_ret ?_
  exact h_ret1 rfl rfl fun w s => ⟨(), rfl, s.res (List.nil_sublist _) (by simp)⟩
/-- what is wrong with the order of keys -/
def chkK : List B32 → Int
  | a :: b :: l => if cmpB a b = 0 then 9 else if 0 < cmpB a b then 8 else chkK (b :: l)
  | _ => 0
def keysE (l : List B32) : Int := if l.length = 0 then 10 else if 65535 < l.length then 11 else chkK l
theorem kCheck_s (l : List B32) (A : Option Addr) (c : Nat) (hl : l.length ≤ 1000000000) : Spec Tryz.prog 165 [.slice A l.length c].toArray [.rd A (dgs l)] [] (fun _ : Unit => .int .i64 (chkK l)) (fun _ => []) := by
  refine spec_of Tryz.func165 rfl (n := 27) rfl rfl ?_
  intro W
  refine h_seq ?_
  refine h_reg ?_
  refine h_op (r_assign rfl) ?_
  refine h_nil ?_
  refine q_then ?_
  refine h_seq ?_
  refine h_seq ?_
  refine h_reg ?_
  refine h_op (r_assign rfl) ?_
  refine h_nil ?_
  refine q_then ?_
  refine h_block ?_
  refine h_loop (fun (k : Nat) => 1 ≤ k ∧ (k = 1 ∨ k ≤ l.length) ∧ chkK l = chkK (l.drop (k - 1))) (fun (k : Nat) => [(3, .int .i64 (k : Int)), (0, .slice A l.length c)]) (fun (k : Nat) => [.rd A (dgs l)]) (fun (k : Nat) => l.length - k) 1 (⟨Nat.le_refl _, .inl rfl, rfl⟩) ⟨rfl, rfl, trivial⟩ (same) ?_
  rintro k ⟨hk1, hk2, he⟩
  refine h_seq ?_
  refine h_seq ?_
  refine h_reg ?_
  refine h_op (r_move rfl) ?_
  refine h_op (r_move rfl) ?_
  refine h_op (r_len rfl) ?_
  refine h_op (r_lss rfl rfl) ?_
  refine h_nil ?_
  refine q_then ?_
  refine h_cond rfl (fun hlt => ?_) (fun hlt => ?_)
  · obtain ⟨j, rfl⟩ : ∃ j, k = j + 1 := ⟨k - 1, by omega⟩
    have hj : j + 1 < l.length := by omega
    have hd : l.drop j = l.getD j zB32 :: l.drop (j + 1) := by rw [List.drop_eq_getElem_cons (by omega), List.getD_eq_getElem?_getD, List.getElem?_eq_getElem (by omega)]; rfl
    have hd2 : l.drop (j + 1) = l.getD (j + 1) zB32 :: l.drop (j + 1 + 1) := by rw [List.drop_eq_getElem_cons hj, List.getD_eq_getElem?_getD, List.getElem?_eq_getElem hj]; rfl
    rw [Nat.add_sub_cancel, hd, hd2, chkK, ← hd2] at he
    refine h_pure (φ := ∃ b o, A = some ⟨b, o, none⟩) (fun w s => Rd.some (s.ok (.rd A (dgs l)) (by simp)) (by rw [dgs_len]; omega)) ?_
    rintro ⟨b, o, rfl⟩
    have h1 := dgs_at (l := l) (k := j) (by omega)
    have h2 := dgs_at (l := l) (k := j + 1) hj
    refine h_skip ?_
    refine q_then ?_
    refine h_seq ?_
    refine h_block ?_
    refine h_seq ?_
    refine ha_start [.rd (some ⟨b, o, none⟩) (dgs l)] [] mixed (same) ?_
    refine ha_takeP 0 rfl (r_move rfl) ?_
    refine ha_takeP 1 rfl (r_move rfl) ?_
    refine ha_takeP 2 rfl (r_subN rfl rfl (m := j) (hm := by omega)) ?_
    refine ha_takeP 3 rfl (r_idx rfl rfl) ?_
    refine ha_take 4 rfl (r_nthr rfl (out := (l.getD j zB32).cells) (B32.cells_length _) h1) ?_
    refine ha_takeP 5 rfl (r_move rfl) ?_
    refine ha_takeP 6 rfl (r_move rfl) ?_
    refine ha_takeP 7 rfl (r_idx rfl rfl) ?_
    refine ha_take 8 rfl (r_nthr rfl (out := (l.getD (j + 1) zB32).cells) (B32.cells_length _) h2) ?_
    refine ha_one 9 ?_
    refine ho_C 9 rfl ((kCompare_s (l.getD j zB32) (l.getD (j + 1) zB32)).comes) rfl rfl rfl (fun xx => same) fun _ => ?_
    refine ha_takeP 10 rfl (r_assign rfl) ?_
    refine ha_done (by kernel_rfl) ?_
    refine q_then ?_
    refine h_block ?_
    refine h_seq ?_
    refine h_reg ?_
    refine h_op (r_move rfl) ?_
    refine h_op (r_eql rfl rfl) ?_
    refine h_op (r_assign rfl) ?_
    refine h_nil ?_
    refine q_then ?_
    refine h_cond rfl (fun h3 => ?_) (fun h3 => ?_)
    · rw [if_pos h3] at he
      rw [he]
      refine h_seq ?_
      refine h_reg ?_
      refine h_op (r_assign rfl) ?_
      refine h_nil ?_
      refine q_then ?_
      refine h_ret ?_
      refine q_blockR ?_
      refine q_blockR ?_
      refine q_thenR ?_
      refine q_thenR ?_
      refine q_blockR ?_
      refine q_thenR ?_
      exact h_ret1 rfl rfl fun w s => ⟨(), rfl, s.res (List.nil_sublist _) (by simp)⟩
    · rw [if_neg h3] at he
      refine h_seq ?_
      refine h_reg ?_
      refine h_op (r_move rfl) ?_
      refine h_op (r_gtr rfl rfl) ?_
      refine h_op (r_assign rfl) ?_
      refine h_nil ?_
      refine q_then ?_
      refine h_cond rfl (fun h4 => ?_) (fun h4 => ?_)
      · rw [if_pos h4] at he
        rw [he]
        refine h_seq ?_
        refine h_reg ?_
        refine h_op (r_assign rfl) ?_
        refine h_nil ?_
        refine q_then ?_
        refine h_ret ?_
        refine q_blockR ?_
        refine q_blockR ?_
        refine q_thenR ?_
        refine q_thenR ?_
        refine q_blockR ?_
        refine q_thenR ?_
        exact h_ret1 rfl rfl fun w s => ⟨(), rfl, s.res (List.nil_sublist _) (by simp)⟩
      · rw [if_neg h4] at he
        refine h_skip ?_
        refine q_block ?_
        refine q_block ?_
        refine q_then ?_
        refine h_reg ?_
        refine h_op (r_move rfl) ?_
        refine h_op (r_add rfl rfl) ?_
        refine h_op (r_assign rfl) ?_
        refine h_nil ?_
        exact h_back (j + 1 + 1) (⟨by omega, .inr (by omega), he⟩) (by omega) ⟨rfl, rfl, trivial⟩ (same)
  · have h0 : chkK l = 0 := by
      rw [he]
      have hlen : (l.drop (k - 1)).length ≤ 1 := by rw [List.length_drop]; omega
      match l.drop (k - 1), hlen with
      | [], _ => rfl
      | [_], _ => rfl
      | _ :: _ :: _, h => simp at h
    rw [h0]
    refine h_exit ?_
    refine q_thenE ?_
    refine q_thenE ?_
    refine q_blockE ?_
    refine q_then ?_
    refine h_seq ?_
    refine h_reg ?_
    refine h_op (r_assign rfl) ?_
    refine h_nil ?_
    refine q_then ?_
    refine h_ret ?_
    exact h_ret1 rfl rfl fun w s => ⟨(), rfl, s.res (List.nil_sublist _) (by simp)⟩
theorem rkCheck_s (l : List B32) (A : Option Addr) (c : Nat) (hl : l.length ≤ 1000000000) : Spec Tryz.prog 112 [.slice A l.length c].toArray [.rd A (dgs l)] [] (fun _ : Unit => .int .i64 (chkK l)) (fun _ => []) := by
  refine spec_of Tryz.func112 rfl (n := 25) rfl rfl ?_
  intro W
  refine h_seq ?_
  refine h_reg ?_
  refine h_op (r_assign rfl) ?_
  refine h_nil ?_
  refine q_then ?_
  refine h_seq ?_
  refine h_seq ?_
  refine h_reg ?_
  refine h_op (r_assign rfl) ?_
  refine h_nil ?_
  refine q_then ?_
  refine h_block ?_
  refine h_loop (fun (k : Nat) => 1 ≤ k ∧ (k = 1 ∨ k ≤ l.length) ∧ chkK l = chkK (l.drop (k - 1))) (fun (k : Nat) => [(3, .int .i64 (k : Int)), (0, .slice A l.length c)]) (fun (k : Nat) => [.rd A (dgs l)]) (fun (k : Nat) => l.length - k) 1 (⟨Nat.le_refl _, .inl rfl, rfl⟩) ⟨rfl, rfl, trivial⟩ (same) ?_
  rintro k ⟨hk1, hk2, he⟩
  refine h_seq ?_
  refine h_seq ?_
  refine h_reg ?_
  refine h_op (r_move rfl) ?_
  refine h_op (r_move rfl) ?_
  refine h_op (r_len rfl) ?_
  refine h_op (r_lss rfl rfl) ?_
  refine h_nil ?_
  refine q_then ?_
  refine h_cond rfl (fun hlt => ?_) (fun hlt => ?_)
  · obtain ⟨j, rfl⟩ : ∃ j, k = j + 1 := ⟨k - 1, by omega⟩
    have hj : j + 1 < l.length := by omega
    have hd : l.drop j = l.getD j zB32 :: l.drop (j + 1) := by rw [List.drop_eq_getElem_cons (by omega), List.getD_eq_getElem?_getD, List.getElem?_eq_getElem (by omega)]; rfl
    have hd2 : l.drop (j + 1) = l.getD (j + 1) zB32 :: l.drop (j + 1 + 1) := by rw [List.drop_eq_getElem_cons hj, List.getD_eq_getElem?_getD, List.getElem?_eq_getElem hj]; rfl
    rw [Nat.add_sub_cancel, hd, hd2, chkK, ← hd2] at he
    refine h_pure (φ := ∃ b o, A = some ⟨b, o, none⟩) (fun w s => Rd.some (s.ok (.rd A (dgs l)) (by simp)) (by rw [dgs_len]; omega)) ?_
    rintro ⟨b, o, rfl⟩
    have h1 := dgs_at (l := l) (k := j) (by omega)
    have h2 := dgs_at (l := l) (k := j + 1) hj
    refine h_skip ?_
    refine q_then ?_
    refine h_seq ?_
    refine h_block ?_
    refine h_seq ?_
    refine ha_start [.rd (some ⟨b, o, none⟩) (dgs l)] [] mixed (same) ?_
    refine ha_takeP 0 rfl (r_move rfl) ?_
    refine ha_takeP 1 rfl (r_move rfl) ?_
    refine ha_takeP 2 rfl (r_subN rfl rfl (m := j) (hm := by omega)) ?_
    refine ha_takeP 3 rfl (r_idx rfl rfl) ?_
    refine ha_take 4 rfl (r_nthr rfl (out := (l.getD j zB32).cells) (B32.cells_length _) h1) ?_
    refine ha_takeP 5 rfl (r_move rfl) ?_
    refine ha_takeP 6 rfl (r_move rfl) ?_
    refine ha_takeP 7 rfl (r_idx rfl rfl) ?_
    refine ha_take 8 rfl (r_nthr rfl (out := (l.getD (j + 1) zB32).cells) (B32.cells_length _) h2) ?_
    refine ha_one 9 ?_
    refine ho_C 9 rfl ((Compare_s (l.getD j zB32) (l.getD (j + 1) zB32)).comes) rfl rfl rfl (fun xx => same) fun _ => ?_
    refine ha_takeP 10 rfl (r_assign rfl) ?_
    refine ha_done (by kernel_rfl) ?_
    refine q_then ?_
    refine h_seq ?_
    refine h_seq ?_
    refine h_reg ?_
    refine h_op (r_move rfl) ?_
    refine h_op (r_eql rfl rfl) ?_
    refine h_nil ?_
    refine q_then ?_
    refine h_cond rfl (fun h3 => ?_) (fun h3 => ?_)
    · rw [if_pos h3] at he
      rw [he]
      refine h_seq ?_
      refine h_reg ?_
      refine h_op (r_assign rfl) ?_
      refine h_nil ?_
      refine q_then ?_
      refine h_ret ?_
      refine q_thenR ?_
      refine q_blockR ?_
      refine q_thenR ?_
      refine q_thenR ?_
      refine q_blockR ?_
      refine q_thenR ?_
      exact h_ret1 rfl rfl fun w s => ⟨(), rfl, s.res (List.nil_sublist _) (by simp)⟩
    · rw [if_neg h3] at he
      refine h_skip ?_
      refine q_then ?_
      refine h_seq ?_
      refine h_reg ?_
      refine h_op (r_move rfl) ?_
      refine h_op (r_gtr rfl rfl) ?_
      refine h_nil ?_
      refine q_then ?_
      refine h_cond rfl (fun h4 => ?_) (fun h4 => ?_)
      · rw [if_pos h4] at he
        rw [he]
        refine h_seq ?_
        refine h_reg ?_
        refine h_op (r_assign rfl) ?_
        refine h_nil ?_
        refine q_then ?_
        refine h_ret ?_
        refine q_blockR ?_
        refine q_thenR ?_
        refine q_thenR ?_
        refine q_blockR ?_
        refine q_thenR ?_
        exact h_ret1 rfl rfl fun w s => ⟨(), rfl, s.res (List.nil_sublist _) (by simp)⟩
      · rw [if_neg h4] at he
        refine h_skip ?_
        refine q_block ?_
        refine q_then ?_
        refine h_reg ?_
        refine h_op (r_move rfl) ?_
        refine h_op (r_add rfl rfl) ?_
        refine h_op (r_assign rfl) ?_
        refine h_nil ?_
        exact h_back (j + 1 + 1) (⟨by omega, .inr (by omega), he⟩) (by omega) ⟨rfl, rfl, trivial⟩ (same)
  · have h0 : chkK l = 0 := by
      rw [he]
      have hlen : (l.drop (k - 1)).length ≤ 1 := by rw [List.length_drop]; omega
      match l.drop (k - 1), hlen with
      | [], _ => rfl
      | [_], _ => rfl
      | _ :: _ :: _, h => simp at h
    rw [h0]
    refine h_exit ?_
    refine q_thenE ?_
    refine q_thenE ?_
    refine q_blockE ?_
    refine q_then ?_
    refine h_seq ?_
    refine h_reg ?_
    refine h_op (r_assign rfl) ?_
    refine h_nil ?_
    refine q_then ?_
    refine h_ret ?_
    exact h_ret1 rfl rfl fun w s => ⟨(), rfl, s.res (List.nil_sublist _) (by simp)⟩
theorem mKeys_s (l : List B32) (A : Option Addr) (c : Nat) (hl : l.length ≤ 9223372036854775807) : Spec Tryz.prog 113 [.slice A l.length c].toArray [.rd A (dgs l)] [] (fun _ : Unit => .int .i64 (keysE l)) (fun _ => []) := by
  unfold keysE
  refine spec_of Tryz.func113 rfl (n := 13) rfl rfl ?_
  intro W
  by_cases h0 : l.length = 0
  · rw [if_pos h0]
    refine h_seq ?_
    refine h_reg ?_
    refine h_op (r_assign rfl) ?_
    refine h_nil ?_
    refine q_then ?_
    refine h_seq ?_
    refine h_block ?_
    refine h_seq ?_
    refine h_reg ?_
    refine h_op (r_move rfl) ?_
    refine h_op (r_len rfl) ?_
    refine h_op (r_bool (r_eql rfl rfl) (decide_eq_true (by omega))) ?_
    refine h_op (r_assign rfl) ?_
    refine h_nil ?_
    refine q_then ?_
    refine h_condT rfl ?_
    refine h_seq ?_
    refine h_reg ?_
    refine h_op (r_assign rfl) ?_
    refine h_nil ?_
    refine q_then ?_
    refine h_ret ?_
    refine q_blockR ?_
    refine q_thenR ?_
    exact h_ret1 rfl rfl fun w s => ⟨(), rfl, s.res (List.nil_sublist _) (by simp)⟩
  · rw [if_neg h0]
    refine h_seq ?_
    refine h_reg ?_
    refine h_op (r_assign rfl) ?_
    refine h_nil ?_
    refine q_then ?_
    refine h_seq ?_
    refine h_block ?_
    refine h_seq ?_
    refine h_reg ?_
    refine h_op (r_move rfl) ?_
    refine h_op (r_len rfl) ?_
    refine h_op (r_bool (r_eql rfl rfl) (decide_eq_false (by omega))) ?_
    refine h_op (r_assign rfl) ?_
    refine h_nil ?_
    refine q_then ?_
    refine h_condF rfl ?_
    by_cases h1 : 65535 < l.length
    · rw [if_pos h1]
      refine h_seq ?_
      refine h_reg ?_
      refine h_op (r_move rfl) ?_
      refine h_op (r_len rfl) ?_
      refine h_op (r_bool (r_gtr rfl rfl) (decide_eq_true (by omega))) ?_
      refine h_op (r_assign rfl) ?_
      refine h_nil ?_
      refine q_then ?_
      refine h_condT rfl ?_
      refine h_seq ?_
      refine h_reg ?_
      refine h_op (r_assign rfl) ?_
      refine h_nil ?_
      refine q_then ?_
      refine h_ret ?_
      refine q_blockR ?_
      refine q_thenR ?_
      exact h_ret1 rfl rfl fun w s => ⟨(), rfl, s.res (List.nil_sublist _) (by simp)⟩
    · rw [if_neg h1]
      refine h_seq ?_
      refine h_reg ?_
      refine h_op (r_move rfl) ?_
      refine h_op (r_len rfl) ?_
      refine h_op (r_bool (r_gtr rfl rfl) (decide_eq_false (by omega))) ?_
      refine h_op (r_assign rfl) ?_
      refine h_nil ?_
      refine q_then ?_
      refine h_condF rfl ?_
      refine h_skip ?_
      refine q_block ?_
      refine q_then ?_
      refine h_seq ?_
      refine h_reg ?_
      refine h_op (r_move rfl) ?_
      refine h_call ((kCheck_s l A c (by omega)).comes) rfl rfl rfl fun _ => ?_
      refine h_op (r_assign rfl) ?_
      refine h_nil ?_
      refine q_then ?_
      refine h_ret ?_
      exact h_ret1 rfl rfl fun w s => ⟨(), rfl, s.res (List.nil_sublist _) (by simp)⟩
theorem rKeys_s (l : List B32) (A : Option Addr) (c : Nat) (hl : l.length ≤ 9223372036854775807) : Spec Tryz.prog 59 [.slice A l.length c].toArray [.rd A (dgs l)] [] (fun _ : Unit => .int .i64 (keysE l)) (fun _ => []) := by
  unfold keysE
  refine spec_of Tryz.func59 rfl (n := 11) rfl rfl ?_
  intro W
  by_cases h0 : l.length = 0
  · rw [if_pos h0]
    refine h_seq ?_
    refine h_reg ?_
    refine h_op (r_assign rfl) ?_
    refine h_nil ?_
    refine q_then ?_
    refine h_seq ?_
    refine h_seq ?_
    refine h_reg ?_
    refine h_op (r_move rfl) ?_
    refine h_op (r_len rfl) ?_
    refine h_op (r_bool (r_eql rfl rfl) (decide_eq_true (by omega))) ?_
    refine h_nil ?_
    refine q_then ?_
    refine h_condT rfl ?_
    refine h_seq ?_
    refine h_reg ?_
    refine h_op (r_assign rfl) ?_
    refine h_nil ?_
    refine q_then ?_
    refine h_ret ?_
    refine q_thenR ?_
    exact h_ret1 rfl rfl fun w s => ⟨(), rfl, s.res (List.nil_sublist _) (by simp)⟩
  · rw [if_neg h0]
    refine h_seq ?_
    refine h_reg ?_
    refine h_op (r_assign rfl) ?_
    refine h_nil ?_
    refine q_then ?_
    refine h_seq ?_
    refine h_seq ?_
    refine h_reg ?_
    refine h_op (r_move rfl) ?_
    refine h_op (r_len rfl) ?_
    refine h_op (r_bool (r_eql rfl rfl) (decide_eq_false (by omega))) ?_
    refine h_nil ?_
    refine q_then ?_
    refine h_condF rfl ?_
    by_cases h1 : 65535 < l.length
    · rw [if_pos h1]
      refine h_skip ?_
      refine q_then ?_
      refine h_seq ?_
      refine h_seq ?_
      refine h_reg ?_
      refine h_op (r_move rfl) ?_
      refine h_op (r_len rfl) ?_
      refine h_op (r_bool (r_gtr rfl rfl) (decide_eq_true (by omega))) ?_
      refine h_nil ?_
      refine q_then ?_
      refine h_condT rfl ?_
      refine h_seq ?_
      refine h_reg ?_
      refine h_op (r_assign rfl) ?_
      refine h_nil ?_
      refine q_then ?_
      refine h_ret ?_
      refine q_thenR ?_
      exact h_ret1 rfl rfl fun w s => ⟨(), rfl, s.res (List.nil_sublist _) (by simp)⟩
    · rw [if_neg h1]
      refine h_skip ?_
      refine q_then ?_
      refine h_seq ?_
      refine h_seq ?_
      refine h_reg ?_
      refine h_op (r_move rfl) ?_
      refine h_op (r_len rfl) ?_
      refine h_op (r_bool (r_gtr rfl rfl) (decide_eq_false (by omega))) ?_
      refine h_nil ?_
      refine q_then ?_
      refine h_condF rfl ?_
      refine h_skip ?_
      refine q_then ?_
      refine h_seq ?_
      refine h_reg ?_
      refine h_op (r_move rfl) ?_
      refine h_call ((rkCheck_s l A c (by omega)).comes) rfl rfl rfl fun _ => ?_
      refine h_op (r_assign rfl) ?_
      refine h_nil ?_
      refine q_then ?_
      refine h_ret ?_
      exact h_ret1 rfl rfl fun w s => ⟨(), rfl, s.res (List.nil_sublist _) (by simp)⟩
end Go.Proofs.YtjhocljhhpkiiaaGreatDoor
/- E29 -/
namespace Go.Proofs.YtjhocljhhpkiiaaGreatDoor
set_option linter.unusedSimpArgs false
set_option linter.unusedVariables false
open Go.RowKit
/-- a claim with its bytes -/
structure CB where
  c : Claim
  kb : List UInt8
  vb : List UInt8
def zCB : CB := ⟨zClaim, [], []⟩
def CB.cells (x : CB) : List Value := x.c.cells
def cbs (l : List CB) : List Value := l.flatMap CB.cells
theorem CB.cells_length (x : CB) : x.cells.length = 3 := Claim.cells_length _
theorem cbs_at {l : List CB} {k : Nat} {x : CB} (h : l[k]? = some x) : ∀ j v, x.c.cells[j]? = some v → (cbs l)[k * 3 + j]? = some v := by
  induction l generalizing k with
  | nil => simp at h
  | cons y l ih =>
    intro j v hv
    show (y.c.cells ++ cbs l)[k * 3 + j]? = some v
    cases k with
    | zero =>
      obtain rfl : y = x := by simpa using h
      rw [Nat.zero_mul, Nat.zero_add, List.getElem?_append_left (List.getElem?_eq_some_iff.1 hv).1]
      exact hv
    | succ k =>
      rw [List.getElem?_append_right (by rw [Claim.cells_length]; omega), Claim.cells_length, show (k + 1) * 3 + j - 3 = k * 3 + j by omega]
      exact ih (by simpa using h) j v hv
/-- the bytes that claims speak of -/
def ClsZ (h : Zh) (l : List CB) : Prop := ∀ x ∈ l, SlZ h x.c.key x.kb ∧ SlZ h x.c.value x.vb
theorem ClsZ.mono {h h' : Zh} (hl : LeZ h h') {l : List CB} (hc : ClsZ h l) : ClsZ h' l := fun x hx => ⟨(hc x hx).1.mono hl, (hc x hx).2.mono hl⟩
theorem ClsZ.get {h : Zh} {l : List CB} (hc : ClsZ h l) {k : Nat} (hk : k < l.length) : SlZ h (l.getD k zCB).c.key (l.getD k zCB).kb ∧ SlZ h (l.getD k zCB).c.value (l.getD k zCB).vb := by
  rw [List.getD_eq_getElem?_getD, List.getElem?_eq_getElem hk]
  exact hc _ (List.getElem_mem hk)
theorem getD_get {α : Type} {l : List α} {k : Nat} (z : α) (hk : k < l.length) : l[k]? = some (l.getD k z) := by
  rw [List.getD_eq_getElem?_getD, List.getElem?_eq_getElem hk]; rfl
/-- the keys of claims -/
def keysC (l : List CB) : List B32 := l.map fun x => keyOf x.kb
theorem keysC_len (l : List CB) : (keysC l).length = l.length := by unfold keysC; rw [List.length_map]
/-- the code of two neighbours -/
def neighE (ks : List B32) (i : Nat) : Int := if i = 0 then 0 else if cmpB (ks.getD (i - 1) zB32) (ks.getD i zB32) < 0 then 0 else if ks.getD (i - 1) zB32 = ks.getD i zB32 then 9 else 8
/-- the index and the code of the first claim that is not right, or nothing -/
def claimsR (l : List CB) : Option (Nat × Int) :=
  if l.length = 0 then some (0, 10) else if 65535 < l.length then some (0, 11) else
  match firstF (fun i => claimE (l.getD i zCB).c) l.length 0 with
  | some r => some r
  | none => firstF (neighE (keysC l)) l.length 0
theorem firstF_zero (code : Nat → Int) : ∀ m i, firstF code m i = none → ∀ j, i ≤ j → j < i + m → code j = 0
  | 0, _, _, _, _, _ => by omega
  | m + 1, i, h, j, h1, h2 => by
    unfold firstF at h
    split at h
    · rename_i h0
      by_cases e : j = i
      · rw [e]; exact h0
      · exact firstF_zero code m (i + 1) h j (by omega) (by omega)
    · cases h
theorem chkK_ok : ∀ l : List B32, (∀ i, i < l.length → neighE l i = 0) → chkK l = 0
  | [], _ => rfl
  | [_], _ => rfl
  | a :: b :: l, h => by
    have h1 := h 1 (by simp)
    have h2 : neighE (a :: b :: l) 1 = if cmpB a b < 0 then 0 else if a = b then 9 else 8 := rfl
    rw [h2] at h1
    have hlt : cmpB a b < 0 := by
      by_cases hc : cmpB a b < 0
      · exact hc
      · rw [if_neg hc] at h1
        split at h1 <;> cases h1
    unfold chkK
    rw [if_neg (by omega), if_neg (by omega)]
    refine chkK_ok (b :: l) fun i hi => ?_
    by_cases h0 : i = 0
    · unfold neighE; rw [if_pos h0]
    · have h3 := h (i + 1) (by simp at hi ⊢; omega)
      unfold neighE at h3 ⊢
      rw [if_neg (by omega)] at h3
      rw [if_neg h0]
      obtain ⟨j, rfl⟩ : ∃ j, i = j + 1 := ⟨i - 1, by omega⟩
      simpa using h3
theorem claimsR_ok {l : List CB} (h : claimsR l = none) : keysE (keysC l) = 0 ∧ ∀ i, i < l.length → claimE (l.getD i zCB).c = 0 := by
  unfold claimsR at h
  split at h
  · cases h
  · split at h
    · cases h
    · rename_i h1 h2
      split at h
      · cases h
      · rename_i h3
        refine ⟨?_, fun i hi => firstF_zero _ _ _ h3 i (Nat.zero_le _) (by omega)⟩
        unfold keysE
        rw [keysC_len, if_neg h1, if_neg h2]
        exact chkK_ok _ fun i hi => firstF_zero _ _ _ h i (Nat.zero_le _) (by rw [keysC_len] at hi; omega)
end Go.Proofs.YtjhocljhhpkiiaaGreatDoor
/- TM -/
namespace Go.Proofs.YtjhocljhhpkiiaaGreatDoor
set_option linter.unusedSimpArgs false
set_option linter.unusedVariables false
open Go.RowKit Go.ChangeShapes Go.WideShapes
section
variable {H : Type} {enc : TypeId × Value → H} {w : World} {base : Nat} {spare : Nat → Bool} {held : Bool} {v : Value} {d : DataW H} {ps : List MemPlace} {r : Reach} {b0 : Nat}
instance iCBInh : Inhabited CB := ⟨zCB⟩
theorem dec_keys {fuel : Nat} {cs : List Value} {x : DataW H × List MemPlace} (h : DataW.trod enc Tryz.prog w base spare held fuel 104 cs = some x) : ∃ (l : List B32) (A : Option Addr) (c : Nat), cs = [.slice A l.length c] ∧ l.length ≤ c ∧ RdZ (World.zh w) A (dgs l) ∧ c ≤ 9223372036854775807 := by
  have : Inhabited B32 := ⟨zB32⟩
  obtain ⟨l, A, c, e2, hlc, hcm, -, hr, -⟩ := open_rows_t (f := fun y : B32 => y.cells) B32.cells_length (by omega) Tryz.underlying104 c_Key (fun _ => True) (fun fuel cs x h => (dec_B32 Tryz.underlying35 c_Key Tryz.underlying5 c_u8 h).imp fun _ h => ⟨h, trivial⟩) h
  exact ⟨l, A, c, e2, hlc, RdZ.of hr, by have : maxLen ≤ 9223372036854775807 := by decide
                                         omega⟩
theorem c_keysSl : Tryz.prog.cellsOf 104 = 1 := by kernel_rfl
theorem c_KeysIndex : Tryz.prog.cellsOf 118 = 2 := by kernel_rfl
theorem keysIndexFields : ∃ f1 f2 : Field, Tryz.prog.underlying 118 = some (.struct #[f1, f2]) ∧ f1.type = 104 ∧ f2.type = 5 ∧ f1.offset = 0 ∧ f2.offset = 1 :=
  ⟨_, _, Tryz.underlying118, rfl, rfl, rfl, rfl⟩
set_option maxRecDepth 100000 in
theorem openKeysIndex (hval : Value.okWide Tryz.prog w r b0 118 v) (hd : DataW.Trod enc Tryz.prog w base spare held 118 v d ps) :
    ∃ (l : List B32) (A : Option Addr) (cap : Nat) (j : UInt8), v = .agg [.slice A l.length cap, .int .u8 (j.toNat : Int)].toArray ∧ l.length ≤ cap ∧ RdZ (World.zh w) A (dgs l) ∧ cap ≤ 9223372036854775807 := by
  obtain ⟨f1, f2, hT, t1, t2, o1, o2⟩ := keysIndexFields
  obtain ⟨cs, rfl, -⟩ := okWide_struct hT hval
  obtain ⟨fuel, hf⟩ := hd
  obtain ⟨cs⟩ := cs
  have hf' : DataW.trod enc Tryz.prog w base spare held fuel 118 cs = some (d, ps) := by simpa [Value.cells] using hf
  obtain ⟨xs, n, -, -, hl, hxl, hx⟩ := DataW.trod_struct hT hf'
  rw [c_KeysIndex] at hl
  have hxl' : xs.length = 2 := hxl
  have k1 := hx 0 f1 rfl
  have k2 := hx 1 f2 rfl
  rw [List.getElem?_eq_getElem (by omega)] at k1 k2
  rw [o1, t1, c_keysSl, List.drop_zero] at k1
  rw [o2, t2, c_u8] at k2
  obtain ⟨l, A, c, e1, hlc, hr, hm⟩ := dec_keys k1
  obtain ⟨n, e2, _, hw⟩ := DataW.trod_int Tryz.underlying5 k2
  have hb := bounds_u8 hw
  refine ⟨l, A, c, UInt8.ofNat n.toNat, ?_, hlc, hr, hm⟩
  have hn : ((UInt8.ofNat n.toNat).toNat : Int) = n := by
    rw [UInt8.toNat_ofNat']
    omega
  have r1 : cs = cs.take 1 ++ (cs.drop 1).take 1 := by
    rw [List.take_of_length_le (l := cs.drop 1) (by simp; omega), List.take_append_drop]
  rw [r1, e1, e2, hn]
  rfl
end
end Go.Proofs.YtjhocljhhpkiiaaGreatDoor
