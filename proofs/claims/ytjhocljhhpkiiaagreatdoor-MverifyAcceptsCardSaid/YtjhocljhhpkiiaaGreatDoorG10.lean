/- Booleans compared; small laws; Shifts by eight; a slice's first cells as an array; verify: the small steps, supports, leads; codec: Size, Kind, Encode of a proof that is well-formed; codec.Encode of a proof that is well-formed; codec.Decode of the bytes of a proof that is well-formed; codec.Decode of the bytes of a proof that is well-formed; codec.Decode, of all bytes; Interface values held against nil; verify: Verify, Claim, Accepts; The library's comparison of byte slices; A slice cut at its length and its capacity; Calls of the library's entries (reflection), as single operations; errors.As at the errors of this program; fault.Code, First; errors.As at the errors of this program; fault.Code, First; verify.Check; errors.As at the errors of this program; fault.Code, First; The condition of two laid variables (the table of rounds, errors.errorType's handle); arguments that are claims, pairs of byte slices, roots with proofs, opened; Multiproofs: the subtrees that items describe: plain (joined texts: N12 N13 U90 U56 U57 U58 U59 U91 N14 U92 N15 N16 N17 U93 U94 U95 TV E14) -/
import Derived.Test.YtjhocljhhpkiiaaGreatDoorG9
import Derived.WideLaws
import Derived.Lib.BytesEntry
import Derived.Lib.Bytealg
import Derived.Stop.Asserts
import Derived.LaidEql
import Derived.LaidHandle
set_option linter.all false
/- N12 -/
namespace Go.Proofs.YtjhocljhhpkiiaaGreatDoor
set_option linter.unusedSimpArgs false
set_option linter.unusedVariables false
open Go.RowKit
class TBool (P : Program) (T : TypeId) : Prop where
  und : P.underlying T = some .bool
section
variable {P : Program} {n : Nat} {D : List Deferred} {E : Env} {L : List Fa} {T T' : TypeId} {x y : Operand}
theorem run_equalIn_bool (w : World) (d : Nat) (a b : Bool) (h : P.underlying T = some .bool) : (Op.equalIn (d + 1) T (.bool a) (.bool b)).run P w = .ok (a == b) w := by
  simp [Op.equalIn, run_underlying h]
theorem run_eq_bool (w : World) (a b : Bool) (h : P.underlying T = some .bool) : (binOp .eql T (.bool a) (.bool b)).run P w = .ok (.bool (a == b)) w := by
  simp only [binOp]
  simp [Op.equal, Op.maxDepth, run_equalIn_bool w 9999 a b h]
theorem r_eqb [hT : TBool P T] {a b : Bool} (hx : ev E x = some (.bool a)) (hy : ev E y = some (.bool b)) : Runs0 P n D E L (.binOp .eql T x y T') (.bool (a == b)) := fun c w ka s o ho => run_bin ho (ka.ev hx) (ka.ev hy) rfl (run_eq_bool w a b hT.und)
end
/-- a zone that began as all that there was: nothing below has turned -/
theorem zone_below {W w : World} {h1 : Zh} {N : List Fa} (hr : Rx [.zone true (World.zh W)] W w (.zone true h1 :: N)) (hl : LeZ (World.zh W) h1) : Below W.heap.size W w := by
  refine ⟨hr.os, hr.tape, hr.output, hr.size, fun k hk => ?_⟩
  obtain ⟨o, ho⟩ : ∃ o, W.heap[k]? = some o := ⟨_, Array.getElem?_eq_getElem hk⟩
  rw [ho]
  exact hr.ok (.zone true h1) (List.mem_cons_self ..) k o (hl.le k o ho)
theorem Fx.all (W : World) : Fx W [.zone true (World.zh W)] := ⟨fun f hf => by rw [List.mem_singleton.1 hf]; exact fun k o ho => ho, List.pairwise_singleton _ _⟩
end Go.Proofs.YtjhocljhhpkiiaaGreatDoor
/- N13 -/
namespace Go.Proofs.YtjhocljhhpkiiaaGreatDoor
set_option linter.unusedSimpArgs false
set_option linter.unusedVariables false
open Go.RowKit
section
variable {P : Program} {n : Nat} {D : List Deferred} {E : Env} {L : List Fa} {T T' : TypeId} {x y : Operand}
theorem r_arr {len e size : Nat} [hT : TArr P T len e size] {A : Option Addr} {m c : Nat} (hx : ev E x = some (.slice A m c)) (hm : len ≤ m := by omega) : Runs0 P n D E L (.sliceToArrayPointer T x) (.pointer A) := fun a w ka s o ho => ex_arrayAt ho hT.und (ka.ev hx) hm
end
end Go.Proofs.YtjhocljhhpkiiaaGreatDoor
/- U90 -/
namespace Go.Proofs.YtjhocljhhpkiiaaGreatDoor
set_option linter.unusedSimpArgs false
set_option linter.unusedVariables false
open Go.RowKit
def keyOf (l : List UInt8) : B32 := if h : l.length = 32 then ⟨l, h⟩ else zB32
theorem keyOf_cells {l : List UInt8} (h : l.length = 32) : (keyOf l).cells = bc l := by unfold keyOf; rw [dif_pos h]; rfl
theorem when_s (b : Bool) (e : Int) : Spec Tryz.prog 174 [.bool b, .int .i64 e].toArray [] [] (fun _ : Unit => .int .i64 (if b then e else 0)) (fun _ => []) := by
  cases b
  · refine spec_of Tryz.func174 rfl (n := 7) rfl rfl ?_
    intro W
    refine h_seq ?_
    refine h_reg ?_
    refine h_op (r_assign rfl) ?_
    refine h_nil ?_
    refine q_then ?_
    refine h_seq ?_
    refine h_seq ?_
    refine h_reg ?_
    refine h_op (r_move rfl) ?_
    refine h_nil ?_
    refine q_then ?_
    refine h_condF rfl ?_
    refine h_skip ?_
    refine q_then ?_
    refine h_seq ?_
    refine h_reg ?_
    refine h_op (r_assign rfl) ?_
    refine h_nil ?_
    refine q_then ?_
    refine h_ret ?_
    exact h_ret1 rfl rfl fun w s => ⟨(), rfl, s.res (List.nil_sublist _) (by simp)⟩
  · refine spec_of Tryz.func174 rfl (n := 7) rfl rfl ?_
    intro W
    refine h_seq ?_
    refine h_reg ?_
    refine h_op (r_assign rfl) ?_
    refine h_nil ?_
    refine q_then ?_
    refine h_seq ?_
    refine h_seq ?_
    refine h_reg ?_
    refine h_op (r_move rfl) ?_
    refine h_nil ?_
    refine q_then ?_
    refine h_condT rfl ?_
    refine h_seq ?_
    refine h_reg ?_
    refine h_op (r_move rfl) ?_
    refine h_op (r_assign rfl) ?_
    refine h_nil ?_
    refine q_then ?_
    refine h_ret ?_
    refine q_thenR ?_
    exact h_ret1 rfl rfl fun w s => ⟨(), rfl, s.res (List.nil_sublist _) (by simp)⟩
/-- what the first three steps find -/
def code3 (x : Chk) : Nat → Int
  | 0 => if x.root.n = 32 then 0 else 4
  | 1 => if x.c.key.n = 32 then 0 else 2
  | _ => if x.c.present = true ∧ 65535 < x.c.value.n then 3 else 0
section
variable (x : Chk) (g : Nat)
theorem step1_s : Spec Tryz.prog 175 [.pointer (some ⟨g, 0, none⟩)].toArray [.rd (some ⟨g, 0, none⟩) x.cells] [] (fun _ : Unit => .int .i64 (code3 x 1)) (fun _ => []) := by
  by_cases h : x.c.key.n = 32
  · have hw := when_s false 2
    rw [show code3 x 1 = 0 from if_pos h]
    refine spec_of Tryz.func175 rfl (n := 11) rfl rfl ?_
    intro W
    refine h_seq ?_
    refine h_reg ?_
    refine h_op (r_assign rfl) ?_
    refine h_nil ?_
    refine q_then ?_
    refine h_seq ?_
    refine h_reg ?_
    refine h_op (r_move rfl) ?_
    refine h_op (r_nilc rfl) ?_
    refine h_op (r_field rfl) ?_
    refine h_op (r_field rfl) ?_
    refine h_op (r_loadc rfl) ?_
    refine h_op (r_len rfl) ?_
    refine h_op (r_bool (r_neq rfl rfl) (decide_eq_false (by omega))) ?_
    refine h_call (hw.comes) rfl rfl rfl fun _ => ?_
    refine h_op (r_assign rfl) ?_
    refine h_nil ?_
    refine q_then ?_
    refine h_ret ?_
    exact h_ret1 rfl rfl fun w s => ⟨(), rfl, s.res (List.nil_sublist _) (by simp)⟩
  · have hw := when_s true 2
    rw [show code3 x 1 = 2 from if_neg h]
    refine spec_of Tryz.func175 rfl (n := 11) rfl rfl ?_
    intro W
    refine h_seq ?_
    refine h_reg ?_
    refine h_op (r_assign rfl) ?_
    refine h_nil ?_
    refine q_then ?_
    refine h_seq ?_
    refine h_reg ?_
    refine h_op (r_move rfl) ?_
    refine h_op (r_nilc rfl) ?_
    refine h_op (r_field rfl) ?_
    refine h_op (r_field rfl) ?_
    refine h_op (r_loadc rfl) ?_
    refine h_op (r_len rfl) ?_
    refine h_op (r_bool (r_neq rfl rfl) (decide_eq_true (by omega))) ?_
    refine h_call (hw.comes) rfl rfl rfl fun _ => ?_
    refine h_op (r_assign rfl) ?_
    refine h_nil ?_
    refine q_then ?_
    refine h_ret ?_
    exact h_ret1 rfl rfl fun w s => ⟨(), rfl, s.res (List.nil_sublist _) (by simp)⟩
theorem step2_s : Spec Tryz.prog 176 [.pointer (some ⟨g, 0, none⟩)].toArray [.rd (some ⟨g, 0, none⟩) x.cells] [] (fun _ : Unit => .int .i64 (code3 x 2)) (fun _ => []) := by
  obtain ⟨b, hb⟩ : ∃ b, x.c.present = b := ⟨_, rfl⟩
  by_cases h : 65535 < x.c.value.n
  · have hw := when_s b 3
    rw [show code3 x 2 = (if b then 3 else 0) by show (if x.c.present = true ∧ 65535 < x.c.value.n then (3 : Int) else 0) = _; rw [hb]; simp [h]]
    cases b
    · refine spec_of Tryz.func176 rfl (n := 18) rfl rfl ?_
      intro W
      refine h_seq ?_
      refine h_reg ?_
      refine h_op (r_assign rfl) ?_
      refine h_nil ?_
      refine q_then ?_
      refine h_seq ?_
      refine h_reg ?_
      refine h_op (r_move rfl) ?_
      refine h_op (r_nilc rfl) ?_
      refine h_op (r_field rfl) ?_
      refine h_op (r_field rfl) ?_
      refine h_op (r_bool (r_loadc rfl) hb) ?_
      refine h_op (r_move rfl) ?_
      refine h_opOff ?_
      refine h_opOff ?_
      refine h_opOff ?_
      refine h_opOff ?_
      refine h_opOff ?_
      refine h_opOff ?_
      refine h_opOff ?_
      refine h_op (r_pick rfl rfl) ?_
      refine h_call (hw.comes) rfl rfl rfl fun _ => ?_
      refine h_op (r_assign rfl) ?_
      refine h_nil ?_
      refine q_then ?_
      refine h_ret ?_
      exact h_ret1 rfl rfl fun w s => ⟨(), rfl, s.res (List.nil_sublist _) (by simp)⟩
    · refine spec_of Tryz.func176 rfl (n := 18) rfl rfl ?_
      intro W
      refine h_seq ?_
      refine h_reg ?_
      refine h_op (r_assign rfl) ?_
      refine h_nil ?_
      refine q_then ?_
      refine h_seq ?_
      refine h_reg ?_
      refine h_op (r_move rfl) ?_
      refine h_op (r_nilc rfl) ?_
      refine h_op (r_field rfl) ?_
      refine h_op (r_field rfl) ?_
      refine h_op (r_bool (r_loadc rfl) hb) ?_
      refine h_op (r_move rfl) ?_
      refine h_op (r_move rfl) ?_
      refine h_op (r_nilc rfl) ?_
      refine h_op (r_field rfl) ?_
      refine h_op (r_field rfl) ?_
      refine h_op (r_loadc rfl) ?_
      refine h_op (r_len rfl) ?_
      refine h_op (r_bool (r_gtr rfl rfl) (decide_eq_true (by omega))) ?_
      refine h_op (r_pick rfl rfl) ?_
      refine h_call (hw.comes) rfl rfl rfl fun _ => ?_
      refine h_op (r_assign rfl) ?_
      refine h_nil ?_
      refine q_then ?_
      refine h_ret ?_
      exact h_ret1 rfl rfl fun w s => ⟨(), rfl, s.res (List.nil_sublist _) (by simp)⟩
  · have hw := when_s false 3
    rw [show code3 x 2 = 0 from if_neg (fun h' => h h'.2)]
    cases b
    · refine spec_of Tryz.func176 rfl (n := 18) rfl rfl ?_
      intro W
      refine h_seq ?_
      refine h_reg ?_
      refine h_op (r_assign rfl) ?_
      refine h_nil ?_
      refine q_then ?_
      refine h_seq ?_
      refine h_reg ?_
      refine h_op (r_move rfl) ?_
      refine h_op (r_nilc rfl) ?_
      refine h_op (r_field rfl) ?_
      refine h_op (r_field rfl) ?_
      refine h_op (r_bool (r_loadc rfl) hb) ?_
      refine h_op (r_move rfl) ?_
      refine h_opOff ?_
      refine h_opOff ?_
      refine h_opOff ?_
      refine h_opOff ?_
      refine h_opOff ?_
      refine h_opOff ?_
      refine h_opOff ?_
      refine h_op (r_pick rfl rfl) ?_
      refine h_call (hw.comes) rfl rfl rfl fun _ => ?_
      refine h_op (r_assign rfl) ?_
      refine h_nil ?_
      refine q_then ?_
      refine h_ret ?_
      exact h_ret1 rfl rfl fun w s => ⟨(), rfl, s.res (List.nil_sublist _) (by simp)⟩
    · refine spec_of Tryz.func176 rfl (n := 18) rfl rfl ?_
      intro W
      refine h_seq ?_
      refine h_reg ?_
      refine h_op (r_assign rfl) ?_
      refine h_nil ?_
      refine q_then ?_
      refine h_seq ?_
      refine h_reg ?_
      refine h_op (r_move rfl) ?_
      refine h_op (r_nilc rfl) ?_
      refine h_op (r_field rfl) ?_
      refine h_op (r_field rfl) ?_
      refine h_op (r_bool (r_loadc rfl) hb) ?_
      refine h_op (r_move rfl) ?_
      refine h_op (r_move rfl) ?_
      refine h_op (r_nilc rfl) ?_
      refine h_op (r_field rfl) ?_
      refine h_op (r_field rfl) ?_
      refine h_op (r_loadc rfl) ?_
      refine h_op (r_len rfl) ?_
      refine h_op (r_bool (r_gtr rfl rfl) (decide_eq_false (by omega))) ?_
      refine h_op (r_pick rfl rfl) ?_
      refine h_call (hw.comes) rfl rfl rfl fun _ => ?_
      refine h_op (r_assign rfl) ?_
      refine h_nil ?_
      refine q_then ?_
      refine h_ret ?_
      exact h_ret1 rfl rfl fun w s => ⟨(), rfl, s.res (List.nil_sublist _) (by simp)⟩
end
/-- the digest of the value of a claim -/
def valD (n : Nat) (present : Bool) (vb : List UInt8) : B32 := if present then sumB n (preV vb) else zB32
end Go.Proofs.YtjhocljhhpkiiaaGreatDoor
/- U56 -/
namespace Go.Proofs.YtjhocljhhpkiiaaGreatDoor
set_option linter.unusedSimpArgs false
set_option linter.unusedVariables false
open Go.RowKit
def u8n (k : Nat) : UInt8 := UInt8.ofNat k
theorem flat_len (l : List B32) : (l.flatMap (·.1)).length = 32 * l.length := by
  induction l with
  | nil => rfl
  | cons x l ih => rw [List.flatMap_cons, List.length_append, ih, x.2, List.length_cons]; omega
end Go.Proofs.YtjhocljhhpkiiaaGreatDoor
/- U57 -/
namespace Go.Proofs.YtjhocljhhpkiiaaGreatDoor
set_option linter.unusedSimpArgs false
set_option linter.unusedVariables false
open Go.RowKit
end Go.Proofs.YtjhocljhhpkiiaaGreatDoor
/- U58 -/
namespace Go.Proofs.YtjhocljhhpkiiaaGreatDoor
set_option linter.unusedSimpArgs false
set_option linter.unusedVariables false
open Go.RowKit
end Go.Proofs.YtjhocljhhpkiiaaGreatDoor
/- U59 -/
namespace Go.Proofs.YtjhocljhhpkiiaaGreatDoor
set_option linter.unusedSimpArgs false
set_option linter.unusedVariables false
open Go.RowKit
end Go.Proofs.YtjhocljhhpkiiaaGreatDoor
/- U91 -/
namespace Go.Proofs.YtjhocljhhpkiiaaGreatDoor
set_option linter.unusedSimpArgs false
set_option linter.unusedVariables false
open Go.RowKit
end Go.Proofs.YtjhocljhhpkiiaaGreatDoor
/- N14 -/
namespace Go.Proofs.YtjhocljhhpkiiaaGreatDoor
set_option linter.unusedSimpArgs false
set_option linter.unusedVariables false
open Go.RowKit
class TIf (P : Program) (T : TypeId) : Prop where
  und : P.underlying T = some (.interface (P.methodsAt T))
section
variable {P : Program} {n : Nat} {D : List Deferred} {E : Env} {L : List Fa} {T T' : TypeId} {t : Nat}
theorem r_ifnil {u : TypeId} {v : Value} [hT : TIf P T] (hx : ev E (.tmp t) = some (.iface u v)) : Runs0 P n D E L (.binOp .eql T (.tmp t) (.const .nilIface) T') (.bool false) := fun a w ka s o ho =>
  run_bin ho (ka.ev hx) (v := .nilIface) rfl rfl (run_eql_held_nil w T u v hT.und)
theorem r_nilnil [hT : TIf P T] (hx : ev E (.tmp t) = some .nilIface) : Runs0 P n D E L (.binOp .eql T (.tmp t) (.const .nilIface) T') (.bool true) := fun a w ka s o ho =>
  run_bin ho (ka.ev hx) (v := .nilIface) rfl rfl (run_eql_nil_nil w T hT.und)
end
section
variable {A : List Fa} {W : World} {n : Nat} {D : List Deferred} {ro : Option Nat} {P : Program} {ops : List Oper} {Q : Exit → Act → World → Prop} {Lb Lr L : List Fa} {fuel : Nat} {listed : Array Bool} {E : Env}
variable {op : Op} {d : Nat} {ty : TypeId} {pos : String} {af : Array Edge} {g : Option (Nat × Bool)}
/-- a method of an interface value, called in a region that draws its order -/
theorem ho_CM (i : Nat) {x : Operand} {l : List Operand} {ts : Array TypeId} {f : FuncId} {T : TypeId} {u : Value} {name : String} {argv args : List Value} [MethT P T name f] {τ : Type} {v : τ → Value} {L' : τ → List Fa} (hi : ops[i]? = some ⟨some d, .call ⟨.invoke x name, l.toArray, ts⟩, ty, pos, af, g⟩) (hc : Comes P A W L f args.toArray v L') (hx : ev E x = some (.iface T u)) (ha : evs E l = some argv) (he : u :: argv = args) [hl : ∀ x, Rds (L' x) Lr]
    (hb : ∀ x w, Sx A W w (L' x) → Sx A W w Lb) (k : ∀ x, HA A W n D ro P ops Q Lb Lr fuel (listed.setIfInBounds i true) ((d, v x) :: E) (L' x)) (hd : Nat.blt d n = true := by exact rfl) (hg : wn ops.toArray E g = some true := by exact rfl) : HO A W n D ro P ops Q Lb Lr fuel listed E L i := fun a w ka s sr => by
  refine ho_mk hi (wn_run ka hg) (wpIn_ent (x_callM ka rfl hx ha) (he ▸ hc w s) ?_)
  rintro e w' ⟨y, rfl, hy⟩
  have h3 : Fx w' Lr := Fx.rds hy.toFx (hr := hl y)
  exact ⟨_, rfl, fun _ _ => ⟨hb y _ hy, h3⟩, k y _ _ (ka.put hd _) hy ⟨hb y _ hy, h3⟩⟩
end
end Go.Proofs.YtjhocljhhpkiiaaGreatDoor
/- U92 -/
namespace Go.Proofs.YtjhocljhhpkiiaaGreatDoor
set_option linter.unusedSimpArgs false
set_option linter.unusedVariables false
open Go.RowKit
instance iU92_1 : TIf Tryz.prog 90 := ⟨by kernel_rfl⟩
def plFl : Nat → Option (Nat × Nat) := fun i => ([(0, 1), (1, 1), (2, 1)] : List (Nat × Nat)).toArray[i]?
instance iU92_2 : Place plFl 0 0 1 := ⟨rfl⟩
instance iU92_3 : Place plFl 1 1 1 := ⟨rfl⟩
instance iU92_4 : Place plFl 2 2 1 := ⟨rfl⟩
instance iU92_5 : TB Tryz.prog 178 [.string ⟨#[]⟩, .int .i64 0, .nilIface] plFl := ⟨fun w ps cells h => run_build_struct (fl := _) Tryz.underlying178 (z := ([.string ⟨#[]⟩, .int .i64 0, .nilIface] : List Value).toArray) (n := 3) (by kernel_rfl) (pl := [(0, 1), (1, 1), (2, 1)]) (by kernel_rfl) h⟩
/-- an error with the operation in which it occurred -/
abbrev fltC (op : ByteArray) (i e : Int) : List Value := [.string op, .int .i64 i, .iface 94 (.int .i64 e)]
theorem fNew_s (op : ByteArray) (i e : Int) : Spec Tryz.prog 157 [.string op, .int .i64 i, .iface 94 (.int .i64 e)].toArray [] [] (fun g : Nat => .iface 174 (.pointer (some ⟨g, 0, none⟩))) (fun g => [.blk g (fltC op i e) 178]) := by
  refine spec_of Tryz.func157 rfl (n := 15) rfl rfl ?_
  intro W
  refine h_seq ?_
  refine h_reg ?_
  refine h_op (r_assign rfl) ?_
  refine h_nil ?_
  refine q_then ?_
  refine h_seq ?_
  refine h_seq ?_
  refine h_reg ?_
  refine h_op (r_move rfl) ?_
  refine h_op (r_ifnil rfl) ?_
  refine h_nil ?_
  refine q_then ?_
  refine h_condF rfl ?_
  refine h_skip ?_
  refine q_then ?_
  refine h_seq ?_
  refine h_reg ?_
  refine h_op (r_move rfl) ?_
  refine h_op (r_move rfl) ?_
  refine h_op (r_move rfl) ?_
  refine h_op (r_build rfl) ?_
  refine h_opX (x_box rfl) fun g13 => ?_
  refine h_op (r_mkI rfl) ?_
  refine h_op (r_assign rfl) ?_
  refine h_nil ?_
  refine q_then ?_
  refine h_ret ?_
  exact h_ret1 rfl rfl fun w s => ⟨g13, rfl, (same (L' := [.blk g13 (fltC op i e) 178]) w s).res (List.Sublist.refl _) (by simp [Fa.wr])⟩
def stepV : Nat → Value
  | 0 => .func (.func 173) #[] #[]
  | 1 => .func (.func 175) #[] #[]
  | 2 => .func (.func 176) #[] #[]
  | 3 => .func (.func 177) #[] #[]
  | 4 => .func (.func 179) #[] #[]
  | _ => .func (.func 180) #[] #[]
instance (i : Nat) : Row [stepV i] 1 := ⟨rfl, by intro v hv; rw [List.mem_singleton.1 hv]; unfold stepV; split <;> rfl⟩
def stepsV : List Value := [stepV 0, stepV 1, stepV 2, stepV 3, stepV 4, stepV 5]
theorem stepsV_at (i : Nat) (f : Value) (h : stepsV[i]? = some f) : ∀ j v, [f][j]? = some v → stepsV[i + j]? = some v := fun j v hv => by
  cases j with
  | zero => obtain rfl : f = v := by simpa using hv
            exact h
  | succ j => simp at hv
theorem steps_s : Spec Tryz.prog 120 ([] : List Value).toArray [] [] (fun g : Nat => .slice (some ⟨g, 0, none⟩) 6 6) (fun g => [.own (.slice (some ⟨g, 0, none⟩) 6 6) 6 195 1 stepsV]) := by
  refine spec_of Tryz.func120 rfl (n := 8) rfl rfl ?_
  intro W
  refine h_seq ?_
  refine h_reg ?_
  refine h_op (r_assign rfl) ?_
  refine h_nil ?_
  refine q_then ?_
  refine h_seq ?_
  refine h_reg ?_
  refine h_op (r_build rfl) ?_
  refine h_op (r_build rfl) ?_
  refine h_op (r_build rfl) ?_
  refine h_op (r_build rfl) ?_
  refine h_op (r_build rfl) ?_
  refine h_op (r_build rfl) ?_
  refine h_opX (x_bsl rfl rfl) fun g7 => ?_
  refine h_op (r_assign rfl) ?_
  refine h_nil ?_
  refine q_then ?_
  refine h_ret ?_
  change H _ _ _ _ _ (.own _ _ _ _ stepsV :: _) _
  exact h_ret1 rfl rfl fun w s => ⟨g7, rfl, (same (L' := [.own (.slice (some ⟨g7, 0, none⟩) 6 6) 6 195 1 stepsV]) w s).res (List.Sublist.refl _) (by simp [Fa.wr])⟩
/-- the first step that finds something -/
def firstF (code : Nat → Int) : Nat → Nat → Option (Nat × Int)
  | 0, _ => none
  | m + 1, i => if code i = 0 then firstF code m (i + 1) else some (i, code i)
theorem firstF_none (code : Nat → Int) : ∀ m i, (∀ j, i ≤ j → j < i + m → code j = 0) → firstF code m i = none
  | 0, _, _ => rfl
  | m + 1, i, h => by
    unfold firstF
    rw [if_pos (h i (Nat.le_refl _) (by omega))]
    exact firstF_none code m (i + 1) fun j h1 h2 => h j (by omega) (by omega)
theorem firstF_some (code : Nat → Int) (e : Nat) (he : code e ≠ 0) : ∀ m i, i ≤ e → e < i + m → (∀ j, i ≤ j → j < e → code j = 0) → firstF code m i = some (e, code e)
  | 0, i, h1, h2, _ => by omega
  | m + 1, i, h1, h2, h => by
    unfold firstF
    rcases Nat.lt_or_ge i e with h3 | h3
    · rw [if_pos (h i (Nat.le_refl _) h3)]
      exact firstF_some code e he m (i + 1) h3 (by omega) fun j a b => h j (by omega) b
    · obtain rfl : i = e := by omega
      rw [if_neg he]
def errV : Option (Nat × Int) → Nat → Value
  | none, _ => .nilIface
  | some _, g => .iface 174 (.pointer (some ⟨g, 0, none⟩))
/-! Claim -/
def claimE (c : Claim) : Int := if c.key.n = 32 then (if c.present = true ∧ 65535 < c.value.n then 3 else 0) else 2
theorem Claim_s (c : Claim) : Spec Tryz.prog 67 [.agg c.cells.toArray].toArray [] [] (fun _ : Unit => .int .i64 (claimE c)) (fun _ => []) := by
  have h1 := fun g => step1_s ⟨none, ⟨none, 0, 0⟩, c, ⟨none, 0, 0⟩, zProof⟩ g
  have h2 := fun g => step2_s ⟨none, ⟨none, 0, 0⟩, c, ⟨none, 0, 0⟩, zProof⟩ g
  refine spec_of Tryz.func67 rfl (n := 25) rfl rfl ?_
  intro W
  refine h_seq ?_
  refine h_reg ?_
  refine h_opX (x_box rfl) fun g1 => ?_
  refine h_op (r_assign rfl) ?_
  refine h_nil ?_
  refine q_then ?_
  refine h_seq ?_
  refine h_reg ?_
  refine h_op (r_loadr rfl) ?_
  refine h_op (r_build rfl) ?_
  refine h_opX (x_box rfl) fun g9 => ?_
  refine h_op (r_assign rfl) ?_
  refine h_nil ?_
  refine q_then ?_
  refine h_seq ?_
  refine h_seq ?_
  refine h_reg ?_
  refine h_call (steps_s.comes) rfl rfl rfl fun g10 => ?_
  refine h_op (r_slLHb rfl rfl rfl (m := 2) (c' := 5) (O' := 1)) ?_
  refine h_op (r_len rfl) ?_
  refine h_op (r_move rfl) ?_
  refine h_nil ?_
  refine q_then ?_
  refine h_block ?_
  change H _ _ _ _ _ (_ :: .blk g9 (Chk.cells ⟨none, ⟨none, 0, 0⟩, c, ⟨none, 0, 0⟩, zProof⟩) _ :: _) _
  refine h_loop (fun (i : Nat) => i ≤ 2 ∧ (1 ≤ i → c.key.n = 32) ∧ (2 ≤ i → ¬ (c.present = true ∧ 65535 < c.value.n))) (fun (i : Nat) => [(3, .pointer (some ⟨g9, 0, none⟩)), (11, .slice (some ⟨g10, 1, none⟩) 2 5), (12, .int .i64 2), (13, .int .i64 (i : Int))]) (fun (i : Nat) => [.own (.slice (some ⟨g10, 0, none⟩) 6 6) 6 195 1 stepsV, .blk g9 (Chk.cells ⟨none, ⟨none, 0, 0⟩, c, ⟨none, 0, 0⟩, zProof⟩) 169]) (fun (i : Nat) => 2 - i) 0 (⟨by decide, fun h => absurd h (by decide), fun h => absurd h (by decide)⟩) ⟨rfl, rfl, rfl, rfl, trivial⟩ (same) ?_
  rintro i ⟨hi, hi1, hi2⟩
  rcases (by omega : i = 0 ∨ i = 1 ∨ i = 2) with rfl | rfl | rfl
  · by_cases hk : c.key.n = 32
    · have h1 := h1 g9
      rw [show code3 ⟨none, ⟨none, 0, 0⟩, c, ⟨none, 0, 0⟩, zProof⟩ 1 = 0 from if_pos hk] at h1
      refine h_seq ?_
      refine h_reg ?_
      refine h_op (r_bool (r_lss rfl rfl) rfl) ?_
      refine h_nil ?_
      refine q_then ?_
      refine h_seq ?_
      refine h_condT rfl ?_
      refine h_skip ?_
      refine q_then ?_
      refine h_seq ?_
      refine h_block ?_
      refine h_seq ?_
      refine h_reg ?_
      refine h_op (r_idx rfl rfl (m := 0) (hm := by decide)) ?_
      refine h_op (r_nthr (off := 1) rfl (out := [stepV 1]) rfl (stepsV_at 1 _ rfl)) ?_
      refine h_opX (x_alloc) fun g5 => ?_
      refine h_opS (s_storer rfl rfl) ?_
      refine h_nil ?_
      refine q_then ?_
      refine h_seq ?_
      refine h_reg ?_
      refine h_op (r_field rfl) ?_
      refine h_op (r_loadc rfl) ?_
      refine h_op (r_move rfl) ?_
      refine h_call (h1.comes) rfl rfl rfl fun _ => ?_
      refine h_op (r_assign rfl) ?_
      refine h_nil ?_
      refine q_then ?_
      refine h_seq ?_
      refine h_reg ?_
      refine h_op (r_move rfl) ?_
      refine h_op (r_bool (r_neq rfl rfl) rfl) ?_
      refine h_nil ?_
      refine q_then ?_
      refine h_condF rfl ?_
      refine h_skip ?_
      refine q_block ?_
      refine q_then ?_
      refine h_reg ?_
      refine h_op (r_add rfl rfl) ?_
      refine h_op (r_move rfl) ?_
      refine h_nil ?_
      exact h_back 1 (⟨by decide, fun _ => hk, fun h => absurd h (by decide)⟩) ((show 2 - 1 < 2 - 0 by decide)) ⟨rfl, rfl, rfl, rfl, trivial⟩ (same)
    · have h1 := h1 g9
      rw [show code3 ⟨none, ⟨none, 0, 0⟩, c, ⟨none, 0, 0⟩, zProof⟩ 1 = 2 from if_neg hk] at h1
      rw [show claimE c = 2 from if_neg hk]
      refine h_seq ?_
      refine h_reg ?_
      refine h_op (r_bool (r_lss rfl rfl) rfl) ?_
      refine h_nil ?_
      refine q_then ?_
      refine h_seq ?_
      refine h_condT rfl ?_
      refine h_skip ?_
      refine q_then ?_
      refine h_seq ?_
      refine h_block ?_
      refine h_seq ?_
      refine h_reg ?_
      refine h_op (r_idx rfl rfl (m := 0) (hm := by decide)) ?_
      refine h_op (r_nthr (off := 1) rfl (out := [stepV 1]) rfl (stepsV_at 1 _ rfl)) ?_
      refine h_opX (x_alloc) fun g5 => ?_
      refine h_opS (s_storer rfl rfl) ?_
      refine h_nil ?_
      refine q_then ?_
      refine h_seq ?_
      refine h_reg ?_
      refine h_op (r_field rfl) ?_
      refine h_op (r_loadc rfl) ?_
      refine h_op (r_move rfl) ?_
      refine h_call (h1.comes) rfl rfl rfl fun _ => ?_
      refine h_op (r_assign rfl) ?_
      refine h_nil ?_
      refine q_then ?_
      refine h_seq ?_
      refine h_reg ?_
      refine h_op (r_move rfl) ?_
      refine h_op (r_bool (r_neq rfl rfl) rfl) ?_
      refine h_nil ?_
      refine q_then ?_
      refine h_condT rfl ?_
      refine h_seq ?_
      refine h_reg ?_
      refine h_op (r_move rfl) ?_
      refine h_op (r_assign rfl) ?_
      refine h_nil ?_
      refine q_then ?_
      refine h_ret ?_
      refine q_blockR ?_
      refine q_thenR ?_
      refine q_thenR ?_
      refine q_blockR ?_
      refine q_thenR ?_
      exact h_ret1 rfl rfl fun w s => ⟨(), rfl, s.res (List.nil_sublist _) (by simp)⟩
  · have hk := hi1 (by decide)
    by_cases hv : c.present = true ∧ 65535 < c.value.n
    · have h2 := h2 g9
      rw [show code3 ⟨none, ⟨none, 0, 0⟩, c, ⟨none, 0, 0⟩, zProof⟩ 2 = 3 from if_pos hv] at h2
      rw [show claimE c = 3 by unfold claimE; rw [if_pos hk, if_pos hv]]
      refine h_seq ?_
      refine h_reg ?_
      refine h_op (r_bool (r_lss rfl rfl) rfl) ?_
      refine h_nil ?_
      refine q_then ?_
      refine h_seq ?_
      refine h_condT rfl ?_
      refine h_skip ?_
      refine q_then ?_
      refine h_seq ?_
      refine h_block ?_
      refine h_seq ?_
      refine h_reg ?_
      refine h_op (r_idx rfl rfl (m := 1) (hm := by decide)) ?_
      refine h_op (r_nthr (off := 2) rfl (out := [stepV 2]) rfl (stepsV_at 2 _ rfl)) ?_
      refine h_opX (x_alloc) fun g5 => ?_
      refine h_opS (s_storer rfl rfl) ?_
      refine h_nil ?_
      refine q_then ?_
      refine h_seq ?_
      refine h_reg ?_
      refine h_op (r_field rfl) ?_
      refine h_op (r_loadc rfl) ?_
      refine h_op (r_move rfl) ?_
      refine h_call (h2.comes) rfl rfl rfl fun _ => ?_
      refine h_op (r_assign rfl) ?_
      refine h_nil ?_
      refine q_then ?_
      refine h_seq ?_
      refine h_reg ?_
      refine h_op (r_move rfl) ?_
      refine h_op (r_bool (r_neq rfl rfl) rfl) ?_
      refine h_nil ?_
      refine q_then ?_
      refine h_condT rfl ?_
      refine h_seq ?_
      refine h_reg ?_
      refine h_op (r_move rfl) ?_
      refine h_op (r_assign rfl) ?_
      refine h_nil ?_
      refine q_then ?_
      refine h_ret ?_
      refine q_blockR ?_
      refine q_thenR ?_
      refine q_thenR ?_
      refine q_blockR ?_
      refine q_thenR ?_
      exact h_ret1 rfl rfl fun w s => ⟨(), rfl, s.res (List.nil_sublist _) (by simp)⟩
    · have h2 := h2 g9
      rw [show code3 ⟨none, ⟨none, 0, 0⟩, c, ⟨none, 0, 0⟩, zProof⟩ 2 = 0 from if_neg hv] at h2
      refine h_seq ?_
      refine h_reg ?_
      refine h_op (r_bool (r_lss rfl rfl) rfl) ?_
      refine h_nil ?_
      refine q_then ?_
      refine h_seq ?_
      refine h_condT rfl ?_
      refine h_skip ?_
      refine q_then ?_
      refine h_seq ?_
      refine h_block ?_
      refine h_seq ?_
      refine h_reg ?_
      refine h_op (r_idx rfl rfl (m := 1) (hm := by decide)) ?_
      refine h_op (r_nthr (off := 2) rfl (out := [stepV 2]) rfl (stepsV_at 2 _ rfl)) ?_
      refine h_opX (x_alloc) fun g5 => ?_
      refine h_opS (s_storer rfl rfl) ?_
      refine h_nil ?_
      refine q_then ?_
      refine h_seq ?_
      refine h_reg ?_
      refine h_op (r_field rfl) ?_
      refine h_op (r_loadc rfl) ?_
      refine h_op (r_move rfl) ?_
      refine h_call (h2.comes) rfl rfl rfl fun _ => ?_
      refine h_op (r_assign rfl) ?_
      refine h_nil ?_
      refine q_then ?_
      refine h_seq ?_
      refine h_reg ?_
      refine h_op (r_move rfl) ?_
      refine h_op (r_bool (r_neq rfl rfl) rfl) ?_
      refine h_nil ?_
      refine q_then ?_
      refine h_condF rfl ?_
      refine h_skip ?_
      refine q_block ?_
      refine q_then ?_
      refine h_reg ?_
      refine h_op (r_add rfl rfl) ?_
      refine h_op (r_move rfl) ?_
      refine h_nil ?_
      exact h_back 2 (⟨by decide, fun _ => hk, fun _ => hv⟩) ((show 2 - 2 < 2 - 1 by decide)) ⟨rfl, rfl, rfl, rfl, trivial⟩ (same)
  · have hk := hi1 (by decide)
    have hv := hi2 (by decide)
    rw [show claimE c = 0 by unfold claimE; rw [if_pos hk, if_neg hv]]
    refine h_seq ?_
    refine h_reg ?_
    refine h_op (r_bool (r_lss rfl rfl) rfl) ?_
    refine h_nil ?_
    refine q_then ?_
    refine h_seq ?_
    refine h_condF rfl ?_
    refine h_exit ?_
    refine q_thenE ?_
    refine q_thenE ?_
    refine q_blockE ?_
    refine q_then ?_
    refine h_seq ?_
    refine h_reg ?_
    refine h_op (r_assign rfl) ?_
    refine h_nil ?_
    refine q_then ?_
    refine h_ret ?_
    exact h_ret1 rfl rfl fun w s => ⟨(), rfl, s.res (List.nil_sublist _) (by simp)⟩
end Go.Proofs.YtjhocljhhpkiiaaGreatDoor
/- N15 -/
namespace Go.Proofs.YtjhocljhhpkiiaaGreatDoor
set_option linter.unusedSimpArgs false
set_option linter.unusedVariables false
open Go.RowKit
/-- the model's entry of bytealg.Compare -/
class TCmp (P : Program) (f : FuncId) : Prop where
  ok : ∀ args w, (callFunc f args).run P w = ((Extern.BytealgCompare.compare args).run P w).andThen fun v w' => .ok (.value v) w'
theorem bytes_back (l : List UInt8) : Lib.bytesOf (l.map fun x => (x.toNat : Int)) = l := by
  unfold Lib.bytesOf
  rw [List.map_map]
  conv => rhs; rw [← List.map_id l]
  apply List.map_congr_left
  intro x _
  simp
theorem run_bytesOf_rd {P : Program} {w : World} {A : Option Addr} {l : List UInt8} {c : Nat} (hr : Rd w A (bc l)) : (Extern.Bytes.bytesOf (.slice A l.length c)).run P w = .ok ⟨l.toArray⟩ w := by
  cases A with
  | none =>
    have : l = [] := by
      cases l with
      | nil => rfl
      | cons x l => obtain ⟨b, o, e, _⟩ := hr 0 (.int .u8 x.toNat) rfl; cases e
    subst this
    rfl
  | some a =>
    have h := Lib.run_loadBytesX (P := P) (w := w) (l.map fun x => (x.toNat : Int)) a .empty (fun j x hj => by
      obtain ⟨y, hy, rfl⟩ : ∃ y, l[j]? = some y ∧ (y.toNat : Int) = x := by simpa using hj
      have hj' : (bc l)[j]? = some (.int .u8 (y.toNat : Int)) := by simp [bc, hy]
      obtain ⟨b, o, e, h2⟩ := hr j _ hj'
      injection e with e
      subst e
      rw [Addr.add_mid]
      exact h2)
    rw [List.length_map, bytes_back] at h
    show (Extern.Bytes.loadBytes a l.length .empty).run P w = _
    rw [h]
    simp
section
variable {P : Program} {n : Nat} {D : List Deferred} {E : Env} {L : List Fa}
theorem r_cmp {f : FuncId} [hf : TCmp P f] {x y : Operand} {ts : Array TypeId} {A B : Option Addr} {c c' : Nat} {a b : List UInt8} (hx : ev E x = some (.slice A a.length c)) (hy : ev E y = some (.slice B b.length c')) [hA : Rd1 L (.rd A (bc a))] [hB : Rd1 L (.rd B (bc b))] : Runs0 P n D E L (.call ⟨.value (.func f), #[x, y], ts⟩) (.int .i64 (Lib.compareBytes a b)) := fun act w ka s o ho => by
  have h1 := run_bytesOf_rd (P := P) (c := c) (hA.ok s).2.1
  have h2 := run_bytesOf_rd (P := P) (c := c') (hB.ok s).2.1
  have e0 : ev E (.func f) = some (.func (.func f) #[] #[]) := rfl
  unfold execOp
  simp only [ho, resolve, ka.ev e0, Deferred.ofValue, Sem.run_bind, Sem.run_pure, Result.andThen_ok, invoke]
  have e1 : (#[x, y].map act.eval) = #[.slice A a.length c, .slice B b.length c'] := by simp [ka.ev hx, ka.ev hy]
  rw [e1]
  show (callFunc f #[.slice A a.length c, .slice B b.length c']).run P w = _
  have e2 : (Extern.BytealgCompare.compare #[.slice A a.length c, .slice B b.length c']).run P w = .ok (.int .i64 (Lib.compareBytes a b)) w := by
    change Sem.run P (do pure (goInt (Extern.BytealgCompare.cmp (← Extern.Bytes.bytesOf (.slice A a.length c)) (← Extern.Bytes.bytesOf (.slice B b.length c'))))) w = _
    simp only [Sem.run_bind, h1, h2, Result.andThen_ok, Sem.run_pure, Lib.cmp_eq]
    rfl
  rw [hf.ok, e2]
  rfl
end
end Go.Proofs.YtjhocljhhpkiiaaGreatDoor
/- N16 -/
namespace Go.Proofs.YtjhocljhhpkiiaaGreatDoor
set_option linter.unusedSimpArgs false
set_option linter.unusedVariables false
open Go.RowKit
section
variable {P : Program} {nn : Nat} {D : List Deferred} {E : Env} {L : List Fa} {T : TypeId} {x q r : Operand} {e size bytes : Nat} {z : Value} {N c h m : Nat}
theorem run_slHM [E' : TS P T e size bytes z] {b O : Nat} {i2 i3 : Int} {k2 k3 : IntKind} (w : World) (h2 : NatOf i2 h) (h3 : NatOf i3 m) (a2 : h ≤ m) (a3 : m ≤ c) :
    (Instr.sliceAt T (.slice (some ⟨b, O, none⟩) N c) none (some (.int k2 i2)) (some (.int k3 i3))).run P w = .ok (.slice (some ⟨b, O, none⟩) h m) w := by
  obtain rfl := h2.eq
  obtain rfl := h3.eq
  obtain ⟨t, hi, _, hsz, _⟩ := info_parts E'.el.hi
  have c1 : (0 : Int) ≤ (m : Int) ∧ (m : Int) ≤ (c : Int) := ⟨by omega, by omega⟩
  have c2 : (0 : Int) ≤ (h : Int) ∧ (h : Int) ≤ (m : Int) := ⟨by omega, by omega⟩
  have c3 : (0 : Int) ≤ (0 : Int) ∧ (0 : Int) ≤ (h : Int) := ⟨by omega, by omega⟩
  unfold Instr.sliceAt
  simp only [Sem.run_bind, run_underlying E'.el.ht, Result.andThen_ok, Instr.slice, Instr.sliceBounds, Instr.sliceBound, asIntOf, Sem.run_pure, if_pos c1, if_pos c2, if_pos c3, Int.toNat_natCast, sizeOf, typeInfo, Option.isSome_some]
  simp [hi, hsz, Addr.add_mid]
theorem r_slHM [E' : TS P T e size bytes z] {b O : Nat} {i2 i3 : Int} {k2 k3 : IntKind} (hx : ev E x = some (.slice (some ⟨b, O, none⟩) N c)) (hq : ev E q = some (.int k2 i2)) (hr : ev E r = some (.int k3 i3)) [h2 : NatOf i2 h] [h3 : NatOf i3 m] (a2 : h ≤ m := by omega) (a3 : m ≤ c := by omega) : Runs0 P nn D E L (.slice T x none (some q) (some r)) (.slice (some ⟨b, O, none⟩) h m) := fun a w ka s o ho => by
  have := run_slHM (P := P) (T := T) (N := N) (b := b) (O := O) (k2 := k2) (k3 := k3) w h2 h3 a2 a3
  unfold execOp
  simp only [ho, ka.ev hx, Option.map_some, Option.map_none, ka.ev hq, ka.ev hr]
  rw [Sem.run_bind, this]
  rfl
theorem cut_zero {b O c size : Nat} (hc : 0 < c) : cutA (some ⟨b, O, none⟩) c 0 size = some ⟨b, O, none⟩ := by
  unfold cutA
  rw [if_neg (by omega)]
  simp [Addr.add_mid]
theorem r_slHb [E' : TS P T e size bytes z] {b O : Nat} {j : Int} {k : IntKind} (hx : ev E x = some (.slice (some ⟨b, O, none⟩) N c)) (hq : ev E q = some (.int k j)) [hj : NatOf j h] (hl : h ≤ c := by omega) (hc : 0 < c := by omega) : Runs0 P nn D E L (.slice T x none (some q) none) (.slice (some ⟨b, O, none⟩) h c) := by
  have := r_slH (P := P) (n := nn) (D := D) (L := L) (E' := E') hx hq (hj := hj) hl
  rwa [cut_zero hc] at this
end
end Go.Proofs.YtjhocljhhpkiiaaGreatDoor
/- N17 -/
namespace Go.Proofs.YtjhocljhhpkiiaaGreatDoor
set_option linter.unusedSimpArgs false
set_option linter.unusedVariables false
open Go.RowKit
section
variable {P : Program} {A : List Fa} {W : World} {n : Nat} {D : List Deferred} {E : Env} {L : List Fa} {f : FuncId} {l : List Operand} {ts : Array TypeId} {vs : List Value} {v : Value}
theorem run_fun {a : Act} {w : World} {o : Oper} {x : Next} {w' : World} (ka : Kn n D E a) (ho : o.op = .call ⟨.value (.func f), l.toArray, ts⟩) (ha : evs E l = some vs) (hb : (callFunc f vs.toArray).run P w = .ok x w') : (execOp a.eval o).run P w = .ok x w' := by
  have e0 : ev E (.func f) = some (.func (.func f) #[] #[]) := rfl
  unfold execOp
  simp only [ho, resolve, ka.ev e0, Deferred.ofValue, Sem.run_bind, Sem.run_pure, Result.andThen_ok, invoke]
  rw [List.map_toArray, ka.evs ha]
  simpa using hb
theorem r_fun (hb : ∀ w, (callFunc f vs.toArray).run P w = .ok (.value v) w) (ha : evs E l = some vs) : Runs0 P n D E L (.call ⟨.value (.func f), l.toArray, ts⟩) v := fun a w ka s o ho => run_fun ka ho ha (hb w)
/-- one that reads a cell -/
theorem r_funC {b : Nat} {u : Value} [hc : Cells b 0 L 0 [u]] (hb : ∀ w, w.cell? ⟨b, 0, none⟩ = some u → (callFunc f vs.toArray).run P w = .ok (.value v) w) (ha : evs E l = some vs) : Runs0 P n D E L (.call ⟨.value (.func f), l.toArray, ts⟩) v := fun a w ka s o ho => run_fun ka ho ha (hb w (hc.cell s 0 u rfl))
/-- one that makes a block -/
theorem x_fun {cs : List Value} {T : TypeId} {u : Nat → Value} (hb : ∀ w, (callFunc f vs.toArray).run P w = .ok (.value (u w.heap.size)) (w.alloc (.cells cs.toArray T))) (ha : evs E l = some vs) : RunsX P A W n D E L (.call ⟨.value (.func f), l.toArray, ts⟩) u (fun g => .blk g cs T :: L) := fun a w ka s o ho =>
  ⟨w.heap.size, _, run_fun ka ho ha (hb w), s.alloc cs T⟩
/-- one that stores a cell into a block -/
theorem x_setV {g b : Nat} {T : TypeId} {old u : Value} {M : List Fa} [hm : TakeB g L [old] T M] [hc : Cells b 0 L 0 [u]] (hb : ∀ w, w.cell? ⟨b, 0, none⟩ = some u → w.heap[g]? = some (.cells #[old] T (0, 0)) → (callFunc f vs.toArray).run P w = .ok (.value (.tuple #[])) (w.setCell ⟨g, 0, none⟩ u)) (ha : evs E l = some vs) : RunsX P A W n D E L (.call ⟨.value (.func f), l.toArray, ts⟩) (fun _ : Unit => .tuple #[]) (fun _ => .blk g [u] T :: M) := fun a w ka s o ho => by
  have h2 := s.perm hm.perm
  have hbk : w.heap[g]? = some (.cells [old].toArray T (0, 0)) := h2.ok (.blk _ _ _) (List.mem_cons_self ..)
  refine ⟨(), _, run_fun ka ho ha (hb w (hc.cell s.toFx 0 u rfl) hbk), h2.put ?_ (fun B w0 hB hg => hB.setCell hg u) (by simp) (fun k hk => heap_setCell_other w _ k u hk)⟩
  rw [heap_setCell_same w g 0 _ T u hbk]
  rfl
/-- a method's entry, through an interface value -/
theorem r_inv {x : Operand} {T : TypeId} {u : Value} {name : String} (hb : ∀ w, (callMethod (.iface T u) name vs.toArray).run P w = .ok (.value v) w) (hx : ev E x = some (.iface T u)) (ha : evs E l = some vs) : Runs0 P n D E L (.call ⟨.invoke x name, l.toArray, ts⟩) v := fun a w ka s o ho => by
  unfold execOp
  simp only [ho, resolve, ka.ev hx, Sem.run_bind, Sem.run_pure, Result.andThen_ok, invoke]
  rw [List.map_toArray, ka.evs ha]
  have e0 : ((#[Value.iface T u] : Array Value) ++ vs.toArray)[0]? = some (.iface T u) := by simp
  rw [e0]
  simp only []
  have e : ((#[Value.iface T u] : Array Value) ++ vs.toArray).extract 1 ((#[Value.iface T u] : Array Value) ++ vs.toArray).size = vs.toArray := by simp
  rw [e]
  exact hb w
theorem r_eqS {T T' : TypeId} {x y : Operand} {a b : ByteArray} (hx : ev E x = some (.string a)) (hy : ev E y = some (.string b)) : Runs0 P n D E L (.binOp .eql T x y T') (.bool (a.toList == b.toList)) := fun act w ka s o ho => run_bin ho (ka.ev hx) (ka.ev hy) rfl (by rw [binOp_string_eql]; rfl)
end
end Go.Proofs.YtjhocljhhpkiiaaGreatDoor
/- U93 -/
namespace Go.Proofs.YtjhocljhhpkiiaaGreatDoor
set_option linter.unusedSimpArgs false
set_option linter.unusedVariables false
open Go.RowKit Go.Extern.Stop Go.Stop Go.Extern
abbrev hdl (T : Nat) : Value := .pointer (some ⟨3, T, none⟩)
abbrev rty (T : Nat) : Value := .iface 308 (.agg #[hdl T])
abbrev rval (T b : Nat) (fl : Int) : Value := .agg #[hdl T, .pointer (some ⟨b, 0, none⟩), .int .u64 fl]
theorem rf_val1 (t : Addr) (w : World) : (callFunc 160 #[.iface 176 (.pointer (some t))]).run Tryz.prog w = .ok (.value (rval 176 w.heap.size 150)) (w.alloc (.cells #[.pointer (some t)] 176)) := by kernel_rfl
theorem rf_val2 (t : Addr) (w : World) : (callFunc 160 #[.iface 179 (.pointer (some t))]).run Tryz.prog w = .ok (.value (rval 179 w.heap.size 150)) (w.alloc (.cells #[.pointer (some t)] 179)) := by kernel_rfl
theorem rf_val3 (t : Addr) (w : World) : (callFunc 160 #[.iface 174 (.pointer (some t))]).run Tryz.prog w = .ok (.value (rval 174 w.heap.size 150)) (w.alloc (.cells #[.pointer (some t)] 174)) := by kernel_rfl
theorem rf_val4 (e : Int) (w : World) : (callFunc 160 #[.iface 94 (.int .i64 e)]).run Tryz.prog w = .ok (.value (rval 94 w.heap.size 130)) (w.alloc (.cells #[.int .i64 e] 94)) := by kernel_rfl
theorem rf_type1 (b : Nat) (w : World) : (callFunc 161 #[rval 176 b 150]).run Tryz.prog w = .ok (.value (rty 176)) w := by kernel_rfl
theorem rf_type2 (b : Nat) (w : World) : (callFunc 161 #[rval 179 b 150]).run Tryz.prog w = .ok (.value (rty 179)) w := by kernel_rfl
theorem rf_kind1 (w : World) : (callMethod (rty 176) "Kind" #[]).run Tryz.prog w = .ok (.value (.int .u8 22)) w := by kernel_rfl
theorem rf_kind2 (w : World) : (callMethod (rty 179) "Kind" #[]).run Tryz.prog w = .ok (.value (.int .u8 22)) w := by kernel_rfl
theorem rf_kind3 (w : World) : (callMethod (rty 174) "Kind" #[]).run Tryz.prog w = .ok (.value (.int .u8 22)) w := by kernel_rfl
theorem rf_kind4 (w : World) : (callMethod (rty 94) "Kind" #[]).run Tryz.prog w = .ok (.value (.int .u8 2)) w := by kernel_rfl
theorem rf_elem1 (w : World) : (callMethod (rty 176) "Elem" #[]).run Tryz.prog w = .ok (.value (rty 174)) w := by kernel_rfl
theorem rf_elem2 (w : World) : (callMethod (rty 179) "Elem" #[]).run Tryz.prog w = .ok (.value (rty 94)) w := by kernel_rfl
theorem rf_impl3 (w : World) : (callMethod (rty 174) "Implements" #[rty 90]).run Tryz.prog w = .ok (.value (.bool true)) w := by kernel_rfl
theorem rf_impl4 (w : World) : (callMethod (rty 94) "Implements" #[rty 90]).run Tryz.prog w = .ok (.value (.bool true)) w := by kernel_rfl
theorem rf_typeOf3 (v : Value) (w : World) : (callFunc 206 #[.iface 174 v]).run Tryz.prog w = .ok (.value (rty 174)) w := by kernel_rfl
theorem rf_typeOf4 (v : Value) (w : World) : (callFunc 206 #[.iface 94 v]).run Tryz.prog w = .ok (.value (rty 94)) w := by kernel_rfl
theorem rf_asg33 (w : World) : (callMethod (rty 174) "AssignableTo" #[rty 174]).run Tryz.prog w = .ok (.value (.bool true)) w := by kernel_rfl
theorem rf_asg34 (w : World) : (callMethod (rty 174) "AssignableTo" #[rty 94]).run Tryz.prog w = .ok (.value (.bool false)) w := by kernel_rfl
theorem rf_asg44 (w : World) : (callMethod (rty 94) "AssignableTo" #[rty 94]).run Tryz.prog w = .ok (.value (.bool true)) w := by kernel_rfl
end Go.Proofs.YtjhocljhhpkiiaaGreatDoor
/- U94 -/
namespace Go.Proofs.YtjhocljhhpkiiaaGreatDoor
set_option linter.unusedSimpArgs false
set_option linter.unusedVariables false
open Go.RowKit Go.Extern.Stop Go.Stop Go.Extern
theorem rlm (z : Sem Value) (f : TypeId → Addr → Nat → Nat → Sem Value) (v : Value) :
    ReflectliteValue.method z f #[v] = (do match ← ReflectliteValue.parts v with | none => z | some (t, a, fl) => f t a fl (fl % 32)) := rfl
theorem rls (v x : Value) : ReflectliteValue.set #[v, x] = (do
    let (some (dst, a, fl), some (src, b, _)) := (← ReflectliteValue.parts v, ← ReflectliteValue.parts x)
      | unsupported (.noEntry "extern/(internal/reflectlite.Value).Set.zeroValue")
    if fl / ReflectliteValue.flagAddr % 2 == 0 then unsupported (.noEntry "extern/(internal/reflectlite.Value).Set.unaddressable")
    let val ← loadVar src b
    if ← Rtype.directlyAssignable dst src then storeVar dst a val
    else if ← Rtype.implements dst src then
      if (← Rtype.kind src) == 20 then
        match val with
        | .nilIface => unsupported (.noEntry "extern/reflectlite: a nil value of one interface type handed on as a value of another")
        | _ => storeVar dst a val
      else storeVar dst a (.iface src val)
    else panicString ("reflectlite.Set: value of type " ++ (← Rtype.spelt src) ++ " is not assignable to type " ++ (← Rtype.spelt dst))
    pure (.tuple #[])) := rfl
theorem rf_pP1 (b : Nat) (w : World) : (ReflectliteValue.parts (rval 176 b 150)).run Tryz.prog w = .ok (some (176, ⟨b, 0, none⟩, 150)) w := by kernel_rfl
theorem rf_pA1 (b : Nat) (w : World) : (ReflectliteValue.parts (rval 174 b 406)).run Tryz.prog w = .ok (some (174, ⟨b, 0, none⟩, 406)) w := by kernel_rfl
theorem rf_pE1 (b : Nat) (w : World) : (ReflectliteValue.parts (rval 174 b 150)).run Tryz.prog w = .ok (some (174, ⟨b, 0, none⟩, 150)) w := by kernel_rfl
theorem rf_nil1 (b : Nat) (p : Addr) (w : World) (ha : w.cell? ⟨b, 0, none⟩ = some (.pointer (some p))) : (callFunc 162 #[rval 176 b 150]).run Tryz.prog w = .ok (.value (.bool false)) w := by
  have h : (ReflectliteValue.method (ReflectliteValue.valueError "reflectlite.Value.IsNil" 0) ReflectliteValue.isNil #[rval 176 b 150]).run Tryz.prog w = .ok (.bool false) w := by
    rw [rlm]
    simp only [Sem.run_bind, rf_pP1, Result.andThen]
    simp [ReflectliteValue.isNil, loadVar, isAgg, underlying, Tryz.underlying176, ha, Result.andThen]
  have hF := @run_callFunc_extern Tryz.prog 162 _ (ReflectliteValue.method (ReflectliteValue.valueError "reflectlite.Value.IsNil" 0) ReflectliteValue.isNil) Tryz.func162 (by kernel_rfl) (by kernel_rfl) (by kernel_rfl) (by kernel_rfl)
  rw [hF, h]
  rfl
theorem rf_eO1 (w : World) : (Rtype.elem? 176).run Tryz.prog w = .ok (some 174) w := by kernel_rfl
theorem rf_mk1 (p : Nat) (w : World) : (ReflectliteValue.mk 174 ⟨p, 0, none⟩ ReflectliteValue.flagAddr).run Tryz.prog w = .ok (rval 174 p 406) w := by kernel_rfl
theorem rf_elemV1 (b p : Nat) (w : World) (ha : w.cell? ⟨b, 0, none⟩ = some (.pointer (some ⟨p, 0, none⟩))) : (callFunc 207 #[rval 176 b 150]).run Tryz.prog w = .ok (.value (rval 174 p 406)) w := by
  have h : (ReflectliteValue.method (ReflectliteValue.valueError "reflectlite.Value.Elem" 0) ReflectliteValue.elem #[rval 176 b 150]).run Tryz.prog w = .ok (rval 174 p 406) w := by
    rw [rlm]
    simp only [Sem.run_bind, rf_pP1, Result.andThen]
    simp [ReflectliteValue.elem, loadVar, isAgg, underlying, Tryz.underlying176, ha, Result.andThen, rf_eO1, rf_mk1]
  have hF := @run_callFunc_extern Tryz.prog 207 _ (ReflectliteValue.method (ReflectliteValue.valueError "reflectlite.Value.Elem" 0) ReflectliteValue.elem) Tryz.func207 (by kernel_rfl) (by kernel_rfl) (by kernel_rfl) (by kernel_rfl)
  rw [hF, h]
  rfl
theorem rf_dA1 (w : World) : (Rtype.directlyAssignable 174 174).run Tryz.prog w = .ok true w := by kernel_rfl
theorem rf_set1 (t b : Nat) (e : Addr) (old : Value) (w : World) (hb : w.cell? ⟨b, 0, none⟩ = some (.pointer (some e))) (ht : w.heap[t]? = some (.cells #[old] 174 (0, 0))) : (callFunc 208 #[rval 174 t 406, rval 174 b 150]).run Tryz.prog w = .ok (.value (.tuple #[])) (w.setCell ⟨t, 0, none⟩ (.pointer (some e))) := by
  obtain ⟨hc, hf⟩ := blk_cells ht
  have h : (ReflectliteValue.set #[rval 174 t 406, rval 174 b 150]).run Tryz.prog w = .ok (.tuple #[]) (w.setCell ⟨t, 0, none⟩ (.pointer (some e))) := by
    rw [rls]
    simp only [Sem.run_bind, rf_pA1, rf_pE1, Result.andThen]
    simp [ReflectliteValue.flagAddr, loadVar, isAgg, underlying, Tryz.underlying174, hb, Result.andThen, rf_dA1, storeVar, Value.cells, storeCells, Addr.add]
    rw [run_store Tryz.prog w ⟨t, 0, none⟩ _ _ (by rfl)]
    simp [hc, hf]
  have hF := @run_callFunc_extern Tryz.prog 208 _ ReflectliteValue.set Tryz.func208 (by kernel_rfl) (by kernel_rfl) (by kernel_rfl) (by kernel_rfl)
  rw [hF, h]
  rfl
theorem rf_pP2 (b : Nat) (w : World) : (ReflectliteValue.parts (rval 179 b 150)).run Tryz.prog w = .ok (some (179, ⟨b, 0, none⟩, 150)) w := by kernel_rfl
theorem rf_pA2 (b : Nat) (w : World) : (ReflectliteValue.parts (rval 94 b 386)).run Tryz.prog w = .ok (some (94, ⟨b, 0, none⟩, 386)) w := by kernel_rfl
theorem rf_pE2 (b : Nat) (w : World) : (ReflectliteValue.parts (rval 94 b 130)).run Tryz.prog w = .ok (some (94, ⟨b, 0, none⟩, 130)) w := by kernel_rfl
theorem rf_nil2 (b : Nat) (p : Addr) (w : World) (ha : w.cell? ⟨b, 0, none⟩ = some (.pointer (some p))) : (callFunc 162 #[rval 179 b 150]).run Tryz.prog w = .ok (.value (.bool false)) w := by
  have h : (ReflectliteValue.method (ReflectliteValue.valueError "reflectlite.Value.IsNil" 0) ReflectliteValue.isNil #[rval 179 b 150]).run Tryz.prog w = .ok (.bool false) w := by
    rw [rlm]
    simp only [Sem.run_bind, rf_pP2, Result.andThen]
    simp [ReflectliteValue.isNil, loadVar, isAgg, underlying, Tryz.underlying179, ha, Result.andThen]
  have hF := @run_callFunc_extern Tryz.prog 162 _ (ReflectliteValue.method (ReflectliteValue.valueError "reflectlite.Value.IsNil" 0) ReflectliteValue.isNil) Tryz.func162 (by kernel_rfl) (by kernel_rfl) (by kernel_rfl) (by kernel_rfl)
  rw [hF, h]
  rfl
theorem rf_eO2 (w : World) : (Rtype.elem? 179).run Tryz.prog w = .ok (some 94) w := by kernel_rfl
theorem rf_mk2 (p : Nat) (w : World) : (ReflectliteValue.mk 94 ⟨p, 0, none⟩ ReflectliteValue.flagAddr).run Tryz.prog w = .ok (rval 94 p 386) w := by kernel_rfl
theorem rf_elemV2 (b p : Nat) (w : World) (ha : w.cell? ⟨b, 0, none⟩ = some (.pointer (some ⟨p, 0, none⟩))) : (callFunc 207 #[rval 179 b 150]).run Tryz.prog w = .ok (.value (rval 94 p 386)) w := by
  have h : (ReflectliteValue.method (ReflectliteValue.valueError "reflectlite.Value.Elem" 0) ReflectliteValue.elem #[rval 179 b 150]).run Tryz.prog w = .ok (rval 94 p 386) w := by
    rw [rlm]
    simp only [Sem.run_bind, rf_pP2, Result.andThen]
    simp [ReflectliteValue.elem, loadVar, isAgg, underlying, Tryz.underlying179, ha, Result.andThen, rf_eO2, rf_mk2]
  have hF := @run_callFunc_extern Tryz.prog 207 _ (ReflectliteValue.method (ReflectliteValue.valueError "reflectlite.Value.Elem" 0) ReflectliteValue.elem) Tryz.func207 (by kernel_rfl) (by kernel_rfl) (by kernel_rfl) (by kernel_rfl)
  rw [hF, h]
  rfl
theorem rf_dA2 (w : World) : (Rtype.directlyAssignable 94 94).run Tryz.prog w = .ok true w := by kernel_rfl
theorem rf_set2 (t b : Nat) (e : Int) (old : Value) (w : World) (hb : w.cell? ⟨b, 0, none⟩ = some (.int .i64 e)) (ht : w.heap[t]? = some (.cells #[old] 94 (0, 0))) : (callFunc 208 #[rval 94 t 386, rval 94 b 130]).run Tryz.prog w = .ok (.value (.tuple #[])) (w.setCell ⟨t, 0, none⟩ (.int .i64 e)) := by
  obtain ⟨hc, hf⟩ := blk_cells ht
  have h : (ReflectliteValue.set #[rval 94 t 386, rval 94 b 130]).run Tryz.prog w = .ok (.tuple #[]) (w.setCell ⟨t, 0, none⟩ (.int .i64 e)) := by
    rw [rls]
    simp only [Sem.run_bind, rf_pA2, rf_pE2, Result.andThen]
    simp [ReflectliteValue.flagAddr, loadVar, isAgg, underlying, Tryz.underlying94, hb, Result.andThen, rf_dA2, storeVar, Value.cells, storeCells, Addr.add]
    rw [run_store Tryz.prog w ⟨t, 0, none⟩ _ _ (by rfl)]
    simp [hc, hf]
  have hF := @run_callFunc_extern Tryz.prog 208 _ ReflectliteValue.set Tryz.func208 (by kernel_rfl) (by kernel_rfl) (by kernel_rfl) (by kernel_rfl)
  rw [hF, h]
  rfl
end Go.Proofs.YtjhocljhhpkiiaaGreatDoor
/- U95 -/
namespace Go.Proofs.YtjhocljhhpkiiaaGreatDoor
set_option linter.unusedSimpArgs false
set_option linter.unusedVariables false
open Go.RowKit Go.Extern.Stop Go.Stop Go.Extern
instance iU95_1 : TIf Tryz.prog 20 := ⟨by kernel_rfl⟩
instance iU95_2 : MethT Tryz.prog 174 "Unwrap" 247 := ⟨fun v args w => by kernel_rfl⟩
instance iU95_3 : TRow Tryz.prog 259 3 := ⟨⟨_, Tryz.underlying259, rfl⟩, by kernel_rfl⟩
instance iU95_4 : TZ Tryz.prog 259 [.pointer none, .pointer none, .int .u64 0] := ⟨⟨.agg #[.pointer none, .pointer none, .int .u64 0], by kernel_rfl, rfl⟩⟩
instance iU95_5 : TOne Tryz.prog 262 := ⟨⟨_, Tryz.underlying262, rfl⟩, by kernel_rfl⟩
abbrev ERT : Fa := .rd (some ⟨0, 0, none⟩) [rty 90]
theorem r_asLack {P : Program} {n : Nat} {D : List Deferred} {E : Env} {L : List Fa} {x : Operand} {xT T t : TypeId} {v z : Value} {want : Array (String × TypeId)} (hu : P.underlying T = some (.interface want)) (h : (P.info? t).map (fun i => (lacking want i.methods).isEmpty) = some false) (hz : (P.info? T).map (·.zero) = some (some z)) (hx : ev E x = some (.iface t v)) : Runs0 P n D E L (.typeAssert x xT T true) (.tuple #[z, .bool false]) := fun a w ka s o ho => by
  unfold execOp
  simp only [ho, ka.ev hx]
  rw [Sem.run_bind, run_typeAssert_lacksB hu h hz]
  rfl
theorem r_asHas {P : Program} {n : Nat} {D : List Deferred} {E : Env} {L : List Fa} {x : Operand} {xT T t : TypeId} {v : Value} {want : Array (String × TypeId)} (hu : P.underlying T = some (.interface want)) (h : (P.info? t).map (fun i => (lacking want i.methods).isEmpty) = some true) (hx : ev E x = some (.iface t v)) : Runs0 P n D E L (.typeAssert x xT T true) (.tuple #[.iface t v, .bool true]) := fun a w ka s o ho => by
  unfold execOp
  simp only [ho, ka.ev hx]
  rw [Sem.run_bind, run_typeAssert_hasB hu h]
  rfl
theorem fUnwrap_s (e : Nat) (op : ByteArray) (i c : Int) : Spec Tryz.prog 247 [.pointer (some ⟨e, 0, none⟩)].toArray [.rd (some ⟨e, 0, none⟩) (fltC op i c)] [] (fun _ : Unit => .iface 94 (.int .i64 c)) (fun _ => []) := by
  refine spec_of Tryz.func247 rfl (n := 9) rfl rfl ?_
  intro W
  refine h_seq ?_
  refine h_reg ?_
  refine h_op (r_assign rfl) ?_
  refine h_nil ?_
  refine q_then ?_
  refine h_seq ?_
  refine h_seq ?_
  refine h_reg ?_
  refine h_op (r_move rfl) ?_
  refine h_op (r_nilR rfl rfl) ?_
  refine h_nil ?_
  refine q_then ?_
  refine h_condF rfl ?_
  refine h_skip ?_
  refine q_then ?_
  refine h_seq ?_
  refine h_reg ?_
  refine h_op (r_move rfl) ?_
  refine h_op (r_nilc rfl) ?_
  refine h_op (r_field rfl) ?_
  refine h_op (r_loadc rfl) ?_
  refine h_op (r_assign rfl) ?_
  refine h_nil ?_
  refine q_then ?_
  refine h_ret ?_
  exact h_ret1 rfl rfl fun w s => ⟨(), rfl, s.res (List.nil_sublist _) (by simp)⟩
theorem as_in1 (e t b : Nat) : Spec Tryz.prog 163 [.iface 174 (.pointer (some ⟨e, 0, none⟩)), .iface 176 (.pointer (some ⟨t, 0, none⟩)), rval 176 b 150, rty 174].toArray [.rd (some ⟨b, 0, none⟩) [.pointer (some ⟨t, 0, none⟩)]] [.blk t [.pointer none] 174] (fun _ : Unit => .bool true) (fun _ => [.blk t [.pointer (some ⟨e, 0, none⟩)] 174]) := by
  refine spec_of Tryz.func163 rfl (n := 62) rfl rfl ?_
  intro W
  refine h_seq ?_
  refine h_reg ?_
  refine h_opX (x_box rfl) fun g6 => ?_
  refine h_op (r_assign rfl) ?_
  refine h_nil ?_
  refine q_then ?_
  refine h_block ?_
  refine h_loop (fun (s : Unit) => True) (fun (s : Unit) => [(0, .iface 174 (.pointer (some ⟨e, 0, none⟩))), (3, rty 174), (6, .pointer (some ⟨g6, 0, none⟩))]) (fun (s : Unit) => [.blk g6 [hdl 176, .pointer (some ⟨b, 0, none⟩), .int .u64 150] 259, .blk t [.pointer none] 174, .rd (some ⟨b, 0, none⟩) [.pointer (some ⟨t, 0, none⟩)]]) (fun (s : Unit) => 0) () (trivial) ⟨rfl, rfl, rfl, trivial⟩ (same) ?_
  rintro _ _
  refine h_block ?_
  refine h_seq ?_
  refine h_seq ?_
  refine h_reg ?_
  refine h_op (r_move rfl) ?_
  refine h_op (r_fun (rf_typeOf3 _) rfl) ?_
  refine h_op (r_move rfl) ?_
  refine h_op (r_inv rf_asg33 rfl rfl) ?_
  refine h_nil ?_
  refine q_then ?_
  refine h_condT rfl ?_
  refine h_seq ?_
  refine h_reg ?_
  refine h_op (r_loadr rfl) ?_
  refine h_op (r_funC (u := .pointer (some ⟨t, 0, none⟩)) (fun w hw => rf_elemV1 b t w hw) rfl) ?_
  refine h_op (r_move rfl) ?_
  refine h_opX (x_fun (u := fun b => rval 174 b 150) (cs := [.pointer (some ⟨e, 0, none⟩)]) (rf_val3 ⟨e, 0, none⟩) rfl) fun g23 => ?_
  refine h_opX (x_setV (g := t) (u := .pointer (some ⟨e, 0, none⟩)) (fun w h1 h2 => rf_set1 t g23 ⟨e, 0, none⟩ _ w h1 h2) rfl) fun g24 => ?_
  refine h_nil ?_
  refine q_then ?_
  refine h_seq ?_
  refine h_reg ?_
  refine h_op (r_assign rfl) ?_
  refine h_nil ?_
  refine q_then ?_
  refine h_ret ?_
  refine q_thenR ?_
  refine q_blockR ?_
  refine q_thenR ?_
  refine q_blockR ?_
  exact h_ret1 rfl rfl fun w s => ⟨(), rfl, (same (L' := [.blk t [.pointer (some ⟨e, 0, none⟩)] 174]) w s).res (List.Sublist.refl _) (by simp [Fa.wr])⟩
theorem as_s1 (e t : Nat) : Spec Tryz.prog 104 [.iface 174 (.pointer (some ⟨e, 0, none⟩)), .iface 176 (.pointer (some ⟨t, 0, none⟩))].toArray [ERT] [.blk t [.pointer none] 174] (fun _ : Unit => .bool true) (fun _ => [.blk t [.pointer (some ⟨e, 0, none⟩)] 174]) := by
  refine spec_of Tryz.func104 rfl (n := 42) rfl rfl ?_
  intro W
  refine h_seq ?_
  refine h_reg ?_
  refine h_op (r_assign rfl) ?_
  refine h_nil ?_
  refine q_then ?_
  refine h_seq ?_
  refine h_seq ?_
  refine h_reg ?_
  refine h_op (r_move rfl) ?_
  refine h_op (r_ifnil rfl) ?_
  refine h_nil ?_
  refine q_then ?_
  refine h_condF rfl ?_
  refine h_skip ?_
  refine q_then ?_
  refine h_seq ?_
  refine h_seq ?_
  refine h_reg ?_
  refine h_op (r_move rfl) ?_
  refine h_op (r_ifnil rfl) ?_
  refine h_nil ?_
  refine q_then ?_
  refine h_condF rfl ?_
  refine h_skip ?_
  refine q_then ?_
  refine h_seq ?_
  refine h_reg ?_
  refine h_op (r_move rfl) ?_
  refine h_opX (x_fun (u := fun b => rval 176 b 150) (cs := [.pointer (some ⟨t, 0, none⟩)]) (rf_val1 ⟨t, 0, none⟩) rfl) fun g14 => ?_
  refine h_opX (x_alloc) fun g5 => ?_
  refine h_opS (s_storer rfl rfl) ?_
  refine h_nil ?_
  refine q_then ?_
  refine h_seq ?_
  refine h_reg ?_
  refine h_op (r_loadr rfl) ?_
  refine h_op (r_fun (rf_type1 g14) rfl) ?_
  refine h_op (r_assign rfl) ?_
  refine h_nil ?_
  refine q_then ?_
  refine h_seq ?_
  refine h_seq ?_
  refine h_reg ?_
  refine h_op (r_move rfl) ?_
  refine h_op (r_inv rf_kind1 rfl rfl) ?_
  refine h_op (r_bool (r_neq rfl rfl) rfl) ?_
  refine h_op (r_move rfl) ?_
  refine h_op (r_loadr rfl) ?_
  refine h_op (r_funC (u := .pointer (some ⟨t, 0, none⟩)) (fun w hw => rf_nil1 g14 ⟨t, 0, none⟩ w hw) rfl) ?_
  refine h_op (r_pick rfl rfl) ?_
  refine h_nil ?_
  refine q_then ?_
  refine h_condF rfl ?_
  refine h_skip ?_
  refine q_then ?_
  refine h_seq ?_
  refine h_reg ?_
  refine h_op (r_move rfl) ?_
  refine h_op (r_inv rf_elem1 rfl rfl) ?_
  refine h_op (r_assign rfl) ?_
  refine h_nil ?_
  refine q_then ?_
  refine h_seq ?_
  refine h_seq ?_
  refine h_reg ?_
  refine h_op (r_move rfl) ?_
  refine h_op (r_inv rf_kind3 rfl rfl) ?_
  refine h_op (r_bool (r_neq rfl rfl) rfl) ?_
  refine h_op (r_move rfl) ?_
  refine h_op (r_move rfl) ?_
  refine h_op (r_loadc rfl) ?_
  refine h_op (r_inv rf_impl3 rfl rfl) ?_
  refine h_op (r_not rfl) ?_
  refine h_op (r_pick rfl rfl) ?_
  refine h_nil ?_
  refine q_then ?_
  refine h_condF rfl ?_
  refine h_skip ?_
  refine q_then ?_
  refine h_seq ?_
  refine h_reg ?_
  refine h_op (r_move rfl) ?_
  refine h_op (r_move rfl) ?_
  refine h_op (r_loadr rfl) ?_
  refine h_op (r_move rfl) ?_
  refine h_call ((as_in1 e t g14).comes) rfl rfl rfl fun _ => ?_
  refine h_op (r_assign rfl) ?_
  refine h_nil ?_
  refine q_then ?_
  refine h_ret ?_
  exact h_ret1 rfl rfl fun w s => ⟨(), rfl, (same (L' := [.blk t [.pointer (some ⟨e, 0, none⟩)] 174]) w s).res (List.Sublist.refl _) (by simp [Fa.wr])⟩
theorem as_in2 (e t b : Nat) (op : ByteArray) (i c : Int) : Spec Tryz.prog 163 [.iface 174 (.pointer (some ⟨e, 0, none⟩)), .iface 179 (.pointer (some ⟨t, 0, none⟩)), rval 179 b 150, rty 94].toArray [.rd (some ⟨b, 0, none⟩) [.pointer (some ⟨t, 0, none⟩)], .rd (some ⟨e, 0, none⟩) (fltC op i c)] [.blk t [.int .i64 0] 94] (fun _ : Unit => .bool true) (fun _ => [.blk t [.int .i64 c] 94]) := by
  refine spec_of Tryz.func163 rfl (n := 62) rfl rfl ?_
  intro W
  refine h_seq ?_
  refine h_reg ?_
  refine h_opX (x_box rfl) fun g6 => ?_
  refine h_op (r_assign rfl) ?_
  refine h_nil ?_
  refine q_then ?_
  refine h_block ?_
  refine h_loop (fun (s : Bool) => True) (fun (s : Bool) => [(0, if s then .iface 94 (.int .i64 c) else .iface 174 (.pointer (some ⟨e, 0, none⟩))), (3, rty 94), (6, .pointer (some ⟨g6, 0, none⟩))]) (fun (s : Bool) => [.blk g6 [hdl 179, .pointer (some ⟨b, 0, none⟩), .int .u64 150] 259, .blk t [.int .i64 0] 94, .rd (some ⟨b, 0, none⟩) [.pointer (some ⟨t, 0, none⟩)], .rd (some ⟨e, 0, none⟩) (fltC op i c)]) (fun (s : Bool) => (if s then 0 else 1)) false (trivial) ⟨rfl, rfl, rfl, trivial⟩ (same) ?_
  rintro s _
  cases s
  · refine h_block ?_
    refine h_seq ?_
    refine h_seq ?_
    refine h_reg ?_
    refine h_op (r_move rfl) ?_
    refine h_op (r_fun (rf_typeOf3 _) rfl) ?_
    refine h_op (r_move rfl) ?_
    refine h_op (r_inv rf_asg34 rfl rfl) ?_
    refine h_nil ?_
    refine q_then ?_
    refine h_condF rfl ?_
    refine h_skip ?_
    refine q_then ?_
    refine h_seq ?_
    refine h_seq ?_
    refine h_reg ?_
    refine h_op (r_move rfl) ?_
    refine h_op (r_asLack (t := 174) (z := .nilIface) Tryz.underlying313 (by kernel_rfl) (by kernel_rfl) rfl) ?_
    refine h_op (r_move rfl) ?_
    refine h_op (r_extract rfl rfl) ?_
    refine h_op (r_extract rfl rfl) ?_
    refine h_op (r_assign rfl) ?_
    refine h_op (r_assign rfl) ?_
    refine h_nil ?_
    refine q_then ?_
    refine h_seq ?_
    refine h_reg ?_
    refine h_op (r_move rfl) ?_
    refine h_op (r_move rfl) ?_
    refine h_opOff ?_
    refine h_opOff ?_
    refine h_opOff ?_
    refine h_op (r_pick rfl rfl) ?_
    refine h_nil ?_
    refine q_then ?_
    refine h_condF rfl ?_
    refine h_skip ?_
    refine q_then ?_
    refine h_seq ?_
    refine h_reg ?_
    refine h_op (r_move rfl) ?_
    refine h_nil ?_
    refine q_then ?_
    refine h_block ?_
    refine h_seq ?_
    refine h_reg ?_
    refine h_op (r_asHas (t := 174) Tryz.underlying316 (by kernel_rfl) rfl) ?_
    refine h_op (r_extract rfl rfl) ?_
    refine h_op (r_extract rfl rfl) ?_
    refine h_nil ?_
    refine q_then ?_
    refine h_condT rfl ?_
    refine h_seq ?_
    refine h_reg ?_
    refine h_op (r_assign rfl) ?_
    refine h_nil ?_
    refine q_then ?_
    refine h_seq ?_
    refine h_reg ?_
    refine h_op (r_move rfl) ?_
    refine h_callM ((fUnwrap_s e op i c).comes) rfl rfl rfl fun _ => ?_
    refine h_op (r_assign rfl) ?_
    refine h_nil ?_
    refine q_then ?_
    refine h_seq ?_
    refine h_reg ?_
    refine h_op (r_move rfl) ?_
    refine h_op (r_ifnil rfl) ?_
    refine h_nil ?_
    refine q_then ?_
    refine h_condF rfl ?_
    refine h_skip ?_
    refine q_block ?_
    refine q_block ?_
    exact h_back true (trivial) ((show 0 < 1 by decide)) ⟨rfl, rfl, rfl, trivial⟩ (same)
  · refine h_block ?_
    refine h_seq ?_
    refine h_seq ?_
    refine h_reg ?_
    refine h_op (r_move rfl) ?_
    refine h_op (r_fun (rf_typeOf4 _) rfl) ?_
    refine h_op (r_move rfl) ?_
    refine h_op (r_inv rf_asg44 rfl rfl) ?_
    refine h_nil ?_
    refine q_then ?_
    refine h_condT rfl ?_
    refine h_seq ?_
    refine h_reg ?_
    refine h_op (r_loadr rfl) ?_
    refine h_op (r_funC (u := .pointer (some ⟨t, 0, none⟩)) (fun w hw => rf_elemV2 b t w hw) rfl) ?_
    refine h_op (r_move rfl) ?_
    refine h_opX (x_fun (u := fun b => rval 94 b 130) (cs := [.int .i64 c]) (rf_val4 c) rfl) fun g23 => ?_
    refine h_opX (x_setV (g := t) (u := .int .i64 c) (fun w h1 h2 => rf_set2 t g23 c _ w h1 h2) rfl) fun g24 => ?_
    refine h_nil ?_
    refine q_then ?_
    refine h_seq ?_
    refine h_reg ?_
    refine h_op (r_assign rfl) ?_
    refine h_nil ?_
    refine q_then ?_
    refine h_ret ?_
    refine q_thenR ?_
    refine q_blockR ?_
    refine q_thenR ?_
    refine q_blockR ?_
    exact h_ret1 rfl rfl fun w s => ⟨(), rfl, (same (L' := [.blk t [.int .i64 c] 94]) w s).res (List.Sublist.refl _) (by simp [Fa.wr])⟩
theorem as_s2 (e t : Nat) (op : ByteArray) (i c : Int) : Spec Tryz.prog 104 [.iface 174 (.pointer (some ⟨e, 0, none⟩)), .iface 179 (.pointer (some ⟨t, 0, none⟩))].toArray [ERT, .rd (some ⟨e, 0, none⟩) (fltC op i c)] [.blk t [.int .i64 0] 94] (fun _ : Unit => .bool true) (fun _ => [.blk t [.int .i64 c] 94]) := by
  refine spec_of Tryz.func104 rfl (n := 42) rfl rfl ?_
  intro W
  refine h_seq ?_
  refine h_reg ?_
  refine h_op (r_assign rfl) ?_
  refine h_nil ?_
  refine q_then ?_
  refine h_seq ?_
  refine h_seq ?_
  refine h_reg ?_
  refine h_op (r_move rfl) ?_
  refine h_op (r_ifnil rfl) ?_
  refine h_nil ?_
  refine q_then ?_
  refine h_condF rfl ?_
  refine h_skip ?_
  refine q_then ?_
  refine h_seq ?_
  refine h_seq ?_
  refine h_reg ?_
  refine h_op (r_move rfl) ?_
  refine h_op (r_ifnil rfl) ?_
  refine h_nil ?_
  refine q_then ?_
  refine h_condF rfl ?_
  refine h_skip ?_
  refine q_then ?_
  refine h_seq ?_
  refine h_reg ?_
  refine h_op (r_move rfl) ?_
  refine h_opX (x_fun (u := fun b => rval 179 b 150) (cs := [.pointer (some ⟨t, 0, none⟩)]) (rf_val2 ⟨t, 0, none⟩) rfl) fun g14 => ?_
  refine h_opX (x_alloc) fun g5 => ?_
  refine h_opS (s_storer rfl rfl) ?_
  refine h_nil ?_
  refine q_then ?_
  refine h_seq ?_
  refine h_reg ?_
  refine h_op (r_loadr rfl) ?_
  refine h_op (r_fun (rf_type2 g14) rfl) ?_
  refine h_op (r_assign rfl) ?_
  refine h_nil ?_
  refine q_then ?_
  refine h_seq ?_
  refine h_seq ?_
  refine h_reg ?_
  refine h_op (r_move rfl) ?_
  refine h_op (r_inv rf_kind2 rfl rfl) ?_
  refine h_op (r_bool (r_neq rfl rfl) rfl) ?_
  refine h_op (r_move rfl) ?_
  refine h_op (r_loadr rfl) ?_
  refine h_op (r_funC (u := .pointer (some ⟨t, 0, none⟩)) (fun w hw => rf_nil2 g14 ⟨t, 0, none⟩ w hw) rfl) ?_
  refine h_op (r_pick rfl rfl) ?_
  refine h_nil ?_
  refine q_then ?_
  refine h_condF rfl ?_
  refine h_skip ?_
  refine q_then ?_
  refine h_seq ?_
  refine h_reg ?_
  refine h_op (r_move rfl) ?_
  refine h_op (r_inv rf_elem2 rfl rfl) ?_
  refine h_op (r_assign rfl) ?_
  refine h_nil ?_
  refine q_then ?_
  refine h_seq ?_
  refine h_seq ?_
  refine h_reg ?_
  refine h_op (r_move rfl) ?_
  refine h_op (r_inv rf_kind4 rfl rfl) ?_
  refine h_op (r_bool (r_neq rfl rfl) rfl) ?_
  refine h_op (r_move rfl) ?_
  refine h_op (r_move rfl) ?_
  refine h_op (r_loadc rfl) ?_
  refine h_op (r_inv rf_impl4 rfl rfl) ?_
  refine h_op (r_not rfl) ?_
  refine h_op (r_pick rfl rfl) ?_
  refine h_nil ?_
  refine q_then ?_
  refine h_condF rfl ?_
  refine h_skip ?_
  refine q_then ?_
  refine h_seq ?_
  refine h_reg ?_
  refine h_op (r_move rfl) ?_
  refine h_op (r_move rfl) ?_
  refine h_op (r_loadr rfl) ?_
  refine h_op (r_move rfl) ?_
  refine h_call ((as_in2 e t g14 op i c).comes) rfl rfl rfl fun _ => ?_
  refine h_op (r_assign rfl) ?_
  refine h_nil ?_
  refine q_then ?_
  refine h_ret ?_
  exact h_ret1 rfl rfl fun w s => ⟨(), rfl, (same (L' := [.blk t [.int .i64 c] 94]) w s).res (List.Sublist.refl _) (by simp [Fa.wr])⟩
theorem Code_s (e : Nat) (op : ByteArray) (i c : Int) : Spec Tryz.prog 52 [.iface 174 (.pointer (some ⟨e, 0, none⟩))].toArray [ERT, .rd (some ⟨e, 0, none⟩) (fltC op i c)] [] (fun _ : Unit => .int .i64 c) (fun _ => []) := by
  refine spec_of Tryz.func52 rfl (n := 12) rfl rfl ?_
  intro W
  refine h_seq ?_
  refine h_reg ?_
  refine h_op (r_assign rfl) ?_
  refine h_nil ?_
  refine q_then ?_
  refine h_seq ?_
  refine h_reg ?_
  refine h_opX (x_alloc) fun g3 => ?_
  refine h_nil ?_
  refine q_then ?_
  refine h_seq ?_
  refine h_block ?_
  refine h_seq ?_
  refine h_reg ?_
  refine h_op (r_move rfl) ?_
  refine h_op (r_ifnil rfl) ?_
  refine h_op (r_assign rfl) ?_
  refine h_nil ?_
  refine q_then ?_
  refine h_condF rfl ?_
  refine h_seq ?_
  refine h_reg ?_
  refine h_op (r_move rfl) ?_
  refine h_op (r_mkI rfl) ?_
  refine h_call ((as_s2 e g3 op i c).comes) rfl rfl rfl fun _ => ?_
  refine h_op (r_assign rfl) ?_
  refine h_nil ?_
  refine q_then ?_
  refine h_condT rfl ?_
  refine h_seq ?_
  refine h_reg ?_
  refine h_op (r_loadc rfl) ?_
  refine h_op (r_assign rfl) ?_
  refine h_nil ?_
  refine q_then ?_
  refine h_ret ?_
  refine q_blockR ?_
  refine q_thenR ?_
  exact h_ret1 rfl rfl fun w s => ⟨(), rfl, s.res (List.nil_sublist _) (by simp)⟩
theorem First_s (e : Nat) (op : ByteArray) (i c : Int) : Spec Tryz.prog 51 [.iface 174 (.pointer (some ⟨e, 0, none⟩))].toArray [ERT, .rd (some ⟨e, 0, none⟩) (fltC op i c)] [] (fun _ : Unit => .tuple #[.string op, .int .i64 i, .bool true]) (fun _ => []) := by
  refine spec_of Tryz.func51 rfl (n := 18) rfl rfl ?_
  intro W
  refine h_seq ?_
  refine h_reg ?_
  refine h_op (r_assign rfl) ?_
  refine h_op (r_assign rfl) ?_
  refine h_op (r_assign rfl) ?_
  refine h_nil ?_
  refine q_then ?_
  refine h_seq ?_
  refine h_reg ?_
  refine h_opX (x_alloc) fun g5 => ?_
  refine h_nil ?_
  refine q_then ?_
  refine h_seq ?_
  refine h_seq ?_
  refine h_reg ?_
  refine h_op (r_move rfl) ?_
  refine h_op (r_mkI rfl) ?_
  refine h_call ((as_s1 e g5).comes) rfl rfl rfl fun _ => ?_
  refine h_op (r_not rfl) ?_
  refine h_nil ?_
  refine q_then ?_
  refine h_condF rfl ?_
  refine h_skip ?_
  refine q_then ?_
  refine h_seq ?_
  refine ha_start [.blk g5 [.pointer (some ⟨e, 0, none⟩)] 174, .rd (some ⟨e, 0, none⟩) (fltC op i c)] [] mixed (same) ?_
  refine ha_take 0 rfl (r_loadc rfl) ?_
  refine ha_takeP 1 rfl (r_nilc rfl) ?_
  refine ha_takeP 2 rfl (r_field rfl) ?_
  refine ha_take 3 rfl (r_loadc rfl) ?_
  refine ha_take 4 rfl (r_loadc rfl) ?_
  refine ha_takeP 5 rfl (r_nilc rfl) ?_
  refine ha_takeP 6 rfl (r_field rfl) ?_
  refine ha_take 7 rfl (r_loadc rfl) ?_
  refine ha_takeP 8 rfl (r_assign rfl) ?_
  refine ha_takeP 9 rfl (r_assign rfl) ?_
  refine ha_takeP 10 rfl (r_assign rfl) ?_
  refine ha_done (by kernel_rfl) ?_
  refine q_then ?_
  refine h_ret ?_
  exact h_ret3 rfl rfl rfl rfl fun w s => ⟨(), rfl, s.res (List.nil_sublist _) (by simp)⟩
end Go.Proofs.YtjhocljhhpkiiaaGreatDoor
/- TV -/
namespace Go.Proofs.YtjhocljhhpkiiaaGreatDoor
set_option linter.unusedSimpArgs false
set_option linter.unusedVariables false
open Go.RowKit Go.ChangeShapes Go.WideShapes
section
variable {H : Type} {enc : TypeId × Value → H} {w : World} {base : Nat} {spare : Nat → Bool} {held : Bool} {v : Value} {d : DataW H} {ps : List MemPlace} {r : Reach} {b0 : Nat}
theorem c_bool : Tryz.prog.cellsOf 4 = 1 := by kernel_rfl
theorem c_Claim : Tryz.prog.cellsOf 25 = 3 := by kernel_rfl
theorem claimFields' : ∃ f1 f2 f3 : Field, Tryz.prog.underlying 25 = some (.struct #[f1, f2, f3]) ∧ f1.type = 23 ∧ f2.type = 23 ∧ f3.type = 4 ∧ f1.offset = 0 ∧ f2.offset = 1 ∧ f3.offset = 2 :=
  ⟨_, _, _, Tryz.underlying25, rfl, rfl, rfl, rfl, rfl, rfl⟩
/-- a byte slice inside an argument -/
theorem dec_bytes {fuel : Nat} {cs : List Value} {x : DataW H × List MemPlace} (h : DataW.trod enc Tryz.prog w base spare held fuel 23 cs = some x) : ∃ (s : Sl) (l : List UInt8), cs = [.slice s.A s.n s.c] ∧ SlZ (World.zh w) s l := by
  obtain ⟨l, A, c, e2, hlc, -, hA, hr, -⟩ := open_rows_t (f := fun b : UInt8 => [Value.int .u8 b.toNat]) (fun _ => rfl) Nat.one_pos Tryz.underlying23 c_u8 (fun _ => True) (fun fuel cs x h => by
    obtain ⟨n, rfl, _, hw⟩ := DataW.trod_int Tryz.underlying5 h
    have := bounds_u8 hw
    exact ⟨toByte (.int .u8 n), by rw [toByte_int this.1 this.2], trivial⟩) h
  rw [byteOf_bc] at hr
  refine ⟨⟨A, l.length, c⟩, l, e2, ⟨rfl, hlc, fun h0 => ?_, RdZ.of hr⟩⟩
  have := hA h0
  exact ⟨(show l.length = 0 by omega), this⟩
end
/-! the two laid variables -/
abbrev laidR2 : List (String × DataW Unit) := [("errors.errorType", Rows.laid_errors_errorType), ("sparsetree/sha.rounds", Rows.laid_sparsetree_sha_rounds)]
theorem gET : Tryz.prog.globalNamed "errors.errorType" = some 0 := by kernel_rfl
theorem rtET : (Tryz.prog.cutTypes.find? (·.1 == "internal/reflectlite.rtype")).map (·.2) = some 308 := by kernel_rfl
theorem oneError : ((List.range Tryz.prog.types.size).filter fun t => Tryz.prog.rowNamed t [101, 114, 114, 111, 114]) = [90] := by kernel_rfl
theorem laid_both {W : World} (h : laidMetH Tryz.prog laidR2 W) : laidMetH Tryz.prog laidR W ∧ handlesMet Tryz.prog [("errors.errorType", Rows.laid_errors_errorType)] W := by
  have h' : laidMet Tryz.prog laidR W ∧ handlesMet Tryz.prog [("errors.errorType", Rows.laid_errors_errorType)] W := h
  refine ⟨?_, h'.2⟩
  rw [MakeChecks.laidMetH_plain _ _ _ (by kernel_rfl)]
  exact h'.1
theorem error_of {W : World} (h : laidMetH Tryz.prog laidR2 W) : Rd W (some ⟨0, 0, none⟩) [rty 90] := by
  obtain ⟨name, u, ty, e1, e2, e3, e4, e5⟩ := (laid_both h).2 _ (List.mem_singleton.2 rfl)
  have en : name = [101, 114, 114, 111, 114] := (Option.some.inj e1).symm
  subst en
  obtain rfl := Option.some.inj (rtET.symm.trans e2)
  have hm : ty ∈ (List.range Tryz.prog.types.size).filter fun t => Tryz.prog.rowNamed t [101, 114, 114, 111, 114] := List.mem_filter.2 ⟨List.mem_range.2 e3, e4⟩
  rw [oneError] at hm
  obtain rfl := List.mem_singleton.1 hm
  have hh : typeHandle Tryz.prog 90 = hdl 90 := by kernel_rfl
  rw [hh] at e5
  have hc := World.var?_cell gET e5 0
  intro j u hu
  refine ⟨0, 0, rfl, ?_⟩
  match j, hu with
  | 0, hu =>
    rw [← hu]
    simpa using hc
  | j + 1, hu => exact absurd hu (by simp)
theorem door_met2 (os : Os) (args : Array Value) : laidMetH Tryz.prog laidR2 ((World.doorLaid Tryz.prog 21 os).forCall (fun _ _ => 0) ⟨#[], args, []⟩).memory :=
  laidMetH_of_parts3 (fuel := 8) (laidMet_of_run' 8 (by kernel_rfl) (by kernel_rfl)) (by kernel_rfl) (by kernel_rfl)
end Go.Proofs.YtjhocljhhpkiiaaGreatDoor
/- E14 -/
namespace Go.Proofs.YtjhocljhhpkiiaaGreatDoor
set_option linter.unusedSimpArgs false
set_option linter.unusedVariables false
open Go.RowKit
inductive Sub where
  | one (x : Item)
  | two (l r : Sub)
/-- the subtree that items begin with, with at most d levels of inner nodes -/
def readM : Nat → List Item → Option (Sub × List Item)
  | _, [] => none
  | 0, x :: rest => if x.kind = 2 then none else some (.one x, rest)
  | d + 1, x :: rest => if x.kind = 2 then (readM d rest).bind fun p => (readM d p.2).bind fun q => some (.two p.1 q.1, q.2) else some (.one x, rest)

/-- the kind is one of the four -/
def kindOk (x : Item) : Bool := decide (0 ≤ x.kind) && decide (x.kind ≤ 3)
/-- fields that have no meaning are zero -/
def cleanItem (x : Item) : Bool := (x.kind == 3 || decide (x.digest = zB32)) && (x.kind == 1 || decide (x.leaf = zLeaf))
def parseM (l : List Item) : Except Int Sub :=
  if l.all kindOk then
    match readM 256 l with
    | some (t, []) => if l.all cleanItem then .ok t else .error 5
    | _ => .error 5
  else .error 7

theorem all_take {α : Type} (p : α → Bool) (l : List α) (k : Nat) (x : α) (h : l[k]? = some x) : (l.take (k + 1)).all p = ((l.take k).all p && p x) := by
  rw [List.take_add_one, h, List.all_append]
  simp
theorem readM_suffix : ∀ (d : Nat) (l : List Item) (t : Sub) (rest : List Item), readM d l = some (t, rest) → ∃ n, 0 < n ∧ n ≤ l.length ∧ rest = l.drop n
  | _, [], t, rest, h => by cases ‹Nat› <;> simp [readM] at h
  | 0, x :: l, t, rest, h => by
    simp only [readM] at h
    split at h
    · cases h
    · simp only [Option.some.injEq, Prod.mk.injEq] at h
      exact ⟨1, by omega, by simp, by simp [h.2]⟩
  | d + 1, x :: l, t, rest, h => by
    simp only [readM] at h
    split at h
    · obtain ⟨p, hp, h⟩ := Option.bind_eq_some_iff.1 h
      obtain ⟨q, hq, h⟩ := Option.bind_eq_some_iff.1 h
      obtain ⟨n, hn0, hn, e1⟩ := readM_suffix d l p.1 p.2 hp
      obtain ⟨m, hm0, hm, e2⟩ := readM_suffix d p.2 q.1 q.2 hq
      simp only [Option.some.injEq, Prod.mk.injEq] at h
      rw [e1, List.length_drop] at hm
      refine ⟨n + m + 1, by omega, by simp; omega, ?_⟩
      rw [← h.2, e2, e1, List.drop_drop]
      rfl
    · simp only [Option.some.injEq, Prod.mk.injEq] at h
      exact ⟨1, by omega, by simp, by simp [h.2]⟩
/-- the index behind what was read -/
def skipI (l : List Item) (r : Option (Sub × List Item)) : Int := match r with | none => -1 | some p => (l.length : Int) - p.2.length

def checkM (l : List Item) : Int := match parseM l with | .ok _ => 0 | .error c => c
/-- what the reference's Check computes -/
theorem checkM_eq (l : List Item) : checkM l = if l.all kindOk then (if l.all cleanItem then (if l.length = 0 ∨ skipI l (readM 256 l) ≠ l.length then 5 else 0) else 5) else 7 := by
  unfold checkM parseM
  by_cases h1 : l.all kindOk = true
  · rw [if_pos h1, if_pos h1]
    by_cases h2 : l.all cleanItem = true
    · rw [if_pos h2]
      cases h3 : readM 256 l with
      | none =>
        have : (skipI l none) ≠ (l.length : Int) := by simp only [skipI]; omega
        simp [this]
      | some p =>
        obtain ⟨t, rest⟩ := p
        obtain ⟨n, hn0, hn, e1⟩ := readM_suffix 256 l t rest h3
        cases rest with
        | nil =>
          have h0 : l.length ≠ 0 := by omega
          have hs : skipI l (some (t, [])) = l.length := by simp [skipI]
          simp [h2, h0, hs]
        | cons y rest =>
          have hs : skipI l (some (t, y :: rest)) ≠ l.length := by simp only [skipI, List.length_cons]; omega
          simp [hs]
    · have h2' : l.all cleanItem = false := by simpa using h2
      rw [if_neg h2]
      cases h3 : readM 256 l with
      | none => rfl
      | some p =>
        obtain ⟨t, rest⟩ := p
        cases rest <;> simp [h2']
  · rw [if_neg h1, if_neg h1]
end Go.Proofs.YtjhocljhhpkiiaaGreatDoor
