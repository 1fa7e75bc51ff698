/- fold.Steps, fold.Root; Booleans compared; small laws; Shifts by eight; a slice's first cells as an array; verify: the small steps, supports, leads; codec: Size, Kind, Encode of a proof that is well-formed; codec.Encode of a proof that is well-formed; codec.Decode of the bytes of a proof that is well-formed; codec.Decode of the bytes of a proof that is well-formed; codec.Decode, of all bytes; Interface values held against nil; verify: Verify, Claim, Accepts; The library's comparison of byte slices; A slice cut at its length and its capacity; Calls of the library's entries (reflection), as single operations; errors.As at the errors of this program; fault.Code, First; errors.As at the errors of this program; fault.Code, First; verify.Check; errors.As at the errors of this program; fault.Code, First; The condition of two laid variables (the table of rounds, errors.errorType's handle); arguments that are claims, pairs of byte slices, roots with proofs, opened; Multiproofs: the subtrees that items describe: plain (joined texts: U20 N12 N13 U90 U56 U57 U58 U59 U91 N14 U92 N15 N16 N17 U93 U94 U95 TV E14) -/
import Derived.Test.YtjhocljhhpkiiaaGreatDoorP10
import Derived.WideLaws
import Derived.Lib.BytesEntry
import Derived.Lib.Bytealg
import Derived.Stop.Asserts
import Derived.LaidEql
import Derived.LaidHandle
set_option linter.all false
/- U20 -/
namespace Go.Proofs.YtjhocljhhpkiiaaGreatDoor
set_option linter.unusedSimpArgs false
set_option linter.unusedVariables false
open Go.RowKit
def stepL (n : Nat) (key : B32) (ds : List B32) (pre : List UInt8) (N : Nat) : List B32 := (List.range N).map fun k => sumB n (wayP n key ds pre k)
theorem stepL_len (n : Nat) (key : B32) (ds : List B32) (pre : List UInt8) (N : Nat) : (stepL n key ds pre N).length = N := by simp [stepL]
theorem stepL_succ (n : Nat) (key : B32) (ds : List B32) (pre : List UInt8) (N : Nat) : dgs (stepL n key ds pre N) ++ (sumB n (wayP n key ds pre N)).cells = dgs (stepL n key ds pre (N + 1)) := by
  unfold stepL
  rw [List.range_succ, List.map_append, dgs_append]
  simp [dgs]
theorem Steps_s (p : Proof) (hc : checkP p = 0) (ss : List B32) (hs : p.sibs.n = ss.length) (key : B32) (n : Nat) (hn : n ≤ 256) (gh gc k0 : Nat) (hk : k0 ≤ 800000000000) (d : Nat) (hd : p.depth = (d : Int)) : Spec Tryz.prog 204 [.pointer (some ⟨gh, 0, none⟩), .agg p.cells.toArray, .agg key.cells.toArray].toArray [.rd (some ⟨gh, 0, none⟩) [.pointer (some ⟨gc, 0, none⟩), .int .i64 (n : Int)], .rd p.sibs.A (dgs ss), .rd (some ⟨1, 0, none⟩) hashT] [.blk gc [.int .i64 (k0 : Int)] 144] (fun u : Nat × Nat => .tuple #[.slice (some ⟨u.1, 0, none⟩) (d + 1) u.2, .int .i64 0]) (fun u => [.own (.slice (some ⟨u.1, 0, none⟩) (d + 1) u.2) (d + 1) 42 32 (dgs (stepL n key (expL (sumB n preE) p.bitmap ss d) (endP p) (d + 1))), .blk gc [.int .i64 ((k0 + 1 + d + 1 : Nat) : Int)] 144]) := by
  have hd2 := ok_depth hc
  have hE := Expand_s p hc ss hs n hn gh gc k0 (by omega) d hd
  have hlen := expL_len (sumB n preE) p.bitmap ss d
  generalize expL (sumB n preE) p.bitmap ss d = ds at *
  subst hlen
  have hds : ds.length ≤ 256 := by omega
  refine spec_of Tryz.func204 rfl (n := 34) rfl rfl ?_
  intro W
  refine h_seq ?_
  refine h_reg ?_
  refine h_opX (x_box rfl) fun g4 => ?_
  refine h_opX (x_box rfl) fun g5 => ?_
  refine h_op (r_assign rfl) ?_
  refine h_op (r_assign rfl) ?_
  refine h_nil ?_
  refine q_then ?_
  refine h_seq ?_
  refine h_reg ?_
  refine h_op (r_move rfl) ?_
  refine h_op (r_loadr rfl) ?_
  refine h_call (hE.comes) rfl rfl rfl fun g15 => ?_
  refine h_op (r_move rfl) ?_
  refine h_op (r_extract rfl rfl) ?_
  refine h_op (r_extract rfl rfl) ?_
  refine h_op (r_assign rfl) ?_
  refine h_op (r_assign rfl) ?_
  refine h_nil ?_
  refine q_then ?_
  refine h_seq ?_
  refine h_seq ?_
  refine h_reg ?_
  refine h_op (r_move rfl) ?_
  refine h_op (r_neq rfl rfl) ?_
  refine h_nil ?_
  refine q_then ?_
  refine h_no rfl ((fun h => h rfl)) ?_
  refine h_skip ?_
  refine q_then ?_
  refine h_seq ?_
  refine h_reg ?_
  refine h_opX (x_alloc) fun g10 => ?_
  refine h_nil ?_
  refine q_then ?_
  refine h_seq ?_
  refine h_seq ?_
  refine h_reg ?_
  refine h_op (r_move rfl) ?_
  refine h_op (r_loadr rfl) ?_
  refine h_op (r_move rfl) ?_
  refine h_op (r_loadr rfl) ?_
  refine h_call ((ways_s (.pointer (some ⟨gh, 0, none⟩)) p (some ⟨g15, 0, none⟩) ds.length ds.length key rfl).comes) rfl rfl rfl fun ⟨a2, a1, a3, a4⟩ => ?_
  dsimp only
  refine h_nil_own 42 32 (xs := dgs (stepL n key ds (endP p) 0)) rfl ?_
  refine h_nil ?_
  refine q_then ?_
  refine h_block ?_
  refine h_rangeG (ways_it p n hn key ds hds gh gc (k0 + 1) g15 0 ds.length a2 a1 a3 a4 (by omega)) rfl (fun k mm => ∃ v : Option Addr × Nat, mm = [.blk g10 [.slice v.1 k v.2] 52, .own (.slice v.1 k v.2) k 42 32 (dgs (stepL n key ds (endP p) k))]) [.blk g10 [.slice none 0 0] 52, .own (.slice none 0 0) 0 42 32 (dgs (stepL n key ds (endP p) 0))] [] (by rintro k mm ⟨v, rfl⟩ f hf; simp only [List.mem_cons, List.not_mem_nil, or_false] at hf; exact hf.elim (fun h => by rw [h]; rfl) (fun h => by rw [h]; rfl)) ⟨(none, 0), rfl⟩ rfl (fun _ _ => rfl) ?_ ?_
  · intro ll rr k u mm W1 hr hrp hkN hJ2
    obtain ⟨⟨B, c'⟩, rfl⟩ := hJ2
    dsimp only
    simp only [List.nil_append, List.cons_append]
    have hst := stepL_succ n key ds (endP p) k
    refine h_reg ?_
    refine h_opX (x_alloc) fun g12 => ?_
    refine h_opS (s_storer rfl rfl) ?_
    refine h_nil ?_
    refine q_then ?_
    refine h_begin hr ?_
    refine h_block ?_
    refine h_reg ?_
    refine h_op (r_loadc rfl) ?_
    refine h_op (r_loadr rfl) ?_
    refine h_opX (x_bsl rfl rfl) fun g31 => ?_
    refine h_opX (x_app rfl rfl (k := 32)) fun ⟨g32, c32⟩ => ?_
    refine h_opS (s_store rfl rfl rfl) ?_
    refine h_nil ?_
    refine q_block ?_
    rw [hst]
    exact h_endround [.blk g10 [.slice (some ⟨g32, 0, none⟩) (k + 1) c32] 52, .own (.slice (some ⟨g32, 0, none⟩) (k + 1) c32) (k + 1) 42 32 (dgs (stepL n key ds (endP p) (k + 1)))] hr hrp ⟨(some ⟨g32, 0, none⟩, c32), rfl⟩ (by intro f hf; simp only [List.mem_cons, List.not_mem_nil, or_false] at hf; exact hf.elim (fun h => by rw [h]; rfl) (fun h => by rw [h]; rfl))
  · intro bb mm hJ2
    obtain ⟨⟨B, c'⟩, rfl⟩ := hJ2
    refine q_block ?_
    refine q_then ?_
    dsimp only
    simp only [List.nil_append, List.cons_append]
    refine h_pure (φ := ∃ g, B = some ⟨g, 0, none⟩) (fun w s => s.ownSome (N := ds.length + 1) (c := c') (by omega)) ?_
    rintro ⟨g, rfl⟩
    refine h_seq ?_
    refine h_reg ?_
    refine h_op (r_loadc rfl) ?_
    refine h_op (r_assign rfl) ?_
    refine h_op (r_assign rfl) ?_
    refine h_nil ?_
    refine q_then ?_
    refine h_ret ?_
    refine h_mark ?_
    exact h_ret2 rfl rfl rfl fun w s => ⟨(g, c'), rfl, (same w s).res (List.Sublist.refl _) (by simp [Fa.wr])⟩
theorem Root_s (p : Proof) (hc : checkP p = 0) (ss : List B32) (hs : p.sibs.n = ss.length) (key : B32) (n : Nat) (hn : n ≤ 256) (gh gc k0 : Nat) (hk : k0 ≤ 800000000000) (d : Nat) (hd : p.depth = (d : Int)) : Spec Tryz.prog 152 [.pointer (some ⟨gh, 0, none⟩), .agg p.cells.toArray, .agg key.cells.toArray].toArray [.rd (some ⟨gh, 0, none⟩) [.pointer (some ⟨gc, 0, none⟩), .int .i64 (n : Int)], .rd p.sibs.A (dgs ss), .rd (some ⟨1, 0, none⟩) hashT] [.blk gc [.int .i64 (k0 : Int)] 144] (fun _ : Unit => .tuple #[.agg (sumB n (wayP n key (expL (sumB n preE) p.bitmap ss d) (endP p) d)).cells.toArray, .int .i64 0]) (fun _ => [.blk gc [.int .i64 ((k0 + 1 + d + 1 : Nat) : Int)] 144]) := by
  have hd2 := ok_depth hc
  have hS := Steps_s p hc ss hs key n hn gh gc k0 hk d hd
  generalize expL (sumB n preE) p.bitmap ss d = ds at *
  have hget : (stepL n key ds (endP p) (d + 1)).getD d zB32 = sumB n (wayP n key ds (endP p) d) := by
    unfold stepL
    rw [List.getD, List.getElem?_map, List.getElem?_range (by omega)]
    rfl
  have hat := dgs_at (l := stepL n key ds (endP p) (d + 1)) (k := d) (by rw [stepL_len]; omega)
  rw [hget] at hat
  refine spec_of Tryz.func152 rfl (n := 27) rfl rfl ?_
  intro W
  refine h_seq ?_
  refine h_reg ?_
  refine h_opX (x_box rfl) fun g4 => ?_
  refine h_opX (x_box rfl) fun g5 => ?_
  refine h_opX (x_alloc) fun g6 => ?_
  refine h_op (r_assign rfl) ?_
  refine h_nil ?_
  refine q_then ?_
  refine h_seq ?_
  refine h_reg ?_
  refine h_op (r_move rfl) ?_
  refine h_op (r_loadr rfl) ?_
  refine h_op (r_loadr rfl) ?_
  refine h_call (hS.comes) rfl rfl rfl fun ⟨g14, c14⟩ => ?_
  dsimp only
  refine h_op (r_move rfl) ?_
  refine h_op (r_extract rfl rfl) ?_
  refine h_op (r_extract rfl rfl) ?_
  refine h_op (r_assign rfl) ?_
  refine h_op (r_assign rfl) ?_
  refine h_nil ?_
  refine q_then ?_
  refine h_seq ?_
  refine h_seq ?_
  refine h_reg ?_
  refine h_op (r_move rfl) ?_
  refine h_op (r_neq rfl rfl) ?_
  refine h_nil ?_
  refine q_then ?_
  refine h_no rfl ((fun h => h rfl)) ?_
  refine h_skip ?_
  refine q_then ?_
  refine h_seq ?_
  refine h_reg ?_
  refine h_op (r_move rfl) ?_
  refine h_op (r_move rfl) ?_
  refine h_op (r_len rfl) ?_
  refine h_op (r_subN rfl rfl (m := d) (hm := by omega)) ?_
  refine h_op (r_idx rfl rfl) ?_
  refine h_op (r_nthr rfl (B32.cells_length _) hat) ?_
  refine h_opS (s_storer rfl rfl) ?_
  refine h_op (r_assign rfl) ?_
  refine h_nil ?_
  refine q_then ?_
  refine h_ret ?_
  exact h_ret2 rfl (rv_row rfl) rfl fun w s => ⟨(), rfl, (same w s).res (List.Sublist.refl _) (by simp [Fa.wr])⟩
end Go.Proofs.YtjhocljhhpkiiaaGreatDoor
/- N12 -/
namespace Go.Proofs.YtjhocljhhpkiiaaGreatDoor
set_option linter.unusedSimpArgs false
set_option linter.unusedVariables false
open Go.RowKit
class TBool (P : Program) (T : TypeId) : Prop where
  und : P.underlying T = some .bool
section
variable {P : Program} {n : Nat} {D : List Deferred} {E : Env} {L : List Fa} {T T' : TypeId} {x y : Operand}
theorem run_equalIn_bool (w : World) (d : Nat) (a b : Bool) (h : P.underlying T = some .bool) : (Op.equalIn (d + 1) T (.bool a) (.bool b)).run P w = .ok (a == b) w := by
  simp [Op.equalIn, run_underlying h]
theorem run_eq_bool (w : World) (a b : Bool) (h : P.underlying T = some .bool) : (binOp .eql T (.bool a) (.bool b)).run P w = .ok (.bool (a == b)) w := by
  simp only [binOp]
  simp [Op.equal, Op.maxDepth, run_equalIn_bool w 9999 a b h]
theorem r_eqb [hT : TBool P T] {a b : Bool} (hx : ev E x = some (.bool a)) (hy : ev E y = some (.bool b)) : Runs0 P n D E L (.binOp .eql T x y T') (.bool (a == b)) := fun c w ka s o ho => run_bin ho (ka.ev hx) (ka.ev hy) rfl (run_eq_bool w a b hT.und)
end
/-- a zone that began as all that there was: nothing below has turned -/
theorem zone_below {W w : World} {h1 : Zh} {N : List Fa} (hr : Rx [.zone true (World.zh W)] W w (.zone true h1 :: N)) (hl : LeZ (World.zh W) h1) : Below W.heap.size W w := by
  refine ⟨hr.os, hr.tape, hr.output, hr.size, fun k hk => ?_⟩
  obtain ⟨o, ho⟩ : ∃ o, W.heap[k]? = some o := ⟨_, Array.getElem?_eq_getElem hk⟩
  rw [ho]
  exact hr.ok (.zone true h1) (List.mem_cons_self ..) k o (hl.le k o ho)
theorem Fx.all (W : World) : Fx W [.zone true (World.zh W)] := ⟨fun f hf => by rw [List.mem_singleton.1 hf]; exact fun k o ho => ho, List.pairwise_singleton _ _⟩
end Go.Proofs.YtjhocljhhpkiiaaGreatDoor
/- N13 -/
namespace Go.Proofs.YtjhocljhhpkiiaaGreatDoor
set_option linter.unusedSimpArgs false
set_option linter.unusedVariables false
open Go.RowKit
section
variable {P : Program} {n : Nat} {D : List Deferred} {E : Env} {L : List Fa} {T T' : TypeId} {x y : Operand}
theorem r_arr {len e size : Nat} [hT : TArr P T len e size] {A : Option Addr} {m c : Nat} (hx : ev E x = some (.slice A m c)) (hm : len ≤ m := by omega) : Runs0 P n D E L (.sliceToArrayPointer T x) (.pointer A) := fun a w ka s o ho => ex_arrayAt ho hT.und (ka.ev hx) hm
end
end Go.Proofs.YtjhocljhhpkiiaaGreatDoor
/- U90 -/
namespace Go.Proofs.YtjhocljhhpkiiaaGreatDoor
set_option linter.unusedSimpArgs false
set_option linter.unusedVariables false
open Go.RowKit
def keyOf (l : List UInt8) : B32 := if h : l.length = 32 then ⟨l, h⟩ else zB32
theorem keyOf_cells {l : List UInt8} (h : l.length = 32) : (keyOf l).cells = bc l := by unfold keyOf; rw [dif_pos h]; rfl
theorem when_s (b : Bool) (e : Int) : Spec Tryz.prog 174 [.bool b, .int .i64 e].toArray [] [] (fun _ : Unit => .int .i64 (if b then e else 0)) (fun _ => []) := by
  cases b
  · refine spec_of Tryz.func174 rfl (n := 7) rfl rfl ?_
    intro W
    refine h_seq ?_
    refine h_reg ?_
    refine h_op (r_assign rfl) ?_
    refine h_nil ?_
    refine q_then ?_
    refine h_seq ?_
    refine h_seq ?_
    refine h_reg ?_
    refine h_op (r_move rfl) ?_
    refine h_nil ?_
    refine q_then ?_
    refine h_condF rfl ?_
    refine h_skip ?_
    refine q_then ?_
    refine h_seq ?_
    refine h_reg ?_
    refine h_op (r_assign rfl) ?_
    refine h_nil ?_
    refine q_then ?_
    refine h_ret ?_
    exact h_ret1 rfl rfl fun w s => ⟨(), rfl, s.res (List.nil_sublist _) (by simp)⟩
  · refine spec_of Tryz.func174 rfl (n := 7) rfl rfl ?_
    intro W
    refine h_seq ?_
    refine h_reg ?_
    refine h_op (r_assign rfl) ?_
    refine h_nil ?_
    refine q_then ?_
    refine h_seq ?_
    refine h_seq ?_
    refine h_reg ?_
    refine h_op (r_move rfl) ?_
    refine h_nil ?_
    refine q_then ?_
    refine h_condT rfl ?_
    refine h_seq ?_
    refine h_reg ?_
    refine h_op (r_move rfl) ?_
    refine h_op (r_assign rfl) ?_
    refine h_nil ?_
    refine q_then ?_
    refine h_ret ?_
    refine q_thenR ?_
    exact h_ret1 rfl rfl fun w s => ⟨(), rfl, s.res (List.nil_sublist _) (by simp)⟩
/-- what the first three steps find -/
def code3 (x : Chk) : Nat → Int
  | 0 => if x.root.n = 32 then 0 else 4
  | 1 => if x.c.key.n = 32 then 0 else 2
  | _ => if x.c.present = true ∧ 65535 < x.c.value.n then 3 else 0
section
variable (x : Chk) (g : Nat)
theorem step1_s : Spec Tryz.prog 175 [.pointer (some ⟨g, 0, none⟩)].toArray [.rd (some ⟨g, 0, none⟩) x.cells] [] (fun _ : Unit => .int .i64 (code3 x 1)) (fun _ => []) := by
  by_cases h : x.c.key.n = 32
  · have hw := when_s false 2
    rw [show code3 x 1 = 0 from if_pos h]
    refine spec_of Tryz.func175 rfl (n := 11) rfl rfl ?_
    intro W
    refine h_seq ?_
    refine h_reg ?_
    refine h_op (r_assign rfl) ?_
    refine h_nil ?_
    refine q_then ?_
    refine h_seq ?_
    refine h_reg ?_
    refine h_op (r_move rfl) ?_
    refine h_op (r_nilc rfl) ?_
    refine h_op (r_field rfl) ?_
    refine h_op (r_field rfl) ?_
    refine h_op (r_loadc rfl) ?_
    refine h_op (r_len rfl) ?_
    refine h_op (r_bool (r_neq rfl rfl) (decide_eq_false (by omega))) ?_
    refine h_call (hw.comes) rfl rfl rfl fun _ => ?_
    refine h_op (r_assign rfl) ?_
    refine h_nil ?_
    refine q_then ?_
    refine h_ret ?_
    exact h_ret1 rfl rfl fun w s => ⟨(), rfl, s.res (List.nil_sublist _) (by simp)⟩
  · have hw := when_s true 2
    rw [show code3 x 1 = 2 from if_neg h]
    refine spec_of Tryz.func175 rfl (n := 11) rfl rfl ?_
    intro W
    refine h_seq ?_
    refine h_reg ?_
    refine h_op (r_assign rfl) ?_
    refine h_nil ?_
    refine q_then ?_
    refine h_seq ?_
    refine h_reg ?_
    refine h_op (r_move rfl) ?_
    refine h_op (r_nilc rfl) ?_
    refine h_op (r_field rfl) ?_
    refine h_op (r_field rfl) ?_
    refine h_op (r_loadc rfl) ?_
    refine h_op (r_len rfl) ?_
    refine h_op (r_bool (r_neq rfl rfl) (decide_eq_true (by omega))) ?_
    refine h_call (hw.comes) rfl rfl rfl fun _ => ?_
    refine h_op (r_assign rfl) ?_
    refine h_nil ?_
    refine q_then ?_
    refine h_ret ?_
    exact h_ret1 rfl rfl fun w s => ⟨(), rfl, s.res (List.nil_sublist _) (by simp)⟩
theorem step2_s : Spec Tryz.prog 176 [.pointer (some ⟨g, 0, none⟩)].toArray [.rd (some ⟨g, 0, none⟩) x.cells] [] (fun _ : Unit => .int .i64 (code3 x 2)) (fun _ => []) := by
  obtain ⟨b, hb⟩ : ∃ b, x.c.present = b := ⟨_, rfl⟩
  by_cases h : 65535 < x.c.value.n
  · have hw := when_s b 3
    rw [show code3 x 2 = (if b then 3 else 0) by show (if x.c.present = true ∧ 65535 < x.c.value.n then (3 : Int) else 0) = _; rw [hb]; simp [h]]
    cases b
    · refine spec_of Tryz.func176 rfl (n := 18) rfl rfl ?_
      intro W
      refine h_seq ?_
      refine h_reg ?_
      refine h_op (r_assign rfl) ?_
      refine h_nil ?_
      refine q_then ?_
      refine h_seq ?_
      refine h_reg ?_
      refine h_op (r_move rfl) ?_
      refine h_op (r_nilc rfl) ?_
      refine h_op (r_field rfl) ?_
      refine h_op (r_field rfl) ?_
      refine h_op (r_bool (r_loadc rfl) hb) ?_
      refine h_op (r_move rfl) ?_
      refine h_opOff ?_
      refine h_opOff ?_
      refine h_opOff ?_
      refine h_opOff ?_
      refine h_opOff ?_
      refine h_opOff ?_
      refine h_opOff ?_
      refine h_op (r_pick rfl rfl) ?_
      refine h_call (hw.comes) rfl rfl rfl fun _ => ?_
      refine h_op (r_assign rfl) ?_
      refine h_nil ?_
      refine q_then ?_
      refine h_ret ?_
      exact h_ret1 rfl rfl fun w s => ⟨(), rfl, s.res (List.nil_sublist _) (by simp)⟩
    · refine spec_of Tryz.func176 rfl (n := 18) rfl rfl ?_
      intro W
      refine h_seq ?_
      refine h_reg ?_
      refine h_op (r_assign rfl) ?_
      refine h_nil ?_
      refine q_then ?_
      refine h_seq ?_
      refine h_reg ?_
      refine h_op (r_move rfl) ?_
      refine h_op (r_nilc rfl) ?_
      refine h_op (r_field rfl) ?_
      refine h_op (r_field rfl) ?_
      refine h_op (r_bool (r_loadc rfl) hb) ?_
      refine h_op (r_move rfl) ?_
      refine h_op (r_move rfl) ?_
      refine h_op (r_nilc rfl) ?_
      refine h_op (r_field rfl) ?_
      refine h_op (r_field rfl) ?_
      refine h_op (r_loadc rfl) ?_
      refine h_op (r_len rfl) ?_
      refine h_op (r_bool (r_gtr rfl rfl) (decide_eq_true (by omega))) ?_
      refine h_op (r_pick rfl rfl) ?_
      refine h_call (hw.comes) rfl rfl rfl fun _ => ?_
      refine h_op (r_assign rfl) ?_
      refine h_nil ?_
      refine q_then ?_
      refine h_ret ?_
      exact h_ret1 rfl rfl fun w s => ⟨(), rfl, s.res (List.nil_sublist _) (by simp)⟩
  · have hw := when_s false 3
    rw [show code3 x 2 = 0 from if_neg (fun h' => h h'.2)]
    cases b
    · refine spec_of Tryz.func176 rfl (n := 18) rfl rfl ?_
      intro W
      refine h_seq ?_
      refine h_reg ?_
      refine h_op (r_assign rfl) ?_
      refine h_nil ?_
      refine q_then ?_
      refine h_seq ?_
      refine h_reg ?_
      refine h_op (r_move rfl) ?_
      refine h_op (r_nilc rfl) ?_
      refine h_op (r_field rfl) ?_
      refine h_op (r_field rfl) ?_
      refine h_op (r_bool (r_loadc rfl) hb) ?_
      refine h_op (r_move rfl) ?_
      refine h_opOff ?_
      refine h_opOff ?_
      refine h_opOff ?_
      refine h_opOff ?_
      refine h_opOff ?_
      refine h_opOff ?_
      refine h_opOff ?_
      refine h_op (r_pick rfl rfl) ?_
      refine h_call (hw.comes) rfl rfl rfl fun _ => ?_
      refine h_op (r_assign rfl) ?_
      refine h_nil ?_
      refine q_then ?_
      refine h_ret ?_
      exact h_ret1 rfl rfl fun w s => ⟨(), rfl, s.res (List.nil_sublist _) (by simp)⟩
    · refine spec_of Tryz.func176 rfl (n := 18) rfl rfl ?_
      intro W
      refine h_seq ?_
      refine h_reg ?_
      refine h_op (r_assign rfl) ?_
      refine h_nil ?_
      refine q_then ?_
      refine h_seq ?_
      refine h_reg ?_
      refine h_op (r_move rfl) ?_
      refine h_op (r_nilc rfl) ?_
      refine h_op (r_field rfl) ?_
      refine h_op (r_field rfl) ?_
      refine h_op (r_bool (r_loadc rfl) hb) ?_
      refine h_op (r_move rfl) ?_
      refine h_op (r_move rfl) ?_
      refine h_op (r_nilc rfl) ?_
      refine h_op (r_field rfl) ?_
      refine h_op (r_field rfl) ?_
      refine h_op (r_loadc rfl) ?_
      refine h_op (r_len rfl) ?_
      refine h_op (r_bool (r_gtr rfl rfl) (decide_eq_false (by omega))) ?_
      refine h_op (r_pick rfl rfl) ?_
      refine h_call (hw.comes) rfl rfl rfl fun _ => ?_
      refine h_op (r_assign rfl) ?_
      refine h_nil ?_
      refine q_then ?_
      refine h_ret ?_
      exact h_ret1 rfl rfl fun w s => ⟨(), rfl, s.res (List.nil_sublist _) (by simp)⟩
end
/-- the digest of the value of a claim -/
def valD (n : Nat) (present : Bool) (vb : List UInt8) : B32 := if present then sumB n (preV vb) else zB32
section
variable (n : Nat) (hn : n ≤ 256) (h : Zh) [hT : RdZ h (some ⟨1, 0, none⟩) hashT] (gh gc k g : Nat) (hk : k ≤ 1000000000) (x : Chk) (hxh : x.h = some ⟨gh, 0, none⟩) (kb vb : List UInt8) [hK : SlZ h x.c.key kb] (hkl : kb.length = 32)
include hn hk hxh hkl
theorem supports_s [hV : SlZ h x.c.value vb] (hvl : vb.length ≤ 100000000) : Spec Tryz.prog 98 [.pointer (some ⟨g, 0, none⟩)].toArray [HR gh gc n, .zone false h, .rd (some ⟨g, 0, none⟩) x.cells] [CN gc k] (fun _ : Unit => .bool (supP x.p (keyOf kb) (valD n x.c.present vb) x.c.present)) (fun _ => [CN gc (k + if x.c.present then 1 else 0)]) := by
  have hkn := hK.len
  have hvn := hV.len
  have hKr : RdZ h x.c.key.A (keyOf kb).cells := by rw [keyOf_cells hkl]; exact hK.rd
  have hVr : RdZ h x.c.value.A (bc vb) := hV.rd
  have hVn := hV.nil
  obtain ⟨⟨⟩, xr, ⟨⟨kA, kn, kc⟩, ⟨vA, vn, vc⟩, pr⟩, xb, xp⟩ := x
  · cases hxh
  injection hxh with hxh
  subst hxh
  dsimp only at hkn hvn hKr hVr hVn ⊢
  subst hkn hvn
  obtain ⟨bK, oK, rfl, -⟩ := hKr.at_ 0 _ (List.getElem?_eq_getElem (by rw [B32.cells_length]; omega))
  cases pr
  · refine spec_of Tryz.func98 rfl (n := 38) rfl rfl ?_
    intro W
    refine h_seq ?_
    refine h_reg ?_
    refine h_op (r_assign rfl) ?_
    refine h_nil ?_
    refine q_then ?_
    refine h_seq ?_
    refine h_reg ?_
    refine h_opX (x_alloc) fun g3 => ?_
    refine h_nil ?_
    refine q_then ?_
    refine h_seq ?_
    refine h_seq ?_
    refine h_reg ?_
    refine h_op (r_move rfl) ?_
    refine h_op (r_nilc rfl) ?_
    refine h_op (r_field rfl) ?_
    refine h_op (r_field rfl) ?_
    refine h_op (r_loadc rfl) ?_
    refine h_nil ?_
    refine q_then ?_
    refine h_condF rfl ?_
    refine h_skip ?_
    refine q_then ?_
    refine h_seq ?_
    refine ha_start [.rd (some ⟨g, 0, none⟩) (Chk.cells ⟨some ⟨gh, 0, none⟩, xr, ⟨⟨some ⟨bK, oK, none⟩, kb.length, kc⟩, ⟨vA, vb.length, vc⟩, false⟩, xb, xp⟩), .zone false h, .blk g3 zB32.cells 42] [] mixed (same) ?_
    refine ha_takeP 0 rfl (r_move rfl) ?_
    refine ha_takeP 1 rfl (r_nilc rfl) ?_
    refine ha_takeP 2 rfl (r_field rfl) ?_
    refine ha_take 3 rfl (r_loadr rfl) ?_
    refine ha_takeP 4 rfl (r_move rfl) ?_
    refine ha_takeP 5 rfl (r_nilc rfl) ?_
    refine ha_takeP 6 rfl (r_field rfl) ?_
    refine ha_takeP 7 rfl (r_field rfl) ?_
    refine ha_take 8 rfl (r_loadc rfl) ?_
    refine ha_takeP 9 rfl (r_arr rfl (hm := show 32 ≤ kb.length by omega)) ?_
    refine ha_take 10 rfl (r_loadr rfl) ?_
    refine ha_take 11 rfl (r_loadr rfl) ?_
    refine ha_takeP 12 rfl (r_move rfl) ?_
    refine ha_takeP 13 rfl (r_nilc rfl) ?_
    refine ha_takeP 14 rfl (r_field rfl) ?_
    refine ha_takeP 15 rfl (r_field rfl) ?_
    refine ha_take 16 rfl (r_loadc rfl) ?_
    refine ha_one 17 ?_
    refine ho_C 17 rfl ((Supports_s xp (keyOf kb) zB32 false).comes) rfl rfl rfl (fun xx => same) fun _ => ?_
    refine ha_takeP 18 rfl (r_assign rfl) ?_
    refine ha_done (by kernel_rfl) ?_
    refine q_then ?_
    refine h_ret ?_
    exact h_ret1 rfl rfl fun w s => ⟨(), rfl, (same (L' := [CN gc k]) w s).res (List.Sublist.refl _) (by simp [Fa.wr])⟩
  · refine spec_of Tryz.func98 rfl (n := 38) rfl rfl ?_
    intro W
    refine h_seq ?_
    refine h_reg ?_
    refine h_op (r_assign rfl) ?_
    refine h_nil ?_
    refine q_then ?_
    refine h_seq ?_
    refine h_reg ?_
    refine h_opX (x_alloc) fun g3 => ?_
    refine h_nil ?_
    refine q_then ?_
    refine h_seq ?_
    refine h_seq ?_
    refine h_reg ?_
    refine h_op (r_move rfl) ?_
    refine h_op (r_nilc rfl) ?_
    refine h_op (r_field rfl) ?_
    refine h_op (r_field rfl) ?_
    refine h_op (r_loadc rfl) ?_
    refine h_nil ?_
    refine q_then ?_
    refine h_condT rfl ?_
    refine ha_start [.rd (some ⟨g, 0, none⟩) (Chk.cells ⟨some ⟨gh, 0, none⟩, xr, ⟨⟨some ⟨bK, oK, none⟩, kb.length, kc⟩, ⟨vA, vb.length, vc⟩, true⟩, xb, xp⟩), .zone false h] [] mixed (same) ?_
    refine ha_takeP 0 rfl (r_move rfl) ?_
    refine ha_takeP 1 rfl (r_nilc rfl) ?_
    refine ha_takeP 2 rfl (r_field rfl) ?_
    refine ha_take 3 rfl (r_loadc rfl) ?_
    refine ha_takeP 4 rfl (r_move rfl) ?_
    refine ha_takeP 5 rfl (r_nilc rfl) ?_
    refine ha_takeP 6 rfl (r_field rfl) ?_
    refine ha_takeP 7 rfl (r_field rfl) ?_
    refine ha_take 8 rfl (r_loadc rfl) ?_
    refine ha_one 9 ?_
    refine ho_C 9 rfl ((pValue_s vb vA vc (fun e => by have := hVn e; omega) hvl).comes) rfl rfl rfl (fun xx => same) fun ⟨g18, c18⟩ => ?_
    refine ha_one 10 ?_
    refine ho_C 10 rfl ((HSum_s n hn gh gc k (by omega) (preV vb) (some ⟨g18, 0, none⟩) c18 (fun h => by cases h) (by show vb.length + 1 ≤ _; omega)).comes) rfl rfl rfl (fun xx => same) fun _ => ?_
    refine ha_one 11 ?_
    refine ho_SL 11 rfl (s_storer rfl rfl) ?_
    refine q_then ?_
    refine h_seq ?_
    refine ha_start [.rd (some ⟨g, 0, none⟩) (Chk.cells ⟨some ⟨gh, 0, none⟩, xr, ⟨⟨some ⟨bK, oK, none⟩, kb.length, kc⟩, ⟨vA, vb.length, vc⟩, true⟩, xb, xp⟩), .zone false h, .blk g3 (sumB n (preV vb)).cells 42] [] mixed (same) ?_
    refine ha_takeP 0 rfl (r_move rfl) ?_
    refine ha_takeP 1 rfl (r_nilc rfl) ?_
    refine ha_takeP 2 rfl (r_field rfl) ?_
    refine ha_take 3 rfl (r_loadr rfl) ?_
    refine ha_takeP 4 rfl (r_move rfl) ?_
    refine ha_takeP 5 rfl (r_nilc rfl) ?_
    refine ha_takeP 6 rfl (r_field rfl) ?_
    refine ha_takeP 7 rfl (r_field rfl) ?_
    refine ha_take 8 rfl (r_loadc rfl) ?_
    refine ha_takeP 9 rfl (r_arr rfl (hm := show 32 ≤ kb.length by omega)) ?_
    refine ha_take 10 rfl (r_loadr rfl) ?_
    refine ha_take 11 rfl (r_loadr rfl) ?_
    refine ha_takeP 12 rfl (r_move rfl) ?_
    refine ha_takeP 13 rfl (r_nilc rfl) ?_
    refine ha_takeP 14 rfl (r_field rfl) ?_
    refine ha_takeP 15 rfl (r_field rfl) ?_
    refine ha_take 16 rfl (r_loadc rfl) ?_
    refine ha_one 17 ?_
    refine ho_C 17 rfl ((Supports_s xp (keyOf kb) (sumB n (preV vb)) true).comes) rfl rfl rfl (fun xx => same) fun _ => ?_
    refine ha_takeP 18 rfl (r_assign rfl) ?_
    refine ha_done (by kernel_rfl) ?_
    refine q_then ?_
    refine h_ret ?_
    exact h_ret1 rfl rfl fun w s => ⟨(), rfl, (same (L' := [CN gc (k + 1)]) w s).res (List.Sublist.refl _) (by simp [Fa.wr])⟩
/-- the root that a proof leads to -/
def rootP (n : Nat) (p : DP) (key : B32) : B32 := sumB n (wayP n key (expL (sumB n preE) p.bm p.ss p.d) (endP (p.pr none 0)) p.d)
theorem leads_s (rb : List UInt8) [hR : SlZ h x.root rb] (hrl : rb.length = 32) (p : DP) (A : Option Addr) (c : Nat) (hp : x.p = p.pr A c) (hck : checkP (p.pr none 0) = 0) [hS : RdZ h A (dgs p.ss)] : Spec Tryz.prog 99 [.pointer (some ⟨g, 0, none⟩)].toArray [HR gh gc n, .zone false h, .rd (some ⟨g, 0, none⟩) x.cells] [CN gc k] (fun _ : Unit => .bool (decide (rootP n p (keyOf kb) = keyOf rb))) (fun _ => [CN gc (k + 1 + p.d + 1)]) := by
  have hkn := hK.len
  have hrn := hR.len
  have hKr : RdZ h x.c.key.A (keyOf kb).cells := by rw [keyOf_cells hkl]; exact hK.rd
  have hRr : RdZ h x.root.A (keyOf rb).cells := by rw [keyOf_cells hrl]; exact hR.rd
  have hRo := Root_s (p.pr A c) hck p.ss rfl (keyOf kb) n hn gh gc k (by omega) p.d rfl
  change Spec _ _ _ _ _ (fun _ : Unit => .tuple #[.agg (rootP n p (keyOf kb)).cells.toArray, .int .i64 0]) (fun _ => [CN gc (k + 1 + p.d + 1)]) at hRo
  obtain ⟨⟨⟩, ⟨rA, rn, rc⟩, ⟨⟨kA, kn, kc⟩, xv, pr⟩, xb, xp⟩ := x
  · cases hxh
  injection hxh with hxh
  subst hxh
  dsimp only at hkn hrn hKr hRr hp ⊢
  subst hkn hrn hp
  obtain ⟨bK, oK, rfl, -⟩ := hKr.at_ 0 _ (List.getElem?_eq_getElem (by rw [B32.cells_length]; omega))
  obtain ⟨bR, oR, rfl, -⟩ := hRr.at_ 0 _ (List.getElem?_eq_getElem (by rw [B32.cells_length]; omega))
  refine spec_of Tryz.func99 rfl (n := 36) rfl rfl ?_
  intro W
  refine h_seq ?_
  refine h_reg ?_
  refine h_op (r_assign rfl) ?_
  refine h_nil ?_
  refine q_then ?_
  refine h_seq ?_
  refine h_join (fun (u : Nat) => [(3, .pointer (some ⟨u, 0, none⟩)), (4, .int .i64 0), (0, .pointer (some ⟨g, 0, none⟩))]) (fun (u : Nat) => [.blk u (rootP n p (keyOf kb)).cells 42, CN gc (k + 1 + p.d + 1), HR gh gc n, .zone false h, .rd (some ⟨g, 0, none⟩) (Chk.cells ⟨some ⟨gh, 0, none⟩, ⟨some ⟨bR, oR, none⟩, rb.length, rc⟩, ⟨⟨some ⟨bK, oK, none⟩, kb.length, kc⟩, xv, pr⟩, xb, p.pr A c⟩)]) (fun kk => ?_) ?_
  · refine ha_start [.rd (some ⟨g, 0, none⟩) (Chk.cells ⟨some ⟨gh, 0, none⟩, ⟨some ⟨bR, oR, none⟩, rb.length, rc⟩, ⟨⟨some ⟨bK, oK, none⟩, kb.length, kc⟩, xv, pr⟩, xb, p.pr A c⟩), .zone false h] [] mixed (same) ?_
    refine ha_takeP 0 rfl (r_move rfl) ?_
    refine ha_takeP 1 rfl (r_nilc rfl) ?_
    refine ha_takeP 2 rfl (r_field rfl) ?_
    refine ha_take 3 rfl (r_loadc rfl) ?_
    refine ha_takeP 4 rfl (r_move rfl) ?_
    refine ha_takeP 5 rfl (r_nilc rfl) ?_
    refine ha_takeP 6 rfl (r_field rfl) ?_
    refine ha_take 7 rfl (r_loadr rfl) ?_
    refine ha_takeP 8 rfl (r_move rfl) ?_
    refine ha_takeP 9 rfl (r_nilc rfl) ?_
    refine ha_takeP 10 rfl (r_field rfl) ?_
    refine ha_takeP 11 rfl (r_field rfl) ?_
    refine ha_take 12 rfl (r_loadc rfl) ?_
    refine ha_takeP 13 rfl (r_arr rfl (hm := show 32 ≤ kb.length by omega)) ?_
    refine ha_take 14 rfl (r_loadr rfl) ?_
    refine ha_two 15 19 ?_ ?_
    · refine ho_C 15 rfl ((hRo.comes (hr := inferInstanceAs (Rds _ [HR gh gc n, .rd A (dgs p.ss), TBL])))) rfl rfl rfl (fun xx => same) fun _ => ?_
      refine ha_takeP 16 rfl (r_move rfl) ?_
      refine ha_takeP 17 rfl (r_extract rfl rfl) ?_
      refine ha_takeP 18 rfl (r_extract rfl rfl) ?_
      refine ha_one 19 ?_
      refine ho_X 19 rfl (rk (x_alloc)) (fun _ => same) fun g3 => ?_
      refine ha_one 20 ?_
      refine ho_S 20 rfl (s_storer rfl rfl) (same) ?_
      refine ha_takeP 21 rfl (r_assign rfl) ?_
      exact ha_done (by kernel_rfl) (h_K (kk g3) (⟨rfl, rfl, rfl, trivial⟩) same)
    · refine ho_X 19 rfl (rk (x_alloc)) (fun _ => same) fun g3 => ?_
      refine ha_one 15 ?_
      refine ho_C 15 rfl ((hRo.comes (hr := inferInstanceAs (Rds _ [HR gh gc n, .rd A (dgs p.ss), TBL])))) rfl rfl rfl (fun xx => same) fun _ => ?_
      refine ha_takeP 16 rfl (r_move rfl) ?_
      refine ha_takeP 17 rfl (r_extract rfl rfl) ?_
      refine ha_takeP 18 rfl (r_extract rfl rfl) ?_
      refine ha_one 20 ?_
      refine ho_S 20 rfl (s_storer rfl rfl) (same) ?_
      refine ha_takeP 21 rfl (r_assign rfl) ?_
      exact ha_done (by kernel_rfl) (h_K (kk g3) (⟨rfl, rfl, rfl, trivial⟩) same)
  rintro g3
  refine q_then ?_
  refine h_seq ?_
  refine ha_start [.rd (some ⟨g, 0, none⟩) (Chk.cells ⟨some ⟨gh, 0, none⟩, ⟨some ⟨bR, oR, none⟩, rb.length, rc⟩, ⟨⟨some ⟨bK, oK, none⟩, kb.length, kc⟩, xv, pr⟩, xb, p.pr A c⟩), .zone false h, .blk g3 (rootP n p (keyOf kb)).cells 42] [] mixed (same) ?_
  refine ha_takeP 0 rfl (r_move rfl) ?_
  refine ha_takeP 1 rfl (r_bool (r_eql rfl rfl) rfl) ?_
  refine ha_takeP 2 rfl (r_move rfl) ?_
  refine ha_take 3 rfl (r_loadr rfl) ?_
  refine ha_takeP 4 rfl (r_move rfl) ?_
  refine ha_takeP 5 rfl (r_nilc rfl) ?_
  refine ha_takeP 6 rfl (r_field rfl) ?_
  refine ha_take 7 rfl (r_loadc rfl) ?_
  refine ha_takeP 8 rfl (r_arr rfl (hm := show 32 ≤ rb.length by omega)) ?_
  refine ha_take 9 rfl (r_loadr rfl) ?_
  refine ha_takeP 10 rfl (r_eqr rfl rfl) ?_
  refine ha_takeP 11 rfl (r_pick rfl rfl) ?_
  refine ha_takeP 12 rfl (r_assign rfl) ?_
  refine ha_done (by kernel_rfl) ?_
  refine q_then ?_
  refine h_ret ?_
  exact h_ret1 rfl rfl fun w s => ⟨(), rfl, (same (L' := [CN gc (k + 1 + p.d + 1)]) w s).res (List.Sublist.refl _) (by simp [Fa.wr])⟩
end
end Go.Proofs.YtjhocljhhpkiiaaGreatDoor
/- U56 -/
namespace Go.Proofs.YtjhocljhhpkiiaaGreatDoor
set_option linter.unusedSimpArgs false
set_option linter.unusedVariables false
open Go.RowKit
theorem flat_len (l : List B32) : (l.flatMap (·.1)).length = 32 * l.length := by
  induction l with
  | nil => rfl
  | cons x l ih => rw [List.flatMap_cons, List.length_append, ih, x.2, List.length_cons]; omega
end Go.Proofs.YtjhocljhhpkiiaaGreatDoor
/- U57 -/
namespace Go.Proofs.YtjhocljhhpkiiaaGreatDoor
set_option linter.unusedSimpArgs false
set_option linter.unusedVariables false
open Go.RowKit
end Go.Proofs.YtjhocljhhpkiiaaGreatDoor
/- U58 -/
namespace Go.Proofs.YtjhocljhhpkiiaaGreatDoor
set_option linter.unusedSimpArgs false
set_option linter.unusedVariables false
open Go.RowKit
end Go.Proofs.YtjhocljhhpkiiaaGreatDoor
/- U59 -/
namespace Go.Proofs.YtjhocljhhpkiiaaGreatDoor
set_option linter.unusedSimpArgs false
set_option linter.unusedVariables false
open Go.RowKit
end Go.Proofs.YtjhocljhhpkiiaaGreatDoor
/- U91 -/
namespace Go.Proofs.YtjhocljhhpkiiaaGreatDoor
set_option linter.unusedSimpArgs false
set_option linter.unusedVariables false
open Go.RowKit
end Go.Proofs.YtjhocljhhpkiiaaGreatDoor
/- N14 -/
namespace Go.Proofs.YtjhocljhhpkiiaaGreatDoor
set_option linter.unusedSimpArgs false
set_option linter.unusedVariables false
open Go.RowKit
class TIf (P : Program) (T : TypeId) : Prop where
  und : P.underlying T = some (.interface (P.methodsAt T))
section
variable {P : Program} {n : Nat} {D : List Deferred} {E : Env} {L : List Fa} {T T' : TypeId} {t : Nat}
theorem r_ifnil {u : TypeId} {v : Value} [hT : TIf P T] (hx : ev E (.tmp t) = some (.iface u v)) : Runs0 P n D E L (.binOp .eql T (.tmp t) (.const .nilIface) T') (.bool false) := fun a w ka s o ho =>
  run_bin ho (ka.ev hx) (v := .nilIface) rfl rfl (run_eql_held_nil w T u v hT.und)
theorem r_nilnil [hT : TIf P T] (hx : ev E (.tmp t) = some .nilIface) : Runs0 P n D E L (.binOp .eql T (.tmp t) (.const .nilIface) T') (.bool true) := fun a w ka s o ho =>
  run_bin ho (ka.ev hx) (v := .nilIface) rfl rfl (run_eql_nil_nil w T hT.und)
end
section
variable {A : List Fa} {W : World} {n : Nat} {D : List Deferred} {ro : Option Nat} {P : Program} {ops : List Oper} {Q : Exit → Act → World → Prop} {Lb Lr L : List Fa} {fuel : Nat} {listed : Array Bool} {E : Env}
variable {op : Op} {d : Nat} {ty : TypeId} {pos : String} {af : Array Edge} {g : Option (Nat × Bool)}
/-- a method of an interface value, called in a region that draws its order -/
theorem ho_CM (i : Nat) {x : Operand} {l : List Operand} {ts : Array TypeId} {f : FuncId} {T : TypeId} {u : Value} {name : String} {argv args : List Value} [MethT P T name f] {τ : Type} {v : τ → Value} {L' : τ → List Fa} (hi : ops[i]? = some ⟨some d, .call ⟨.invoke x name, l.toArray, ts⟩, ty, pos, af, g⟩) (hc : Comes P A W L f args.toArray v L') (hx : ev E x = some (.iface T u)) (ha : evs E l = some argv) (he : u :: argv = args) [hl : ∀ x, Rds (L' x) Lr]
    (hb : ∀ x w, Sx A W w (L' x) → Sx A W w Lb) (k : ∀ x, HA A W n D ro P ops Q Lb Lr fuel (listed.setIfInBounds i true) ((d, v x) :: E) (L' x)) (hd : Nat.blt d n = true := by exact rfl) (hg : wn ops.toArray E g = some true := by exact rfl) : HO A W n D ro P ops Q Lb Lr fuel listed E L i := fun a w ka s sr => by
  refine ho_mk hi (wn_run ka hg) (wpIn_ent (x_callM ka rfl hx ha) (he ▸ hc w s) ?_)
  rintro e w' ⟨y, rfl, hy⟩
  have h3 : Fx w' Lr := Fx.rds hy.toFx (hr := hl y)
  exact ⟨_, rfl, fun _ _ => ⟨hb y _ hy, h3⟩, k y _ _ (ka.put hd _) hy ⟨hb y _ hy, h3⟩⟩
end
end Go.Proofs.YtjhocljhhpkiiaaGreatDoor
/- U92 -/
namespace Go.Proofs.YtjhocljhhpkiiaaGreatDoor
set_option linter.unusedSimpArgs false
set_option linter.unusedVariables false
open Go.RowKit
instance iU92_1 : TIf Tryz.prog 90 := ⟨by kernel_rfl⟩
def plFl : Nat → Option (Nat × Nat) := fun i => ([(0, 1), (1, 1), (2, 1)] : List (Nat × Nat)).toArray[i]?
instance iU92_2 : Place plFl 0 0 1 := ⟨rfl⟩
instance iU92_3 : Place plFl 1 1 1 := ⟨rfl⟩
instance iU92_4 : Place plFl 2 2 1 := ⟨rfl⟩
instance iU92_5 : TB Tryz.prog 178 [.string ⟨#[]⟩, .int .i64 0, .nilIface] plFl := ⟨fun w ps cells h => run_build_struct (fl := _) Tryz.underlying178 (z := ([.string ⟨#[]⟩, .int .i64 0, .nilIface] : List Value).toArray) (n := 3) (by kernel_rfl) (pl := [(0, 1), (1, 1), (2, 1)]) (by kernel_rfl) h⟩
/-- an error with the operation in which it occurred -/
abbrev fltC (op : ByteArray) (i e : Int) : List Value := [.string op, .int .i64 i, .iface 94 (.int .i64 e)]
theorem fNew_s (op : ByteArray) (i e : Int) : Spec Tryz.prog 157 [.string op, .int .i64 i, .iface 94 (.int .i64 e)].toArray [] [] (fun g : Nat => .iface 174 (.pointer (some ⟨g, 0, none⟩))) (fun g => [.blk g (fltC op i e) 178]) := by
  refine spec_of Tryz.func157 rfl (n := 15) rfl rfl ?_
  intro W
  refine h_seq ?_
  refine h_reg ?_
  refine h_op (r_assign rfl) ?_
  refine h_nil ?_
  refine q_then ?_
  refine h_seq ?_
  refine h_seq ?_
  refine h_reg ?_
  refine h_op (r_move rfl) ?_
  refine h_op (r_ifnil rfl) ?_
  refine h_nil ?_
  refine q_then ?_
  refine h_condF rfl ?_
  refine h_skip ?_
  refine q_then ?_
  refine h_seq ?_
  refine h_reg ?_
  refine h_op (r_move rfl) ?_
  refine h_op (r_move rfl) ?_
  refine h_op (r_move rfl) ?_
  refine h_op (r_build rfl) ?_
  refine h_opX (x_box rfl) fun g13 => ?_
  refine h_op (r_mkI rfl) ?_
  refine h_op (r_assign rfl) ?_
  refine h_nil ?_
  refine q_then ?_
  refine h_ret ?_
  exact h_ret1 rfl rfl fun w s => ⟨g13, rfl, (same (L' := [.blk g13 (fltC op i e) 178]) w s).res (List.Sublist.refl _) (by simp [Fa.wr])⟩
def stepV : Nat → Value
  | 0 => .func (.func 173) #[] #[]
  | 1 => .func (.func 175) #[] #[]
  | 2 => .func (.func 176) #[] #[]
  | 3 => .func (.func 177) #[] #[]
  | 4 => .func (.func 179) #[] #[]
  | _ => .func (.func 180) #[] #[]
instance (i : Nat) : Row [stepV i] 1 := ⟨rfl, by intro v hv; rw [List.mem_singleton.1 hv]; unfold stepV; split <;> rfl⟩
def stepsV : List Value := [stepV 0, stepV 1, stepV 2, stepV 3, stepV 4, stepV 5]
theorem stepsV_at (i : Nat) (f : Value) (h : stepsV[i]? = some f) : ∀ j v, [f][j]? = some v → stepsV[i + j]? = some v := fun j v hv => by
  cases j with
  | zero => obtain rfl : f = v := by simpa using hv
            exact h
  | succ j => simp at hv
theorem steps_s : Spec Tryz.prog 120 ([] : List Value).toArray [] [] (fun g : Nat => .slice (some ⟨g, 0, none⟩) 6 6) (fun g => [.own (.slice (some ⟨g, 0, none⟩) 6 6) 6 195 1 stepsV]) := by
  refine spec_of Tryz.func120 rfl (n := 8) rfl rfl ?_
  intro W
  refine h_seq ?_
  refine h_reg ?_
  refine h_op (r_assign rfl) ?_
  refine h_nil ?_
  refine q_then ?_
  refine h_seq ?_
  refine h_reg ?_
  refine h_op (r_build rfl) ?_
  refine h_op (r_build rfl) ?_
  refine h_op (r_build rfl) ?_
  refine h_op (r_build rfl) ?_
  refine h_op (r_build rfl) ?_
  refine h_op (r_build rfl) ?_
  refine h_opX (x_bsl rfl rfl) fun g7 => ?_
  refine h_op (r_assign rfl) ?_
  refine h_nil ?_
  refine q_then ?_
  refine h_ret ?_
  change H _ _ _ _ _ (.own _ _ _ _ stepsV :: _) _
  exact h_ret1 rfl rfl fun w s => ⟨g7, rfl, (same (L' := [.own (.slice (some ⟨g7, 0, none⟩) 6 6) 6 195 1 stepsV]) w s).res (List.Sublist.refl _) (by simp [Fa.wr])⟩
/-- the first step that finds something -/
def firstF (code : Nat → Int) : Nat → Nat → Option (Nat × Int)
  | 0, _ => none
  | m + 1, i => if code i = 0 then firstF code m (i + 1) else some (i, code i)
theorem firstF_none (code : Nat → Int) : ∀ m i, (∀ j, i ≤ j → j < i + m → code j = 0) → firstF code m i = none
  | 0, _, _ => rfl
  | m + 1, i, h => by
    unfold firstF
    rw [if_pos (h i (Nat.le_refl _) (by omega))]
    exact firstF_none code m (i + 1) fun j h1 h2 => h j (by omega) (by omega)
theorem firstF_some (code : Nat → Int) (e : Nat) (he : code e ≠ 0) : ∀ m i, i ≤ e → e < i + m → (∀ j, i ≤ j → j < e → code j = 0) → firstF code m i = some (e, code e)
  | 0, i, h1, h2, _ => by omega
  | m + 1, i, h1, h2, h => by
    unfold firstF
    rcases Nat.lt_or_ge i e with h3 | h3
    · rw [if_pos (h i (Nat.le_refl _) h3)]
      exact firstF_some code e he m (i + 1) h3 (by omega) fun j a b => h j (by omega) b
    · obtain rfl : i = e := by omega
      rw [if_neg he]
def errV : Option (Nat × Int) → Nat → Value
  | none, _ => .nilIface
  | some _, g => .iface 174 (.pointer (some ⟨g, 0, none⟩))
/-! Claim -/
def claimE (c : Claim) : Int := if c.key.n = 32 then (if c.present = true ∧ 65535 < c.value.n then 3 else 0) else 2
theorem Claim_s (c : Claim) : Spec Tryz.prog 67 [.agg c.cells.toArray].toArray [] [] (fun _ : Unit => .int .i64 (claimE c)) (fun _ => []) := by
  have h1 := fun g => step1_s ⟨none, ⟨none, 0, 0⟩, c, ⟨none, 0, 0⟩, zProof⟩ g
  have h2 := fun g => step2_s ⟨none, ⟨none, 0, 0⟩, c, ⟨none, 0, 0⟩, zProof⟩ g
  refine spec_of Tryz.func67 rfl (n := 25) rfl rfl ?_
  intro W
  refine h_seq ?_
  refine h_reg ?_
  refine h_opX (x_box rfl) fun g1 => ?_
  refine h_op (r_assign rfl) ?_
  refine h_nil ?_
  refine q_then ?_
  refine h_seq ?_
  refine h_reg ?_
  refine h_op (r_loadr rfl) ?_
  refine h_op (r_build rfl) ?_
  refine h_opX (x_box rfl) fun g9 => ?_
  refine h_op (r_assign rfl) ?_
  refine h_nil ?_
  refine q_then ?_
  refine h_seq ?_
  refine h_seq ?_
  refine h_reg ?_
  refine h_call (steps_s.comes) rfl rfl rfl fun g10 => ?_
  refine h_op (r_slLHb rfl rfl rfl (m := 2) (c' := 5) (O' := 1)) ?_
  refine h_op (r_len rfl) ?_
  refine h_op (r_move rfl) ?_
  refine h_nil ?_
  refine q_then ?_
  refine h_block ?_
  change H _ _ _ _ _ (_ :: .blk g9 (Chk.cells ⟨none, ⟨none, 0, 0⟩, c, ⟨none, 0, 0⟩, zProof⟩) _ :: _) _
  refine h_loop (fun (i : Nat) => i ≤ 2 ∧ (1 ≤ i → c.key.n = 32) ∧ (2 ≤ i → ¬ (c.present = true ∧ 65535 < c.value.n))) (fun (i : Nat) => [(3, .pointer (some ⟨g9, 0, none⟩)), (11, .slice (some ⟨g10, 1, none⟩) 2 5), (12, .int .i64 2), (13, .int .i64 (i : Int))]) (fun (i : Nat) => [.own (.slice (some ⟨g10, 0, none⟩) 6 6) 6 195 1 stepsV, .blk g9 (Chk.cells ⟨none, ⟨none, 0, 0⟩, c, ⟨none, 0, 0⟩, zProof⟩) 169]) (fun (i : Nat) => 2 - i) 0 (⟨by decide, fun h => absurd h (by decide), fun h => absurd h (by decide)⟩) ⟨rfl, rfl, rfl, rfl, trivial⟩ (same) ?_
  rintro i ⟨hi, hi1, hi2⟩
  rcases (by omega : i = 0 ∨ i = 1 ∨ i = 2) with rfl | rfl | rfl
  · by_cases hk : c.key.n = 32
    · have h1 := h1 g9
      rw [show code3 ⟨none, ⟨none, 0, 0⟩, c, ⟨none, 0, 0⟩, zProof⟩ 1 = 0 from if_pos hk] at h1
      refine h_seq ?_
      refine h_reg ?_
      refine h_op (r_bool (r_lss rfl rfl) rfl) ?_
      refine h_nil ?_
      refine q_then ?_
      refine h_seq ?_
      refine h_condT rfl ?_
      refine h_skip ?_
      refine q_then ?_
      refine h_seq ?_
      refine h_block ?_
      refine h_seq ?_
      refine h_reg ?_
      refine h_op (r_idx rfl rfl (m := 0) (hm := by decide)) ?_
      refine h_op (r_nthr (off := 1) rfl (out := [stepV 1]) rfl (stepsV_at 1 _ rfl)) ?_
      refine h_opX (x_alloc) fun g5 => ?_
      refine h_opS (s_storer rfl rfl) ?_
      refine h_nil ?_
      refine q_then ?_
      refine h_seq ?_
      refine h_reg ?_
      refine h_op (r_field rfl) ?_
      refine h_op (r_loadc rfl) ?_
      refine h_op (r_move rfl) ?_
      refine h_call (h1.comes) rfl rfl rfl fun _ => ?_
      refine h_op (r_assign rfl) ?_
      refine h_nil ?_
      refine q_then ?_
      refine h_seq ?_
      refine h_reg ?_
      refine h_op (r_move rfl) ?_
      refine h_op (r_bool (r_neq rfl rfl) rfl) ?_
      refine h_nil ?_
      refine q_then ?_
      refine h_condF rfl ?_
      refine h_skip ?_
      refine q_block ?_
      refine q_then ?_
      refine h_reg ?_
      refine h_op (r_add rfl rfl) ?_
      refine h_op (r_move rfl) ?_
      refine h_nil ?_
      exact h_back 1 (⟨by decide, fun _ => hk, fun h => absurd h (by decide)⟩) ((show 2 - 1 < 2 - 0 by decide)) ⟨rfl, rfl, rfl, rfl, trivial⟩ (same)
    · have h1 := h1 g9
      rw [show code3 ⟨none, ⟨none, 0, 0⟩, c, ⟨none, 0, 0⟩, zProof⟩ 1 = 2 from if_neg hk] at h1
      rw [show claimE c = 2 from if_neg hk]
      refine h_seq ?_
      refine h_reg ?_
      refine h_op (r_bool (r_lss rfl rfl) rfl) ?_
      refine h_nil ?_
      refine q_then ?_
      refine h_seq ?_
      refine h_condT rfl ?_
      refine h_skip ?_
      refine q_then ?_
      refine h_seq ?_
      refine h_block ?_
      refine h_seq ?_
      refine h_reg ?_
      refine h_op (r_idx rfl rfl (m := 0) (hm := by decide)) ?_
      refine h_op (r_nthr (off := 1) rfl (out := [stepV 1]) rfl (stepsV_at 1 _ rfl)) ?_
      refine h_opX (x_alloc) fun g5 => ?_
      refine h_opS (s_storer rfl rfl) ?_
      refine h_nil ?_
      refine q_then ?_
      refine h_seq ?_
      refine h_reg ?_
      refine h_op (r_field rfl) ?_
      refine h_op (r_loadc rfl) ?_
      refine h_op (r_move rfl) ?_
      refine h_call (h1.comes) rfl rfl rfl fun _ => ?_
      refine h_op (r_assign rfl) ?_
      refine h_nil ?_
      refine q_then ?_
      refine h_seq ?_
      refine h_reg ?_
      refine h_op (r_move rfl) ?_
      refine h_op (r_bool (r_neq rfl rfl) rfl) ?_
      refine h_nil ?_
      refine q_then ?_
      refine h_condT rfl ?_
      refine h_seq ?_
      refine h_reg ?_
      refine h_op (r_move rfl) ?_
      refine h_op (r_assign rfl) ?_
      refine h_nil ?_
      refine q_then ?_
      refine h_ret ?_
      refine q_blockR ?_
      refine q_thenR ?_
      refine q_thenR ?_
      refine q_blockR ?_
      refine q_thenR ?_
      exact h_ret1 rfl rfl fun w s => ⟨(), rfl, s.res (List.nil_sublist _) (by simp)⟩
  · have hk := hi1 (by decide)
    by_cases hv : c.present = true ∧ 65535 < c.value.n
    · have h2 := h2 g9
      rw [show code3 ⟨none, ⟨none, 0, 0⟩, c, ⟨none, 0, 0⟩, zProof⟩ 2 = 3 from if_pos hv] at h2
      rw [show claimE c = 3 by unfold claimE; rw [if_pos hk, if_pos hv]]
      refine h_seq ?_
      refine h_reg ?_
      refine h_op (r_bool (r_lss rfl rfl) rfl) ?_
      refine h_nil ?_
      refine q_then ?_
      refine h_seq ?_
      refine h_condT rfl ?_
      refine h_skip ?_
      refine q_then ?_
      refine h_seq ?_
      refine h_block ?_
      refine h_seq ?_
      refine h_reg ?_
      refine h_op (r_idx rfl rfl (m := 1) (hm := by decide)) ?_
      refine h_op (r_nthr (off := 2) rfl (out := [stepV 2]) rfl (stepsV_at 2 _ rfl)) ?_
      refine h_opX (x_alloc) fun g5 => ?_
      refine h_opS (s_storer rfl rfl) ?_
      refine h_nil ?_
      refine q_then ?_
      refine h_seq ?_
      refine h_reg ?_
      refine h_op (r_field rfl) ?_
      refine h_op (r_loadc rfl) ?_
      refine h_op (r_move rfl) ?_
      refine h_call (h2.comes) rfl rfl rfl fun _ => ?_
      refine h_op (r_assign rfl) ?_
      refine h_nil ?_
      refine q_then ?_
      refine h_seq ?_
      refine h_reg ?_
      refine h_op (r_move rfl) ?_
      refine h_op (r_bool (r_neq rfl rfl) rfl) ?_
      refine h_nil ?_
      refine q_then ?_
      refine h_condT rfl ?_
      refine h_seq ?_
      refine h_reg ?_
      refine h_op (r_move rfl) ?_
      refine h_op (r_assign rfl) ?_
      refine h_nil ?_
      refine q_then ?_
      refine h_ret ?_
      refine q_blockR ?_
      refine q_thenR ?_
      refine q_thenR ?_
      refine q_blockR ?_
      refine q_thenR ?_
      exact h_ret1 rfl rfl fun w s => ⟨(), rfl, s.res (List.nil_sublist _) (by simp)⟩
    · have h2 := h2 g9
      rw [show code3 ⟨none, ⟨none, 0, 0⟩, c, ⟨none, 0, 0⟩, zProof⟩ 2 = 0 from if_neg hv] at h2
      refine h_seq ?_
      refine h_reg ?_
      refine h_op (r_bool (r_lss rfl rfl) rfl) ?_
      refine h_nil ?_
      refine q_then ?_
      refine h_seq ?_
      refine h_condT rfl ?_
      refine h_skip ?_
      refine q_then ?_
      refine h_seq ?_
      refine h_block ?_
      refine h_seq ?_
      refine h_reg ?_
      refine h_op (r_idx rfl rfl (m := 1) (hm := by decide)) ?_
      refine h_op (r_nthr (off := 2) rfl (out := [stepV 2]) rfl (stepsV_at 2 _ rfl)) ?_
      refine h_opX (x_alloc) fun g5 => ?_
      refine h_opS (s_storer rfl rfl) ?_
      refine h_nil ?_
      refine q_then ?_
      refine h_seq ?_
      refine h_reg ?_
      refine h_op (r_field rfl) ?_
      refine h_op (r_loadc rfl) ?_
      refine h_op (r_move rfl) ?_
      refine h_call (h2.comes) rfl rfl rfl fun _ => ?_
      refine h_op (r_assign rfl) ?_
      refine h_nil ?_
      refine q_then ?_
      refine h_seq ?_
      refine h_reg ?_
      refine h_op (r_move rfl) ?_
      refine h_op (r_bool (r_neq rfl rfl) rfl) ?_
      refine h_nil ?_
      refine q_then ?_
      refine h_condF rfl ?_
      refine h_skip ?_
      refine q_block ?_
      refine q_then ?_
      refine h_reg ?_
      refine h_op (r_add rfl rfl) ?_
      refine h_op (r_move rfl) ?_
      refine h_nil ?_
      exact h_back 2 (⟨by decide, fun _ => hk, fun _ => hv⟩) ((show 2 - 2 < 2 - 1 by decide)) ⟨rfl, rfl, rfl, rfl, trivial⟩ (same)
  · have hk := hi1 (by decide)
    have hv := hi2 (by decide)
    rw [show claimE c = 0 by unfold claimE; rw [if_pos hk, if_neg hv]]
    refine h_seq ?_
    refine h_reg ?_
    refine h_op (r_bool (r_lss rfl rfl) rfl) ?_
    refine h_nil ?_
    refine q_then ?_
    refine h_seq ?_
    refine h_condF rfl ?_
    refine h_exit ?_
    refine q_thenE ?_
    refine q_thenE ?_
    refine q_blockE ?_
    refine q_then ?_
    refine h_seq ?_
    refine h_reg ?_
    refine h_op (r_assign rfl) ?_
    refine h_nil ?_
    refine q_then ?_
    refine h_ret ?_
    exact h_ret1 rfl rfl fun w s => ⟨(), rfl, s.res (List.nil_sublist _) (by simp)⟩
end Go.Proofs.YtjhocljhhpkiiaaGreatDoor
/- N15 -/
namespace Go.Proofs.YtjhocljhhpkiiaaGreatDoor
set_option linter.unusedSimpArgs false
set_option linter.unusedVariables false
open Go.RowKit
/-- the model's entry of bytealg.Compare -/
class TCmp (P : Program) (f : FuncId) : Prop where
  ok : ∀ args w, (callFunc f args).run P w = ((Extern.BytealgCompare.compare args).run P w).andThen fun v w' => .ok (.value v) w'
theorem bytes_back (l : List UInt8) : Lib.bytesOf (l.map fun x => (x.toNat : Int)) = l := by
  unfold Lib.bytesOf
  rw [List.map_map]
  conv => rhs; rw [← List.map_id l]
  apply List.map_congr_left
  intro x _
  simp
theorem run_bytesOf_rd {P : Program} {w : World} {A : Option Addr} {l : List UInt8} {c : Nat} (hr : Rd w A (bc l)) : (Extern.Bytes.bytesOf (.slice A l.length c)).run P w = .ok ⟨l.toArray⟩ w := by
  cases A with
  | none =>
    have : l = [] := by
      cases l with
      | nil => rfl
      | cons x l => obtain ⟨b, o, e, _⟩ := hr 0 (.int .u8 x.toNat) rfl; cases e
    subst this
    rfl
  | some a =>
    have h := Lib.run_loadBytesX (P := P) (w := w) (l.map fun x => (x.toNat : Int)) a .empty (fun j x hj => by
      obtain ⟨y, hy, rfl⟩ : ∃ y, l[j]? = some y ∧ (y.toNat : Int) = x := by simpa using hj
      have hj' : (bc l)[j]? = some (.int .u8 (y.toNat : Int)) := by simp [bc, hy]
      obtain ⟨b, o, e, h2⟩ := hr j _ hj'
      injection e with e
      subst e
      rw [Addr.add_mid]
      exact h2)
    rw [List.length_map, bytes_back] at h
    show (Extern.Bytes.loadBytes a l.length .empty).run P w = _
    rw [h]
    simp
section
variable {P : Program} {n : Nat} {D : List Deferred} {E : Env} {L : List Fa}
theorem r_cmp {f : FuncId} [hf : TCmp P f] {x y : Operand} {ts : Array TypeId} {A B : Option Addr} {c c' : Nat} {a b : List UInt8} (hx : ev E x = some (.slice A a.length c)) (hy : ev E y = some (.slice B b.length c')) [hA : Rd1 L (.rd A (bc a))] [hB : Rd1 L (.rd B (bc b))] : Runs0 P n D E L (.call ⟨.value (.func f), #[x, y], ts⟩) (.int .i64 (Lib.compareBytes a b)) := fun act w ka s o ho => by
  have h1 := run_bytesOf_rd (P := P) (c := c) (hA.ok s).2.1
  have h2 := run_bytesOf_rd (P := P) (c := c') (hB.ok s).2.1
  have e0 : ev E (.func f) = some (.func (.func f) #[] #[]) := rfl
  unfold execOp
  simp only [ho, resolve, ka.ev e0, Deferred.ofValue, Sem.run_bind, Sem.run_pure, Result.andThen_ok, invoke]
  have e1 : (#[x, y].map act.eval) = #[.slice A a.length c, .slice B b.length c'] := by simp [ka.ev hx, ka.ev hy]
  rw [e1]
  show (callFunc f #[.slice A a.length c, .slice B b.length c']).run P w = _
  have e2 : (Extern.BytealgCompare.compare #[.slice A a.length c, .slice B b.length c']).run P w = .ok (.int .i64 (Lib.compareBytes a b)) w := by
    change Sem.run P (do pure (goInt (Extern.BytealgCompare.cmp (← Extern.Bytes.bytesOf (.slice A a.length c)) (← Extern.Bytes.bytesOf (.slice B b.length c'))))) w = _
    simp only [Sem.run_bind, h1, h2, Result.andThen_ok, Sem.run_pure, Lib.cmp_eq]
    rfl
  rw [hf.ok, e2]
  rfl
end
end Go.Proofs.YtjhocljhhpkiiaaGreatDoor
/- N16 -/
namespace Go.Proofs.YtjhocljhhpkiiaaGreatDoor
set_option linter.unusedSimpArgs false
set_option linter.unusedVariables false
open Go.RowKit
section
variable {P : Program} {nn : Nat} {D : List Deferred} {E : Env} {L : List Fa} {T : TypeId} {x q r : Operand} {e size bytes : Nat} {z : Value} {N c h m : Nat}
theorem run_slHM [E' : TS P T e size bytes z] {b O : Nat} {i2 i3 : Int} {k2 k3 : IntKind} (w : World) (h2 : NatOf i2 h) (h3 : NatOf i3 m) (a2 : h ≤ m) (a3 : m ≤ c) :
    (Instr.sliceAt T (.slice (some ⟨b, O, none⟩) N c) none (some (.int k2 i2)) (some (.int k3 i3))).run P w = .ok (.slice (some ⟨b, O, none⟩) h m) w := by
  obtain rfl := h2.eq
  obtain rfl := h3.eq
  obtain ⟨t, hi, _, hsz, _⟩ := info_parts E'.el.hi
  have c1 : (0 : Int) ≤ (m : Int) ∧ (m : Int) ≤ (c : Int) := ⟨by omega, by omega⟩
  have c2 : (0 : Int) ≤ (h : Int) ∧ (h : Int) ≤ (m : Int) := ⟨by omega, by omega⟩
  have c3 : (0 : Int) ≤ (0 : Int) ∧ (0 : Int) ≤ (h : Int) := ⟨by omega, by omega⟩
  unfold Instr.sliceAt
  simp only [Sem.run_bind, run_underlying E'.el.ht, Result.andThen_ok, Instr.slice, Instr.sliceBounds, Instr.sliceBound, asIntOf, Sem.run_pure, if_pos c1, if_pos c2, if_pos c3, Int.toNat_natCast, sizeOf, typeInfo, Option.isSome_some]
  simp [hi, hsz, Addr.add_mid]
theorem r_slHM [E' : TS P T e size bytes z] {b O : Nat} {i2 i3 : Int} {k2 k3 : IntKind} (hx : ev E x = some (.slice (some ⟨b, O, none⟩) N c)) (hq : ev E q = some (.int k2 i2)) (hr : ev E r = some (.int k3 i3)) [h2 : NatOf i2 h] [h3 : NatOf i3 m] (a2 : h ≤ m := by omega) (a3 : m ≤ c := by omega) : Runs0 P nn D E L (.slice T x none (some q) (some r)) (.slice (some ⟨b, O, none⟩) h m) := fun a w ka s o ho => by
  have := run_slHM (P := P) (T := T) (N := N) (b := b) (O := O) (k2 := k2) (k3 := k3) w h2 h3 a2 a3
  unfold execOp
  simp only [ho, ka.ev hx, Option.map_some, Option.map_none, ka.ev hq, ka.ev hr]
  rw [Sem.run_bind, this]
  rfl
end
end Go.Proofs.YtjhocljhhpkiiaaGreatDoor
/- N17 -/
namespace Go.Proofs.YtjhocljhhpkiiaaGreatDoor
set_option linter.unusedSimpArgs false
set_option linter.unusedVariables false
open Go.RowKit
section
variable {P : Program} {A : List Fa} {W : World} {n : Nat} {D : List Deferred} {E : Env} {L : List Fa} {f : FuncId} {l : List Operand} {ts : Array TypeId} {vs : List Value} {v : Value}
theorem r_eqS {T T' : TypeId} {x y : Operand} {a b : ByteArray} (hx : ev E x = some (.string a)) (hy : ev E y = some (.string b)) : Runs0 P n D E L (.binOp .eql T x y T') (.bool (a.toList == b.toList)) := fun act w ka s o ho => run_bin ho (ka.ev hx) (ka.ev hy) rfl (by rw [binOp_string_eql]; rfl)
end
end Go.Proofs.YtjhocljhhpkiiaaGreatDoor
/- U93 -/
namespace Go.Proofs.YtjhocljhhpkiiaaGreatDoor
set_option linter.unusedSimpArgs false
set_option linter.unusedVariables false
open Go.RowKit Go.Extern.Stop Go.Stop Go.Extern
abbrev hdl (T : Nat) : Value := .pointer (some ⟨3, T, none⟩)
end Go.Proofs.YtjhocljhhpkiiaaGreatDoor
/- U94 -/
namespace Go.Proofs.YtjhocljhhpkiiaaGreatDoor
set_option linter.unusedSimpArgs false
set_option linter.unusedVariables false
open Go.RowKit Go.Extern.Stop Go.Stop Go.Extern
end Go.Proofs.YtjhocljhhpkiiaaGreatDoor
/- U95 -/
namespace Go.Proofs.YtjhocljhhpkiiaaGreatDoor
set_option linter.unusedSimpArgs false
set_option linter.unusedVariables false
open Go.RowKit Go.Extern.Stop Go.Stop Go.Extern
end Go.Proofs.YtjhocljhhpkiiaaGreatDoor
/- TV -/
namespace Go.Proofs.YtjhocljhhpkiiaaGreatDoor
set_option linter.unusedSimpArgs false
set_option linter.unusedVariables false
open Go.RowKit Go.ChangeShapes Go.WideShapes
section
variable {H : Type} {enc : TypeId × Value → H} {w : World} {base : Nat} {spare : Nat → Bool} {held : Bool} {v : Value} {d : DataW H} {ps : List MemPlace} {r : Reach} {b0 : Nat}
theorem c_bool : Tryz.prog.cellsOf 4 = 1 := by kernel_rfl
theorem c_Claim : Tryz.prog.cellsOf 25 = 3 := by kernel_rfl
theorem claimFields' : ∃ f1 f2 f3 : Field, Tryz.prog.underlying 25 = some (.struct #[f1, f2, f3]) ∧ f1.type = 23 ∧ f2.type = 23 ∧ f3.type = 4 ∧ f1.offset = 0 ∧ f2.offset = 1 ∧ f3.offset = 2 :=
  ⟨_, _, _, Tryz.underlying25, rfl, rfl, rfl, rfl, rfl, rfl⟩
/-- a byte slice inside an argument -/
theorem dec_bytes {fuel : Nat} {cs : List Value} {x : DataW H × List MemPlace} (h : DataW.trod enc Tryz.prog w base spare held fuel 23 cs = some x) : ∃ (s : Sl) (l : List UInt8), cs = [.slice s.A s.n s.c] ∧ SlZ (World.zh w) s l := by
  obtain ⟨l, A, c, e2, hlc, -, hA, hr, -⟩ := open_rows_t (f := fun b : UInt8 => [Value.int .u8 b.toNat]) (fun _ => rfl) Nat.one_pos Tryz.underlying23 c_u8 (fun _ => True) (fun fuel cs x h => by
    obtain ⟨n, rfl, _, hw⟩ := DataW.trod_int Tryz.underlying5 h
    have := bounds_u8 hw
    exact ⟨toByte (.int .u8 n), by rw [toByte_int this.1 this.2], trivial⟩) h
  rw [byteOf_bc] at hr
  refine ⟨⟨A, l.length, c⟩, l, e2, ⟨rfl, hlc, fun h0 => ?_, RdZ.of hr⟩⟩
  have := hA h0
  exact ⟨(show l.length = 0 by omega), this⟩
set_option maxRecDepth 100000 in
theorem openClaim (hval : Value.okWide Tryz.prog w r b0 25 v) (hd : DataW.Trod enc Tryz.prog w base spare held 25 v d ps) :
    ∃ (c : Claim) (kb vb : List UInt8), v = .agg c.cells.toArray ∧ SlZ (World.zh w) c.key kb ∧ SlZ (World.zh w) c.value vb := by
  obtain ⟨f1, f2, f3, hT, t1, t2, t3, o1, o2, o3⟩ := claimFields'
  obtain ⟨cs, rfl, -⟩ := okWide_struct hT hval
  obtain ⟨fuel, hf⟩ := hd
  obtain ⟨cs⟩ := cs
  have hf' : DataW.trod enc Tryz.prog w base spare held fuel 25 cs = some (d, ps) := by simpa [Value.cells] using hf
  obtain ⟨xs, n, -, -, hl, hxl, hx⟩ := DataW.trod_struct hT hf'
  rw [c_Claim] at hl
  have hxl' : xs.length = 3 := hxl
  have k1 := hx 0 f1 rfl
  have k2 := hx 1 f2 rfl
  have k3 := hx 2 f3 rfl
  rw [List.getElem?_eq_getElem (by omega)] at k1 k2 k3
  rw [o1, t1, c_bytes, List.drop_zero] at k1
  rw [o2, t2, c_bytes] at k2
  rw [o3, t3, c_bool] at k3
  obtain ⟨s1, l1, e1, z1⟩ := dec_bytes k1
  obtain ⟨s2, l2, e2, z2⟩ := dec_bytes k2
  obtain ⟨b, e3, -⟩ := DataW.trod_bool Tryz.underlying4 k3
  refine ⟨⟨s1, s2, b⟩, l1, l2, ?_, z1, z2⟩
  have r1 : cs = cs.take 1 ++ ((cs.drop 1).take 1 ++ (cs.drop 2).take 1) := by
    rw [List.take_of_length_le (l := cs.drop 2) (by simp; omega)]
    rw [show cs.drop 2 = (cs.drop 1).drop 1 by rw [List.drop_drop], List.take_append_drop, List.take_append_drop]
  rw [r1, e1, e2, e3]
  rfl
end
/-! the two laid variables -/
end Go.Proofs.YtjhocljhhpkiiaaGreatDoor
/- E14 -/
namespace Go.Proofs.YtjhocljhhpkiiaaGreatDoor
set_option linter.unusedSimpArgs false
set_option linter.unusedVariables false
open Go.RowKit
inductive Sub where
  | one (x : Item)
  | two (l r : Sub)
/-- the subtree that items begin with, with at most d levels of inner nodes -/
def readM : Nat → List Item → Option (Sub × List Item)
  | _, [] => none
  | 0, x :: rest => if x.kind = 2 then none else some (.one x, rest)
  | d + 1, x :: rest => if x.kind = 2 then (readM d rest).bind fun p => (readM d p.2).bind fun q => some (.two p.1 q.1, q.2) else some (.one x, rest)

/-- the kind is one of the four -/
def kindOk (x : Item) : Bool := decide (0 ≤ x.kind) && decide (x.kind ≤ 3)
/-- fields that have no meaning are zero -/
def cleanItem (x : Item) : Bool := (x.kind == 3 || decide (x.digest = zB32)) && (x.kind == 1 || decide (x.leaf = zLeaf))
def parseM (l : List Item) : Except Int Sub :=
  if l.all kindOk then
    match readM 256 l with
    | some (t, []) => if l.all cleanItem then .ok t else .error 5
    | _ => .error 5
  else .error 7

theorem all_take {α : Type} (p : α → Bool) (l : List α) (k : Nat) (x : α) (h : l[k]? = some x) : (l.take (k + 1)).all p = ((l.take k).all p && p x) := by
  rw [List.take_add_one, h, List.all_append]
  simp
/-- the index behind what was read -/
def skipI (l : List Item) (r : Option (Sub × List Item)) : Int := match r with | none => -1 | some p => (l.length : Int) - p.2.length

def checkM (l : List Item) : Int := match parseM l with | .ok _ => 0 | .error c => c
end Go.Proofs.YtjhocljhhpkiiaaGreatDoor
