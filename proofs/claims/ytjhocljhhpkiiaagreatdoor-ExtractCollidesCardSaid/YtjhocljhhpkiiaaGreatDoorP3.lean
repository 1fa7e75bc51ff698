/- Operations that leave the world, one lemma each; Arguments opened, over any program; a table of words that the program's text lays; Operations that turn the world, one lemma each; Regions that draw their order: what reads or reckons is taken first, what turns the world as it comes up (joined texts: N3 C1 N4 N5) -/
import Derived.Test.YtjhocljhhpkiiaaGreatDoorP2
import Derived.ProofKit
import Derived.OrdersHeld
set_option linter.all false
/- N3 -/
namespace Go.Proofs.YtjhocljhhpkiiaaGreatDoor
set_option linter.unusedSimpArgs false
set_option linter.unusedVariables false
open Go.RowKit
/-- an integer that is a natural number -/
class NatOf (i : Int) (k : outParam Nat) : Prop where
  eq : i = k
instance (k : Nat) : NatOf (k : Int) k := ⟨rfl⟩
instance : NatOf 0 0 := ⟨rfl⟩
instance : NatOf 1 1 := ⟨rfl⟩
instance : NatOf 2 2 := ⟨rfl⟩
instance : NatOf 3 3 := ⟨rfl⟩
instance : NatOf 4 4 := ⟨rfl⟩
instance : NatOf 5 5 := ⟨rfl⟩
instance : NatOf 6 6 := ⟨rfl⟩
instance : NatOf 7 7 := ⟨rfl⟩
instance : NatOf 8 8 := ⟨rfl⟩
instance : NatOf 9 9 := ⟨rfl⟩
instance : NatOf 10 10 := ⟨rfl⟩
instance : NatOf 14 14 := ⟨rfl⟩
instance : NatOf 15 15 := ⟨rfl⟩
instance : NatOf 16 16 := ⟨rfl⟩
instance : NatOf 24 24 := ⟨rfl⟩
instance : NatOf 32 32 := ⟨rfl⟩
instance : NatOf 64 64 := ⟨rfl⟩
instance (a b : Int) (j k : Nat) [h : NatOf a j] [h' : NatOf b k] : NatOf (a + b) (j + k) := ⟨by rw [h.eq, h'.eq]; rfl⟩
instance (a b : Int) (j k : Nat) [h : NatOf a j] [h' : NatOf b k] : NatOf (a * b) (j * k) := ⟨by rw [h.eq, h'.eq]; rfl⟩
instance (a b : Int) (j k : Nat) [h : NatOf a j] [h' : NatOf b k] : NatOf (a / b) (j / k) := ⟨by rw [h.eq, h'.eq]; rfl⟩
instance (a b : Int) (j k : Nat) [h : NatOf a j] [h' : NatOf b k] : NatOf (a % b) (j % k) := ⟨by rw [h.eq, h'.eq]; rfl⟩
/-- unsigned kinds -/
class UK (k : IntKind) (m : outParam Nat) : Prop where
  bits : k.bits = m
  sg : k.signed = false
instance : UK .u8 8 := ⟨rfl, rfl⟩
instance : UK .u32 32 := ⟨rfl, rfl⟩
instance : UK .u64 64 := ⟨rfl, rfl⟩
theorem UK.wrap {k : IntKind} {m : Nat} (h : UK k m) (n : Int) : k.wrap n = n % (2 ^ m : Int) := by
  unfold IntKind.wrap
  rw [h.sg, h.bits]
  simp
/-- a number that is a word -/
class Wd (m : Nat) (i : Int) (a : outParam (BitVec m)) : Prop where
  eq : i = (a.toNat : Int)
instance (m : Nat) (a : BitVec m) : Wd m ((a.toNat : Nat) : Int) a := ⟨rfl⟩
instance (b : UInt8) : Wd 8 ((b.toNat : Nat) : Int) b.toBitVec := ⟨rfl⟩
instance (m : Nat) : Wd m 0 0 := ⟨by simp⟩
instance : Wd 8 1 1 := ⟨rfl⟩
instance : Wd 8 128 128 := ⟨rfl⟩
instance : Wd 8 255 255 := ⟨rfl⟩
instance : Wd 64 31 31 := ⟨rfl⟩
instance : Wd 64 8 8 := ⟨rfl⟩
section
variable {P : Program} {n : Nat} {D : List Deferred} {E : Env} {L : List Fa} {T T' : TypeId} {x y : Operand}
theorem r_move {v : Value} (hx : ev E x = some v) : Runs0 P n D E L (.move x) v := fun _ _ ka _ _ ho => ex_move ho (ka.ev hx)
theorem r_assign {v : Value} (hx : ev E x = some v) : Runs0 P n D E L (.assign x) v := fun _ _ ka _ _ ho => ex_assign ho (ka.ev hx)
theorem r_pick {c : Operand} {b : Bool} {v : Value} (hc : ev E c = some (.bool b)) (hv : ev E (if b = true then x else y) = some v) : Runs0 P n D E L (.pick c x y) v := fun a w ka _ o ho => by
  have h := ka.ev hv
  refine ex_pick ho (ka.ev hc) ?_
  rw [← h]
  cases b <;> rfl
theorem r_loadc {b O off : Nat} {cs : List Value} {v : Value} [hT : TOne P T] (hx : ev E x = some (.pointer (some ⟨b, O, none⟩))) [hm : Cells b O L off cs] [hr : CellAt cs off v] : Runs0 P n D E L (.load T x) v := fun a w ka s o ho => by
  obtain ⟨d, hu, hd⟩ := hT.und
  exact ex_load_cell ho (ka.ev hx) (by have := hm.cell s 0 v (by simpa using hr.at_); simpa using this) hu hd
theorem r_loadr {b O off m : Nat} {cs out : List Value} [hT : TRow P T m] (hx : ev E x = some (.pointer (some ⟨b, O, none⟩))) [hm : Cells b O L off cs] [hr : RowAt cs off m out] : Runs0 P n D E L (.load T x) (.agg out.toArray) := fun a w ka s o ho => by
  obtain ⟨d, hu, hd⟩ := hT.und
  exact ex_load_row ho (ka.ev hx) (cs := out) (fun j v hv => hm.cell s j v (hr.at_ j v hv)) hu hd (by rw [hr.len]; exact hT.size)
theorem r_nth {b O off : Nat} {cs : List Value} {v : Value} [hT : TOne P T] (hx : ev E x = some (.pointer (some ⟨b, O, none⟩))) [hm : Cells b O L off cs] (hc : cs[off]? = some v) : Runs0 P n D E L (.load T x) v := fun a w ka s o ho => by
  obtain ⟨d, hu, hd⟩ := hT.und
  exact ex_load_cell ho (ka.ev hx) (by have := hm.cell s 0 v (by simpa using hc); simpa using this) hu hd
theorem r_nthr {b O off m : Nat} {cs out : List Value} [hT : TRow P T m] (hx : ev E x = some (.pointer (some ⟨b, O, none⟩))) [hm : Cells b O L off cs] (hl : out.length = m) (hc : ∀ j v, out[j]? = some v → cs[off + j]? = some v) : Runs0 P n D E L (.load T x) (.agg out.toArray) := fun a w ka s o ho => by
  obtain ⟨d, hu, hd⟩ := hT.und
  exact ex_load_row ho (ka.ev hx) (cs := out) (fun j v hv => hm.cell s j v (hc j v hv)) hu hd (by rw [hl]; exact hT.size)
theorem r_field {i off b O : Nat} [h : TFA P T i off] (hx : ev E x = some (.pointer (some ⟨b, O, none⟩))) {O' : Nat} (hO : O + off = O' := by first | (simp only [Nat.zero_add, Nat.add_zero, Nat.reduceAdd]; exact rfl) | exact rfl) : Runs0 P n D E L (.fieldAddr T x i) (.pointer (some ⟨b, O', none⟩)) := fun a w ka s o ho => by
  subst hO
  exact xField ho (ka.ev hx)
theorem r_idx {e size bytes : Nat} {z : Value} [E' : TS P T e size bytes z] {b off c m N : Nat} {I : Int} {k : IntKind} (hx : ev E x = some (.slice (some ⟨b, off, none⟩) N c)) (hi : ev E y = some (.int k I)) [hn : NatOf I m] (hm : m < N := by omega)
    {O' : Nat} (hO : off + m * size = O' := by first | (simp only [Nat.zero_add, Nat.add_zero, Nat.mul_one, Nat.reduceMul, Nat.reduceAdd]; exact rfl) | exact rfl) : Runs0 P n D E L (.indexAddr T x y) (.pointer (some ⟨b, O', none⟩)) := fun a w ka s o ho => by
  have := hn.eq
  have h2 : I.toNat = m := by omega
  subst hO
  rw [← h2]
  exact xIndexS ho (ka.ev hx) (ka.ev hi) ⟨by omega, by omega⟩
theorem r_idxA {len e size : Nat} [hT : TArr P T len e size] {b off m : Nat} {I : Int} {k : IntKind} (hx : ev E x = some (.pointer (some ⟨b, off, none⟩))) (hi : ev E y = some (.int k I)) [hn : NatOf I m] (hm : m < len := by first | decide | omega)
    {O' : Nat} (hO : off + m * size = O' := by first | (simp only [Nat.zero_add, Nat.add_zero, Nat.mul_one, Nat.reduceMul, Nat.reduceAdd]; exact rfl) | exact rfl) : Runs0 P n D E L (.indexAddr T x y) (.pointer (some ⟨b, O', none⟩)) := fun a w ka s o ho => by
  have e1 := hn.eq
  have h2 : I.toNat = m := by omega
  subst hO
  obtain ⟨j, hj, hjs⟩ := Option.map_eq_some_iff.1 hT.size
  have hadd : (⟨b, off, none⟩ : Addr).add (m * size) = ⟨b, off + m * size, none⟩ := Addr.add_mid ..
  unfold execOp
  simp only [ho, ka.ev hx, ka.ev hi, Instr.indexAt, asIntOf, Sem.run_bind, Sem.run_pure, Result.andThen_ok, run_underlying hT.und, Instr.sureAddr, if_pos (show 0 ≤ I ∧ I < (len : Int) from ⟨by omega, by omega⟩), sizeOf, typeInfo, h2]
  simp [hj, hjs, hadd]
theorem r_ixr {len e size m : Nat} [hT : TArr P T len e size] [hr : TRow P e size] {cs out : List Value} {k : IntKind} {I : Int} {off : Nat} (hx : ev E x = some (.agg cs.toArray)) (hi : ev E y = some (.int k I)) [hn : NatOf I m] (hO : m * size = off) (hm : m < len := by omega) [h : RowAt cs off size out] : Runs0 P n D E L (.index T x y) (.agg out.toArray) := fun a w ka s o ho => by
  have e1 := hn.eq
  exact xIdxR (off := off) ho (ka.ev hx) (ka.ev hi) ⟨by omega, by omega⟩ (by rw [← hO, show I.toNat = m by omega])
theorem r_ixc {len e m : Nat} [hT : TArr P T len e 1] [hr : TOne P e] {cs : List Value} {v : Value} {k : IntKind} {I : Int} (hx : ev E x = some (.agg cs.toArray)) (hi : ev E y = some (.int k I)) [hn : NatOf I m] (hc : cs[m]? = some v) (hm : m < len := by omega) : Runs0 P n D E L (.index T x y) v := fun a w ka s o ho => by
  have e1 := hn.eq
  obtain ⟨d, hu, hd⟩ := hr.und
  have h2 : I.toNat = m := by omega
  have hp : (part e cs.toArray (I.toNat * 1)).run P w = .ok v w := by
    have hagg : (isAgg e).run P w = .ok false w := by
      unfold isAgg
      rw [Sem.run_bind, run_underlying hu w]
      cases d <;> simp_all
    unfold part
    rw [Sem.run_bind, hagg]
    simp [h2, hc]
  unfold execOp
  simp only [ho, ka.ev hx, ka.ev hi, Sem.run_bind, run_idx (T := T) (by omega) (by omega) hp, Result.andThen_ok]
  rfl
theorem r_len {e size bytes : Nat} {z : Value} [E' : TS P T e size bytes z] {A : Option Addr} {N c : Nat} (hx : ev E x = some (.slice A N c)) : Runs0 P n D E L (.call { callee := .builtin .len, args := #[x], argTypes := #[T] }) (.int .i64 N) := fun _ _ ka _ _ ho => xLen ho (ka.ev hx)
theorem r_add {i j : Int} (hx : ev E x = some (.int .i64 i)) (hy : ev E y = some (.int .i64 j)) (h : -9223372036854775808 ≤ i + j ∧ i + j ≤ 9223372036854775807 := by omega) : Runs0 P n D E L (.binOp .add T x y T') (.int .i64 (i + j)) := fun _ _ ka _ _ ho => xAdd ho (ka.ev hx) (ka.ev hy) h
theorem r_sub {i j : Int} (hx : ev E x = some (.int .i64 i)) (hy : ev E y = some (.int .i64 j)) (h : -9223372036854775808 ≤ i - j ∧ i - j ≤ 9223372036854775807 := by omega) : Runs0 P n D E L (.binOp .sub T x y T') (.int .i64 (i - j)) := fun _ _ ka _ _ ho => xSub ho (ka.ev hx) (ka.ev hy) h
theorem r_subN {j k m : Nat} {a b : Int} (hx : ev E x = some (.int .i64 a)) (hy : ev E y = some (.int .i64 b)) [ha : NatOf a j] [hb : NatOf b k] (h : k ≤ j := by omega) (hj : j ≤ 9223372036854775807 := by omega) (hm : j - k = m := by first | (simp only [Nat.reduceSub, Nat.add_sub_cancel]; exact rfl) | exact rfl) : Runs0 P n D E L (.binOp .sub T x y T') (.int .i64 (m : Int)) := fun _ _ ka _ _ ho => by
  have e1 := ha.eq
  have e2 := hb.eq
  have e3 : a - b = (m : Int) := by omega
  rw [← e3]
  exact xSub ho (ka.ev hx) (ka.ev hy) (by omega)
theorem r_mul {i j : Int} (hx : ev E x = some (.int .i64 i)) (hy : ev E y = some (.int .i64 j)) (h : -9223372036854775808 ≤ i * j ∧ i * j ≤ 9223372036854775807 := by omega) : Runs0 P n D E L (.binOp .mul T x y T') (.int .i64 (i * j)) := fun _ _ ka _ _ ho => xMul ho (ka.ev hx) (ka.ev hy) h
theorem run_bin {op : BinOp} {u v : Value} {r : Value} {o : Oper} {a : Act} {w : World} (ho : o.op = .binOp op T x y T') (hx : a.eval x = u) (hy : a.eval y = v) (hg : (eqGuard op T x y u v).run P w = .ok () w) (hb : (binOp op T u v).run P w = .ok r w) : (execOp a.eval o).run P w = .ok (.value r) w := by
  unfold execOp
  simp only [ho, hx, hy, Sem.run_bind, hg, Result.andThen_ok, hb]
  rfl
theorem r_quo {i j : Int} (hx : ev E x = some (.int .i64 i)) (hy : ev E y = some (.int .i64 j)) (h : 0 ≤ i ∧ i ≤ 9223372036854775807 ∧ 1 ≤ j := by omega) : Runs0 P n D E L (.binOp .quo T x y T') (.int .i64 (i / j)) := fun a w ka s o ho => by
  refine run_bin ho (ka.ev hx) (ka.ev hy) rfl ?_
  rw [← IntWalk.i64_quo i j h]
  unfold binOp
  simp [Op.intDiv, show ¬ j = 0 by omega]
theorem r_rem {i j : Int} (hx : ev E x = some (.int .i64 i)) (hy : ev E y = some (.int .i64 j)) (h : 0 ≤ i ∧ 1 ≤ j := by omega) : Runs0 P n D E L (.binOp .rem T x y T') (.int .i64 (i % j)) := fun a w ka s o ho => by
  refine run_bin ho (ka.ev hx) (ka.ev hy) rfl ?_
  rw [← IntWalk.rem_in i j h.1]
  unfold binOp
  simp [Op.intDiv, show ¬ j = 0 by omega]
theorem r_neg {i : Int} (hx : ev E x = some (.int .i64 i)) (h : -9223372036854775808 ≤ -i ∧ -i ≤ 9223372036854775807 := by omega) : Runs0 P n D E L (.unOp .neg T x) (.int .i64 (-i)) := fun a w ka s o ho => by
  unfold execOp
  simp only [ho, ka.ev hx, Op.unary, Op.intArith, Sem.run_bind, Sem.run_pure, Result.andThen_ok]
  rw [show (0 : Int) - i = -i by omega, IntWalk.i64_in (-i) h]
theorem r_not {b : Bool} (hx : ev E x = some (.bool b)) : Runs0 P n D E L (.unOp .not T x) (.bool (!b)) := fun _ _ ka _ _ ho => xNot ho (ka.ev hx)
/-! comparisons -/
theorem r_lss {k : IntKind} {i j : Int} (hx : ev E x = some (.int k i)) (hy : ev E y = some (.int k j)) : Runs0 P n D E L (.binOp .lss T x y T') (.bool (decide (i < j))) := fun _ _ ka _ _ ho => xLss ho (ka.ev hx) (ka.ev hy)
theorem r_leq {k : IntKind} {i j : Int} (hx : ev E x = some (.int k i)) (hy : ev E y = some (.int k j)) : Runs0 P n D E L (.binOp .leq T x y T') (.bool (decide (i ≤ j))) := fun _ _ ka _ _ ho => xLeq ho (ka.ev hx) (ka.ev hy)
theorem r_gtr {k : IntKind} {i j : Int} (hx : ev E x = some (.int k i)) (hy : ev E y = some (.int k j)) : Runs0 P n D E L (.binOp .gtr T x y T') (.bool (decide (j < i))) := fun _ _ ka _ _ ho => xGtr ho (ka.ev hx) (ka.ev hy)
theorem r_geq {k : IntKind} {i j : Int} (hx : ev E x = some (.int k i)) (hy : ev E y = some (.int k j)) : Runs0 P n D E L (.binOp .geq T x y T') (.bool (decide (j ≤ i))) := fun _ _ ka _ _ ho => xGeq ho (ka.ev hx) (ka.ev hy)
theorem r_eql {k : IntKind} {i j : Int} (hx : ev E x = some (.int k i)) (hy : ev E y = some (.int k j)) : Runs0 P n D E L (.binOp .eql T x y T') (.bool (decide (i = j))) := fun a w ka s o ho => by
  rw [show decide (i = j) = (i == j) from (Int.instDecidableEq i j |> fun _ => by rw [Bool.eq_iff_iff]; simp)]
  exact xEqI ho (ka.ev hx) (ka.ev hy)
theorem r_neq {k : IntKind} {i j : Int} (hx : ev E x = some (.int k i)) (hy : ev E y = some (.int k j)) : Runs0 P n D E L (.binOp .neq T x y T') (.bool (decide (¬ i = j))) := fun a w ka s o ho => by
  rw [show decide (¬ i = j) = (i != j) from by rw [Bool.eq_iff_iff]; simp]
  exact xNeI ho (ka.ev hx) (ka.ev hy)
theorem r_eqr {xs ys : List Value} {p : Prop} [Decidable p] (hx : ev E x = some (.agg xs.toArray)) (hy : ev E y = some (.agg ys.toArray)) [h : TEq P T xs ys (decide p)] : Runs0 P n D E L (.binOp .eql T x y T') (.bool (decide p)) := fun _ _ ka _ _ ho => xEql ho (ka.ev hx) (ka.ev hy)
theorem r_ner {xs ys : List Value} {p : Prop} [Decidable p] (hx : ev E x = some (.agg xs.toArray)) (hy : ev E y = some (.agg ys.toArray)) [h : TEq P T xs ys (decide p)] : Runs0 P n D E L (.binOp .neq T x y T') (.bool (decide (¬ p))) := fun a w ka s o ho => by
  have := xNeq (P := P) (w := w) ho (ka.ev hx) (ka.ev hy) (h := h)
  rw [this]
  simp
theorem run_equalIn_ptrR (w : World) (d : Nat) {e : TypeId} (p : Option Addr) (h : P.underlying T = some (.pointer e)) : (Op.equalIn (d + 1) T (.pointer p) (.pointer none)).run P w = .ok p.isNone w := by
  cases p <;> simp [Op.equalIn, run_underlying h]
theorem run_eq_ptrR (w : World) {e : TypeId} (p : Option Addr) (h : P.underlying T = some (.pointer e)) : (binOp .eql T (.pointer p) (.pointer none)).run P w = .ok (.bool p.isNone) w := by
  simp only [binOp]
  simp [Op.equal, Op.maxDepth, run_equalIn_ptrR w 9999 p h]
class TPtr (P : Program) (T : TypeId) : Prop where
  und : ∃ e, P.underlying T = some (.pointer e)
theorem r_nilR {p : Option Addr} [hT : TPtr P T] (hx : ev E x = some (.pointer p)) (hy : ev E y = some (.pointer none)) : Runs0 P n D E L (.binOp .eql T x y T') (.bool p.isNone) := fun a w ka s o ho => by
  obtain ⟨e, h⟩ := hT.und
  exact run_bin ho (ka.ev hx) (ka.ev hy) rfl (run_eq_ptrR w p h)
/-! structs, slices, functions -/
theorem r_build {z out : List Value} {pl : Nat → Option (Nat × Nat)} [hT : TB P T z pl] {l : List (Nat × Operand)} {ps : List (Nat × Value)} (hv : evp E l = some ps) [hf : Fills pl z ps out] : Runs0 P n D E L (.build T l.toArray) (.agg out.toArray) := fun a w ka s o ho => xBuild ho (ka.evp hv)
theorem r_extract {i : Nat} {vs : List Value} {v : Value} (hx : ev E x = some (.tuple vs.toArray)) (hv : vs[i]? = some v) : Runs0 P n D E L (.extract x i) v := fun _ _ ka _ _ ho => xExtract ho (ka.ev hx) hv
theorem r_nilc {b : Addr} (hx : ev E x = some (.pointer (some b))) : Runs0 P n D E L (.nilCheck x) (.pointer (some b)) := fun _ _ ka _ _ ho => xNil ho (ka.ev hx)
theorem r_slA {len e size : Nat} [hT : TArr P T len e size] {b off : Nat} (hx : ev E x = some (.pointer (some ⟨b, off, none⟩))) (hn : 0 < len := by decide) : Runs0 P n D E L (.slice T x none none none) (.slice (some ⟨b, off, none⟩) len len) := fun _ _ ka _ _ ho => xSlA ho (ka.ev hx) hn
theorem r_func {fn : Fn} {fi ca : List Operand} {vf vc : List Value} (hf : evs E fi = some vf) (hc : evs E ca = some vc) : Runs0 P n D E L (.makeFunc fn fi.toArray ca.toArray) (.func fn vf.toArray vc.toArray) := fun a w ka s o ho => by
  unfold execOp
  simp only [ho, Instr.makeFunc, Sem.run_bind, Sem.run_pure, Result.andThen_ok, List.map_toArray, ka.evs hf, ka.evs hc]
theorem r_iface {d : TypeDesc} {v : Value} (hu : P.underlying T = some d) (hd : (match d with | .interface _ => false | _ => true) = true) (hx : ev E x = some v) : Runs0 P n D E L (.makeInterface T x) (.iface T v) := fun a w ka s o ho => by
  unfold execOp
  simp only [ho, Instr.makeInterface, ka.ev hx, Sem.run_bind, run_underlying hu, Result.andThen_ok]
  cases d <;> first | rfl | (cases hd)
/-! words -/
variable {k k' : IntKind} {m : Nat} {i j : Int} {a b : BitVec m}
theorem binOp_bits {op : BinOp} {i j : Int} {k : IntKind} (h1 : op = .and ∨ op = .or ∨ op = .xor) (_ : True) (_ : True) : binOp op T (.int k i) (.int k j) = Op.intBits op k i j := by
  rcases h1 with rfl | rfl | rfl <;> simp [binOp]
theorem toNat_lt_pow {m : Nat} (a : BitVec m) : (a.toNat : Int) < 2 ^ m := by have := a.isLt; exact_mod_cast this
theorem wrap_bv {k : IntKind} {m : Nat} (hk : UK k m) (a : BitVec m) : k.wrap (a.toNat : Int) = a.toNat := by
  rw [hk.wrap, Int.emod_eq_of_lt (by omega) (toNat_lt_pow a)]
theorem r_and [hk : UK k m] (hx : ev E x = some (.int k i)) (hy : ev E y = some (.int k j)) [ha : Wd m i a] [hb : Wd m j b] : Runs0 P n D E L (.binOp .and T x y T') (.int k ((a &&& b).toNat : Int)) := fun c w ka s o ho => by
  obtain ⟨rfl, hs⟩ := hk
  obtain rfl := ha.eq
  obtain rfl := hb.eq
  refine run_bin ho (ka.ev hx) (ka.ev hy) (by cases k <;> rfl) ?_
  rw [binOp_bits (by simp) (by simp) (by simp)]
  simp only [Op.intBits, BitVec.ofInt_natCast, BitVec.ofNat_toNat, BitVec.setWidth_eq]
  rw [UK.wrap ⟨rfl, hs⟩, Int.emod_eq_of_lt (by omega) (by have := (a &&& b).isLt; exact_mod_cast this)]
  rfl
theorem r_or [hk : UK k m] (hx : ev E x = some (.int k i)) (hy : ev E y = some (.int k j)) [ha : Wd m i a] [hb : Wd m j b] : Runs0 P n D E L (.binOp .or T x y T') (.int k ((a ||| b).toNat : Int)) := fun c w ka s o ho => by
  obtain ⟨rfl, hs⟩ := hk
  obtain rfl := ha.eq
  obtain rfl := hb.eq
  refine run_bin ho (ka.ev hx) (ka.ev hy) (by cases k <;> rfl) ?_
  rw [binOp_bits (by simp) (by simp) (by simp)]
  simp only [Op.intBits, BitVec.ofInt_natCast, BitVec.ofNat_toNat, BitVec.setWidth_eq]
  rw [UK.wrap ⟨rfl, hs⟩, Int.emod_eq_of_lt (by omega) (by have := (a ||| b).isLt; exact_mod_cast this)]
  rfl
theorem r_xor [hk : UK k m] (hx : ev E x = some (.int k i)) (hy : ev E y = some (.int k j)) [ha : Wd m i a] [hb : Wd m j b] : Runs0 P n D E L (.binOp .xor T x y T') (.int k ((a ^^^ b).toNat : Int)) := fun c w ka s o ho => by
  obtain ⟨rfl, hs⟩ := hk
  obtain rfl := ha.eq
  obtain rfl := hb.eq
  refine run_bin ho (ka.ev hx) (ka.ev hy) (by cases k <;> rfl) ?_
  rw [binOp_bits (by simp) (by simp) (by simp)]
  simp only [Op.intBits, BitVec.ofInt_natCast, BitVec.ofNat_toNat, BitVec.setWidth_eq]
  rw [UK.wrap ⟨rfl, hs⟩, Int.emod_eq_of_lt (by omega) (by have := (a ^^^ b).isLt; exact_mod_cast this)]
  rfl
theorem r_addW [hk : UK k m] (hx : ev E x = some (.int k i)) (hy : ev E y = some (.int k j)) [ha : Wd m i a] [hb : Wd m j b] : Runs0 P n D E L (.binOp .add T x y T') (.int k ((a + b).toNat : Int)) := fun c w ka s o ho => by
  obtain rfl := ha.eq
  obtain rfl := hb.eq
  refine run_bin ho (ka.ev hx) (ka.ev hy) (by cases k <;> rfl) ?_
  have e : binOp .add T (.int k (a.toNat : Int)) (.int k (b.toNat : Int)) = Op.intArith .add k a.toNat b.toNat := by simp [binOp]
  rw [e]
  simp only [Op.intArith, hk.wrap, BitVec.toNat_add]
  simp [Int.natCast_emod, Int.natCast_add]
theorem r_mulW [hk : UK k m] (hx : ev E x = some (.int k i)) (hy : ev E y = some (.int k j)) [ha : Wd m i a] [hb : Wd m j b] : Runs0 P n D E L (.binOp .mul T x y T') (.int k ((a * b).toNat : Int)) := fun c w ka s o ho => by
  obtain rfl := ha.eq
  obtain rfl := hb.eq
  refine run_bin ho (ka.ev hx) (ka.ev hy) (by cases k <;> rfl) ?_
  have e : binOp .mul T (.int k (a.toNat : Int)) (.int k (b.toNat : Int)) = Op.intArith .mul k a.toNat b.toNat := by simp [binOp]
  rw [e]
  simp only [Op.intArith, hk.wrap, BitVec.toNat_mul]
  simp [Int.natCast_emod, Int.natCast_mul]
theorem r_shl {ky : IntKind} {q : Nat} [hk : UK k m] (hx : ev E x = some (.int k i)) (hy : ev E y = some (.int ky j)) [ha : Wd m i a] [hq : NatOf j q] (h : q ≤ m := by first | decide | omega) : Runs0 P n D E L (.binOp .shl T x y T') (.int k ((a <<< q).toNat : Int)) := fun c w ka s o ho => by
  obtain rfl := ha.eq
  have hj := hq.eq
  subst hj
  refine run_bin ho (ka.ev hx) (ka.ev hy) (by cases k <;> cases ky <;> rfl) ?_
  have e : binOp .shl T (.int k (a.toNat : Int)) (.int ky (q : Int)) = Op.shift .shl k a.toNat ky q := by unfold binOp; rfl
  rw [e]
  unfold Op.shift
  rw [if_neg (by omega)]
  simp only [Int.toNat_natCast, hk.bits, Nat.min_eq_left h, hk.wrap, BitVec.toNat_shiftLeft, Nat.shiftLeft_eq]
  simp [Int.natCast_emod, Int.natCast_mul]
theorem r_shr {ky : IntKind} {q : Nat} [hk : UK k m] (hx : ev E x = some (.int k i)) (hy : ev E y = some (.int ky j)) [ha : Wd m i a] [hq : NatOf j q] (h : q ≤ m := by first | decide | omega) : Runs0 P n D E L (.binOp .shr T x y T') (.int k ((a >>> q).toNat : Int)) := fun c w ka s o ho => by
  obtain rfl := ha.eq
  have hj := hq.eq
  subst hj
  refine run_bin ho (ka.ev hx) (ka.ev hy) (by cases k <;> cases ky <;> rfl) ?_
  have e : binOp .shr T (.int k (a.toNat : Int)) (.int ky (q : Int)) = Op.shift .shr k a.toNat ky q := by unfold binOp; rfl
  rw [e]
  unfold Op.shift
  rw [if_neg (by omega)]
  simp only [Int.toNat_natCast, hk.bits, Nat.min_eq_left h, BitVec.toNat_ushiftRight, Nat.shiftRight_eq_div_pow]
  rw [Int.fdiv_eq_ediv_of_nonneg _ (Int.pow_nonneg (by decide))]
  simp [Int.natCast_ediv]
theorem r_notW [hk : UK k m] (hx : ev E x = some (.int k i)) [ha : Wd m i a] : Runs0 P n D E L (.unOp .xor T x) (.int k ((~~~a).toNat : Int)) := fun c w ka s o ho => by
  obtain ⟨rfl, hs⟩ := hk
  obtain rfl := ha.eq
  have e1 : BitVec.ofInt k.bits k.max = BitVec.allOnes k.bits := by
    rw [IntKind.max, hs]
    apply BitVec.eq_of_toInt_eq
    cases k <;> first | (simp [IntKind.signed] at hs; done) | decide
  unfold execOp
  simp only [ho, ka.ev hx, Op.unary, hs, Bool.false_eq_true, if_false, Op.intBits, e1, BitVec.ofInt_natCast, BitVec.ofNat_toNat, BitVec.setWidth_eq, BitVec.allOnes_xor, Sem.run_bind, Sem.run_pure, Result.andThen_ok]
  rw [wrap_bv ⟨rfl, hs⟩]
/-- between kinds, where the number fits -/
theorem r_convN (hT : P.underlying T = some (.int k)) (hT' : P.underlying T' = some (.int k')) (hx : ev E x = some (.int k i)) (h : k'.wrap i = i) : Runs0 P n D E L (.convert T T' x) (.int k' i) := fun c w ka s o ho => by
  unfold execOp
  simp only [ho, ka.ev hx, convert, Sem.run_bind, run_underlying hT, run_underlying hT', Result.andThen_ok, Conv.intToInt, h]
  rfl
theorem r_convW {m' : Nat} [hk : UK k m] [hk' : UK k' m'] (hT : P.underlying T = some (.int k)) (hT' : P.underlying T' = some (.int k')) (hx : ev E x = some (.int k i)) [ha : Wd m i a] : Runs0 P n D E L (.convert T T' x) (.int k' ((a.setWidth m').toNat : Int)) := fun c w ka s o ho => by
  obtain rfl := ha.eq
  unfold execOp
  simp only [ho, ka.ev hx, convert, Sem.run_bind, run_underlying hT, run_underlying hT', Result.andThen_ok, Conv.intToInt, hk'.wrap, BitVec.toNat_setWidth]
  simp [Int.natCast_emod]
end
/-! rows of words and of numbers -/
def wc {m : Nat} (k : IntKind) (l : List (BitVec m)) : List Value := l.map fun x => .int k (x.toNat : Int)
theorem wc_at {m : Nat} {k : IntKind} {l : List (BitVec m)} {i : Nat} (h : i < l.length) : (wc k l)[i]? = some (.int k ((l.getD i 0).toNat : Int)) := by simp [wc, h]
theorem wc_len {m : Nat} (k : IntKind) (l : List (BitVec m)) : (wc k l).length = l.length := by simp [wc]
theorem bc_at' {l : List UInt8} {i : Nat} (h : i < l.length) : (bc l)[i]? = some (.int .u8 ((l.getD i 0).toNat : Int)) := bc_get l i h
instance (priority := 2000) (cs new out : List Value) (i : Nat) [h : SetAt cs i new out] : SetAt cs (i * 1) new out := ⟨by rw [Nat.mul_one]; exact h.eq, by rw [Nat.mul_one]; exact h.fit⟩
instance (priority := 2000) (cs new out : List Value) (n : Nat) [h : SetAt cs 0 new out] : SetAt cs (0 * n) new out := ⟨by rw [Nat.zero_mul]; exact h.eq, by rw [Nat.zero_mul]; exact h.fit⟩
instance (priority := 2000) (cs new out : List Value) (n : Nat) [h : SetAt cs n new out] : SetAt cs (1 * n) new out := ⟨by rw [Nat.one_mul]; exact h.eq, by rw [Nat.one_mul]; exact h.fit⟩
end Go.Proofs.YtjhocljhhpkiiaaGreatDoor
/- C1 -/
namespace Go.Proofs.YtjhocljhhpkiiaaGreatDoor
set_option linter.unusedSimpArgs false
set_option linter.unusedVariables false
open Go.RowKit Go.ChangeShapes Go.WideShapes
section
variable {H : Type} {enc : TypeId × Value → H} {P : Program} {w : World} {base : Nat} {spare : Nat → Bool} {held : Bool} {v : Value} {d : DataW H} {ps : List MemPlace} {r : Reach} {b0 : Nat} {t e : TypeId}
theorem okWide_array' {n : Nat} (ht : P.underlying t = some (.array n e)) (h : Value.okWide P w r b0 t v) : ∃ cs : Array Value, v = .agg cs ∧ cs.size = P.cellsOf t := by
  simp only [Value.okWide, ht] at h
  obtain ⟨cs, h1, h2, _⟩ := h
  exact ⟨cs, h1, h2⟩
/-- an argument that is 32 bytes -/
theorem open_B32 (ht : P.underlying t = some (.array 32 e)) (hc : P.cellsOf t = 32) (he : P.underlying e = some (.int .u8)) (hce : P.cellsOf e = 1) (hval : Value.okWide P w r b0 t v) (hd : DataW.Trod enc P w base spare held t v d ps) : ∃ y : B32, v = .agg y.cells.toArray := by
  obtain ⟨cs, rfl, -⟩ := okWide_array' ht hval
  obtain ⟨fuel, hf⟩ := hd
  obtain ⟨cs⟩ := cs
  have hf' : DataW.trod enc P w base spare held fuel t cs = some (d, ps) := by simpa [Value.cells] using hf
  obtain ⟨y, rfl⟩ := dec_B32 ht hc he hce hf'
  exact ⟨y, rfl⟩
theorem open_int' {k : IntKind} (ht : P.underlying t = some (.int k)) (hval : Value.okWide P w r b0 t v) (hd : DataW.Trod enc P w base spare held t v d ps) : ∃ n : Int, v = .int k n ∧ (Lit.int k n).wf = true := by
  obtain ⟨n, h1, _, _, h2⟩ := open_int ht hval hd
  exact ⟨n, h1, h2⟩
end
/-- a table of words, read off its datum -/
theorem words_of {P : Program} {w : World} {fuel T e : Nat} {n : Nat} {cs : List Value} {l : List Nat} {ps : List MemPlace} (ht : P.underlying T = some (.array n e)) (he : P.underlying e = some (.int .u32)) (hce : P.cellsOf e = 1) (hcT : P.cellsOf T = n)
    {base : Nat} {spare : Nat → Bool} {held : Bool} {enc : TypeId × Value → Unit} (h : DataW.trod enc P w base spare held fuel T cs = some (.agg (l.map fun k : Nat => DataW.lit (.int .u32 (k : Int))), ps)) : cs = l.map fun k : Nat => Value.int .u32 (k : Int) := by
  obtain ⟨xs, m, -, hx1, hl, hxl, hx⟩ := DataW.trod_array ht h
  rw [hcT] at hl
  injection hx1 with hx1 _
  injection hx1 with hx1
  apply List.ext_getElem?
  intro i
  by_cases hi : i < n
  · have h1 := hx i hi
    rw [hce, Nat.mul_one, List.getElem?_eq_getElem (by omega)] at h1
    obtain ⟨k, e1, e2, _⟩ := DataW.trod_int he h1
    have h2 := congrArg (fun z => z[i]?) hx1
    simp only [List.getElem?_map] at h2
    rw [List.getElem?_eq_getElem (l := xs) (by omega), e2] at h2
    have h3 := congrArg (fun z => z[0]?) e1
    simp only [List.getElem?_take, List.getElem?_drop] at h3
    simp only [List.getElem?_map]
    cases hli : l[i]? with
    | none => rw [hli] at h2; cases h2
    | some q =>
      rw [hli] at h2
      simp only [Option.map_some, Option.some.injEq, DataW.lit.injEq, Lit.int.injEq, true_and] at h2
      have h4 : cs[i]? = some (.int .u32 k) := by simpa using h3
      rw [h4, ← h2]
      rfl
  · have hlx : l.length = xs.length := by simpa using (congrArg List.length hx1)
    rw [List.getElem?_eq_none (by omega), List.getElem?_eq_none (by simp; omega)]
end Go.Proofs.YtjhocljhhpkiiaaGreatDoor
/- N4 -/
namespace Go.Proofs.YtjhocljhhpkiiaaGreatDoor
set_option linter.unusedSimpArgs false
set_option linter.unusedVariables false
open Go.RowKit
section
variable {P : Program} {A : List Fa} {W : World} {n : Nat} {D : List Deferred} {E : Env} {L M : List Fa} {T : TypeId} {x y : Operand}
theorem x_alloc {cs : List Value} [TZ P T cs] : RunsX P A W n D E L (.alloc T) (fun g : Nat => .pointer (some ⟨g, 0, none⟩)) (fun g => .blk g cs T :: L) := fun a w ka s o ho => ⟨_, _, xAlloc ho, s.alloc cs T⟩
theorem x_box {cs : List Value} (hx : ev E x = some (.agg cs.toArray)) : RunsX P A W n D E L (.box T x) (fun g : Nat => .pointer (some ⟨g, 0, none⟩)) (fun g => .blk g cs T :: L) := fun a w ka s o ho => ⟨_, _, xBox ho (ka.ev hx) rfl, s.alloc cs T⟩
theorem x_box1 {v : Value} (hx : ev E x = some v) (hv : v.cells = #[v] := by rfl) : RunsX P A W n D E L (.box T x) (fun g : Nat => .pointer (some ⟨g, 0, none⟩)) (fun g => .blk g [v] T :: L) := fun a w ka s o ho => ⟨_, _, xBox (cs := [v]) ho (ka.ev hx) hv, s.alloc [v] T⟩
theorem own_new {w : World} {g e size m c : Nat} {cs xs : List Value} (hb : w.heap[g]? = some (.cells cs.toArray e (0, 0))) (hx : xs.length = m * size) (hm : m ≤ c) (hc : c ≤ maxLen) (hl : cs.length = c * size) (ht : cs.take (m * size) = xs) : w.ownsRow 0 e size (.slice (some ⟨g, 0, none⟩) m c) m xs :=
  ⟨hx, .inr ⟨g, c, cs.toArray, rfl, Nat.zero_le _, hb, hm, hc, by simpa using hl, by simpa using ht⟩⟩
/-- a block that is new, as a row of one's own -/
theorem Sx.blkOwn {w : World} {g e size m c : Nat} {cs xs : List Value} (h : Sx A W w (.blk g cs e :: L)) (hx : xs.length = m * size) (hm : m ≤ c) (hc : c ≤ maxLen) (hl : cs.length = c * size) (ht : cs.take (m * size) = xs) : Sx A W w (.own (.slice (some ⟨g, 0, none⟩) m c) m e size xs :: L) := by
  have hb : w.heap[g]? = some (.cells cs.toArray e (0, 0)) := h.ok (.blk _ _ _) (List.mem_cons_self ..)
  exact h.turn rfl (fun k hk => .inl (show k = g by have : some g = some k := hk; injection this with this; exact this.symm)) (own_new hb hx hm hc hl ht) rfl rfl rfl (Nat.le_refl _) (fun _ _ _ => rfl)
theorem x_bsl {t e m sz bytes : Nat} {z : Value} [E' : TS P t e sz bytes z] {l : List (Nat × Operand)} {ps : List (Nat × Value)} {out : List Value} {q : Nat} (hv : evp E l = some ps) (hl : ps.length = m) [hf : Parts sz 0 ps out] [ho : Row out q] (hq : m * sz = q := by rfl) (h0 : 0 < m ∧ m * sz ≤ 16777216 := by decide) :
    RunsX P A W n D E L (.buildSlice t m l.toArray) (fun g : Nat => .slice (some ⟨g, 0, none⟩) m m) (fun g => .own (.slice (some ⟨g, 0, none⟩) m m) m e sz out :: L) := fun a w ka s o hop => by
  obtain ⟨j, hi', hz, hsz, hby⟩ := info_parts E'.el.hi
  have hp : (l.toArray.map fun (x : Nat × Operand) => match x with | (i, x) => (i, a.eval x)).toList = ps := by
    rw [← ka.evp hv]
    simp
  have hs0 := E'.el.h0
  have hpos := Nat.mul_pos h0.1 hs0
  have hmm : m ≤ m * sz := Nat.le_mul_of_pos_right _ hs0
  have hcells : Instr.fill (fun i => some (i * j.size, j.size)) ((Array.range (m * j.size)).map (z.cells[· % z.cells.size]!)) (l.toArray.map fun (x : Nat × Operand) => match x with | (i, x) => (i, a.eval x)).toList = some out.toArray := by
    rw [hp, hsz]
    have := hf.fill [] ((Array.range (m * sz)).map (z.cells[· % z.cells.size]!)).toList (by simp) (by simp [hl])
    rw [List.nil_append, Array.toArray_toList, List.nil_append] at this
    exact this
  have hrun := run_buildSlice (P := P) w t e m (l.toArray.map fun (x : Nat × Operand) => match x with | (i, x) => (i, a.eval x)) out.toArray j z E'.el.ht hi' hz (by rw [hsz]; omega) (by rw [hsz]; omega) hcells
  refine ⟨w.heap.size, _, ?_, (s.alloc out e).blkOwn (ho.len.trans hq.symm) (Nat.le_refl _) (by unfold maxLen; omega) (ho.len.trans hq.symm) (by rw [hq, ← ho.len, List.take_length])⟩
  unfold execOp
  simp only [hop, Sem.run_bind, hrun, Result.andThen_ok]
  rfl
/-- '[]T{}' -/
theorem x_bsl0 {t e sz bytes : Nat} {z : Value} [E' : TS P t e sz bytes z] {xs : List Value} (hxs : xs = [] := by exact rfl) : RunsX P A W n D E L (.buildSlice t 0 #[]) (fun g : Nat => .slice (some ⟨g, 0, none⟩) 0 0) (fun g => .own (.slice (some ⟨g, 0, none⟩) 0 0) 0 e sz xs :: L) := fun a w ka s o hop => by
  subst hxs
  obtain ⟨j, hi', hz, hsz, hby⟩ := info_parts E'.el.hi
  refine ⟨w.heap.size, _, ?_, (s.alloc [] e).blkOwn (by simp) (Nat.le_refl _) (by unfold maxLen; omega) (by simp) (by simp)⟩
  unfold execOp
  simp [hop, Instr.buildSlice, run_underlying E'.el.ht, sizeOf, typeInfo, hi', Instr.fill, newRow, show Array.range 0 = #[] from by decide]
/-- a row of one's own grows -/
theorem Sx.grow {w w' : World} {v v' : Value} {N N' e size : Nat} {xs xs' : List Value} (h : Sx A W w (.own v N e size xs :: L)) (hw : w'.ownsRow 0 e size v' N' xs') (hg : w.grownBy w' v.ownBlock) (hwh : v'.ownBlock = v.ownBlock ∨ v'.ownBlock = some w.heap.size) : Sx A W w' (.own v' N' e size xs' :: L) := by
  refine h.turn rfl (fun k hk => ?_) hw hg.os hg.tape hg.output hg.size fun k hk hn => hg.block k hk fun e => hn e.symm
  have hk' : v'.ownBlock = some k := hk
  rcases hwh with h1 | h1
  · exact .inl (show v.ownBlock = some k by rw [← h1]; exact hk')
  · rw [h1] at hk'
    injection hk' with hk'
    exact .inr (by omega)
theorem h_nil_own {K : Act → World → Prop} (e size : Nat) {xs : List Value} (hx : xs = []) (h : H A W n D E (.own (.slice none 0 0) 0 e size xs :: L) K) : H A W n D E L K := by
  subst hx
  exact h_L (fun w s => s.cons (f := .own (.slice none 0 0) 0 e size []) (World.ownsRow_nil w _ e size) (fun g _ _ k hk _ => by cases hk) (fun _ k hk => by cases hk)) h
theorem x_make {e size bytes : Nat} {z : Value} [E' : TS P T e size bytes z] {c : Nat} {i j : Int} (hx : ev E x = some (.int .i64 i)) (hy : ev E y = some (.int .i64 j)) [h1 : NatOf i c] [h2 : NatOf j c] (hb : c * bytes ≤ 281474976710656 := by omega) :
    RunsX P A W n D E L (.makeSlice T x y) (fun g : Nat => .slice (some ⟨g, 0, none⟩) c c) (fun g => .own (.slice (some ⟨g, 0, none⟩) c c) c e size (madeCells z.cells (c * size)).toList :: L) := fun a w ka s o hop => by
  obtain ⟨t, hi, hz, hsz, hby⟩ := info_parts E'.el.hi
  have hbp := E'.el.hb
  have hz1 := E'.el.hz
  obtain rfl := h1.eq
  obtain rfl := h2.eq
  subst hby hsz
  have hc : c ≤ c * t.bytes := Nat.le_mul_of_pos_right _ hbp
  have hb' : (t.bytes : Int) * (c : Int) ≤ 281474976710656 := by
    have : ((t.bytes * c : Nat) : Int) ≤ 281474976710656 := by rw [Nat.mul_comm]; omega
    rwa [Int.natCast_mul] at this
  have hrun := run_make (P := P) w T e t z E'.el.ht hi hz .i64 .i64 c c (by omega) (Int.le_refl _) hb' (by omega)
  simp only [Int.toNat_natCast] at hrun
  have hS' := s.alloc (madeCells z.cells (c * t.size)).toList e
  rw [Array.toArray_toList] at hS'
  have hlen : (madeCells z.cells (c * t.size)).toList.length = c * t.size := by simp [madeCells]
  refine ⟨w.heap.size, _, ?_, hS'.blkOwn hlen (Nat.le_refl _) (by unfold maxLen; omega) hlen (List.take_of_length_le (by rw [hlen]; exact Nat.le_refl _))⟩
  unfold execOp
  simp only [hop, ka.ev hx, ka.ev hy]
  rw [Sem.run_bind, hrun]
  rfl
theorem zeros_bytes (c : Nat) : (madeCells (Value.int .u8 0).cells (c * 1)).toList = bc (List.replicate c 0) := madeBytes c
/-! stores -/
theorem Sx.put {w w' : World} {g : Nat} {cs cs' : List Value} {T : TypeId} (h : Sx A W w (.blk g cs T :: L)) (hb : w'.heap[g]? = some (.cells cs'.toArray T (0, 0))) (hbel : ∀ B w0, Below B w0 w → B ≤ g → Below B w0 w')
    (hsz : w'.heap.size = w.heap.size) (hk : ∀ k, k ≠ g → w'.heap[k]? = w.heap[k]?) : Sx A W w' (.blk g cs' T :: L) := by
  have h0 := hbel 0 w (Below.refl _ _) (Nat.zero_le _)
  exact h.turn rfl (fun k hk => .inl hk) hb h0.os h0.tape h0.output (by omega) fun k _ hne => hk k hne
theorem run_store1 {o : Oper} {a : Act} {w : World} {T T' : TypeId} [hT : TOne P T] {g off : Nat} {cs : List Value} {v : Value} (hop : o.op = .store T x y) (hp : a.eval x = .pointer (some ⟨g, off, none⟩)) (hx : a.eval y = v) (hv : v.oneCell' = true) (hb : w.heap[g]? = some (.cells cs.toArray T' (0, 0))) (hf : off < cs.length) :
    (execOp a.eval o).run P w = .ok .skip (w.setCell ⟨g, off, none⟩ v) := by
  obtain ⟨hcell, hfz⟩ := blk_cells hb
  obtain ⟨j, hj, hjs⟩ := Option.map_eq_some_iff.1 hT.size
  have hone : v.cells = #[v] := by cases v <;> first | rfl | simp [Value.oneCell'] at hv
  have hst : (store (⟨g, off, none⟩ : Addr) v).run P w = .ok () (w.setCell ⟨g, off, none⟩ v) := by
    have hcl : w.cell? ⟨g, off, none⟩ = some (cs[off]'hf) := by rw [hcell]; simp [hf]
    cases v <;> first | (simp [Value.oneCell'] at hv; done) | simp [store, Sem.run, hcl, hfz]
  have hrun : (storeVar T ⟨g, off, none⟩ v).run P w = .ok () (w.setCell ⟨g, off, none⟩ v) := by
    simp [storeVar, hone, sizeOf, typeInfo, hj, hjs, storeCells, Addr.add, hst]
  unfold execOp
  simp only [hop, hp, hx, Instr.storeAt, Instr.sureAddr, Sem.run_bind, Sem.run_pure, Result.andThen_ok, hrun]
theorem s_store {T' g off : Nat} [hT : TOne P T] {cs cs' : List Value} {v : Value} (hp : ev E x = some (.pointer (some ⟨g, off, none⟩))) (hx : ev E y = some v) (hv : v.oneCell' = true) [hm : TakeB g L cs T' M] [hs : SetAt cs off [v] cs'] : RunsS P A W n D E L (.store T x y) (.blk g cs' T' :: M) := fun a w ka s o hop => by
  have h2 := s.perm hm.perm
  have hb : w.heap[g]? = some (.cells cs.toArray T' (0, 0)) := h2.ok (.blk _ _ _) (List.mem_cons_self ..)
  have hf := hs.fit
  simp only [List.length_singleton] at hf
  refine ⟨_, run_store1 hop (ka.ev hp) (ka.ev hx) hv hb (by omega), h2.put ?_ (fun B w0 hB hg => hB.setCell hg v) (by simp) (fun k hk => heap_setCell_other w _ k v hk)⟩
  rw [heap_setCell_same w g off _ T' v hb, hs.eq, List.setIfInBounds_toArray, List.length_singleton, List.set_eq_take_append_cons_drop, if_pos (by omega)]
  simp
/-- at a place that is a variable -/
theorem s_set {T' g off : Nat} [hT : TOne P T] {cs cs' : List Value} {v : Value} (hp : ev E x = some (.pointer (some ⟨g, off, none⟩))) (hx : ev E y = some v) (hv : v.oneCell' = true) [hm : TakeB g L cs T' M] (hf : off < cs.length) (hs : cs.set off v = cs') : RunsS P A W n D E L (.store T x y) (.blk g cs' T' :: M) := fun a w ka s o hop => by
  have h2 := s.perm hm.perm
  have hb : w.heap[g]? = some (.cells cs.toArray T' (0, 0)) := h2.ok (.blk _ _ _) (List.mem_cons_self ..)
  refine ⟨_, run_store1 hop (ka.ev hp) (ka.ev hx) hv hb hf, h2.put ?_ (fun B w0 hB hg => hB.setCell hg v) (by simp) (fun k hk => heap_setCell_other w _ k v hk)⟩
  rw [heap_setCell_same w g off _ T' v hb, List.setIfInBounds_toArray, hs]
theorem s_storer {T' g off m : Nat} [hT : TRow P T m] {cs new cs' : List Value} (hp : ev E x = some (.pointer (some ⟨g, off, none⟩))) (hx : ev E y = some (.agg new.toArray)) [hm : TakeB g L cs T' M] [hn : Row new m] [hs : SetAt cs off new cs'] : RunsS P A W n D E L (.store T x y) (.blk g cs' T' :: M) := fun a w ka s o hop => by
  have h2 := s.perm hm.perm
  have hb : w.heap[g]? = some (.cells cs.toArray T' (0, 0)) := h2.ok (.blk _ _ _) (List.mem_cons_self ..)
  have hrun := ex_store_mid (P := P) (a := a) (o := o) hop (ka.ev hp) (ka.ev hx) hb (by rw [hn.len]; exact hT.size) (by simpa using hs.fit) hn.one
  refine ⟨_, hrun, h2.put ?_ (fun B w0 hB hg => below_setRow hB hg _) (by simp) (fun k hk => setRow_other w g k _ hk)⟩
  rw [setRow_heap w g _ _ T' _ hb, hs.eq]
/-- a row of one's own, written -/
theorem own_parts {w : World} {g N c e size : Nat} {xs : List Value} (h : w.ownsRow 0 e size (.slice (some ⟨g, 0, none⟩) N c) N xs) : ∃ cur : List Value, w.heap[g]? = some (.cells cur.toArray e (0, 0)) ∧ N ≤ c ∧ c ≤ maxLen ∧ cur.length = c * size ∧ cur.take (N * size) = xs := by
  obtain ⟨hl, h | ⟨g', cap, cur, e1, _, hb, h1, h2, h3, h4⟩⟩ := h
  · cases h.1
  · injection e1 with e1 _ e2
    injection e1 with e1
    injection e1 with e1 _
    subst e1 e2
    exact ⟨cur.toList, by simpa using hb, h1, h2, by simpa using h3, h4⟩
theorem s_setO {g N c e size off : Nat} [hT : TOne P T] {xs xs' : List Value} {v : Value} (hp : ev E x = some (.pointer (some ⟨g, off, none⟩))) (hx : ev E y = some v) (hv : v.oneCell' = true) [hm : TakeG g L N c e size xs M] (hf : off < xs.length) (hs : xs.set off v = xs') : RunsS P A W n D E L (.store T x y) (.own (.slice (some ⟨g, 0, none⟩) N c) N e size xs' :: M) := fun a w ka s o hop => by
  have h2 := s.perm hm.perm
  have ho : w.ownsRow 0 e size (.slice (some ⟨g, 0, none⟩) N c) N xs := h2.ok (.own _ _ _ _ _) (List.mem_cons_self ..)
  obtain ⟨cur, hb, h3, h4, h5, h6⟩ := own_parts ho
  have hoff : off < cur.length := by rw [← h6, List.length_take] at hf; omega
  have hb' : (w.setCell ⟨g, off, none⟩ v).heap[g]? = some (.cells (cur.set off v).toArray e (0, 0)) := by
    rw [heap_setCell_same w g off _ e v hb, List.setIfInBounds_toArray]
  have hbl : Below 0 w (w.setCell ⟨g, off, none⟩ v) := (Below.refl 0 w).setCell (Nat.zero_le _) v
  refine ⟨_, run_store1 hop (ka.ev hp) (ka.ev hx) hv hb hoff, h2.turn rfl (fun k hk => .inl hk) (own_new hb' (by rw [← hs, List.length_set]; exact ho.1) h3 h4 (by rw [List.length_set]; exact h5) (by rw [List.take_set, h6, hs])) hbl.os hbl.tape hbl.output hbl.size fun k _ hne => heap_setCell_other w _ k v fun e => hne (show some g = some k by rw [e])⟩
theorem s_setrO {g N c e size off m : Nat} [hT : TRow P T m] {xs new xs' : List Value} (hp : ev E x = some (.pointer (some ⟨g, off, none⟩))) (hx : ev E y = some (.agg new.toArray)) [hm : TakeG g L N c e size xs M] [hn : Row new m] (hf : off + m ≤ xs.length) (hs : xs.take off ++ new ++ xs.drop (off + m) = xs') : RunsS P A W n D E L (.store T x y) (.own (.slice (some ⟨g, 0, none⟩) N c) N e size xs' :: M) := fun a w ka s o hop => by
  have h2 := s.perm hm.perm
  have ho : w.ownsRow 0 e size (.slice (some ⟨g, 0, none⟩) N c) N xs := h2.ok (.own _ _ _ _ _) (List.mem_cons_self ..)
  obtain ⟨cur, hb, h3, h4, h5, h6⟩ := own_parts ho
  have hxl : xs.length ≤ cur.length := by rw [← h6, List.length_take]; omega
  have hrun := ex_store_mid (P := P) (a := a) (o := o) hop (ka.ev hp) (ka.ev hx) hb (by rw [hn.len]; exact hT.size) (by rw [hn.len]; simp; omega) hn.one
  have hcut : ∀ k, k ≤ xs.length → cur.take k = xs.take k := fun k hk => by
    rw [← h6, List.take_take, Nat.min_eq_left (by rw [ho.1] at hk; exact hk)]
  have hl2 : (cur.take off ++ new ++ cur.drop (off + new.length)).length = cur.length := by simp [hn.len]; omega
  have hbl : Below 0 w (w.setRow g (cur.toArray.toList.take off ++ new ++ cur.toArray.toList.drop (off + new.length)).toArray) := below_setRow (Below.refl 0 w) (Nat.zero_le _) _
  have htk : (cur.take off ++ new ++ cur.drop (off + new.length)).take (N * size) = xs' := by
    rw [← hs, hn.len]
    have hlen := ho.1
    have e1 : N * size = (cur.take off ++ new).length + (xs.length - (off + m)) := by
      simp only [List.length_append, List.length_take, hn.len]
      omega
    rw [e1, List.take_length_add_append, hcut off (by omega)]
    congr 1
    rw [← List.drop_take, hcut _ (Nat.le_refl _), List.take_length]
  refine ⟨_, hrun, h2.turn rfl (fun k hk => .inl hk) (own_new (setRow_heap w g _ _ e _ hb) (by rw [← hs]; simp [hn.len, ← ho.1]; omega) h3 h4 (by simpa [h5] using hl2) (by simpa using htk)) hbl.os hbl.tape hbl.output hbl.size fun k _ hne => setRow_other w g k _ fun e => hne (show some g = some k by rw [e])⟩
end
/-! slices of slices -/
section
variable {P : Program} {n : Nat} {D : List Deferred} {E : Env} {L : List Fa} {T : TypeId} {x : Operand} {A : Option Addr} {N c l h : Nat} {i j : Int} {k k' : IntKind} {p q : Operand} {e size bytes : Nat} {z : Value}
theorem ts_size [E' : TS P T e size bytes z] : (P.info? e).map (·.size) = some size := by
  obtain ⟨t, hi, _, hsz, _⟩ := info_parts E'.el.hi
  rw [hi, Option.map_some, hsz]
theorem cutA_lt {b o : Nat} (hl : l < c) : cutA (some ⟨b, o, none⟩) c l size = some ⟨b, o + l * size, none⟩ := by
  unfold cutA
  rw [if_neg (by omega), Option.map_some, Addr.add_mid]
theorem r_slL [E' : TS P T e size bytes z] (hx : ev E x = some (.slice A N c)) (hp : ev E p = some (.int k i)) [hi : NatOf i l] (hl : l ≤ N := by omega) : Runs0 P n D E L (.slice T x (some p) none none) (.slice (cutA A c l size) (N - l) (c - l)) := fun a w ka s o ho => by
  obtain rfl := hi.eq
  have := cut_l (P := P) (w := w) ho E'.el.ht (ts_size (E' := E')) (ka.ev hx) (ka.ev hp) (by omega) (by omega)
  simpa using this
theorem r_slH [E' : TS P T e size bytes z] (hx : ev E x = some (.slice A N c)) (hq : ev E q = some (.int k j)) [hj : NatOf j h] (hl : h ≤ c := by omega) : Runs0 P n D E L (.slice T x none (some q) none) (.slice (cutA A c 0 size) h c) := fun a w ka s o ho => by
  obtain rfl := hj.eq
  have := cut_h (P := P) (w := w) ho E'.el.ht (ts_size (E' := E')) (ka.ev hx) (ka.ev hq) (by omega) (by omega)
  simpa using this
theorem r_slLH [E' : TS P T e size bytes z] (hx : ev E x = some (.slice A N c)) (hp : ev E p = some (.int k i)) (hq : ev E q = some (.int k' j)) [hi : NatOf i l] [hj : NatOf j h] (hl : l ≤ h := by omega) (hh : h ≤ c := by omega) : Runs0 P n D E L (.slice T x (some p) (some q) none) (.slice (cutA A c l size) (h - l) (c - l)) := fun a w ka s o ho => by
  obtain rfl := hi.eq
  obtain rfl := hj.eq
  have := cut_lh (P := P) (w := w) ho E'.el.ht (ts_size (E' := E')) (ka.ev hx) (ka.ev hp) (ka.ev hq) (by omega) (by omega) (by omega)
  simpa using this
/-- where it begins ahead of the capacity's end -/
theorem r_slLHb [E' : TS P T e size bytes z] {b O O' m c' : Nat} (hx : ev E x = some (.slice (some ⟨b, O, none⟩) N c)) (hp : ev E p = some (.int k i)) (hq : ev E q = some (.int k' j)) [hi : NatOf i l] [hj : NatOf j h] (hm : l + m = h := by omega) (hh : h ≤ c := by omega) (hlt : l < c := by omega) (hO : O + l * size = O' := by first | (simp only [Nat.zero_add, Nat.add_zero, Nat.mul_one, Nat.reduceMul, Nat.reduceAdd]; exact rfl) | exact rfl) (hc : c - l = c' := by rfl) :
    Runs0 P n D E L (.slice T x (some p) (some q) none) (.slice (some ⟨b, O', none⟩) m c') := fun a w ka s o ho => by
  have hr := r_slLH (P := P) (n := n) (D := D) (L := L) (T := T) hx hp hq (by omega) hh a w ka s o ho
  rw [cutA_lt hlt, hO, hc, show h - l = m by omega] at hr
  exact hr
theorem run_slLHM [E' : TS P T e size bytes z] {b O : Nat} {i1 i2 i3 : Int} {k1 k2 k3 : IntKind} {m : Nat} (w : World) (h1 : NatOf i1 l) (h2 : NatOf i2 h) (h3 : NatOf i3 m) (a1 : l ≤ h) (a2 : h ≤ m) (a3 : m ≤ c) (a4 : l < m) :
    (Instr.sliceAt T (.slice (some ⟨b, O, none⟩) N c) (some (.int k1 i1)) (some (.int k2 i2)) (some (.int k3 i3))).run P w = .ok (.slice (some ⟨b, O + l * size, none⟩) (h - l) (m - l)) w := by
  obtain rfl := h1.eq
  obtain rfl := h2.eq
  obtain rfl := h3.eq
  obtain ⟨t, hi, _, hsz, _⟩ := info_parts E'.el.hi
  have c1 : (0 : Int) ≤ (m : Int) ∧ (m : Int) ≤ (c : Int) := ⟨by omega, by omega⟩
  have c2 : (0 : Int) ≤ (h : Int) ∧ (h : Int) ≤ (m : Int) := ⟨by omega, by omega⟩
  have c3 : (0 : Int) ≤ (l : Int) ∧ (l : Int) ≤ (h : Int) := ⟨by omega, by omega⟩
  have hne : ¬ m = l := by omega
  unfold Instr.sliceAt
  simp only [Sem.run_bind, run_underlying E'.el.ht, Result.andThen_ok, Instr.slice, Instr.sliceBounds, Instr.sliceBound, asIntOf, Sem.run_pure, if_pos c1, if_pos c2, if_pos c3, Int.toNat_natCast, sizeOf, typeInfo, Option.isSome_some]
  simp [hi, hsz, hne, Addr.add_mid]
theorem r_slLHM [E' : TS P T e size bytes z] {b O O' m N' c' : Nat} {r : Operand} {i3 : Int} {k3 : IntKind} (hx : ev E x = some (.slice (some ⟨b, O, none⟩) N c)) (hp : ev E p = some (.int k i)) (hq : ev E q = some (.int k' j)) (hr : ev E r = some (.int k3 i3)) [hi : NatOf i l] [hj : NatOf j h] [h3 : NatOf i3 m] (a1 : l ≤ h := by omega) (a2 : h ≤ m := by omega) (a3 : m ≤ c := by omega) (a4 : l < m := by omega)
    (hO : O + l * size = O' := by first | (simp only [Nat.zero_add, Nat.add_zero, Nat.mul_one, Nat.reduceMul, Nat.reduceAdd]; exact rfl) | exact rfl) (hN : h - l = N' := by first | (simp only [Nat.add_sub_cancel_left]; exact rfl) | exact rfl) (hc : m - l = c' := by first | (simp only [Nat.add_sub_cancel_left]; exact rfl) | exact rfl) : Runs0 P n D E L (.slice T x (some p) (some q) (some r)) (.slice (some ⟨b, O', none⟩) N' c') := fun a w ka s o ho => by
  subst hO hN hc
  have := run_slLHM (P := P) (T := T) (N := N) (b := b) (O := O) (k1 := k) (k2 := k') (k3 := k3) w hi hj h3 a1 a2 a3 a4
  unfold execOp
  simp only [ho, ka.ev hx, Option.map_some, ka.ev hp, ka.ev hq, ka.ev hr]
  rw [Sem.run_bind, this]
  rfl
end
end Go.Proofs.YtjhocljhhpkiiaaGreatDoor
/- N5 -/
namespace Go.Proofs.YtjhocljhhpkiiaaGreatDoor
set_option linter.unusedSimpArgs false
set_option linter.unusedVariables false
open Go.RowKit
def noP (Q : Exit → Act → World → Prop) : Exit → Act → World → Prop
  | .panic _, _, _ => False
  | e, a, w => Q e a w
section
variable {P : Program} {ops : Array Oper} {Q : Exit → Act → World → Prop} {S : World → Prop} {ro : Option Nat}
/-- i stands ahead of j -/
def reach (ops : Array Oper) : Nat → Nat → Nat → Bool
  | 0, _, _ => false
  | f + 1, j, i => match ops[j]? with
    | some o => o.after.any fun e => Region.binds .any e && (e.on == i || reach ops f e.on i)
    | none => false
def isLoad (ops : Array Oper) (i : Nat) : Bool := match ops[i]? with
  | some o => match o.op with | .load .. => true | _ => false
  | none => false
/-- an operation that stands behind, or ahead of, each that reads the world -/
def isLast (ops : Array Oper) (j : Nat) : Bool := (List.range ops.size).all fun i => !(isLoad ops i) || i == j || reach ops 5 j i || reach ops 5 i j
/-- what is listed stands behind what is listed -/
def closedL (ops : Array Oper) (listed : Array Bool) : Prop := ∀ (k : Nat) (o : Oper), ops[k]? = some o → listed.getD k false = true → ∀ e ∈ o.after, Region.binds .any e = true → listed.getD e.on false = true
def closedB (ops : Array Oper) (listed : Array Bool) : Bool := (List.range ops.size).all fun k => !(listed.getD k false) || match ops[k]? with | some o => o.after.all fun e => !(Region.binds .any e) || listed.getD e.on false | none => true
theorem closedB_spec {listed : Array Bool} (h : closedB ops listed = true) : closedL ops listed := fun k o ho hl e he hb => by
  have h1 := (List.all_eq_true.1 h) k (List.mem_range.2 (Array.getElem?_eq_some_iff.1 ho).1)
  rw [hl, ho] at h1
  simp only [Bool.not_true, Bool.false_or] at h1
  obtain ⟨q, hq, rfl⟩ := Array.mem_iff_getElem.1 he
  have h2 := (Array.all_eq_true.1 h1) q hq
  rw [hb] at h2
  simpa using h2
theorem closedL_set {listed : Array Bool} {j : Nat} (h : closedL ops listed) (hj : j ∈ Region.ready .any ops listed) : closedL ops (listed.setIfInBounds j true) := fun k o ho hl e he hb => by
  have up : ∀ x, listed.getD x false = true → (listed.setIfInBounds j true).getD x false = true := fun x hx => by
    by_cases e2 : j = x
    · subst e2
      rcases Nat.lt_or_ge j listed.size with h' | h'
      · simp [h']
      · simp [Array.getElem?_eq_none h'] at hx
    · rw [getD_set_ne false e2]; exact hx
  refine up _ ?_
  by_cases e2 : j = k
  · subst e2
    obtain ⟨_, oj, hoj, hall⟩ := mem_ready.1 hj
    obtain rfl := Option.some.inj (ho.symm.trans hoj)
    exact hall e he hb
  · rw [getD_set_ne false e2] at hl
    exact h k o ho hl e he hb
theorem reach_listed {listed : Array Bool} (hcl : closedL ops listed) : ∀ (f j i : Nat), listed.getD j false = true → reach ops f j i = true → listed.getD i false = true
  | 0, _, _, _, h => by cases h
  | f + 1, j, i, hl, h => by
    unfold reach at h
    cases ho : ops[j]? with
    | none => rw [ho] at h; cases h
    | some o =>
      rw [ho] at h
      obtain ⟨q, hq, h2⟩ := Array.any_eq_true.1 h
      simp only [Bool.and_eq_true, Bool.or_eq_true, beq_iff_eq] at h2
      have h3 := hcl j o ho hl _ (Array.getElem_mem hq) h2.1
      rcases h2.2 with h4 | h4
      · rw [← h4]; exact h3
      · exact reach_listed hcl f _ i h3 h4
theorem reach_ready {listed : Array Bool} (hcl : closedL ops listed) {f j i : Nat} (hj : j ∈ Region.ready .any ops listed) (h : reach ops f j i = true) : listed.getD i false = true := by
  obtain ⟨_, o, ho, hall⟩ := mem_ready.1 hj
  cases f with
  | zero => cases h
  | succ f =>
    unfold reach at h
    rw [ho] at h
    obtain ⟨q, hq, h2⟩ := Array.any_eq_true.1 h
    simp only [Bool.and_eq_true, Bool.or_eq_true, beq_iff_eq] at h2
    have h3 := hall _ (Array.getElem_mem hq) h2.1
    rcases h2.2 with h4 | h4
    · rw [← h4]; exact h3
    · exact reach_listed hcl f _ i h3 h4
theorem not_listed {listed : Array Bool} {i : Nat} (hi : i ∈ Region.ready .any ops listed) (h1 : listed.getD i false = true) : False := by
  have hi0 := (mem_ready.1 hi).1
  rcases Nat.lt_or_ge i listed.size with h' | h'
  · simp [h'] at hi0 h1
    rw [hi0] at h1
    cases h1
  · simp [Array.getElem?_eq_none h'] at h1
theorem isLast_spec {listed : Array Bool} {i j : Nat} (hld : isLoad ops i = true) (hcl : closedL ops listed) (hr : i ∈ Region.ready .any ops listed) (hj : j ∈ Region.ready .any ops listed) (hne : j ≠ i) : isLast ops j = false := by
  cases h : isLast ops j with
  | false => rfl
  | true =>
    obtain ⟨_, oi, hoi, _⟩ := mem_ready.1 hr
    have := (List.all_eq_true.1 h) i (List.mem_range.2 (Array.getElem?_eq_some_iff.1 hoi).1)
    rw [hld] at this
    simp only [Bool.not_true, Bool.false_or, Bool.or_eq_true, beq_iff_eq] at this
    rcases this with (h1 | h1) | h1
    · exact (hne h1.symm).elim
    · exact (not_listed hr (reach_ready hcl hj h1)).elim
    · exact (not_listed hj (reach_ready hcl hr h1)).elim
def anyH (ro : Option Nat) (P : Program) (ops : Array Oper) (Q : Exit → Act → World → Prop) (S : World → Prop) : Nat → Array Bool → Act → World → Prop
  | 0, listed, a, w => Region.ready .any ops listed = [] ∧ Q .normal a w
  | fuel + 1, listed, a, w => (Region.ready .any ops listed = [] → Q .normal a w) ∧ ∀ i ∈ Region.ready .any ops listed, wpOpIn (FR ro) 0 P ops Q i (fun a' w' => (isLast ops i = false → S w → S w') ∧ anyH ro P ops Q S fuel (listed.setIfInBounds i true) a' w') a w
theorem any_of_held : ∀ (fuel : Nat) (listed : Array Bool) (a : Act) (w : World), anyH ro P ops Q S fuel listed a w → wpAnyIn (FR ro) 0 P .any ops Q fuel listed a w
  | 0, _, _, _, h => h
  | fuel + 1, _, _, _, h => ⟨h.1, fun i hi => wpOpIn_mono (fun a' w' h' => any_of_held fuel _ a' w' h'.2) (h.2 i hi)⟩
theorem yields_wpOpIn {i : Nat} {o : Oper} {v : Value} {a : Act} (hi : ops[i]? = some o) (hy : YieldsIf P ops S o v a) {K : Act → World → Prop} {w : World} (hS : S w) (h : K (a.put o.dst v) w) : wpOpIn (FR ro) 0 P ops Q i K a w := by
  unfold wpOpIn
  simp only [hi]
  rcases hy with ⟨hw, hv⟩ | ⟨hw, rfl⟩
  · rw [hw, if_pos rfl]
    exact wpIn_val (hv w hS) h
  · simp only [hw, Bool.false_eq_true, if_false]
    exact ⟨about_none, h⟩
theorem semAt_nd {o : Oper} {ρ : Operand → Value} (hnd : ∀ c, o.op ≠ .defer c) : o.semAt ro ρ = execOp ρ o := by
  cases ro with
  | none => rfl
  | some l => exact Oper.semAt_some l ρ o hnd
theorem wpOpIn_putIf {j : Nat} {oi oj : Oper} {v : Value} (hj : ops[j]? = some oj) (hap : oi.apart ops oj = true) (hnd : ∀ c, oj.op ≠ .defer c)
    (hsi : ∀ cs b, oi.op ≠ .select cs b) (hsj : ∀ cs b, oj.op ≠ .select cs b) (hQ : ∀ c a w, ¬ Q (.panic c) a w) {K : Act → World → Prop} {a : Act} {w : World}
    (hy : YieldsIf P ops S oi v a) (h : wpOpIn (FR ro) 0 P ops Q j K (a.put oi.dst v) w) :
    wpOpIn (FR ro) 0 P ops Q j (fun a' w' => YieldsIf P ops S oi v a' ∧ K (a'.put oi.dst v) w') a w := by
  obtain ⟨h1, h2, h3⟩ := Oper.apart_spec hap
  have keep : ∀ (a : Act), YieldsIf P ops S oi v a → ∀ u, YieldsIf P ops S oi v (a.put oj.dst u) := fun a hy u =>
    hy.of_same (execOp_put oi hsi a oj.dst u h3) (wanted_put oi a oj.dst u h3)
  have keepD : ∀ d, YieldsIf P ops S oi v { a with defers := d :: a.defers } := fun d => hy.of_same rfl rfl
  unfold wpOpIn at *
  simp only [hj] at *
  rw [wanted_put oj a oi.dst v h1] at h
  split
  · rename_i hw
    simp only [hw, if_true] at h
    unfold Oper.wpIn at *
    refine ⟨about_none, ?_⟩
    have h := h.2
    rw [semAt_nd hnd, execOp_put oj hsj a oi.dst v h1] at h
    rw [semAt_nd hnd]
    generalize (execOp a.eval oj).run P w = r at *
    cases r with
    | ok x w' =>
      cases x <;> simp only [Oper.uponIn] at h ⊢
      case value u => exact ⟨keep a hy u, by rw [← Act.put_comm a v u h2]; exact h⟩
      case skip => exact ⟨keep a hy _, by rw [← Act.put_comm a v undef h2]; exact h⟩
      case defer d =>
        refine ⟨keep _ (keepD d) _, ?_⟩
        rw [← Act.put_comm _ v undef h2, ← Act.put_defers]
        exact h
      case enter f args =>
        refine ⟨h.1, CallsIn.mono h.2 fun e w'' he => ?_⟩
        cases e with
        | returned u => exact ⟨keep a hy u, by rw [← Act.put_comm a v u h2]; exact he⟩
        | panicked c => exact (hQ _ _ _ he).elim
        | outgrown => exact he
      case row row args => exact ⟨h.1, RowsIn.mono h.2 fun u w'' he => ⟨keep a hy u, by rw [← Act.put_comm a v u h2]; exact he⟩⟩
      case round l f tmps assign body =>
        refine ⟨h.1, RoundIn.mono h.2 fun e w'' he => ?_⟩
        cases e with
        | returned u => exact ⟨keep a hy u, by rw [← Act.put_comm a v u h2]; exact he⟩
        | panicked c => exact (hQ _ _ _ he).elim
        | outgrown => exact he
    | halt x w' =>
      cases x <;> simp only [Oper.uponIn] at h ⊢
      case panic u => exact (hQ _ _ _ h).elim
  · rename_i hw
    simp only [hw] at h
    exact ⟨about_none, keep a hy _, by rw [← Act.put_comm a v undef h2]; exact h.2⟩
def noDefer (ops : Array Oper) : Bool := ops.all fun o => match o.op with | .defer .. => false | _ => true
theorem noDefer_spec (h : noDefer ops = true) {j : Nat} {o : Oper} (ho : ops[j]? = some o) : ∀ c, o.op ≠ .defer c := by
  intro c hc
  obtain ⟨hlt, rfl⟩ := Array.getElem?_eq_some_iff.1 ho
  have := (Array.all_eq_true.1 h) j hlt
  rw [hc] at this
  cases this
theorem anyH_first {Si : World → Prop} {i : Nat} {oi : Oper} {v : Value} (hSi : ∀ (listed : Array Bool) (j : Nat), closedL ops listed → i ∈ Region.ready .any ops listed → j ∈ Region.ready .any ops listed → j ≠ i → ∀ w w', Si w → (isLast ops j = false → S w → S w') → Si w') (hi : ops[i]? = some oi) (hsel : ∀ (j : Nat) (o : Oper) cs b, ops[j]? = some o → o.op ≠ .select cs b) (hnd : noDefer ops = true) (hQ : ∀ c a w, ¬ Q (.panic c) a w) :
    ∀ (fuel : Nat) (listed : Array Bool) (a : Act) (w : World), closedL ops listed →
      (∀ j oj, ops[j]? = some oj → j ≠ i → listed.getD j true = false → (∀ e ∈ oj.after, Region.binds .any e = true → e.on ≠ i) → oi.apart ops oj = true) →
      i ∈ Region.ready .any ops listed → YieldsIf P ops Si oi v a → Si w →
      anyH ro P ops Q S fuel (listed.setIfInBounds i true) (a.put oi.dst v) w → anyH ro P ops Q S (fuel + 1) listed a w := by
  intro fuel
  induction fuel with
  | zero =>
    intro listed a w hcl _ hr hy hS H
    refine ⟨fun h => (by rw [h] at hr; cases hr), fun j hj => ?_⟩
    by_cases hji : j = i
    · subst hji; exact yields_wpOpIn hi hy hS ⟨fun _ h => h, H⟩
    · have := ready_mono hj hji
      rw [H.1] at this
      cases this
  | succ fuel ih =>
    intro listed a w hcl hfree hr hy hS H
    refine ⟨fun h => (by rw [h] at hr; cases hr), fun j hj => ?_⟩
    by_cases hji : j = i
    · subst hji; exact yields_wpOpIn hi hy hS ⟨fun _ h => h, H⟩
    · have h1 := H.2 j (ready_mono hj hji)
      obtain ⟨hjun, oj, hoj, hall⟩ := mem_ready.1 hj
      have hnot : ∀ e ∈ oj.after, Region.binds .any e = true → e.on ≠ i := fun e he hb heq => by
        have h1 := hall e he hb
        have h0 := (mem_ready.1 hr).1
        rw [heq] at h1
        rcases Nat.lt_or_ge i listed.size with h' | h'
        · simp [h'] at h0 h1; rw [h0] at h1; cases h1
        · simp [Array.getElem?_eq_none h'] at h1
      have h2 := wpOpIn_putIf hoj (hfree j oj hoj hji hjun hnot) (noDefer_spec hnd hoj) (fun cs b => hsel i oi cs b hi) (fun cs b => hsel j oj cs b hoj) hQ hy h1
      have hfree' : ∀ k ok, ops[k]? = some ok → k ≠ i → (listed.setIfInBounds j true).getD k true = false →
          (∀ e ∈ ok.after, Region.binds .any e = true → e.on ≠ i) → oi.apart ops ok = true := fun k ok hk hki hun hno => by
        refine hfree k ok hk hki ?_ hno
        by_cases hjk : j = k
        · subst hjk; exact hjun
        · rw [getD_set_ne true hjk] at hun; exact hun
      refine wpOpIn_mono (fun a' w' h3 => ⟨h3.2.1, ih (listed.setIfInBounds j true) a' w' (closedL_set hcl hj) hfree' (ready_mono hr (Ne.symm hji)) h3.1 (hSi listed j hcl hr hj hji w w' hS h3.2.1) ?_⟩) h2
      rw [Array.setIfInBounds_comm _ _ hji]
      exact h3.2.2
end
/-- what is known in the midst of such a region; Lb holds throughout -/
def HA (A : List Fa) (W : World) (n : Nat) (D : List Deferred) (ro : Option Nat) (P : Program) (ops : List Oper) (Q : Exit → Act → World → Prop) (Lb Lr : List Fa) (fuel : Nat) (listed : Array Bool) (E : Env) (L : List Fa) : Prop :=
  ∀ a w, Kn n D E a → Sx A W w L → (Sx A W w Lb ∧ Fx w Lr) → anyH ro P ops.toArray (noP Q) (fun w => Sx A W w Lb ∧ Fx w Lr) fuel listed a w
def HO (A : List Fa) (W : World) (n : Nat) (D : List Deferred) (ro : Option Nat) (P : Program) (ops : List Oper) (Q : Exit → Act → World → Prop) (Lb Lr : List Fa) (fuel : Nat) (listed : Array Bool) (E : Env) (L : List Fa) (i : Nat) : Prop :=
  ∀ a w, Kn n D E a → Sx A W w L → Fx w Lr → wpOpIn (FR ro) 0 P ops.toArray (noP Q) i (fun a' w' => (isLast ops.toArray i = false → (Sx A W w Lb ∧ Fx w Lr) → Sx A W w' Lb ∧ Fx w' Lr) ∧ anyH ro P ops.toArray (noP Q) (fun w => Sx A W w Lb ∧ Fx w Lr) fuel (listed.setIfInBounds i true) a' w') a w
section
variable {A : List Fa} {W : World} {n : Nat} {D : List Deferred} {ro : Option Nat} {P : Program} {ops : List Oper} {Q : Exit → Act → World → Prop} {Lb Lr L : List Fa} {fuel : Nat} {listed : Array Bool} {E : Env}
/-- facts that are read, out of others -/
theorem Fx.rds {w : World} {L R : List Fa} (h : Fx w L) [hr : Rds L R] : Fx w R := ⟨fun f hf => (hr.ok h f hf).2.1, List.pairwise_of_forall_mem_list fun f hf g hg => Fa.sep_rd (hr.ok h f hf).1 (hr.ok h g hg).1⟩
theorem ha_start {id : Nat} (Lb Lr : List Fa) (hm : P.follows .mixedOrders = true) (hb : ∀ w, Sx A W w L → Sx A W w Lb) [hl : Rds L Lr] (h : HA A W n D ro P ops Q Lb Lr ops.length (Array.replicate ops.length false) E L) : H A W n D E L ((Code.region id ops.toArray true).wpIn (FR ro) 0 P Q) := fun a w k s => by
  refine Go.wpIn_mono (wpIn_region_any hm (any_of_held _ _ _ _ (h a _ k s.drew ⟨(hb _ s).drew, s.drew.toFx.rds⟩))) ?_
  intro e a' w' hq
  cases e <;> first | exact hq | exact hq.elim
theorem ha_done (hr : Region.ready .any ops.toArray listed = []) (h : H A W n D E L (Q .normal)) : HA A W n D ro P ops Q Lb Lr fuel listed E L := fun a w k s _ => by
  cases fuel with
  | zero => exact ⟨hr, h a w k s⟩
  | succ f => exact ⟨fun _ => h a w k s, by rw [hr]; simp⟩
variable {op : Op} {d : Nat} {ty : TypeId} {pos : String} {af : Array Edge} {g : Option (Nat × Bool)}
theorem isLoad_S {S : World → Prop} {ops : Array Oper} {i : Nat} (hld : isLoad ops i = true) : ∀ (listed : Array Bool) (j : Nat), closedL ops listed → i ∈ Region.ready .any ops listed → j ∈ Region.ready .any ops listed → j ≠ i → ∀ w w', S w → (isLast ops j = false → S w → S w') → S w' := fun listed j hcl hr hj hne w w' hS h => h (isLast_spec hld hcl hr hj hne) hS
/-- a load, ahead of what turns the world -/
theorem ha_take (i : Nat) {v : Value} (hi : ops[i]? = some ⟨some d, op, ty, pos, af, g⟩) (hr : Runs0 P n D E Lb op v) (k : HA A W n D ro P ops Q Lb Lr fuel (listed.setIfInBounds i true) ((d, v) :: E) L) (hld : isLoad ops.toArray i = true := by kernel_rfl)
    (hs : Region.noSelect ops.toArray = true := by kernel_rfl) (hn : noDefer ops.toArray = true := by kernel_rfl) (hc : closedB ops.toArray listed = true := by kernel_rfl) (hf : Region.free .any ops.toArray listed i = true := by kernel_rfl) (hrd : (Region.ready .any ops.toArray listed).contains i = true := by kernel_rfl) (hd : Nat.blt d n = true := by exact rfl) (hg : wn ops.toArray E g = some true := by exact rfl) : HA A W n D ro P ops Q Lb Lr (fuel + 1) listed E L := fun a w ka s sb => by
  have hi' : ops.toArray[i]? = some ⟨some d, op, ty, pos, af, g⟩ := by simpa using hi
  exact anyH_first (Si := fun w => Sx A W w Lb ∧ Fx w Lr) (v := v) (isLoad_S hld) hi' (Region.noSelect_spec hs) hn (fun _ _ _ h => h) fuel listed a w (closedB_spec hc) (Region.free_spec hi' hf) (by simpa using hrd) (.inl ⟨wn_run ka hg, fun w' hS => hr a w' ka hS.1.toFx _ rfl⟩) sb (k _ _ (ka.put hd v) s sb)
theorem ha_takeR (i : Nat) {v : Value} (hi : ops[i]? = some ⟨some d, op, ty, pos, af, g⟩) (hr : Runs0 P n D E Lr op v) (k : HA A W n D ro P ops Q Lb Lr fuel (listed.setIfInBounds i true) ((d, v) :: E) L) (hld : isLoad ops.toArray i = true := by kernel_rfl)
    (hs : Region.noSelect ops.toArray = true := by kernel_rfl) (hn : noDefer ops.toArray = true := by kernel_rfl) (hc : closedB ops.toArray listed = true := by kernel_rfl) (hf : Region.free .any ops.toArray listed i = true := by kernel_rfl) (hrd : (Region.ready .any ops.toArray listed).contains i = true := by kernel_rfl) (hd : Nat.blt d n = true := by exact rfl) (hg : wn ops.toArray E g = some true := by exact rfl) : HA A W n D ro P ops Q Lb Lr (fuel + 1) listed E L := fun a w ka s sb => by
  have hi' : ops.toArray[i]? = some ⟨some d, op, ty, pos, af, g⟩ := by simpa using hi
  exact anyH_first (Si := fun w => Sx A W w Lb ∧ Fx w Lr) (v := v) (isLoad_S hld) hi' (Region.noSelect_spec hs) hn (fun _ _ _ h => h) fuel listed a w (closedB_spec hc) (Region.free_spec hi' hf) (by simpa using hrd) (.inl ⟨wn_run ka hg, fun w' hS => hr a w' ka hS.2 _ rfl⟩) sb (k _ _ (ka.put hd v) s sb)
/-- what does not look at the world -/
theorem ha_takeP (i : Nat) {v : Value} (hi : ops[i]? = some ⟨some d, op, ty, pos, af, g⟩) (hr : Runs0 P n D E [] op v) (k : HA A W n D ro P ops Q Lb Lr fuel (listed.setIfInBounds i true) ((d, v) :: E) L)
    (hs : Region.noSelect ops.toArray = true := by kernel_rfl) (hn : noDefer ops.toArray = true := by kernel_rfl) (hc : closedB ops.toArray listed = true := by kernel_rfl) (hf : Region.free .any ops.toArray listed i = true := by kernel_rfl) (hrd : (Region.ready .any ops.toArray listed).contains i = true := by kernel_rfl) (hd : Nat.blt d n = true := by exact rfl) (hg : wn ops.toArray E g = some true := by exact rfl) : HA A W n D ro P ops Q Lb Lr (fuel + 1) listed E L := fun a w ka s sb => by
  have hi' : ops.toArray[i]? = some ⟨some d, op, ty, pos, af, g⟩ := by simpa using hi
  exact anyH_first (Si := fun _ => True) (v := v) (fun _ _ _ _ _ _ _ _ _ _ => trivial) hi' (Region.noSelect_spec hs) hn (fun _ _ _ h => h) fuel listed a w (closedB_spec hc) (Region.free_spec hi' hf) (by simpa using hrd) (.inl ⟨wn_run ka hg, fun w' _ => hr a w' ka (Fx.nil w') _ rfl⟩) trivial (k _ _ (ka.put hd v) s sb)
theorem ha_off (i : Nat) (hi : ops[i]? = some ⟨some d, op, ty, pos, af, g⟩) (k : HA A W n D ro P ops Q Lb Lr fuel (listed.setIfInBounds i true) ((d, undef) :: E) L)
    (hs : Region.noSelect ops.toArray = true := by kernel_rfl) (hn : noDefer ops.toArray = true := by kernel_rfl) (hc : closedB ops.toArray listed = true := by kernel_rfl) (hf : Region.free .any ops.toArray listed i = true := by kernel_rfl) (hrd : (Region.ready .any ops.toArray listed).contains i = true := by kernel_rfl) (hd : Nat.blt d n = true := by exact rfl) (hg : wn ops.toArray E g = some false := by exact rfl) : HA A W n D ro P ops Q Lb Lr (fuel + 1) listed E L := fun a w ka s sb => by
  have hi' : ops.toArray[i]? = some ⟨some d, op, ty, pos, af, g⟩ := by simpa using hi
  exact anyH_first (Si := fun _ => True) (v := undef) (fun _ _ _ _ _ _ _ _ _ _ => trivial) hi' (Region.noSelect_spec hs) hn (fun _ _ _ h => h) fuel listed a w (closedB_spec hc) (Region.free_spec hi' hf) (by simpa using hrd) (.inr ⟨wn_run ka hg, rfl⟩) trivial (k _ _ (ka.put hd undef) s sb)
theorem ha_one (i : Nat) (h : HO A W n D ro P ops Q Lb Lr fuel listed E L i) (hr : Region.ready .any ops.toArray listed = [i] := by kernel_rfl) : HA A W n D ro P ops Q Lb Lr (fuel + 1) listed E L := fun a w ka s sb =>
  ⟨(fun h0 => by rw [hr] at h0; cases h0), fun j hj => by rw [hr] at hj; obtain rfl : j = i := (by simpa using hj); exact h a w ka s sb.2⟩
theorem ha_two (i j : Nat) (h1 : HO A W n D ro P ops Q Lb Lr fuel listed E L i) (h2 : HO A W n D ro P ops Q Lb Lr fuel listed E L j) (hr : Region.ready .any ops.toArray listed = [i, j] := by kernel_rfl) : HA A W n D ro P ops Q Lb Lr (fuel + 1) listed E L := fun a w ka s sb =>
  ⟨(fun h0 => by rw [hr] at h0; cases h0), fun q hq => by
    rw [hr] at hq
    rcases (by simpa using hq : q = i ∨ q = j) with rfl | rfl
    · exact h1 a w ka s sb.2
    · exact h2 a w ka s sb.2⟩
theorem ho_mk {i : Nat} {o : Oper} (hi : ops[i]? = some o) {K : Act → World → Prop} {a : Act} {w : World} (hw : Region.wanted o (yielded ops.toArray a.tmps) = true) (h : o.wpIn (FR ro) 0 P a w K (noP Q)) : wpOpIn (FR ro) 0 P ops.toArray (noP Q) i K a w := by
  have hi' : ops.toArray[i]? = some o := by simpa using hi
  unfold wpOpIn
  rw [hi']
  simp only [hw, if_true]
  exact h
/-- an operation behind which what is read stands -/
def RunsK (P : Program) (A : List Fa) (W : World) (n : Nat) (D : List Deferred) (E : Env) (L Lr : List Fa) (op : Op) {τ : Type} (v : τ → Value) (L' : τ → List Fa) : Prop :=
  ∀ a w, Kn n D E a → Sx A W w L → Fx w Lr → ∀ o : Oper, o.op = op → ∃ x w', (execOp a.eval o).run P w = .ok (.value (v x)) w' ∧ Sx A W w' (L' x) ∧ Fx w' Lr
theorem rk {op : Op} {τ : Type} {v : τ → Value} {L' : τ → List Fa} (h : RunsX P A W n D E L op v L') [hr : ∀ x, Rds (L' x) Lr] : RunsK P A W n D E L Lr op v L' := fun a w ka s _ o ho => by
  obtain ⟨x, w', h1, h2⟩ := h a w ka s o ho
  exact ⟨x, w', h1, h2, Fx.rds h2.toFx (hr := hr x)⟩
theorem ho_X (i : Nat) {τ : Type} {v : τ → Value} {L' : τ → List Fa} (hi : ops[i]? = some ⟨some d, op, ty, pos, af, g⟩) (hr : RunsK P A W n D E L Lr op v L') (hb : ∀ x w, Sx A W w (L' x) → Sx A W w Lb) (k : ∀ x, HA A W n D ro P ops Q Lb Lr fuel (listed.setIfInBounds i true) ((d, v x) :: E) (L' x)) (hd : Nat.blt d n = true := by exact rfl) (hg : wn ops.toArray E g = some true := by exact rfl) : HO A W n D ro P ops Q Lb Lr fuel listed E L i := fun a w ka s sr => by
  obtain ⟨x, w', h1, h2, h3⟩ := hr a w ka s sr ⟨some d, op, ty, pos, af, g⟩ rfl
  exact ho_mk hi (wn_run ka hg) (wpIn_val h1 ⟨fun _ _ => ⟨hb x _ h2, h3⟩, k x _ _ (ka.put hd _) h2 ⟨hb x _ h2, h3⟩⟩)
theorem ho_S (i : Nat) {L' : List Fa} (hi : ops[i]? = some ⟨none, op, ty, pos, af, g⟩) (hr : RunsS P A W n D E L op L') [hl : Rds L' Lr] (hb : ∀ w, Sx A W w L' → Sx A W w Lb) (k : HA A W n D ro P ops Q Lb Lr fuel (listed.setIfInBounds i true) E L') (hg : wn ops.toArray E g = some true := by exact rfl) : HO A W n D ro P ops Q Lb Lr fuel listed E L i := fun a w ka s sr => by
  obtain ⟨w', h1, h2⟩ := hr a w ka s ⟨none, op, ty, pos, af, g⟩ rfl
  exact ho_mk hi (wn_run ka hg) (wpIn_skp h1 ⟨fun _ _ => ⟨hb _ h2, h2.toFx.rds⟩, k _ _ (ka.putNone _) h2 ⟨hb _ h2, h2.toFx.rds⟩⟩)
theorem ho_C (i : Nat) {x : Operand} {l : List Operand} {ts : Array TypeId} {f : FuncId} {fi cap argv args : List Value} [Ent P f] {τ : Type} {v : τ → Value} {L' : τ → List Fa} (hi : ops[i]? = some ⟨some d, .call ⟨.value x, l.toArray, ts⟩, ty, pos, af, g⟩) (hc : Comes P A W L f args.toArray v L') (hx : ev E x = some (.func (.func f) fi.toArray cap.toArray)) (ha : evs E l = some argv) (he : fi ++ (argv ++ cap) = args) [hl : ∀ x, Rds (L' x) Lr]
    (hb : ∀ x w, Sx A W w (L' x) → Sx A W w Lb) (k : ∀ x, HA A W n D ro P ops Q Lb Lr fuel (listed.setIfInBounds i true) ((d, v x) :: E) (L' x)) (hd : Nat.blt d n = true := by exact rfl) (hg : wn ops.toArray E g = some true := by exact rfl) : HO A W n D ro P ops Q Lb Lr fuel listed E L i := fun a w ka s sr => by
  refine ho_mk hi (wn_run ka hg) (wpIn_ent (x_call ka rfl hx ha) (he ▸ hc w s) ?_)
  rintro e w' ⟨y, rfl, hy⟩
  have h3 : Fx w' Lr := Fx.rds hy.toFx (hr := hl y)
  exact ⟨_, rfl, fun _ _ => ⟨hb y _ hy, h3⟩, k y _ _ (ka.put hd _) hy ⟨hb y _ hy, h3⟩⟩
/-- a store behind all else -/
theorem ho_SL (i : Nat) {L' : List Fa} (hi : ops[i]? = some ⟨none, op, ty, pos, af, g⟩) (hr : RunsS P A W n D E L op L') (k : H A W n D E L' (Q .normal)) (hl : isLast ops.toArray i = true := by kernel_rfl) (hd : Region.ready .any ops.toArray (listed.setIfInBounds i true) = [] := by kernel_rfl) (hg : wn ops.toArray E g = some true := by exact rfl) : HO A W n D ro P ops Q Lb Lr fuel listed E L i := fun a w ka s sr => by
  obtain ⟨w', h1, h2⟩ := hr a w ka s ⟨none, op, ty, pos, af, g⟩ rfl
  refine ho_mk hi (wn_run ka hg) (wpIn_skp h1 ⟨(fun h => by rw [hl] at h; cases h), ?_⟩)
  have h3 : noP Q .normal (a.put none undef) w' := k _ _ (ka.putNone _) h2
  cases fuel with
  | zero => exact ⟨hd, h3⟩
  | succ f => exact ⟨fun _ => h3, by rw [hd]; simp⟩
/-- where what follows is in one order: what held throughout is not asked any more -/
def HL (A : List Fa) (W : World) (n : Nat) (D : List Deferred) (ro : Option Nat) (P : Program) (ops : List Oper) (Q : Exit → Act → World → Prop) (Lb Lr : List Fa) (fuel : Nat) (listed : Array Bool) (E : Env) (L : List Fa) : Prop :=
  ∀ a w, Kn n D E a → Sx A W w L → anyH ro P ops.toArray (noP Q) (fun w => Sx A W w Lb ∧ Fx w Lr) fuel listed a w
theorem ha_hl (h : HL A W n D ro P ops Q Lb Lr fuel listed E L) : HA A W n D ro P ops Q Lb Lr fuel listed E L := fun a w k s _ => h a w k s
theorem hl_done (hr : Region.ready .any ops.toArray listed = []) (h : H A W n D E L (Q .normal)) : HL A W n D ro P ops Q Lb Lr fuel listed E L := fun a w k s => by
  cases fuel with
  | zero => exact ⟨hr, h a w k s⟩
  | succ f => exact ⟨fun _ => h a w k s, by rw [hr]; simp⟩
theorem hl_S (i : Nat) {L' : List Fa} (hi : ops[i]? = some ⟨none, op, ty, pos, af, g⟩) (hr : RunsS P A W n D E L op L') (k : HL A W n D ro P ops Q Lb Lr fuel (listed.setIfInBounds i true) E L') (hl : isLast ops.toArray i = true := by kernel_rfl) (hrd : Region.ready .any ops.toArray listed = [i] := by kernel_rfl) (hg : wn ops.toArray E g = some true := by exact rfl) : HL A W n D ro P ops Q Lb Lr (fuel + 1) listed E L := fun a w ka s => by
  refine ⟨(fun h0 => by rw [hrd] at h0; cases h0), fun j hj => ?_⟩
  rw [hrd] at hj
  obtain rfl : j = i := by simpa using hj
  obtain ⟨w', h1, h2⟩ := hr a w ka s ⟨none, op, ty, pos, af, g⟩ rfl
  exact ho_mk hi (wn_run ka hg) (wpIn_skp h1 ⟨(fun h => by rw [hl] at h; cases h), k _ _ (ka.putNone _) h2⟩)
theorem hl_0 (i : Nat) {v : Value} (hi : ops[i]? = some ⟨some d, op, ty, pos, af, g⟩) (hr : Runs0 P n D E L op v) (k : HL A W n D ro P ops Q Lb Lr fuel (listed.setIfInBounds i true) ((d, v) :: E) L) (hl : isLast ops.toArray i = true := by kernel_rfl) (hrd : Region.ready .any ops.toArray listed = [i] := by kernel_rfl) (hd : Nat.blt d n = true := by exact rfl) (hg : wn ops.toArray E g = some true := by exact rfl) : HL A W n D ro P ops Q Lb Lr (fuel + 1) listed E L := fun a w ka s => by
  refine ⟨(fun h0 => by rw [hrd] at h0; cases h0), fun j hj => ?_⟩
  rw [hrd] at hj
  obtain rfl : j = i := by simpa using hj
  exact ho_mk hi (wn_run ka hg) (wpIn_val (hr a w ka s.toFx _ rfl) ⟨(fun h => by rw [hl] at h; cases h), k _ _ (ka.put hd v) s⟩)
theorem h_K {E' : Env} {L' : List Fa} {K : Act → World → Prop} (h : H A W n D E' L' K) (hE : agree E' E) (hL : ∀ w, Sx A W w L → Sx A W w L') : H A W n D E L K := h_E hE (h_L hL h)
theorem h_join {id : Nat} {os : Array Oper} {τ : Type} (Es : τ → Env) (Ls : τ → List Fa) (h : (∀ x, H A W n D (Es x) (Ls x) (Q .normal)) → H A W n D E L ((Code.region id os true).wpIn (FR ro) 0 P Q)) (k : ∀ x, H A W n D (Es x) (Ls x) (Q .normal)) : H A W n D E L ((Code.region id os true).wpIn (FR ro) 0 P Q) := h k
end
section
variable {P : Program} {w : World} {a : Act}
theorem append_where2 {base : Nat} {t ty e : TypeId} {i : TypeInfo} {z : Value} {size bytes : Nat} (ht : P.underlying t = some (.slice e)) (hi : P.info? e = some i) (hz : i.zero = some z)
    (hsize : i.size = size) (hby : i.bytes = bytes) {v : Value} {n : Nat} {xs : List Value} (hown : w.ownsRow base e size v n xs)
    {a : Addr} {m c : Nat} {news : List Value} (hl : news.length = m * size) (hnews : ∀ j u, news[j]? = some u → w.cell? (a.add j) = some u) (h1 : ∀ u ∈ news, u.oneCell' = true)
    (h63 : n + m ≤ maxLen) (hbytes : (n + m) * bytes ≤ 140737488355328) {v' : Value} {w' : World} (hr : (Builtin.append_ #[t, t] ty #[v, .slice (some a) m c]).run P w = .ok v' w') (hnil : v' = .slice none 0 0 ↔ v = .slice none 0 0 ∧ m = 0) :
    v'.ownBlock = v.ownBlock ∨ (v'.ownBlock = some w.heap.size ∧ Below w.heap.size w w') := by
  subst hsize hby
  have hsmall : n + m ≤ 9223372036854775807 := by simp only [maxLen] at h63; omega
  rcases hown.2 with ⟨rfl, rfl⟩ | ⟨g, cap, cur, rfl, hbg, hg, hnc, hcm, hcs, htake⟩
  · by_cases hm : m = 0
    · rw [hnil.2 ⟨rfl, hm⟩]; exact .inl rfl
    · have hr2 := run_append_nil (P := P) w t ty e i z ht hi hz a m c news hl hnews (by omega) (by omega) (by have hb := hbytes; simp only [Nat.zero_add] at hb; omega)
      rw [hr2] at hr
      injection hr with hr hw
      rw [← hr, ← hw]
      exact .inr ⟨rfl, (Below.refl _ w).drew.alloc (by simp) _⟩
  · by_cases hroom : n + m ≤ cap
    · have hfit : n * i.size + news.length ≤ cur.size := by rw [hl, hcs, ← Nat.add_mul]; exact Nat.mul_le_mul_right _ hroom
      have hr2 := run_append_room (P := P) w t ty e i ht hi g n cap cur hg a m c news hl hnews h1 hroom hfit
      rw [hr2] at hr
      injection hr with hr _
      rw [← hr]
      exact .inl rfl
    · have holds : ∀ j u, xs[j]? = some u → w.cell? ((⟨g, 0, none⟩ : Addr).add j) = some u := hown.cells (g := g) rfl
      have hr2 := run_append_grow (P := P) w t ty e i z ht hi hz ⟨g, 0, none⟩ n cap xs hown.1 holds a m c news hl hnews (by omega) (by omega) (growslice_fits (by omega) hbytes)
      rw [hr2] at hr
      injection hr with hr hw
      rw [← hr, ← hw]
      exact .inr ⟨rfl, (Below.refl _ w).drew.alloc (by simp) _⟩
theorem xAppend2 {o : Oper} {s x : Operand} {t e : TypeId} {size bytes : Nat} {z : Value} (ho : o.op = .call { callee := .builtin .append, args := #[s, x], argTypes := #[t, t] }) (E : ElT P t e size bytes z)
    {base n : Nat} {v : Value} {xs : List Value} (hs : a.eval s = v) (hown : w.ownsRow base e size v n xs) {A : Option Addr} {m c : Nat} {news : List Value} (hx : a.eval x = .slice A m c) (hA : A = none → m = 0 ∧ c = 0) (hl : news.length = m * size) (hr : Rd w A news)
    (h1 : ∀ u ∈ news, u.oneCell' = true) (hb : (n + m) * bytes ≤ 140737488355328) (hbase : base ≤ w.heap.size) :
    ∃ v' w', (execOp a.eval o).run P w = .ok (.value v') w' ∧ w'.ownsRow base e size v' (n + m) (xs ++ news) ∧ w.grownBy w' v.ownBlock ∧ (v'.ownBlock = v.ownBlock ∨ (v'.ownBlock = some w.heap.size ∧ Below w.heap.size w w')) := by
  obtain ⟨i, hi, hz, hsz, hby⟩ := info_parts E.hi
  have hnm : n + m ≤ maxLen := by
    have : n + m ≤ (n + m) * bytes := Nat.le_mul_of_pos_right _ E.hb
    unfold maxLen
    omega
  cases A with
  | none =>
    obtain ⟨rfl, rfl⟩ := hA rfl
    have hn0 : news = [] := List.eq_nil_of_length_eq_zero (by simpa using hl)
    subst hn0
    have hrun := run_append_owned_none (P := P) w base t o.type e i size E.ht hi v n xs hown
    refine ⟨v, w, ?_, by simpa using hown, World.grownBy.refl _ _, .inl rfl⟩
    unfold execOp
    simp only [ho, resolve, invoke, builtin, Sem.run_bind, Sem.run_pure, Result.andThen_ok, List.map_toArray, List.map_cons, List.map_nil, hs, hx, hrun]
  | some ad =>
    have hnews : ∀ j u, news[j]? = some u → w.cell? (ad.add j) = some u := fun j u hu => by
      obtain ⟨b, o', e, hc⟩ := hr j u hu
      obtain rfl := Option.some.inj e
      rw [Addr.add_mid]
      exact hc
    obtain ⟨v', w', hrun, h2, h3, h4⟩ := run_append_own (P := P) w base t o.type e i z size bytes E.ht hi hz hsz hby E.hz E.h0 v n xs hown ad m c news hl hnews h1 hnm hb hbase
    refine ⟨v', w', ?_, h2, h3, append_where2 E.ht hi hz hsz hby hown hl hnews h1 hnm hb hrun h4⟩
    unfold execOp
    simp only [ho, resolve, invoke, builtin, Sem.run_bind, Sem.run_pure, Result.andThen_ok, List.map_toArray, List.map_cons, List.map_nil, hs, hx, hrun]
end
end Go.Proofs.YtjhocljhhpkiiaaGreatDoor
