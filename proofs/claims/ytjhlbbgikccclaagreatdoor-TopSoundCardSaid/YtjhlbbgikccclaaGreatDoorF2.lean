/- joined texts -/
import Derived.Test.YtjhlbbgikccclaaGreatDoorF1
import Derived.IntWalk
import Derived.Laws.MakeOwn
import Derived.RangeFuncNested
import Derived.RangeFuncCalls
import Derived.RangeFuncLeaves
import Derived.OrdersIn
set_option linter.all false
namespace Go.Proofs.YtjhlbbgikccclaaGreatDoor
section
open Go.RowKit
class TFA (P : Program) (T : TypeId) (i : Nat) (off : outParam Nat) : Prop where
 fld : ∃ (fs : Array Field) (f : Field) (s : Nat), P.underlying T = some (.struct fs) ∧ fs[i]? = some f ∧ f.offset = off ∧ (P.info? f.type).map (·.size) = some (s + 1)
section
variable {P : Program} {X : List Nat} {w0 w : World} {L : List Fc} {a : Act} {o : Oper}
theorem QqC {T : TypeId} {x : Operand} {i off : Nat} [h : TFA P T i off] {b O : Nat} (ho : o.op = .fieldAddr T x i) (hx : a.eval x = .pointer (some ⟨b, O, none⟩)) :
  (execOp a.eval o).run P w = .ok (.value (.pointer (some ⟨b, O + off, none⟩))) w := by
 obtain ⟨fs, f, s, h1, h2, h3, h4⟩ := h.fld
 exact QgI ho hx h1 h2 h4 (by rw [h3])
theorem QrM {op : BinOp} {T T' : TypeId} {x y : Operand} {k : IntKind} {m n : Int} {v : Value} (ho : o.op = .binOp op T x y T') (hx : a.eval x = .int k m) (hy : a.eval y = .int k n) (hg : (eqGuard op T x y (.int k m) (.int k n)).run P w = .ok () w) (hv : (binOp op T (.int k m) (.int k n)).run P w = .ok v w) :
  (execOp a.eval o).run P w = .ok (.value v) w := by
 unfold execOp
 simp only [ho, hx, hy, Sem.run_bind, hg, Result.andThen_ok, hv]
 rfl
theorem QrH {T T' : TypeId} {x y : Operand} {m n : Int} (ho : o.op = .binOp .add T x y T') (hx : a.eval x = .int .i64 m) (hy : a.eval y = .int .i64 n) (h : -9223372036854775808 ≤ m + n ∧ m + n ≤ 9223372036854775807) :
  (execOp a.eval o).run P w = .ok (.value (.int .i64 (m + n))) w := by
 unfold execOp
 simp only [ho, hx, hy]
 have e : (binOp .add T (.int .i64 m) (.int .i64 n)).run P w = .ok (.int .i64 (m + n)) w := by
  rw [← IntWalk.i64_in (m + n) h]
  rfl
 rw [Sem.run_bind, Sem.run_bind]
 have g : (eqGuard .add T x y (.int .i64 m) (.int .i64 n)).run P w = .ok () w := rfl
 rw [g, Result.andThen_ok, e]
 rfl
theorem Qr0 {T T' : TypeId} {x y : Operand} {m n : Int} (ho : o.op = .binOp .sub T x y T') (hx : a.eval x = .int .i64 m) (hy : a.eval y = .int .i64 n) (h : -9223372036854775808 ≤ m - n ∧ m - n ≤ 9223372036854775807) :
  (execOp a.eval o).run P w = .ok (.value (.int .i64 (m - n))) w := by
 unfold execOp
 simp only [ho, hx, hy]
 have e : (binOp .sub T (.int .i64 m) (.int .i64 n)).run P w = .ok (.int .i64 (m - n)) w := by
  rw [← IntWalk.i64_in (m - n) h]
  rfl
 rw [Sem.run_bind, Sem.run_bind]
 have g : (eqGuard .sub T x y (.int .i64 m) (.int .i64 n)).run P w = .ok () w := rfl
 rw [g, Result.andThen_ok, e]
 rfl
theorem QrI {T T' : TypeId} {x y : Operand} {k : IntKind} {m n : Int} (ho : o.op = .binOp .eql T x y T') (hx : a.eval x = .int k m) (hy : a.eval y = .int k n) : (execOp a.eval o).run P w = .ok (.value (.bool (m == n))) w := Qn9 ho hx hy rfl
theorem QrR {T T' : TypeId} {x y : Operand} {k : IntKind} {m n : Int} (ho : o.op = .binOp .neq T x y T') (hx : a.eval x = .int k m) (hy : a.eval y = .int k n) : (execOp a.eval o).run P w = .ok (.value (.bool (m != n))) w := QnB ho hx hy rfl
theorem QoQ {op : BinOp} {T T' : TypeId} {x y : Operand} {k : IntKind} {m n : Int} {p : Bool} (ho : o.op = .binOp op T x y T') (hx : a.eval x = .int k m) (hy : a.eval y = .int k n) (hp : (binOp op T (.int k m) (.int k n)).run P w = .ok (.bool p) w) (hg : (eqGuard op T x y (.int k m) (.int k n)).run P w = .ok () w) :
  (execOp a.eval o).run P w = .ok (.value (.bool p)) w := QrM ho hx hy hg hp
theorem QrP {T T' : TypeId} {x y : Operand} {k : IntKind} {m n : Int} (ho : o.op = .binOp .lss T x y T') (hx : a.eval x = .int k m) (hy : a.eval y = .int k n) : (execOp a.eval o).run P w = .ok (.value (.bool (decide (m < n)))) w := QoQ ho hx hy (by cases k <;> rfl) rfl
theorem QrO {T T' : TypeId} {x y : Operand} {k : IntKind} {m n : Int} (ho : o.op = .binOp .leq T x y T') (hx : a.eval x = .int k m) (hy : a.eval y = .int k n) : (execOp a.eval o).run P w = .ok (.value (.bool (decide (m ≤ n)))) w := QoQ ho hx hy (by cases k <;> rfl) rfl
theorem QrL {T T' : TypeId} {x y : Operand} {k : IntKind} {m n : Int} (ho : o.op = .binOp .gtr T x y T') (hx : a.eval x = .int k m) (hy : a.eval y = .int k n) : (execOp a.eval o).run P w = .ok (.value (.bool (decide (m > n)))) w := QoQ ho hx hy (by cases k <;> rfl) rfl
theorem QrK {T T' : TypeId} {x y : Operand} {k : IntKind} {m n : Int} (ho : o.op = .binOp .geq T x y T') (hx : a.eval x = .int k m) (hy : a.eval y = .int k n) : (execOp a.eval o).run P w = .ok (.value (.bool (decide (m ≥ n)))) w := QoQ ho hx hy (by cases k <;> rfl) rfl
theorem QrU {T : TypeId} {x : Operand} {b : Bool} (ho : o.op = .unOp .not T x) (hx : a.eval x = .bool b) : (execOp a.eval o).run P w = .ok (.value (.bool (!b))) w := by
 unfold execOp
 simp only [ho, hx]
 rfl
theorem QrN {T e size bytes : Nat} {z : Value} [E : TS P T e size bytes z] {x : Operand} {A : Option Addr} {n c : Nat} (ho : o.op = .call { callee := .builtin .len, args := #[x], argTypes := #[T] }) (hx : a.eval x = .slice A n c) : (execOp a.eval o).run P w = .ok (.value (.int .i64 n)) w := by
 unfold execOp
 simp only [ho, resolve, invoke, builtin, Sem.run_bind, Sem.run_pure, Result.andThen_ok, List.map_toArray, List.map_cons, List.map_nil, hx]
 simp [Builtin.len_, goInt, run_underlying E.el.ht]
theorem QmS {x : Operand} {i : Nat} {vs : List Value} {v : Value} (ho : o.op = .extract x i) (hx : a.eval x = .tuple vs.toArray) (hv : vs[i]? = some v) : (execOp a.eval o).run P w = .ok (.value v) w := by
 unfold execOp
 simp only [ho, hx, Instr.extract]
 simp [hv]
end
class TArr (P : Program) (T : TypeId) (len e size : outParam Nat) : Prop where
 und : P.underlying T = some (.array len e)
 size : (P.info? e).map (·.size) = some size
section
variable {P : Program} {a : Act} {ops : Array Oper} {rest : List Oper} {Q : Exit → Act → World → Prop} {d : Option Tmp} {ty : TypeId} {pos : String} {af : Array Edge} {gd : Option (Nat × Bool)} {w : World} {o : Oper}
theorem Qig {T len e size : Nat} [hT : TArr P T len e size] {cs : List Value} {k : IntKind} {n : Int} (h0 : 0 ≤ n) (h1 : n < len) {v : Value} (hp : (part e cs.toArray (n.toNat * size)).run P w = .ok v w) : (Instr.index T (.agg cs.toArray) (.int k n)).run P w = .ok v w := by
 obtain ⟨j, hj, hjs⟩ := Option.map_eq_some_iff.1 hT.size
 subst hjs
 simp only [Instr.index, asIntOf, Sem.run_bind, Sem.run_pure, Result.andThen_ok, run_underlying hT.und, if_pos (show 0 ≤ n ∧ n < (len : Int) from ⟨h0, h1⟩), sizeOf, typeInfo]
 simp [hj, hp]
theorem Qry {T len e size : Nat} [hT : TArr P T len e size] [hr : TRow P e size] {x i : Operand} {cs out : List Value} {k : IntKind} {n : Int} {off : Nat} (ho : o.op = .index T x i) (hx : a.eval x = .agg cs.toArray) (hi : a.eval i = .int k n) (hb : 0 ≤ n ∧ n < len) (hn : n.toNat * size = off) [h : RowAt cs off size out] :
  (execOp a.eval o).run P w = .ok (.value (.agg out.toArray)) w := by
 obtain ⟨d, hu, hd⟩ := hr.und
 have hp := QaB (w := w) hu hd hr.size cs.toArray (n.toNat * size)
 have he : cs.toArray.extract (n.toNat * size) (n.toNat * size + size) = out.toArray := by
  subst hn
  apply Array.ext'
  simp only [List.extract_toArray, List.extract_eq_drop_take']
  apply List.ext_getElem?
  intro j
  rw [List.getElem?_drop, List.getElem?_take]
  by_cases hj : j < size
  ·rw [if_pos (by omega)]
   have hjo : j < out.length := by rw [h.len]; exact hj
   rw [h.at_ j out[j] (by simp [hjo])]
   simp [hjo]
  rw [if_neg (by omega), List.getElem?_eq_none (by rw [h.len]; omega)]
 rw [he] at hp
 unfold execOp
 simp only [ho, hx, hi, Sem.run_bind, Qig hb.1 hb.2 hp, Result.andThen_ok]
 rfl
end
end
section
open Go.RowKit
class DropO (v : Value) (e : TypeId) (L : List Fc) (n size : outParam Nat) (xs : outParam (List Value)) (M : outParam (List Fc)) : Prop where
 perm : L.Perm (.own v n e size xs :: M)
theorem Qa5 {w : World} {B g n c : Nat} {e : TypeId} {size : Nat} {xs : List Value} (h : w.ownsRow B e size (.slice (some ⟨g, 0, none⟩) n c) n xs) {j : Nat} {v : Value} (hv : xs[j]? = some v) : w.cell? ⟨g, j, none⟩ = some v := by
 have := h.cells (g := g) rfl j v hv
 rwa [Addr.add_mid, Nat.zero_add] at this
section
variable {P : Program} {X : List Nat} {w0 w : World} {L M : List Fc} {a : Act} {ops : Array Oper} {rest : List Oper} {Q : Exit → Act → World → Prop} {d : Option Tmp} {ty : TypeId} {pos : String} {af : Array Edge} {gd : Option (Nat × Bool)}
end
class Parts (n k : Nat) (ps : List (Nat × Value)) (out : outParam (List Value)) : Prop where
 fill : ∀ pre Z : List Value, pre.length = k * n → Z.length = ps.length * n → Instr.fill (fun i => some (i * n, n)) (pre ++ Z).toArray ps = some (pre ++ out).toArray
instance (n k : Nat) : Parts n k [] [] := ⟨fun pre Z _ hZ => by
 obtain rfl : Z = [] := List.eq_nil_of_length_eq_zero (by simpa using hZ)
 simp [Instr.fill]⟩
theorem Parts.cons {n k : Nat} {v : Value} {ps : List (Nat × Value)} {new out : List Value} (hv : VCells v new) (hn : Row new n) (hp : Parts n (k + 1) ps out) : Parts n k ((k, v) :: ps) (new ++ out) := ⟨fun pre Z hpre hZ => by
 have hl := hn.len
 rw [Qfx _ _ k v ps (k * n) n rfl (by rw [hv.eq]; simpa using hl) (by simp [hpre, hZ, Nat.succ_mul])]
 have e1 : List.take (k * n) (pre ++ Z).toArray.toList = pre := by simp [← hpre]
 have e2 : List.drop (k * n + n) (pre ++ Z).toArray.toList = Z.drop n := by simp [← hpre]
 have ih := hp.fill (pre ++ new) (Z.drop n) (by simp [hpre, hl, Nat.succ_mul]) (by simp [hZ, Nat.succ_mul])
 rw [e1, e2, hv.eq, ← List.append_assoc]
 exact ih⟩
instance (n k : Nat) (v : Value) (ps : List (Nat × Value)) (new out : List Value) [hv : VCells v new] [hn : Row new n] [hp : Parts n (k + 1) ps out] : Parts n k ((k, v) :: ps) (new ++ out) := .cons hv hn hp
instance (n k : Nat) (v : Value) (new : List Value) [hv : VCells v new] [hn : Row new n] : Parts n k [(k, v)] new := by
 have h := Parts.cons (k := k) hv hn (inferInstance : Parts n (k + 1) [] [])
 rwa [List.append_nil] at h
section
variable {P : Program} {X : List Nat} {w0 w w' : World} {L M : List Fc} {a : Act} {o : Oper}
theorem QoR {T e size bytes : Nat} {z : Value} [E : TS P T e size bytes z] {x i : Operand} {b off n c : Nat} {k : IntKind} {I : Int} (ho : o.op = .indexAddr T x i) (hx : a.eval x = .slice (some ⟨b, off, none⟩) n c) (hi : a.eval i = .int k I) (h : 0 ≤ I ∧ I < n) :
  (execOp a.eval o).run P w = .ok (.value (.pointer (some ⟨b, off + I.toNat * size, none⟩))) w := by
 obtain ⟨i, h1, _, h2, _⟩ := info_parts E.el.hi
 exact QkX ho E.el.ht (by rw [h1, Option.map_some, h2]) hx hi h.1 h.2
end
section
variable {P : Program} {X : List Nat} {w0 w : World} {L M : List Fc} {a : Act} {o : Oper}
theorem QmR {s x : Operand} {t e xt : TypeId} {size bytes : Nat} {z : Value} {n : Nat} [E : TS P t e size bytes z] {k : IntKind} (hxt : P.underlying xt = some (.int k)) (ho : o.op = .call { callee := .builtin .append, args := #[s, x], argTypes := #[t, xt] }) (hs : a.eval s = .slice none 0 0) (hx : a.eval x = .int .i64 n)
  (h0 : 0 < n) (hb : n * bytes ≤ 140737488355328) {base : Nat} (hbase : base ≤ w.heap.size) :
  ∃ v' w', (execOp a.eval o).run P w = .ok (.value v') w' ∧ w'.ownsRow base e size v' n ((List.range (n * size)).map fun i => z.cells[i % size]!) ∧ w.grownBy w' none ∧ v'.ownBlock = some w.heap.size := by
 obtain ⟨i, hi, hz, hsz, hby⟩ := info_parts E.el.hi
 have hzs := E.el.hz
 have hpos := E.el.h0
 have hbp := E.el.hb
 subst hsz hby
 have hn : n ≤ n * i.bytes := Nat.le_mul_of_pos_right _ hbp
 have hn0 : n ≠ 0 := by omega
 have hw : IntKind.i64.wrap (n : Int) = n := IntWalk.i64_in _ (by omega)
 have h48 : ¬ (281474976710656 < Builtin.nextslicecap n 0 * i.bytes) := by rw [nextslicecap_zero h0]; omega
 have h48' : ¬ (281474976710656 : Int) < (n : Int) * (i.bytes : Int) := by
  have : ((n * i.bytes : Nat) : Int) ≤ 140737488355328 := by omega
  rw [Int.natCast_mul] at this
  omega
 have h63 : ¬ (9223372036854775807 < (n : Int)) := by omega
 have hs0 : ¬ (n = 0 ∨ i.size = 0) := by omega
 have hneg : ¬ ((n : Int) < 0) := by omega
 have hns : ¬ n * i.size = 0 := Nat.mul_ne_zero hn0 (by omega)
 refine ⟨.slice (some ⟨w.heap.size, 0, none⟩) n (grownCap w n 0 e), w.drew.alloc (.cells (Builtin.zeroCells z.cells n ++ Builtin.zeroCells z.cells (grownCap w n 0 e - n)) e), ?_, ⟨by simp, .inr ⟨w.heap.size, _, _, rfl, hbase, heap_alloc_new w.drew _, grownCap_ge w n 0 e, grownCap_le_maxLen w n 0 e (by unfold maxLen; omega), ?_, ?_⟩⟩, ⟨rfl, rfl, rfl, by simp, fun k hk _ => Below.heap_alloc w.drew _ k hk⟩, rfl⟩
 ·unfold execOp
  simp only [ho, resolve, invoke, builtin, Sem.run_bind, Sem.run_pure, Result.andThen_ok, List.map_toArray, List.map_cons, List.map_nil, hs, hx]
  simp [Builtin.append_, run_underlying E.el.ht, run_underlying hxt, sizeOf, typeInfo, zeroValue, hi, hz, asInt, asIntOf, hw, hneg, h48, h48', h63, hs0, hn0, hns, Question.forced, run_firstCells_none, Builtin.firstCells, newRow, grownCap]
 ·simp only [Array.size_append, size_zeroCells, hzs, ← Nat.add_mul]
  congr 1
  have := grownCap_ge w n 0 e
  omega
 rw [Array.toList_append, List.take_append_of_le_length (by simp [size_zeroCells, hzs]), List.take_of_length_le (by simp [size_zeroCells, hzs])]
 simp [Builtin.zeroCells, hzs]
end
end
section
open Go.RowKit
instance (priority := 2000) (k : Nat) (v : Value) (ps : List (Nat × Value)) (out : List Value) [hv : VCells v [v]] [hn : Row [v] 1] [hp : Parts 1 (k + 1) ps out] : Parts 1 k ((k, v) :: ps) (v :: out) := .cons hv hn hp
instance (priority := 30) (xs ys : List Value) (n m : Nat) [h : Row xs n] [k : Row ys m] : Row (xs ++ ys) (n + m) := ⟨by rw [List.length_append, h.len, k.len], fun v hv => (List.mem_append.1 hv).elim (h.one v) (k.one v)⟩
section
variable {P : Program} {X : List Nat} {w0 w : World} {L M : List Fc} {a : Act} {ops : Array Oper} {rest : List Oper} {Q : Exit → Act → World → Prop} {d : Option Tmp} {ty : TypeId} {pos : String} {af : Array Edge} {gd : Option (Nat × Bool)}
theorem Qjt (n : Nat) : (madeCells (Value.int .u8 0).cells (n * 1)).toList = bc (List.replicate n 0) := by
 rw [Nat.mul_one]
 apply List.ext_getElem?
 intro j
 by_cases h : j < n <;> simp [madeCells, bc, h, Value.cells, Nat.mod_one, List.getElem?_replicate]
end
theorem Res.own {w w' : World} {v : Value} {n e size : Nat} {xs : List Value} (h : Res [] w w' [.own v n e size xs]) : w'.ownsRow w.heap.size e size v n xs := h.ok _ (List.mem_singleton.2 rfl)
section
variable {P : Program} {X : List Nat} {w0 w : World} {L M : List Fc} {a : Act} {o : Oper}
theorem QrT {x : Operand} {p : Addr} (ho : o.op = .nilCheck x) (hx : a.eval x = .pointer (some p)) : (execOp a.eval o).run P w = .ok (.value (.pointer (some p))) w := by
 unfold execOp
 simp only [ho, hx]
 rfl
theorem QrQ {T T' : TypeId} {x y : Operand} {m n : Int} (ho : o.op = .binOp .mul T x y T') (hx : a.eval x = .int .i64 m) (hy : a.eval y = .int .i64 n) (h : -9223372036854775808 ≤ m * n ∧ m * n ≤ 9223372036854775807) :
  (execOp a.eval o).run P w = .ok (.value (.int .i64 (m * n))) w := by
 unfold execOp
 simp only [ho, hx, hy]
 have e : (binOp .mul T (.int .i64 m) (.int .i64 n)).run P w = .ok (.int .i64 (m * n)) w := by
  rw [← IntWalk.i64_in (m * n) h]
  rfl
 rw [Sem.run_bind, Sem.run_bind]
 have g : (eqGuard .mul T x y (.int .i64 m) (.int .i64 n)).run P w = .ok () w := rfl
 rw [g, Result.andThen_ok, e]
 rfl
theorem QrW {T len e size : Nat} [hT : TArr P T len e size] {x : Operand} {b off : Nat} (ho : o.op = .slice T x none none none) (hx : a.eval x = .pointer (some ⟨b, off, none⟩)) (hn : 0 < len) : (execOp a.eval o).run P w = .ok (.value (.slice (some ⟨b, off, none⟩) len len)) w :=
 Qci ho hx hT.und hT.size hn
end
end
section
open Go.RowKit
section
variable {P : Program} {X : List Nat} {w0 w : World} {L M : List Fc} {a : Act} {o : Oper}
theorem Qrz {T T' : TypeId} {x y : Operand} {n : Int} (ho : o.op = .binOp .shl T x y T') (hx : a.eval x = .int .i64 n) (hy : a.eval y = .int .u64 8) (h : 0 ≤ n ∧ n < 256) :
  (execOp a.eval o).run P w = .ok (.value (.int .i64 (n * 256))) w := by
 unfold execOp
 simp only [ho, hx, hy]
 have e : (binOp .shl T (.int .i64 n) (.int .u64 8)).run P w = .ok (.int .i64 (n * 256)) w := by
  rw [← IntWalk.i64_in (n * 256) (by omega)]
  rfl
 rw [Sem.run_bind, Sem.run_bind]
 have g : (eqGuard .shl T x y (.int .i64 n) (.int .u64 8)).run P w = .ok () w := rfl
 rw [g, Result.andThen_ok, e]
 rfl
theorem QnZ (n m : Nat) (hn : n < 256) (hm : m < 256) : ((BitVec.ofInt 64 ((n : Int) * 256) ||| BitVec.ofInt 64 (m : Int)).toNat : Int) = (n : Int) * 256 + m := by
 have e1 : BitVec.ofInt 64 ((n : Int) * 256) = BitVec.ofNat 64 (n * 256) := by rw [← BitVec.ofInt_natCast]; congr 1
 have e2 : BitVec.ofInt 64 (m : Int) = BitVec.ofNat 64 m := by rw [← BitVec.ofInt_natCast]
 rw [e1, e2, BitVec.toNat_or, BitVec.toNat_ofNat, BitVec.toNat_ofNat, Nat.mod_eq_of_lt (by omega), Nat.mod_eq_of_lt (by omega)]
 have h := Nat.shiftLeft_add_eq_or_of_lt (i := 8) (show m < 2 ^ 8 by omega) n
 rw [Nat.shiftLeft_eq] at h
 rw [show n * 256 = n * 2 ^ 8 from rfl, ← h]
 rw [Int.natCast_add, Int.natCast_mul]
 rfl
theorem QrV {T T' : TypeId} {x y : Operand} {n m : Int} (ho : o.op = .binOp .or T x y T') (hx : a.eval x = .int .i64 (n * 256)) (hy : a.eval y = .int .i64 m) (h : 0 ≤ n ∧ n < 256) (h' : 0 ≤ m ∧ m < 256) :
  (execOp a.eval o).run P w = .ok (.value (.int .i64 (n * 256 + m))) w := by
 obtain ⟨n, rfl⟩ := Int.eq_ofNat_of_zero_le h.1
 obtain ⟨m, rfl⟩ := Int.eq_ofNat_of_zero_le h'.1
 unfold execOp
 simp only [ho, hx, hy]
 have e : (binOp .or T (.int .i64 ((n : Int) * 256)) (.int .i64 (m : Int))).run P w = .ok (.int .i64 ((n : Int) * 256 + m)) w := by
  rw [← IntWalk.i64_in ((n : Int) * 256 + m) (by omega), ← QnZ n m (by omega) (by omega)]
  rfl
 rw [Sem.run_bind, Sem.run_bind]
 have g : (eqGuard .or T x y (.int .i64 ((n : Int) * 256)) (.int .i64 (m : Int))).run P w = .ok () w := rfl
 rw [g, Result.andThen_ok, e]
 rfl
end
end
section
open Go.RowKit
inductive Fa where
 | blk (g : Nat) (cs : List Value) (T : TypeId)
 | rd (A : Option Addr) (cs : List Value)
 | own (v : Value) (n : Nat) (e : TypeId) (size : Nat) (xs : List Value)
 | obj (g : Nat) (o : Obj)
 | inv (φ : World → Prop) (F : Nat → Prop)
 | zone (b : Bool) (h : Nat → Option Obj)
def Fa.wr : Fa → Bool
 | .blk .. => true
 | .own .. => true
 | .obj .. => true
 | .zone b _ => b
 | _ => false
def Fa.foot : Fa → Nat → Prop
 | .blk g _ _, k => k = g
 | .rd A cs, k => cs ≠ [] ∧ ∃ o, A = some ⟨k, o, none⟩
 | .own v _ _ _ _, k => v.ownBlock = some k
 | .obj g _, k => k = g
 | .inv _ F, k => F k
 | .zone _ h, k => ∃ o, h k = some o
def Fa.holds (w : World) : Fa → Prop
 | .blk g cs T => w.heap[g]? = some (.cells cs.toArray T (0, 0))
 | .rd A cs => Rd w A cs
 | .own v n e size xs => w.ownsRow 0 e size v n xs
 | .obj g o => w.heap[g]? = some o
 | .inv φ F => φ w ∧ (∀ k, F k → k < w.heap.size) ∧ ∀ w', (∀ k, F k → w'.heap[k]? = w.heap[k]?) → φ w'
 | .zone _ h => ∀ k o, h k = some o → w.heap[k]? = some o
def Fa.sep (f g : Fa) : Prop := (f.wr || g.wr) = true → ∀ k, f.foot k → g.foot k → False
theorem Fa.bound {w : World} {f : Fa} (h : f.holds w) {k : Nat} (hk : f.foot k) : k < w.heap.size := by
 cases f with
 | blk g cs T => obtain rfl : k = g := hk; exact (Array.getElem?_eq_some_iff.1 h).1
 | rd A cs => exact Fc.bound (B := 0) (f := .rd A cs) h hk
 | own v n e size xs => exact (World.ownsRow.lt h k hk).2
 | obj g o => obtain rfl : k = g := hk; exact (Array.getElem?_eq_some_iff.1 h).1
 | inv φ F => exact h.2.1 k hk
 | zone b z => obtain ⟨o, ho⟩ := hk; exact (Array.getElem?_eq_some_iff.1 (h k o ho)).1
theorem Fa.kept {w w' : World} {f : Fa} (h : f.holds w) (hsz : w.heap.size ≤ w'.heap.size) (hk : ∀ k, f.foot k → w'.heap[k]? = w.heap[k]?) : f.holds w' := by
 cases f with
 | blk g cs T => exact (hk g rfl).trans h
 | rd A cs => exact Qid h hk
 | own v n e size xs => exact QfM h hk
 | obj g o => exact (hk g rfl).trans h
 | inv φ F => exact ⟨h.2.2 w' hk, fun k hF => Nat.lt_of_lt_of_le (h.2.1 k hF) hsz, fun w'' h'' => h.2.2 w'' fun k hF => (h'' k hF).trans (hk k hF)⟩
 | zone b z => exact fun k o ho => (hk k ⟨o, ho⟩).trans (h k o ho)
theorem Fa.sep_symm {f g : Fa} (h : f.sep g) : g.sep f := fun hw k a b => h (by rw [Bool.or_comm]; exact hw) k b a
theorem Fa.sep_rd {f g : Fa} (hf : f.wr = false) (hg : g.wr = false) : f.sep g := fun hw => by rw [hf, hg] at hw; cases hw
def wf (A : List Fa) (k : Nat) : Prop := ∃ f ∈ A, f.wr = true ∧ f.foot k
structure Fx (w : World) (L : List Fa) : Prop where
 ok : ∀ f ∈ L, f.holds w
 sep : L.Pairwise Fa.sep
structure Sx (A : List Fa) (W w : World) (L : List Fa) : Prop extends Fx w L where
 os : w.os = W.os
 tape : w.tape = W.tape
 output : w.output = W.output
 size : W.heap.size ≤ w.heap.size
 block : ∀ k, k < W.heap.size → ¬ wf A k → w.heap[k]? = W.heap[k]?
 fresh : ∀ f ∈ L, f.wr = true → ∀ k, f.foot k → W.heap.size ≤ k ∨ wf A k
structure Rx (A : List Fa) (W w : World) (N : List Fa) : Prop extends Sx A W w N where
 all : ∀ f ∈ N, ∀ k, f.foot k → W.heap.size ≤ k ∨ wf A k
def qw (w : World) (A R : List Fa) : Prop := ∀ r ∈ R, r.wr = false ∧ r.holds w ∧ ∀ a ∈ A, a.sep r
def QC (P : Program) (f : FuncId) (args : Array Value) (R A : List Fa) {τ : Type} (v : τ → Value) (N : τ → List Fa) : Prop :=
 ∀ w, Fx w A → qw w A R → Calls P f args w fun e w' => ∃ x, e = .returned (v x) ∧ Rx A w w' (N x)
section
variable {A : List Fa} {W w w' : World} {L M N : List Fa}
theorem Fx.sub (h : Fx w L) (hs : M.Sublist L) : Fx w M := ⟨fun f hf => h.ok f (hs.subset hf), h.sep.sublist hs⟩
theorem Fx.perm (h : Fx w L) (hp : L.Perm M) : Fx w M := ⟨fun f hf => h.ok f (hp.mem_iff.2 hf), (hp.pairwise_iff fun hab => Fa.sep_symm hab).1 h.sep⟩
theorem Fx.nil (w : World) : Fx w [] := ⟨fun _ h => (List.not_mem_nil h).elim, .nil⟩
theorem Sx.sub (h : Sx A W w L) (hs : M.Sublist L) : Sx A W w M := ⟨h.toFx.sub hs, h.os, h.tape, h.output, h.size, h.block, fun f hf => h.fresh f (hs.subset hf)⟩
theorem Sx.perm (h : Sx A W w L) (hp : L.Perm M) : Sx A W w M := ⟨h.toFx.perm hp, h.os, h.tape, h.output, h.size, h.block, fun f hf => h.fresh f (hp.mem_iff.2 hf)⟩
theorem Sx.cast (h : Sx A W w L) (e : L = M) : Sx A W w M := e ▸ h
theorem Sx.start (hA : Fx W A) {R : List Fa} (hR : qw W A R) : Sx A W W (A ++ R) :=
  ⟨⟨fun f hf => (List.mem_append.1 hf).elim (hA.ok f) fun h => (hR f h).2.1, List.pairwise_append.2 ⟨hA.sep, List.pairwise_of_forall_mem_list fun a ha b hb => Fa.sep_rd (hR a ha).1 (hR b hb).1, fun a ha b hb => (hR b hb).2.2 a ha⟩⟩,
   rfl, rfl, rfl, Nat.le_refl _, fun _ _ _ => rfl, fun f hf hw k hk => (List.mem_append.1 hf).elim (fun h => .inr ⟨f, h, hw, hk⟩) fun h => by rw [(hR f h).1] at hw; cases hw⟩
theorem Sx.res (h : Sx A W w L) (hs : N.Sublist L) (hw : ∀ f ∈ N, f.wr = true) : Rx A W w N :=
 ⟨h.sub hs, fun f hf k hk => h.fresh f (hs.subset hf) (hw f hf) k hk⟩
theorem Sx.call (h : Sx A W w L) (hb : Below w.heap.size w w') : Sx A W w' L :=
  ⟨⟨fun f hf => Fa.kept (h.ok f hf) hb.size fun k hk => hb.block k (Fa.bound (h.ok f hf) hk), h.sep⟩, hb.os.trans h.os, hb.tape.trans h.tape, hb.output.trans h.output, Nat.le_trans h.size hb.size,
   fun k hk hn => (hb.block k (Nat.lt_of_lt_of_le hk h.size)).trans (h.block k hk hn), h.fresh⟩
theorem Sx.drew (h : Sx A W w L) : Sx A W w.drew L := h.call ((Below.refl _ _).drew)
theorem Sx.cons (h : Sx A W w L) {f : Fa} (hf : f.holds w) (hs : ∀ g ∈ L, f.sep g) (hfr : f.wr = true → ∀ k, f.foot k → W.heap.size ≤ k ∨ wf A k) : Sx A W w (f :: L) :=
 ⟨⟨fun g hg => (List.mem_cons.1 hg).elim (fun e => e ▸ hf) (h.ok g), List.pairwise_cons.2 ⟨hs, h.sep⟩⟩, h.os, h.tape, h.output, h.size, h.block, fun g hg => (List.mem_cons.1 hg).elim (fun e => e ▸ hfr) (h.fresh g)⟩
theorem Sx.tail {f : Fa} (h : Sx A W w (f :: L)) : Sx A W w L := h.sub (List.sublist_cons_self _ _)
theorem Sx.alloc (h : Sx A W w L) (cs : List Value) (T : TypeId) : Sx A W (w.alloc (.cells cs.toArray T)) (.blk w.heap.size cs T :: L) := by
 have hb : Below w.heap.size w (w.alloc (.cells cs.toArray T)) := (Below.refl _ _).alloc (Nat.le_refl _) _
 refine (h.call hb).cons ?_ ?_ ?_
 ·show (w.heap.push _)[w.heap.size]? = _
  simp
 ·intro g hg _ k hk hk'
  obtain rfl : k = w.heap.size := hk
  have := Fa.bound (h.ok g hg) hk'
  omega
 rintro _ k hk
 obtain rfl : k = w.heap.size := hk
 exact .inl h.size
theorem Sx.ret {A' N : List Fa} (h : Sx A W w (A' ++ M)) (hr : Rx A' w w' N) : Sx A W w' (N ++ M) := by
 have hap : ∀ f ∈ A', f.wr = true → ∀ g ∈ M, ∀ k, f.foot k → g.foot k → False := fun f hf hw g hg k h1 h2 =>
  (List.pairwise_append.1 h.sep).2.2 f hf g hg (by rw [Bool.or_eq_true]; exact .inl hw) k h1 h2
 have hM : ∀ g ∈ M, ∀ k, g.foot k → ¬ wf A' k := fun g hg k hk ⟨f, hf, hw, hfk⟩ => hap f hf hw g hg k hfk hk
 refine ⟨⟨fun f hf => ?_, List.pairwise_append.2 ⟨hr.sep, (List.pairwise_append.1 h.sep).2.1, fun f hf g hg _ k a b => ?_⟩⟩, hr.os.trans h.os, hr.tape.trans h.tape, hr.output.trans h.output, Nat.le_trans h.size hr.size, fun k hk hn => ?_, fun f hf hw k hk => ?_⟩
 ·rcases List.mem_append.1 hf with hf | hf
  ·exact hr.ok f hf
  have ho := h.ok f (List.mem_append_right _ hf)
  exact Fa.kept ho hr.size fun k hk => hr.block k (Fa.bound ho hk) (hM f hf k hk)
 ·have hb := Fa.bound (h.ok g (List.mem_append_right _ hg)) b
  rcases hr.all f hf k a with h1 | h1
  ·omega
  exact hM g hg k b h1
 ·refine (hr.block k (Nat.lt_of_lt_of_le hk h.size) ?_).trans (h.block k hk hn)
  rintro ⟨f, hf, hw, hfk⟩
  rcases h.fresh f (List.mem_append_left _ hf) hw k hfk with h1 | h1
  ·omega
  exact hn h1
 rcases List.mem_append.1 hf with hf | hf
 ·rcases hr.all f hf k hk with h1 | ⟨g, hg, hgw, hgk⟩
  ·exact .inl (Nat.le_trans h.size h1)
  exact h.fresh g (List.mem_append_left _ hg) hgw k hgk
 exact h.fresh f (List.mem_append_right _ hf) hw k hk
theorem Rx.below (h : Rx [] W w N) : Below W.heap.size W w := ⟨h.os, h.tape, h.output, h.size, fun k hk => h.block k hk fun ⟨_, hf, _⟩ => (List.not_mem_nil hf).elim⟩
theorem Sx.turn {f f' : Fa} (h : Sx A W w (f :: L)) (hfw : f.wr = true) (hft : ∀ k, f'.foot k → f.foot k ∨ w.heap.size ≤ k) (hw : f'.holds w')
  (hos : w'.os = w.os) (htp : w'.tape = w.tape) (hout : w'.output = w.output) (hsz : w.heap.size ≤ w'.heap.size) (hk : ∀ k, k < w.heap.size → ¬ f.foot k → w'.heap[k]? = w.heap[k]?) : Sx A W w' (f' :: L) := by
 have hr : Rx [f] w w' [f'] := ⟨⟨⟨fun g hg => by rw [List.mem_singleton.1 hg]; exact hw, List.pairwise_singleton _ _⟩, hos, htp, hout, hsz,
  fun k hk' hn => hk k hk' fun hf => hn ⟨f, List.mem_singleton.2 rfl, hfw, hf⟩, fun g hg _ k hgk => ?_⟩, fun g hg k hgk => ?_⟩
 ·exact Sx.ret (A' := [f]) (N := [f']) h hr
 all_goals
  rw [List.mem_singleton.1 hg] at hgk
  exact (hft k hgk).elim (fun h1 => .inr ⟨f, List.mem_singleton.2 rfl, hfw, h1⟩) .inl
end
class Take (A L : List Fa) (M : outParam (List Fa)) : Prop where
 perm : L.Perm (A ++ M)
class Take1 (f : Fa) (L : List Fa) (M : outParam (List Fa)) : Prop where
 perm : L.Perm (f :: M)
instance (f : Fa) (L : List Fa) : Take1 f (f :: L) L := ⟨List.Perm.refl _⟩
instance (priority := 100) (f g : Fa) (L M : List Fa) [h : Take1 f L M] : Take1 f (g :: L) (g :: M) := ⟨(h.perm.cons g).trans (.swap ..)⟩
instance (L : List Fa) : Take [] L L := ⟨List.Perm.refl _⟩
instance (f : Fa) (A L M M' : List Fa) [h : Take1 f L M] [k : Take A M M'] : Take (f :: A) L M' := ⟨h.perm.trans (k.perm.cons f)⟩
class TakeB (g : Nat) (L : List Fa) (cs : outParam (List Value)) (T : outParam TypeId) (M : outParam (List Fa)) : Prop where
 perm : L.Perm (.blk g cs T :: M)
instance (g : Nat) (cs : List Value) (T : TypeId) (L : List Fa) : TakeB g (.blk g cs T :: L) cs T L := ⟨List.Perm.refl _⟩
instance (priority := 100) (g : Nat) (f : Fa) (cs : List Value) (T : TypeId) (L M : List Fa) [h : TakeB g L cs T M] : TakeB g (f :: L) cs T (f :: M) := ⟨(h.perm.cons f).trans (.swap ..)⟩
class TakeO (v : Value) (L : List Fa) (n : outParam Nat) (e : outParam TypeId) (size : outParam Nat) (xs : outParam (List Value)) (M : outParam (List Fa)) : Prop where
 perm : L.Perm (.own v n e size xs :: M)
instance (v : Value) (n : Nat) (e : TypeId) (size : Nat) (xs : List Value) (L : List Fa) : TakeO v (.own v n e size xs :: L) n e size xs L := ⟨List.Perm.refl _⟩
instance (priority := 100) (v : Value) (f : Fa) (n : Nat) (e : TypeId) (size : Nat) (xs : List Value) (L M : List Fa) [h : TakeO v L n e size xs M] : TakeO v (f :: L) n e size xs (f :: M) := ⟨(h.perm.cons f).trans (.swap ..)⟩
class TakeG (g : Nat) (L : List Fa) (n c : outParam Nat) (e : outParam TypeId) (size : outParam Nat) (xs : outParam (List Value)) (M : outParam (List Fa)) : Prop where
 perm : L.Perm (.own (.slice (some ⟨g, 0, none⟩) n c) n e size xs :: M)
instance (g n c : Nat) (e : TypeId) (size : Nat) (xs : List Value) (L : List Fa) : TakeG g (.own (.slice (some ⟨g, 0, none⟩) n c) n e size xs :: L) n c e size xs L := ⟨List.Perm.refl _⟩
instance (priority := 100) (g : Nat) (f : Fa) (n c : Nat) (e : TypeId) (size : Nat) (xs : List Value) (L M : List Fa) [h : TakeG g L n c e size xs M] : TakeG g (f :: L) n c e size xs (f :: M) := ⟨(h.perm.cons f).trans (.swap ..)⟩
class Cells (b O : Nat) (L : List Fa) (off : outParam Nat) (cs : outParam (List Value)) : Prop where
 cell : ∀ {w : World}, Fx w L → ∀ j v, cs[off + j]? = some v → w.cell? ⟨b, O + j, none⟩ = some v
theorem Fx.tail {w : World} {f : Fa} {L : List Fa} (h : Fx w (f :: L)) : Fx w L := h.sub (List.sublist_cons_self _ _)
instance (priority := 50) (b O : Nat) (f : Fa) (L : List Fa) (off : Nat) (cs : List Value) [h : Cells b O L off cs] : Cells b O (f :: L) off cs := ⟨fun hS => h.cell hS.tail⟩
instance (b O : Nat) (L : List Fa) (cs : List Value) (T : TypeId) : Cells b O (.blk b cs T :: L) O cs :=
 ⟨fun hS j v hv => by rw [cell_of_row _ b (O + j) cs.toArray T (0, 0) (hS.ok _ (List.mem_cons_self ..))]; simpa using hv⟩
instance (b o off : Nat) (L : List Fa) (cs : List Value) : Cells b (o + off) (.rd (some ⟨b, o, none⟩) cs :: L) off cs :=
 ⟨fun hS j v hv => by have := Rd.range (hS.ok (.rd (some ⟨b, o, none⟩) cs) (List.mem_cons_self ..)) _ v hv; rwa [← Nat.add_assoc] at this⟩
instance (b o : Nat) (L : List Fa) (cs : List Value) : Cells b o (.rd (some ⟨b, o, none⟩) cs :: L) 0 cs :=
 ⟨fun hS j v hv => by have := Rd.range (hS.ok (.rd (some ⟨b, o, none⟩) cs) (List.mem_cons_self ..)) _ v hv; rwa [Nat.zero_add] at this⟩
instance (priority := 900) (b O : Nat) (L : List Fa) (cs : List Value) : Cells b O (.rd (some ⟨b, 0, none⟩) cs :: L) O cs :=
 ⟨fun hS j v hv => by have := Rd.range (hS.ok (.rd (some ⟨b, 0, none⟩) cs) (List.mem_cons_self ..)) _ v hv; rwa [Nat.zero_add] at this⟩
instance (b O : Nat) (L : List Fa) (n c e size : Nat) (xs : List Value) : Cells b O (.own (.slice (some ⟨b, 0, none⟩) n c) n e size xs :: L) O xs :=
 ⟨fun hS j v hv => Qa5 (hS.ok (.own _ _ _ _ _) (List.mem_cons_self ..)) hv⟩
class Rds (L R : List Fa) : Prop where
 ok : ∀ {w : World}, Fx w L → ∀ r ∈ R, r.wr = false ∧ r.holds w ∧ ∀ k, r.foot k → ∃ f ∈ L, f.foot k
class Rd1 (L : List Fa) (r : Fa) : Prop where
 ok : ∀ {w : World}, Fx w L → r.wr = false ∧ r.holds w ∧ ∀ k, r.foot k → ∃ f ∈ L, f.foot k
instance (L : List Fa) : Rds L [] := ⟨fun _ _ h => (List.not_mem_nil h).elim⟩
instance (L R : List Fa) (r : Fa) [h : Rd1 L r] [k : Rds L R] : Rds L (r :: R) := ⟨fun hw s hs => (List.mem_cons.1 hs).elim (fun e => e ▸ h.ok hw) (k.ok hw s)⟩
instance (priority := 20) (f r : Fa) (L : List Fa) [h : Rd1 L r] : Rd1 (f :: L) r := ⟨fun hw => by
 obtain ⟨h1, h2, h3⟩ := h.ok hw.tail
 exact ⟨h1, h2, fun k hk => let ⟨g, hg, hgk⟩ := h3 k hk; ⟨g, List.mem_cons_of_mem _ hg, hgk⟩⟩⟩
instance (priority := 2000) (L : List Fa) (A : Option Addr) : Rd1 L (.rd A []) := ⟨fun _ => ⟨rfl, Rd.nil _ _, fun _ hk => (hk.1 rfl).elim⟩⟩
instance (priority := 1500) (A : Option Addr) (cs : List Value) (L : List Fa) : Rd1 (.rd A cs :: L) (.rd A cs) := ⟨fun hw => ⟨rfl, hw.ok _ (List.mem_cons_self ..), fun k hk => ⟨_, List.mem_cons_self .., hk⟩⟩⟩
theorem Qic {A : Option Addr} {cs : List Value} {b o k : Nat} (h : (Fa.rd (some ⟨b, o, none⟩) cs).foot k) : k = b := by
 obtain ⟨_, o', e⟩ := h
 injection e with e
 injection e with e1 _
 exact e1.symm
instance (priority := 1400) (g off T n : Nat) (cs out : List Value) (L : List Fa) [hn : Row out n] [hr : RowAt cs off n out] : Rd1 (.blk g cs T :: L) (.rd (some ⟨g, off, none⟩) out) := ⟨fun hw =>
 ⟨rfl, fun j v hv => ⟨g, off, rfl, by rw [cell_of_row _ g (off + j) cs.toArray T (0, 0) (hw.ok _ (List.mem_cons_self ..))]; simpa using hr.at_ j v hv⟩, fun k hk => ⟨_, List.mem_cons_self .., by rw [Qic (A := none) hk]; rfl⟩⟩⟩
theorem Qd3 {w : World} {e size n : Nat} {v : Value} {xs : List Value} (ho : w.ownsRow 0 e size v n xs) : ∃ A c, v = .slice A n c ∧ n ≤ c ∧ (A = none → n = 0 ∧ c = 0) ∧ xs.length = n * size := by
 rcases ho.2 with ⟨rfl, rfl⟩ | ⟨g, cap, cur, rfl, _, _, hn, _⟩
 ·exact ⟨none, 0, rfl, Nat.le_refl _, fun _ => ⟨rfl, rfl⟩, ho.1⟩
 exact ⟨_, cap, rfl, hn, by simp, ho.1⟩
theorem QhX {w : World} {e size n c : Nat} {A : Option Addr} {xs : List Value} (ho : w.ownsRow 0 e size (.slice A n c) n xs) : Rd w A xs := by
 obtain ⟨A', c', e', _, hr⟩ := QpV ho
 injection e' with e1 _ _
 subst e1
 exact hr
instance (priority := 1400) (A : Option Addr) (n c e size : Nat) (xs : List Value) (L : List Fa) : Rd1 (.own (.slice A n c) n e size xs :: L) (.rd A xs) := ⟨fun hw => by
 have ho : _root_.Go.World.ownsRow _ 0 e size (.slice A n c) n xs := hw.ok (.own _ _ _ _ _) (List.mem_cons_self ..)
 refine ⟨rfl, QhX ho, fun k hk => ⟨_, List.mem_cons_self .., ?_⟩⟩
 obtain ⟨_, o, rfl⟩ := hk
 rfl⟩
theorem Sx.reads {A W w} {L A' M R : List Fa} (h : Sx A W w L) (hp : L.Perm (A' ++ M)) (hr : Rds M R) : qw w A' R := fun r hrm => by
 have h2 := h.perm hp
 have hM : Fx w M := h2.toFx.sub (List.sublist_append_right _ _)
 obtain ⟨h3, h4, h5⟩ := hr.ok hM r hrm
 refine ⟨h3, h4, fun a ha hw k hak hrk => ?_⟩
 obtain ⟨f, hf, hfk⟩ := h5 k hrk
 have haw : a.wr = true := by simpa [h3] using hw
 exact (List.pairwise_append.1 h2.sep).2.2 a ha f hf (by rw [Bool.or_eq_true]; exact .inl haw) k hak hfk
end
section
open Go.RowKit
def FR (ro : Option Nat) : Fence := { Fence.wide with round := ro }
theorem Qal {ro : Option Nat} {n : Nat} {P : Program} {f : FuncId} {args : Array Value} {w : World} {R : Ending → World → Prop} (h : Calls P f args w R) : CallsIn (FR ro) n P f args w R := by
 cases ro with
 | none => exact callsIn_wide.2 h
 | some l => exact CallsIn.inRound l (callsIn_wide.2 h)
abbrev Env := List (Nat × Value)
def look : Env → Nat → Option Value
 | [], _ => none
 | (s, v) :: E, t => bif Nat.beq s t then some v else look E t
def ev (E : Env) : Operand → Option Value
 | .tmp t => look E t
 | .const v => some v
 | .global g => some (.pointer (some ⟨g, 0, none⟩))
 | .func f => some (.func (.func f) #[] #[])
def evs (E : Env) : List Operand → Option (List Value)
 | [] => some []
 | x :: l => (ev E x).bind fun v => (evs E l).bind fun vs => some (v :: vs)
def evp (E : Env) : List (Nat × Operand) → Option (List (Nat × Value))
 | [] => some []
 | (i, x) :: l => (ev E x).bind fun v => (evp E l).bind fun vs => some ((i, v) :: vs)
structure Kn (n : Nat) (D : List Deferred) (E : Env) (a : Act) : Prop where
 size : a.tmps.size = n
 defers : a.defers = D
 val : ∀ t v, look E t = some v → a.tmps[t]? = some v
section
variable {n : Nat} {D : List Deferred} {E : Env} {a : Act}
theorem Kn.ev (h : Kn n D E a) {x : Operand} {v : Value} (hx : ev E x = some v) : a.eval x = v := by
 cases x with
 | tmp t => have := h.val t v hx; simp [Act.eval, this]
 | const u => injection hx
 | global g => injection hx
 | func f => injection hx
theorem Kn.evs (h : Kn n D E a) : ∀ {l : List Operand} {vs : List Value}, evs E l = some vs → l.map a.eval = vs
 | [], vs, hx => by cases hx; rfl
 | x :: l, vs, hx => by
  unfold Go.Proofs.YtjhlbbgikccclaaGreatDoor.evs at hx
  cases h1 : Go.Proofs.YtjhlbbgikccclaaGreatDoor.ev E x with
  | none => rw [h1] at hx; cases hx
  | some v =>
   cases h2 : Go.Proofs.YtjhlbbgikccclaaGreatDoor.evs E l with
   | none => rw [h1, h2] at hx; cases hx
   | some us =>
    rw [h1, h2] at hx
    injection hx with hx
    subst hx
    rw [List.map_cons, h.ev h1, h.evs h2]
theorem Kn.evp (h : Kn n D E a) : ∀ {l : List (Nat × Operand)} {vs : List (Nat × Value)}, evp E l = some vs → (l.map fun p => (p.1, a.eval p.2)) = vs
 | [], vs, hx => by cases hx; rfl
 | (i, x) :: l, vs, hx => by
  unfold Go.Proofs.YtjhlbbgikccclaaGreatDoor.evp at hx
  cases h1 : Go.Proofs.YtjhlbbgikccclaaGreatDoor.ev E x with
  | none => rw [h1] at hx; cases hx
  | some v =>
   cases h2 : Go.Proofs.YtjhlbbgikccclaaGreatDoor.evp E l with
   | none => rw [h1, h2] at hx; cases hx
   | some us =>
    rw [h1, h2] at hx
    injection hx with hx
    subst hx
    rw [List.map_cons, h.ev h1, h.evp h2]
theorem Kn.put (h : Kn n D E a) {d : Nat} (hd : Nat.blt d n = true) (v : Value) : Kn n D ((d, v) :: E) (a.put (some d) v) := by
 have hd' : d < n := by simpa [Nat.blt_eq] using hd
 refine ⟨by simp [Act.put, h.size], h.defers, fun t u ht => ?_⟩
 show (a.tmps.setIfInBounds d v)[t]? = some u
 by_cases e : d = t
 ·subst e
  have : look ((d, v) :: E) d = some v := by simp [look]
  rw [this] at ht
  injection ht with ht
  subst ht
  simp [h.size, hd']
 have hb : Nat.beq d t = false := by rw [Bool.eq_false_iff]; intro hb; exact e (Nat.eq_of_beq_eq_true hb)
 have : look ((d, v) :: E) t = look E t := by simp [look, hb]
 rw [this] at ht
 rw [Array.getElem?_setIfInBounds_ne e]
 exact h.val t u ht
theorem Kn.putNone (h : Kn n D E a) (v : Value) : Kn n D E (a.put none v) := h
def agree : Env → Env → Prop
 | [], _ => True
 | (t, v) :: E', E => look E t = some v ∧ agree E' E
theorem agree.look : ∀ {E' E : Env}, agree E' E → ∀ t v, look E' t = some v → look E t = some v
 | [], _, _, _, _, h => by cases h
 | (s, u) :: E', E, ⟨h1, h2⟩, t, v, h => by
  unfold Go.Proofs.YtjhlbbgikccclaaGreatDoor.look at h
  cases hb : Nat.beq s t with
  | true =>
   rw [hb] at h
   injection h with h
   subst h
   rw [← Nat.eq_of_beq_eq_true hb]
   exact h1
  | false => rw [hb] at h; exact agree.look h2 t v h
theorem Kn.agree {E' : Env} (h : Kn n D E a) (hE : agree E' E) : Kn n D E' a := ⟨h.size, h.defers, fun t v ht => h.val t v (hE.look t v ht)⟩
theorem aI {t : Nat} {k : IntKind} {i j : Int} (h : look E t = some (.int k i)) (e : i = j) : look E t = some (.int k j) := e ▸ h
theorem aB {t : Nat} {i j : Bool} (h : look E t = some (.bool i)) (e : i = j) : look E t = some (.bool j) := e ▸ h
theorem aV {t : Nat} {i j : Value} (h : look E t = some i) (e : i = j) : look E t = some j := e ▸ h
end
def H (A : List Fa) (W : World) (n : Nat) (D : List Deferred) (E : Env) (L : List Fa) (K : Act → World → Prop) : Prop := ∀ a w, Kn n D E a → Sx A W w L → K a w
section
variable {A : List Fa} {W : World} {n : Nat} {D : List Deferred} {E : Env} {L : List Fa} {P : Program} {ro : Option Nat} {Q : Exit → Act → World → Prop} {K : Act → World → Prop}
theorem Qd {x y : Code} (h : H A W n D E L (x.wpIn (FR ro) 0 P (Exit.then (y.wpIn (FR ro) 0 P Q) Q))) : H A W n D E L ((Code.seq x y).wpIn (FR ro) 0 P Q) := fun a w k s => wpIn_seq (h a w k s)
theorem Qn (h : H A W n D E L (Q .normal)) : H A W n D E L (Code.skip.wpIn (FR ro) 0 P Q) := fun a w k s => wpIn_skip (h a w k s)
theorem Qs (h : H A W n D E L (Q .ret)) : H A W n D E L (Code.ret.wpIn (FR ro) 0 P Q) := fun a w k s => wpIn_ret (h a w k s)
theorem QK {id : Nat} (h : H A W n D E L (Q (.exit id))) : H A W n D E L ((Code.exit id).wpIn (FR ro) 0 P Q) := fun a w k s => wpIn_exit (h a w k s)
theorem Qq {id : Nat} {c : Code} (h : H A W n D E L (c.wpIn (FR ro) 0 P (Exit.inBlock id Q))) : H A W n D E L ((Code.block id c).wpIn (FR ro) 0 P Q) := fun a w k s => wpIn_block (h a w k s)
theorem Qz {c : Operand} {x y : Code} (hc : ev E c = some (.bool true)) (h : H A W n D E L (x.wpIn (FR ro) 0 P Q)) : H A W n D E L ((Code.cond c x y).wpIn (FR ro) 0 P Q) := fun a w k s => wpIn_cond_true (k.ev hc) (h a w k s)
theorem Qt {c : Operand} {x y : Code} (hc : ev E c = some (.bool false)) (h : H A W n D E L (y.wpIn (FR ro) 0 P Q)) : H A W n D E L ((Code.cond c x y).wpIn (FR ro) 0 P Q) := fun a w k s => wpIn_cond_false (k.ev hc) (h a w k s)
theorem V0 {c : Operand} {x y : Code} {b : Bool} (hc : ev E c = some (.bool b)) (ht : b = true → H A W n D E L (x.wpIn (FR ro) 0 P Q)) (hf : b = false → H A W n D E L (y.wpIn (FR ro) 0 P Q)) : H A W n D E L ((Code.cond c x y).wpIn (FR ro) 0 P Q) := by
 cases b
 ·exact Qt hc (hf rfl)
 exact Qz hc (ht rfl)
theorem QU {c : Operand} {x y : Code} {p : Prop} [Decidable p] (hc : ev E c = some (.bool (decide p))) (ht : p → H A W n D E L (x.wpIn (FR ro) 0 P Q)) (hf : ¬ p → H A W n D E L (y.wpIn (FR ro) 0 P Q)) : H A W n D E L ((Code.cond c x y).wpIn (FR ro) 0 P Q) :=
 V0 hc (fun h => ht (of_decide_eq_true h)) (fun h => hf (of_decide_eq_false h))
theorem Yz {c : Operand} {x y : Code} {p : Prop} [Decidable p] (hc : ev E c = some (.bool (decide p))) (hp : p) (h : H A W n D E L (x.wpIn (FR ro) 0 P Q)) : H A W n D E L ((Code.cond c x y).wpIn (FR ro) 0 P Q) := QU hc (fun _ => h) (fun hn => (hn hp).elim)
theorem Ys {c : Operand} {x y : Code} {p : Prop} [Decidable p] (hc : ev E c = some (.bool (decide p))) (hp : ¬ p) (h : H A W n D E L (y.wpIn (FR ro) 0 P Q)) : H A W n D E L ((Code.cond c x y).wpIn (FR ro) 0 P Q) := QU hc (fun hn => (hp hn).elim) (fun _ => h)
theorem Qc {K : Act → World → Prop} (h : H A W n D E L K) : H A W n D E L (Exit.then K Q .normal) := h
theorem Qr {K : Act → World → Prop} (h : H A W n D E L (Q .ret)) : H A W n D E L (Exit.then K Q .ret) := h
theorem Qx {K : Act → World → Prop} {id : Nat} (h : H A W n D E L (Q (.exit id))) : H A W n D E L (Exit.then K Q (.exit id)) := h
theorem Q2 {id : Nat} (h : H A W n D E L (Q .normal)) : H A W n D E L (Exit.inBlock id Q .normal) := h
theorem Q3 {id : Nat} (h : H A W n D E L (Q .ret)) : H A W n D E L (Exit.inBlock id Q .ret) := h
theorem Q8 {id : Nat} (h : H A W n D E L (Q .normal)) : H A W n D E L (Exit.inBlock id Q (.exit id)) := fun a w k s => by
 show (if id = id then Q .normal a w else _)
 rw [if_pos rfl]
 exact h a w k s
theorem QlT {id id' : Nat} (e : ¬ id' = id) (h : H A W n D E L (Q (.exit id'))) : H A W n D E L (Exit.inBlock id Q (.exit id')) := fun a w k s => by
 show (if id' = id then _ else Q (.exit id') a w)
 rw [if_neg e]
 exact h a w k s
theorem h_L {L' : List Fa} (hL : ∀ w, Sx A W w L → Sx A W w L') (h : H A W n D E L' K) : H A W n D E L K := fun a w k s => h a w k (hL w s)
theorem h_E {E' : Env} (hE : agree E' E) (h : H A W n D E' L K) : H A W n D E L K := fun a w k s => h a w (k.agree hE) s
theorem Jq {φ : Prop} (hφ : ∀ w, Sx A W w L → φ) (h : φ → H A W n D E L K) : H A W n D E L K := fun a w k s => h (hφ w s) a w k s
theorem Q5 {id : Nat} {l : List Oper} (h : H A W n D E L (wpListIn (FR ro) 0 P l.toArray Q l)) : H A W n D E L ((Code.region id l.toArray false).wpIn (FR ro) 0 P Q) := fun a w k s => wpIn_region_lit (h a w k s)
theorem QE {ops : Array Oper} (h : H A W n D E L (Q .normal)) : H A W n D E L (wpListIn (FR ro) 0 P ops Q []) := h
def wn (ops : Array Oper) (E : Env) : Option (Nat × Bool) → Option Bool
 | none => some true
 | some (j, b) => match (ops[j]?).bind (·.dst) with
  | some t => match look E t with
   | some (.bool c) => some (c == b)
   | some (.tuple _) => some false
   | _ => none
  | none => none
theorem JE {a : Act} {ops : Array Oper} {g : Option (Nat × Bool)} {c : Bool} (k : Kn n D E a) (h : wn ops E g = some c) {d : Option Tmp} {op : Op} {ty : TypeId} {pos : String} {af : Array Edge} : Region.wanted ⟨d, op, ty, pos, af, g⟩ (yielded ops a.tmps) = c := by
 cases g with
 | none => injection h
 | some jb =>
  obtain ⟨j, b⟩ := jb
  unfold wn at h
  simp only at h
  split at h
  ·rename_i t ht
   split at h
   ·rename_i c' hc
    injection h with h
    have hv := k.val t _ hc
    simp only [Region.wanted, yielded, ht, Option.bind_some, hv]
    rw [← h]
    cases c' <;> cases b <;> rfl
   ·rename_i c' hc
    injection h with h
    have hv := k.val t _ hc
    simp only [Region.wanted, yielded, ht, Option.bind_some, hv]
    rw [← h]
    rfl
   cases h
  cases h
theorem Zo {ρ : Operand → Value} {o : Oper} {w w' : World} {x : Next} (hx : ∀ d, x ≠ .defer d) (h : (execOp ρ o).run P w = .ok x w') : (o.semAt ro ρ).run P w = .ok x w' := by
 cases ro with
 | none => exact h
 | some l =>
  rw [Oper.semAt_some l ρ o]
  ·exact h
  intro c hc
  unfold execOp at h
  simp only [hc, Sem.run_bind] at h
  cases hr : (resolve ρ c o.type).run P w with
  | ok d w1 => rw [hr] at h; injection h with h; exact hx d h.symm
  | halt e w1 => rw [hr] at h; cases h
theorem qu {o : Oper} {a : Act} {w w' : World} {v : Value} {K : Act → World → Prop} (h : (execOp a.eval o).run P w = .ok (.value v) w') (hK : K (a.put o.dst v) w') : o.wpIn (FR ro) 0 P a w K Q := by
 refine ⟨fun _ _ => trivial, ?_⟩
 rw [show (FR ro).round = ro from rfl, Zo (by simp) h]
 exact hK
theorem QaI {o : Oper} {a : Act} {w w' : World} {K : Act → World → Prop} (h : (execOp a.eval o).run P w = .ok .skip w') (hK : K (a.put o.dst undef) w') : o.wpIn (FR ro) 0 P a w K Q := by
 refine ⟨fun _ _ => trivial, ?_⟩
 rw [show (FR ro).round = ro from rfl, Zo (by simp) h]
 exact hK
theorem Zq {o : Oper} {a : Act} {w w' : World} {f : FuncId} {args : Array Value} {K : Act → World → Prop} {R : Ending → World → Prop} (h : (execOp a.eval o).run P w = .ok (.enter f args) w') (hc : Calls P f args w' R) (hK : ∀ e w'', R e w'' → ∃ v, e = .returned v ∧ K (a.put o.dst v) w'') : o.wpIn (FR ro) 0 P a w K Q := by
 refine ⟨fun _ _ => trivial, ?_⟩
 rw [show (FR ro).round = ro from rfl, Zo (by simp) h]
 refine ⟨(fun hd => by cases hd), (Qal hc).mono fun e w'' hR => ?_⟩
 obtain ⟨v, rfl, h2⟩ := hK e w'' hR
 exact h2
def QM (P : Program) (n : Nat) (D : List Deferred) (E : Env) (L : List Fa) (op : Op) (v : Value) : Prop := ∀ a w, Kn n D E a → Fx w L → ∀ o : Oper, o.op = op → (execOp a.eval o).run P w = .ok (.value v) w
def JO (P : Program) (A : List Fa) (W : World) (n : Nat) (D : List Deferred) (E : Env) (L : List Fa) (op : Op) {τ : Type} (v : τ → Value) (L' : τ → List Fa) : Prop :=
 ∀ a w, Kn n D E a → Sx A W w L → ∀ o : Oper, o.op = op → ∃ x w', (execOp a.eval o).run P w = .ok (.value (v x)) w' ∧ Sx A W w' (L' x)
def Vj (P : Program) (A : List Fa) (W : World) (n : Nat) (D : List Deferred) (E : Env) (L : List Fa) (op : Op) (L' : List Fa) : Prop :=
 ∀ a w, Kn n D E a → Sx A W w L → ∀ o : Oper, o.op = op → ∃ w', (execOp a.eval o).run P w = .ok .skip w' ∧ Sx A W w' L'
variable {ops : Array Oper} {rest : List Oper} {op : Op} {d : Nat} {ty : TypeId} {pos : String} {af : Array Edge} {g : Option (Nat × Bool)}
theorem Qb {v : Value} (hr : QM P n D E L op v) (k : H A W n D ((d, v) :: E) L (wpListIn (FR ro) 0 P ops Q rest)) (hd : Nat.blt d n = true := by exact rfl) (hg : wn ops E g = some true := by exact rfl) : H A W n D E L (wpListIn (FR ro) 0 P ops Q (⟨some d, op, ty, pos, af, g⟩ :: rest)) := fun a w ka s => by
 unfold wpListIn
 rw [JE ka hg, if_pos rfl]
 exact qu (hr a w ka s.toFx _ rfl) (k _ _ (ka.put hd v) s)
theorem Vx {o : Oper} {a : Act} {w : World} : ∀ f, o.about P w a.eval = some f → (FR ro).fn f := fun _ _ => trivial
theorem Qg (k : H A W n D ((d, undef) :: E) L (wpListIn (FR ro) 0 P ops Q rest)) (hd : Nat.blt d n = true := by exact rfl) (hg : wn ops E g = some false := by exact rfl) : H A W n D E L (wpListIn (FR ro) 0 P ops Q (⟨some d, op, ty, pos, af, g⟩ :: rest)) := fun a w ka s => by
 unfold wpListIn
 rw [JE ka hg]
 exact ⟨Vx, k _ _ (ka.put hd undef) s⟩
theorem Qo {τ : Type} {v : τ → Value} {L' : τ → List Fa} (hr : JO P A W n D E L op v L') (k : ∀ x, H A W n D ((d, v x) :: E) (L' x) (wpListIn (FR ro) 0 P ops Q rest)) (hd : Nat.blt d n = true := by exact rfl) (hg : wn ops E g = some true := by exact rfl) : H A W n D E L (wpListIn (FR ro) 0 P ops Q (⟨some d, op, ty, pos, af, g⟩ :: rest)) := fun a w ka s => by
 unfold wpListIn
 rw [JE ka hg, if_pos rfl]
 obtain ⟨x, w', h1, h2⟩ := hr a w ka s ⟨some d, op, ty, pos, af, g⟩ rfl
 exact qu h1 (k x _ _ (ka.put hd _) h2)
theorem QpP {τ : Type} {v : τ → Value} {L' : τ → List Fa} (hr : JO P A W n D E L op v L') (k : ∀ x, H A W n D E (L' x) (wpListIn (FR ro) 0 P ops Q rest)) (hg : wn ops E g = some true := by exact rfl) : H A W n D E L (wpListIn (FR ro) 0 P ops Q (⟨none, op, ty, pos, af, g⟩ :: rest)) := fun a w ka s => by
 unfold wpListIn
 rw [JE ka hg, if_pos rfl]
 obtain ⟨x, w', h1, h2⟩ := hr a w ka s ⟨none, op, ty, pos, af, g⟩ rfl
 exact qu h1 (k x _ _ (ka.putNone _) h2)
theorem Q7 {L' : List Fa} (hr : Vj P A W n D E L op L') (k : H A W n D E L' (wpListIn (FR ro) 0 P ops Q rest)) (hg : wn ops E g = some true := by exact rfl) : H A W n D E L (wpListIn (FR ro) 0 P ops Q (⟨none, op, ty, pos, af, g⟩ :: rest)) := fun a w ka s => by
 unfold wpListIn
 rw [JE ka hg, if_pos rfl]
 obtain ⟨w', h1, h2⟩ := hr a w ka s ⟨none, op, ty, pos, af, g⟩ rfl
 exact QaI h1 (k _ _ (ka.putNone _) h2)
class Ent (P : Program) (f : FuncId) : Prop where
 ok : ∀ args w, (callFunc f args).run P w = .ok (.enter f args) w
class App (N M : List Fa) (L' : outParam (List Fa)) : Prop where
 eq : N ++ M = L'
instance (M : List Fa) : App [] M M := ⟨rfl⟩
instance (f : Fa) (N M L' : List Fa) [h : App N M L'] : App (f :: N) M (f :: L') := ⟨by rw [List.cons_append, h.eq]⟩
theorem QeC {a : Act} {w : World} {o : Oper} {x : Operand} {l : List Operand} {ts : Array TypeId} {f : FuncId} {fi cap argv : List Value} [he : Ent P f] (ka : Kn n D E a) (ho : o.op = .call ⟨.value x, l.toArray, ts⟩) (hx : ev E x = some (.func (.func f) fi.toArray cap.toArray)) (ha : evs E l = some argv) :
  (execOp a.eval o).run P w = .ok (.enter f (fi ++ (argv ++ cap)).toArray) w := by
 unfold execOp
 simp only [ho, resolve, ka.ev hx, Deferred.ofValue, Sem.run_bind, Sem.run_pure, Result.andThen_ok, invoke]
 rw [List.map_toArray, ka.evs ha, show (fi.toArray ++ argv.toArray ++ cap.toArray : Array Value) = (fi ++ (argv ++ cap)).toArray by simp]
 exact he.ok _ _
def JN (P : Program) (A : List Fa) (W : World) (L : List Fa) (f : FuncId) (args : Array Value) {τ : Type} (v : τ → Value) (L' : τ → List Fa) : Prop := ∀ w, Sx A W w L → Calls P f args w fun e w' => ∃ x, e = .returned (v x) ∧ Sx A W w' (L' x)
theorem QC.comes {f : FuncId} {args : Array Value} {R A' M : List Fa} {τ : Type} {v : τ → Value} {N L' : τ → List Fa} (hs : QC P f args R A' v N) [ht : Take A' L M] [hr : Rds M R] [hN : ∀ x, App (N x) M (L' x)] : JN P A W L f args v L' := fun w s => by
 have s2 := s.perm ht.perm
 refine (hs w (s2.toFx.sub (List.sublist_append_left _ _)) (s.reads ht.perm hr)).mono ?_
 rintro e w' ⟨x, rfl, hx⟩
 exact ⟨x, rfl, ((hN x).eq) ▸ s2.ret hx⟩
theorem Qh {x : Operand} {l : List Operand} {ts : Array TypeId} {f : FuncId} {fi cap argv args : List Value} [Ent P f] {τ : Type} {v : τ → Value} {L' : τ → List Fa} (hc : JN P A W L f args.toArray v L') (hx : ev E x = some (.func (.func f) fi.toArray cap.toArray)) (ha : evs E l = some argv) (he : fi ++ (argv ++ cap) = args)
  (k : ∀ x, H A W n D ((d, v x) :: E) (L' x) (wpListIn (FR ro) 0 P ops Q rest)) (hd : Nat.blt d n = true := by exact rfl) (hg : wn ops E g = some true := by exact rfl) : H A W n D E L (wpListIn (FR ro) 0 P ops Q (⟨some d, .call ⟨.value x, l.toArray, ts⟩, ty, pos, af, g⟩ :: rest)) := fun a w ka s => by
 unfold wpListIn
 rw [JE ka hg, if_pos rfl]
 refine Zq (QeC ka rfl hx ha) (he ▸ hc w s) ?_
 rintro e w' ⟨y, rfl, hy⟩
 exact ⟨_, rfl, k y _ _ (ka.put hd _) hy⟩
theorem Qhp {σ : Type} {F : Fence} {m : Nat} {c : Code} (I : σ → Act → World → Prop) (μ : σ → Nat) (round : ∀ s a w, I s a w → c.wpIn F m P (Exit.then (fun a' w' => ∃ s', I s' a' w' ∧ μ s' < μ s) Q) a w) : ∀ (j : Nat) (s : σ), μ s ≤ j → ∀ a w, I s a w → (Code.loop c).wpIn F m P Q a w := by
 have key : ∀ (j : Nat) (s : σ), μ s ≤ j → ∀ a w, I s a w → ∀ b k cs, b.roundOf = F.round → F.fn b.fn → F.room (cs.length + 1 + m) → ∃ e a' w', Q e a' w' ∧ ArrivesIn (Machine.fenced P F) P (lone (b.atR a (.code c :: .inLoop c :: k)) cs w) b k cs e a' w' := by
  intro j
  induction j with
  | zero =>
   intro s hs a w hI b k cs hro hb hr
   obtain ⟨e, a₁, w₁, hq, harr⟩ := round s a w hI b (.inLoop c :: k) cs hro hb hr
   cases e with
   | normal => obtain ⟨s', _, h2⟩ := hq; omega
   | exit id => exact ⟨_, a₁, w₁, hq, .pass (x := .inLoop c) rfl (fun _ _ => .inl (by simp)) harr⟩
   | goto l => exact ⟨_, a₁, w₁, hq, .pass (x := .inLoop c) rfl (fun _ _ => .inl (by simp)) harr⟩
   | ret => exact ⟨_, a₁, w₁, hq, .pass (x := .inLoop c) rfl (fun _ _ => .inl (by simp)) harr⟩
   | panic ch => exact ⟨_, a₁, w₁, hq, .pass (x := .inLoop c) rfl (fun _ _ => .inl (by simp)) harr⟩
   | outgrown => exact ⟨_, a₁, w₁, hq, .pass (x := .inLoop c) rfl (fun _ _ => .inl (by simp)) harr⟩
  | succ j ih =>
   intro s hs a w hI b k cs hro hb hr
   obtain ⟨e, a₁, w₁, hq, harr⟩ := round s a w hI b (.inLoop c :: k) cs hro hb hr
   cases e with
   | normal =>
    obtain ⟨s', hI₁, hlt⟩ := hq
    obtain ⟨e₂, a₂, w₂, hq₂, harr₂⟩ := ih s' (by omega) a₁ w₁ hI₁ b k cs hro hb hr
    exact ⟨e₂, a₂, w₂, hq₂, .of_steps (StepsIn.trans harr (.one (fenced_calm hb hr rfl) stepR_inLoop)) harr₂⟩
   | exit id => exact ⟨_, a₁, w₁, hq, .pass (x := .inLoop c) rfl (fun _ _ => .inl (by simp)) harr⟩
   | goto l => exact ⟨_, a₁, w₁, hq, .pass (x := .inLoop c) rfl (fun _ _ => .inl (by simp)) harr⟩
   | ret => exact ⟨_, a₁, w₁, hq, .pass (x := .inLoop c) rfl (fun _ _ => .inl (by simp)) harr⟩
   | panic ch => exact ⟨_, a₁, w₁, hq, .pass (x := .inLoop c) rfl (fun _ _ => .inl (by simp)) harr⟩
   | outgrown => exact ⟨_, a₁, w₁, hq, .pass (x := .inLoop c) rfl (fun _ _ => .inl (by simp)) harr⟩
 intro j s hs a w hI b k cs hro hb hr
 obtain ⟨e, a', w', hq, harr⟩ := key j s hs a w hI b k cs hro hb hr
 exact ⟨e, a', w', hq, .of_steps (.one (fenced_calm hb hr rfl) stepR_loop) harr⟩
def QqH (A : List Fa) (W : World) (n : Nat) (D : List Deferred) {σ : Type} (p : σ → Prop) (Es : σ → Env) (Ls : σ → List Fa) (μ : σ → Nat) (s : σ) (a : Act) (w : World) : Prop := ∃ s', (p s' ∧ Kn n D (Es s') a ∧ Sx A W w (Ls s')) ∧ μ s' < μ s
theorem QS {σ : Type} {c : Code} (p : σ → Prop) (Es : σ → Env) (Ls : σ → List Fa) (μ : σ → Nat) (s : σ) (h0 : p s) (hE : agree (Es s) E) (hL : ∀ w, Sx A W w L → Sx A W w (Ls s))
  (round : ∀ s, p s → H A W n D (Es s) (Ls s) (c.wpIn (FR ro) 0 P (Exit.then (QqH A W n D p Es Ls μ s) Q))) : H A W n D E L ((Code.loop c).wpIn (FR ro) 0 P Q) := fun a w ka sa =>
 Qhp (fun s a w => p s ∧ Kn n D (Es s) a ∧ Sx A W w (Ls s)) μ (fun s a w ⟨h1, h2, h3⟩ => round s h1 a w h2 h3) (μ s) s (Nat.le_refl _) a w ⟨h0, ka.agree hE, hL w sa⟩
theorem QH {σ : Type} {p : σ → Prop} {Es : σ → Env} {Ls : σ → List Fa} {μ : σ → Nat} {s : σ} (s' : σ) (hp : p s') (hm : μ s' < μ s) (hE : agree (Es s') E) (hL : ∀ w, Sx A W w L → Sx A W w (Ls s')) : H A W n D E L (Exit.then (QqH A W n D p Es Ls μ s) Q .normal) := fun _ w ka sa =>
 ⟨s', ⟨hp, ka.agree hE, hL w sa⟩, hm⟩
theorem same {L' : List Fa} {M : List Fa} [ht : Take L' L M] : ∀ w, Sx A W w L → Sx A W w L' := fun _ s => (s.perm ht.perm).sub (List.sublist_append_left _ _)
def VR (P : Program) (E : Env) (L : List Fa) : ResultVar → Value → Prop
 | .tmp t, v => look E t = some v
 | .cell p T, v => ∃ g off, look E p = some (.pointer (some ⟨g, off, none⟩)) ∧ ∀ w, Fx w L → (loadVar T ⟨g, off, none⟩).run P w = .ok v w
theorem QZ {p : Tmp} {T m g off o : Nat} {cs out : List Value} (hp : look E p = some (.pointer (some ⟨g, off, none⟩))) [hT : TRow P T m] [hc : Cells g off L o cs] [hr : RowAt cs o m out] : VR P E L (.cell p T) (.agg out.toArray) := ⟨g, off, hp, fun w hw => by
 obtain ⟨d, hu, hd⟩ := hT.und
 exact run_loadVar_mid w g off T out d (fun j v hv => hc.cell hw j v (hr.at_ j v hv)) hu hd (by rw [hr.len]; exact hT.size)⟩
theorem J5 {p : Tmp} {T g off o : Nat} {cs : List Value} {v : Value} (hp : look E p = some (.pointer (some ⟨g, off, none⟩))) [hT : TOne P T] [hc : Cells g off L o cs] [hr : CellAt cs o v] : VR P E L (.cell p T) v := ⟨g, off, hp, fun w hw => by
 obtain ⟨d, hu, hd⟩ := hT.und
 have hagg : (isAgg T).run P w = .ok false w := by
  unfold isAgg
  rw [Sem.run_bind, run_underlying hu w]
  cases d <;> simp_all
 have hc' : w.cell? ⟨g, off, none⟩ = some v := by have := hc.cell hw 0 v (by simpa using hr.at_); simpa using this
 simp only [loadVar, Sem.run_bind, hagg, Result.andThen_ok]
 simp [load, Sem.run, hc']⟩
theorem Yx {a : Act} {t : Tmp} {v : Value} (ka : Kn n D E a) (h : VR P E L (.tmp t) v) : a.tmps.getD t undef = v := ka.ev (x := .tmp t) h
theorem JU {a : Act} {w : World} {p : Tmp} {T : TypeId} {v : Value} (ka : Kn n D E a) (hw : Fx w L) (h : VR P E L (.cell p T) v) : ∃ b, a.tmps.getD p undef = .pointer (some b) ∧ (loadVar T b).run P w = .ok v w := by
 obtain ⟨g, off, h1, h2⟩ := h
 exact ⟨_, ka.ev (x := .tmp p) h1, h2 w hw⟩
theorem Qga {fn : Func} {a : Act} {w : World} {r : ResultVar} {v : Value} (ka : Kn n D E a) (hw : Fx w L) (hf : fn.results = #[r]) (h : VR P E L r v) : (results fn a.tmps).run P w = .ok v w := by
 cases r with
 | tmp t => have := Yx ka h; rw [Array.getD_eq_getD_getElem?] at this; simp [results, hf, this]
 | cell p T => obtain ⟨b, h1, h2⟩ := JU ka hw h; rw [Array.getD_eq_getD_getElem?] at h1; simp [results, hf, h1, asAddr, h2]
theorem Qmi {fn : Func} {a : Act} {w : World} {r s : ResultVar} {v u : Value} (ka : Kn n D E a) (hw : Fx w L) (hf : fn.results = #[r, s]) (h : VR P E L r v) (h' : VR P E L s u) : (results fn a.tmps).run P w = .ok (.tuple #[v, u]) w := by
 cases r with
 | tmp t =>
  have h1 := Yx ka h; rw [Array.getD_eq_getD_getElem?] at h1
  cases s with
  | tmp t => have h3 := Yx ka h'; rw [Array.getD_eq_getD_getElem?] at h3; simp [results, hf, h1, h3]
  | cell p T => obtain ⟨b, h3, h4⟩ := JU ka hw h'; rw [Array.getD_eq_getD_getElem?] at h3; simp [results, hf, h1, h3, asAddr, h4]
 | cell p T =>
  obtain ⟨b, h1, h2⟩ := JU ka hw h; rw [Array.getD_eq_getD_getElem?] at h1
  cases s with
  | tmp t => have h3 := Yx ka h'; rw [Array.getD_eq_getD_getElem?] at h3; simp [results, hf, h1, asAddr, h2, h3]
  | cell p T => obtain ⟨b, h3, h4⟩ := JU ka hw h'; rw [Array.getD_eq_getD_getElem?] at h3; simp [results, hf, h1, asAddr, h2, h3, h4]
variable {fn : Func} {R : Ending → World → Prop} {F : Fence} {m : Nat}
theorem Vg (hf : fn.results = #[]) (hR : ∀ w, Sx A W w L → R (.returned (.tuple #[])) w) : H A W n [] E L (bodyPostM F m P fn R .ret) := fun a w ka s => by
 show LeavesInM F m P fn a.tmps R a.defers .returning w
 rw [ka.defers]
 exact ⟨_, results_none hf _ _ _, hR w s⟩
theorem Qu {r : ResultVar} {v : Value} (hf : fn.results = #[r]) (h : VR P E L r v) (hR : ∀ w, Sx A W w L → R (.returned v) w) : H A W n [] E L (bodyPostM F m P fn R .ret) := fun a w ka s => by
 show LeavesInM F m P fn a.tmps R a.defers .returning w
 rw [ka.defers]
 exact ⟨v, Qga ka s.toFx hf h, hR w s⟩
theorem QO {r r' : ResultVar} {v u : Value} (hf : fn.results = #[r, r']) (h : VR P E L r v) (h' : VR P E L r' u) (hR : ∀ w, Sx A W w L → R (.returned (.tuple #[v, u])) w) : H A W n [] E L (bodyPostM F m P fn R .ret) := fun a w ka s => by
 show LeavesInM F m P fn a.tmps R a.defers .returning w
 rw [ka.defers]
 exact ⟨_, Qmi ka s.toFx hf h h', hR w s⟩
theorem ZJ (h : H A W n D E L (bodyPostM F m P fn R .ret)) : H A W n D E L (bodyPostM F m P fn R .normal) := h
theorem Vf {r : Nat} {as : Array Value} {M : List Fa} [ht : Take1 (.obj r (.deferred (some []))) L M] (h : H A W n D E M (bodyPostM F m P fn R .ret)) : H A W n ({ target := .collected r, args := as } :: D) E L (bodyPostM F m P fn R .ret) := fun a w ka s => by
 show LeavesInM F m P fn a.tmps R a.defers .returning w
 rw [ka.defers]
 have s2 := s.perm ht.perm
 have ho : w.heap[r]? = some (.deferred (some [])) := s2.ok (.obj _ _) (List.mem_cons_self ..)
 have hlt := (Array.getElem?_eq_some_iff.1 ho).1
 have s3 : Sx A W (w.putObj r (.deferred none)) (.obj r (.deferred none) :: M) := s2.turn rfl (fun k hk => .inl hk) (World.putObj_heap_same hlt) rfl rfl rfl (by simp [World.putObj]) (fun k _ hk => World.putObj_heap_other hk)
 exact ⟨by simp, .inl ⟨r, _, rfl, run_takeDeferred ho, h { a with defers := D } _ ⟨ka.size, rfl, ka.val⟩ s3.tail⟩⟩
end
def Y7 : Nat → List Value → Env
 | _, [] => []
 | k, v :: l => (k, v) :: Y7 (k + 1) l
theorem JZ : ∀ (l : List Value) (k t : Nat) (v : Value), look (Y7 k l) t = some v → k ≤ t ∧ l[t - k]? = some v
 | [], _, _, _, h => by cases h
 | u :: l, k, t, v, h => by
  unfold Y7 look at h
  cases hb : Nat.beq k t with
  | true =>
   have e := Nat.eq_of_beq_eq_true hb
   rw [hb] at h
   injection h with h
   subst e
   subst h
   exact ⟨Nat.le_refl _, by simp⟩
  | false =>
   rw [hb] at h
   obtain ⟨h1, h2⟩ := JZ l (k + 1) t v h
   exact ⟨by omega, by rw [show t - k = t - (k + 1) + 1 by omega]; simpa using h2⟩
theorem Qk {P : Program} {f n : Nat} {fn : Func} {c : Code} {args : List Value} {R A L : List Fa} {τ : Type} {v : τ → Value} {N : τ → List Fa} (hf : P.funcs[f]? = some fn) (hb : fn.body = some c) (hn : fn.ntmps = n) (hl : Nat.ble args.length n = true) [hL : App A R L]
  (h : ∀ W, H A W n [] (Y7 0 args) L (c.wpIn (FR none) 0 P (bodyPostM (FR none) 0 P fn fun e w' => ∃ x, e = .returned (v x) ∧ Rx A W w' (N x)))) : QC P f args.toArray R A v N := fun w hA hR => by
 have hl' : args.length ≤ n := by simpa using hl
 refine (callsIn_wide (n := 0)).1 (callsIn_of_wp_marks hf hb trivial (h w _ w ⟨?_, rfl, fun t u ht => ?_⟩ (hL.eq ▸ Sx.start hA hR)))
 ·simp only [hn, Array.size_append, List.size_toArray, Array.size_replicate]
  omega
 obtain ⟨_, h2⟩ := JZ args 0 t u ht
 have hlt : t < args.length := by
  obtain ⟨h3, _⟩ := List.getElem?_eq_some_iff.1 h2
  simpa using h3
 rw [Array.getElem?_append_left (by simpa using hlt)]
 simpa using h2
end
section
open Go.RowKit
class NatOf (i : Int) (k : outParam Nat) : Prop where
 eq : i = k
instance (k : Nat) : NatOf (k : Int) k := ⟨rfl⟩
instance : NatOf 0 0 := ⟨rfl⟩
instance : NatOf 1 1 := ⟨rfl⟩
instance : NatOf 2 2 := ⟨rfl⟩
instance : NatOf 3 3 := ⟨rfl⟩
instance : NatOf 4 4 := ⟨rfl⟩
instance : NatOf 5 5 := ⟨rfl⟩
instance : NatOf 6 6 := ⟨rfl⟩
instance : NatOf 7 7 := ⟨rfl⟩
instance : NatOf 8 8 := ⟨rfl⟩
instance : NatOf 9 9 := ⟨rfl⟩
instance : NatOf 10 10 := ⟨rfl⟩
instance : NatOf 14 14 := ⟨rfl⟩
instance : NatOf 15 15 := ⟨rfl⟩
instance : NatOf 16 16 := ⟨rfl⟩
instance : NatOf 24 24 := ⟨rfl⟩
instance : NatOf 31 31 := ⟨rfl⟩
instance : NatOf 32 32 := ⟨rfl⟩
instance : NatOf 64 64 := ⟨rfl⟩
instance (a b : Int) (j k : Nat) [h : NatOf a j] [h' : NatOf b k] : NatOf (a + b) (j + k) := ⟨by rw [h.eq, h'.eq]; rfl⟩
instance (a b : Int) (j k : Nat) [h : NatOf a j] [h' : NatOf b k] : NatOf (a * b) (j * k) := ⟨by rw [h.eq, h'.eq]; rfl⟩
instance (a b : Int) (j k : Nat) [h : NatOf a j] [h' : NatOf b k] : NatOf (a / b) (j / k) := ⟨by rw [h.eq, h'.eq]; rfl⟩
instance (a b : Int) (j k : Nat) [h : NatOf a j] [h' : NatOf b k] : NatOf (a % b) (j % k) := ⟨by rw [h.eq, h'.eq]; rfl⟩
class UK (k : IntKind) (m : outParam Nat) : Prop where
 bits : k.bits = m
 sg : k.signed = false
instance : UK .u8 8 := ⟨rfl, rfl⟩
instance : UK .u32 32 := ⟨rfl, rfl⟩
instance : UK .u64 64 := ⟨rfl, rfl⟩
theorem UK.wrap {k : IntKind} {m : Nat} (h : UK k m) (n : Int) : k.wrap n = n % (2 ^ m : Int) := by
 unfold IntKind.wrap
 rw [h.sg, h.bits]
 simp
class Wd (m : Nat) (i : Int) (a : outParam (BitVec m)) : Prop where
 eq : i = (a.toNat : Int)
instance (m : Nat) (a : BitVec m) : Wd m ((a.toNat : Nat) : Int) a := ⟨rfl⟩
instance (b : UInt8) : Wd 8 ((b.toNat : Nat) : Int) b.toBitVec := ⟨rfl⟩
instance (m : Nat) : Wd m 0 0 := ⟨by simp⟩
instance : Wd 8 1 1 := ⟨rfl⟩
instance : Wd 8 128 128 := ⟨rfl⟩
instance : Wd 8 255 255 := ⟨rfl⟩
instance : Wd 64 31 31 := ⟨rfl⟩
instance : Wd 64 8 8 := ⟨rfl⟩
section
variable {P : Program} {n : Nat} {D : List Deferred} {E : Env} {L : List Fa} {T T' : TypeId} {x y : Operand}
theorem Qi {v : Value} (hx : ev E x = some v) : QM P n D E L (.move x) v := fun _ _ ka _ _ ho => QnA ho (ka.ev hx)
theorem Q6 {v : Value} (hx : ev E x = some v) : QM P n D E L (.assign x) v := fun _ _ ka _ _ ho => QiQ ho (ka.ev hx)
theorem Qy {c : Operand} {b : Bool} {v : Value} (hc : ev E c = some (.bool b)) (hv : ev E (if b = true then x else y) = some v) : QM P n D E L (.pick c x y) v := fun a w ka _ o ho => by
 have h := ka.ev hv
 refine QnC ho (ka.ev hc) ?_
 rw [← h]
 cases b <;> rfl
theorem Qf {b O off : Nat} {cs : List Value} {v : Value} [hT : TOne P T] (hx : ev E x = some (.pointer (some ⟨b, O, none⟩))) [hm : Cells b O L off cs] [hr : CellAt cs off v] : QM P n D E L (.load T x) v := fun a w ka s o ho => by
 obtain ⟨d, hu, hd⟩ := hT.und
 exact Qat ho (ka.ev hx) (by have := hm.cell s 0 v (by simpa using hr.at_); simpa using this) hu hd
theorem Qm {b O off m : Nat} {cs out : List Value} [hT : TRow P T m] (hx : ev E x = some (.pointer (some ⟨b, O, none⟩))) [hm : Cells b O L off cs] [hr : RowAt cs off m out] : QM P n D E L (.load T x) (.agg out.toArray) := fun a w ka s o ho => by
 obtain ⟨d, hu, hd⟩ := hT.und
 exact Qbt ho (ka.ev hx) (cs := out) (fun j v hv => hm.cell s j v (hr.at_ j v hv)) hu hd (by rw [hr.len]; exact hT.size)
theorem QX {b O off : Nat} {cs : List Value} {v : Value} [hT : TOne P T] (hx : ev E x = some (.pointer (some ⟨b, O, none⟩))) [hm : Cells b O L off cs] (hc : cs[off]? = some v) : QM P n D E L (.load T x) v := fun a w ka s o ho => by
 obtain ⟨d, hu, hd⟩ := hT.und
 exact Qat ho (ka.ev hx) (by have := hm.cell s 0 v (by simpa using hc); simpa using this) hu hd
theorem Jm {b O off m : Nat} {cs out : List Value} [hT : TRow P T m] (hx : ev E x = some (.pointer (some ⟨b, O, none⟩))) [hm : Cells b O L off cs] (hl : out.length = m) (hc : ∀ j v, out[j]? = some v → cs[off + j]? = some v) : QM P n D E L (.load T x) (.agg out.toArray) := fun a w ka s o ho => by
 obtain ⟨d, hu, hd⟩ := hT.und
 exact Qbt ho (ka.ev hx) (cs := out) (fun j v hv => hm.cell s j v (hc j v hv)) hu hd (by rw [hl]; exact hT.size)
theorem Qe {i off b O : Nat} [h : TFA P T i off] (hx : ev E x = some (.pointer (some ⟨b, O, none⟩))) {O' : Nat} (hO : O + off = O' := by first | (simp only [Nat.zero_add, Nat.add_zero, Nat.reduceAdd]; exact rfl) | exact rfl) : QM P n D E L (.fieldAddr T x i) (.pointer (some ⟨b, O', none⟩)) := fun a w ka s o ho => by
 subst hO
 exact QqC ho (ka.ev hx)
theorem QQ {e size bytes : Nat} {z : Value} [E' : TS P T e size bytes z] {b off c m N : Nat} {I : Int} {k : IntKind} (hx : ev E x = some (.slice (some ⟨b, off, none⟩) N c)) (hi : ev E y = some (.int k I)) [hn : NatOf I m] (hm : m < N := by omega)
  {O' : Nat} (hO : off + m * size = O' := by first | (simp only [Nat.zero_add, Nat.add_zero, Nat.mul_one, Nat.reduceMul, Nat.reduceAdd]; exact rfl) | exact rfl) : QM P n D E L (.indexAddr T x y) (.pointer (some ⟨b, O', none⟩)) := fun a w ka s o ho => by
 have := hn.eq
 have h2 : I.toNat = m := by omega
 subst hO
 rw [← h2]
 exact QoR ho (ka.ev hx) (ka.ev hi) ⟨by omega, by omega⟩
theorem QP {len e size : Nat} [hT : TArr P T len e size] {b off m : Nat} {I : Int} {k : IntKind} (hx : ev E x = some (.pointer (some ⟨b, off, none⟩))) (hi : ev E y = some (.int k I)) [hn : NatOf I m] (hm : m < len := by first | decide | omega)
  {O' : Nat} (hO : off + m * size = O' := by first | (simp only [Nat.zero_add, Nat.add_zero, Nat.mul_one, Nat.reduceMul, Nat.reduceAdd]; exact rfl) | exact rfl) : QM P n D E L (.indexAddr T x y) (.pointer (some ⟨b, O', none⟩)) := fun a w ka s o ho => by
 have e1 := hn.eq
 have h2 : I.toNat = m := by omega
 subst hO
 obtain ⟨j, hj, hjs⟩ := Option.map_eq_some_iff.1 hT.size
 have hadd : (⟨b, off, none⟩ : Addr).add (m * size) = ⟨b, off + m * size, none⟩ := Addr.add_mid ..
 unfold execOp
 simp only [ho, ka.ev hx, ka.ev hi, Instr.indexAt, asIntOf, Sem.run_bind, Sem.run_pure, Result.andThen_ok, run_underlying hT.und, Instr.sureAddr, if_pos (show 0 ≤ I ∧ I < (len : Int) from ⟨by omega, by omega⟩), sizeOf, typeInfo, h2]
 simp [hj, hjs, hadd]
theorem QfT {len e size m : Nat} [hT : TArr P T len e size] [hr : TRow P e size] {cs out : List Value} {k : IntKind} {I : Int} {off : Nat} (hx : ev E x = some (.agg cs.toArray)) (hi : ev E y = some (.int k I)) [hn : NatOf I m] (hO : m * size = off) (hm : m < len := by omega) [h : RowAt cs off size out] : QM P n D E L (.index T x y) (.agg out.toArray) := fun a w ka s o ho => by
 have e1 := hn.eq
 exact Qry (off := off) ho (ka.ev hx) (ka.ev hi) ⟨by omega, by omega⟩ (by rw [← hO, show I.toNat = m by omega])
theorem Qc8 {len e m : Nat} [hT : TArr P T len e 1] [hr : TOne P e] {cs : List Value} {v : Value} {k : IntKind} {I : Int} (hx : ev E x = some (.agg cs.toArray)) (hi : ev E y = some (.int k I)) [hn : NatOf I m] (hc : cs[m]? = some v) (hm : m < len := by omega) : QM P n D E L (.index T x y) v := fun a w ka s o ho => by
 have e1 := hn.eq
 obtain ⟨d, hu, hd⟩ := hr.und
 have h2 : I.toNat = m := by omega
 have hp : (part e cs.toArray (I.toNat * 1)).run P w = .ok v w := by
  have hagg : (isAgg e).run P w = .ok false w := by
   unfold isAgg
   rw [Sem.run_bind, run_underlying hu w]
   cases d <;> simp_all
  unfold part
  rw [Sem.run_bind, hagg]
  simp [h2, hc]
 unfold execOp
 simp only [ho, ka.ev hx, ka.ev hi, Sem.run_bind, Qig (T := T) (by omega) (by omega) hp, Result.andThen_ok]
 rfl
theorem QF {e size bytes : Nat} {z : Value} [E' : TS P T e size bytes z] {A : Option Addr} {N c : Nat} (hx : ev E x = some (.slice A N c)) : QM P n D E L (.call { callee := .builtin .len, args := #[x], argTypes := #[T] }) (.int .i64 N) := fun _ _ ka _ _ ho => QrN ho (ka.ev hx)
theorem QI {i j : Int} (hx : ev E x = some (.int .i64 i)) (hy : ev E y = some (.int .i64 j)) (h : -9223372036854775808 ≤ i + j ∧ i + j ≤ 9223372036854775807 := by omega) : QM P n D E L (.binOp .add T x y T') (.int .i64 (i + j)) := fun _ _ ka _ _ ho => QrH ho (ka.ev hx) (ka.ev hy) h
theorem YQ {i j : Int} (hx : ev E x = some (.int .i64 i)) (hy : ev E y = some (.int .i64 j)) (h : -9223372036854775808 ≤ i - j ∧ i - j ≤ 9223372036854775807 := by omega) : QM P n D E L (.binOp .sub T x y T') (.int .i64 (i - j)) := fun _ _ ka _ _ ho => Qr0 ho (ka.ev hx) (ka.ev hy) h
theorem YR {j k m : Nat} {a b : Int} (hx : ev E x = some (.int .i64 a)) (hy : ev E y = some (.int .i64 b)) [ha : NatOf a j] [hb : NatOf b k] (h : k ≤ j := by omega) (hj : j ≤ 9223372036854775807 := by omega) (hm : j - k = m := by first | (simp only [Nat.reduceSub, Nat.add_sub_cancel]; exact rfl) | exact rfl) : QM P n D E L (.binOp .sub T x y T') (.int .i64 (m : Int)) := fun _ _ ka _ _ ho => by
 have e1 := ha.eq
 have e2 := hb.eq
 have e3 : a - b = (m : Int) := by omega
 rw [← e3]
 exact Qr0 ho (ka.ev hx) (ka.ev hy) (by omega)
theorem qR {i j : Int} (hx : ev E x = some (.int .i64 i)) (hy : ev E y = some (.int .i64 j)) (h : -9223372036854775808 ≤ i * j ∧ i * j ≤ 9223372036854775807 := by omega) : QM P n D E L (.binOp .mul T x y T') (.int .i64 (i * j)) := fun _ _ ka _ _ ho => QrQ ho (ka.ev hx) (ka.ev hy) h
theorem J7 {op : BinOp} {u v : Value} {r : Value} {o : Oper} {a : Act} {w : World} (ho : o.op = .binOp op T x y T') (hx : a.eval x = u) (hy : a.eval y = v) (hg : (eqGuard op T x y u v).run P w = .ok () w) (hb : (binOp op T u v).run P w = .ok r w) : (execOp a.eval o).run P w = .ok (.value r) w := by
 unfold execOp
 simp only [ho, hx, hy, Sem.run_bind, hg, Result.andThen_ok, hb]
 rfl
theorem Zk {i j : Int} (hx : ev E x = some (.int .i64 i)) (hy : ev E y = some (.int .i64 j)) (h : 0 ≤ i ∧ i ≤ 9223372036854775807 ∧ 1 ≤ j := by omega) : QM P n D E L (.binOp .quo T x y T') (.int .i64 (i / j)) := fun a w ka s o ho => by
 refine J7 ho (ka.ev hx) (ka.ev hy) rfl ?_
 rw [← IntWalk.i64_quo i j h]
 unfold binOp
 simp [Op.intDiv, show ¬ j = 0 by omega]
theorem VL {i j : Int} (hx : ev E x = some (.int .i64 i)) (hy : ev E y = some (.int .i64 j)) (h : 0 ≤ i ∧ 1 ≤ j := by omega) : QM P n D E L (.binOp .rem T x y T') (.int .i64 (i % j)) := fun a w ka s o ho => by
 refine J7 ho (ka.ev hx) (ka.ev hy) rfl ?_
 rw [← IntWalk.rem_in i j h.1]
 unfold binOp
 simp [Op.intDiv, show ¬ j = 0 by omega]
theorem Qrr {i : Int} (hx : ev E x = some (.int .i64 i)) (h : -9223372036854775808 ≤ -i ∧ -i ≤ 9223372036854775807 := by omega) : QM P n D E L (.unOp .neg T x) (.int .i64 (-i)) := fun a w ka s o ho => by
 unfold execOp
 simp only [ho, ka.ev hx, Op.unary, Op.intArith, Sem.run_bind, Sem.run_pure, Result.andThen_ok]
 rw [show (0 : Int) - i = -i by omega, IntWalk.i64_in (-i) h]
theorem Ji {b : Bool} (hx : ev E x = some (.bool b)) : QM P n D E L (.unOp .not T x) (.bool (!b)) := fun _ _ ka _ _ ho => QrU ho (ka.ev hx)
theorem QT {k : IntKind} {i j : Int} (hx : ev E x = some (.int k i)) (hy : ev E y = some (.int k j)) : QM P n D E L (.binOp .lss T x y T') (.bool (decide (i < j))) := fun _ _ ka _ _ ho => QrP ho (ka.ev hx) (ka.ev hy)
theorem Qb3 {k : IntKind} {i j : Int} (hx : ev E x = some (.int k i)) (hy : ev E y = some (.int k j)) : QM P n D E L (.binOp .leq T x y T') (.bool (decide (i ≤ j))) := fun _ _ ka _ _ ho => QrO ho (ka.ev hx) (ka.ev hy)
theorem Jo {k : IntKind} {i j : Int} (hx : ev E x = some (.int k i)) (hy : ev E y = some (.int k j)) : QM P n D E L (.binOp .gtr T x y T') (.bool (decide (j < i))) := fun _ _ ka _ _ ho => QrL ho (ka.ev hx) (ka.ev hy)
theorem Vb {k : IntKind} {i j : Int} (hx : ev E x = some (.int k i)) (hy : ev E y = some (.int k j)) : QM P n D E L (.binOp .geq T x y T') (.bool (decide (j ≤ i))) := fun _ _ ka _ _ ho => QrK ho (ka.ev hx) (ka.ev hy)
theorem QG {k : IntKind} {i j : Int} (hx : ev E x = some (.int k i)) (hy : ev E y = some (.int k j)) : QM P n D E L (.binOp .eql T x y T') (.bool (decide (i = j))) := fun a w ka s o ho => by
 rw [show decide (i = j) = (i == j) from (Int.instDecidableEq i j |> fun _ => by rw [Bool.eq_iff_iff]; simp)]
 exact QrI ho (ka.ev hx) (ka.ev hy)
theorem QL {k : IntKind} {i j : Int} (hx : ev E x = some (.int k i)) (hy : ev E y = some (.int k j)) : QM P n D E L (.binOp .neq T x y T') (.bool (decide (¬ i = j))) := fun a w ka s o ho => by
 rw [show decide (¬ i = j) = (i != j) from by rw [Bool.eq_iff_iff]; simp]
 exact QrR ho (ka.ev hx) (ka.ev hy)
theorem ZL {xs ys : List Value} {p : Prop} [Decidable p] (hx : ev E x = some (.agg xs.toArray)) (hy : ev E y = some (.agg ys.toArray)) [h : TEq P T xs ys (decide p)] : QM P n D E L (.binOp .eql T x y T') (.bool (decide p)) := fun _ _ ka _ _ ho => QrJ ho (ka.ev hx) (ka.ev hy)
theorem QdD {xs ys : List Value} {p : Prop} [Decidable p] (hx : ev E x = some (.agg xs.toArray)) (hy : ev E y = some (.agg ys.toArray)) [h : TEq P T xs ys (decide p)] : QM P n D E L (.binOp .neq T x y T') (.bool (decide (¬ p))) := fun a w ka s o ho => by
 have := QrS (P := P) (w := w) ho (ka.ev hx) (ka.ev hy) (h := h)
 rw [this]
 simp
theorem Qbe (w : World) (d : Nat) {e : TypeId} (p : Option Addr) (h : P.underlying T = some (.pointer e)) : (Op.equalIn (d + 1) T (.pointer p) (.pointer none)).run P w = .ok p.isNone w := by
 cases p <;> simp [Op.equalIn, run_underlying h]
theorem Qgd (w : World) {e : TypeId} (p : Option Addr) (h : P.underlying T = some (.pointer e)) : (binOp .eql T (.pointer p) (.pointer none)).run P w = .ok (.bool p.isNone) w := by
 simp only [binOp]
 simp [Op.equal, Op.maxDepth, Qbe w 9999 p h]
class TPtr (P : Program) (T : TypeId) : Prop where
 und : ∃ e, P.underlying T = some (.pointer e)
theorem J2 {p : Option Addr} [hT : TPtr P T] (hx : ev E x = some (.pointer p)) (hy : ev E y = some (.pointer none)) : QM P n D E L (.binOp .eql T x y T') (.bool p.isNone) := fun a w ka s o ho => by
 obtain ⟨e, h⟩ := hT.und
 exact J7 ho (ka.ev hx) (ka.ev hy) rfl (Qgd w p h)
theorem QD {z out : List Value} {pl : Nat → Option (Nat × Nat)} [hT : TB P T z pl] {l : List (Nat × Operand)} {ps : List (Nat × Value)} (hv : evp E l = some ps) [hf : Fills pl z ps out] : QM P n D E L (.build T l.toArray) (.agg out.toArray) := fun a w ka s o ho => QqB ho (ka.evp hv)
theorem Qj {i : Nat} {vs : List Value} {v : Value} (hx : ev E x = some (.tuple vs.toArray)) (hv : vs[i]? = some v) : QM P n D E L (.extract x i) v := fun _ _ ka _ _ ho => QmS ho (ka.ev hx) hv
theorem QA {b : Addr} (hx : ev E x = some (.pointer (some b))) : QM P n D E L (.nilCheck x) (.pointer (some b)) := fun _ _ ka _ _ ho => QrT ho (ka.ev hx)
theorem qr {len e size : Nat} [hT : TArr P T len e size] {b off : Nat} (hx : ev E x = some (.pointer (some ⟨b, off, none⟩))) (hn : 0 < len := by decide) : QM P n D E L (.slice T x none none none) (.slice (some ⟨b, off, none⟩) len len) := fun _ _ ka _ _ ho => QrW ho (ka.ev hx) hn
theorem Y1 {fn : Fn} {fi ca : List Operand} {vf vc : List Value} (hf : evs E fi = some vf) (hc : evs E ca = some vc) : QM P n D E L (.makeFunc fn fi.toArray ca.toArray) (.func fn vf.toArray vc.toArray) := fun a w ka s o ho => by
 unfold execOp
 simp only [ho, Instr.makeFunc, Sem.run_bind, Sem.run_pure, Result.andThen_ok, List.map_toArray, ka.evs hf, ka.evs hc]
theorem Qol {d : TypeDesc} {v : Value} (hu : P.underlying T = some d) (hd : (match d with | .interface _ => false | _ => true) = true) (hx : ev E x = some v) : QM P n D E L (.makeInterface T x) (.iface T v) := fun a w ka s o ho => by
 unfold execOp
 simp only [ho, Instr.makeInterface, ka.ev hx, Sem.run_bind, run_underlying hu, Result.andThen_ok]
 cases d <;> first | rfl | (cases hd)
variable {k k' : IntKind} {m : Nat} {i j : Int} {a b : BitVec m}
theorem ZQ {op : BinOp} {i j : Int} {k : IntKind} (h1 : op = .and ∨ op = .or ∨ op = .xor) (_ : True) (_ : True) : binOp op T (.int k i) (.int k j) = Op.intBits op k i j := by
 rcases h1 with rfl | rfl | rfl <;> simp [binOp]
theorem Qe5 {m : Nat} (a : BitVec m) : (a.toNat : Int) < 2 ^ m := by have := a.isLt; exact_mod_cast this
theorem QoP {k : IntKind} {m : Nat} (hk : UK k m) (a : BitVec m) : k.wrap (a.toNat : Int) = a.toNat := by
 rw [hk.wrap, Int.emod_eq_of_lt (by omega) (Qe5 a)]
theorem qp [hk : UK k m] (hx : ev E x = some (.int k i)) (hy : ev E y = some (.int k j)) [ha : Wd m i a] [hb : Wd m j b] : QM P n D E L (.binOp .and T x y T') (.int k ((a &&& b).toNat : Int)) := fun c w ka s o ho => by
 obtain ⟨rfl, hs⟩ := hk
 obtain rfl := ha.eq
 obtain rfl := hb.eq
 refine J7 ho (ka.ev hx) (ka.ev hy) (by cases k <;> rfl) ?_
 rw [ZQ (by simp) (by simp) (by simp)]
 simp only [Op.intBits, BitVec.ofInt_natCast, BitVec.ofNat_toNat, BitVec.setWidth_eq]
 rw [UK.wrap ⟨rfl, hs⟩, Int.emod_eq_of_lt (by omega) (by have := (a &&& b).isLt; exact_mod_cast this)]
 rfl
theorem QcT [hk : UK k m] (hx : ev E x = some (.int k i)) (hy : ev E y = some (.int k j)) [ha : Wd m i a] [hb : Wd m j b] : QM P n D E L (.binOp .or T x y T') (.int k ((a ||| b).toNat : Int)) := fun c w ka s o ho => by
 obtain ⟨rfl, hs⟩ := hk
 obtain rfl := ha.eq
 obtain rfl := hb.eq
 refine J7 ho (ka.ev hx) (ka.ev hy) (by cases k <;> rfl) ?_
 rw [ZQ (by simp) (by simp) (by simp)]
 simp only [Op.intBits, BitVec.ofInt_natCast, BitVec.ofNat_toNat, BitVec.setWidth_eq]
 rw [UK.wrap ⟨rfl, hs⟩, Int.emod_eq_of_lt (by omega) (by have := (a ||| b).isLt; exact_mod_cast this)]
 rfl
theorem Ym [hk : UK k m] (hx : ev E x = some (.int k i)) (hy : ev E y = some (.int k j)) [ha : Wd m i a] [hb : Wd m j b] : QM P n D E L (.binOp .xor T x y T') (.int k ((a ^^^ b).toNat : Int)) := fun c w ka s o ho => by
 obtain ⟨rfl, hs⟩ := hk
 obtain rfl := ha.eq
 obtain rfl := hb.eq
 refine J7 ho (ka.ev hx) (ka.ev hy) (by cases k <;> rfl) ?_
 rw [ZQ (by simp) (by simp) (by simp)]
 simp only [Op.intBits, BitVec.ofInt_natCast, BitVec.ofNat_toNat, BitVec.setWidth_eq]
 rw [UK.wrap ⟨rfl, hs⟩, Int.emod_eq_of_lt (by omega) (by have := (a ^^^ b).isLt; exact_mod_cast this)]
 rfl
theorem Jn [hk : UK k m] (hx : ev E x = some (.int k i)) (hy : ev E y = some (.int k j)) [ha : Wd m i a] [hb : Wd m j b] : QM P n D E L (.binOp .add T x y T') (.int k ((a + b).toNat : Int)) := fun c w ka s o ho => by
 obtain rfl := ha.eq
 obtain rfl := hb.eq
 refine J7 ho (ka.ev hx) (ka.ev hy) (by cases k <;> rfl) ?_
 have e : binOp .add T (.int k (a.toNat : Int)) (.int k (b.toNat : Int)) = Op.intArith .add k a.toNat b.toNat := by simp [binOp]
 rw [e]
 simp only [Op.intArith, hk.wrap, BitVec.toNat_add]
 simp [Int.natCast_emod, Int.natCast_add]
theorem Qab [hk : UK k m] (hx : ev E x = some (.int k i)) (hy : ev E y = some (.int k j)) [ha : Wd m i a] [hb : Wd m j b] : QM P n D E L (.binOp .mul T x y T') (.int k ((a * b).toNat : Int)) := fun c w ka s o ho => by
 obtain rfl := ha.eq
 obtain rfl := hb.eq
 refine J7 ho (ka.ev hx) (ka.ev hy) (by cases k <;> rfl) ?_
 have e : binOp .mul T (.int k (a.toNat : Int)) (.int k (b.toNat : Int)) = Op.intArith .mul k a.toNat b.toNat := by simp [binOp]
 rw [e]
 simp only [Op.intArith, hk.wrap, BitVec.toNat_mul]
 simp [Int.natCast_emod, Int.natCast_mul]
theorem Qb4 {ky : IntKind} {q : Nat} [hk : UK k m] (hx : ev E x = some (.int k i)) (hy : ev E y = some (.int ky j)) [ha : Wd m i a] [hq : NatOf j q] (h : q ≤ m := by first | decide | omega) : QM P n D E L (.binOp .shl T x y T') (.int k ((a <<< q).toNat : Int)) := fun c w ka s o ho => by
 obtain rfl := ha.eq
 have hj := hq.eq
 subst hj
 refine J7 ho (ka.ev hx) (ka.ev hy) (by cases k <;> cases ky <;> rfl) ?_
 have e : binOp .shl T (.int k (a.toNat : Int)) (.int ky (q : Int)) = Op.shift .shl k a.toNat ky q := by unfold binOp; rfl
 rw [e]
 unfold Op.shift
 rw [if_neg (by omega)]
 simp only [Int.toNat_natCast, hk.bits, Nat.min_eq_left h, hk.wrap, BitVec.toNat_shiftLeft, Nat.shiftLeft_eq]
 simp [Int.natCast_emod, Int.natCast_mul]
theorem YW {ky : IntKind} {q : Nat} [hk : UK k m] (hx : ev E x = some (.int k i)) (hy : ev E y = some (.int ky j)) [ha : Wd m i a] [hq : NatOf j q] (h : q ≤ m := by first | decide | omega) : QM P n D E L (.binOp .shr T x y T') (.int k ((a >>> q).toNat : Int)) := fun c w ka s o ho => by
 obtain rfl := ha.eq
 have hj := hq.eq
 subst hj
 refine J7 ho (ka.ev hx) (ka.ev hy) (by cases k <;> cases ky <;> rfl) ?_
 have e : binOp .shr T (.int k (a.toNat : Int)) (.int ky (q : Int)) = Op.shift .shr k a.toNat ky q := by unfold binOp; rfl
 rw [e]
 unfold Op.shift
 rw [if_neg (by omega)]
 simp only [Int.toNat_natCast, hk.bits, Nat.min_eq_left h, BitVec.toNat_ushiftRight, Nat.shiftRight_eq_div_pow]
 rw [Int.fdiv_eq_ediv_of_nonneg _ (Int.pow_nonneg (by decide))]
 simp [Int.natCast_ediv]
theorem Qqe [hk : UK k m] (hx : ev E x = some (.int k i)) [ha : Wd m i a] : QM P n D E L (.unOp .xor T x) (.int k ((~~~a).toNat : Int)) := fun c w ka s o ho => by
 obtain ⟨rfl, hs⟩ := hk
 obtain rfl := ha.eq
 have e1 : BitVec.ofInt k.bits k.max = BitVec.allOnes k.bits := by
  rw [IntKind.max, hs]
  apply BitVec.eq_of_toInt_eq
  cases k <;> first | (simp [IntKind.signed] at hs; done) | decide
 unfold execOp
 simp only [ho, ka.ev hx, Op.unary, hs, Bool.false_eq_true, if_false, Op.intBits, e1, BitVec.ofInt_natCast, BitVec.ofNat_toNat, BitVec.setWidth_eq, BitVec.allOnes_xor, Sem.run_bind, Sem.run_pure, Result.andThen_ok]
 rw [QoP ⟨rfl, hs⟩]
theorem Qoj (hT : P.underlying T = some (.int k)) (hT' : P.underlying T' = some (.int k')) (hx : ev E x = some (.int k i)) (h : k'.wrap i = i) : QM P n D E L (.convert T T' x) (.int k' i) := fun c w ka s o ho => by
 unfold execOp
 simp only [ho, ka.ev hx, convert, Sem.run_bind, run_underlying hT, run_underlying hT', Result.andThen_ok, Conv.intToInt, h]
 rfl
theorem Qok {m' : Nat} [hk : UK k m] [hk' : UK k' m'] (hT : P.underlying T = some (.int k)) (hT' : P.underlying T' = some (.int k')) (hx : ev E x = some (.int k i)) [ha : Wd m i a] : QM P n D E L (.convert T T' x) (.int k' ((a.setWidth m').toNat : Int)) := fun c w ka s o ho => by
 obtain rfl := ha.eq
 unfold execOp
 simp only [ho, ka.ev hx, convert, Sem.run_bind, run_underlying hT, run_underlying hT', Result.andThen_ok, Conv.intToInt, hk'.wrap, BitVec.toNat_setWidth]
 simp [Int.natCast_emod]
end
def wc {m : Nat} (k : IntKind) (l : List (BitVec m)) : List Value := l.map fun x => .int k (x.toNat : Int)
theorem YT {m : Nat} {k : IntKind} {l : List (BitVec m)} {i : Nat} (h : i < l.length) : (wc k l)[i]? = some (.int k ((l.getD i 0).toNat : Int)) := by simp [wc, h]
theorem Qq3 {m : Nat} (k : IntKind) (l : List (BitVec m)) : (wc k l).length = l.length := by simp [wc]
theorem J1 {l : List UInt8} {i : Nat} (h : i < l.length) : (bc l)[i]? = some (.int .u8 ((l.getD i 0).toNat : Int)) := Qp8 l i h
instance (priority := 2000) (cs new out : List Value) (i : Nat) [h : SetAt cs i new out] : SetAt cs (i * 1) new out := ⟨by rw [Nat.mul_one]; exact h.eq, by rw [Nat.mul_one]; exact h.fit⟩
instance (priority := 2000) (cs new out : List Value) (n : Nat) [h : SetAt cs 0 new out] : SetAt cs (0 * n) new out := ⟨by rw [Nat.zero_mul]; exact h.eq, by rw [Nat.zero_mul]; exact h.fit⟩
instance (priority := 2000) (cs new out : List Value) (n : Nat) [h : SetAt cs n new out] : SetAt cs (1 * n) new out := ⟨by rw [Nat.one_mul]; exact h.eq, by rw [Nat.one_mul]; exact h.fit⟩
theorem yM {A : List Fa} {W : World} {n : Nat} {D : List Deferred} {E : Env} {L : List Fa} {P : Program} {ro : Option Nat} {Q : Exit → Act → World → Prop} {ops : Array Oper} {rest : List Oper} {d : Nat} {ty : TypeId} {pos : String} {af : Array Edge} {g : Option (Nat × Bool)} {x : Operand} {v : Value} (hx : ev E x = some v) (k : H A W n D ((d, v) :: E) L (wpListIn (FR ro) 0 P ops Q rest)) (hd : Nat.blt d n = true := by exact rfl) (hg : wn ops E g = some true := by exact rfl) : H A W n D E L (wpListIn (FR ro) 0 P ops Q (⟨some d, .move x, ty, pos, af, g⟩ :: rest)) := Qb (Qi hx) k hd hg
theorem yS {A : List Fa} {W : World} {n : Nat} {D : List Deferred} {E : Env} {L : List Fa} {P : Program} {ro : Option Nat} {Q : Exit → Act → World → Prop} {ops : Array Oper} {rest : List Oper} {d : Nat} {ty : TypeId} {pos : String} {af : Array Edge} {g : Option (Nat × Bool)} {x : Operand} {v : Value} (hx : ev E x = some v) (k : H A W n D ((d, v) :: E) L (wpListIn (FR ro) 0 P ops Q rest)) (hd : Nat.blt d n = true := by exact rfl) (hg : wn ops E g = some true := by exact rfl) : H A W n D E L (wpListIn (FR ro) 0 P ops Q (⟨some d, .assign x, ty, pos, af, g⟩ :: rest)) := Qb (Q6 hx) k hd hg
theorem yN {A : List Fa} {W : World} {n : Nat} {D : List Deferred} {E : Env} {L : List Fa} {P : Program} {ro : Option Nat} {Q : Exit → Act → World → Prop} {ops : Array Oper} {K : Act → World → Prop} (h : H A W n D E L K) : H A W n D E L (wpListIn (FR ro) 0 P ops (Exit.then K Q) []) := QE (Qc h)
theorem yR {A : List Fa} {W : World} {n : Nat} {D : List Deferred} {E : Env} {L : List Fa} {P : Program} {ro : Option Nat} {Q : Exit → Act → World → Prop} {id : Nat} {l : List Oper} {y : Code} (h : H A W n D E L (wpListIn (FR ro) 0 P l.toArray (Exit.then (y.wpIn (FR ro) 0 P Q) Q) l)) : H A W n D E L ((Code.seq (Code.region id l.toArray false) y).wpIn (FR ro) 0 P Q) := Qd (Q5 h)
end
end Go.Proofs.YtjhlbbgikccclaaGreatDoor
