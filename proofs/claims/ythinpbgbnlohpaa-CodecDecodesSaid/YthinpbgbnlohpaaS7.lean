/- Shifts and ors of bytes, functions bound to a value, a slice's length in the world. -/
import Derived.Test.YthinpbgbnlohpaaS6
namespace Go.Proofs.Ythinpbgbnlohpaa
set_option linter.unusedSimpArgs false
set_option linter.unusedVariables false
open Go.RowKit
section
variable {P : Program} {X : List Nat} {w0 w : World} {L M : List Fc} {a : Act} {o : Oper}
theorem xShl8 {T T' : TypeId} {x y : Operand} {n : Int} (ho : o.op = .binOp .shl T x y T') (hx : a.eval x = .int .i64 n) (hy : a.eval y = .int .u64 8) (h : 0 ≤ n ∧ n < 256) :
    (execOp a.eval o).run P w = .ok (.value (.int .i64 (n * 256))) w := by
  unfold execOp
  simp only [ho, hx, hy]
  have e : (binOp .shl T (.int .i64 n) (.int .u64 8)).run P w = .ok (.int .i64 (n * 256)) w := by
    rw [← IntWalk.i64_in (n * 256) (by omega)]
    rfl
  rw [Sem.run_bind, Sem.run_bind]
  have g : (eqGuard .shl T x y (.int .i64 n) (.int .u64 8)).run P w = .ok () w := rfl
  rw [g, Result.andThen_ok, e]
  rfl
theorem or_byte (n m : Nat) (hn : n < 256) (hm : m < 256) : ((BitVec.ofInt 64 ((n : Int) * 256) ||| BitVec.ofInt 64 (m : Int)).toNat : Int) = (n : Int) * 256 + m := by
  have e1 : BitVec.ofInt 64 ((n : Int) * 256) = BitVec.ofNat 64 (n * 256) := by rw [← BitVec.ofInt_natCast]; congr 1
  have e2 : BitVec.ofInt 64 (m : Int) = BitVec.ofNat 64 m := by rw [← BitVec.ofInt_natCast]
  rw [e1, e2, BitVec.toNat_or, BitVec.toNat_ofNat, BitVec.toNat_ofNat, Nat.mod_eq_of_lt (by omega), Nat.mod_eq_of_lt (by omega)]
  have h := Nat.shiftLeft_add_eq_or_of_lt (i := 8) (show m < 2 ^ 8 by omega) n
  rw [Nat.shiftLeft_eq] at h
  rw [show n * 256 = n * 2 ^ 8 from rfl, ← h]
  rw [Int.natCast_add, Int.natCast_mul]
  rfl
theorem xOr8 {T T' : TypeId} {x y : Operand} {n m : Int} (ho : o.op = .binOp .or T x y T') (hx : a.eval x = .int .i64 (n * 256)) (hy : a.eval y = .int .i64 m) (h : 0 ≤ n ∧ n < 256) (h' : 0 ≤ m ∧ m < 256) :
    (execOp a.eval o).run P w = .ok (.value (.int .i64 (n * 256 + m))) w := by
  obtain ⟨n, rfl⟩ := Int.eq_ofNat_of_zero_le h.1
  obtain ⟨m, rfl⟩ := Int.eq_ofNat_of_zero_le h'.1
  unfold execOp
  simp only [ho, hx, hy]
  have e : (binOp .or T (.int .i64 ((n : Int) * 256)) (.int .i64 (m : Int))).run P w = .ok (.int .i64 ((n : Int) * 256 + m)) w := by
    rw [← IntWalk.i64_in ((n : Int) * 256 + m) (by omega), ← or_byte n m (by omega) (by omega)]
    rfl
  rw [Sem.run_bind, Sem.run_bind]
  have g : (eqGuard .or T x y (.int .i64 ((n : Int) * 256)) (.int .i64 (m : Int))).run P w = .ok () w := rfl
  rw [g, Result.andThen_ok, e]
  rfl
theorem run_mkFunc (fn : Fn) (first cap : Array Value) (w : World) : (Instr.makeFunc fn first cap).run P w = .ok (.func fn first cap) w := rfl
/-- a block that may be written stands apart from what is read -/
theorem St.rdNe (h : St X w0 w L) {A : Option Addr} {g T : Nat} {cs cs' : List Value} [hm : HasA A L cs] [hb : HasB g L cs' T] : ∀ k, (Fc.rd A cs).foot k → k ≠ g := fun k hk e =>
  pw_mem h.sep hm.mem hb.mem (fun e => by cases e) rfl k hk e
/-- the length of the slice in cell k of a block -/
def lenAt (w : World) (g k : Nat) : Nat := match w.heap[g]? with | some (.cells cs _ _) => (match cs[k]? with | some (.slice _ n _) => n | _ => 0) | _ => 0
theorem St.lenAt (h : St X w0 w L) (g k : Nat) {T : Nat} {cs : List Value} {A : Option Addr} {n c : Nat} [hb : HasB g L cs T] [hc : CellAt cs k (.slice A n c)] : Go.Proofs.Ythinpbgbnlohpaa.lenAt w g k = n := by
  unfold Go.Proofs.Ythinpbgbnlohpaa.lenAt
  rw [h.blk hb.mem]
  simp [hc.at_]
end
section
variable {P : Program} {ops : Array Oper} {Q : Exit → Act → World → Prop} {a : Act} {w w0 : World} {X : List Nat} {L : List Fc}
/-- a region that draws its order: L' stays throughout -/
theorem heldStW {id : Nat} (L' : List Fc) (hS : St X w0 w L) (hm : P.follows .mixedOrders = true) (hQ : HQ Q) (h : HQ Q → ∀ w', St X w0 w' L → wpAnyH P .any ops Q (fun w' => St X w0 w' L') ops.size (Array.replicate ops.size false) a w') : (Code.region id ops true).wp P Q a w :=
  heldQ hm hQ fun hQ => h hQ _ hS.drew
theorem heldForkA {md : Region.Mode} {S : World → Prop} {fuel : Nat} {listed : Array Bool} {Lf : Nat → Option Addr → Nat → List Fc} {ACT : Nat → Option Addr → Nat → Act} (f : (∀ g A c w', St X w0 w' (Lf g A c) → Q .normal (ACT g A c) w') → wpAnyH P md ops Q S fuel listed a w) (h : ∀ g A c w', St X w0 w' (Lf g A c) → Q .normal (ACT g A c) w') : wpAnyH P md ops Q S fuel listed a w := f h
theorem opVal {K : Act → World → Prop} (i : Nat) {l : List Oper} {o : Oper} {v : Value} (ho : l[i]? = some o) (hw : Region.wanted o (yielded l.toArray a.tmps) = true) (hrun : (execOp a.eval o).run P w = .ok (.value v) w) (h : K (a.put o.dst v) w) : wpOp P l.toArray Q i K a w := by
  have ho' : l.toArray[i]? = some o := by simpa using ho
  unfold wpOp
  simp only [ho', hw, if_true]
  refine .inl ?_
  unfold Oper.wp
  rw [hrun]
  exact h
theorem opStore1E {K : Act → World → Prop} (i : Nat) {l : List Oper} {dd : Option Tmp} {T T' : TypeId} {p x : Operand} {ty : TypeId} {pos : String} {af : Array Edge} [hT : TOne P T] {g off : Nat} {cs cs' : List Value} {v : Value} {L' : List Fc} (hS : St X w0 w L) (ho : l[i]? = some ⟨dd, .store T p x, ty, pos, af, none⟩) (hp : a.eval p = .pointer (some ⟨g, off, none⟩)) (hx : a.eval x = v) (hv : v.oneCell' = true) (hm : HasB g L cs T') (hs : SetAt cs off [v] cs') (hr : RepB g cs cs' T' L L')
    (h : ∀ w', St X w0 w' L' → K (a.put dd undef) w') : wpOp P l.toArray Q i K a w := opStore1 i hS ho hp hx hv h
end
end Go.Proofs.Ythinpbgbnlohpaa
