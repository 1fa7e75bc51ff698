/- joined texts -/
import Derived.Test.YtjhlbbgikccclaaGreatDoorF6
set_option linter.all false
namespace Go.Proofs.YtjhlbbgikccclaaGreatDoor
section
open Go.RowKit
section
variable {P : Program} {n : Nat} {D : List Deferred} {E : Env} {L : List Fa} {T : TypeId} {x y : Operand} {k : IntKind} {i : Int}
theorem Qpj {s : ByteArray} {j : Nat} {c : UInt8} (hu : P.underlying T = some .string) (hx : ev E x = some (.string s)) (hy : ev E y = some (.int k i)) [hj : NatOf i j] (hc : s[j]? = some c) : QM P n D E L (.index T x y) (.int .u8 (c.toNat : Int)) := fun a w ka st o ho => by
 obtain rfl := hj.eq
 unfold execOp
 simp only [ho, ka.ev hx, ka.ev hy, Instr.index, asIntOf, Sem.run_bind, Sem.run_pure, Result.andThen_ok, run_underlying hu]
 simp [hc]
end
instance rowB1 (b : B32) : Row (bc b.1) 32 := ⟨by rw [Jt]; exact b.2, YZ _⟩
theorem ZH (b : B32) (i : Nat) (hi : i < 256) : QC Tryz.prog 140 [.agg b.cells.toArray, .int .i64 (i : Int)].toArray [] [] (fun _ : Unit => .int .i64 ((Y2 b i : Nat) : Int)) (fun _ => []) := by
 have hb := b.2
 refine Qk Tryz.func140 rfl (n := 21) rfl rfl ?_
 intro W
 refine yR ?_
 refine Qo (Q9 rfl) fun g2 => ?_
 refine yS rfl ?_
 refine yN ?_
 refine Qd ?_
 refine yR ?_
 refine yM rfl ?_
 refine Qb (Ql (QT rfl rfl) (decide_eq_false (by omega))) ?_
 refine yM rfl ?_
 refine yM rfl ?_
 refine Qb (Ql (Vb rfl rfl) (decide_eq_false (by omega))) ?_
 refine Qb (Qy rfl rfl) ?_
 refine yN ?_
 refine Qt rfl ?_
 refine Qn ?_
 refine Qc ?_
 refine yR ?_
 refine yM rfl ?_
 refine Qb (Zk rfl rfl) ?_
 refine Qb (QP rfl rfl) ?_
 refine Qb (QX rfl (J1 (by omega))) ?_
 refine yM rfl ?_
 refine Qb (VL rfl rfl) ?_
 refine Qb (YR rfl rfl) ?_
 refine Qb (YW rfl rfl) ?_
 refine Qb (qp rfl rfl) ?_
 refine Qb (Jv (Zj rfl) (Qp9 _ (i % 8))) ?_
 refine yS rfl ?_
 refine yN ?_
 refine Qs ?_
 exact Qu rfl rfl fun w s => ⟨(), rfl, s.res (List.nil_sublist _) (by simp)⟩
theorem Qkf (b : B32) (i : Nat) (hi : i < 256) : QC Tryz.prog 156 [.agg b.cells.toArray, .int .i64 (i : Int)].toArray [] [] (fun _ : Unit => .bool (Q4 b i)) (fun _ => []) := by
 refine Qk Tryz.func156 rfl (n := 9) rfl rfl ?_
 intro W
 refine yR ?_
 refine Qo (Q9 rfl) fun g2 => ?_
 refine yS rfl ?_
 refine yN ?_
 refine yR ?_
 refine Qb (Qm rfl) ?_
 refine yM rfl ?_
 refine Qh ((ZH b i hi).comes) rfl rfl rfl fun _ => ?_
 refine Qb (Ql (QG rfl rfl) (QeT b i)) ?_
 refine yS rfl ?_
 refine yN ?_
 refine Qs ?_
 exact Qu rfl rfl fun w s => ⟨(), rfl, s.res (List.nil_sublist _) (by simp)⟩
theorem Qp0 (b : B32) : QC Tryz.prog 195 [.agg b.cells.toArray].toArray [] [] (fun u : Option Addr × Nat => .slice u.1 (Jl b).length u.2) (fun u => [.own (.slice u.1 (Jl b).length u.2) (Jl b).length 3 1 (ic (Jl b))]) := by
 refine Qk Tryz.func195 rfl (n := 17) rfl rfl ?_
 intro W
 refine yR ?_
 refine Qo (Q9 rfl) fun g1 => ?_
 refine yS rfl ?_
 refine yN ?_
 refine yR ?_
 refine yS rfl ?_
 refine yN ?_
 refine Qd ?_
 refine yR ?_
 refine yM rfl ?_
 refine yN ?_
 refine Qq ?_
 refine Ju 3 1 (xs := ic (dep b 0)) rfl ?_
 change H _ _ _ _ _ (.own (.slice none (dep b 0).length 0) (dep b 0).length _ _ _ :: _) _
 refine QS (fun (s : Nat × Option Addr × Nat) => s.1 ≤ 256) (fun (s : Nat × Option Addr × Nat) => [(5, .int .i64 (s.1 : Int)), (3, .slice s.2.1 (dep b s.1).length s.2.2), (1, .pointer (some ⟨g1, 0, none⟩))]) (fun (s : Nat × Option Addr × Nat) => [.own (.slice s.2.1 (dep b s.1).length s.2.2) (dep b s.1).length 3 1 (ic (dep b s.1)), .blk g1 b.cells 194]) (fun (s : Nat × Option Addr × Nat) => 256 - s.1) (0, none, 0) ((show 0 ≤ 256 by omega)) ⟨rfl, rfl, rfl, trivial⟩ (same) ?_
 rintro ⟨k, B, c⟩ hk
 dsimp only at hk ⊢
 have hd := QhA b k
 refine yR ?_
 refine Qb (QT rfl rfl) ?_
 refine yN ?_
 refine Qd ?_
 refine QU rfl (fun h => ?_) (fun h => ?_)
 ·refine Qn ?_
  refine Qc ?_
  refine Qd ?_
  refine Qq ?_
  refine yR ?_
  refine yM rfl ?_
  refine yS rfl ?_
  refine yN ?_
  refine yR ?_
  refine Qb (Qm rfl) ?_
  refine yM rfl ?_
  refine Qh ((Qkf b k (by omega)).comes) rfl rfl rfl fun _ => ?_
  refine yN ?_
  refine V0 rfl (fun h2 => ?_) (fun h2 => ?_)
  ·have he := Qny h2
   have hl : (dep b k).length + 1 = (dep b (k + 1)).length := by rw [he]; simp
   refine Q5 ?_
   refine yM rfl ?_
   refine yM rfl ?_
   refine Qo (J8 rfl rfl) fun g13 => ?_
   refine Qo (QoT rfl rfl (hN := hl)) fun ⟨g14, c14⟩ => ?_
   refine yS rfl ?_
   refine QE ?_
   refine Q2 ?_
   refine Qc ?_
   refine Q5 ?_
   refine Qb (QI rfl rfl) ?_
   refine yM rfl ?_
   refine QE ?_
   rw [← he]
   exact QH (k + 1, some ⟨g14, 0, none⟩, c14) ((show k + 1 ≤ 256 by omega)) ((show 256 - (k + 1) < 256 - k by omega)) ⟨rfl, rfl, rfl, trivial⟩ (same)
  have he := QpI (b := b) (k := k) (by rw [h2]; simp)
  refine Qn ?_
  refine Q2 ?_
  refine Qc ?_
  refine Q5 ?_
  refine Qb (QI rfl rfl) ?_
  refine yM rfl ?_
  refine QE ?_
  rw [← he]
  exact QH (k + 1, B, c) ((show k + 1 ≤ 256 by omega)) ((show 256 - (k + 1) < 256 - k by omega)) ⟨rfl, rfl, rfl, trivial⟩ (same)
 obtain rfl : k = 256 := by omega
 refine QK ?_
 refine Qx ?_
 refine Qx ?_
 refine Q8 ?_
 refine Qc ?_
 refine yR ?_
 refine yM rfl ?_
 refine yS rfl ?_
 refine yN ?_
 refine Qs ?_
 exact Qu rfl rfl fun w s => ⟨(B, c), rfl, s.res ((List.nil_sublist _).cons_cons _) (by simp [Fa.wr])⟩
theorem Qrw {m : Nat} (h : m < 256) : (((UInt8.ofNat m).toBitVec.toNat : Nat) : Int) = (m : Int) := by
 show (((UInt8.ofNat m).toNat : Nat) : Int) = (m : Int)
 rw [UInt8.toNat_ofNat', Nat.mod_eq_of_lt h]
theorem QdP (x : UInt8) : QC Tryz.prog 250 [.int .u8 (x.toNat : Int)].toArray [] [] (fun _ : Unit => .int .i64 ((QfP x : Nat) : Int)) (fun _ => []) := by
 have hp := Qet x
 refine Qk Tryz.func250 rfl (n := 6) rfl rfl ?_
 intro W
 refine yR ?_
 refine yS rfl ?_
 refine yN ?_
 refine yR ?_
 refine yM rfl ?_
 refine Qb (Qpj (c := UInt8.ofNat (QfP x)) Tryz.underlying9 rfl rfl (by clear W hp; revert x; refine YD ?_; decide +kernel)) ?_
 refine Qb (Jv (Zj rfl) (Qrw (by omega))) ?_
 refine yS rfl ?_
 refine yN ?_
 refine Qs ?_
 exact Qu rfl rfl fun w s => ⟨(), rfl, s.res (List.nil_sublist _) (by simp)⟩
theorem Qpz (x : UInt8) : QC Tryz.prog 274 [.int .u8 (x.toNat : Int)].toArray [] [] (fun _ : Unit => .int .i64 ((8 - lz8 x : Nat) : Int)) (fun _ => []) := by
 have hp := QgR x
 refine Qk Tryz.func274 rfl (n := 6) rfl rfl ?_
 intro W
 refine yR ?_
 refine yS rfl ?_
 refine yN ?_
 refine yR ?_
 refine yM rfl ?_
 refine Qb (Qpj (c := UInt8.ofNat (8 - lz8 x)) Tryz.underlying9 rfl rfl (by clear W hp; revert x; refine YD ?_; decide +kernel)) ?_
 refine Qb (Jv (Zj rfl) (Qrw (by omega))) ?_
 refine yS rfl ?_
 refine yN ?_
 refine Qs ?_
 exact Qu rfl rfl fun w s => ⟨(), rfl, s.res (List.nil_sublist _) (by simp)⟩
theorem QbA (x : UInt8) : QC Tryz.prog 268 [.int .u8 (x.toNat : Int)].toArray [] [] (fun _ : Unit => .int .i64 ((lz8 x : Nat) : Int)) (fun _ => []) := by
 have hp := QgR x
 refine Qk Tryz.func268 rfl (n := 6) rfl rfl ?_
 intro W
 refine yR ?_
 refine yS rfl ?_
 refine yN ?_
 refine yR ?_
 refine yM rfl ?_
 refine Qh ((Qpz x).comes) rfl rfl rfl fun _ => ?_
 refine Qb (YR rfl rfl (m := lz8 x) (hm := by omega)) ?_
 refine yS rfl ?_
 refine yN ?_
 refine Qs ?_
 exact Qu rfl rfl fun w s => ⟨(), rfl, s.res (List.nil_sublist _) (by simp)⟩
theorem Qpu (b : B32) : QC Tryz.prog 191 [.agg b.cells.toArray].toArray [] [] (fun _ : Unit => .int .i64 (((Jl b).length : Nat) : Int)) (fun _ => []) := by
 rw [QgC]
 have hb := b.2
 refine Qk Tryz.func191 rfl (n := 16) rfl rfl ?_
 intro W
 refine yR ?_
 refine Qo (Q9 rfl) fun g1 => ?_
 refine yS rfl ?_
 refine yN ?_
 refine yR ?_
 refine yS rfl ?_
 refine yN ?_
 refine Qd ?_
 refine yR ?_
 refine Qb (Qm rfl) ?_
 refine yM rfl ?_
 refine yN ?_
 refine Qq ?_
 refine QS (fun (k : Nat) => k ≤ 32) (fun (k : Nat) => [(7, .int .i64 (k : Int)), (6, .agg b.cells.toArray), (3, .int .i64 ((Qeu b k : Nat) : Int))]) (fun (k : Nat) => []) (fun (k : Nat) => 32 - k) 0 (by omega) ⟨rfl, rfl, rfl, trivial⟩ (same) ?_
 intro k hk
 have hpk := Qoh b k
 refine yR ?_
 refine Qb (QT rfl rfl) ?_
 refine yN ?_
 refine Qd ?_
 refine QU rfl (fun h => ?_) (fun h => ?_)
 ·have hs := Qd5 b k (by omega)
  have hp8 := Qet (b.1.getD k 0)
  refine Qn ?_
  refine Qc ?_
  refine Qd ?_
  refine Qq ?_
  refine yR ?_
  refine Qb (Qc8 rfl rfl (J1 (l := b.1) (by omega))) ?_
  refine yS rfl ?_
  refine yN ?_
  refine Q5 ?_
  refine yM rfl ?_
  refine yM rfl ?_
  refine Qh ((QdP (b.1.getD k 0)).comes) rfl rfl rfl fun _ => ?_
  refine Qb (QI rfl rfl) ?_
  refine yS rfl ?_
  refine QE ?_
  refine Q2 ?_
  refine Qc ?_
  refine Q5 ?_
  refine Qb (QI rfl rfl) ?_
  refine yM rfl ?_
  refine QE ?_
  exact QH (k + 1) (by omega) (by omega) ⟨rfl, rfl, aI rfl (by rw [hs]; omega), trivial⟩ (same)
 obtain rfl : k = 32 := by omega
 refine QK ?_
 refine Qx ?_
 refine Qx ?_
 refine Q8 ?_
 refine Qc ?_
 refine yR ?_
 refine yM rfl ?_
 refine yS rfl ?_
 refine yN ?_
 refine Qs ?_
 exact Qu rfl rfl fun w s => ⟨(), rfl, s.res (List.nil_sublist _) (by simp)⟩
theorem QmV (x y : UInt8) (h : (x.toBitVec ^^^ y.toBitVec).toNat = 0) : x = y := by
 have h2 : x ^^^ y = 0 := by
  apply UInt8.toBitVec_inj.1
  rw [UInt8.toBitVec_xor]
  exact BitVec.eq_of_toNat_eq (by rw [h]; rfl)
 simpa using h2
theorem QbQ (a b : B32) : QC Tryz.prog 249 [.agg a.cells.toArray, .agg b.cells.toArray].toArray [] [] (fun _ : Unit => .int .i64 ((Jc a b : Nat) : Int)) (fun _ => []) := by
 have ha := a.2
 have hb := b.2
 refine Qk Tryz.func249 rfl (n := 28) rfl rfl ?_
 intro W
 refine yR ?_
 refine Qo (Q9 rfl) fun g2 => ?_
 refine Qo (Q9 rfl) fun g3 => ?_
 refine yS rfl ?_
 refine yN ?_
 refine Qd ?_
 refine yR ?_
 refine Qb (Qm rfl) ?_
 refine Qb (Qm rfl) ?_
 refine Qb (ZL rfl rfl) ?_
 refine yN ?_
 refine QU rfl (fun hab => ?_) (fun hab => ?_)
 ·rw [show Jc a b = 256 by rw [hab]; exact Qfd b]
  refine yR ?_
  refine yS rfl ?_
  refine yN ?_
  refine Qs ?_
  refine Qr ?_
  exact Qu rfl rfl fun w s => ⟨(), rfl, s.res (List.nil_sublist _) (by simp)⟩
 refine Qn ?_
 refine Qc ?_
 refine Qd ?_
 refine yR ?_
 refine yM rfl ?_
 refine yN ?_
 refine Qq ?_
 refine QS (fun (k : Nat) => k ≤ 32 ∧ ∀ j, j < k → a.1.getD j 0 = b.1.getD j 0) (fun (k : Nat) => [(10, .int .i64 (k : Int)), (2, .pointer (some ⟨g2, 0, none⟩)), (3, .pointer (some ⟨g3, 0, none⟩))]) (fun (k : Nat) => [.blk g2 a.cells 34, .blk g3 b.cells 34]) (fun (k : Nat) => 32 - k) 0 (⟨by omega, fun j hj => by omega⟩) ⟨rfl, rfl, rfl, trivial⟩ (same) ?_
 intro k hk
 refine yR ?_
 refine Qb (QT rfl rfl) ?_
 refine yN ?_
 refine Qd ?_
 refine QU rfl (fun h => ?_) (fun h => ?_)
 ·refine Qn ?_
  refine Qc ?_
  refine Qd ?_
  refine Qq ?_
  refine yR ?_
  refine yM rfl ?_
  refine yS rfl ?_
  refine yN ?_
  refine Qd ?_
  refine Q1 [.blk g2 a.cells 34, .blk g3 b.cells 34] [] QJ (same) ?_
  refine Qa 0 rfl (Qi rfl) ?_
  refine Qa 1 rfl (QP rfl rfl) ?_
  refine Qp 2 rfl (QX rfl (J1 (by omega))) ?_
  refine Qa 3 rfl (Qi rfl) ?_
  refine Qa 4 rfl (QP rfl rfl) ?_
  refine Qp 5 rfl (QX rfl (J1 (by omega))) ?_
  refine Qa 6 rfl (Ym rfl rfl) ?_
  refine Qa 7 rfl (Q6 rfl) ?_
  refine QB (by kernel_rfl) ?_
  refine Qc ?_
  refine yR ?_
  refine yM rfl ?_
  refine Qb (QL rfl rfl) ?_
  refine yN ?_
  refine QU rfl (fun hne => ?_) (fun hne => ?_)
  ·have hne2 : a.1.getD k 0 ^^^ b.1.getD k 0 ≠ 0 := fun h0 => hne (by rw [← UInt8.toBitVec_xor, h0]; rfl)
   have hc := QiE a b k (by omega) hk.2 hne2
   have hl := QgR (a.1.getD k 0 ^^^ b.1.getD k 0)
   refine yR ?_
   refine yM rfl ?_
   refine Qb (qR rfl rfl) ?_
   refine yM rfl ?_
   refine Qh ((QbA (a.1.getD k 0 ^^^ b.1.getD k 0)).comes) rfl rfl rfl fun _ => ?_
   refine Qb (QI rfl rfl) ?_
   refine yS rfl ?_
   refine yN ?_
   refine Qs ?_
   refine Q3 ?_
   refine Qr ?_
   refine Qr ?_
   refine Q3 ?_
   refine Qr ?_
   exact Qu rfl (aI rfl (show _ = ((Jc a b : Nat) : Int) by rw [hc]; omega)) fun w s => ⟨(), rfl, s.res (List.nil_sublist _) (by simp)⟩
  have heq : a.1.getD k 0 = b.1.getD k 0 := by
   refine QmV _ _ ?_
   have h1 := Decidable.not_not.1 hne
   exact_mod_cast h1
  refine Qn ?_
  refine Q2 ?_
  refine Qc ?_
  refine Q5 ?_
  refine Qb (QI rfl rfl) ?_
  refine yM rfl ?_
  refine QE ?_
  exact QH (k + 1) (⟨by omega, fun j hj => by by_cases hjk : j < k; exact hk.2 j hjk; obtain rfl : j = k := (by omega); exact heq⟩) (by omega) ⟨rfl, rfl, rfl, trivial⟩ (same)
 exact (hab (Qfn fun j hj => hk.2 j (by omega))).elim
theorem Qkd (b : B32) (i : Nat) (hi : i < 256) : QC Tryz.prog 157 [.agg b.cells.toArray, .int .i64 (i : Int)].toArray [] [] (fun _ : Unit => .agg (JJ b i).cells.toArray) (fun _ => []) := by
 have hb := b.2
 have hf : b.1.set (i / 8) (UInt8.ofBitVec ((b.1.getD (i / 8) 0).toBitVec ^^^ ((1 : BitVec 8) <<< (7 - i % 8)))) = (JJ b i).1 := by rw [QnG _ _ (by omega)]; rfl
 refine Qk Tryz.func157 rfl (n := 22) rfl rfl ?_
 intro W
 change H _ _ _ _ (Y7 0 [.agg (bc b.1).toArray, .int .i64 (i : Int)]) _ _
 refine yR ?_
 refine Qo (Q9 rfl) fun g2 => ?_
 refine Qo (Q0) fun g4 => ?_
 refine yN ?_
 refine Qd ?_
 refine yR ?_
 refine yM rfl ?_
 refine Qb (Ql (Vb rfl rfl) (decide_eq_true (by omega))) ?_
 refine yM rfl ?_
 refine yM rfl ?_
 refine Qb (Ql (QT rfl rfl) (decide_eq_true (by omega))) ?_
 refine Qb (Qy rfl rfl) ?_
 refine yN ?_
 refine Qz rfl ?_
 refine Q1 [.blk g2 (bc b.1) 34] [] QJ (same) ?_
 refine Qa 0 rfl (Qi rfl) ?_
 refine Qa 1 rfl (Zk rfl rfl) ?_
 refine Qa 2 rfl (QP rfl rfl) ?_
 refine Qp 3 rfl (QX rfl (J1 (by omega))) ?_
 refine Qa 4 rfl (Qi rfl) ?_
 refine Qa 5 rfl (VL rfl rfl) ?_
 refine Qa 6 rfl (YR rfl rfl) ?_
 refine Qa 7 rfl (Qb4 rfl rfl) ?_
 refine Qa 8 rfl (Ym rfl rfl) ?_
 refine Qa 9 rfl (QP rfl rfl) ?_
 refine Qv 10 ?_
 refine J4 10 rfl (Qad rfl rfl) ?_
 refine Qc ?_
 rw [hf]
 change H _ _ _ _ _ (.blk g2 (JJ b i).cells _ :: _) _
 refine yR ?_
 refine Qb (Qm rfl) ?_
 refine Q7 (Qw rfl rfl) ?_
 refine yN ?_
 refine Qs ?_
 exact Qu rfl (QZ rfl) fun w s => ⟨(), rfl, s.res (List.nil_sublist _) (by simp)⟩
theorem Qi3 (b : B32) (i : Nat) (hi : i < 256) (h : Q4 b i = true) : QC Tryz.prog 248 [.agg b.cells.toArray, .int .i64 (i : Int)].toArray [] [] (fun _ : Unit => .agg (JJ b i).cells.toArray) (fun _ => []) := by
 refine Qk Tryz.func248 rfl (n := 13) rfl rfl ?_
 intro W
 refine yR ?_
 refine Qo (Q9 rfl) fun g2 => ?_
 refine Qo (Q0) fun g4 => ?_
 refine yN ?_
 refine Qd ?_
 refine yR ?_
 refine Qb (Qm rfl) ?_
 refine yM rfl ?_
 refine Qh ((Qkf b i hi).comes) rfl rfl rfl fun _ => ?_
 rw [h]
 refine Qb (Ji rfl) ?_
 refine yN ?_
 refine Qt rfl ?_
 refine Qn ?_
 refine Qc ?_
 refine yR ?_
 refine Qb (Qm rfl) ?_
 refine yM rfl ?_
 refine Qh ((Qkd b i hi).comes) rfl rfl rfl fun _ => ?_
 refine Q7 (Qw rfl rfl) ?_
 refine yN ?_
 refine Qs ?_
 exact Qu rfl (QZ rfl) fun w s => ⟨(), rfl, s.res (List.nil_sublist _) (by simp)⟩
theorem Qpy (b : B32) : QC Tryz.prog 189 [.agg b.cells.toArray].toArray [] [] (fun _ : Unit => .int .i64 (Yl b 256)) (fun _ => []) := by
 refine Qk Tryz.func189 rfl (n := 17) rfl rfl ?_
 intro W
 refine yR ?_
 refine Qo (Q9 rfl) fun g1 => ?_
 refine yS rfl ?_
 refine yN ?_
 refine yR ?_
 refine yS rfl ?_
 refine yN ?_
 refine Qd ?_
 refine yR ?_
 refine Qb (Qm rfl) ?_
 refine Qo (Q0) fun g4 => ?_
 refine Q7 (Qw rfl rfl) ?_
 refine yN ?_
 refine Qq ?_
 refine QS (fun (s : B32 × Int × Nat) => -1 ≤ s.2.1 ∧ s.2.1 < 256 ∧ (∀ j : Nat, (j : Int) ≤ s.2.1 → Q4 s.1 j = false) ∧ Yl b 256 = (if s.1 = QN then s.2.1 else Yl s.1 256)) (fun (s : B32 × Int × Nat) => [(3, .int .i64 s.2.1), (4, .pointer (some ⟨s.2.2, 0, none⟩))]) (fun (s : B32 × Int × Nat) => [.blk s.2.2 s.1.cells 194]) (fun (s : B32 × Int × Nat) => (256 - s.2.1).toNat) (b, -1, g4) (⟨(show -1 ≤ (-1 : Int) by omega), (show (-1 : Int) < 256 by omega), fun j hj => (by have h : (j : Int) ≤ -1 := hj; omega), (show _ = (if b = QN then (-1 : Int) else Yl b 256) by by_cases hz : b = QN; rw [if_pos hz, hz]; exact V3 _ _ (fun j _ => qa j); rw [if_neg hz])⟩) ⟨rfl, rfl, trivial⟩ (same) ?_
 rintro ⟨r, i, g⟩ ⟨hi1, hi2, hl, he⟩
 dsimp only at hi1 hi2 hl he ⊢
 refine Qd ?_
 refine yR ?_
 refine Qb (Qm rfl) ?_
 refine Qb (QD rfl) ?_
 refine Qb (QdD rfl rfl) ?_
 refine yN ?_
 refine QU rfl (fun hz => ?_) (fun hz => ?_)
 ·have hz : ¬ r = QN := hz
  obtain ⟨c1, c2, c3⟩ := Qbr r hz
  have hci : i < (Jc r QN : Int) := by
   apply Int.lt_of_not_ge
   intro h
   rw [hl _ (by omega)] at c2
   cases c2
  have he2 := (he.trans (if_neg hz)).trans (Qjr r hz)
  refine Qn ?_
  refine Qc ?_
  refine Qd ?_
  refine Qq ?_
  refine Q5 ?_
  refine Qb (Qm rfl) ?_
  refine Qb (QD rfl) ?_
  refine Qh ((QbQ r QN).comes) rfl rfl rfl fun _ => ?_
  refine yS rfl ?_
  refine QE ?_
  refine Q2 ?_
  refine Qc ?_
  refine Qd ?_
  refine yR ?_
  refine Qb (Qm rfl) ?_
  refine yN ?_
  refine Q5 ?_
  refine Qo (Q0) fun g4 => ?_
  refine Q7 (Qw rfl rfl) ?_
  refine yN ?_
  refine Q5 ?_
  refine Qb (Qm rfl) ?_
  refine yM rfl ?_
  refine Qh ((Qi3 r (Jc r QN) c1 c2).comes) rfl rfl rfl fun _ => ?_
  refine Q7 (Qw rfl rfl) ?_
  refine QE ?_
  exact QH (JJ r (Jc r QN), (Jc r QN : Int), g4) (⟨by dsimp only; omega, by dsimp only; omega, fun j hj => by have hj2 : j ≤ Jc r QN := (by dsimp only at hj; omega); rw [qJ r _ j c1 (by omega)]; (by_cases e : j = Jc r QN; rw [if_pos e, c2]; rfl; rw [if_neg e]; exact c3 j (by omega)), he2⟩) (by dsimp only; omega) ⟨rfl, rfl, trivial⟩ (same)
 have hz : r = QN := Decidable.not_not.1 hz
 have he2 := he.trans (if_pos hz)
 refine QK ?_
 refine Qx ?_
 refine Qx ?_
 refine Q8 ?_
 refine Qc ?_
 refine yR ?_
 refine yM rfl ?_
 refine yS rfl ?_
 refine yN ?_
 refine Qs ?_
 exact Qu rfl (aI rfl he2.symm) fun w s => ⟨(), rfl, s.res (List.nil_sublist _) (by simp)⟩
end
section
open Go.RowKit
def QgA (x : UInt8) (m : Nat) : UInt8 := UInt8.ofBitVec (x.toBitVec &&& ((255 : BitVec 8) <<< (8 - m)))
theorem QkC (x : UInt8) (m j : Nat) (hm : m ≤ 8) (hj : j < 8) : J6 (QgA x m) j = (decide (j < m) && J6 x j) := by
 have key : ∀ n : Fin 256, ∀ m : Fin 9, ∀ j : Fin 8, J6 (QgA (UInt8.ofNat n.val) m.val) j.val = (decide (j.val < m.val) && J6 (UInt8.ofNat n.val) j.val) := by decide +kernel
 exact YD (p := fun x => ∀ m : Fin 9, ∀ j : Fin 8, J6 (QgA x m.val) j.val = (decide (j.val < m.val) && J6 x j.val)) key x ⟨m, by omega⟩ ⟨j, hj⟩
def Vm (b : B32) (n : Nat) : B32 := ⟨(List.range 32).map fun k => QgA (b.1.getD k 0) (min 8 (n - 8 * k)), by simp⟩
theorem qI (b : B32) (n i : Nat) (hi : i < 256) : Q4 (Vm b n) i = (decide (i < n) && Q4 b i) := by
 unfold Q4 Vm
 simp only
 rw [List.getD, List.getElem?_map, List.getElem?_range (show i / 8 < 32 by omega)]
 simp only [Option.map_some, Option.getD_some]
 rw [QkC _ _ _ (by omega) (by omega)]
 congr 1
 apply decide_eq_decide.2
 omega
theorem QkD (b : B32) (n : Nat) (h : 256 ≤ n) : Vm b n = b := YJ fun i hi => by rw [qI b n i hi, decide_eq_true (by omega)]; rfl
theorem QiI (b : B32) (n : Nat) (h : n < 256) (hb : Q4 b n = true) : JJ (Vm b (n + 1)) n = Vm b n := YJ fun i hi => by
 rw [qJ _ _ _ h hi, qI _ _ _ h, qI _ _ _ hi, qI _ _ _ hi]
 by_cases e : i = n
 ·subst e; simp [hb]
 rw [if_neg e, show decide (i < n + 1) = decide (i < n) from decide_eq_decide.2 (by omega)]
theorem QiJ (b : B32) (n : Nat) (h : n < 256) (hb : Q4 b n = false) : Vm b (n + 1) = Vm b n := YJ fun i hi => by
 rw [qI _ _ _ hi, qI _ _ _ hi]
 by_cases e : i = n
 ·subst e; simp [hb]
 rw [show decide (i < n + 1) = decide (i < n) from decide_eq_decide.2 (by omega)]
def QaV (b : B32) (n k : Nat) : List UInt8 := (List.range k).map (fun k => QgA (b.1.getD k 0) (min 8 (n - 8 * k))) ++ b.1.drop k
theorem Qnv (b : B32) (n : Nat) : QaV b n 32 = (Vm b n).1 := by
 have := b.2
 unfold QaV Vm
 rw [List.drop_of_length_le (by omega), List.append_nil]
theorem Qfh (b : B32) (n k : Nat) (h : k ≤ 32) : (QaV b n k).length = 32 := by
 have := b.2
 simp [QaV]
 omega
theorem QkE (b : B32) (n k : Nat) : (QaV b n k).getD k 0 = b.1.getD k 0 := by
 unfold QaV
 rw [List.getD, List.getElem?_append_right (by simp)]
 simp [List.getD]
theorem QkF (b : B32) (n k : Nat) (h : k < 32) : (QaV b n k).set k (QgA (b.1.getD k 0) (min 8 (n - 8 * k))) = QaV b n (k + 1) := by
 have hb := b.2
 unfold QaV
 rw [List.set_append_right _ _ (by simp), List.range_succ, List.map_append, List.append_assoc]
 congr 1
 rw [List.length_map, List.length_range, Nat.sub_self, List.drop_eq_getElem_cons (by omega), List.set_cons_zero]
 rfl
theorem Qdm {a b : B32} {k : Nat} (hk : k ≤ 256) (h1 : ∀ j, j < k → (Q4 a j ^^ Q4 b j) = false) (h2 : k = 256 ∨ (Q4 a k ^^ Q4 b k) = true) : Jc a b = k := by
 unfold Jc
 by_cases h : k < 256
 ·rcases h2 with h2 | h2
  ·omega
  rw [Qck h h2 h1]; rfl
 obtain rfl : k = 256 := by omega
 rw [List.find?_eq_none.2 fun i hi => by rw [h1 i (by simpa using hi)]; simp]
 rfl
theorem Qkz (b : B32) (i : Nat) : (((b.1.getD (i / 8) 0).toNat / 2 ^ (7 - i % 8) : Nat) : Int) % 2 = ((Y2 b i : Nat) : Int) := by
 unfold Y2 Q4 J6
 generalize (b.1.getD (i / 8) 0).toNat / 2 ^ (7 - i % 8) = y
 rcases (show y % 2 = 0 ∨ y % 2 = 1 by omega) with h | h
 ·rw [h]; simp; omega
 rw [h]; simp; omega
theorem Qnn (x : UInt8) (j : Nat) (h : J6 x j = true) : 2 ^ (7 - j) ≤ x.toNat := by
 apply Nat.le_of_not_lt
 intro h2
 unfold J6 at h
 rw [Nat.div_eq_of_lt h2] at h
 cases h
theorem QnH (x : UInt8) (j : Nat) (h : J6 x j = false) : UInt8.ofBitVec (BitVec.ofNat 8 (x.toNat + 2 ^ (7 - j))) = qK x j := by
 unfold qK Qle
 rw [h]
 rfl
theorem Qjf (x : UInt8) (j : Nat) (h : J6 x j = true) : UInt8.ofBitVec (BitVec.ofNat 8 (x.toNat - 2 ^ (7 - j))) = qK x j := by
 unfold qK Qle
 rw [h]
 rfl
end
section
open Go.RowKit
theorem QfV (b : B32) (i : Nat) (hi : i < 256) : QC Tryz.prog 203 [.agg b.cells.toArray, .int .i64 (i : Int)].toArray [] [] (fun _ : Unit => .int .i64 ((Y2 b i : Nat) : Int)) (fun _ => []) := by
 have hb := b.2
 have hd := Qkz b i
 have hx := UInt8.toNat_lt (b.1.getD (i / 8) 0)
 refine Qk Tryz.func203 rfl (n := 28) rfl rfl ?_
 intro W
 refine yR ?_
 refine Qo (Q9 rfl) fun g2 => ?_
 refine yS rfl ?_
 refine yN ?_
 refine Qd ?_
 refine yR ?_
 refine yM rfl ?_
 refine Qb (Ql (QT rfl rfl) (decide_eq_false (by omega))) ?_
 refine yM rfl ?_
 refine yM rfl ?_
 refine Qb (Ql (Jo rfl rfl) (decide_eq_false (by omega))) ?_
 refine Qb (Qy rfl rfl) ?_
 refine yN ?_
 refine Qt rfl ?_
 refine Qn ?_
 refine Qc ?_
 refine yR ?_
 refine yM rfl ?_
 refine Qb (Zk rfl rfl) ?_
 refine Qb (QP rfl rfl) ?_
 refine Qb (QX rfl (J1 (by omega))) ?_
 refine Qb (Jv (Zj rfl) (show _ = (((b.1.getD (i / 8) 0).toNat : Nat) : Int) from rfl)) ?_
 refine yS rfl ?_
 refine yN ?_
 refine Qd ?_
 refine yR ?_
 refine yM rfl ?_
 refine Qb (VL rfl rfl) ?_
 refine yS rfl ?_
 refine yN ?_
 refine Qq ?_
 generalize (b.1.getD (i / 8) 0) = x at *
 refine QS (fun (k : Nat) => i % 8 ≤ k ∧ k ≤ 7) (fun (k : Nat) => [(6, .int .i64 (k : Int)), (5, .int .i64 ((x.toNat / 2 ^ (k - i % 8) : Nat) : Int))]) (fun (k : Nat) => []) (fun (k : Nat) => 7 - k) (i % 8) (⟨Nat.le_refl _, by omega⟩) ⟨aI rfl (by omega), aI rfl (by rw [Nat.sub_self, Nat.pow_zero, Nat.div_one]), trivial⟩ (same) ?_
 intro k hk
 have hq : x.toNat / 2 ^ (k - i % 8) < 256 := Nat.lt_of_le_of_lt (Nat.div_le_self _ _) hx
 refine Qd ?_
 refine yR ?_
 refine yM rfl ?_
 refine Qb (QT rfl rfl) ?_
 refine yN ?_
 refine QU rfl (fun h => ?_) (fun h => ?_)
 ·have hs : x.toNat / 2 ^ (k - i % 8) / 2 = x.toNat / 2 ^ (k + 1 - i % 8) := by
   rw [Nat.div_div_eq_div_mul, ← Nat.pow_succ]
   congr 2
   omega
  generalize x.toNat / 2 ^ (k - i % 8) = y at *
  refine Qn ?_
  refine Qc ?_
  refine Qd ?_
  refine Qq ?_
  refine Q5 ?_
  refine yM rfl ?_
  refine Qb (Zk rfl rfl) ?_
  refine yS rfl ?_
  refine QE ?_
  refine Q2 ?_
  refine Qc ?_
  refine Q5 ?_
  refine yM rfl ?_
  refine Qb (QI rfl rfl) ?_
  refine yS rfl ?_
  refine QE ?_
  exact QH (k + 1) (⟨by omega, by omega⟩) (by omega) ⟨rfl, aI rfl (by rw [← hs]; rfl), trivial⟩ (same)
 obtain rfl : k = 7 := by omega
 generalize x.toNat / 2 ^ (7 - i % 8) = y at *
 refine QK ?_
 refine Qx ?_
 refine Qx ?_
 refine Q8 ?_
 refine Qc ?_
 refine yR ?_
 refine yM rfl ?_
 refine Qb (Jv (VL rfl rfl) hd) ?_
 refine yS rfl ?_
 refine yN ?_
 refine Qs ?_
 exact Qu rfl rfl fun w s => ⟨(), rfl, s.res (List.nil_sublist _) (by simp)⟩
theorem QoM (i : Nat) (hi : i < 256) : QC Tryz.prog 254 [.int .i64 (i : Int)].toArray [] [] (fun _ : Unit => .int .i64 ((2 ^ (7 - i % 8) : Nat) : Int)) (fun _ => []) := by
 refine Qk Tryz.func254 rfl (n := 14) rfl rfl ?_
 intro W
 refine yR ?_
 refine yS rfl ?_
 refine yN ?_
 refine yR ?_
 refine yS rfl ?_
 refine yN ?_
 refine Qd ?_
 refine yR ?_
 refine yM rfl ?_
 refine Qb (VL rfl rfl) ?_
 refine yS rfl ?_
 refine yN ?_
 refine Qq ?_
 refine QS (fun (k : Nat) => i % 8 ≤ k ∧ k ≤ 7) (fun (k : Nat) => [(4, .int .i64 (k : Int)), (3, .int .i64 ((2 ^ (k - i % 8) : Nat) : Int))]) (fun (k : Nat) => []) (fun (k : Nat) => 7 - k) (i % 8) (⟨Nat.le_refl _, by omega⟩) ⟨aI rfl (by omega), aI rfl (by rw [Nat.sub_self]; rfl), trivial⟩ (same) ?_
 intro k hk
 have hq : 2 ^ (k - i % 8) ≤ 2 ^ 7 := Nat.pow_le_pow_right (by decide) (by omega)
 refine Qd ?_
 refine yR ?_
 refine yM rfl ?_
 refine Qb (QT rfl rfl) ?_
 refine yN ?_
 refine QU rfl (fun h => ?_) (fun h => ?_)
 ·have hs : 2 ^ (k - i % 8) * 2 = 2 ^ (k + 1 - i % 8) := by
   rw [← Nat.pow_succ]
   congr 1
   omega
  generalize 2 ^ (k - i % 8) = y at *
  refine Qn ?_
  refine Qc ?_
  refine Qd ?_
  refine Qq ?_
  refine Q5 ?_
  refine yM rfl ?_
  refine Qb (qR rfl rfl) ?_
  refine yS rfl ?_
  refine QE ?_
  refine Q2 ?_
  refine Qc ?_
  refine Q5 ?_
  refine yM rfl ?_
  refine Qb (QI rfl rfl) ?_
  refine yS rfl ?_
  refine QE ?_
  exact QH (k + 1) (⟨by omega, by omega⟩) (by omega) ⟨rfl, aI rfl (by rw [← hs]; rfl), trivial⟩ (same)
 obtain rfl : k = 7 := by omega
 refine QK ?_
 refine Qx ?_
 refine Qx ?_
 refine Q8 ?_
 refine Qc ?_
 refine yR ?_
 refine yM rfl ?_
 refine yS rfl ?_
 refine yN ?_
 refine Qs ?_
 exact Qu rfl rfl fun w s => ⟨(), rfl, s.res (List.nil_sublist _) (by simp)⟩
theorem Qj9 (b : B32) (i : Nat) (hi : i < 256) : QC Tryz.prog 204 [.agg b.cells.toArray, .int .i64 (i : Int)].toArray [] [] (fun _ : Unit => .agg (JJ b i).cells.toArray) (fun _ => []) := by
 have hb := b.2
 have hx := UInt8.toNat_lt (b.1.getD (i / 8) 0)
 have hq : 2 ^ (7 - i % 8) ≤ 2 ^ 7 := Nat.pow_le_pow_right (by decide) (by omega)
 have hf : b.1.set (i / 8) (qK (b.1.getD (i / 8) 0) (i % 8)) = (JJ b i).1 := rfl
 have hup := QnH (b.1.getD (i / 8) 0) (i % 8)
 have hdn := Qjf (b.1.getD (i / 8) 0) (i % 8)
 have hge := Qnn (b.1.getD (i / 8) 0) (i % 8)
 have hv := QoM i hi
 generalize 2 ^ (7 - i % 8) = q at *
 refine Qk Tryz.func204 rfl (n := 37) rfl rfl ?_
 intro W
 change H _ _ _ _ (Y7 0 [.agg (bc b.1).toArray, .int .i64 (i : Int)]) _ _
 refine yR ?_
 refine Qo (Q9 rfl) fun g2 => ?_
 refine Qo (Q0) fun g4 => ?_
 refine yN ?_
 refine Qd ?_
 refine yR ?_
 refine Qb (Qm rfl) ?_
 refine yM rfl ?_
 refine Qh ((QfV b i hi).comes) rfl rfl rfl fun _ => ?_
 by_cases hbit : Q4 b i = true
 ·have hn : Y2 b i = 1 := by unfold Y2; rw [hbit]; rfl
  rw [hn]
  have hdn := hdn hbit
  have hge := hge hbit
  refine yN ?_
  refine Qq ?_
  refine yR ?_
  refine Qb (Ql (QG rfl rfl) (show _ = false by decide)) ?_
  refine yS rfl ?_
  refine yN ?_
  refine Qt rfl ?_
  refine yR ?_
  refine Qb (Ql (QG rfl rfl) (show _ = true by decide)) ?_
  refine yS rfl ?_
  refine yN ?_
  refine Qz rfl ?_
  refine Q1 [.blk g2 (bc b.1) 34] [] QJ (same) ?_
  refine Qa 0 rfl (Qi rfl) ?_
  refine Qa 1 rfl (Zk rfl rfl) ?_
  refine Qa 2 rfl (Qi rfl) ?_
  refine Qa 3 rfl (Zk rfl rfl) ?_
  refine Qa 4 rfl (QP rfl rfl) ?_
  refine Qp 5 rfl (QX rfl (J1 (by omega))) ?_
  refine Qa 6 rfl (Jv (Zj rfl) (show _ = (((b.1.getD (i / 8) 0).toNat : Nat) : Int) from rfl)) ?_
  refine Qa 7 rfl (Qi rfl) ?_
  refine Qv 8 ?_
  refine QR 8 rfl (hv.comes) rfl rfl rfl (fun xx => same) fun _ => ?_
  refine Qa 9 rfl (YR rfl rfl) ?_
  refine Qa 10 rfl (Zi rfl) ?_
  refine Qa 11 rfl (QP rfl rfl) ?_
  refine Qv 12 ?_
  refine J4 12 rfl (Qad rfl rfl) ?_
  refine Q2 ?_
  refine Qc ?_
  rw [hdn, hf]
  change H _ _ _ _ _ (.blk g2 (JJ b i).cells _ :: _) _
  refine yR ?_
  refine Qb (Qm rfl) ?_
  refine Q7 (Qw rfl rfl) ?_
  refine yN ?_
  refine Qs ?_
  exact Qu rfl (QZ rfl) fun w s => ⟨(), rfl, s.res (List.nil_sublist _) (by simp)⟩
 have hbit : Q4 b i = false := by simpa using hbit
 have hn : Y2 b i = 0 := by unfold Y2; rw [hbit]; rfl
 rw [hn]
 have hup := hup hbit
 refine yN ?_
 refine Qq ?_
 refine yR ?_
 refine Qb (Ql (QG rfl rfl) (show _ = true by decide)) ?_
 refine yS rfl ?_
 refine yN ?_
 refine Qz rfl ?_
 refine Q1 [.blk g2 (bc b.1) 34] [] QJ (same) ?_
 refine Qa 0 rfl (Qi rfl) ?_
 refine Qa 1 rfl (Zk rfl rfl) ?_
 refine Qa 2 rfl (Qi rfl) ?_
 refine Qa 3 rfl (Zk rfl rfl) ?_
 refine Qa 4 rfl (QP rfl rfl) ?_
 refine Qp 5 rfl (QX rfl (J1 (by omega))) ?_
 refine Qa 6 rfl (Jv (Zj rfl) (show _ = (((b.1.getD (i / 8) 0).toNat : Nat) : Int) from rfl)) ?_
 refine Qa 7 rfl (Qi rfl) ?_
 refine Qv 8 ?_
 refine QR 8 rfl (hv.comes) rfl rfl rfl (fun xx => same) fun _ => ?_
 refine Qa 9 rfl (QI rfl rfl) ?_
 refine Qa 10 rfl (Zi rfl) ?_
 refine Qa 11 rfl (QP rfl rfl) ?_
 refine Qv 12 ?_
 refine J4 12 rfl (Qad rfl rfl) ?_
 refine Q2 ?_
 refine Qc ?_
 rw [hup, hf]
 change H _ _ _ _ _ (.blk g2 (JJ b i).cells _ :: _) _
 refine yR ?_
 refine Qb (Qm rfl) ?_
 refine Q7 (Qw rfl rfl) ?_
 refine yN ?_
 refine Qs ?_
 exact Qu rfl (QZ rfl) fun w s => ⟨(), rfl, s.res (List.nil_sublist _) (by simp)⟩
theorem Qkk (b : B32) (n : Nat) (hn : n ≤ 256) : QC Tryz.prog 130 [.agg b.cells.toArray, .int .i64 (n : Int)].toArray [] [] (fun _ : Unit => .agg (Vm b n).cells.toArray) (fun _ => []) := by
 refine Qk Tryz.func130 rfl (n := 21) rfl rfl ?_
 intro W
 refine yR ?_
 refine Qo (Q9 rfl) fun g2 => ?_
 refine Qo (Q0) fun g4 => ?_
 refine yN ?_
 refine Qd ?_
 refine yR ?_
 refine yM rfl ?_
 refine Qb (Ql (QT rfl rfl) (decide_eq_false (by omega))) ?_
 refine yN ?_
 refine Qt rfl ?_
 refine Qn ?_
 refine Qc ?_
 refine Qd ?_
 refine yR ?_
 refine yS rfl ?_
 refine yN ?_
 refine Qq ?_
 rw [show b.cells = (Vm b 256).cells by rw [QkD b 256 (Nat.le_refl _)]]
 refine QS (fun (j : Nat) => j ≤ 256 - n) (fun (j : Nat) => [(5, .int .i64 (255 - (j : Int))), (1, .int .i64 (n : Int)), (2, .pointer (some ⟨g2, 0, none⟩)), (4, .pointer (some ⟨g4, 0, none⟩))]) (fun (j : Nat) => [.blk g2 (Vm b (256 - j)).cells 34, .blk g4 QN.cells 34]) (fun (j : Nat) => 256 - j) 0 (by omega) ⟨rfl, rfl, rfl, rfl, trivial⟩ (same) ?_
 intro j hj
 refine Qd ?_
 refine yR ?_
 refine yM rfl ?_
 refine yM rfl ?_
 refine Qb (Vb rfl rfl) ?_
 refine yN ?_
 refine QU rfl (fun h => ?_) (fun h => ?_)
 ·have hi : 255 - j < 256 := by omega
  have h1 : 256 - j = (255 - j) + 1 := by omega
  have h2 : 256 - (j + 1) = 255 - j := by omega
  rw [h1]
  have hbt : Y2 (Vm b (255 - j + 1)) (255 - j) = Y2 b (255 - j) := by unfold Y2; rw [qI _ _ _ hi, decide_eq_true (by omega)]; rfl
  refine Qn ?_
  refine Qc ?_
  refine Qd ?_
  refine Qq ?_
  refine yR ?_
  refine Qb (Qm rfl) ?_
  refine yM rfl ?_
  refine h_E (E' := [(14, .int .i64 ((255 - j : Nat) : Int)), (13, .agg (Vm b (255 - j + 1)).cells.toArray), (5, .int .i64 ((255 - j : Nat) : Int)), (1, .int .i64 (n : Int)), (2, .pointer (some ⟨g2, 0, none⟩)), (4, .pointer (some ⟨g4, 0, none⟩))]) ⟨aI rfl (by omega), rfl, aI rfl (by omega), rfl, rfl, rfl, trivial⟩ ?_
  refine Qh ((QfV (Vm b (255 - j + 1)) (255 - j) hi).comes) rfl rfl rfl fun _ => ?_
  rw [hbt]
  by_cases hbit : Q4 b (255 - j) = true
  ·have hn1 : Y2 b (255 - j) = 1 := by unfold Y2; rw [hbit]; rfl
   rw [hn1]
   refine Qb (Ql (QG rfl rfl) (show _ = true by decide)) ?_
   refine yN ?_
   refine Qz rfl ?_
   refine Q5 ?_
   refine Qb (Qm rfl) ?_
   refine yM rfl ?_
   refine Qh ((Qj9 (Vm b (255 - j + 1)) (255 - j) hi).comes) rfl rfl rfl fun _ => ?_
   rw [QiI b (255 - j) hi hbit]
   refine Q7 (Qw rfl rfl) ?_
   refine QE ?_
   refine Q2 ?_
   refine Qc ?_
   refine Q5 ?_
   refine yM rfl ?_
   refine Qb (YQ rfl rfl) ?_
   refine yS rfl ?_
   refine QE ?_
   rw [← h2]
   exact QH (j + 1) (by omega) (by omega) ⟨aI rfl (by omega), rfl, rfl, rfl, trivial⟩ (same)
  have hbit : Q4 b (255 - j) = false := by simpa using hbit
  have hn1 : Y2 b (255 - j) = 0 := by unfold Y2; rw [hbit]; rfl
  rw [hn1, QiJ b (255 - j) hi hbit]
  refine Qb (Ql (QG rfl rfl) (show _ = false by decide)) ?_
  refine yN ?_
  refine Qt rfl ?_
  refine Qn ?_
  refine Q2 ?_
  refine Qc ?_
  refine Q5 ?_
  refine yM rfl ?_
  refine Qb (YQ rfl rfl) ?_
  refine yS rfl ?_
  refine QE ?_
  rw [← h2]
  exact QH (j + 1) (by omega) (by omega) ⟨aI rfl (by omega), rfl, rfl, rfl, trivial⟩ (same)
 obtain rfl : j = 256 - n := by omega
 rw [show 256 - (256 - n) = n by omega]
 refine QK ?_
 refine Qx ?_
 refine Qx ?_
 refine Q8 ?_
 refine Qc ?_
 refine yR ?_
 refine Qb (Qm rfl) ?_
 refine Q7 (Qw rfl rfl) ?_
 refine yN ?_
 refine Qs ?_
 exact Qu rfl (QZ rfl) fun w s => ⟨(), rfl, s.res (List.nil_sublist _) (by simp)⟩
end
section
open Go.RowKit
def Jj (n : Nat) (l : List UInt8) : B32 := Vm (sha l) n
abbrev Jd : List Value := wc .u32 K64
theorem QqK (b : B32) (n : Nat) (hn : n ≤ 256) : QC Tryz.prog 148 [.agg b.cells.toArray, .int .i64 (n : Int)].toArray [] [] (fun _ : Unit => .agg (Vm b n).cells.toArray) (fun _ => []) := by
 refine Qk Tryz.func148 rfl (n := 29) rfl rfl ?_
 intro W
 change H _ _ _ _ (Y7 0 [.agg (bc (QaV b n 0)).toArray, .int .i64 (n : Int)]) _ _
 have h0 := Qfh b n 0 (by omega)
 refine yR ?_
 refine Qo (Q9 (cs := bc (QaV b n 0)) rfl) fun g2 => ?_
 refine Qo (Q0) fun g4 => ?_
 refine yN ?_
 refine yR ?_
 refine yM rfl ?_
 refine Qb (Jv (Qpk rfl rfl) (show _ = (n : Int) by rw [if_neg (by omega)])) ?_
 refine Qb (Jv (Qma rfl rfl) (show _ = (n : Int) by split <;> omega)) ?_
 refine yS rfl ?_
 refine yN ?_
 refine Qd ?_
 refine yR ?_
 refine yM rfl ?_
 refine yN ?_
 refine Qq ?_
 refine QS (fun (k : Nat) => k ≤ 32) (fun (k : Nat) => [(10, .int .i64 (k : Int)), (1, .int .i64 (n : Int)), (2, .pointer (some ⟨g2, 0, none⟩)), (4, .pointer (some ⟨g4, 0, none⟩))]) (fun (k : Nat) => [.blk g2 (bc (QaV b n k)) 45, .blk g4 QN.cells 45]) (fun (k : Nat) => 32 - k) 0 (by omega) ⟨rfl, rfl, rfl, rfl, trivial⟩ (same) ?_
 intro k hk
 have hl := Qfh b n k hk
 have hg := QkE b n k
 refine yR ?_
 refine Qb (QT rfl rfl) ?_
 refine yN ?_
 refine Qd ?_
 refine QU rfl (fun h => ?_) (fun h => ?_)
 ·have hst := QkF b n k (by omega)
  unfold QgA at hst
  refine Qn ?_
  refine Qc ?_
  refine Qd ?_
  refine Qq ?_
  refine yR ?_
  refine yM rfl ?_
  refine yS rfl ?_
  refine yN ?_
  refine yR ?_
  refine yM rfl ?_
  refine yM rfl ?_
  refine Qb (qR rfl rfl) ?_
  refine Qb (YQ rfl rfl) ?_
  refine Qb (Jv (Qpk rfl rfl) (show _ = ((n - 8 * k : Nat) : Int) by split <;> omega)) ?_
  refine Qb (Jv (Qma rfl rfl) (show _ = ((min 8 (n - 8 * k) : Nat) : Int) by split <;> omega)) ?_
  refine yS rfl ?_
  refine yN ?_
  refine Q1 [.blk g2 (bc (QaV b n k)) 45] [] QJ (same) ?_
  refine Qa 0 rfl (Qi rfl) ?_
  refine Qa 1 rfl (QP rfl rfl) ?_
  refine Qp 2 rfl (QX rfl (J1 (by omega))) ?_
  refine Qa 3 rfl (Qi rfl) ?_
  refine Qa 4 rfl (YR rfl rfl) ?_
  refine Qa 5 rfl (Qb4 rfl rfl) ?_
  refine Qa 6 rfl (qp rfl rfl) ?_
  refine Qa 7 rfl (QP rfl rfl) ?_
  refine Qv 8 ?_
  refine J4 8 rfl (Qad rfl rfl) ?_
  refine Q2 ?_
  refine Qc ?_
  rw [hg, hst]
  refine Q5 ?_
  refine Qb (QI rfl rfl) ?_
  refine yM rfl ?_
  refine QE ?_
  exact QH (k + 1) (by omega) (by omega) ⟨rfl, rfl, rfl, rfl, trivial⟩ (same)
 obtain rfl : k = 32 := by omega
 rw [Qnv]
 change H _ _ _ _ _ (.blk g2 (Vm b n).cells _ :: _) _
 refine QK ?_
 refine Qx ?_
 refine Qx ?_
 refine Q8 ?_
 refine Qc ?_
 refine yR ?_
 refine Qb (Qm rfl) ?_
 refine Q7 (Qw rfl rfl) ?_
 refine yN ?_
 refine Qs ?_
 exact Qu rfl (QZ rfl) fun w s => ⟨(), rfl, s.res (List.nil_sublist _) (by simp)⟩
theorem Qme (b : B32) (n : Nat) (hn : n ≤ 256) : QC Tryz.prog 69 [.agg b.cells.toArray, .int .i64 (n : Int)].toArray [] [] (fun _ : Unit => .agg (Vm b n).cells.toArray) (fun _ => []) := by
 refine Qk Tryz.func69 rfl (n := 8) rfl rfl ?_
 intro W
 refine yR ?_
 refine Qo (Q9 rfl) fun g2 => ?_
 refine Qo (Q0) fun g4 => ?_
 refine yN ?_
 refine yR ?_
 refine Qb (Qm rfl) ?_
 refine yM rfl ?_
 refine Qh ((Qkk b n hn).comes) rfl rfl rfl fun _ => ?_
 refine Q7 (Qw rfl rfl) ?_
 refine yN ?_
 refine Qs ?_
 exact Qu rfl (QZ rfl) fun w s => ⟨(), rfl, s.res (List.nil_sublist _) (by simp)⟩
theorem QdF (n : Nat) (hn : n ≤ 256) (l : List UInt8) (B : Option Addr) (c : Nat) (hB : B = none → l.length = 0 ∧ c = 0) (hl : l.length ≤ 100000000000) : QC Tryz.prog 27 [.int .i64 (n : Int), .slice B l.length c].toArray [.rd B (bc l)] [] (fun _ : Unit => .agg (Jj n l).cells.toArray) (fun _ => []) := by
 refine Qk Tryz.func27 rfl (n := 9) rfl rfl ?_
 intro W
 refine yR ?_
 refine Qo (Q0) fun g4 => ?_
 refine yN ?_
 refine yR ?_
 refine yM rfl ?_
 refine Qh ((Qmg l B c hB hl).comes) rfl rfl rfl fun _ => ?_
 refine yM rfl ?_
 refine Qh ((Qme (sha l) n hn).comes) rfl rfl rfl fun _ => ?_
 change H _ _ _ _ ((_, .agg (Jj n l).cells.toArray) :: _) _ _
 refine Q7 (Qw rfl rfl) ?_
 refine yN ?_
 refine Qs ?_
 exact Qu rfl (QZ rfl) fun w s => ⟨(), rfl, s.res (List.nil_sublist _) (by simp)⟩
theorem Qda (n : Nat) (hn : n ≤ 256) : QC Tryz.prog 32 [.int .i64 (n : Int)].toArray [] [] (fun _ : Unit => .bool true) (fun _ => []) := by
 refine Qk Tryz.func32 rfl (n := 9) rfl rfl ?_
 intro W
 refine yR ?_
 refine yS rfl ?_
 refine yN ?_
 refine yR ?_
 refine yM rfl ?_
 refine Qb (Ql (Vb rfl rfl) (decide_eq_true (by omega))) ?_
 refine yM rfl ?_
 refine yM rfl ?_
 refine Qb (Ql (Qb3 rfl rfl) (decide_eq_true (by omega))) ?_
 refine Qb (Qy rfl rfl) ?_
 refine yS rfl ?_
 refine yN ?_
 refine Qs ?_
 exact Qu rfl rfl fun w s => ⟨(), rfl, s.res (List.nil_sublist _) (by simp)⟩
theorem Qkm (i : Int) (h : ¬ (0 ≤ i ∧ i ≤ 256)) : QC Tryz.prog 32 [.int .i64 i].toArray [] [] (fun _ : Unit => .bool false) (fun _ => []) := by
 refine Qk Tryz.func32 rfl (n := 9) rfl rfl ?_
 intro W
 by_cases h0 : 0 ≤ i
 ·refine Qd ?_
  refine Q5 ?_
  refine yS rfl ?_
  refine yN ?_
  refine yR ?_
  refine yM rfl ?_
  refine Qb (Ql (Vb rfl rfl) (decide_eq_true (by omega))) ?_
  refine yM rfl ?_
  refine yM rfl ?_
  refine Qb (Ql (Qb3 rfl rfl) (decide_eq_false (by omega))) ?_
  refine Qb (Qy rfl rfl) ?_
  refine yS rfl ?_
  refine yN ?_
  refine Qs ?_
  exact Qu rfl rfl fun w s => ⟨(), rfl, s.res (List.nil_sublist _) (by simp)⟩
 refine Qd ?_
 refine Q5 ?_
 refine yS rfl ?_
 refine yN ?_
 refine yR ?_
 refine yM rfl ?_
 refine Qb (Ql (Vb rfl rfl) (decide_eq_false (by omega))) ?_
 refine yM rfl ?_
 refine Qg ?_
 refine Qg ?_
 refine Qb (Qy rfl rfl) ?_
 refine yS rfl ?_
 refine yN ?_
 refine Qs ?_
 exact Qu rfl rfl fun w s => ⟨(), rfl, s.res (List.nil_sublist _) (by simp)⟩
theorem QqN (n : Nat) (hn : n ≤ 256) : QC Tryz.prog 79 [.int .i64 (n : Int)].toArray [] [] (fun u : Nat × Nat => .tuple #[.pointer (some ⟨u.1, 0, none⟩), .int .i64 0]) (fun u => [.blk u.1 [.pointer (some ⟨u.2, 0, none⟩), .int .i64 (n : Int)] 170, .blk u.2 [.int .i64 0] 272]) := by
 refine Qk Tryz.func79 rfl (n := 15) rfl rfl ?_
 intro W
 refine yR ?_
 refine yS rfl ?_
 refine yS rfl ?_
 refine yN ?_
 refine Qd ?_
 refine yR ?_
 refine yM rfl ?_
 refine Qb (Ql (QT rfl rfl) (decide_eq_false (by omega))) ?_
 refine yM rfl ?_
 refine yM rfl ?_
 refine Qb (Ql (Jo rfl rfl) (decide_eq_false (by omega))) ?_
 refine Qb (Qy rfl rfl) ?_
 refine yN ?_
 refine Qt rfl ?_
 refine Qn ?_
 refine Qc ?_
 refine yR ?_
 refine Qb (QD rfl) ?_
 refine Qo (Q9 rfl) fun g11 => ?_
 refine yM rfl ?_
 refine Qb (QD rfl) ?_
 refine Qo (Q9 rfl) fun g14 => ?_
 refine yS rfl ?_
 refine yS rfl ?_
 refine yN ?_
 refine Qs ?_
 exact QO rfl rfl rfl fun w s => ⟨(g14, g11), rfl, s.res (List.Sublist.refl _) (by simp [Fa.wr])⟩
theorem VP (n : Nat) (hn : n ≤ 256) (gh gc k : Nat) (hk : k ≤ 1000000000000) (l : List UInt8) (B : Option Addr) (c : Nat) (hB : B = none → l.length = 0 ∧ c = 0) (hl : l.length ≤ 100000000000) : QC Tryz.prog 89 [.pointer (some ⟨gh, 0, none⟩), .slice B l.length c].toArray [.rd (some ⟨gh, 0, none⟩) [.pointer (some ⟨gc, 0, none⟩), .int .i64 (n : Int)], .rd B (bc l), .rd (some ⟨1, 0, none⟩) Jd] [.blk gc [.int .i64 (k : Int)] 272] (fun _ : Unit => .agg (Jj n l).cells.toArray) (fun _ => [.blk gc [.int .i64 ((k + 1 : Nat) : Int)] 272]) := by
 refine Qk Tryz.func89 rfl (n := 25) rfl rfl ?_
 intro W
 refine yR ?_
 refine Qo (Q0) fun g4 => ?_
 refine yN ?_
 refine Qd ?_
 refine yR ?_
 refine yM rfl ?_
 refine Qb (J2 rfl rfl) ?_
 refine yN ?_
 refine Qt rfl ?_
 refine Qn ?_
 refine Qc ?_
 refine yR ?_
 refine yM rfl ?_
 refine Qb (QA rfl) ?_
 refine Qb (Qe rfl) ?_
 refine Qb (Qf rfl) ?_
 refine Qb (QA rfl) ?_
 refine Qb (Qe rfl) ?_
 refine Qb (Qf rfl) ?_
 refine Qb (Jv (QI rfl rfl) (show _ = ((k + 1 : Nat) : Int) by omega)) ?_
 refine Qb (QA rfl) ?_
 refine Qb (Qe rfl) ?_
 refine Q7 (QV rfl rfl rfl) ?_
 refine yN ?_
 refine Qd ?_
 refine Q1 [.rd (some ⟨gh, 0, none⟩) [.pointer (some ⟨gc, 0, none⟩), .int .i64 (n : Int)]] [] QJ (same) ?_
 refine Qa 0 rfl (Qi rfl) ?_
 refine Qa 2 rfl (Qi rfl) ?_
 refine Qa 3 rfl (QA rfl) ?_
 refine Qa 4 rfl (Qe rfl) ?_
 refine Qp 5 rfl (Qf rfl) ?_
 refine Qv 1 ?_
 refine QR 1 rfl ((QqU l B c hB hl).comes) rfl rfl rfl (fun xx => same) fun _ => ?_
 refine Qv 6 ?_
 refine QR 6 rfl ((QqK (sha l) n hn).comes) rfl rfl rfl (fun xx => same) fun _ => ?_
 refine Qv 7 ?_
 refine J4 7 rfl (Qw rfl rfl) ?_
 refine Qc ?_
 change H _ _ _ _ _ (.blk g4 (Jj n l).cells _ :: _) _
 refine Qs ?_
 exact Qu rfl (QZ rfl) fun w s => ⟨(), rfl, (same w s).res (List.Sublist.refl _) (by simp [Fa.wr])⟩
end
section
open Go.RowKit
section
variable {P : Program} {A : List Fa} {W : World} {n : Nat} {D : List Deferred} {E : Env} {L M : List Fa} {T : TypeId} {x y : Operand}
theorem QlY {e size bytes : Nat} {z : Value} [E' : TS P T e size bytes z] {B : Option Addr} {N c : Nat} (hx : ev E x = some (.slice B N c)) : QM P n D E L (.call { callee := .builtin .cap, args := #[x], argTypes := #[T] }) (.int .i64 (c : Int)) := fun a w ka s o ho => by
 unfold execOp
 simp [ho, resolve, invoke, builtin, ka.ev hx, Builtin.cap_, run_underlying E'.el.ht, goInt]
theorem QqG {t e xt size bytes N : Nat} {z : Value} {k : IntKind} [E' : TS P t e size bytes z] (hxt : P.underlying xt = some (.int k)) (hs : ev E x = some (.slice none 0 0)) (hx : ev E y = some (.int .i64 (N : Int))) (h0 : 0 < N) (hb : N * bytes ≤ 140737488355328 := by omega) :
  JO P A W n D E L (.call { callee := .builtin .append, args := #[x, y], argTypes := #[t, xt] }) (fun u : Nat × Nat => .slice (some ⟨u.1, 0, none⟩) N u.2) (fun u => .own (.slice (some ⟨u.1, 0, none⟩) N u.2) N e size ((List.range (N * size)).map fun i => z.cells[i % size]!) :: L) := fun a w ka s o hop => by
 obtain ⟨v', w', hrun, h2, h3, h4⟩ := QmR hxt hop (ka.ev hs) (ka.ev hx) h0 hb (base := 0) (Nat.zero_le _)
 have hb2 : Below w.heap.size w w' := ⟨h3.os, h3.tape, h3.output, h3.size, fun k hk => h3.block k hk (by simp)⟩
 rcases h2.2 with ⟨rfl, h5⟩ | ⟨g, cap, cur, rfl, _⟩
 ·omega
 have hg : some g = some w.heap.size := h4
 injection hg with hg
 subst hg
 refine ⟨(w.heap.size, cap), w', hrun, (s.call hb2).cons h2 ?_ ?_⟩
 ·intro f hf _ k hk hk'
  have hk2 : some w.heap.size = some k := hk
  injection hk2 with hk2
  have := Fa.bound (s.ok f hf) hk'
  omega
 intro _ k hk
 have hk2 : some w.heap.size = some k := hk
 injection hk2 with hk2
 exact .inl (by have := s.size; omega)
end
theorem Sx.shrink {A : List Fa} {W w : World} {L M : List Fa} {g N c m e size : Nat} {xs : List Value} (s : Sx A W w L) [hd : TakeG g L N c e size xs M] (hm : m ≤ N) : Sx A W w (.own (.slice (some ⟨g, 0, none⟩) m c) m e size (xs.take (m * size)) :: M) := by
 have s2 := s.perm hd.perm
 have ho : w.ownsRow 0 e size (.slice (some ⟨g, 0, none⟩) N c) N xs := s2.ok (.own _ _ _ _ _) (List.mem_cons_self ..)
 obtain ⟨cur, hb, h3, h4, h5, h6⟩ := JT ho
 refine s2.turn rfl (fun k hk => .inl hk) (qC hb ?_ (Nat.le_trans hm h3) h4 h5 ?_) rfl rfl rfl (Nat.le_refl _) fun _ _ _ => rfl
 ·rw [List.length_take, ho.1]
  exact Nat.min_eq_left (Nat.mul_le_mul_right _ hm)
 rw [← h6, List.take_take, Nat.min_eq_left (Nat.mul_le_mul_right _ hm)]
theorem Qix (N : Nat) (hN : N ≤ 100000000000) : QC Tryz.prog 152 [.slice none 0 0, .int .i64 (N : Int)].toArray [] [] (fun u : Option Addr × Nat => .slice u.1 0 u.2) (fun u => [.own (.slice u.1 0 u.2) 0 5 1 (bc [])]) := by
 refine Qk Tryz.func152 rfl (n := 27) rfl rfl ?_
 intro W
 refine yR ?_
 refine yS rfl ?_
 refine yN ?_
 refine Qd ?_
 refine yR ?_
 refine yM rfl ?_
 refine Qb (Ql (QT rfl rfl) (decide_eq_false (by omega))) ?_
 refine yN ?_
 refine Qt rfl ?_
 refine Qn ?_
 refine Qc ?_
 refine Qd ?_
 refine yR ?_
 refine yM rfl ?_
 refine yM rfl ?_
 refine Qb (QlY rfl) ?_
 refine yM rfl ?_
 refine Qb (QF rfl) ?_
 refine Qb (YQ rfl rfl) ?_
 refine Qb (Jv (YQ rfl rfl) (show _ = (N : Int) by omega)) ?_
 refine yS rfl ?_
 refine yN ?_
 refine yR ?_
 refine yM rfl ?_
 refine Qb (Jo rfl rfl) ?_
 refine yN ?_
 refine QU rfl (fun h => ?_) (fun h => ?_)
 ·refine Q5 ?_
  refine yM rfl ?_
  refine yM rfl ?_
  refine Qb (QlY rfl) ?_
  refine Qb (QbC (Qia rfl rfl) (show _ = Value.slice none 0 0 from rfl)) ?_
  refine yM rfl ?_
  refine Qo (QqG (N := N) Tryz.underlying3 rfl rfl (by omega)) fun ⟨g22, c22⟩ => ?_
  refine Jq (φ := N ≤ c22) (fun w s => (s.ownLe (B := some ⟨g22, 0, none⟩) (N := N) (c := c22)).1) fun hc => ?_
  refine h_L (fun w s => s.shrink (g := g22) (m := 0) (Nat.zero_le _)) ?_
  rw [Nat.zero_mul, List.take_zero]
  refine yM rfl ?_
  refine Qb (QF rfl) ?_
  refine Qb (QbC (Qia rfl rfl) (show _ = Value.slice (some ⟨g22, 0, none⟩) 0 c22 by rw [Qan (by omega)])) ?_
  refine yS rfl ?_
  refine yN ?_
  refine yR ?_
  refine yM rfl ?_
  refine yS rfl ?_
  refine yN ?_
  refine Qs ?_
  exact Qu rfl rfl fun w s => ⟨(some ⟨g22, 0, none⟩, c22), rfl, s.res (List.Sublist.refl _) (by simp [Fa.wr])⟩
 refine Qn ?_
 refine Qc ?_
 refine yR ?_
 refine yM rfl ?_
 refine yS rfl ?_
 refine yN ?_
 refine Qs ?_
 refine Ju 5 1 (xs := bc []) rfl ?_
 exact Qu rfl rfl fun w s => ⟨(none, 0), rfl, s.res (List.Sublist.refl _) (by simp [Fa.wr])⟩
abbrev Seg := Option Addr × Nat × List UInt8
def sv (x : Seg) : Value := .slice x.1 x.2.2.length x.2.1
def svs (xs : List Seg) : List Value := xs.map sv
def Vc : List Seg → List Fa
 | [] => []
 | x :: l => .rd x.1 (bc x.2.2) :: Vc l
theorem Qj8 {xs : List Seg} {x : Seg} (h : x ∈ xs) : Fa.rd x.1 (bc x.2.2) ∈ Vc xs := by
 induction xs with
 | nil => cases h
 | cons y l ih => exact (List.mem_cons.1 h).elim (fun e => by rw [e]; exact List.mem_cons_self ..) fun e => List.mem_cons_of_mem _ (ih e)
instance (L : List Fa) : Rds L (Vc []) := ⟨fun _ _ h => (List.not_mem_nil h).elim⟩
instance (L : List Fa) (x : Seg) (xs : List Seg) [h : Rds L (.rd x.1 (bc x.2.2) :: Vc xs)] : Rds L (Vc (x :: xs)) := h
theorem Qon {L : List Fa} {B : Option Addr} {cs : List Value} (h : Fa.rd B cs ∈ L) : Rd1 L (.rd B cs) := ⟨fun hw => ⟨rfl, hw.ok _ h, fun k hk => ⟨_, h, hk⟩⟩⟩
def ZE (xs : List Seg) : Nat := (xs.map (·.2.2.length)).sum
def YH (xs : List Seg) : List UInt8 := xs.flatMap (·.2.2)
theorem QdI {xs : List Seg} {k : Nat} {x : Seg} (h : xs[k]? = some x) : ZE (xs.take (k + 1)) = ZE (xs.take k) + x.2.2.length := by
 unfold ZE
 rw [List.take_add_one, h, List.map_append, List.sum_append]
 simp
theorem QbN (xs : List Seg) (k : Nat) : ZE (xs.take k) ≤ ZE xs := by
 unfold ZE
 conv => rhs; rw [← List.take_append_drop k xs, List.map_append, List.sum_append]
 omega
theorem Qgh (xs : List Seg) : (YH xs).length = ZE xs := by
 unfold YH ZE
 rw [List.length_flatMap]
theorem QjJ {xs : List Seg} {k : Nat} {x : Seg} (h : xs[k]? = some x) : YH (xs.take (k + 1)) = YH (xs.take k) ++ x.2.2 := by
 unfold YH
 rw [List.take_add_one, h, List.flatMap_append]
 simp
theorem Qe4 (xs : List Seg) : (svs xs).length = xs.length := by simp [svs]
theorem Qio {xs : List Seg} {k : Nat} {x : Seg} (h : xs[k]? = some x) : (svs xs)[k]? = some (.slice x.1 x.2.2.length x.2.1) := by
 unfold svs
 rw [List.getElem?_map, h]
 rfl
theorem Fx.rdSome {w : World} {L : List Fa} {B : Option Addr} {cs : List Value} (h : Fx w (.rd B cs :: L)) (hc : 0 < cs.length) : ∃ b o, B = some ⟨b, o, none⟩ := by
 have h1 : Rd w B cs := h.ok (.rd B cs) (List.mem_cons_self ..)
 obtain ⟨b, o, e, _⟩ := h1 0 _ (List.getElem?_eq_getElem hc)
 exact ⟨b, o, e⟩
theorem QeG (xs : List Seg) (B : Option Addr) (cp : Nat) (hx : ∀ x ∈ xs, x.1 = none → x.2.2.length = 0 ∧ x.2.1 = 0) (hmax : ZE xs ≤ 1000000000 ∧ xs.length ≤ 1000000000) : QC Tryz.prog 97 [.slice B xs.length cp].toArray (.rd B (svs xs) :: Vc xs) [] (fun u : Option Addr × Nat => .slice u.1 (YH xs).length u.2) (fun u => [.own (.slice u.1 (YH xs).length u.2) (YH xs).length 5 1 (bc (YH xs))]) := by
 refine Qk Tryz.func97 rfl (n := 36) rfl rfl ?_
 intro W
 refine yR ?_
 refine yS rfl ?_
 refine yN ?_
 refine yR ?_
 refine yS rfl ?_
 refine yN ?_
 refine Qd ?_
 refine yR ?_
 refine yM rfl ?_
 refine Qb (QF rfl) ?_
 refine yM rfl ?_
 refine yN ?_
 refine Qq ?_
 refine QS (fun (k : Nat) => k ≤ xs.length) (fun (k : Nat) => [(11, .int .i64 (k : Int)), (10, .int .i64 (xs.length : Int)), (9, .slice B xs.length cp), (3, .int .i64 ((ZE (xs.take k) : Nat) : Int)), (0, .slice B xs.length cp)]) (fun (k : Nat) => .rd B (svs xs) :: Vc xs) (fun (k : Nat) => xs.length - k) 0 (Nat.zero_le _) ⟨rfl, rfl, rfl, rfl, rfl, trivial⟩ (fun _ s => s) ?_
 intro k hk
 have hle := QbN xs k
 refine yR ?_
 refine Qb (QT rfl rfl) ?_
 refine yN ?_
 refine Qd ?_
 refine QU rfl (fun h => ?_) (fun h => ?_)
 ·have hlt : k < xs.length := by omega
  obtain ⟨x, hxk⟩ : ∃ x, xs[k]? = some x := ⟨xs[k], by simp [hlt]⟩
  have hs := QdI hxk
  have hle2 := QbN xs (k + 1)
  refine Jq (φ := ∃ b o, B = some ⟨b, o, none⟩) (fun w s => s.toFx.rdSome (by rw [Qe4]; omega)) ?_
  rintro ⟨b, o, rfl⟩
  refine Qn ?_
  refine Qc ?_
  refine Qd ?_
  refine Qq ?_
  refine yR ?_
  refine Qb (QQ rfl rfl) ?_
  refine Qb (QX rfl (Qio hxk)) ?_
  refine yS rfl ?_
  refine yN ?_
  refine yR ?_
  refine yM rfl ?_
  refine yM rfl ?_
  refine Qb (QF rfl) ?_
  refine Qb (QI rfl rfl) ?_
  refine yS rfl ?_
  refine yN ?_
  refine yR ?_
  refine yM rfl ?_
  refine Qb (QT rfl rfl) ?_
  refine yN ?_
  refine Ys rfl (by omega) ?_
  refine Qn ?_
  refine Q2 ?_
  refine Qc ?_
  refine Q5 ?_
  refine Qb (QI rfl rfl) ?_
  refine yM rfl ?_
  refine QE ?_
  exact QH (k + 1) (by omega) (by omega) ⟨rfl, rfl, rfl, aI rfl (by rw [hs]; omega), rfl, trivial⟩ (fun _ s => s)
 obtain rfl : k = xs.length := by omega
 rw [List.take_length]
 refine QK ?_
 refine Qx ?_
 refine Qx ?_
 refine Q8 ?_
 refine Qc ?_
 refine yR ?_
 refine yM rfl ?_
 refine Qh ((Qix (ZE xs) (by omega)).comes) rfl rfl rfl fun ⟨A24, c24⟩ => ?_
 dsimp only
 refine yS rfl ?_
 refine yN ?_
 refine Qd ?_
 refine yR ?_
 refine yM rfl ?_
 refine Qb (QF rfl) ?_
 refine yM rfl ?_
 refine yN ?_
 refine Qq ?_
 refine QS (fun (s : Nat × Option Addr × Nat) => s.1 ≤ xs.length) (fun (s : Nat × Option Addr × Nat) => [(27, .int .i64 (s.1 : Int)), (26, .int .i64 (xs.length : Int)), (25, .slice B xs.length cp), (6, .slice s.2.1 (YH (xs.take s.1)).length s.2.2)]) (fun (s : Nat × Option Addr × Nat) => .own (.slice s.2.1 (YH (xs.take s.1)).length s.2.2) (YH (xs.take s.1)).length 5 1 (bc (YH (xs.take s.1))) :: .rd B (svs xs) :: Vc xs) (fun (s : Nat × Option Addr × Nat) => xs.length - s.1) (0, A24, c24) ((show 0 ≤ xs.length from Nat.zero_le _)) ⟨rfl, rfl, rfl, rfl, trivial⟩ (fun _ s => s) ?_
 rintro ⟨k, B', c'⟩ hk
 dsimp only at hk ⊢
 have hle := QbN xs k
 refine yR ?_
 refine Qb (QT rfl rfl) ?_
 refine yN ?_
 refine Qd ?_
 refine QU rfl (fun h => ?_) (fun h => ?_)
 ·have hlt : k < xs.length := by omega
  obtain ⟨x, hxk⟩ : ∃ x, xs[k]? = some x := ⟨xs[k], by simp [hlt]⟩
  have hs := QdI hxk
  have hle2 := QbN xs (k + 1)
  have hsb := QjJ hxk
  have hbl := Qgh (xs.take k)
  have hbl2 : (YH (xs.take (k + 1))).length = (YH (xs.take k)).length + x.2.2.length := by rw [hsb, List.length_append]
  have hxm := List.mem_of_getElem? hxk
  refine Jq (φ := ∃ b o, B = some ⟨b, o, none⟩) (fun w s => s.tail.toFx.rdSome (by rw [Qe4]; omega)) ?_
  rintro ⟨b, o, rfl⟩
  refine Qn ?_
  refine Qc ?_
  refine Qd ?_
  refine Qq ?_
  refine yR ?_
  refine Qb (QQ rfl rfl) ?_
  refine Qb (QX rfl (Qio hxk)) ?_
  refine yS rfl ?_
  refine yN ?_
  refine Q5 ?_
  refine yM rfl ?_
  refine yM rfl ?_
  refine Qo (Vd rfl rfl (hx x hxm) rfl (hr := Qon (List.mem_cons_of_mem _ (Qj8 hxm))) (hN := hbl2.symm)) fun ⟨A33, c33⟩ => ?_
  refine yS rfl ?_
  refine QE ?_
  refine Q2 ?_
  refine Qc ?_
  refine Q5 ?_
  refine Qb (QI rfl rfl) ?_
  refine yM rfl ?_
  refine QE ?_
  rw [← hsb]
  exact QH (k + 1, A33, c33) ((show k + 1 ≤ xs.length by omega)) ((show xs.length - (k + 1) < xs.length - k by omega)) ⟨rfl, rfl, rfl, rfl, trivial⟩ (fun _ s => s)
 obtain rfl : k = xs.length := by omega
 rw [List.take_length]
 refine QK ?_
 refine Qx ?_
 refine Qx ?_
 refine Q8 ?_
 refine Qc ?_
 refine yR ?_
 refine yM rfl ?_
 refine yS rfl ?_
 refine yN ?_
 refine Qs ?_
 exact Qu rfl rfl fun w s => ⟨(B', c'), rfl, s.res ((List.nil_sublist _).cons_cons _) (by simp [Fa.wr])⟩
end
section
open Go.RowKit
def YO (l : Leaf) : List UInt8 := 0 :: (l.key.1 ++ l.value.1)
def YB (a b : B32) : List UInt8 := 1 :: (a.1 ++ b.1)
def Yw : List UInt8 := [3]
theorem Qc5 (l : Leaf) : (YO l).length = 65 := by have := l.key.2; have := l.value.2; simp [YO]; omega
theorem Zg (a b : B32) : (YB a b).length = 65 := by have := a.2; have := b.2; simp [YB]; omega
theorem qT {P : Program} {A : List Fa} {W : World} {n : Nat} {D : List Deferred} {E : Env} {L : List Fa} {t e m bytes : Nat} {z : Value} [E' : TS P t e 1 bytes z] {l : List (Nat × Operand)} (xs : List Value) {ys : List Value} (hv : evp E l = some (Qf7 0 ys)) (he : ys = xs) (h1 : ∀ v ∈ xs, v.oneCell' = true) (hm : xs.length = m := by rfl) (h0 : 0 < m ∧ m * 1 ≤ 16777216 := by decide) :
  JO P A W n D E L (.buildSlice t m l.toArray) (fun g : Nat => .slice (some ⟨g, 0, none⟩) m m) (fun g => .own (.slice (some ⟨g, 0, none⟩) m m) m e 1 xs :: L) := by
 subst he
 exact J8 (E' := E') hv (by rw [Qcp, hm]) (hf := V8 _ 0 h1) (ho := ⟨hm, h1⟩) (Nat.mul_one _) h0
theorem QaF (xs : List Seg) : ∀ v ∈ svs xs, v.oneCell' = true := by
 intro v hv
 obtain ⟨x, _, rfl⟩ := List.mem_map.1 hv
 rfl
theorem Qoo {M : List Fa} : Rds M (.rd none (svs []) :: Vc []) := inferInstanceAs (Rds M [.rd none []])
theorem Qrs {L : List Fa} {B A1 A2 : Option Addr} {n1 n2 : Nat} {l1 l2 : List UInt8} {c1 c2 : List Value} (e1 : c1 = bc l1) (e2 : c2 = bc l2) [h0 : Rd1 L (.rd B (svs [(A1, n1, l1), (A2, n2, l2)]))] [h1 : Rd1 L (.rd A1 c1)] [h2 : Rd1 L (.rd A2 c2)] : Rds L (.rd B (svs [(A1, n1, l1), (A2, n2, l2)]) :: Vc [(A1, n1, l1), (A2, n2, l2)]) := by
 subst e1 e2
 exact inferInstanceAs (Rds L [.rd B (svs [(A1, n1, l1), (A2, n2, l2)]), .rd A1 (bc l1), .rd A2 (bc l2)])
theorem Qqj (xs : List Seg) (B : Option Addr) : ∀ r ∈ Fa.rd B (svs xs) :: Vc xs, r.wr = false := by
 intro r hr
 rcases List.mem_cons.1 hr with rfl | hr
 ·rfl
 induction xs with
 | nil => cases hr
 | cons x l ih => rcases List.mem_cons.1 hr with rfl | h; rfl; exact ih (List.mem_cons_of_mem _ h) h
theorem QbF (t : UInt8) (xs : List Seg) (B : Option Addr) (cp : Nat) (hx : ∀ x ∈ xs, x.1 = none → x.2.2.length = 0 ∧ x.2.1 = 0) (hmax : ZE xs ≤ 1000000000 ∧ xs.length ≤ 1000000000) : QC Tryz.prog 150 [.int .u8 (t.toNat : Int), .slice B xs.length cp].toArray (.rd B (svs xs) :: Vc xs) [] (fun u : Nat × Nat => .slice (some ⟨u.1, 0, none⟩) (t :: YH xs).length u.2) (fun u => [.own (.slice (some ⟨u.1, 0, none⟩) (t :: YH xs).length u.2) (t :: YH xs).length 5 1 (bc (t :: YH xs))]) := by
 have hl := Qgh xs
 refine Qk Tryz.func150 rfl (n := 10) rfl rfl ?_
 intro W
 refine yR ?_
 refine yS rfl ?_
 refine yN ?_
 refine yR ?_
 refine yM rfl ?_
 refine Qo (J8 rfl rfl) fun g6 => ?_
 refine yM rfl ?_
 change H _ _ _ _ _ (.own (.slice (some ⟨g6, 0, none⟩) 1 1) 1 5 1 (bc [t]) :: .rd B (svs xs) :: Vc xs) _
 refine Qh ((QeG xs B cp hx hmax).comes (hr := ⟨fun hw r hr => ⟨(Qqj xs B r hr), hw.ok r (List.mem_cons_of_mem _ hr), fun k hk => ⟨r, List.mem_cons_of_mem _ hr, hk⟩⟩⟩)) rfl rfl rfl fun ⟨A8, c8⟩ => ?_
 dsimp only
 refine Jq (φ := A8 = none → (YH xs).length = 0 ∧ c8 = 0) (fun w s => (s.ownLe (B := A8) (N := (YH xs).length) (c := c8)).2.2) fun hA => ?_
 refine Qo (Vd rfl rfl hA rfl (hN := Nat.add_comm _ _)) fun ⟨A9, c9⟩ => ?_
 refine Jq (φ := ∃ g, A9 = some ⟨g, 0, none⟩) (fun w s => s.ownSome (N := (YH xs).length + 1) (c := c9) (by omega)) ?_
 rintro ⟨g, rfl⟩
 refine yS rfl ?_
 refine yN ?_
 refine Qs ?_
 exact Qu rfl rfl fun w s => ⟨(g, c9), rfl, s.res ((List.nil_sublist _).cons_cons _) (by simp [Fa.wr])⟩
theorem Qa6 : QC Tryz.prog 90 ([] : List Value).toArray [] [] (fun u : Nat × Nat => .slice (some ⟨u.1, 0, none⟩) 1 u.2) (fun u => [.own (.slice (some ⟨u.1, 0, none⟩) 1 u.2) 1 5 1 (bc Yw)]) := by
 refine Qk Tryz.func90 rfl (n := 2) rfl rfl ?_
 intro W
 refine yR ?_
 refine yS rfl ?_
 refine yN ?_
 refine yR ?_
 refine Qh ((QbF 3 [] none 0 (fun _ h => (List.not_mem_nil h).elim) (by decide)).comes (hr := Qoo)) rfl rfl rfl fun ⟨g, c⟩ => ?_
 dsimp only
 refine yS rfl ?_
 refine yN ?_
 refine Qs ?_
 exact Qu rfl rfl fun w s => ⟨(g, c), rfl, s.res (List.Sublist.refl _) (by simp [Fa.wr])⟩
theorem Qeo (l : Leaf) : QC Tryz.prog 214 [.agg l.cells.toArray].toArray [] [] (fun u : Nat × Nat => .slice (some ⟨u.1, 0, none⟩) (YO l).length u.2) (fun u => [.own (.slice (some ⟨u.1, 0, none⟩) (YO l).length u.2) (YO l).length 5 1 (bc (YO l))]) := by
 have hk := l.key.2
 have hv := l.value.2
 have hseg : ∀ g : Nat, (0 : UInt8) :: YH [(some ⟨g, 0, none⟩, 32, l.key.1), (some ⟨g, 32, none⟩, 32, l.value.1)] = YO l := fun g => by simp [YH, YO]
 refine Qk Tryz.func214 rfl (n := 9) rfl rfl ?_
 intro W
 refine yR ?_
 refine Qo (Q9 rfl) fun g1 => ?_
 refine yS rfl ?_
 refine yN ?_
 refine Qd ?_
 refine Q1 [] [] QJ (same) ?_
 refine Qa 0 rfl (Qe rfl) ?_
 refine Qa 1 rfl (qr rfl) ?_
 refine Qa 2 rfl (Qe rfl) ?_
 refine Qa 3 rfl (qr rfl) ?_
 refine Qv 4 ?_
 refine JB 4 rfl (rk (qT (ys := [.slice (some ⟨g1, 0, none⟩) 32 32, .slice (some ⟨g1, 32, none⟩) 32 32]) (svs [(some ⟨g1, 0, none⟩, 32, l.key.1), (some ⟨g1, 32, none⟩, 32, l.value.1)]) rfl (by simp only [svs, sv, List.map_cons, List.map_nil, hk, hv]) (QaF _))) (fun _ => same) fun g7 => ?_
 refine Qv 5 ?_
 refine QR 5 rfl ((QbF 0 [(some ⟨g1, 0, none⟩, 32, l.key.1), (some ⟨g1, 32, none⟩, 32, l.value.1)] (some ⟨g7, 0, none⟩) 2 (by simp) (by simp [ZE]; omega)).comes (hr := Qrs (c1 := l.key.cells) (c2 := l.value.cells) rfl rfl)) rfl rfl rfl (fun xx => same) fun ⟨g8, c8⟩ => ?_
 refine Qa 6 rfl (Q6 rfl) ?_
 refine QB (by kernel_rfl) ?_
 refine Qc ?_
 dsimp only
 rw [hseg]
 refine Qs ?_
 exact Qu rfl rfl fun w s => ⟨(g8, c8), rfl, s.res ((List.nil_sublist _).cons_cons _) (by simp [Fa.wr])⟩
theorem QbJ (a b : B32) : QC Tryz.prog 199 [.agg a.cells.toArray, .agg b.cells.toArray].toArray [] [] (fun u : Nat × Nat => .slice (some ⟨u.1, 0, none⟩) (YB a b).length u.2) (fun u => [.own (.slice (some ⟨u.1, 0, none⟩) (YB a b).length u.2) (YB a b).length 5 1 (bc (YB a b))]) := by
 have hk := a.2
 have hv := b.2
 have hseg : ∀ g g' : Nat, (1 : UInt8) :: YH [(some ⟨g, 0, none⟩, 32, a.1), (some ⟨g', 0, none⟩, 32, b.1)] = YB a b := fun g g' => by simp [YH, YB]
 refine Qk Tryz.func199 rfl (n := 9) rfl rfl ?_
 intro W
 refine yR ?_
 refine Qo (Q9 rfl) fun g2 => ?_
 refine Qo (Q9 rfl) fun g3 => ?_
 refine yS rfl ?_
 refine yN ?_
 refine Qd ?_
 refine Q1 [] [] QJ (same) ?_
 refine Qa 0 rfl (qr rfl) ?_
 refine Qa 1 rfl (qr rfl) ?_
 refine Qv 2 ?_
 refine JB 2 rfl (rk (qT (ys := [.slice (some ⟨g2, 0, none⟩) 32 32, .slice (some ⟨g3, 0, none⟩) 32 32]) (svs [(some ⟨g2, 0, none⟩, 32, a.1), (some ⟨g3, 0, none⟩, 32, b.1)]) rfl (by simp only [svs, sv, List.map_cons, List.map_nil, hk, hv]) (QaF _))) (fun _ => same) fun g7 => ?_
 refine Qv 3 ?_
 refine QR 3 rfl ((QbF 1 [(some ⟨g2, 0, none⟩, 32, a.1), (some ⟨g3, 0, none⟩, 32, b.1)] (some ⟨g7, 0, none⟩) 2 (by simp) (by simp [ZE]; omega)).comes (hr := Qrs (c1 := a.cells) (c2 := b.cells) rfl rfl)) rfl rfl rfl (fun xx => same) fun ⟨g8, c8⟩ => ?_
 refine Qa 4 rfl (Q6 rfl) ?_
 refine QB (by kernel_rfl) ?_
 refine Qc ?_
 dsimp only
 rw [hseg]
 refine Qs ?_
 exact Qu rfl rfl fun w s => ⟨(g8, c8), rfl, s.res ((List.nil_sublist _).cons_cons _) (by simp [Fa.wr])⟩
end
section
open Go.RowKit
theorem Rd.some {w : World} {B : Option Addr} {cs : List Value} (h : Rd w B cs) (hc : 0 < cs.length) : ∃ b o, B = some ⟨b, o, none⟩ := by
 obtain ⟨b, o, e, _⟩ := h 0 _ (List.getElem?_eq_getElem hc)
 exact ⟨b, o, e⟩
theorem QeL (l : List UInt8) (B B' : Option Addr) (c c' : Nat) (hl : l.length ≤ 1000000000) : QC Tryz.prog 26 [.slice B l.length c, .slice B' l.length c'].toArray [.rd B (bc l), .rd B' (bc l)] [] (fun _ : Unit => .bool true) (fun _ => []) := by
 refine Qk Tryz.func26 rfl (n := 26) rfl rfl ?_
 intro W
 refine yR ?_
 refine yS rfl ?_
 refine yN ?_
 refine Qd ?_
 refine yR ?_
 refine yM rfl ?_
 refine Qb (QF rfl) ?_
 refine yM rfl ?_
 refine Qb (QF rfl) ?_
 refine Qb (QL rfl rfl) ?_
 refine yN ?_
 refine Ys rfl ((fun h => h rfl)) ?_
 refine Qn ?_
 refine Qc ?_
 refine Qd ?_
 refine yR ?_
 refine yS rfl ?_
 refine yN ?_
 refine Qq ?_
 refine QS (fun (k : Nat) => k ≤ l.length) (fun (k : Nat) => [(5, .int .i64 (k : Int)), (0, .slice B l.length c), (1, .slice B' l.length c')]) (fun (k : Nat) => [.rd B (bc l), .rd B' (bc l)]) (fun (k : Nat) => l.length - k) 0 (Nat.zero_le _) ⟨rfl, rfl, rfl, trivial⟩ (same) ?_
 intro k hk
 refine Qd ?_
 refine yR ?_
 refine yM rfl ?_
 refine yM rfl ?_
 refine Qb (QF rfl) ?_
 refine Qb (QT rfl rfl) ?_
 refine yN ?_
 refine QU rfl (fun h => ?_) (fun h => ?_)
 ·refine Jq (φ := (∃ b o, B = some ⟨b, o, none⟩) ∧ ∃ b o, B' = some ⟨b, o, none⟩) (fun w s => ⟨Rd.some (s.ok (.rd B (bc l)) (by simp)) (by rw [Jt]; omega), Rd.some (s.ok (.rd B' (bc l)) (by simp)) (by rw [Jt]; omega)⟩) ?_
  rintro ⟨⟨b, o, rfl⟩, b', o', rfl⟩
  refine Qn ?_
  refine Qc ?_
  refine Qd ?_
  refine Qq ?_
  refine Qd ?_
  refine Q1 [.rd (some ⟨b, o, none⟩) (bc l), .rd (some ⟨b', o', none⟩) (bc l)] [] QJ (same) ?_
  refine Qa 0 rfl (Qi rfl) ?_
  refine Qa 1 rfl (Qi rfl) ?_
  refine Qa 2 rfl (QQ rfl rfl) ?_
  refine Qp 3 rfl (QX rfl (J1 (by omega))) ?_
  refine Qa 4 rfl (Qi rfl) ?_
  refine Qa 5 rfl (Qi rfl) ?_
  refine Qa 6 rfl (QQ rfl rfl) ?_
  refine Qp 7 rfl (QX rfl (J1 (by omega))) ?_
  refine Qa 8 rfl (QL rfl rfl) ?_
  refine QB (by kernel_rfl) ?_
  refine Qc ?_
  refine Ys rfl ((fun h => h rfl)) ?_
  refine Qn ?_
  refine Q2 ?_
  refine Qc ?_
  refine Q5 ?_
  refine yM rfl ?_
  refine Qb (QI rfl rfl) ?_
  refine yS rfl ?_
  refine QE ?_
  exact QH (k + 1) (by omega) (by omega) ⟨rfl, rfl, rfl, trivial⟩ (same)
 refine QK ?_
 refine Qx ?_
 refine Qx ?_
 refine Q8 ?_
 refine Qc ?_
 refine yR ?_
 refine yS rfl ?_
 refine yN ?_
 refine Qs ?_
 exact Qu rfl rfl fun w s => ⟨(), rfl, s.res (List.nil_sublist _) (by simp)⟩
end
section
open Go.RowKit
def okJ (p : Proof) : Nat → Bool
 | 0 => decide (p.kind = 0) || decide (p.kind = 1)
 | 1 => decide (0 ≤ p.depth) && decide (p.depth ≤ 256)
 | 2 => decide (p.kind = 1) || decide (p.leaf = Yi)
 | 3 => decide (Yl p.bitmap 256 = p.depth - 1)
 | 4 => decide (((Jl p.bitmap).length : Int) = (p.sibs.n : Int))
 | _ => true
def Jk (p : Proof) : Int := if okJ p 0 = false then 7 else if okJ p 1 = false then 5 else if okJ p 2 = false then 5 else if okJ p 3 = false then 5 else if okJ p 4 = false then 5 else 0
theorem qb {p : Proof} {k : Nat} (hk : k < 5) (h : ∀ j, j < k → okJ p j = true) (hb : okJ p k = false) : Jk p = if k = 0 then 7 else 5 := by
 unfold Jk
 rcases (show k = 0 ∨ k = 1 ∨ k = 2 ∨ k = 3 ∨ k = 4 by omega) with rfl | rfl | rfl | rfl | rfl
 ·rw [if_pos hb]; rfl
 ·rw [h 0 (by omega), if_neg (by simp), if_pos hb]; rfl
 ·rw [h 0 (by omega), if_neg (by simp), h 1 (by omega), if_neg (by simp), if_pos hb]; rfl
 ·rw [h 0 (by omega), if_neg (by simp), h 1 (by omega), if_neg (by simp), h 2 (by omega), if_neg (by simp), if_pos hb]; rfl
 rw [h 0 (by omega), if_neg (by simp), h 1 (by omega), if_neg (by simp), h 2 (by omega), if_neg (by simp), h 3 (by omega), if_neg (by simp), if_pos hb]; rfl
theorem QeY {p : Proof} (h : ∀ j, j < 5 → okJ p j = true) : Jk p = 0 := by
 unfold Jk
 rw [h 0 (by omega), if_neg (by simp), h 1 (by omega), if_neg (by simp), h 2 (by omega), if_neg (by simp), h 3 (by omega), if_neg (by simp), h 4 (by omega), if_neg (by simp)]
theorem qh {p : Proof} (h : Jk p = 0) : ∀ j, j < 5 → okJ p j = true := by
 intro j hj
 induction j using Nat.strongRecOn with
 | ind j ih =>
  cases hb : okJ p j with
  | true => rfl
  | false =>
   rw [qb hj (fun i hi => ih i hi (by omega)) hb] at h
   split at h <;> cases h
theorem Qo2 (p : Proof) (b : B32) : QC Tryz.prog 185 [.agg p.cells.toArray, .agg b.cells.toArray].toArray [] [] (fun _ : Unit => .bool (okJ p 0)) (fun _ => []) := by
 refine Qk Tryz.func185 rfl (n := 13) rfl rfl ?_
 intro W
 by_cases h : p.kind = 0
 ·refine Qd ?_
  refine Q5 ?_
  refine Qo (Q9 rfl) fun g2 => ?_
  refine Qo (Q9 rfl) fun g3 => ?_
  refine yS rfl ?_
  refine yN ?_
  refine yR ?_
  refine Qb (Qe rfl) ?_
  refine Qb (Qf rfl) ?_
  refine Qb (Ql (QG rfl rfl) (decide_eq_true h)) ?_
  refine yM rfl ?_
  refine Qg ?_
  refine Qg ?_
  refine Qg ?_
  refine Qb (Qy rfl rfl) ?_
  refine yS rfl ?_
  refine yN ?_
  refine Qs ?_
  exact Qu rfl (aB rfl (by simp [okJ, h])) fun w s => ⟨(), rfl, s.res (List.nil_sublist _) (by simp)⟩
 refine Qd ?_
 refine Q5 ?_
 refine Qo (Q9 rfl) fun g2 => ?_
 refine Qo (Q9 rfl) fun g3 => ?_
 refine yS rfl ?_
 refine yN ?_
 refine yR ?_
 refine Qb (Qe rfl) ?_
 refine Qb (Qf rfl) ?_
 refine Qb (Ql (QG rfl rfl) (decide_eq_false h)) ?_
 refine yM rfl ?_
 refine Qb (Qe rfl) ?_
 refine Qb (Qf rfl) ?_
 refine Qb (QG rfl rfl) ?_
 refine Qb (Qy rfl rfl) ?_
 refine yS rfl ?_
 refine yN ?_
 refine Qs ?_
 exact Qu rfl (aB rfl (by simp [okJ, h])) fun w s => ⟨(), rfl, s.res (List.nil_sublist _) (by simp)⟩
theorem Qo3 (p : Proof) (b : B32) : QC Tryz.prog 186 [.agg p.cells.toArray, .agg b.cells.toArray].toArray [] [] (fun _ : Unit => .bool (okJ p 1)) (fun _ => []) := by
 refine Qk Tryz.func186 rfl (n := 13) rfl rfl ?_
 intro W
 by_cases h : 0 ≤ p.depth
 ·refine Qd ?_
  refine Q5 ?_
  refine Qo (Q9 rfl) fun g2 => ?_
  refine Qo (Q9 rfl) fun g3 => ?_
  refine yS rfl ?_
  refine yN ?_
  refine yR ?_
  refine Qb (Qe rfl) ?_
  refine Qb (Qf rfl) ?_
  refine Qb (Ql (Vb rfl rfl) (decide_eq_true h)) ?_
  refine yM rfl ?_
  refine Qb (Qe rfl) ?_
  refine Qb (Qf rfl) ?_
  refine Qb (Qb3 rfl rfl) ?_
  refine Qb (Qy rfl rfl) ?_
  refine yS rfl ?_
  refine yN ?_
  refine Qs ?_
  exact Qu rfl (aB rfl (by simp [okJ, h])) fun w s => ⟨(), rfl, s.res (List.nil_sublist _) (by simp)⟩
 refine Qd ?_
 refine Q5 ?_
 refine Qo (Q9 rfl) fun g2 => ?_
 refine Qo (Q9 rfl) fun g3 => ?_
 refine yS rfl ?_
 refine yN ?_
 refine yR ?_
 refine Qb (Qe rfl) ?_
 refine Qb (Qf rfl) ?_
 refine Qb (Ql (Vb rfl rfl) (decide_eq_false h)) ?_
 refine yM rfl ?_
 refine Qg ?_
 refine Qg ?_
 refine Qg ?_
 refine Qb (Qy rfl rfl) ?_
 refine yS rfl ?_
 refine yN ?_
 refine Qs ?_
 exact Qu rfl (aB rfl (by simp [okJ, h])) fun w s => ⟨(), rfl, s.res (List.nil_sublist _) (by simp)⟩
theorem Qo4 (p : Proof) (b : B32) : QC Tryz.prog 187 [.agg p.cells.toArray, .agg b.cells.toArray].toArray [] [] (fun _ : Unit => .bool (okJ p 2)) (fun _ => []) := by
 refine Qk Tryz.func187 rfl (n := 14) rfl rfl ?_
 intro W
 by_cases h : p.kind = 1
 ·refine Qd ?_
  refine Q5 ?_
  refine Qo (Q9 rfl) fun g2 => ?_
  refine Qo (Q9 rfl) fun g3 => ?_
  refine yS rfl ?_
  refine yN ?_
  refine yR ?_
  refine Qb (Qe rfl) ?_
  refine Qb (Qf rfl) ?_
  refine Qb (Ql (QG rfl rfl) (decide_eq_true h)) ?_
  refine yM rfl ?_
  refine Qg ?_
  refine Qg ?_
  refine Qg ?_
  refine Qg ?_
  refine Qb (Qy rfl rfl) ?_
  refine yS rfl ?_
  refine yN ?_
  refine Qs ?_
  exact Qu rfl (aB rfl (by simp [okJ, h])) fun w s => ⟨(), rfl, s.res (List.nil_sublist _) (by simp)⟩
 refine Qd ?_
 refine Q5 ?_
 refine Qo (Q9 rfl) fun g2 => ?_
 refine Qo (Q9 rfl) fun g3 => ?_
 refine yS rfl ?_
 refine yN ?_
 refine yR ?_
 refine Qb (Qe rfl) ?_
 refine Qb (Qf rfl) ?_
 refine Qb (Ql (QG rfl rfl) (decide_eq_false h)) ?_
 refine yM rfl ?_
 refine Qb (Qe rfl) ?_
 refine Qb (Qm rfl) ?_
 refine Qb (QD rfl) ?_
 refine Qb (ZL rfl rfl) ?_
 refine Qb (Qy rfl rfl) ?_
 refine yS rfl ?_
 refine yN ?_
 refine Qs ?_
 exact Qu rfl (aB rfl (by simp [okJ, h])) fun w s => ⟨(), rfl, s.res (List.nil_sublist _) (by simp)⟩
theorem Qo5 (p : Proof) (h1 : okJ p 1 = true) : QC Tryz.prog 188 [.agg p.cells.toArray, .agg p.bitmap.cells.toArray].toArray [] [] (fun _ : Unit => .bool (okJ p 3)) (fun _ => []) := by
 have hd : 0 ≤ p.depth ∧ p.depth ≤ 256 := by simpa [okJ] using h1
 refine Qk Tryz.func188 rfl (n := 11) rfl rfl ?_
 intro W
 refine yR ?_
 refine Qo (Q9 rfl) fun g2 => ?_
 refine Qo (Q9 rfl) fun g3 => ?_
 refine yS rfl ?_
 refine yN ?_
 refine Qd ?_
 refine Q1 [.blk g2 p.cells 63, .blk g3 p.bitmap.cells 194] [] QJ (same) ?_
 refine Qp 0 rfl (Qm rfl) ?_
 refine Qa 2 rfl (Qe rfl) ?_
 refine Qp 3 rfl (Qf rfl) ?_
 refine Qa 4 rfl (YQ rfl rfl) ?_
 refine Qv 1 ?_
 refine QR 1 rfl ((Qpy p.bitmap).comes) rfl rfl rfl (fun xx => same) fun _ => ?_
 refine Qa 5 rfl (QG rfl rfl) ?_
 refine Qa 6 rfl (Q6 rfl) ?_
 refine QB (by kernel_rfl) ?_
 refine Qc ?_
 refine Qs ?_
 exact Qu rfl (aB rfl rfl) fun w s => ⟨(), rfl, s.res (List.nil_sublist _) (by simp)⟩
theorem Qo6 (p : Proof) : QC Tryz.prog 190 [.agg p.cells.toArray, .agg p.bitmap.cells.toArray].toArray [] [] (fun _ : Unit => .bool (okJ p 4)) (fun _ => []) := by
 refine Qk Tryz.func190 rfl (n := 11) rfl rfl ?_
 intro W
 refine yR ?_
 refine Qo (Q9 rfl) fun g2 => ?_
 refine Qo (Q9 rfl) fun g3 => ?_
 refine yS rfl ?_
 refine yN ?_
 refine Qd ?_
 refine Q1 [.blk g2 p.cells 63, .blk g3 p.bitmap.cells 194] [] QJ (same) ?_
 refine Qp 0 rfl (Qm rfl) ?_
 refine Qa 2 rfl (Qe rfl) ?_
 refine Qp 3 rfl (Qf rfl) ?_
 refine Qa 4 rfl (QF rfl) ?_
 refine Qv 1 ?_
 refine QR 1 rfl ((Qpu p.bitmap).comes) rfl rfl rfl (fun xx => same) fun _ => ?_
 refine Qa 5 rfl (QG rfl rfl) ?_
 refine Qa 6 rfl (Q6 rfl) ?_
 refine QB (by kernel_rfl) ?_
 refine Qc ?_
 refine Qs ?_
 exact Qu rfl (aB rfl rfl) fun w s => ⟨(), rfl, s.res (List.nil_sublist _) (by simp)⟩
def Qbc : List Value := [.func (.func 185) #[] #[], .int .i64 7, .func (.func 186) #[] #[], .int .i64 5, .func (.func 187) #[] #[], .int .i64 5, .func (.func 188) #[] #[], .int .i64 5, .func (.func 190) #[] #[], .int .i64 5]
theorem Qo7 : QC Tryz.prog 120 ([] : List Value).toArray [] [] (fun _ : Unit => .agg Qbc.toArray) (fun _ => []) := by
 refine Qk Tryz.func120 rfl (n := 7) rfl rfl ?_
 intro W
 refine yR ?_
 refine Qo (Q0) fun g0 => ?_
 refine yN ?_
 refine yR ?_
 refine Qb (QD rfl) ?_
 refine Qb (QD rfl) ?_
 refine Qb (QD rfl) ?_
 refine Qb (QD rfl) ?_
 refine Qb (QD rfl) ?_
 refine Qb (QD (out := Qbc) rfl (hf := ⟨by kernel_rfl⟩)) ?_
 unfold Qbc
 refine Q7 (Qw rfl rfl) ?_
 refine yN ?_
 refine Qs ?_
 exact Qu rfl (QZ rfl) fun w s => ⟨(), rfl, s.res (List.nil_sublist _) (by simp)⟩
theorem Zs (p : Proof) : QC Tryz.prog 64 [.agg p.cells.toArray].toArray [] [] (fun _ : Unit => .int .i64 (Jk p)) (fun _ => []) := by
 refine Qk Tryz.func64 rfl (n := 19) rfl rfl ?_
 intro W
 refine yR ?_
 refine Qo (Q9 rfl) fun g1 => ?_
 refine yS rfl ?_
 refine yN ?_
 refine Qd ?_
 refine yR ?_
 refine Qh (Qo7.comes) rfl rfl rfl fun _ => ?_
 unfold Qbc
 refine yM rfl ?_
 refine yN ?_
 refine Qq ?_
 refine QS (fun (k : Nat) => k ≤ 5 ∧ ∀ j, j < k → okJ p j = true) (fun (k : Nat) => [(6, .int .i64 (k : Int)), (5, .agg Qbc.toArray), (1, .pointer (some ⟨g1, 0, none⟩))]) (fun (k : Nat) => [.blk g1 p.cells 63]) (fun (k : Nat) => 5 - k) 0 (⟨by omega, fun j hj => by omega⟩) ⟨rfl, rfl, rfl, trivial⟩ (same) ?_
 rintro k ⟨hk, ho⟩
 unfold Qbc
 refine yR ?_
 refine Qb (QT rfl rfl) ?_
 refine yN ?_
 refine Qd ?_
 refine QU rfl (fun h => ?_) (fun h => ?_)
 ·have hk5 : k < 5 := by omega
  rcases (show k = 0 ∨ k = 1 ∨ k = 2 ∨ k = 3 ∨ k = 4 by omega) with rfl | rfl | rfl | rfl | rfl
  ·refine Qn ?_
   refine Qc ?_
   refine Qd ?_
   refine Qq ?_
   refine yR ?_
   refine Qb (QfT rfl rfl (off := 0) rfl) ?_
   refine Qo (Q0) fun g4 => ?_
   refine Q7 (Qw rfl rfl) ?_
   refine yN ?_
   refine yR ?_
   refine Qb (Qe rfl) ?_
   refine Qb (Qf rfl) ?_
   refine Qb (Qm rfl) ?_
   refine Qb (Qe rfl) ?_
   refine Qb (Qm rfl) ?_
   refine Qh ((Qo2 p p.bitmap).comes) rfl rfl rfl fun _ => ?_
   refine Qb (Ji rfl) ?_
   refine yN ?_
   refine V0 rfl (fun hb => ?_) (fun hb => ?_)
   ·refine Qd ?_
    refine Q5 ?_
    refine Qb (Qe rfl) ?_
    refine Qb (Qf rfl) ?_
    refine yS rfl ?_
    refine yN ?_
    refine Qs ?_
    refine Q3 ?_
    refine Qr ?_
    refine Qr ?_
    refine Q3 ?_
    refine Qr ?_
    exact Qu rfl (aI rfl (by rw [qb (k := 0) (by omega) ho (by simpa using hb)]; rfl)) fun w s => ⟨(), rfl, s.res (List.nil_sublist _) (by simp)⟩
   refine Qn ?_
   refine Q2 ?_
   refine Qc ?_
   refine Q5 ?_
   refine Qb (QI rfl rfl) ?_
   refine yM rfl ?_
   refine QE ?_
   exact QH 1 (⟨by omega, fun j hj => by by_cases e : j < 0; exact ho j e; obtain rfl : j = 0 := (by omega); simpa using hb⟩) (by omega) ⟨rfl, rfl, rfl, trivial⟩ (same)
  ·refine Qn ?_
   refine Qc ?_
   refine Qd ?_
   refine Qq ?_
   refine yR ?_
   refine Qb (QfT rfl rfl (off := 2) rfl) ?_
   refine Qo (Q0) fun g4 => ?_
   refine Q7 (Qw rfl rfl) ?_
   refine yN ?_
   refine yR ?_
   refine Qb (Qe rfl) ?_
   refine Qb (Qf rfl) ?_
   refine Qb (Qm rfl) ?_
   refine Qb (Qe rfl) ?_
   refine Qb (Qm rfl) ?_
   refine Qh ((Qo3 p p.bitmap).comes) rfl rfl rfl fun _ => ?_
   refine Qb (Ji rfl) ?_
   refine yN ?_
   refine V0 rfl (fun hb => ?_) (fun hb => ?_)
   ·refine Qd ?_
    refine Q5 ?_
    refine Qb (Qe rfl) ?_
    refine Qb (Qf rfl) ?_
    refine yS rfl ?_
    refine yN ?_
    refine Qs ?_
    refine Q3 ?_
    refine Qr ?_
    refine Qr ?_
    refine Q3 ?_
    refine Qr ?_
    exact Qu rfl (aI rfl (by rw [qb (k := 1) (by omega) ho (by simpa using hb)]; rfl)) fun w s => ⟨(), rfl, s.res (List.nil_sublist _) (by simp)⟩
   refine Qn ?_
   refine Q2 ?_
   refine Qc ?_
   refine Q5 ?_
   refine Qb (QI rfl rfl) ?_
   refine yM rfl ?_
   refine QE ?_
   exact QH 2 (⟨by omega, fun j hj => by by_cases e : j < 1; exact ho j e; obtain rfl : j = 1 := (by omega); simpa using hb⟩) (by omega) ⟨rfl, rfl, rfl, trivial⟩ (same)
  ·refine Qn ?_
   refine Qc ?_
   refine Qd ?_
   refine Qq ?_
   refine yR ?_
   refine Qb (QfT rfl rfl (off := 4) rfl) ?_
   refine Qo (Q0) fun g4 => ?_
   refine Q7 (Qw rfl rfl) ?_
   refine yN ?_
   refine yR ?_
   refine Qb (Qe rfl) ?_
   refine Qb (Qf rfl) ?_
   refine Qb (Qm rfl) ?_
   refine Qb (Qe rfl) ?_
   refine Qb (Qm rfl) ?_
   refine Qh ((Qo4 p p.bitmap).comes) rfl rfl rfl fun _ => ?_
   refine Qb (Ji rfl) ?_
   refine yN ?_
   refine V0 rfl (fun hb => ?_) (fun hb => ?_)
   ·refine Qd ?_
    refine Q5 ?_
    refine Qb (Qe rfl) ?_
    refine Qb (Qf rfl) ?_
    refine yS rfl ?_
    refine yN ?_
    refine Qs ?_
    refine Q3 ?_
    refine Qr ?_
    refine Qr ?_
    refine Q3 ?_
    refine Qr ?_
    exact Qu rfl (aI rfl (by rw [qb (k := 2) (by omega) ho (by simpa using hb)]; rfl)) fun w s => ⟨(), rfl, s.res (List.nil_sublist _) (by simp)⟩
   refine Qn ?_
   refine Q2 ?_
   refine Qc ?_
   refine Q5 ?_
   refine Qb (QI rfl rfl) ?_
   refine yM rfl ?_
   refine QE ?_
   exact QH 3 (⟨by omega, fun j hj => by by_cases e : j < 2; exact ho j e; obtain rfl : j = 2 := (by omega); simpa using hb⟩) (by omega) ⟨rfl, rfl, rfl, trivial⟩ (same)
  ·refine Qn ?_
   refine Qc ?_
   refine Qd ?_
   refine Qq ?_
   refine yR ?_
   refine Qb (QfT rfl rfl (off := 6) rfl) ?_
   refine Qo (Q0) fun g4 => ?_
   refine Q7 (Qw rfl rfl) ?_
   refine yN ?_
   refine yR ?_
   refine Qb (Qe rfl) ?_
   refine Qb (Qf rfl) ?_
   refine Qb (Qm rfl) ?_
   refine Qb (Qe rfl) ?_
   refine Qb (Qm rfl) ?_
   refine Qh ((Qo5 p (ho 1 (by omega))).comes) rfl rfl rfl fun _ => ?_
   refine Qb (Ji rfl) ?_
   refine yN ?_
   refine V0 rfl (fun hb => ?_) (fun hb => ?_)
   ·refine Qd ?_
    refine Q5 ?_
    refine Qb (Qe rfl) ?_
    refine Qb (Qf rfl) ?_
    refine yS rfl ?_
    refine yN ?_
    refine Qs ?_
    refine Q3 ?_
    refine Qr ?_
    refine Qr ?_
    refine Q3 ?_
    refine Qr ?_
    exact Qu rfl (aI rfl (by rw [qb (k := 3) (by omega) ho (by simpa using hb)]; rfl)) fun w s => ⟨(), rfl, s.res (List.nil_sublist _) (by simp)⟩
   refine Qn ?_
   refine Q2 ?_
   refine Qc ?_
   refine Q5 ?_
   refine Qb (QI rfl rfl) ?_
   refine yM rfl ?_
   refine QE ?_
   exact QH 4 (⟨by omega, fun j hj => by by_cases e : j < 3; exact ho j e; obtain rfl : j = 3 := (by omega); simpa using hb⟩) (by omega) ⟨rfl, rfl, rfl, trivial⟩ (same)
  refine Qn ?_
  refine Qc ?_
  refine Qd ?_
  refine Qq ?_
  refine yR ?_
  refine Qb (QfT rfl rfl (off := 8) rfl) ?_
  refine Qo (Q0) fun g4 => ?_
  refine Q7 (Qw rfl rfl) ?_
  refine yN ?_
  refine yR ?_
  refine Qb (Qe rfl) ?_
  refine Qb (Qf rfl) ?_
  refine Qb (Qm rfl) ?_
  refine Qb (Qe rfl) ?_
  refine Qb (Qm rfl) ?_
  refine Qh ((Qo6 p).comes) rfl rfl rfl fun _ => ?_
  refine Qb (Ji rfl) ?_
  refine yN ?_
  refine V0 rfl (fun hb => ?_) (fun hb => ?_)
  ·refine Qd ?_
   refine Q5 ?_
   refine Qb (Qe rfl) ?_
   refine Qb (Qf rfl) ?_
   refine yS rfl ?_
   refine yN ?_
   refine Qs ?_
   refine Q3 ?_
   refine Qr ?_
   refine Qr ?_
   refine Q3 ?_
   refine Qr ?_
   exact Qu rfl (aI rfl (by rw [qb (k := 4) (by omega) ho (by simpa using hb)]; rfl)) fun w s => ⟨(), rfl, s.res (List.nil_sublist _) (by simp)⟩
  refine Qn ?_
  refine Q2 ?_
  refine Qc ?_
  refine Q5 ?_
  refine Qb (QI rfl rfl) ?_
  refine yM rfl ?_
  refine QE ?_
  exact QH 5 (⟨by omega, fun j hj => by by_cases e : j < 4; exact ho j e; obtain rfl : j = 4 := (by omega); simpa using hb⟩) (by omega) ⟨rfl, rfl, rfl, trivial⟩ (same)
 obtain rfl : k = 5 := by omega
 rw [QeY ho]
 refine QK ?_
 refine Qx ?_
 refine Qx ?_
 refine Q8 ?_
 refine Qc ?_
 refine yR ?_
 refine yS rfl ?_
 refine yN ?_
 refine Qs ?_
 exact Qu rfl rfl fun w s => ⟨(), rfl, s.res (List.nil_sublist _) (by simp)⟩
end
end Go.Proofs.YtjhlbbgikccclaaGreatDoor
