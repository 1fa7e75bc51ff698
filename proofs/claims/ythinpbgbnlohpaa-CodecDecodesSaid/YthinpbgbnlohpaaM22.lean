/- bitmap.Len. -/
import Derived.Test.YthinpbgbnlohpaaM21
namespace Go.Proofs.Ythinpbgbnlohpaa
set_option linter.unusedSimpArgs false
set_option linter.unusedVariables false
open Go.RowKit
attribute [local irreducible] wpStill wpList
theorem ex_indexB {P : Program} {a : Act} {w : World} {o : Oper} {x i : Operand} {T e : TypeId} (ho : o.op = .index T x i) (hT : P.underlying T = some (.array 32 e)) (he : P.underlying e = some (.int .u8)) (hs : (P.info? e).map (·.size) = some 1) {b : B32} (hx : a.eval x = .agg b.cells.toArray) {k : Nat} {kd : IntKind} (hi : a.eval i = .int kd k) (hk : k < 32) {y : UInt8} (hy : b.1.getD k 0 = y) :
    (execOp a.eval o).run P w = .ok (.value (.int .u8 y.toNat)) w := by
  subst hy
  obtain ⟨j, hj, hjs⟩ := Option.map_eq_some_iff.1 hs
  have hb := b.2
  have hg : b.cells.toArray[k]? = some (.int .u8 (b.1.getD k 0).toNat) := by
    have := bc_get b.1 k (by omega)
    simpa [B32.cells] using this
  have hp : (part e b.cells.toArray k).run P w = .ok (.int .u8 (b.1.getD k 0).toNat) w := by
    simp only [part, isAgg, Sem.run_bind, run_underlying he, Result.andThen_ok]
    simp [hg]
  unfold execOp
  simp only [ho, hx, hi]
  have h2 : (Instr.index T (.agg b.cells.toArray) (.int kd (k : Int))).run P w = .ok (.int .u8 (b.1.getD k 0).toNat) w := by
    have hk0 : (0 : Int) ≤ k ∧ (k : Int) < (32 : Nat) := ⟨by omega, by omega⟩
    simp only [Instr.index, asIntOf, Sem.run_bind, Sem.run_pure, Result.andThen_ok, run_underlying hT, if_pos hk0, sizeOf, typeInfo]
    simp [hj, hjs, hp]
  rw [Sem.run_bind, h2]
  rfl
def popN (b : B32) (k : Nat) : Nat := ((b.1.take k).map pop8).sum
theorem popN_le (b : B32) (k : Nat) : popN b k ≤ 256 := by
  unfold popN
  have h : ∀ l : List UInt8, (l.map pop8).sum ≤ 8 * l.length := by
    intro l
    induction l with
    | nil => simp
    | cons x l ih => have := pop8_le x; simp only [List.map_cons, List.sum_cons, List.length_cons]; omega
  have h1 := h (b.1.take k)
  have h2 : (b.1.take k).length ≤ 32 := by rw [List.length_take, b.2]; omega
  omega
theorem popN_succ (b : B32) (k : Nat) (hk : k < 32) : popN b (k + 1) = popN b k + pop8 (b.1.getD k 0) := by
  unfold popN
  rw [take_snoc b.1 k 0 (by rw [b.2]; exact hk), List.map_append, List.sum_append]
  simp
set_option maxRecDepth 100000 in
set_option maxHeartbeats 400000 in
theorem BLen_any (b : B32) (w : World) :
    Calls Try.prog 54 #[.agg b.cells.toArray] w fun e w' => e = .returned (.int .i64 (popN b 32)) ∧ Below w.heap.size w w' := by
  have hr := rangeAt_new' w b.cells 92
  have hb := balloc (brefl w) (.cells b.cells.toArray 92)
  go_enter Try.func54, Try.ntmps54
  go_wp2_with ((with_reducible refine gLoad (T := 92) ?_); refine wpl_runG ?_ (ex_load_row rfl rfl hr Try.underlying92 rfl (by rw [B32.cells_length]; kernel_rfl)) ?_; (focus (first | (simp [Region.wanted, yielded]; done) | (simp [Region.wanted, yielded, *]; done))))
  generalize w.alloc (.cells b.cells.toArray 92) = W at *
  go_loopw [3, 7] (fun n j wr => ∃ k : Nat, k ≤ 32 ∧ j = .int .i64 k ∧ n = .int .i64 (popN b k) ∧ wr = W) (fun _ j _ => 32 - (intOf j).toNat)
  case atStart => exact ⟨0, by omega, rfl, by simp [popN], rfl⟩
  case round =>
    obtain ⟨k, hk, rfl, rfl, hw⟩ := hrel
    obtain rfl := hw.symm
    by_cases hlt : k < 32
    · have HS := Lib.hid (popN_succ b k hlt)
      have hle := popN_le b k
      have hp := pop8_le (b.1.getD k 0)
      have ON := OnesCount8_any (b.1.getD k 0) W
      generalize popN b k = n at *
      generalize hy : b.1.getD k 0 = x at *
      have HY := Lib.hid hy
      clear hy
      go_wp2_with ((with_reducible refine gIndex (T := 92) ?_); refine wpl_runG ?_ (ex_indexB rfl Try.underlying92 Try.underlying5 size5 rfl rfl hlt HY.out) ?_; (focus (first | (simp [Region.wanted, yielded]; done) | (simp [Region.wanted, yielded, *]; done))))
      refine ON.mono ?_
      rintro e w1 ⟨rfl, rfl⟩
      go_wp2_with fail
      refine ⟨⟨k + 1, by omega, by go_num, by rw [HS.out]; go_num, trivial⟩, by simp [intOf]; omega⟩
    · obtain rfl : k = 32 := by omega
      go_wp2_with fail
      go_ret
      exact ⟨rfl, hb⟩
end Go.Proofs.Ythinpbgbnlohpaa
