/- bits.Common. -/
import Derived.Test.YthinpbgbnlohpaaE3
import Derived.Test.YthinpbgbnlohpaaM24
namespace Go.Proofs.Ythinpbgbnlohpaa
set_option linter.unusedSimpArgs false
set_option linter.unusedVariables false
open Go.RowKit
attribute [local irreducible] wpStill wpList
theorem eqlKey {w : World} (x y : B32) : (binOp .eql 42 (.agg x.cells.toArray) (.agg y.cells.toArray)).run Try.prog w = .ok (.bool (decide (x = y))) w :=
  eql_B32 Try.underlying42 Try.underlying5 size5 x y
set_option maxRecDepth 100000 in
set_option maxHeartbeats 400000 in
theorem Common_any (a b : B32) (w : World) :
    Calls Try.prog 56 #[.agg a.cells.toArray, .agg b.cells.toArray] w fun e w' => e = .returned (.int .i64 (common a b)) ∧ Below w.heap.size w w' := by
  have hB := balloc (balloc (brefl w) (.cells a.cells.toArray 42)) (.cells b.cells.toArray 42)
  have hg0 := heap_alloc2_old w (.cells a.cells.toArray 42) (.cells b.cells.toArray 42)
  have hg1 := heap_alloc2_new w (.cells a.cells.toArray 42) (.cells b.cells.toArray 42)
  have hra := Lib.hid (blk_range hg0)
  have hrb := Lib.hid (blk_range hg1)
  by_cases hab : a = b
  · have EK := Lib.hid (fun wx : World => show (binOp .eql 42 (.agg a.cells.toArray) (.agg b.cells.toArray)).run Try.prog wx = .ok (.bool true) wx by rw [eqlKey]; simp [hab])
    have HC := Lib.hid (show common a b = 256 by rw [hab]; exact common_self b)
    clear hab
    go_enter Try.func56, Try.ntmps56
    go_wp2_with (first | ((with_reducible refine gLoad (T := 42) ?_); refine wLoadKey _ rfl ?_ _ _ rfl a hra.out ?_; (focus (first | (simp [Region.wanted, yielded]; done) | (simp [Region.wanted, yielded, *]; done)))) | ((with_reducible refine gLoad (T := 42) ?_); refine wLoadKey _ rfl ?_ _ _ rfl b hrb.out ?_; (focus (first | (simp [Region.wanted, yielded]; done) | (simp [Region.wanted, yielded, *]; done)))) | ((with_reducible refine gBin (b := .eql) (T := 42) ?_); refine wpl_runG ?_ (ex_eql rfl rfl rfl Try.eqGuardType42 (EK.out _)) ?_; (focus (first | (simp [Region.wanted, yielded]; done) | (simp [Region.wanted, yielded, *]; done)))))
    go_ret
    exact ⟨by rw [HC.out]; rfl, hB⟩
  · have EK := Lib.hid (fun wx : World => show (binOp .eql 42 (.agg a.cells.toArray) (.agg b.cells.toArray)).run Try.prog wx = .ok (.bool false) wx by rw [eqlKey]; simp [hab])
    have HAB := Lib.hid hab
    clear hab
    go_enter Try.func56, Try.ntmps56
    go_wp2_with (first | ((with_reducible refine gLoad (T := 42) ?_); refine wLoadKey _ rfl ?_ _ _ rfl a hra.out ?_; (focus (first | (simp [Region.wanted, yielded]; done) | (simp [Region.wanted, yielded, *]; done)))) | ((with_reducible refine gLoad (T := 42) ?_); refine wLoadKey _ rfl ?_ _ _ rfl b hrb.out ?_; (focus (first | (simp [Region.wanted, yielded]; done) | (simp [Region.wanted, yielded, *]; done)))) | ((with_reducible refine gBin (b := .eql) (T := 42) ?_); refine wpl_runG ?_ (ex_eql rfl rfl rfl Try.eqGuardType42 (EK.out _)) ?_; (focus (first | (simp [Region.wanted, yielded]; done) | (simp [Region.wanted, yielded, *]; done)))))
    clear hg0 hg1
    generalize (w.alloc (.cells a.cells.toArray 42)).alloc (.cells b.cells.toArray 42) = W at *
    go_loopw [10] (fun i wr => ∃ k : Nat, k ≤ 32 ∧ i = .int .i64 k ∧ (∀ j, j < k → a.1.getD j 0 = b.1.getD j 0) ∧ wr.rangeAt w.heap.size 0 a.cells ∧ wr.rangeAt (w.heap.size + 1) 0 b.cells ∧ Below w.heap.size w wr) (fun i _ => 32 - (intOf i).toNat)
    case atStart => exact ⟨0, by omega, rfl, fun j hj => by omega, hra.out, hrb.out, hB⟩
    case round =>
      obtain ⟨k, hk, rfl, heq, h1, h2, hb⟩ := hrel
      have HEQ := Lib.hid heq; clear heq
      by_cases hlt : k < 32
      · have ca := B32.at_ h1 k hlt
        have cb := B32.at_ h2 k hlt
        rw [Nat.zero_add] at ca cb
        have hx256 : (a.1.getD k 0).toNat < 256 := UInt8.toNat_lt _
        have hy256 : (b.1.getD k 0).toNat < 256 := UInt8.toNat_lt _
        have HC := Lib.hid (common_at a b k hlt HEQ.out)
        generalize hx : a.1.getD k 0 = x at *
        generalize hy : b.1.getD k 0 = y at *
        have HX := Lib.hid hx; have HY := Lib.hid hy; clear hx hy
        have hxor := u8_xor_nat x.toNat y.toNat hx256 hy256
        rw [← UInt8.toNat_xor] at hxor
        have HXOR := Lib.hid hxor; clear hxor
        go_wp2_with fail
        replace ca : wr.drew.cell? _ = _ := ca
        replace cb : wr.drew.cell? _ = _ := cb
        have hxor := HXOR.out
        refine wp_region_still_lit follows (by kernel_rfl) ?_
        repeat still_step
        refine wpStill_nil ?_
        rw [← UInt8.toNat_xor]
        have HD := Lib.hid (show x ^^^ y = 0 → x = y from fun h => by simpa using h)
        have hd256 : (x ^^^ y).toNat < 256 := UInt8.toNat_lt _
        have LZ := LeadingZeros8_any (x ^^^ y) wr.drew
        have hl8 := lz8_le (x ^^^ y)
        clear hxor HXOR
        generalize x ^^^ y = d at *
        by_cases hd : d = 0
        · subst hd
          have hxy := HD.out rfl
          clear LZ HC
          go_wp2_with fail
          refine ⟨⟨k + 1, by omega, by go_num, ?_, h1, h2, hb.drew⟩, by simp [intOf]; omega⟩
          intro j hj
          by_cases hjk : j < k
          · exact HEQ.out j hjk
          · obtain rfl : j = k := by omega
            rw [HX.out, HY.out, hxy]
        · have HC2 := Lib.hid (HC.out hd)
          have hdn : ((d.toNat : Int) != 0) = true := by
            rw [bne_iff_ne]; intro h; exact hd (UInt8.toNat_inj.1 (by simpa using h))
          clear hd HC
          generalize lz8 d = z at *
          go_wp2_with fail
          refine LZ.mono ?_
          rintro e w9 ⟨rfl, rfl⟩
          go_wp2_with fail
          go_ret
          refine ⟨ret_int ?_, hb.drew⟩
          rw [HC2.out]
          go_num
      · obtain rfl : k = 32 := by omega
        exact absurd (eq_bytes HEQ.out) HAB.out
end Go.Proofs.Ythinpbgbnlohpaa
