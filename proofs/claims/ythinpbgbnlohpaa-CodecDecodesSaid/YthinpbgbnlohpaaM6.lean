/- the reference's preimages and parts; slices.Clone; Few. -/
import Derived.Test.YthinpbgbnlohpaaT1
import Derived.Test.YthinpbgbnlohpaaT2
import Derived.Test.YthinpbgbnlohpaaM5
namespace Go.Proofs.Ythinpbgbnlohpaa
set_option linter.unusedSimpArgs false
set_option linter.unusedVariables false
open Go.RowKit


/-- new bytes -/
def BytesPost (l : List UInt8) (w : World) (e : Ending) (w' : World) : Prop := ∃ v, e = .returned v ∧ w'.ownsRow w.heap.size 5 1 v l.length (bc l) ∧ Below w.heap.size w w'

theorem B32.at_ {w : World} {b o : Nat} {x : B32} (h : w.rangeAt b o x.cells) : ∀ k, k < 32 → w.cell? ⟨b, o + k, none⟩ = some (.int .u8 (x.1.getD k 0).toNat) := fun k hk =>
  h k _ (bc_get x.1 k (by rw [x.2]; exact hk))
set_option maxRecDepth 100000 in
set_option maxHeartbeats 400000 in
theorem two_any (tag : UInt8) (x y : B32) (w : World) :
    Calls Try.prog 43 #[.int .u8 tag.toNat, .agg x.cells.toArray, .agg y.cells.toArray] w (BytesPost (tag :: (x.1 ++ y.1)) w) := by
  go_enter Try.func43, Try.ntmps43
  go_wp2_with fail
  have hx0 := B32.at_ (x := x) (rangeAt_below (rangeAt_new' w x.cells 41) (balloc (brefl _) (.cells y.cells.toArray 41)))
  have hy0 := B32.at_ (x := y) (rangeAt_new' (w.alloc (.cells x.cells.toArray 41)) y.cells 41)
  have hb2 : Below w.heap.size w ((w.alloc (.cells x.cells.toArray 41)).alloc (.cells y.cells.toArray 41)) := balloc (balloc (brefl _) _) _
  have hsz : ((w.alloc (.cells x.cells.toArray 41)).alloc (.cells y.cells.toArray 41)).heap.size = w.heap.size + 1 + 1 := by simp
  rw [World.size_alloc] at hy0
  generalize (w.alloc (.cells x.cells.toArray 41)).alloc (.cells y.cells.toArray 41) = W2 at *
  have hown0 := own_lit W2 W2.heap.size 5 1 1 (bc [tag]) (Nat.le_refl _) (by omega) rfl
  rw [hsz] at hown0
  go_loopw [7, 8] (fun v i wr => ∃ k : Nat, k ≤ 32 ∧ i = .int .i64 k ∧ wr.ownsRow (w.heap.size + 1 + 1) 5 1 v (1 + k) (bc (tag :: x.1.take k)) ∧ Below W2.heap.size W2 wr) (fun _ i _ => 32 - (intOf i).toNat)
  case atStart => exact ⟨0, by omega, rfl, hown0, balloc (brefl _) _⟩
  case round =>
    obtain ⟨k, hk, rfl, hown, hb⟩ := hrel
    have HOWN := Lib.hid hown; clear hown hown0
    by_cases hlt : k < 32
    · have hc : wr.cell? ⟨w.heap.size, k, none⟩ = some (.int .u8 (x.1.getD k 0).toNat) := by
        have := hx0 k hlt
        rw [Nat.zero_add] at this
        rw [hb.cell (by simp; omega)]; exact this
      have hs := Lib.hid (take_snoc x.1 k 0 (by rw [x.2]; exact hlt))
      have hlen : (x.1.take k).length = k := by simp [x.2]; omega
      generalize x.1.getD k 0 = u at hc hs
      go_wp2_with (at_builtin; refine wplAppend rfl _ _ rfl elB rfl (own_alloc HOWN.out _) rfl (fun h => by cases h) rfl (Rd_lit wr (bc [u]) _) (bc_one _) (by omega) (by simp; have := hb.size; omega) ?_; intro v1 w1 hown1 hg1)
      refine ⟨⟨k + 1, by omega, by go_num, ?_, ?_⟩, by simp [intOf]; omega⟩
      · rw [hs.out]; rw [← bc_append] at hown1; exact hown1
      · exact grow_below (balloc hb _) (own_alloc HOWN.out _) hg1 (by omega) (by simp; have := hb.size; omega)
    · obtain rfl : k = 32 := by omega
      go_wp2_with fail
      rw [show ((32 : Nat) : Int) = 32 from rfl]
      have hx32 : x.1.take 32 = x.1 := by rw [List.take_of_length_le (by rw [x.2]; omega)]
      rw [hx32] at HOWN
      go_loopw [7, 9] (fun v i wr => ∃ k : Nat, k ≤ 32 ∧ i = .int .i64 k ∧ wr.ownsRow (w.heap.size + 1 + 1) 5 1 v (33 + k) (bc (tag :: (x.1 ++ y.1.take k))) ∧ Below W2.heap.size W2 wr) (fun _ i _ => 32 - (intOf i).toNat)
      case atStart => exact ⟨0, by omega, rfl, by simpa using HOWN.out, hb⟩
      case round =>
        clear HOWN hb
        obtain ⟨k, hk, rfl, hown, hb⟩ := hrel
        have HOWN := Lib.hid hown; clear hown
        by_cases hlt : k < 32
        · have hc : wr.cell? ⟨w.heap.size + 1, k, none⟩ = some (.int .u8 (y.1.getD k 0).toNat) := by
            have := hy0 k hlt
            rw [Nat.zero_add] at this
            rw [hb.cell (by simp; omega)]; exact this
          have hs := Lib.hid (take_snoc y.1 k 0 (by rw [y.2]; exact hlt))
          generalize y.1.getD k 0 = u at hc hs
          go_wp2_with (at_builtin; refine wplAppend rfl _ _ rfl elB rfl (own_alloc HOWN.out _) rfl (fun h => by cases h) rfl (Rd_lit wr (bc [u]) _) (bc_one _) (by omega) (by simp; have := hb.size; omega) ?_; intro v1 w1 hown1 hg1)
          refine ⟨⟨k + 1, by omega, by go_num, ?_, ?_⟩, by simp [intOf]; omega⟩
          · rw [hs.out]; rw [← bc_append, List.cons_append, List.append_assoc] at hown1; exact hown1
          · exact grow_below (balloc hb _) (own_alloc HOWN.out _) hg1 (by omega) (by simp; have := hb.size; omega)
        · obtain rfl : k = 32 := by omega
          go_wp2
          go_ret
          have hy32 : y.1.take 32 = y.1 := by rw [List.take_of_length_le (by rw [y.2]; omega)]
          refine ⟨_, rfl, ?_, bthen hb2 hb⟩
          have := own_base HOWN.out (base' := w.heap.size) (by omega)
          rw [hy32] at this
          simpa [x.2, y.2] using this
set_option maxRecDepth 100000 in
set_option maxHeartbeats 400000 in
theorem Leaf_any (x : Leaf) (w : World) :
    Calls Try.prog 35 #[.agg x.cells.toArray] w (BytesPost (0 :: (x.key.1 ++ x.value.1)) w) := by
  have hr := rangeAt_new' w x.cells 45
  have hk := rangeAt_left hr
  have hv := rangeAt_right hr
  rw [B32.cells_length] at hv
  have T := two_any 0 x.key x.value (w.alloc (.cells x.cells.toArray 45))
  go_enter Try.func35, Try.ntmps35
  go_wp2_with (first | ((with_reducible refine gLoad (T := 42) ?_); refine wLoadKey _ rfl rfl _ _ rfl x.key hk ?_) | ((with_reducible refine gLoad (T := 43) ?_); refine wLoadDigest _ rfl ?_ _ _ rfl x.value hv ?_; (focus (first | (simp [Region.wanted, yielded]; done) | (simp [Region.wanted, yielded, *]; done)))))
  refine T.mono ?_
  rintro e w1 ⟨v, rfl, ho, hb⟩
  go_wp2
  go_ret
  exact ⟨_, rfl, own_base ho (by simp), bthen (balloc (brefl _) _) hb⟩

/-- 32 bytes from i on, filled up by zeros -/
def part32 (l : List UInt8) (i : Nat) : B32 := ⟨((l.drop i).take 32 ++ List.replicate 32 0).take 32, by simp⟩
theorem part32_val (l : List UInt8) (i : Nat) (h : i + 32 ≤ l.length) : (part32 l i).1 = (l.drop i).take 32 := by
  simp only [part32]
  rw [List.take_append_of_le_length (by simp; omega), List.take_take]
  simp
theorem zeros41 : (Try.prog.info? 41).map (fun i => (i.zero, i.size)) = some (some (.agg zB32.cells.toArray), 32) := by kernel_rfl
theorem size41 : (Try.prog.info? 41).map (·.size) = some 32 := by kernel_rfl
theorem fill_step (s : List UInt8) (hs : s.length = 32) (k : Nat) (hk : k < 32) : (bc (s.take k ++ List.replicate (32 - k) 0)).toArray.setIfInBounds k (.int .u8 (s.getD k 0).toNat) = (bc (s.take (k + 1) ++ List.replicate (32 - (k + 1)) 0)).toArray := by
  apply Array.ext'
  simp only [Array.toList_setIfInBounds]
  rw [take_snoc s k 0 (by omega)]
  have e : 32 - k = (32 - (k + 1)) + 1 := by omega
  rw [e, List.replicate_succ, bc_append, bc_append, bc_append, List.set_append_right _ _ (by rw [bc_length]; simp; omega)]
  have e2 : k - (bc (s.take k)).length = 0 := by rw [bc_length]; simp; omega
  rw [e2]
  simp [bc]
set_option maxRecDepth 100000 in
set_option maxHeartbeats 400000 in
theorem Part_any (l : List UInt8) (A : Option Addr) (cap i0 : Nat) (hl : l.length ≤ 1000000000) (hi0 : i0 + 32 ≤ l.length) (w : World) (hr : Rd w A (bc l)) :
    Calls Try.prog 37 #[.slice A l.length cap, .int .i64 i0] w fun e w' => e = .returned (.agg (part32 l i0).cells.toArray) ∧ Below w.heap.size w w' := by
  obtain ⟨s, hs⟩ : ∃ s, s = part32 l i0 := ⟨_, rfl⟩
  have hsl := s.2
  have hsv : ∀ k, k < 32 → s.1.getD k 0 = l.getD (i0 + k) 0 := fun k hk => by
    rw [hs, part32_val l i0 hi0]
    simp [List.getD, hk]
  have HS := Lib.hid hs
  rw [← hs]
  clear hs
  go_enter Try.func37, Try.ntmps37
  go_wp2_with ((with_reducible refine gAlloc (T := 41) ?_); refine wplAllocZ rfl rfl zeros41 ?_)
  go_loopw [6] (fun i wr => ∃ k : Nat, k ≤ 32 ∧ i = .int .i64 k ∧ wr.heap[w.heap.size + 1]? = some (.cells (bc (s.1.take k ++ List.replicate (32 - k) 0)).toArray 41 (0, 0)) ∧ wr.heap[w.heap.size]? = some (.cells zB32.cells.toArray 41 (0, 0)) ∧ Below w.heap.size w wr) (fun i _ => 32 - (intOf i).toNat)
  case atStart => exact ⟨0, by omega, rfl, heap_alloc2_new _ _ _, heap_alloc2_old _ _ _, balloc (balloc (brefl _) _) _⟩
  case round =>
    obtain ⟨k, hk, rfl, hg1, hg0, hb⟩ := hrel
    by_cases hlt : k < 32
    · obtain ⟨b, o, rfl, hc⟩ := bytes_at (hr.below hb) (k := i0 + k) (by omega)
      rw [← hsv k hlt] at hc
      have HST := Lib.hid (fill_step s.1 hsl k hlt)
      clear hsv
      generalize s.1.getD k 0 = u at hc HST
      go_wp2_with ((with_reducible refine gStore (T := 5) ?_); refine wplStoreCell rfl rfl rfl rfl hg1 size5 (by simp [bc, hsl]; omega) rfl ?_; intro w2 h21 h22 h23 h24)
      refine ⟨⟨k + 1, by omega, by go_num, by rw [← HST.out]; exact h21, (h23 _ (by omega)).trans hg0, h24 _ _ hb (by omega)⟩, by simp [intOf]; omega⟩
    · obtain rfl : k = 32 := by omega
      have e : s.1.take 32 ++ List.replicate (32 - 32) 0 = s.1 := by simp [List.take_of_length_le (Nat.le_of_eq hsl)]
      rw [e] at hg1
      have hrg : wr.rangeAt (w.heap.size + 1) 0 s.cells := fun j v hv => by
        rw [(blk_cells hg1).1]; simpa [B32.cells] using hv
      go_wp2_with (first | ((with_reducible refine gLoad (T := 41) ?_); refine wpl_run rfl (ex_load_row rfl rfl hrg Try.underlying41 rfl (by rw [B32.cells_length]; exact size41)) ?_) | ((with_reducible refine gStore (T := 41) ?_); refine wplStoreRow rfl rfl rfl rfl hg0 (by rw [B32.cells_length]; exact size41) (by simp [B32.cells_length]) (B32.cells_one s) ?_; intro w2 h21 h22 h23 h24))
      exact ret_row Try.results37 rfl h21 Try.underlying41 rfl (by rw [B32.cells_length]; exact size41) rfl ⟨rfl, h24 _ _ hb (Nat.le_refl _)⟩
end Go.Proofs.Ythinpbgbnlohpaa
