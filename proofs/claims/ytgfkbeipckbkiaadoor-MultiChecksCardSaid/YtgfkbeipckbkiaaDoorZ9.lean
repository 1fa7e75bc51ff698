/- The program's sum; Bits of 32 bytes: plain Lean; The bits that two keys have in common: plain Lean; How many bits are set, which is the last, and more of bits: plain Lean; Bits and bitmaps; What is kept of a key, or of a digest: its first bits. Plain Lean; The reference's bits; The hasher, and the reference's; Grow and Concat; the preimages (joined texts: U7 E1 E3 E8 U8 E9 U9 U10 U11) -/
import Derived.Test.YtgfkbeipckbkiaaDoorZ8
set_option linter.all false
/- U7 -/
namespace Go.Proofs.YtgfkbeipckbkiaaDoor
set_option linter.unusedSimpArgs false
set_option linter.unusedVariables false
open Go.RowKit
theorem comps_range (q : List UInt8) (i : Nat) : comps ((List.range (i + 1)).map (blk64 q)) H0 = comp (blk64 q i) (comps ((List.range i).map (blk64 q)) H0) := by
  rw [List.range_succ, List.map_append, List.map_singleton, comps_snoc]
theorem range_mid {m i : Nat} {pre post : List Nat} (h : List.range m = pre ++ i :: post) : pre = List.range i ∧ i < m := by
  have hl : pre.length < m := by have := congrArg List.length h; simp at this; omega
  have h2 : (List.range m)[pre.length]? = some i := by rw [h]; simp
  rw [List.getElem?_range hl] at h2
  obtain rfl := Option.some.inj h2
  refine ⟨?_, hl⟩
  have h3 := congrArg (List.take pre.length) h
  rw [List.take_range, Nat.min_eq_left (by omega)] at h3
  simpa using h3.symm
theorem Sum_s (l : List UInt8) (B : Option Addr) (c : Nat) (hB : B = none → l.length = 0 ∧ c = 0) (hn : l.length ≤ 100000000000) : Spec Tryd.prog 95 [.slice B l.length c].toArray [.rd B (bc l), .rd (some ⟨1, 0, none⟩) (wc .u32 K64)] [] (fun _ : Unit => .agg (bc (sha l).1).toArray) (fun _ => []) := by
  have hp := pad_len l
  have hp64 : padN l.length = 64 * (padN l.length / 64) := by unfold padN; omega
  have hpl : padN l.length ≤ l.length + 72 := by unfold padN; omega
  have hsha : bc (sha l).1 = bc (outL (comps (blks (pad l)) H0)) := rfl
  rw [hsha]
  have hPad := Pad_s l B c hB hn
  generalize padN l.length = p at *
  generalize pad l = q at *
  subst hp
  obtain ⟨m, hm⟩ : ∃ m, m = q.length / 64 := ⟨_, rfl⟩
  rw [← hm] at hp64
  have hblks : blks q = (List.range m).map (blk64 q) := by unfold blks; rw [hm]
  rw [hp64] at hPad
  rw [hblks]
  refine spec_of Tryd.func95 rfl (n := 34) rfl rfl ?_
  intro W
  refine h_seq ?_
  refine h_reg ?_
  refine h_opX (x_alloc) fun g2 => ?_
  refine h_nil ?_
  refine q_then ?_
  refine h_seq ?_
  refine h_reg ?_
  refine h_call (start_s.comes) rfl rfl rfl fun _ => ?_
  refine h_opX (x_alloc) fun g3 => ?_
  refine h_opS (s_storer rfl rfl) ?_
  refine h_nil ?_
  refine q_then ?_
  refine h_seq ?_
  refine h_reg ?_
  refine h_op (r_func rfl rfl) ?_
  refine h_opX (x_alloc) fun g4 => ?_
  refine h_opS (s_store rfl rfl rfl) ?_
  refine h_nil ?_
  refine q_then ?_
  refine h_seq ?_
  refine h_seq ?_
  refine h_reg ?_
  refine h_op (r_move rfl) ?_
  refine h_call (hPad.comes) rfl rfl rfl fun ⟨g5, c5⟩ => ?_
  dsimp only
  refine h_pure (φ := 64 * m ≤ c5) (fun w s => (s.ownLe (B := some ⟨g5, 0, none⟩) (N := 64 * m) (c := c5)).1) fun hcap => ?_
  refine h_L (fun w s => s.ownRd (B := some ⟨g5, 0, none⟩) (N := 64 * m) (c := c5)) ?_
  refine h_call ((Chunk_s (some ⟨g5, 0, none⟩) (64 * m) c5).comes) rfl rfl rfl fun ⟨g66, g7⟩ => ?_
  dsimp only
  refine h_nil ?_
  refine q_then ?_
  refine h_block ?_
  change H _ _ _ _ _ (_ :: _ :: _ :: _ :: .blk g3 (S8.cs (comps ((List.range 0).map (blk64 q)) H0)) _ :: _) _
  refine h_range (Chunk_it g5 0 c5 m g66 g7 hcap (by omega)) rfl (fun pre mm => mm = [.blk g3 (S8.cs (comps (pre.map (blk64 q)) H0)) 159]) [.blk g3 (S8.cs (comps ((List.range 0).map (blk64 q)) H0)) 159] [.rd (some ⟨g4, 0, none⟩) [.func (.func 103) #[Value.pointer (some ⟨g3, 0, none⟩)] #[]], .rd (some ⟨g5, 0, none⟩) (bc q), .rd (some ⟨1, 0, none⟩) (wc .u32 K64)] (by rintro pre mm rfl f hf; rw [List.mem_singleton.1 hf]; rfl) rfl rfl (fun _ => rfl) ?_ ?_
  · intro ll rr pre i post mm W1 hr hrp hxs hJ
    subst hJ
    have hpre : pre = List.range i ∧ i < m := range_mid hxs
    obtain ⟨rfl, hi⟩ := hpre
    have hcut : Rd1 [Fa.obj ll (.loop { rr with state := .busy }), .rd (some ⟨g4, 0, none⟩) [.func (.func 103) #[Value.pointer (some ⟨g3, 0, none⟩)] #[]], .rd (some ⟨g5, 0, none⟩) (bc q), .rd (some ⟨1, 0, none⟩) (wc .u32 K64)] (.rd (some ⟨g5, 0 + 64 * i, none⟩) (bc (blk64 q i))) := rd1_cut (L := _) (b := g5) (o := 0) (cs := bc q) rfl (bc_cut q (64 * i) 64)
    have hbl : (blk64 q i).length = 64 := by unfold blk64; rw [List.length_take, List.length_drop]; omega
    have hc1 := comps_range q i
    rw [List.range_succ] at hc1
    generalize comps ((List.range i).map (blk64 q)) H0 = s0 at *
    refine h_L (L' := [.obj ll (.loop rr), .blk g3 (S8.cs s0) 159, .rd (some ⟨g4, 0, none⟩) [.func (.func 103) #[Value.pointer (some ⟨g3, 0, none⟩)] #[]], .rd (some ⟨g5, 0, none⟩) (bc q), .rd (some ⟨1, 0, none⟩) (wc .u32 K64)]) (fun _ s => s) ?_
    refine h_reg ?_
    refine h_op (r_assign rfl) ?_
    refine h_nil ?_
    refine q_then ?_
    refine h_begin hr ?_
    refine h_block ?_
    refine h_reg ?_
    refine h_op (r_loadc rfl) ?_
    refine h_op (r_move rfl) ?_
    refine h_call ((take_s (blk64 q i) s0 g3 g5 (0 + 64 * i) 64 hbl (by decide)).comes) rfl rfl rfl fun _ => ?_
    refine h_nil ?_
    refine q_block ?_
    exact h_endround [.blk g3 (S8.cs (comp (blk64 q i) s0)) 159] hr hrp (by rw [hc1]) (by intro f hf; rw [List.mem_singleton.1 hf]; rfl)
  · intro bb mm hJ
    subst hJ
    refine q_block ?_
    refine q_then ?_
    simp only [List.nil_append, List.cons_append]
    generalize comps ((List.range m).map (blk64 q)) H0 = s0 at *
    refine h_seq ?_
    refine h_reg ?_
    refine h_opX (x_alloc) fun g6 => ?_
    refine h_nil ?_
    refine q_then ?_
    refine h_seq ?_
    refine h_seq ?_
    refine h_reg ?_
    refine h_op (r_move rfl) ?_
    refine h_nil ?_
    refine q_then ?_
    refine h_block ?_
    change H _ _ _ _ _ (.blk g6 (bc ((List.range 0).map (outB s0) ++ List.replicate (32 - 0) 0)) _ :: _) _
    refine h_loop (fun (j : Nat) => j ≤ 32) (fun (j : Nat) => [(17, .int .i64 (j : Int)), (6, .pointer (some ⟨g6, 0, none⟩)), (3, .pointer (some ⟨g3, 0, none⟩)), (2, .pointer (some ⟨g2, 0, none⟩))]) (fun (j : Nat) => [.blk g6 (bc ((List.range j).map (outB s0) ++ List.replicate (32 - j) 0)) 41, .blk g3 (S8.cs s0) 159, .obj bb (.deferred (some [])), .blk g2 zB32.cells 41]) (fun (j : Nat) => 32 - j) 0 (by omega) ⟨rfl, rfl, rfl, rfl, trivial⟩ (same) ?_
    intro j hj
    have hfl := fill_len (outB s0) 0 32 j hj
    refine h_seq ?_
    refine h_reg ?_
    refine h_op (r_lss rfl rfl) ?_
    refine h_nil ?_
    refine q_then ?_
    refine h_seq ?_
    refine h_cond rfl (fun h => ?_) (fun h => ?_)
    · have hst := fill_set (outB s0) 0 32 j (by omega)
      refine h_skip ?_
      refine q_then ?_
      refine h_seq ?_
      refine h_block ?_
      refine h_seq ?_
      refine h_reg ?_
      refine h_op (r_move rfl) ?_
      refine h_op (r_assign rfl) ?_
      refine h_nil ?_
      refine q_then ?_
      refine h_reg ?_
      refine h_op (r_move rfl) ?_
      refine h_op (r_move rfl) ?_
      refine h_op (r_quo rfl rfl) ?_
      refine h_op (r_idxA rfl rfl) ?_
      refine h_op (r_nth rfl (S8.cs_at s0 (by omega))) ?_
      refine h_op (r_move rfl) ?_
      refine h_op (r_rem rfl rfl) ?_
      refine h_op (r_mul rfl rfl) ?_
      refine h_op (r_subN rfl rfl) ?_
      refine h_op (r_shr rfl rfl) ?_
      refine h_op (r_cW rfl) ?_
      refine h_op (r_idxA rfl rfl) ?_
      refine h_opS (s_setB rfl rfl) ?_
      refine h_nil ?_
      refine q_block ?_
      refine q_then ?_
      rw [outB_eq, hst]
      refine h_reg ?_
      refine h_op (r_add rfl rfl) ?_
      refine h_op (r_move rfl) ?_
      refine h_nil ?_
      exact h_back (j + 1) (by omega) (by omega) ⟨rfl, rfl, rfl, rfl, trivial⟩ (same)
    · obtain rfl : j = 32 := by omega
      rw [fill_end]
      change H _ _ _ _ _ (.blk g6 (bc (outL s0)) _ :: _) _
      refine h_exit ?_
      refine q_thenE ?_
      refine q_thenE ?_
      refine q_blockE ?_
      refine q_then ?_
      refine h_seq ?_
      refine h_reg ?_
      refine h_op (r_loadr rfl) ?_
      refine h_opS (s_storer rfl rfl) ?_
      refine h_nil ?_
      refine q_then ?_
      refine h_ret ?_
      refine h_mark ?_
      exact h_ret1 rfl (rv_row rfl) fun w s => ⟨(), rfl, s.res (List.nil_sublist _) (by simp)⟩
end Go.Proofs.YtgfkbeipckbkiaaDoor
/- E1 -/
namespace Go.Proofs.YtgfkbeipckbkiaaDoor
set_option linter.unusedSimpArgs false
set_option linter.unusedVariables false
open Go.RowKit
/-- bit j of a byte, the highest first -/
def bbit (x : UInt8) (j : Nat) : Bool := (x.toNat / 2 ^ (7 - j)) % 2 == 1
/-- bit i of 32 bytes -/
def bitAt (b : B32) (i : Nat) : Bool := bbit (b.1.getD (i / 8) 0) (i % 8)
def pop8 (x : UInt8) : Nat := ((List.range 8).filter (bbit x)).length
def lz8 (x : UInt8) : Nat := ((List.range 8).find? (bbit x)).getD 8
/-- a byte with bit j inverted -/
def flip8 (x : UInt8) (j : Nat) : Nat := if bbit x j then x.toNat - 2 ^ (7 - j) else x.toNat + 2 ^ (7 - j)
theorem all_bytes {p : UInt8 → Prop} (h : ∀ n : Fin 256, p (UInt8.ofNat n.val)) (x : UInt8) : p x := by
  have := h ⟨x.toNat, x.toNat_lt⟩
  rwa [UInt8.ofNat_toNat] at this
theorem pop8_le (x : UInt8) : pop8 x ≤ 8 := by
  unfold pop8
  exact Nat.le_trans (List.length_filter_le _ _) (by simp)
theorem bbit_zero (j : Nat) : bbit 0 j = false := by
  unfold bbit
  simp
theorem byte_zero : ∀ x : UInt8, (∀ j, j < 8 → bbit x j = false) → x = 0 := by
  intro x h
  have key : ∀ n : Fin 256, ((List.range 8).all fun j => !bbit (UInt8.ofNat n.val) j) = true → UInt8.ofNat n.val = 0 := by decide +kernel
  have := all_bytes (p := fun x => ((List.range 8).all fun j => !bbit x j) = true → x = 0) key x
  exact this (by simpa using h)
/-- a byte that is not zero: the first bit that is set -/
theorem lz8_spec : ∀ x : UInt8, x ≠ 0 → lz8 x < 8 ∧ bbit x (lz8 x) = true ∧ ∀ j, j < lz8 x → bbit x j = false := by
  intro x hx
  have key : ∀ n : Fin 256, UInt8.ofNat n.val ≠ 0 → (decide (lz8 (UInt8.ofNat n.val) < 8) && bbit (UInt8.ofNat n.val) (lz8 (UInt8.ofNat n.val)) && (List.range (lz8 (UInt8.ofNat n.val))).all fun j => !bbit (UInt8.ofNat n.val) j) = true := by decide +kernel
  have := all_bytes (p := fun x => x ≠ 0 → (decide (lz8 x < 8) && bbit x (lz8 x) && (List.range (lz8 x)).all fun j => !bbit x j) = true) key x hx
  simp only [Bool.and_eq_true, decide_eq_true_eq, List.all_eq_true, List.mem_range, Bool.not_eq_true'] at this
  exact ⟨this.1.1, this.1.2, this.2⟩
theorem flip8_lt : ∀ (x : UInt8) (j : Nat), j < 8 → flip8 x j < 256 := by
  intro x j hj
  have key : ∀ n : Fin 256, ∀ j : Fin 8, flip8 (UInt8.ofNat n.val) j.val < 256 := by decide +kernel
  exact all_bytes (p := fun x => ∀ j : Fin 8, flip8 x j.val < 256) key x ⟨j, hj⟩
def flipB (x : UInt8) (j : Nat) : UInt8 := UInt8.ofNat (flip8 x j)
theorem flipB_bit : ∀ (x : UInt8) (j k : Nat), j < 8 → k < 8 → bbit (flipB x j) k = if k = j then !bbit x j else bbit x k := by
  intro x j k hj hk
  have key : ∀ n : Fin 256, ∀ j k : Fin 8, bbit (flipB (UInt8.ofNat n.val) j.val) k.val = if k.val = j.val then !bbit (UInt8.ofNat n.val) j.val else bbit (UInt8.ofNat n.val) k.val := by decide +kernel
  exact all_bytes (p := fun x => ∀ j k : Fin 8, bbit (flipB x j.val) k.val = if k.val = j.val then !bbit x j.val else bbit x k.val) key x ⟨j, hj⟩ ⟨k, hk⟩
def depths (b : B32) : List Nat := (List.range 256).filter (bitAt b)
def flipAt (b : B32) (i : Nat) : B32 := ⟨b.1.set (i / 8) (flipB (b.1.getD (i / 8) 0) (i % 8)), by rw [List.length_set]; exact b.2⟩
theorem flipAt_bit (b : B32) (i k : Nat) (hi : i < 256) (hk : k < 256) : bitAt (flipAt b i) k = if k = i then !bitAt b i else bitAt b k := by
  have hb := b.2
  unfold bitAt flipAt
  simp only
  by_cases h : k / 8 = i / 8
  · have e : (b.1.set (i / 8) (flipB (b.1.getD (i / 8) 0) (i % 8))).getD (k / 8) 0 = flipB (b.1.getD (i / 8) 0) (i % 8) := by
      rw [h]
      have : i / 8 < b.1.length := by omega
      simp [List.getD, this]
    rw [e, flipB_bit _ _ _ (by omega) (by omega), h]
    by_cases hk2 : k = i
    · subst hk2; simp
    · have : ¬ k % 8 = i % 8 := by omega
      rw [if_neg this, if_neg hk2]
  · have e : (b.1.set (i / 8) (flipB (b.1.getD (i / 8) 0) (i % 8))).getD (k / 8) 0 = b.1.getD (k / 8) 0 := by
      simp [List.getD, List.getElem?_set, Ne.symm h]
    have hk2 : ¬ k = i := fun hh => h (by rw [hh])
    rw [e, if_neg hk2]
theorem bits_zero (b : B32) (h : ∀ i, i < 256 → bitAt b i = false) : b = zB32 := by
  apply Subtype.ext
  apply List.ext_getElem
  · rw [b.2]; rfl
  · intro i h1 h2
    have hi : i < 32 := by rw [← b.2]; exact h1
    have : b.1[i] = 0 := byte_zero _ (fun j hj => by
      have := h (8 * i + j) (by omega)
      unfold bitAt at this
      rw [show (8 * i + j) / 8 = i by omega, show (8 * i + j) % 8 = j by omega] at this
      simpa [List.getD, h1] using this)
    rw [this]
    exact (List.getElem_replicate (a := (0 : UInt8)) (n := 32) h2).symm
theorem bitAt_zero (i : Nat) : bitAt zB32 i = false := by
  unfold bitAt zB32
  have : (List.replicate 32 (0 : UInt8)).getD (i / 8) 0 = 0 := by
    rw [List.getD_eq_getElem?_getD, List.getElem?_replicate]
    split <;> rfl
  rw [this, bbit_zero]
end Go.Proofs.YtgfkbeipckbkiaaDoor
/- E3 -/
namespace Go.Proofs.YtgfkbeipckbkiaaDoor
set_option linter.unusedSimpArgs false
set_option linter.unusedVariables false
open Go.RowKit
theorem bbit_test (x : UInt8) (j : Nat) : bbit x j = x.toNat.testBit (7 - j) := by
  unfold bbit
  rw [Nat.testBit_eq_decide_div_mod_eq]
  rfl
theorem bbit_xor (x y : UInt8) (j : Nat) : bbit (x ^^^ y) j = (bbit x j ^^ bbit y j) := by
  rw [bbit_test, bbit_test, bbit_test, UInt8.toNat_xor, Nat.testBit_xor]
/-- the number of leading bits that two keys have in common -/
def common (a b : B32) : Nat := ((List.range 256).find? fun i => bitAt a i ^^ bitAt b i).getD 256
theorem common_self (a : B32) : common a a = 256 := by
  unfold common
  have : (List.range 256).find? (fun i => bitAt a i ^^ bitAt a i) = none := by
    rw [List.find?_eq_none]
    intro i _
    simp
  rw [this]
  rfl
theorem find_range {p : Nat → Bool} {n m : Nat} (hm : m < n) (h1 : p m = true) (h2 : ∀ j, j < m → p j = false) : (List.range n).find? p = some m := by
  rw [List.find?_range_eq_some]
  exact ⟨h1, by simpa using hm, fun j hj => by simp [h2 j hj]⟩
theorem common_at (a b : B32) (k : Nat) (hk : k < 32) (h : ∀ j, j < k → a.1.getD j 0 = b.1.getD j 0) (hne : a.1.getD k 0 ^^^ b.1.getD k 0 ≠ 0) : common a b = 8 * k + lz8 (a.1.getD k 0 ^^^ b.1.getD k 0) := by
  obtain ⟨h1, h2, h3⟩ := lz8_spec _ hne
  generalize hd : a.1.getD k 0 ^^^ b.1.getD k 0 = d at *
  have hbit : ∀ j, j < 8 → (bitAt a (8 * k + j) ^^ bitAt b (8 * k + j)) = bbit d j := fun j hj => by
    unfold bitAt
    rw [show (8 * k + j) / 8 = k by omega, show (8 * k + j) % 8 = j by omega, ← bbit_xor, hd]
  unfold common
  rw [find_range (m := 8 * k + lz8 d) (by omega) (by rw [hbit _ h1]; exact h2) (fun j hj => by
    by_cases hjk : j / 8 < k
    · unfold bitAt
      rw [h (j / 8) hjk]
      simp
    · obtain ⟨r, rfl⟩ : ∃ r, j = 8 * k + r := ⟨j - 8 * k, by omega⟩
      rw [hbit r (by omega)]
      exact h3 r (by omega))]
  rfl
theorem eq_bytes {a b : B32} (h : ∀ j, j < 32 → a.1.getD j 0 = b.1.getD j 0) : a = b := by
  have ha := a.2
  have hb := b.2
  apply Subtype.ext
  apply List.ext_getElem
  · omega
  · intro i h1 h2
    have := h i (by omega)
    simpa [List.getD, h1, h2] using this
end Go.Proofs.YtgfkbeipckbkiaaDoor
/- E8 -/
namespace Go.Proofs.YtgfkbeipckbkiaaDoor
set_option linter.unusedSimpArgs false
set_option linter.unusedVariables false
open Go.RowKit
def popN (b : B32) (k : Nat) : Nat := ((b.1.take k).map pop8).sum
theorem popN_le (b : B32) (k : Nat) : popN b k ≤ 256 := by
  unfold popN
  have h : ∀ l : List UInt8, (l.map pop8).sum ≤ 8 * l.length := by
    intro l
    induction l with
    | nil => simp
    | cons x l ih => have := pop8_le x; simp only [List.map_cons, List.sum_cons, List.length_cons]; omega
  have h1 := h (b.1.take k)
  have h2 : (b.1.take k).length ≤ 32 := by rw [List.length_take, b.2]; omega
  omega
theorem popN_succ (b : B32) (k : Nat) (hk : k < 32) : popN b (k + 1) = popN b k + pop8 (b.1.getD k 0) := by
  unfold popN
  rw [take_snoc (d := 0) (l := b.1) (by rw [b.2]; exact hk), List.map_append, List.sum_append]
  simp
theorem bitAt_byte (b : B32) (k j : Nat) (hj : j < 8) : bitAt b (8 * k + j) = bbit (b.1.getD k 0) j := by
  unfold bitAt
  rw [show (8 * k + j) / 8 = k by omega, show (8 * k + j) % 8 = j by omega]
theorem depths_upto (b : B32) : ∀ k, k ≤ 32 → ((List.range (8 * k)).filter (bitAt b)).length = popN b k
  | 0, _ => by simp [popN]
  | k + 1, h => by
    rw [popN_succ b k (by omega), ← depths_upto b k (by omega), Nat.mul_succ, List.range_add, List.filter_append, List.length_append, List.filter_map, List.length_map]
    congr 1
    unfold pop8
    congr 1
    apply List.filter_congr
    intro j hj
    exact bitAt_byte b k j (by simpa using hj)
theorem depths_len (b : B32) : (depths b).length = popN b 32 := depths_upto b 32 (Nat.le_refl _)
/-- the last bit that is set below n, or -1 -/
def lastI (b : B32) (n : Nat) : Int := match ((List.range n).filter (bitAt b)).getLast? with | some i => i | none => -1
theorem lastI_succ (b : B32) (n : Nat) : lastI b (n + 1) = if bitAt b n then (n : Int) else lastI b n := by
  unfold lastI
  rw [List.range_succ, List.filter_append]
  by_cases h : bitAt b n
  · simp [h]
  · simp [h]
theorem common_zero (r : B32) (h : r ≠ zB32) : common r zB32 < 256 ∧ bitAt r (common r zB32) = true ∧ ∀ j, j < common r zB32 → bitAt r j = false := by
  unfold common
  cases hf : (List.range 256).find? (fun i => bitAt r i ^^ bitAt zB32 i) with
  | none =>
    refine (h (bits_zero r fun i hi => ?_)).elim
    have := List.find?_eq_none.1 hf i (by simpa using hi)
    simpa [bitAt_zero] using this
  | some m =>
    rw [List.find?_range_eq_some] at hf
    obtain ⟨h1, h2, h3⟩ := hf
    simp only [Option.getD_some]
    refine ⟨by simpa using h2, by simpa [bitAt_zero] using h1, fun j hj => ?_⟩
    have := h3 j hj
    simpa [bitAt_zero] using this
theorem lastI_none (b : B32) : ∀ n, (∀ j, j < n → bitAt b j = false) → lastI b n = -1
  | 0, _ => rfl
  | n + 1, h => by rw [lastI_succ, h n (by omega), if_neg (by simp)]; exact lastI_none b n fun j hj => h j (by omega)
theorem lastI_ge (b : B32) : ∀ n, (lastI b n = -1 ∧ ∀ j, j < n → bitAt b j = false) ∨ (∃ m : Nat, m < n ∧ lastI b n = m ∧ bitAt b m = true)
  | 0 => .inl ⟨rfl, fun j hj => by omega⟩
  | n + 1 => by
    rw [lastI_succ]
    by_cases h : bitAt b n = true
    · rw [if_pos h]; exact .inr ⟨n, by omega, rfl, h⟩
    · rw [if_neg h]
      rcases lastI_ge b n with ⟨h1, h2⟩ | ⟨m, h1, h2, h3⟩
      · refine .inl ⟨h1, fun j hj => ?_⟩
        by_cases e : j = n
        · subst e; simpa using h
        · exact h2 j (by omega)
      · exact .inr ⟨m, by omega, h2, h3⟩
theorem lastI_flip (r : B32) (i : Nat) (hi : i < 256) (hb : bitAt r i = true) (hl : ∀ j, j < i → bitAt r j = false) : ∀ n, n ≤ 256 → lastI r n = if lastI (flipAt r i) n = -1 then (if i < n then (i : Int) else -1) else lastI (flipAt r i) n
  | 0, _ => rfl
  | n + 1, hn => by
    have ih := lastI_flip r i hi hb hl n (by omega)
    rw [lastI_succ, lastI_succ, flipAt_bit r i n hi (by omega)]
    by_cases e : n = i
    · subst e
      have h1 : lastI (flipAt r n) n = -1 := lastI_none _ n fun j hj => by rw [flipAt_bit r n j hi (by omega), if_neg (by omega)]; exact hl j hj
      rw [if_pos hb, if_pos rfl, hb, if_neg (by simp : ¬ (!true) = true), h1, if_pos rfl, if_pos (by omega)]
    · rw [if_neg e]
      by_cases h : bitAt r n = true
      · rw [if_pos h, if_pos h, if_neg (by omega)]
      · rw [if_neg h, if_neg h, ih]
        by_cases h2 : lastI (flipAt r i) n = -1
        · rw [if_pos h2, if_pos h2]
          by_cases h3 : i < n
          · rw [if_pos h3, if_pos (by omega)]
          · rw [if_neg h3, if_neg (by omega)]
        · rw [if_neg h2, if_neg h2]
theorem last_step (r : B32) (h : r ≠ zB32) : lastI r 256 = if flipAt r (common r zB32) = zB32 then (common r zB32 : Int) else lastI (flipAt r (common r zB32)) 256 := by
  obtain ⟨h1, h2, h3⟩ := common_zero r h
  generalize common r zB32 = i at *
  rw [lastI_flip r i h1 h2 h3 256 (Nat.le_refl _)]
  by_cases e : flipAt r i = zB32
  · rw [if_pos e, e, lastI_none zB32 256 (fun j _ => bitAt_zero j), if_pos rfl, if_pos h1]
  · rw [if_neg e, if_neg]
    intro h4
    rcases lastI_ge (flipAt r i) 256 with ⟨_, h5⟩ | ⟨m, _, h5, _⟩
    · exact e (bits_zero _ h5)
    · omega
theorem bits_ext {a b : B32} (h : ∀ i, i < 256 → bitAt a i = bitAt b i) : a = b := by
  refine eq_bytes fun j hj => ?_
  have key : ∀ x y : UInt8, (∀ i, i < 8 → bbit x i = bbit y i) → x = y := fun x y hxy => by
    have : x ^^^ y = 0 := byte_zero _ fun i hi => by rw [bbit_xor, hxy i hi]; simp
    simpa using this
  refine key _ _ fun i hi => ?_
  rw [← bitAt_byte a j i hi, ← bitAt_byte b j i hi]
  exact h _ (by omega)
def bitN (b : B32) (i : Nat) : Nat := if bitAt b i then 1 else 0
theorem bitN_le (b : B32) (i : Nat) : bitN b i ≤ 1 := by unfold bitN; split <;> omega
theorem bitN_one (b : B32) (i : Nat) : decide (((bitN b i : Nat) : Int) = 1) = bitAt b i := by unfold bitN; cases bitAt b i <;> rfl
theorem bit_bv (x : UInt8) (j : Nat) : ((((x.toBitVec >>> (7 - j)) &&& 1).toNat : Nat) : Int) = ((if bbit x j then 1 else 0 : Nat) : Int) := by
  have h : ((x.toBitVec >>> (7 - j)) &&& 1).toNat = x.toNat / 2 ^ (7 - j) % 2 := by
    rw [BitVec.toNat_and, BitVec.toNat_ushiftRight]
    show (x.toNat >>> (7 - j)) &&& 1 = _
    rw [Nat.and_one_is_mod, Nat.shiftRight_eq_div_pow]
  rw [h]
  unfold bbit
  have h3 : x.toNat / 2 ^ (7 - j) % 2 < 2 := Nat.mod_lt _ (by omega)
  generalize x.toNat / 2 ^ (7 - j) % 2 = y at *
  rcases (show y = 0 ∨ y = 1 by omega) with rfl | rfl <;> rfl
theorem lz8_le (x : UInt8) : lz8 x ≤ 8 := by
  revert x
  refine all_bytes ?_
  decide +kernel
/-- the bits that are set, below k -/
def dep (b : B32) (k : Nat) : List Nat := (List.range k).filter (bitAt b)
theorem dep_256 (b : B32) : dep b 256 = depths b := rfl
theorem dep_len (b : B32) (k : Nat) : (dep b k).length ≤ k := by
  unfold dep
  exact Nat.le_trans (List.length_filter_le _ _) (by simp)
theorem dep_yes {b : B32} {k : Nat} (h : bitAt b k = true) : dep b (k + 1) = dep b k ++ [k] := by
  unfold dep
  rw [List.range_succ, List.filter_append, List.filter_cons, if_pos h]
  rfl
theorem dep_no {b : B32} {k : Nat} (h : ¬ bitAt b k = true) : dep b (k + 1) = dep b k := by
  unfold dep
  rw [List.range_succ, List.filter_append, List.filter_cons, if_neg h]
  simp
theorem flip_bv (x : UInt8) (j : Nat) (hj : j < 8) : UInt8.ofBitVec (x.toBitVec ^^^ ((1 : BitVec 8) <<< (7 - j))) = flipB x j := by
  have key : ∀ n : Fin 256, ∀ m : Fin 8, UInt8.ofBitVec ((UInt8.ofNat n.val).toBitVec ^^^ ((1 : BitVec 8) <<< (7 - m.val))) = flipB (UInt8.ofNat n.val) m.val := by decide +kernel
  exact all_bytes (p := fun x => ∀ m : Fin 8, UInt8.ofBitVec (x.toBitVec ^^^ ((1 : BitVec 8) <<< (7 - m.val))) = flipB x m.val) key x ⟨j, hj⟩
end Go.Proofs.YtgfkbeipckbkiaaDoor
/- U8 -/
namespace Go.Proofs.YtgfkbeipckbkiaaDoor
set_option linter.unusedSimpArgs false
set_option linter.unusedVariables false
open Go.RowKit
section
variable {P : Program} {n : Nat} {D : List Deferred} {E : Env} {L : List Fa} {T : TypeId} {x y : Operand} {k : IntKind} {i : Int}
theorem r_ixs {s : ByteArray} {j : Nat} {c : UInt8} (hu : P.underlying T = some .string) (hx : ev E x = some (.string s)) (hy : ev E y = some (.int k i)) [hj : NatOf i j] (hc : s[j]? = some c) : Runs0 P n D E L (.index T x y) (.int .u8 (c.toNat : Int)) := fun a w ka st o ho => by
  obtain rfl := hj.eq
  unfold execOp
  simp only [ho, ka.ev hx, ka.ev hy, Instr.index, asIntOf, Sem.run_bind, Sem.run_pure, Result.andThen_ok, run_underlying hu]
  simp [hc]
end
instance rowB1 (b : B32) : Row (bc b.1) 32 := ⟨by rw [bc_length]; exact b.2, bc_one _⟩
theorem Bit_s (b : B32) (i : Nat) (hi : i < 256) : Spec Tryd.prog 81 [.agg b.cells.toArray, .int .i64 (i : Int)].toArray [] [] (fun _ : Unit => .int .i64 ((bitN b i : Nat) : Int)) (fun _ => []) := by
  have hb := b.2
  refine spec_of Tryd.func81 rfl (n := 21) rfl rfl ?_
  intro W
  refine h_seq ?_
  refine h_reg ?_
  refine h_opX (x_box rfl) fun g2 => ?_
  refine h_op (r_assign rfl) ?_
  refine h_nil ?_
  refine q_then ?_
  refine h_seq ?_
  refine h_seq ?_
  refine h_reg ?_
  refine h_op (r_move rfl) ?_
  refine h_op (r_bool (r_lss rfl rfl) (decide_eq_false (by omega))) ?_
  refine h_op (r_move rfl) ?_
  refine h_op (r_move rfl) ?_
  refine h_op (r_bool (r_geq rfl rfl) (decide_eq_false (by omega))) ?_
  refine h_op (r_pick rfl rfl) ?_
  refine h_nil ?_
  refine q_then ?_
  refine h_condF rfl ?_
  refine h_skip ?_
  refine q_then ?_
  refine h_seq ?_
  refine h_reg ?_
  refine h_op (r_move rfl) ?_
  refine h_op (r_quo rfl rfl) ?_
  refine h_op (r_idxA rfl rfl) ?_
  refine h_op (r_nth rfl (bc_at' (by omega))) ?_
  refine h_op (r_move rfl) ?_
  refine h_op (r_rem rfl rfl) ?_
  refine h_op (r_subN rfl rfl) ?_
  refine h_op (r_shr rfl rfl) ?_
  refine h_op (r_and rfl rfl) ?_
  refine h_op (r_int (r_cUI rfl) (bit_bv _ (i % 8))) ?_
  refine h_op (r_assign rfl) ?_
  refine h_nil ?_
  refine q_then ?_
  refine h_ret ?_
  exact h_ret1 rfl rfl fun w s => ⟨(), rfl, s.res (List.nil_sublist _) (by simp)⟩
theorem u8of {m : Nat} (h : m < 256) : (((UInt8.ofNat m).toBitVec.toNat : Nat) : Int) = (m : Int) := by
  show (((UInt8.ofNat m).toNat : Nat) : Int) = (m : Int)
  rw [UInt8.toNat_ofNat', Nat.mod_eq_of_lt h]
theorem Len8_s (x : UInt8) : Spec Tryd.prog 115 [.int .u8 (x.toNat : Int)].toArray [] [] (fun _ : Unit => .int .i64 ((8 - lz8 x : Nat) : Int)) (fun _ => []) := by
  have hp := lz8_le x
  refine spec_of Tryd.func115 rfl (n := 6) rfl rfl ?_
  intro W
  refine h_seq ?_
  refine h_reg ?_
  refine h_op (r_assign rfl) ?_
  refine h_nil ?_
  refine q_then ?_
  refine h_seq ?_
  refine h_reg ?_
  refine h_op (r_move rfl) ?_
  refine h_op (r_ixs (c := UInt8.ofNat (8 - lz8 x)) Tryd.underlying9 rfl rfl (by clear W hp; revert x; refine all_bytes ?_; decide +kernel)) ?_
  refine h_op (r_int (r_cUI rfl) (u8of (by omega))) ?_
  refine h_op (r_assign rfl) ?_
  refine h_nil ?_
  refine q_then ?_
  refine h_ret ?_
  exact h_ret1 rfl rfl fun w s => ⟨(), rfl, s.res (List.nil_sublist _) (by simp)⟩
theorem LeadingZeros8_s (x : UInt8) : Spec Tryd.prog 113 [.int .u8 (x.toNat : Int)].toArray [] [] (fun _ : Unit => .int .i64 ((lz8 x : Nat) : Int)) (fun _ => []) := by
  have hp := lz8_le x
  refine spec_of Tryd.func113 rfl (n := 6) rfl rfl ?_
  intro W
  refine h_seq ?_
  refine h_reg ?_
  refine h_op (r_assign rfl) ?_
  refine h_nil ?_
  refine q_then ?_
  refine h_seq ?_
  refine h_reg ?_
  refine h_op (r_move rfl) ?_
  refine h_call ((Len8_s x).comes) rfl rfl rfl fun _ => ?_
  refine h_op (r_subN rfl rfl (m := lz8 x) (hm := by omega)) ?_
  refine h_op (r_assign rfl) ?_
  refine h_nil ?_
  refine q_then ?_
  refine h_ret ?_
  exact h_ret1 rfl rfl fun w s => ⟨(), rfl, s.res (List.nil_sublist _) (by simp)⟩
theorem xor_zero (x y : UInt8) (h : (x.toBitVec ^^^ y.toBitVec).toNat = 0) : x = y := by
  have h2 : x ^^^ y = 0 := by
    apply UInt8.toBitVec_inj.1
    rw [UInt8.toBitVec_xor]
    exact BitVec.eq_of_toNat_eq (by rw [h]; rfl)
  simpa using h2
theorem Common_s (a b : B32) : Spec Tryd.prog 108 [.agg a.cells.toArray, .agg b.cells.toArray].toArray [] [] (fun _ : Unit => .int .i64 ((common a b : Nat) : Int)) (fun _ => []) := by
  have ha := a.2
  have hb := b.2
  refine spec_of Tryd.func108 rfl (n := 28) rfl rfl ?_
  intro W
  refine h_seq ?_
  refine h_reg ?_
  refine h_opX (x_box rfl) fun g2 => ?_
  refine h_opX (x_box rfl) fun g3 => ?_
  refine h_op (r_assign rfl) ?_
  refine h_nil ?_
  refine q_then ?_
  refine h_seq ?_
  refine h_seq ?_
  refine h_reg ?_
  refine h_op (r_loadr rfl) ?_
  refine h_op (r_loadr rfl) ?_
  refine h_op (r_eqr rfl rfl) ?_
  refine h_nil ?_
  refine q_then ?_
  refine h_cond rfl (fun hab => ?_) (fun hab => ?_)
  · rw [show common a b = 256 by rw [hab]; exact common_self b]
    refine h_seq ?_
    refine h_reg ?_
    refine h_op (r_assign rfl) ?_
    refine h_nil ?_
    refine q_then ?_
    refine h_ret ?_
    refine q_thenR ?_
    exact h_ret1 rfl rfl fun w s => ⟨(), rfl, s.res (List.nil_sublist _) (by simp)⟩
  · refine h_skip ?_
    refine q_then ?_
    refine h_seq ?_
    refine h_seq ?_
    refine h_reg ?_
    refine h_op (r_move rfl) ?_
    refine h_nil ?_
    refine q_then ?_
    refine h_block ?_
    refine h_loop (fun (k : Nat) => k ≤ 32 ∧ ∀ j, j < k → a.1.getD j 0 = b.1.getD j 0) (fun (k : Nat) => [(10, .int .i64 (k : Int)), (2, .pointer (some ⟨g2, 0, none⟩)), (3, .pointer (some ⟨g3, 0, none⟩))]) (fun (k : Nat) => [.blk g2 a.cells 40, .blk g3 b.cells 40]) (fun (k : Nat) => 32 - k) 0 (⟨by omega, fun j hj => by omega⟩) ⟨rfl, rfl, rfl, trivial⟩ (same) ?_
    intro k hk
    refine h_seq ?_
    refine h_reg ?_
    refine h_op (r_lss rfl rfl) ?_
    refine h_nil ?_
    refine q_then ?_
    refine h_seq ?_
    refine h_cond rfl (fun h => ?_) (fun h => ?_)
    · refine h_skip ?_
      refine q_then ?_
      refine h_seq ?_
      refine h_block ?_
      refine h_seq ?_
      refine h_reg ?_
      refine h_op (r_move rfl) ?_
      refine h_op (r_assign rfl) ?_
      refine h_nil ?_
      refine q_then ?_
      refine h_seq ?_
      refine ha_start [.blk g2 a.cells 40, .blk g3 b.cells 40] [] mixed (same) ?_
      refine ha_takeP 0 rfl (r_move rfl) ?_
      refine ha_takeP 1 rfl (r_idxA rfl rfl) ?_
      refine ha_take 2 rfl (r_nth rfl (bc_at' (by omega))) ?_
      refine ha_takeP 3 rfl (r_move rfl) ?_
      refine ha_takeP 4 rfl (r_idxA rfl rfl) ?_
      refine ha_take 5 rfl (r_nth rfl (bc_at' (by omega))) ?_
      refine ha_takeP 6 rfl (r_xor rfl rfl) ?_
      refine ha_takeP 7 rfl (r_assign rfl) ?_
      refine ha_done (by kernel_rfl) ?_
      refine q_then ?_
      refine h_seq ?_
      refine h_reg ?_
      refine h_op (r_move rfl) ?_
      refine h_op (r_neq rfl rfl) ?_
      refine h_nil ?_
      refine q_then ?_
      refine h_cond rfl (fun hne => ?_) (fun hne => ?_)
      · have hne2 : a.1.getD k 0 ^^^ b.1.getD k 0 ≠ 0 := fun h0 => hne (by rw [← UInt8.toBitVec_xor, h0]; rfl)
        have hc := common_at a b k (by omega) hk.2 hne2
        have hl := lz8_le (a.1.getD k 0 ^^^ b.1.getD k 0)
        refine h_seq ?_
        refine h_reg ?_
        refine h_op (r_move rfl) ?_
        refine h_op (r_mul rfl rfl) ?_
        refine h_op (r_move rfl) ?_
        refine h_call ((LeadingZeros8_s (a.1.getD k 0 ^^^ b.1.getD k 0)).comes) rfl rfl rfl fun _ => ?_
        refine h_op (r_add rfl rfl) ?_
        refine h_op (r_assign rfl) ?_
        refine h_nil ?_
        refine q_then ?_
        refine h_ret ?_
        refine q_blockR ?_
        refine q_thenR ?_
        refine q_thenR ?_
        refine q_blockR ?_
        refine q_thenR ?_
        exact h_ret1 rfl (aI rfl (show _ = ((common a b : Nat) : Int) by rw [hc]; omega)) fun w s => ⟨(), rfl, s.res (List.nil_sublist _) (by simp)⟩
      · have heq : a.1.getD k 0 = b.1.getD k 0 := by
          refine xor_zero _ _ ?_
          have h1 := Decidable.not_not.1 hne
          exact_mod_cast h1
        refine h_skip ?_
        refine q_block ?_
        refine q_then ?_
        refine h_reg ?_
        refine h_op (r_add rfl rfl) ?_
        refine h_op (r_move rfl) ?_
        refine h_nil ?_
        exact h_back (k + 1) (⟨by omega, fun j hj => by by_cases hjk : j < k; exact hk.2 j hjk; obtain rfl : j = k := (by omega); exact heq⟩) (by omega) ⟨rfl, rfl, rfl, trivial⟩ (same)
    · exact (hab (eq_bytes fun j hj => hk.2 j (by omega))).elim
end Go.Proofs.YtgfkbeipckbkiaaDoor
/- E9 -/
namespace Go.Proofs.YtgfkbeipckbkiaaDoor
set_option linter.unusedSimpArgs false
set_option linter.unusedVariables false
open Go.RowKit
def cut8 (x : UInt8) (m : Nat) : UInt8 := UInt8.ofBitVec (x.toBitVec &&& ((255 : BitVec 8) <<< (8 - m)))
theorem cut8_bit (x : UInt8) (m j : Nat) (hm : m ≤ 8) (hj : j < 8) : bbit (cut8 x m) j = (decide (j < m) && bbit x j) := by
  have key : ∀ n : Fin 256, ∀ m : Fin 9, ∀ j : Fin 8, bbit (cut8 (UInt8.ofNat n.val) m.val) j.val = (decide (j.val < m.val) && bbit (UInt8.ofNat n.val) j.val) := by decide +kernel
  exact all_bytes (p := fun x => ∀ m : Fin 9, ∀ j : Fin 8, bbit (cut8 x m.val) j.val = (decide (j.val < m.val) && bbit x j.val)) key x ⟨m, by omega⟩ ⟨j, hj⟩
def cutB (b : B32) (n : Nat) : B32 := ⟨(List.range 32).map fun k => cut8 (b.1.getD k 0) (min 8 (n - 8 * k)), by simp⟩
theorem cutB_bit (b : B32) (n i : Nat) (hi : i < 256) : bitAt (cutB b n) i = (decide (i < n) && bitAt b i) := by
  unfold bitAt cutB
  simp only
  rw [List.getD, List.getElem?_map, List.getElem?_range (show i / 8 < 32 by omega)]
  simp only [Option.map_some, Option.getD_some]
  rw [cut8_bit _ _ _ (by omega) (by omega)]
  congr 1
  apply decide_eq_decide.2
  omega
theorem cutB_all (b : B32) (n : Nat) (h : 256 ≤ n) : cutB b n = b := bits_ext fun i hi => by rw [cutB_bit b n i hi, decide_eq_true (by omega)]; rfl
theorem cutB_flip (b : B32) (n : Nat) (h : n < 256) (hb : bitAt b n = true) : flipAt (cutB b (n + 1)) n = cutB b n := bits_ext fun i hi => by
  rw [flipAt_bit _ _ _ h hi, cutB_bit _ _ _ h, cutB_bit _ _ _ hi, cutB_bit _ _ _ hi]
  by_cases e : i = n
  · subst e; simp [hb]
  · rw [if_neg e, show decide (i < n + 1) = decide (i < n) from decide_eq_decide.2 (by omega)]
theorem cutB_same (b : B32) (n : Nat) (h : n < 256) (hb : bitAt b n = false) : cutB b (n + 1) = cutB b n := bits_ext fun i hi => by
  rw [cutB_bit _ _ _ hi, cutB_bit _ _ _ hi]
  by_cases e : i = n
  · subst e; simp [hb]
  · rw [show decide (i < n + 1) = decide (i < n) from decide_eq_decide.2 (by omega)]
/-- some bytes cut -/
def cutI (b : B32) (n k : Nat) : List UInt8 := (List.range k).map (fun k => cut8 (b.1.getD k 0) (min 8 (n - 8 * k))) ++ b.1.drop k
theorem cutI_0 (b : B32) (n : Nat) : cutI b n 0 = b.1 := rfl
theorem cutI_32 (b : B32) (n : Nat) : cutI b n 32 = (cutB b n).1 := by
  have := b.2
  unfold cutI cutB
  rw [List.drop_of_length_le (by omega), List.append_nil]
theorem cutI_len (b : B32) (n k : Nat) (h : k ≤ 32) : (cutI b n k).length = 32 := by
  have := b.2
  simp [cutI]
  omega
theorem cutI_get (b : B32) (n k : Nat) : (cutI b n k).getD k 0 = b.1.getD k 0 := by
  unfold cutI
  rw [List.getD, List.getElem?_append_right (by simp)]
  simp [List.getD]
theorem cutI_set (b : B32) (n k : Nat) (h : k < 32) : (cutI b n k).set k (cut8 (b.1.getD k 0) (min 8 (n - 8 * k))) = cutI b n (k + 1) := by
  have hb := b.2
  unfold cutI
  rw [List.set_append_right _ _ (by simp), List.range_succ, List.map_append, List.append_assoc]
  congr 1
  rw [List.length_map, List.length_range, Nat.sub_self, List.drop_eq_getElem_cons (by omega), List.set_cons_zero]
  rfl
theorem common_of {a b : B32} {k : Nat} (hk : k ≤ 256) (h1 : ∀ j, j < k → (bitAt a j ^^ bitAt b j) = false) (h2 : k = 256 ∨ (bitAt a k ^^ bitAt b k) = true) : common a b = k := by
  unfold common
  by_cases h : k < 256
  · rcases h2 with h2 | h2
    · omega
    · rw [find_range h h2 h1]; rfl
  · obtain rfl : k = 256 := by omega
    rw [List.find?_eq_none.2 fun i hi => by rw [h1 i (by simpa using hi)]; simp]
    rfl
theorem bitN_eq (a b : B32) (k : Nat) : decide (((bitN a k : Nat) : Int) = ((bitN b k : Nat) : Int)) = !(bitAt a k ^^ bitAt b k) := by
  unfold bitN
  cases bitAt a k <;> cases bitAt b k <;> rfl
theorem bitN_div (b : B32) (i : Nat) : (((b.1.getD (i / 8) 0).toNat / 2 ^ (7 - i % 8) : Nat) : Int) % 2 = ((bitN b i : Nat) : Int) := by
  unfold bitN bitAt bbit
  generalize (b.1.getD (i / 8) 0).toNat / 2 ^ (7 - i % 8) = y
  rcases (show y % 2 = 0 ∨ y % 2 = 1 by omega) with h | h
  · rw [h]; simp; omega
  · rw [h]; simp; omega
theorem bbit_ge (x : UInt8) (j : Nat) (h : bbit x j = true) : 2 ^ (7 - j) ≤ x.toNat := by
  apply Nat.le_of_not_lt
  intro h2
  unfold bbit at h
  rw [Nat.div_eq_of_lt h2] at h
  cases h
theorem flip_up (x : UInt8) (j : Nat) (h : bbit x j = false) : UInt8.ofBitVec (BitVec.ofNat 8 (x.toNat + 2 ^ (7 - j))) = flipB x j := by
  unfold flipB flip8
  rw [h]
  rfl
theorem flip_down (x : UInt8) (j : Nat) (h : bbit x j = true) : UInt8.ofBitVec (BitVec.ofNat 8 (x.toNat - 2 ^ (7 - j))) = flipB x j := by
  unfold flipB flip8
  rw [h]
  rfl
end Go.Proofs.YtgfkbeipckbkiaaDoor
/- U9 -/
namespace Go.Proofs.YtgfkbeipckbkiaaDoor
set_option linter.unusedSimpArgs false
set_option linter.unusedVariables false
open Go.RowKit
theorem refBit_s (b : B32) (i : Nat) (hi : i < 256) : Spec Tryd.prog 47 [.agg b.cells.toArray, .int .i64 (i : Int)].toArray [] [] (fun _ : Unit => .int .i64 ((bitN b i : Nat) : Int)) (fun _ => []) := by
  have hb := b.2
  have hd := bitN_div b i
  have hx := UInt8.toNat_lt (b.1.getD (i / 8) 0)
  refine spec_of Tryd.func47 rfl (n := 28) rfl rfl ?_
  intro W
  refine h_seq ?_
  refine h_reg ?_
  refine h_opX (x_box rfl) fun g2 => ?_
  refine h_op (r_assign rfl) ?_
  refine h_nil ?_
  refine q_then ?_
  refine h_seq ?_
  refine h_seq ?_
  refine h_reg ?_
  refine h_op (r_move rfl) ?_
  refine h_op (r_bool (r_lss rfl rfl) (decide_eq_false (by omega))) ?_
  refine h_op (r_move rfl) ?_
  refine h_op (r_move rfl) ?_
  refine h_op (r_bool (r_gtr rfl rfl) (decide_eq_false (by omega))) ?_
  refine h_op (r_pick rfl rfl) ?_
  refine h_nil ?_
  refine q_then ?_
  refine h_condF rfl ?_
  refine h_skip ?_
  refine q_then ?_
  refine h_seq ?_
  refine h_reg ?_
  refine h_op (r_move rfl) ?_
  refine h_op (r_quo rfl rfl) ?_
  refine h_op (r_idxA rfl rfl) ?_
  refine h_op (r_nth rfl (bc_at' (by omega))) ?_
  refine h_op (r_int (r_cUI rfl) (show _ = (((b.1.getD (i / 8) 0).toNat : Nat) : Int) from rfl)) ?_
  refine h_op (r_assign rfl) ?_
  refine h_nil ?_
  refine q_then ?_
  refine h_seq ?_
  refine h_seq ?_
  refine h_reg ?_
  refine h_op (r_move rfl) ?_
  refine h_op (r_rem rfl rfl) ?_
  refine h_op (r_assign rfl) ?_
  refine h_nil ?_
  refine q_then ?_
  refine h_block ?_
  generalize (b.1.getD (i / 8) 0) = x at *
  refine h_loop (fun (k : Nat) => i % 8 ≤ k ∧ k ≤ 7) (fun (k : Nat) => [(6, .int .i64 (k : Int)), (5, .int .i64 ((x.toNat / 2 ^ (k - i % 8) : Nat) : Int))]) (fun (k : Nat) => []) (fun (k : Nat) => 7 - k) (i % 8) (⟨Nat.le_refl _, by omega⟩) ⟨aI rfl (by omega), aI rfl (by rw [Nat.sub_self, Nat.pow_zero, Nat.div_one]), trivial⟩ (same) ?_
  intro k hk
  have hq : x.toNat / 2 ^ (k - i % 8) < 256 := Nat.lt_of_le_of_lt (Nat.div_le_self _ _) hx
  refine h_seq ?_
  refine h_seq ?_
  refine h_reg ?_
  refine h_op (r_move rfl) ?_
  refine h_op (r_lss rfl rfl) ?_
  refine h_nil ?_
  refine q_then ?_
  refine h_cond rfl (fun h => ?_) (fun h => ?_)
  · have hs : x.toNat / 2 ^ (k - i % 8) / 2 = x.toNat / 2 ^ (k + 1 - i % 8) := by
      rw [Nat.div_div_eq_div_mul, ← Nat.pow_succ]
      congr 2
      omega
    generalize x.toNat / 2 ^ (k - i % 8) = y at *
    refine h_skip ?_
    refine q_then ?_
    refine h_seq ?_
    refine h_block ?_
    refine h_reg ?_
    refine h_op (r_move rfl) ?_
    refine h_op (r_quo rfl rfl) ?_
    refine h_op (r_assign rfl) ?_
    refine h_nil ?_
    refine q_block ?_
    refine q_then ?_
    refine h_reg ?_
    refine h_op (r_move rfl) ?_
    refine h_op (r_add rfl rfl) ?_
    refine h_op (r_assign rfl) ?_
    refine h_nil ?_
    exact h_back (k + 1) (⟨by omega, by omega⟩) (by omega) ⟨rfl, aI rfl (by rw [← hs]; rfl), trivial⟩ (same)
  · obtain rfl : k = 7 := by omega
    generalize x.toNat / 2 ^ (7 - i % 8) = y at *
    refine h_exit ?_
    refine q_thenE ?_
    refine q_thenE ?_
    refine q_blockE ?_
    refine q_then ?_
    refine h_seq ?_
    refine h_reg ?_
    refine h_op (r_move rfl) ?_
    refine h_op (r_int (r_rem rfl rfl) hd) ?_
    refine h_op (r_assign rfl) ?_
    refine h_nil ?_
    refine q_then ?_
    refine h_ret ?_
    exact h_ret1 rfl rfl fun w s => ⟨(), rfl, s.res (List.nil_sublist _) (by simp)⟩
theorem value_s (i : Nat) (hi : i < 256) : Spec Tryd.prog 65 [.int .i64 (i : Int)].toArray [] [] (fun _ : Unit => .int .i64 ((2 ^ (7 - i % 8) : Nat) : Int)) (fun _ => []) := by
  refine spec_of Tryd.func65 rfl (n := 14) rfl rfl ?_
  intro W
  refine h_seq ?_
  refine h_reg ?_
  refine h_op (r_assign rfl) ?_
  refine h_nil ?_
  refine q_then ?_
  refine h_seq ?_
  refine h_reg ?_
  refine h_op (r_assign rfl) ?_
  refine h_nil ?_
  refine q_then ?_
  refine h_seq ?_
  refine h_seq ?_
  refine h_reg ?_
  refine h_op (r_move rfl) ?_
  refine h_op (r_rem rfl rfl) ?_
  refine h_op (r_assign rfl) ?_
  refine h_nil ?_
  refine q_then ?_
  refine h_block ?_
  refine h_loop (fun (k : Nat) => i % 8 ≤ k ∧ k ≤ 7) (fun (k : Nat) => [(4, .int .i64 (k : Int)), (3, .int .i64 ((2 ^ (k - i % 8) : Nat) : Int))]) (fun (k : Nat) => []) (fun (k : Nat) => 7 - k) (i % 8) (⟨Nat.le_refl _, by omega⟩) ⟨aI rfl (by omega), aI rfl (by rw [Nat.sub_self]; rfl), trivial⟩ (same) ?_
  intro k hk
  have hq : 2 ^ (k - i % 8) ≤ 2 ^ 7 := Nat.pow_le_pow_right (by decide) (by omega)
  refine h_seq ?_
  refine h_seq ?_
  refine h_reg ?_
  refine h_op (r_move rfl) ?_
  refine h_op (r_lss rfl rfl) ?_
  refine h_nil ?_
  refine q_then ?_
  refine h_cond rfl (fun h => ?_) (fun h => ?_)
  · have hs : 2 ^ (k - i % 8) * 2 = 2 ^ (k + 1 - i % 8) := by
      rw [← Nat.pow_succ]
      congr 1
      omega
    generalize 2 ^ (k - i % 8) = y at *
    refine h_skip ?_
    refine q_then ?_
    refine h_seq ?_
    refine h_block ?_
    refine h_reg ?_
    refine h_op (r_move rfl) ?_
    refine h_op (r_mul rfl rfl) ?_
    refine h_op (r_assign rfl) ?_
    refine h_nil ?_
    refine q_block ?_
    refine q_then ?_
    refine h_reg ?_
    refine h_op (r_move rfl) ?_
    refine h_op (r_add rfl rfl) ?_
    refine h_op (r_assign rfl) ?_
    refine h_nil ?_
    exact h_back (k + 1) (⟨by omega, by omega⟩) (by omega) ⟨rfl, aI rfl (by rw [← hs]; rfl), trivial⟩ (same)
  · obtain rfl : k = 7 := by omega
    refine h_exit ?_
    refine q_thenE ?_
    refine q_thenE ?_
    refine q_blockE ?_
    refine q_then ?_
    refine h_seq ?_
    refine h_reg ?_
    refine h_op (r_move rfl) ?_
    refine h_op (r_assign rfl) ?_
    refine h_nil ?_
    refine q_then ?_
    refine h_ret ?_
    exact h_ret1 rfl rfl fun w s => ⟨(), rfl, s.res (List.nil_sublist _) (by simp)⟩
theorem refFlip_s (b : B32) (i : Nat) (hi : i < 256) : Spec Tryd.prog 40 [.agg b.cells.toArray, .int .i64 (i : Int)].toArray [] [] (fun _ : Unit => .agg (flipAt b i).cells.toArray) (fun _ => []) := by
  have hb := b.2
  have hx := UInt8.toNat_lt (b.1.getD (i / 8) 0)
  have hq : 2 ^ (7 - i % 8) ≤ 2 ^ 7 := Nat.pow_le_pow_right (by decide) (by omega)
  have hf : b.1.set (i / 8) (flipB (b.1.getD (i / 8) 0) (i % 8)) = (flipAt b i).1 := rfl
  have hup := flip_up (b.1.getD (i / 8) 0) (i % 8)
  have hdn := flip_down (b.1.getD (i / 8) 0) (i % 8)
  have hge := bbit_ge (b.1.getD (i / 8) 0) (i % 8)
  have hv := value_s i hi
  generalize 2 ^ (7 - i % 8) = q at *
  refine spec_of Tryd.func40 rfl (n := 37) rfl rfl ?_
  intro W
  change H _ _ _ _ (argsEnv 0 [.agg (bc b.1).toArray, .int .i64 (i : Int)]) _ _
  refine h_seq ?_
  refine h_reg ?_
  refine h_opX (x_box rfl) fun g2 => ?_
  refine h_opX (x_alloc) fun g4 => ?_
  refine h_nil ?_
  refine q_then ?_
  refine h_seq ?_
  refine h_seq ?_
  refine h_reg ?_
  refine h_op (r_loadr rfl) ?_
  refine h_op (r_move rfl) ?_
  refine h_call ((refBit_s b i hi).comes) rfl rfl rfl fun _ => ?_
  by_cases hbit : bitAt b i = true
  · have hn : bitN b i = 1 := by unfold bitN; rw [hbit]; rfl
    rw [hn]
    have hdn := hdn hbit
    have hge := hge hbit
    refine h_nil ?_
    refine q_then ?_
    refine h_block ?_
    refine h_seq ?_
    refine h_reg ?_
    refine h_op (r_bool (r_eql rfl rfl) (show _ = false by decide)) ?_
    refine h_op (r_assign rfl) ?_
    refine h_nil ?_
    refine q_then ?_
    refine h_condF rfl ?_
    refine h_seq ?_
    refine h_reg ?_
    refine h_op (r_bool (r_eql rfl rfl) (show _ = true by decide)) ?_
    refine h_op (r_assign rfl) ?_
    refine h_nil ?_
    refine q_then ?_
    refine h_condT rfl ?_
    refine ha_start [.blk g2 (bc b.1) 40] [] mixed (same) ?_
    refine ha_takeP 0 rfl (r_move rfl) ?_
    refine ha_takeP 1 rfl (r_quo rfl rfl) ?_
    refine ha_takeP 2 rfl (r_move rfl) ?_
    refine ha_takeP 3 rfl (r_quo rfl rfl) ?_
    refine ha_takeP 4 rfl (r_idxA rfl rfl) ?_
    refine ha_take 5 rfl (r_nth rfl (bc_at' (by omega))) ?_
    refine ha_takeP 6 rfl (r_int (r_cUI rfl) (show _ = (((b.1.getD (i / 8) 0).toNat : Nat) : Int) from rfl)) ?_
    refine ha_takeP 7 rfl (r_move rfl) ?_
    refine ha_one 8 ?_
    refine ho_C 8 rfl (hv.comes) rfl rfl rfl (fun _ => same) fun _ => ?_
    refine ha_takeP 9 rfl (r_subN rfl rfl) ?_
    refine ha_takeP 10 rfl (r_cNW rfl) ?_
    refine ha_takeP 11 rfl (r_idxA rfl rfl) ?_
    refine ha_one 12 ?_
    refine ho_SL 12 rfl (s_setB rfl rfl) ?_
    refine q_block ?_
    refine q_then ?_
    rw [hdn, hf]
    change H _ _ _ _ _ (.blk g2 (flipAt b i).cells _ :: _) _
    refine h_seq ?_
    refine h_reg ?_
    refine h_op (r_loadr rfl) ?_
    refine h_opS (s_storer rfl rfl) ?_
    refine h_nil ?_
    refine q_then ?_
    refine h_ret ?_
    exact h_ret1 rfl (rv_row rfl) fun w s => ⟨(), rfl, s.res (List.nil_sublist _) (by simp)⟩
  · have hbit : bitAt b i = false := by simpa using hbit
    have hn : bitN b i = 0 := by unfold bitN; rw [hbit]; rfl
    rw [hn]
    have hup := hup hbit
    refine h_nil ?_
    refine q_then ?_
    refine h_block ?_
    refine h_seq ?_
    refine h_reg ?_
    refine h_op (r_bool (r_eql rfl rfl) (show _ = true by decide)) ?_
    refine h_op (r_assign rfl) ?_
    refine h_nil ?_
    refine q_then ?_
    refine h_condT rfl ?_
    refine ha_start [.blk g2 (bc b.1) 40] [] mixed (same) ?_
    refine ha_takeP 0 rfl (r_move rfl) ?_
    refine ha_takeP 1 rfl (r_quo rfl rfl) ?_
    refine ha_takeP 2 rfl (r_move rfl) ?_
    refine ha_takeP 3 rfl (r_quo rfl rfl) ?_
    refine ha_takeP 4 rfl (r_idxA rfl rfl) ?_
    refine ha_take 5 rfl (r_nth rfl (bc_at' (by omega))) ?_
    refine ha_takeP 6 rfl (r_int (r_cUI rfl) (show _ = (((b.1.getD (i / 8) 0).toNat : Nat) : Int) from rfl)) ?_
    refine ha_takeP 7 rfl (r_move rfl) ?_
    refine ha_one 8 ?_
    refine ho_C 8 rfl (hv.comes) rfl rfl rfl (fun _ => same) fun _ => ?_
    refine ha_takeP 9 rfl (r_add rfl rfl) ?_
    refine ha_takeP 10 rfl (r_cNW rfl) ?_
    refine ha_takeP 11 rfl (r_idxA rfl rfl) ?_
    refine ha_one 12 ?_
    refine ho_SL 12 rfl (s_setB rfl rfl) ?_
    refine q_block ?_
    refine q_then ?_
    rw [hup, hf]
    change H _ _ _ _ _ (.blk g2 (flipAt b i).cells _ :: _) _
    refine h_seq ?_
    refine h_reg ?_
    refine h_op (r_loadr rfl) ?_
    refine h_opS (s_storer rfl rfl) ?_
    refine h_nil ?_
    refine q_then ?_
    refine h_ret ?_
    exact h_ret1 rfl (rv_row rfl) fun w s => ⟨(), rfl, s.res (List.nil_sublist _) (by simp)⟩
theorem Prefix_s (b : B32) (n : Nat) (hn : n ≤ 256) : Spec Tryd.prog 86 [.agg b.cells.toArray, .int .i64 (n : Int)].toArray [] [] (fun _ : Unit => .agg (cutB b n).cells.toArray) (fun _ => []) := by
  refine spec_of Tryd.func86 rfl (n := 21) rfl rfl ?_
  intro W
  refine h_seq ?_
  refine h_reg ?_
  refine h_opX (x_box rfl) fun g2 => ?_
  refine h_opX (x_alloc) fun g4 => ?_
  refine h_nil ?_
  refine q_then ?_
  refine h_seq ?_
  refine h_seq ?_
  refine h_reg ?_
  refine h_op (r_move rfl) ?_
  refine h_op (r_bool (r_lss rfl rfl) (decide_eq_false (by omega))) ?_
  refine h_nil ?_
  refine q_then ?_
  refine h_condF rfl ?_
  refine h_skip ?_
  refine q_then ?_
  refine h_seq ?_
  refine h_seq ?_
  refine h_reg ?_
  refine h_op (r_assign rfl) ?_
  refine h_nil ?_
  refine q_then ?_
  refine h_block ?_
  rw [show b.cells = (cutB b 256).cells by rw [cutB_all b 256 (Nat.le_refl _)]]
  refine h_loop (fun (j : Nat) => j ≤ 256 - n) (fun (j : Nat) => [(5, .int .i64 (255 - (j : Int))), (1, .int .i64 (n : Int)), (2, .pointer (some ⟨g2, 0, none⟩)), (4, .pointer (some ⟨g4, 0, none⟩))]) (fun (j : Nat) => [.blk g2 (cutB b (256 - j)).cells 40, .blk g4 zB32.cells 40]) (fun (j : Nat) => 256 - j) 0 (by omega) ⟨rfl, rfl, rfl, rfl, trivial⟩ (same) ?_
  intro j hj
  refine h_seq ?_
  refine h_seq ?_
  refine h_reg ?_
  refine h_op (r_move rfl) ?_
  refine h_op (r_move rfl) ?_
  refine h_op (r_geq rfl rfl) ?_
  refine h_nil ?_
  refine q_then ?_
  refine h_cond rfl (fun h => ?_) (fun h => ?_)
  · have hi : 255 - j < 256 := by omega
    have h1 : 256 - j = (255 - j) + 1 := by omega
    have h2 : 256 - (j + 1) = 255 - j := by omega
    rw [h1]
    have hbt : bitN (cutB b (255 - j + 1)) (255 - j) = bitN b (255 - j) := by unfold bitN; rw [cutB_bit _ _ _ hi, decide_eq_true (by omega)]; rfl
    refine h_skip ?_
    refine q_then ?_
    refine h_seq ?_
    refine h_block ?_
    refine h_seq ?_
    refine h_reg ?_
    refine h_op (r_loadr rfl) ?_
    refine h_op (r_move rfl) ?_
    refine h_E (E' := [(14, .int .i64 ((255 - j : Nat) : Int)), (13, .agg (cutB b (255 - j + 1)).cells.toArray), (5, .int .i64 ((255 - j : Nat) : Int)), (1, .int .i64 (n : Int)), (2, .pointer (some ⟨g2, 0, none⟩)), (4, .pointer (some ⟨g4, 0, none⟩))]) ⟨aI rfl (by omega), rfl, aI rfl (by omega), rfl, rfl, rfl, trivial⟩ ?_
    refine h_call ((refBit_s (cutB b (255 - j + 1)) (255 - j) hi).comes) rfl rfl rfl fun _ => ?_
    rw [hbt]
    by_cases hbit : bitAt b (255 - j) = true
    · have hn1 : bitN b (255 - j) = 1 := by unfold bitN; rw [hbit]; rfl
      rw [hn1]
      refine h_op (r_bool (r_eql rfl rfl) (show _ = true by decide)) ?_
      refine h_nil ?_
      refine q_then ?_
      refine h_condT rfl ?_
      refine h_reg ?_
      refine h_op (r_loadr rfl) ?_
      refine h_op (r_move rfl) ?_
      refine h_call ((refFlip_s (cutB b (255 - j + 1)) (255 - j) hi).comes) rfl rfl rfl fun _ => ?_
      rw [cutB_flip b (255 - j) hi hbit]
      refine h_opS (s_storer rfl rfl) ?_
      refine h_nil ?_
      refine q_block ?_
      refine q_then ?_
      refine h_reg ?_
      refine h_op (r_move rfl) ?_
      refine h_op (r_sub rfl rfl) ?_
      refine h_op (r_assign rfl) ?_
      refine h_nil ?_
      rw [← h2]
      exact h_back (j + 1) (by omega) (by omega) ⟨aI rfl (by omega), rfl, rfl, rfl, trivial⟩ (same)
    · have hbit : bitAt b (255 - j) = false := by simpa using hbit
      have hn1 : bitN b (255 - j) = 0 := by unfold bitN; rw [hbit]; rfl
      rw [hn1, cutB_same b (255 - j) hi hbit]
      refine h_op (r_bool (r_eql rfl rfl) (show _ = false by decide)) ?_
      refine h_nil ?_
      refine q_then ?_
      refine h_condF rfl ?_
      refine h_skip ?_
      refine q_block ?_
      refine q_then ?_
      refine h_reg ?_
      refine h_op (r_move rfl) ?_
      refine h_op (r_sub rfl rfl) ?_
      refine h_op (r_assign rfl) ?_
      refine h_nil ?_
      rw [← h2]
      exact h_back (j + 1) (by omega) (by omega) ⟨aI rfl (by omega), rfl, rfl, rfl, trivial⟩ (same)
  · obtain rfl : j = 256 - n := by omega
    rw [show 256 - (256 - n) = n by omega]
    refine h_exit ?_
    refine q_thenE ?_
    refine q_thenE ?_
    refine q_blockE ?_
    refine q_then ?_
    refine h_seq ?_
    refine h_reg ?_
    refine h_op (r_loadr rfl) ?_
    refine h_opS (s_storer rfl rfl) ?_
    refine h_nil ?_
    refine q_then ?_
    refine h_ret ?_
    exact h_ret1 rfl (rv_row rfl) fun w s => ⟨(), rfl, s.res (List.nil_sublist _) (by simp)⟩
theorem refCommon_s (a b : B32) : Spec Tryd.prog 60 [.agg a.cells.toArray, .agg b.cells.toArray].toArray [] [] (fun _ : Unit => .int .i64 ((common a b : Nat) : Int)) (fun _ => []) := by
  refine spec_of Tryd.func60 rfl (n := 20) rfl rfl ?_
  intro W
  refine h_seq ?_
  refine h_reg ?_
  refine h_opX (x_box rfl) fun g2 => ?_
  refine h_opX (x_box rfl) fun g3 => ?_
  refine h_op (r_assign rfl) ?_
  refine h_nil ?_
  refine q_then ?_
  refine h_seq ?_
  refine h_reg ?_
  refine h_op (r_assign rfl) ?_
  refine h_nil ?_
  refine q_then ?_
  refine h_seq ?_
  refine h_block ?_
  refine h_loop (fun (k : Nat) => k ≤ 256 ∧ ∀ j, j < k → (bitAt a j ^^ bitAt b j) = false) (fun (k : Nat) => [(5, .int .i64 (k : Int)), (2, .pointer (some ⟨g2, 0, none⟩)), (3, .pointer (some ⟨g3, 0, none⟩))]) (fun (k : Nat) => [.blk g2 a.cells 40, .blk g3 b.cells 40]) (fun (k : Nat) => 256 - k) 0 (⟨by omega, fun j hj => by omega⟩) ⟨rfl, rfl, rfl, trivial⟩ (same) ?_
  rintro k ⟨hk, he⟩
  refine h_seq ?_
  refine h_seq ?_
  by_cases h256 : k < 256
  · refine ha_start [.blk g2 a.cells 40, .blk g3 b.cells 40] [] mixed (same) ?_
    refine ha_takeP 0 rfl (r_move rfl) ?_
    refine ha_takeP 1 rfl (r_bool (r_lss rfl rfl) (decide_eq_true (by omega))) ?_
    refine ha_takeP 2 rfl (r_move rfl) ?_
    refine ha_take 3 rfl (r_loadr rfl) ?_
    refine ha_takeP 4 rfl (r_move rfl) ?_
    refine ha_take 6 rfl (r_loadr rfl) ?_
    refine ha_takeP 7 rfl (r_move rfl) ?_
    refine ha_one 5 ?_
    refine ho_C 5 rfl ((refBit_s a k h256).comes) rfl rfl rfl (fun _ => same) fun _ => ?_
    refine ha_one 8 ?_
    refine ho_C 8 rfl ((refBit_s b k h256).comes) rfl rfl rfl (fun _ => same) fun _ => ?_
    refine ha_takeP 9 rfl (r_bool (r_eql rfl rfl) (bitN_eq a b k)) ?_
    refine ha_takeP 10 rfl (r_pick rfl rfl) ?_
    refine ha_done (by kernel_rfl) ?_
    refine q_then ?_
    refine h_condB rfl (fun h => ?_) (fun h => ?_)
    · have h0 : (bitAt a k ^^ bitAt b k) = false := by simpa using h
      refine h_skip ?_
      refine q_then ?_
      refine h_block ?_
      refine h_reg ?_
      refine h_op (r_move rfl) ?_
      refine h_op (r_add rfl rfl) ?_
      refine h_op (r_assign rfl) ?_
      refine h_nil ?_
      refine q_block ?_
      exact h_back (k + 1) (⟨by omega, fun j hj => by by_cases e : j < k; exact he j e; obtain rfl : j = k := (by omega); exact h0⟩) (by omega) ⟨rfl, rfl, rfl, trivial⟩ (same)
    · have h0 : (bitAt a k ^^ bitAt b k) = true := by simpa using h
      rw [common_of hk he (.inr h0)]
      refine h_exit ?_
      refine q_thenE ?_
      refine q_thenE ?_
      refine q_blockE ?_
      refine q_then ?_
      refine h_seq ?_
      refine h_reg ?_
      refine h_op (r_move rfl) ?_
      refine h_op (r_assign rfl) ?_
      refine h_nil ?_
      refine q_then ?_
      refine h_ret ?_
      exact h_ret1 rfl rfl fun w s => ⟨(), rfl, s.res (List.nil_sublist _) (by simp)⟩
  · obtain rfl : k = 256 := by omega
    refine ha_start [.blk g2 a.cells 40, .blk g3 b.cells 40] [] mixed (same) ?_
    refine ha_takeP 0 rfl (r_move rfl) ?_
    refine ha_takeP 1 rfl (r_bool (r_lss rfl rfl) (decide_eq_false (by omega))) ?_
    refine ha_takeP 2 rfl (r_move rfl) ?_
    refine ha_off 3 rfl ?_
    refine ha_off 4 rfl ?_
    refine ha_off 5 rfl ?_
    refine ha_off 6 rfl ?_
    refine ha_off 7 rfl ?_
    refine ha_off 8 rfl ?_
    refine ha_off 9 rfl ?_
    refine ha_takeP 10 rfl (r_pick rfl rfl) ?_
    refine ha_done (by kernel_rfl) ?_
    refine q_then ?_
    refine h_condF rfl ?_
    rw [common_of hk he (.inl rfl)]
    refine h_exit ?_
    refine q_thenE ?_
    refine q_thenE ?_
    refine q_blockE ?_
    refine q_then ?_
    refine h_seq ?_
    refine h_reg ?_
    refine h_op (r_move rfl) ?_
    refine h_op (r_assign rfl) ?_
    refine h_nil ?_
    refine q_then ?_
    refine h_ret ?_
    exact h_ret1 rfl rfl fun w s => ⟨(), rfl, s.res (List.nil_sublist _) (by simp)⟩
end Go.Proofs.YtgfkbeipckbkiaaDoor
/- U10 -/
namespace Go.Proofs.YtgfkbeipckbkiaaDoor
set_option linter.unusedSimpArgs false
set_option linter.unusedVariables false
open Go.RowKit
/-- the digest of so many bits -/
def sumB (n : Nat) (l : List UInt8) : B32 := cutB (sha l) n
abbrev hashT : List Value := wc .u32 K64
theorem Cut_s (b : B32) (n : Nat) (hn : n ≤ 256) : Spec Tryd.prog 94 [.agg b.cells.toArray, .int .i64 (n : Int)].toArray [] [] (fun _ : Unit => .agg (cutB b n).cells.toArray) (fun _ => []) := by
  refine spec_of Tryd.func94 rfl (n := 29) rfl rfl ?_
  intro W
  change H _ _ _ _ (argsEnv 0 [.agg (bc (cutI b n 0)).toArray, .int .i64 (n : Int)]) _ _
  have h0 := cutI_len b n 0 (by omega)
  refine h_seq ?_
  refine h_reg ?_
  refine h_opX (x_box (cs := bc (cutI b n 0)) rfl) fun g2 => ?_
  refine h_opX (x_alloc) fun g4 => ?_
  refine h_nil ?_
  refine q_then ?_
  refine h_seq ?_
  refine h_reg ?_
  refine h_op (r_move rfl) ?_
  refine h_op (r_int (r_max rfl rfl) (show _ = (n : Int) by rw [if_neg (by omega)])) ?_
  refine h_op (r_int (r_min rfl rfl) (show _ = (n : Int) by split <;> omega)) ?_
  refine h_op (r_assign rfl) ?_
  refine h_nil ?_
  refine q_then ?_
  refine h_seq ?_
  refine h_seq ?_
  refine h_reg ?_
  refine h_op (r_move rfl) ?_
  refine h_nil ?_
  refine q_then ?_
  refine h_block ?_
  refine h_loop (fun (k : Nat) => k ≤ 32) (fun (k : Nat) => [(10, .int .i64 (k : Int)), (1, .int .i64 (n : Int)), (2, .pointer (some ⟨g2, 0, none⟩)), (4, .pointer (some ⟨g4, 0, none⟩))]) (fun (k : Nat) => [.blk g2 (bc (cutI b n k)) 41, .blk g4 zB32.cells 41]) (fun (k : Nat) => 32 - k) 0 (by omega) ⟨rfl, rfl, rfl, rfl, trivial⟩ (same) ?_
  intro k hk
  have hl := cutI_len b n k hk
  have hg := cutI_get b n k
  refine h_seq ?_
  refine h_reg ?_
  refine h_op (r_lss rfl rfl) ?_
  refine h_nil ?_
  refine q_then ?_
  refine h_seq ?_
  refine h_cond rfl (fun h => ?_) (fun h => ?_)
  · have hst := cutI_set b n k (by omega)
    unfold cut8 at hst
    refine h_skip ?_
    refine q_then ?_
    refine h_seq ?_
    refine h_block ?_
    refine h_seq ?_
    refine h_reg ?_
    refine h_op (r_move rfl) ?_
    refine h_op (r_assign rfl) ?_
    refine h_nil ?_
    refine q_then ?_
    refine h_seq ?_
    refine h_reg ?_
    refine h_op (r_move rfl) ?_
    refine h_op (r_move rfl) ?_
    refine h_op (r_mul rfl rfl) ?_
    refine h_op (r_sub rfl rfl) ?_
    refine h_op (r_int (r_max rfl rfl) (show _ = ((n - 8 * k : Nat) : Int) by split <;> omega)) ?_
    refine h_op (r_int (r_min rfl rfl) (show _ = ((min 8 (n - 8 * k) : Nat) : Int) by split <;> omega)) ?_
    refine h_op (r_assign rfl) ?_
    refine h_nil ?_
    refine q_then ?_
    refine ha_start [.blk g2 (bc (cutI b n k)) 41] [] mixed (same) ?_
    refine ha_takeP 0 rfl (r_move rfl) ?_
    refine ha_takeP 1 rfl (r_idxA rfl rfl) ?_
    refine ha_take 2 rfl (r_nth rfl (bc_at' (by omega))) ?_
    refine ha_takeP 3 rfl (r_move rfl) ?_
    refine ha_takeP 4 rfl (r_subN rfl rfl) ?_
    refine ha_takeP 5 rfl (r_shl rfl rfl) ?_
    refine ha_takeP 6 rfl (r_and rfl rfl) ?_
    refine ha_takeP 7 rfl (r_idxA rfl rfl) ?_
    refine ha_one 8 ?_
    refine ho_SL 8 rfl (s_setB rfl rfl) ?_
    refine q_block ?_
    refine q_then ?_
    rw [hg, hst]
    refine h_reg ?_
    refine h_op (r_add rfl rfl) ?_
    refine h_op (r_move rfl) ?_
    refine h_nil ?_
    exact h_back (k + 1) (by omega) (by omega) ⟨rfl, rfl, rfl, rfl, trivial⟩ (same)
  · obtain rfl : k = 32 := by omega
    rw [cutI_32]
    change H _ _ _ _ _ (.blk g2 (cutB b n).cells _ :: _) _
    refine h_exit ?_
    refine q_thenE ?_
    refine q_thenE ?_
    refine q_blockE ?_
    refine q_then ?_
    refine h_seq ?_
    refine h_reg ?_
    refine h_op (r_loadr rfl) ?_
    refine h_opS (s_storer rfl rfl) ?_
    refine h_nil ?_
    refine q_then ?_
    refine h_ret ?_
    exact h_ret1 rfl (rv_row rfl) fun w s => ⟨(), rfl, s.res (List.nil_sublist _) (by simp)⟩
theorem refCut_s (b : B32) (n : Nat) (hn : n ≤ 256) : Spec Tryd.prog 68 [.agg b.cells.toArray, .int .i64 (n : Int)].toArray [] [] (fun _ : Unit => .agg (cutB b n).cells.toArray) (fun _ => []) := by
  refine spec_of Tryd.func68 rfl (n := 8) rfl rfl ?_
  intro W
  refine h_seq ?_
  refine h_reg ?_
  refine h_opX (x_box rfl) fun g2 => ?_
  refine h_opX (x_alloc) fun g4 => ?_
  refine h_nil ?_
  refine q_then ?_
  refine h_seq ?_
  refine h_reg ?_
  refine h_op (r_loadr rfl) ?_
  refine h_op (r_move rfl) ?_
  refine h_call ((Prefix_s b n hn).comes) rfl rfl rfl fun _ => ?_
  refine h_opS (s_storer rfl rfl) ?_
  refine h_nil ?_
  refine q_then ?_
  refine h_ret ?_
  exact h_ret1 rfl (rv_row rfl) fun w s => ⟨(), rfl, s.res (List.nil_sublist _) (by simp)⟩
theorem refSum5_s (n : Nat) (hn : n ≤ 256) (l : List UInt8) (B : Option Addr) (c : Nat) (hB : B = none → l.length = 0 ∧ c = 0) (hl : l.length ≤ 100000000000) : Spec Tryd.prog 44 [.int .i64 (n : Int), .slice B l.length c].toArray [.rd B (bc l)] [] (fun _ : Unit => .agg (sumB n l).cells.toArray) (fun _ => []) := by
  refine spec_of Tryd.func44 rfl (n := 9) rfl rfl ?_
  intro W
  refine h_seq ?_
  refine h_reg ?_
  refine h_opX (x_alloc) fun g4 => ?_
  refine h_nil ?_
  refine q_then ?_
  refine h_seq ?_
  refine h_reg ?_
  refine h_op (r_move rfl) ?_
  refine h_call ((refSum_s l B c hB hl).comes) rfl rfl rfl fun _ => ?_
  refine h_op (r_move rfl) ?_
  refine h_call ((refCut_s (sha l) n hn).comes) rfl rfl rfl fun _ => ?_
  change H _ _ _ _ ((_, .agg (sumB n l).cells.toArray) :: _) _ _
  refine h_opS (s_storer rfl rfl) ?_
  refine h_nil ?_
  refine q_then ?_
  refine h_ret ?_
  exact h_ret1 rfl (rv_row rfl) fun w s => ⟨(), rfl, s.res (List.nil_sublist _) (by simp)⟩
theorem Right_yes (n : Nat) (hn : n ≤ 256) : Spec Tryd.prog 19 [.int .i64 (n : Int)].toArray [] [] (fun _ : Unit => .bool true) (fun _ => []) := by
  refine spec_of Tryd.func19 rfl (n := 9) rfl rfl ?_
  intro W
  refine h_seq ?_
  refine h_reg ?_
  refine h_op (r_assign rfl) ?_
  refine h_nil ?_
  refine q_then ?_
  refine h_seq ?_
  refine h_reg ?_
  refine h_op (r_move rfl) ?_
  refine h_op (r_bool (r_geq rfl rfl) (decide_eq_true (by omega))) ?_
  refine h_op (r_move rfl) ?_
  refine h_op (r_move rfl) ?_
  refine h_op (r_bool (r_leq rfl rfl) (decide_eq_true (by omega))) ?_
  refine h_op (r_pick rfl rfl) ?_
  refine h_op (r_assign rfl) ?_
  refine h_nil ?_
  refine q_then ?_
  refine h_ret ?_
  exact h_ret1 rfl rfl fun w s => ⟨(), rfl, s.res (List.nil_sublist _) (by simp)⟩
theorem Right_no (i : Int) (h : ¬ (0 ≤ i ∧ i ≤ 256)) : Spec Tryd.prog 19 [.int .i64 i].toArray [] [] (fun _ : Unit => .bool false) (fun _ => []) := by
  refine spec_of Tryd.func19 rfl (n := 9) rfl rfl ?_
  intro W
  by_cases h0 : 0 ≤ i
  · refine h_seq ?_
    refine h_reg ?_
    refine h_op (r_assign rfl) ?_
    refine h_nil ?_
    refine q_then ?_
    refine h_seq ?_
    refine h_reg ?_
    refine h_op (r_move rfl) ?_
    refine h_op (r_bool (r_geq rfl rfl) (decide_eq_true (by omega))) ?_
    refine h_op (r_move rfl) ?_
    refine h_op (r_move rfl) ?_
    refine h_op (r_bool (r_leq rfl rfl) (decide_eq_false (by omega))) ?_
    refine h_op (r_pick rfl rfl) ?_
    refine h_op (r_assign rfl) ?_
    refine h_nil ?_
    refine q_then ?_
    refine h_ret ?_
    exact h_ret1 rfl rfl fun w s => ⟨(), rfl, s.res (List.nil_sublist _) (by simp)⟩
  · refine h_seq ?_
    refine h_reg ?_
    refine h_op (r_assign rfl) ?_
    refine h_nil ?_
    refine q_then ?_
    refine h_seq ?_
    refine h_reg ?_
    refine h_op (r_move rfl) ?_
    refine h_op (r_bool (r_geq rfl rfl) (decide_eq_false (by omega))) ?_
    refine h_op (r_move rfl) ?_
    refine h_opOff ?_
    refine h_opOff ?_
    refine h_op (r_pick rfl rfl) ?_
    refine h_op (r_assign rfl) ?_
    refine h_nil ?_
    refine q_then ?_
    refine h_ret ?_
    exact h_ret1 rfl rfl fun w s => ⟨(), rfl, s.res (List.nil_sublist _) (by simp)⟩
theorem New_s (n : Nat) (hn : n ≤ 256) : Spec Tryd.prog 28 [.int .i64 (n : Int)].toArray [] [] (fun u : Nat × Nat => .tuple #[.pointer (some ⟨u.1, 0, none⟩), .int .i64 0]) (fun u => [.blk u.1 [.pointer (some ⟨u.2, 0, none⟩), .int .i64 (n : Int)] 100, .blk u.2 [.int .i64 0] 98]) := by
  refine spec_of Tryd.func28 rfl (n := 15) rfl rfl ?_
  intro W
  refine h_seq ?_
  refine h_reg ?_
  refine h_op (r_assign rfl) ?_
  refine h_op (r_assign rfl) ?_
  refine h_nil ?_
  refine q_then ?_
  refine h_seq ?_
  refine h_seq ?_
  refine h_reg ?_
  refine h_op (r_move rfl) ?_
  refine h_op (r_bool (r_lss rfl rfl) (decide_eq_false (by omega))) ?_
  refine h_op (r_move rfl) ?_
  refine h_op (r_move rfl) ?_
  refine h_op (r_bool (r_gtr rfl rfl) (decide_eq_false (by omega))) ?_
  refine h_op (r_pick rfl rfl) ?_
  refine h_nil ?_
  refine q_then ?_
  refine h_condF rfl ?_
  refine h_skip ?_
  refine q_then ?_
  refine h_seq ?_
  refine h_reg ?_
  refine h_op (r_build rfl) ?_
  refine h_opX (x_box rfl) fun g11 => ?_
  refine h_op (r_move rfl) ?_
  refine h_op (r_build rfl) ?_
  refine h_opX (x_box rfl) fun g14 => ?_
  refine h_op (r_assign rfl) ?_
  refine h_op (r_assign rfl) ?_
  refine h_nil ?_
  refine q_then ?_
  refine h_ret ?_
  exact h_ret2 rfl rfl rfl fun w s => ⟨(g14, g11), rfl, s.res (List.Sublist.refl _) (by simp [Fa.wr])⟩
theorem Hash_s (n : Nat) (hn : n ≤ 256) : Spec Tryd.prog 8 [.int .i64 (n : Int)].toArray [] [] (fun u : Nat × Nat => .pointer (some ⟨u.1, 0, none⟩)) (fun u => [.blk u.1 [.pointer (some ⟨u.2, 0, none⟩), .int .i64 (n : Int)] 100, .blk u.2 [.int .i64 0] 98]) := by
  refine spec_of Tryd.func8 rfl (n := 13) rfl rfl ?_
  intro W
  refine h_seq ?_
  refine h_reg ?_
  refine h_op (r_assign rfl) ?_
  refine h_nil ?_
  refine q_then ?_
  refine h_seq ?_
  refine h_reg ?_
  refine h_op (r_move rfl) ?_
  refine h_call ((New_s n hn).comes) rfl rfl rfl fun ⟨gh, gc⟩ => ?_
  dsimp only
  refine h_op (r_move rfl) ?_
  refine h_op (r_extract rfl rfl) ?_
  refine h_op (r_extract rfl rfl) ?_
  refine h_op (r_assign rfl) ?_
  refine h_op (r_assign rfl) ?_
  refine h_nil ?_
  refine q_then ?_
  refine h_seq ?_
  refine h_seq ?_
  refine h_reg ?_
  refine h_op (r_move rfl) ?_
  refine h_op (r_bool (r_neq rfl rfl) (show _ = false by decide)) ?_
  refine h_nil ?_
  refine q_then ?_
  refine h_condF rfl ?_
  refine h_skip ?_
  refine q_then ?_
  refine h_seq ?_
  refine h_reg ?_
  refine h_op (r_move rfl) ?_
  refine h_op (r_assign rfl) ?_
  refine h_nil ?_
  refine q_then ?_
  refine h_ret ?_
  exact h_ret1 rfl rfl fun w s => ⟨(gh, gc), rfl, s.res (List.Sublist.refl _) (by simp [Fa.wr])⟩
theorem HSum_s (n : Nat) (hn : n ≤ 256) (gh gc k : Nat) (hk : k ≤ 1000000000000) (l : List UInt8) (B : Option Addr) (c : Nat) (hB : B = none → l.length = 0 ∧ c = 0) (hl : l.length ≤ 100000000000) : Spec Tryd.prog 76 [.pointer (some ⟨gh, 0, none⟩), .slice B l.length c].toArray [.rd (some ⟨gh, 0, none⟩) [.pointer (some ⟨gc, 0, none⟩), .int .i64 (n : Int)], .rd B (bc l), .rd (some ⟨1, 0, none⟩) hashT] [.blk gc [.int .i64 (k : Int)] 98] (fun _ : Unit => .agg (sumB n l).cells.toArray) (fun _ => [.blk gc [.int .i64 ((k + 1 : Nat) : Int)] 98]) := by
  refine spec_of Tryd.func76 rfl (n := 25) rfl rfl ?_
  intro W
  refine h_seq ?_
  refine h_reg ?_
  refine h_opX (x_alloc) fun g4 => ?_
  refine h_nil ?_
  refine q_then ?_
  refine h_seq ?_
  refine h_seq ?_
  refine h_reg ?_
  refine h_op (r_move rfl) ?_
  refine h_op (r_nilR rfl rfl) ?_
  refine h_nil ?_
  refine q_then ?_
  refine h_condF rfl ?_
  refine h_skip ?_
  refine q_then ?_
  refine h_seq ?_
  refine h_reg ?_
  refine h_op (r_move rfl) ?_
  refine h_op (r_nilc rfl) ?_
  refine h_op (r_field rfl) ?_
  refine h_op (r_loadc rfl) ?_
  refine h_op (r_nilc rfl) ?_
  refine h_op (r_field rfl) ?_
  refine h_op (r_loadc rfl) ?_
  refine h_op (r_int (r_add rfl rfl) (show _ = ((k + 1 : Nat) : Int) by omega)) ?_
  refine h_op (r_nilc rfl) ?_
  refine h_op (r_field rfl) ?_
  refine h_opS (s_store rfl rfl rfl) ?_
  refine h_nil ?_
  refine q_then ?_
  refine h_seq ?_
  refine ha_start [.rd (some ⟨gh, 0, none⟩) [.pointer (some ⟨gc, 0, none⟩), .int .i64 (n : Int)]] [] mixed (same) ?_
  refine ha_takeP 0 rfl (r_move rfl) ?_
  refine ha_takeP 2 rfl (r_move rfl) ?_
  refine ha_takeP 3 rfl (r_nilc rfl) ?_
  refine ha_takeP 4 rfl (r_field rfl) ?_
  refine ha_take 5 rfl (r_loadc rfl) ?_
  refine ha_one 1 ?_
  refine ho_C 1 rfl ((Sum_s l B c hB hl).comes) rfl rfl rfl (fun _ => same) fun _ => ?_
  refine ha_one 6 ?_
  refine ho_C 6 rfl ((Cut_s (sha l) n hn).comes) rfl rfl rfl (fun _ => same) fun _ => ?_
  refine ha_one 7 ?_
  refine ho_SL 7 rfl (s_storer rfl rfl) ?_
  refine q_then ?_
  change H _ _ _ _ _ (.blk g4 (sumB n l).cells _ :: _) _
  refine h_ret ?_
  exact h_ret1 rfl (rv_row rfl) fun w s => ⟨(), rfl, (same w s).res (List.Sublist.refl _) (by simp [Fa.wr])⟩
end Go.Proofs.YtgfkbeipckbkiaaDoor
/- U11 -/
namespace Go.Proofs.YtgfkbeipckbkiaaDoor
set_option linter.unusedSimpArgs false
set_option linter.unusedVariables false
open Go.RowKit
section
variable {P : Program} {A : List Fa} {W : World} {n : Nat} {D : List Deferred} {E : Env} {L M : List Fa} {T : TypeId} {x y : Operand}
theorem r_cap {e size bytes : Nat} {z : Value} [E' : TS P T e size bytes z] {B : Option Addr} {N c : Nat} (hx : ev E x = some (.slice B N c)) : Runs0 P n D E L (.call { callee := .builtin .cap, args := #[x], argTypes := #[T] }) (.int .i64 (c : Int)) := fun a w ka s o ho => by
  unfold execOp
  simp [ho, resolve, invoke, builtin, ka.ev hx, Builtin.cap_, run_underlying E'.el.ht, goInt]
theorem x_appZ {t e xt size bytes N : Nat} {z : Value} {k : IntKind} [E' : TS P t e size bytes z] (hxt : P.underlying xt = some (.int k)) (hs : ev E x = some (.slice none 0 0)) (hx : ev E y = some (.int .i64 (N : Int))) (h0 : 0 < N) (hb : N * bytes ≤ 140737488355328 := by omega) :
    RunsX P A W n D E L (.call { callee := .builtin .append, args := #[x, y], argTypes := #[t, xt] }) (fun u : Nat × Nat => .slice (some ⟨u.1, 0, none⟩) N u.2) (fun u => .own (.slice (some ⟨u.1, 0, none⟩) N u.2) N e size ((List.range (N * size)).map fun i => z.cells[i % size]!) :: L) := fun a w ka s o hop => by
  obtain ⟨v', w', hrun, h2, h3, h4⟩ := xAppendZ hxt hop (ka.ev hs) (ka.ev hx) h0 hb (base := 0) (Nat.zero_le _)
  have hb2 : Below w.heap.size w w' := ⟨h3.os, h3.tape, h3.output, h3.size, fun k hk => h3.block k hk (by simp)⟩
  rcases h2.2 with ⟨rfl, h5⟩ | ⟨g, cap, cur, rfl, _⟩
  · omega
  · have hg : some g = some w.heap.size := h4
    injection hg with hg
    subst hg
    refine ⟨(w.heap.size, cap), w', hrun, (s.call hb2).cons h2 ?_ ?_⟩
    · intro f hf _ k hk hk'
      have hk2 : some w.heap.size = some k := hk
      injection hk2 with hk2
      have := Fa.bound (s.ok f hf) hk'
      omega
    · intro _ k hk
      have hk2 : some w.heap.size = some k := hk
      injection hk2 with hk2
      exact .inl (by have := s.size; omega)
end
theorem Sx.shrink {A : List Fa} {W w : World} {L M : List Fa} {g N c m e size : Nat} {xs : List Value} (s : Sx A W w L) [hd : TakeG g L N c e size xs M] (hm : m ≤ N) : Sx A W w (.own (.slice (some ⟨g, 0, none⟩) m c) m e size (xs.take (m * size)) :: M) := by
  have s2 := s.perm hd.perm
  have ho : w.ownsRow 0 e size (.slice (some ⟨g, 0, none⟩) N c) N xs := s2.ok (.own _ _ _ _ _) (List.mem_cons_self ..)
  obtain ⟨cur, hb, h3, h4, h5, h6⟩ := own_parts ho
  refine s2.turn rfl (fun k hk => .inl hk) (own_new hb ?_ (Nat.le_trans hm h3) h4 h5 ?_) rfl rfl rfl (Nat.le_refl _) fun _ _ _ => rfl
  · rw [List.length_take, ho.1]
    exact Nat.min_eq_left (Nat.mul_le_mul_right _ hm)
  · rw [← h6, List.take_take, Nat.min_eq_left (Nat.mul_le_mul_right _ hm)]
theorem GrowNil_s (N : Nat) (hN : N ≤ 100000000000) : Spec Tryd.prog 112 [.slice none 0 0, .int .i64 (N : Int)].toArray [] [] (fun u : Option Addr × Nat => .slice u.1 0 u.2) (fun u => [.own (.slice u.1 0 u.2) 0 5 1 (bc [])]) := by
  refine spec_of Tryd.func112 rfl (n := 27) rfl rfl ?_
  intro W
  refine h_seq ?_
  refine h_reg ?_
  refine h_op (r_assign rfl) ?_
  refine h_nil ?_
  refine q_then ?_
  refine h_seq ?_
  refine h_seq ?_
  refine h_reg ?_
  refine h_op (r_move rfl) ?_
  refine h_op (r_bool (r_lss rfl rfl) (decide_eq_false (by omega))) ?_
  refine h_nil ?_
  refine q_then ?_
  refine h_condF rfl ?_
  refine h_skip ?_
  refine q_then ?_
  refine h_seq ?_
  refine h_seq ?_
  refine h_reg ?_
  refine h_op (r_move rfl) ?_
  refine h_op (r_move rfl) ?_
  refine h_op (r_cap rfl) ?_
  refine h_op (r_move rfl) ?_
  refine h_op (r_len rfl) ?_
  refine h_op (r_sub rfl rfl) ?_
  refine h_op (r_int (r_sub rfl rfl) (show _ = (N : Int) by omega)) ?_
  refine h_op (r_assign rfl) ?_
  refine h_nil ?_
  refine q_then ?_
  refine h_seq ?_
  refine h_reg ?_
  refine h_op (r_move rfl) ?_
  refine h_op (r_gtr rfl rfl) ?_
  refine h_nil ?_
  refine q_then ?_
  refine h_cond rfl (fun h => ?_) (fun h => ?_)
  · refine h_reg ?_
    refine h_op (r_move rfl) ?_
    refine h_op (r_move rfl) ?_
    refine h_op (r_cap rfl) ?_
    refine h_op (r_as (r_slH rfl rfl) (show _ = Value.slice none 0 0 from rfl)) ?_
    refine h_op (r_move rfl) ?_
    refine h_opX (x_appZ (N := N) Tryd.underlying3 rfl rfl (by omega)) fun ⟨g22, c22⟩ => ?_
    refine h_pure (φ := N ≤ c22) (fun w s => (s.ownLe (B := some ⟨g22, 0, none⟩) (N := N) (c := c22)).1) fun hc => ?_
    refine h_L (fun w s => s.shrink (g := g22) (m := 0) (Nat.zero_le _)) ?_
    rw [Nat.zero_mul, List.take_zero]
    refine h_op (r_move rfl) ?_
    refine h_op (r_len rfl) ?_
    refine h_op (r_as (r_slH rfl rfl) (show _ = Value.slice (some ⟨g22, 0, none⟩) 0 c22 by rw [cutA_lt (by omega)])) ?_
    refine h_op (r_assign rfl) ?_
    refine h_nil ?_
    refine q_then ?_
    refine h_seq ?_
    refine h_reg ?_
    refine h_op (r_move rfl) ?_
    refine h_op (r_assign rfl) ?_
    refine h_nil ?_
    refine q_then ?_
    refine h_ret ?_
    exact h_ret1 rfl rfl fun w s => ⟨(some ⟨g22, 0, none⟩, c22), rfl, s.res (List.Sublist.refl _) (by simp [Fa.wr])⟩
  · refine h_skip ?_
    refine q_then ?_
    refine h_seq ?_
    refine h_reg ?_
    refine h_op (r_move rfl) ?_
    refine h_op (r_assign rfl) ?_
    refine h_nil ?_
    refine q_then ?_
    refine h_ret ?_
    refine h_nil_own 5 1 (xs := bc []) rfl ?_
    exact h_ret1 rfl rfl fun w s => ⟨(none, 0), rfl, s.res (List.Sublist.refl _) (by simp [Fa.wr])⟩
/-- a row of bytes that is somewhere: where, its capacity, the bytes -/
abbrev Seg := Option Addr × Nat × List UInt8
def sv (x : Seg) : Value := .slice x.1 x.2.2.length x.2.1
def svs (xs : List Seg) : List Value := xs.map sv
def rdsOf : List Seg → List Fa
  | [] => []
  | x :: l => .rd x.1 (bc x.2.2) :: rdsOf l
theorem rdsOf_mem {xs : List Seg} {x : Seg} (h : x ∈ xs) : Fa.rd x.1 (bc x.2.2) ∈ rdsOf xs := by
  induction xs with
  | nil => cases h
  | cons y l ih => exact (List.mem_cons.1 h).elim (fun e => by rw [e]; exact List.mem_cons_self ..) fun e => List.mem_cons_of_mem _ (ih e)
instance (L : List Fa) : Rds L (rdsOf []) := ⟨fun _ _ h => (List.not_mem_nil h).elim⟩
instance (L : List Fa) (x : Seg) (xs : List Seg) [h : Rds L (.rd x.1 (bc x.2.2) :: rdsOf xs)] : Rds L (rdsOf (x :: xs)) := h
theorem rd1_mem {L : List Fa} {B : Option Addr} {cs : List Value} (h : Fa.rd B cs ∈ L) : Rd1 L (.rd B cs) := ⟨fun hw => ⟨rfl, hw.ok _ h, fun k hk => ⟨_, h, hk⟩⟩⟩
def segN (xs : List Seg) : Nat := (xs.map (·.2.2.length)).sum
def segB (xs : List Seg) : List UInt8 := xs.flatMap (·.2.2)
theorem segN_succ {xs : List Seg} {k : Nat} {x : Seg} (h : xs[k]? = some x) : segN (xs.take (k + 1)) = segN (xs.take k) + x.2.2.length := by
  unfold segN
  rw [List.take_add_one, h, List.map_append, List.sum_append]
  simp
theorem segN_le (xs : List Seg) (k : Nat) : segN (xs.take k) ≤ segN xs := by
  unfold segN
  conv => rhs; rw [← List.take_append_drop k xs, List.map_append, List.sum_append]
  omega
theorem segB_len (xs : List Seg) : (segB xs).length = segN xs := by
  unfold segB segN
  rw [List.length_flatMap]
theorem segB_succ {xs : List Seg} {k : Nat} {x : Seg} (h : xs[k]? = some x) : segB (xs.take (k + 1)) = segB (xs.take k) ++ x.2.2 := by
  unfold segB
  rw [List.take_add_one, h, List.flatMap_append]
  simp
theorem svs_len (xs : List Seg) : (svs xs).length = xs.length := by simp [svs]
theorem svs_get {xs : List Seg} {k : Nat} {x : Seg} (h : xs[k]? = some x) : (svs xs)[k]? = some (.slice x.1 x.2.2.length x.2.1) := by
  unfold svs
  rw [List.getElem?_map, h]
  rfl
theorem Fx.rdSome {w : World} {L : List Fa} {B : Option Addr} {cs : List Value} (h : Fx w (.rd B cs :: L)) (hc : 0 < cs.length) : ∃ b o, B = some ⟨b, o, none⟩ := by
  have h1 : Rd w B cs := h.ok (.rd B cs) (List.mem_cons_self ..)
  obtain ⟨b, o, e, _⟩ := h1 0 _ (List.getElem?_eq_getElem hc)
  exact ⟨b, o, e⟩
theorem Concat_s (xs : List Seg) (B : Option Addr) (cp : Nat) (hx : ∀ x ∈ xs, x.1 = none → x.2.2.length = 0 ∧ x.2.1 = 0) (hmax : segN xs ≤ 1000000000 ∧ xs.length ≤ 1000000000) : Spec Tryd.prog 106 [.slice B xs.length cp].toArray (.rd B (svs xs) :: rdsOf xs) [] (fun u : Option Addr × Nat => .slice u.1 (segB xs).length u.2) (fun u => [.own (.slice u.1 (segB xs).length u.2) (segB xs).length 5 1 (bc (segB xs))]) := by
  refine spec_of Tryd.func106 rfl (n := 36) rfl rfl ?_
  intro W
  refine h_seq ?_
  refine h_reg ?_
  refine h_op (r_assign rfl) ?_
  refine h_nil ?_
  refine q_then ?_
  refine h_seq ?_
  refine h_reg ?_
  refine h_op (r_assign rfl) ?_
  refine h_nil ?_
  refine q_then ?_
  refine h_seq ?_
  refine h_seq ?_
  refine h_reg ?_
  refine h_op (r_move rfl) ?_
  refine h_op (r_len rfl) ?_
  refine h_op (r_move rfl) ?_
  refine h_nil ?_
  refine q_then ?_
  refine h_block ?_
  refine h_loop (fun (k : Nat) => k ≤ xs.length) (fun (k : Nat) => [(11, .int .i64 (k : Int)), (10, .int .i64 (xs.length : Int)), (9, .slice B xs.length cp), (3, .int .i64 ((segN (xs.take k) : Nat) : Int)), (0, .slice B xs.length cp)]) (fun (k : Nat) => .rd B (svs xs) :: rdsOf xs) (fun (k : Nat) => xs.length - k) 0 (Nat.zero_le _) ⟨rfl, rfl, rfl, rfl, rfl, trivial⟩ (fun _ s => s) ?_
  intro k hk
  have hle := segN_le xs k
  refine h_seq ?_
  refine h_reg ?_
  refine h_op (r_lss rfl rfl) ?_
  refine h_nil ?_
  refine q_then ?_
  refine h_seq ?_
  refine h_cond rfl (fun h => ?_) (fun h => ?_)
  · have hlt : k < xs.length := by omega
    obtain ⟨x, hxk⟩ : ∃ x, xs[k]? = some x := ⟨xs[k], by simp [hlt]⟩
    have hs := segN_succ hxk
    have hle2 := segN_le xs (k + 1)
    refine h_pure (φ := ∃ b o, B = some ⟨b, o, none⟩) (fun w s => s.toFx.rdSome (by rw [svs_len]; omega)) ?_
    rintro ⟨b, o, rfl⟩
    refine h_skip ?_
    refine q_then ?_
    refine h_seq ?_
    refine h_block ?_
    refine h_seq ?_
    refine h_reg ?_
    refine h_op (r_idx rfl rfl) ?_
    refine h_op (r_nth rfl (svs_get hxk)) ?_
    refine h_op (r_assign rfl) ?_
    refine h_nil ?_
    refine q_then ?_
    refine h_seq ?_
    refine h_reg ?_
    refine h_op (r_move rfl) ?_
    refine h_op (r_move rfl) ?_
    refine h_op (r_len rfl) ?_
    refine h_op (r_add rfl rfl) ?_
    refine h_op (r_assign rfl) ?_
    refine h_nil ?_
    refine q_then ?_
    refine h_seq ?_
    refine h_reg ?_
    refine h_op (r_move rfl) ?_
    refine h_op (r_lss rfl rfl) ?_
    refine h_nil ?_
    refine q_then ?_
    refine h_no rfl (by omega) ?_
    refine h_skip ?_
    refine q_block ?_
    refine q_then ?_
    refine h_reg ?_
    refine h_op (r_add rfl rfl) ?_
    refine h_op (r_move rfl) ?_
    refine h_nil ?_
    exact h_back (k + 1) (by omega) (by omega) ⟨rfl, rfl, rfl, aI rfl (by rw [hs]; omega), rfl, trivial⟩ (fun _ s => s)
  · obtain rfl : k = xs.length := by omega
    rw [List.take_length]
    refine h_exit ?_
    refine q_thenE ?_
    refine q_thenE ?_
    refine q_blockE ?_
    refine q_then ?_
    refine h_seq ?_
    refine h_reg ?_
    refine h_op (r_move rfl) ?_
    refine h_call ((GrowNil_s (segN xs) (by omega)).comes) rfl rfl rfl fun ⟨A24, c24⟩ => ?_
    dsimp only
    refine h_op (r_assign rfl) ?_
    refine h_nil ?_
    refine q_then ?_
    refine h_seq ?_
    refine h_seq ?_
    refine h_reg ?_
    refine h_op (r_move rfl) ?_
    refine h_op (r_len rfl) ?_
    refine h_op (r_move rfl) ?_
    refine h_nil ?_
    refine q_then ?_
    refine h_block ?_
    refine h_loop (fun (s : Nat × Option Addr × Nat) => s.1 ≤ xs.length) (fun (s : Nat × Option Addr × Nat) => [(27, .int .i64 (s.1 : Int)), (26, .int .i64 (xs.length : Int)), (25, .slice B xs.length cp), (6, .slice s.2.1 (segB (xs.take s.1)).length s.2.2)]) (fun (s : Nat × Option Addr × Nat) => .own (.slice s.2.1 (segB (xs.take s.1)).length s.2.2) (segB (xs.take s.1)).length 5 1 (bc (segB (xs.take s.1))) :: .rd B (svs xs) :: rdsOf xs) (fun (s : Nat × Option Addr × Nat) => xs.length - s.1) (0, A24, c24) ((show 0 ≤ xs.length from Nat.zero_le _)) ⟨rfl, rfl, rfl, rfl, trivial⟩ (fun _ s => s) ?_
    rintro ⟨k, B', c'⟩ hk
    dsimp only at hk ⊢
    have hle := segN_le xs k
    refine h_seq ?_
    refine h_reg ?_
    refine h_op (r_lss rfl rfl) ?_
    refine h_nil ?_
    refine q_then ?_
    refine h_seq ?_
    refine h_cond rfl (fun h => ?_) (fun h => ?_)
    · have hlt : k < xs.length := by omega
      obtain ⟨x, hxk⟩ : ∃ x, xs[k]? = some x := ⟨xs[k], by simp [hlt]⟩
      have hs := segN_succ hxk
      have hle2 := segN_le xs (k + 1)
      have hsb := segB_succ hxk
      have hbl := segB_len (xs.take k)
      have hbl2 : (segB (xs.take (k + 1))).length = (segB (xs.take k)).length + x.2.2.length := by rw [hsb, List.length_append]
      have hxm := List.mem_of_getElem? hxk
      refine h_pure (φ := ∃ b o, B = some ⟨b, o, none⟩) (fun w s => s.tail.toFx.rdSome (by rw [svs_len]; omega)) ?_
      rintro ⟨b, o, rfl⟩
      refine h_skip ?_
      refine q_then ?_
      refine h_seq ?_
      refine h_block ?_
      refine h_seq ?_
      refine h_reg ?_
      refine h_op (r_idx rfl rfl) ?_
      refine h_op (r_nth rfl (svs_get hxk)) ?_
      refine h_op (r_assign rfl) ?_
      refine h_nil ?_
      refine q_then ?_
      refine h_reg ?_
      refine h_op (r_move rfl) ?_
      refine h_op (r_move rfl) ?_
      refine h_opX (x_appAB rfl rfl (hx x hxm) rfl (hr := rd1_mem (List.mem_cons_of_mem _ (rdsOf_mem hxm))) (hN := hbl2.symm)) fun ⟨A33, c33⟩ => ?_
      refine h_op (r_assign rfl) ?_
      refine h_nil ?_
      refine q_block ?_
      refine q_then ?_
      refine h_reg ?_
      refine h_op (r_add rfl rfl) ?_
      refine h_op (r_move rfl) ?_
      refine h_nil ?_
      rw [← hsb]
      exact h_back (k + 1, A33, c33) ((show k + 1 ≤ xs.length by omega)) ((show xs.length - (k + 1) < xs.length - k by omega)) ⟨rfl, rfl, rfl, rfl, trivial⟩ (fun _ s => s)
    · obtain rfl : k = xs.length := by omega
      rw [List.take_length]
      refine h_exit ?_
      refine q_thenE ?_
      refine q_thenE ?_
      refine q_blockE ?_
      refine q_then ?_
      refine h_seq ?_
      refine h_reg ?_
      refine h_op (r_move rfl) ?_
      refine h_op (r_assign rfl) ?_
      refine h_nil ?_
      refine q_then ?_
      refine h_ret ?_
      exact h_ret1 rfl rfl fun w s => ⟨(B', c'), rfl, s.res ((List.nil_sublist _).cons_cons _) (by simp [Fa.wr])⟩
end Go.Proofs.YtgfkbeipckbkiaaDoor
