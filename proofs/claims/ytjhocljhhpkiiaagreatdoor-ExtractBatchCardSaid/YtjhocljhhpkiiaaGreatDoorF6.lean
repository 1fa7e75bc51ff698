/- Bits and bitmaps; What is kept of a key, or of a digest: its first bits. Plain Lean; The reference's bits; The hasher, and the reference's; Grow and Concat; the preimages; The preimages; The reference's preimages; what is the same (joined texts: U8 E9 U9 U10 U11 U12 U13) -/
import Derived.Test.YtjhocljhhpkiiaaGreatDoorF5
set_option linter.all false
/- U8 -/
namespace Go.Proofs.YtjhocljhhpkiiaaGreatDoor
open Go.RowKit
section
variable {P : Program} {n : Nat} {D : List Deferred} {E : Env} {L : List Fa} {T : TypeId} {x y : Operand} {k : IntKind} {i : Int}
theorem r_ixs {s : ByteArray} {j : Nat} {c : UInt8} (hu : P.underlying T = some .string) (hx : ev E x = some (.string s)) (hy : ev E y = some (.int k i)) [hj : NatOf i j] (hc : s[j]? = some c) : Runs0 P n D E L (.index T x y) (.int .u8 (c.toNat : Int)) := fun a w ka st o ho => by
 obtain rfl := hj.eq
 unfold execOp
 simp only [ho, ka.ev hx, ka.ev hy, Instr.index, asIntOf, Sem.run_bind, Sem.run_pure, Result.andThen_ok, run_underlying hu]
 simp [hc]
end
instance rowB1 (b : B32) : Row (bc b.1) 32 := ⟨by rw [bc_length]; exact b.2, bc_one _⟩
theorem Bit_s (b : B32) (i : Nat) (hi : i < 256) : Spec Tryz.prog 147 [.agg b.cells.toArray, .int .i64 (i : Int)].toArray [] [] (fun _ : Unit => .int .i64 ((bitN b i : Nat) : Int)) (fun _ => []) := by
 have hb := b.2
 refine spec_of Tryz.func147 rfl (n := 21) rfl rfl ?_
 intro W
 refine yR ?_
 refine h_opX (x_box rfl) fun g2 => ?_
 refine yS rfl ?_
 refine yN ?_
 refine h_seq ?_
 refine yR ?_
 refine yM rfl ?_
 refine h_op (r_bool (r_lss rfl rfl) (decide_eq_false (by omega))) ?_
 refine yM rfl ?_
 refine yM rfl ?_
 refine h_op (r_bool (r_geq rfl rfl) (decide_eq_false (by omega))) ?_
 refine h_op (r_pick rfl rfl) ?_
 refine yN ?_
 refine h_condF rfl ?_
 refine h_skip ?_
 refine q_then ?_
 refine yR ?_
 refine yM rfl ?_
 refine h_op (r_quo rfl rfl) ?_
 refine h_op (r_idxA rfl rfl) ?_
 refine h_op (r_nth rfl (bc_at' (by omega))) ?_
 refine yM rfl ?_
 refine h_op (r_rem rfl rfl) ?_
 refine h_op (r_subN rfl rfl) ?_
 refine h_op (r_shr rfl rfl) ?_
 refine h_op (r_and rfl rfl) ?_
 refine h_op (r_int (r_cUI rfl) (bit_bv _ (i % 8))) ?_
 refine yS rfl ?_
 refine yN ?_
 refine h_ret ?_
 exact h_ret1 rfl rfl fun w s => ⟨(), rfl, s.res (List.nil_sublist _) (by simp)⟩
theorem Has_s (b : B32) (i : Nat) (hi : i < 256) : Spec Tryz.prog 217 [.agg b.cells.toArray, .int .i64 (i : Int)].toArray [] [] (fun _ : Unit => .bool (bitAt b i)) (fun _ => []) := by
 refine spec_of Tryz.func217 rfl (n := 9) rfl rfl ?_
 intro W
 refine yR ?_
 refine h_opX (x_box rfl) fun g2 => ?_
 refine yS rfl ?_
 refine yN ?_
 refine yR ?_
 refine h_op (r_loadr rfl) ?_
 refine yM rfl ?_
 refine h_call ((Bit_s b i hi).comes) rfl rfl rfl fun _ => ?_
 refine h_op (r_bool (r_eql rfl rfl) (bitN_one b i)) ?_
 refine yS rfl ?_
 refine yN ?_
 refine h_ret ?_
 exact h_ret1 rfl rfl fun w s => ⟨(), rfl, s.res (List.nil_sublist _) (by simp)⟩
theorem List_s (b : B32) : Spec Tryz.prog 189 [.agg b.cells.toArray].toArray [] [] (fun u : Option Addr × Nat => .slice u.1 (depths b).length u.2) (fun u => [.own (.slice u.1 (depths b).length u.2) (depths b).length 3 1 (ic (depths b))]) := by
 refine spec_of Tryz.func189 rfl (n := 17) rfl rfl ?_
 intro W
 refine yR ?_
 refine h_opX (x_box rfl) fun g1 => ?_
 refine yS rfl ?_
 refine yN ?_
 refine yR ?_
 refine yS rfl ?_
 refine yN ?_
 refine h_seq ?_
 refine yR ?_
 refine yM rfl ?_
 refine yN ?_
 refine h_block ?_
 refine h_nil_own 3 1 (xs := ic (dep b 0)) rfl ?_
 change H _ _ _ _ _ (.own (.slice none (dep b 0).length 0) (dep b 0).length _ _ _ :: _) _
 refine h_loop (fun (s : Nat × Option Addr × Nat) => s.1 ≤ 256) (fun (s : Nat × Option Addr × Nat) => [(5, .int .i64 (s.1 : Int)), (3, .slice s.2.1 (dep b s.1).length s.2.2), (1, .pointer (some ⟨g1, 0, none⟩))]) (fun (s : Nat × Option Addr × Nat) => [.own (.slice s.2.1 (dep b s.1).length s.2.2) (dep b s.1).length 3 1 (ic (dep b s.1)), .blk g1 b.cells 293]) (fun (s : Nat × Option Addr × Nat) => 256 - s.1) (0, none, 0) ((show 0 ≤ 256 by omega)) ⟨rfl, rfl, rfl, trivial⟩ (same) ?_
 rintro ⟨k, B, c⟩ hk
 dsimp only at hk ⊢
 have hd := dep_len b k
 refine yR ?_
 refine h_op (r_lss rfl rfl) ?_
 refine yN ?_
 refine h_seq ?_
 refine h_cond rfl (fun h => ?_) (fun h => ?_)
 ·refine h_skip ?_
  refine q_then ?_
  refine h_seq ?_
  refine h_block ?_
  refine yR ?_
  refine yM rfl ?_
  refine yS rfl ?_
  refine yN ?_
  refine yR ?_
  refine h_op (r_loadr rfl) ?_
  refine yM rfl ?_
  refine h_call ((Has_s b k (by omega)).comes) rfl rfl rfl fun _ => ?_
  refine yN ?_
  refine h_condB rfl (fun h2 => ?_) (fun h2 => ?_)
  ·have he := dep_yes h2
   have hl : (dep b k).length + 1 = (dep b (k + 1)).length := by rw [he]; simp
   refine h_reg ?_
   refine yM rfl ?_
   refine yM rfl ?_
   refine h_opX (x_bsl rfl rfl) fun g13 => ?_
   refine h_opX (x_app1I rfl rfl (hN := hl)) fun ⟨g14, c14⟩ => ?_
   refine yS rfl ?_
   refine h_nil ?_
   refine q_block ?_
   refine q_then ?_
   refine h_reg ?_
   refine h_op (r_add rfl rfl) ?_
   refine yM rfl ?_
   refine h_nil ?_
   rw [← he]
   exact h_back (k + 1, some ⟨g14, 0, none⟩, c14) ((show k + 1 ≤ 256 by omega)) ((show 256 - (k + 1) < 256 - k by omega)) ⟨rfl, rfl, rfl, trivial⟩ (same)
  ·have he := dep_no (b := b) (k := k) (by rw [h2]; simp)
   refine h_skip ?_
   refine q_block ?_
   refine q_then ?_
   refine h_reg ?_
   refine h_op (r_add rfl rfl) ?_
   refine yM rfl ?_
   refine h_nil ?_
   rw [← he]
   exact h_back (k + 1, B, c) ((show k + 1 ≤ 256 by omega)) ((show 256 - (k + 1) < 256 - k by omega)) ⟨rfl, rfl, rfl, trivial⟩ (same)
 ·obtain rfl : k = 256 := by omega
  refine h_exit ?_
  refine q_thenE ?_
  refine q_thenE ?_
  refine q_blockE ?_
  refine q_then ?_
  refine yR ?_
  refine yM rfl ?_
  refine yS rfl ?_
  refine yN ?_
  refine h_ret ?_
  exact h_ret1 rfl rfl fun w s => ⟨(B, c), rfl, s.res ((List.nil_sublist _).cons_cons _) (by simp [Fa.wr])⟩
theorem u8of {m : Nat} (h : m < 256) : (((UInt8.ofNat m).toBitVec.toNat : Nat) : Int) = (m : Int) := by
 show (((UInt8.ofNat m).toNat : Nat) : Int) = (m : Int)
 rw [UInt8.toNat_ofNat', Nat.mod_eq_of_lt h]
theorem OnesCount8_s (x : UInt8) : Spec Tryz.prog 221 [.int .u8 (x.toNat : Int)].toArray [] [] (fun _ : Unit => .int .i64 ((pop8 x : Nat) : Int)) (fun _ => []) := by
 have hp := pop8_le x
 refine spec_of Tryz.func221 rfl (n := 6) rfl rfl ?_
 intro W
 refine yR ?_
 refine yS rfl ?_
 refine yN ?_
 refine yR ?_
 refine yM rfl ?_
 refine h_op (r_ixs (c := UInt8.ofNat (pop8 x)) Tryz.underlying9 rfl rfl (by clear W hp; revert x; refine all_bytes ?_; decide +kernel)) ?_
 refine h_op (r_int (r_cUI rfl) (u8of (by omega))) ?_
 refine yS rfl ?_
 refine yN ?_
 refine h_ret ?_
 exact h_ret1 rfl rfl fun w s => ⟨(), rfl, s.res (List.nil_sublist _) (by simp)⟩
theorem Len8_s (x : UInt8) : Spec Tryz.prog 226 [.int .u8 (x.toNat : Int)].toArray [] [] (fun _ : Unit => .int .i64 ((8 - lz8 x : Nat) : Int)) (fun _ => []) := by
 have hp := lz8_le x
 refine spec_of Tryz.func226 rfl (n := 6) rfl rfl ?_
 intro W
 refine yR ?_
 refine yS rfl ?_
 refine yN ?_
 refine yR ?_
 refine yM rfl ?_
 refine h_op (r_ixs (c := UInt8.ofNat (8 - lz8 x)) Tryz.underlying9 rfl rfl (by clear W hp; revert x; refine all_bytes ?_; decide +kernel)) ?_
 refine h_op (r_int (r_cUI rfl) (u8of (by omega))) ?_
 refine yS rfl ?_
 refine yN ?_
 refine h_ret ?_
 exact h_ret1 rfl rfl fun w s => ⟨(), rfl, s.res (List.nil_sublist _) (by simp)⟩
theorem LeadingZeros8_s (x : UInt8) : Spec Tryz.prog 222 [.int .u8 (x.toNat : Int)].toArray [] [] (fun _ : Unit => .int .i64 ((lz8 x : Nat) : Int)) (fun _ => []) := by
 have hp := lz8_le x
 refine spec_of Tryz.func222 rfl (n := 6) rfl rfl ?_
 intro W
 refine yR ?_
 refine yS rfl ?_
 refine yN ?_
 refine yR ?_
 refine yM rfl ?_
 refine h_call ((Len8_s x).comes) rfl rfl rfl fun _ => ?_
 refine h_op (r_subN rfl rfl (m := lz8 x) (hm := by omega)) ?_
 refine yS rfl ?_
 refine yN ?_
 refine h_ret ?_
 exact h_ret1 rfl rfl fun w s => ⟨(), rfl, s.res (List.nil_sublist _) (by simp)⟩
theorem BLen_s (b : B32) : Spec Tryz.prog 202 [.agg b.cells.toArray].toArray [] [] (fun _ : Unit => .int .i64 (((depths b).length : Nat) : Int)) (fun _ => []) := by
 rw [depths_len]
 have hb := b.2
 refine spec_of Tryz.func202 rfl (n := 16) rfl rfl ?_
 intro W
 refine yR ?_
 refine h_opX (x_box rfl) fun g1 => ?_
 refine yS rfl ?_
 refine yN ?_
 refine yR ?_
 refine yS rfl ?_
 refine yN ?_
 refine h_seq ?_
 refine yR ?_
 refine h_op (r_loadr rfl) ?_
 refine yM rfl ?_
 refine yN ?_
 refine h_block ?_
 refine h_loop (fun (k : Nat) => k ≤ 32) (fun (k : Nat) => [(7, .int .i64 (k : Int)), (6, .agg b.cells.toArray), (3, .int .i64 ((popN b k : Nat) : Int))]) (fun (k : Nat) => []) (fun (k : Nat) => 32 - k) 0 (by omega) ⟨rfl, rfl, rfl, trivial⟩ (same) ?_
 intro k hk
 have hpk := popN_le b k
 refine yR ?_
 refine h_op (r_lss rfl rfl) ?_
 refine yN ?_
 refine h_seq ?_
 refine h_cond rfl (fun h => ?_) (fun h => ?_)
 ·have hs := popN_succ b k (by omega)
  have hp8 := pop8_le (b.1.getD k 0)
  refine h_skip ?_
  refine q_then ?_
  refine h_seq ?_
  refine h_block ?_
  refine yR ?_
  refine h_op (r_ixc rfl rfl (bc_at' (l := b.1) (by omega))) ?_
  refine yS rfl ?_
  refine yN ?_
  refine h_reg ?_
  refine yM rfl ?_
  refine yM rfl ?_
  refine h_call ((OnesCount8_s (b.1.getD k 0)).comes) rfl rfl rfl fun _ => ?_
  refine h_op (r_add rfl rfl) ?_
  refine yS rfl ?_
  refine h_nil ?_
  refine q_block ?_
  refine q_then ?_
  refine h_reg ?_
  refine h_op (r_add rfl rfl) ?_
  refine yM rfl ?_
  refine h_nil ?_
  exact h_back (k + 1) (by omega) (by omega) ⟨rfl, rfl, aI rfl (by rw [hs]; omega), trivial⟩ (same)
 ·obtain rfl : k = 32 := by omega
  refine h_exit ?_
  refine q_thenE ?_
  refine q_thenE ?_
  refine q_blockE ?_
  refine q_then ?_
  refine yR ?_
  refine yM rfl ?_
  refine yS rfl ?_
  refine yN ?_
  refine h_ret ?_
  exact h_ret1 rfl rfl fun w s => ⟨(), rfl, s.res (List.nil_sublist _) (by simp)⟩
theorem xor_zero (x y : UInt8) (h : (x.toBitVec ^^^ y.toBitVec).toNat = 0) : x = y := by
 have h2 : x ^^^ y = 0 := by
  apply UInt8.toBitVec_inj.1
  rw [UInt8.toBitVec_xor]
  exact BitVec.eq_of_toNat_eq (by rw [h]; rfl)
 simpa using h2
theorem Common_s (a b : B32) : Spec Tryz.prog 203 [.agg a.cells.toArray, .agg b.cells.toArray].toArray [] [] (fun _ : Unit => .int .i64 ((common a b : Nat) : Int)) (fun _ => []) := by
 have ha := a.2
 have hb := b.2
 refine spec_of Tryz.func203 rfl (n := 28) rfl rfl ?_
 intro W
 refine yR ?_
 refine h_opX (x_box rfl) fun g2 => ?_
 refine h_opX (x_box rfl) fun g3 => ?_
 refine yS rfl ?_
 refine yN ?_
 refine h_seq ?_
 refine yR ?_
 refine h_op (r_loadr rfl) ?_
 refine h_op (r_loadr rfl) ?_
 refine h_op (r_eqr rfl rfl) ?_
 refine yN ?_
 refine h_cond rfl (fun hab => ?_) (fun hab => ?_)
 ·rw [show common a b = 256 by rw [hab]; exact common_self b]
  refine yR ?_
  refine yS rfl ?_
  refine yN ?_
  refine h_ret ?_
  refine q_thenR ?_
  exact h_ret1 rfl rfl fun w s => ⟨(), rfl, s.res (List.nil_sublist _) (by simp)⟩
 ·refine h_skip ?_
  refine q_then ?_
  refine h_seq ?_
  refine yR ?_
  refine yM rfl ?_
  refine yN ?_
  refine h_block ?_
  refine h_loop (fun (k : Nat) => k ≤ 32 ∧ ∀ j, j < k → a.1.getD j 0 = b.1.getD j 0) (fun (k : Nat) => [(10, .int .i64 (k : Int)), (2, .pointer (some ⟨g2, 0, none⟩)), (3, .pointer (some ⟨g3, 0, none⟩))]) (fun (k : Nat) => [.blk g2 a.cells 35, .blk g3 b.cells 35]) (fun (k : Nat) => 32 - k) 0 (⟨by omega, fun j hj => by omega⟩) ⟨rfl, rfl, rfl, trivial⟩ (same) ?_
  intro k hk
  refine yR ?_
  refine h_op (r_lss rfl rfl) ?_
  refine yN ?_
  refine h_seq ?_
  refine h_cond rfl (fun h => ?_) (fun h => ?_)
  ·refine h_skip ?_
   refine q_then ?_
   refine h_seq ?_
   refine h_block ?_
   refine yR ?_
   refine yM rfl ?_
   refine yS rfl ?_
   refine yN ?_
   refine h_seq ?_
   refine ha_start [.blk g2 a.cells 35, .blk g3 b.cells 35] [] mixed (same) ?_
   refine ha_takeP 0 rfl (r_move rfl) ?_
   refine ha_takeP 1 rfl (r_idxA rfl rfl) ?_
   refine ha_take 2 rfl (r_nth rfl (bc_at' (by omega))) ?_
   refine ha_takeP 3 rfl (r_move rfl) ?_
   refine ha_takeP 4 rfl (r_idxA rfl rfl) ?_
   refine ha_take 5 rfl (r_nth rfl (bc_at' (by omega))) ?_
   refine ha_takeP 6 rfl (r_xor rfl rfl) ?_
   refine ha_takeP 7 rfl (r_assign rfl) ?_
   refine ha_done (by kernel_rfl) ?_
   refine q_then ?_
   refine yR ?_
   refine yM rfl ?_
   refine h_op (r_neq rfl rfl) ?_
   refine yN ?_
   refine h_cond rfl (fun hne => ?_) (fun hne => ?_)
   ·have hne2 : a.1.getD k 0 ^^^ b.1.getD k 0 ≠ 0 := fun h0 => hne (by rw [← UInt8.toBitVec_xor, h0]; rfl)
    have hc := common_at a b k (by omega) hk.2 hne2
    have hl := lz8_le (a.1.getD k 0 ^^^ b.1.getD k 0)
    refine yR ?_
    refine yM rfl ?_
    refine h_op (r_mul rfl rfl) ?_
    refine yM rfl ?_
    refine h_call ((LeadingZeros8_s (a.1.getD k 0 ^^^ b.1.getD k 0)).comes) rfl rfl rfl fun _ => ?_
    refine h_op (r_add rfl rfl) ?_
    refine yS rfl ?_
    refine yN ?_
    refine h_ret ?_
    refine q_blockR ?_
    refine q_thenR ?_
    refine q_thenR ?_
    refine q_blockR ?_
    refine q_thenR ?_
    exact h_ret1 rfl (aI rfl (show _ = ((common a b : Nat) : Int) by rw [hc]; omega)) fun w s => ⟨(), rfl, s.res (List.nil_sublist _) (by simp)⟩
   ·have heq : a.1.getD k 0 = b.1.getD k 0 := by
     refine xor_zero _ _ ?_
     have h1 := Decidable.not_not.1 hne
     exact_mod_cast h1
    refine h_skip ?_
    refine q_block ?_
    refine q_then ?_
    refine h_reg ?_
    refine h_op (r_add rfl rfl) ?_
    refine yM rfl ?_
    refine h_nil ?_
    exact h_back (k + 1) (⟨by omega, fun j hj => by by_cases hjk : j < k; exact hk.2 j hjk; obtain rfl : j = k := (by omega); exact heq⟩) (by omega) ⟨rfl, rfl, rfl, trivial⟩ (same)
  ·exact (hab (eq_bytes fun j hj => hk.2 j (by omega))).elim
theorem Flip_s (b : B32) (i : Nat) (hi : i < 256) : Spec Tryz.prog 225 [.agg b.cells.toArray, .int .i64 (i : Int)].toArray [] [] (fun _ : Unit => .agg (flipAt b i).cells.toArray) (fun _ => []) := by
 have hb := b.2
 have hf : b.1.set (i / 8) (UInt8.ofBitVec ((b.1.getD (i / 8) 0).toBitVec ^^^ ((1 : BitVec 8) <<< (7 - i % 8)))) = (flipAt b i).1 := by rw [flip_bv _ _ (by omega)]; rfl
 refine spec_of Tryz.func225 rfl (n := 22) rfl rfl ?_
 intro W
 change H _ _ _ _ (argsEnv 0 [.agg (bc b.1).toArray, .int .i64 (i : Int)]) _ _
 refine yR ?_
 refine h_opX (x_box rfl) fun g2 => ?_
 refine h_opX (x_alloc) fun g4 => ?_
 refine yN ?_
 refine h_seq ?_
 refine yR ?_
 refine yM rfl ?_
 refine h_op (r_bool (r_geq rfl rfl) (decide_eq_true (by omega))) ?_
 refine yM rfl ?_
 refine yM rfl ?_
 refine h_op (r_bool (r_lss rfl rfl) (decide_eq_true (by omega))) ?_
 refine h_op (r_pick rfl rfl) ?_
 refine yN ?_
 refine h_condT rfl ?_
 refine ha_start [.blk g2 (bc b.1) 35] [] mixed (same) ?_
 refine ha_takeP 0 rfl (r_move rfl) ?_
 refine ha_takeP 1 rfl (r_quo rfl rfl) ?_
 refine ha_takeP 2 rfl (r_idxA rfl rfl) ?_
 refine ha_take 3 rfl (r_nth rfl (bc_at' (by omega))) ?_
 refine ha_takeP 4 rfl (r_move rfl) ?_
 refine ha_takeP 5 rfl (r_rem rfl rfl) ?_
 refine ha_takeP 6 rfl (r_subN rfl rfl) ?_
 refine ha_takeP 7 rfl (r_shl rfl rfl) ?_
 refine ha_takeP 8 rfl (r_xor rfl rfl) ?_
 refine ha_takeP 9 rfl (r_idxA rfl rfl) ?_
 refine ha_one 10 ?_
 refine ho_SL 10 rfl (s_setB rfl rfl) ?_
 refine q_then ?_
 rw [hf]
 change H _ _ _ _ _ (.blk g2 (flipAt b i).cells _ :: _) _
 refine yR ?_
 refine h_op (r_loadr rfl) ?_
 refine h_opS (s_storer rfl rfl) ?_
 refine yN ?_
 refine h_ret ?_
 exact h_ret1 rfl (rv_row rfl) fun w s => ⟨(), rfl, s.res (List.nil_sublist _) (by simp)⟩
theorem Without_s (b : B32) (i : Nat) (hi : i < 256) (h : bitAt b i = true) : Spec Tryz.prog 220 [.agg b.cells.toArray, .int .i64 (i : Int)].toArray [] [] (fun _ : Unit => .agg (flipAt b i).cells.toArray) (fun _ => []) := by
 refine spec_of Tryz.func220 rfl (n := 13) rfl rfl ?_
 intro W
 refine yR ?_
 refine h_opX (x_box rfl) fun g2 => ?_
 refine h_opX (x_alloc) fun g4 => ?_
 refine yN ?_
 refine h_seq ?_
 refine yR ?_
 refine h_op (r_loadr rfl) ?_
 refine yM rfl ?_
 refine h_call ((Has_s b i hi).comes) rfl rfl rfl fun _ => ?_
 rw [h]
 refine h_op (r_not rfl) ?_
 refine yN ?_
 refine h_condF rfl ?_
 refine h_skip ?_
 refine q_then ?_
 refine yR ?_
 refine h_op (r_loadr rfl) ?_
 refine yM rfl ?_
 refine h_call ((Flip_s b i hi).comes) rfl rfl rfl fun _ => ?_
 refine h_opS (s_storer rfl rfl) ?_
 refine yN ?_
 refine h_ret ?_
 exact h_ret1 rfl (rv_row rfl) fun w s => ⟨(), rfl, s.res (List.nil_sublist _) (by simp)⟩
theorem Last_s (b : B32) : Spec Tryz.prog 200 [.agg b.cells.toArray].toArray [] [] (fun _ : Unit => .int .i64 (lastI b 256)) (fun _ => []) := by
 refine spec_of Tryz.func200 rfl (n := 17) rfl rfl ?_
 intro W
 refine yR ?_
 refine h_opX (x_box rfl) fun g1 => ?_
 refine yS rfl ?_
 refine yN ?_
 refine yR ?_
 refine yS rfl ?_
 refine yN ?_
 refine h_seq ?_
 refine yR ?_
 refine h_op (r_loadr rfl) ?_
 refine h_opX (x_alloc) fun g4 => ?_
 refine h_opS (s_storer rfl rfl) ?_
 refine yN ?_
 refine h_block ?_
 refine h_loop (fun (s : B32 × Int × Nat) => -1 ≤ s.2.1 ∧ s.2.1 < 256 ∧ (∀ j : Nat, (j : Int) ≤ s.2.1 → bitAt s.1 j = false) ∧ lastI b 256 = (if s.1 = zB32 then s.2.1 else lastI s.1 256)) (fun (s : B32 × Int × Nat) => [(3, .int .i64 s.2.1), (4, .pointer (some ⟨s.2.2, 0, none⟩))]) (fun (s : B32 × Int × Nat) => [.blk s.2.2 s.1.cells 293]) (fun (s : B32 × Int × Nat) => (256 - s.2.1).toNat) (b, -1, g4) (⟨(show -1 ≤ (-1 : Int) by omega), (show (-1 : Int) < 256 by omega), fun j hj => (by have h : (j : Int) ≤ -1 := hj; omega), (show _ = (if b = zB32 then (-1 : Int) else lastI b 256) by by_cases hz : b = zB32; rw [if_pos hz, hz]; exact lastI_none _ _ (fun j _ => bitAt_zero j); rw [if_neg hz])⟩) ⟨rfl, rfl, trivial⟩ (same) ?_
 rintro ⟨r, i, g⟩ ⟨hi1, hi2, hl, he⟩
 dsimp only at hi1 hi2 hl he ⊢
 refine h_seq ?_
 refine yR ?_
 refine h_op (r_loadr rfl) ?_
 refine h_op (r_build rfl) ?_
 refine h_op (r_ner rfl rfl) ?_
 refine yN ?_
 refine h_cond rfl (fun hz => ?_) (fun hz => ?_)
 ·have hz : ¬ r = zB32 := hz
  obtain ⟨c1, c2, c3⟩ := common_zero r hz
  have hci : i < (common r zB32 : Int) := by
   apply Int.lt_of_not_ge
   intro h
   rw [hl _ (by omega)] at c2
   cases c2
  have he2 := (he.trans (if_neg hz)).trans (last_step r hz)
  refine h_skip ?_
  refine q_then ?_
  refine h_seq ?_
  refine h_block ?_
  refine h_reg ?_
  refine h_op (r_loadr rfl) ?_
  refine h_op (r_build rfl) ?_
  refine h_call ((Common_s r zB32).comes) rfl rfl rfl fun _ => ?_
  refine yS rfl ?_
  refine h_nil ?_
  refine q_block ?_
  refine q_then ?_
  refine h_seq ?_
  refine yR ?_
  refine h_op (r_loadr rfl) ?_
  refine yN ?_
  refine h_reg ?_
  refine h_opX (x_alloc) fun g4 => ?_
  refine h_opS (s_storer rfl rfl) ?_
  refine yN ?_
  refine h_reg ?_
  refine h_op (r_loadr rfl) ?_
  refine yM rfl ?_
  refine h_call ((Without_s r (common r zB32) c1 c2).comes) rfl rfl rfl fun _ => ?_
  refine h_opS (s_storer rfl rfl) ?_
  refine h_nil ?_
  exact h_back (flipAt r (common r zB32), (common r zB32 : Int), g4) (⟨by dsimp only; omega, by dsimp only; omega, fun j hj => by have hj2 : j ≤ common r zB32 := (by dsimp only at hj; omega); rw [flipAt_bit r _ j c1 (by omega)]; (by_cases e : j = common r zB32; rw [if_pos e, c2]; rfl; rw [if_neg e]; exact c3 j (by omega)), he2⟩) (by dsimp only; omega) ⟨rfl, rfl, trivial⟩ (same)
 ·have hz : r = zB32 := Decidable.not_not.1 hz
  have he2 := he.trans (if_pos hz)
  refine h_exit ?_
  refine q_thenE ?_
  refine q_thenE ?_
  refine q_blockE ?_
  refine q_then ?_
  refine yR ?_
  refine yM rfl ?_
  refine yS rfl ?_
  refine yN ?_
  refine h_ret ?_
  exact h_ret1 rfl (aI rfl he2.symm) fun w s => ⟨(), rfl, s.res (List.nil_sublist _) (by simp)⟩
end Go.Proofs.YtjhocljhhpkiiaaGreatDoor
/- E9 -/
namespace Go.Proofs.YtjhocljhhpkiiaaGreatDoor
open Go.RowKit
def cut8 (x : UInt8) (m : Nat) : UInt8 := UInt8.ofBitVec (x.toBitVec &&& ((255 : BitVec 8) <<< (8 - m)))
theorem cut8_bit (x : UInt8) (m j : Nat) (hm : m ≤ 8) (hj : j < 8) : bbit (cut8 x m) j = (decide (j < m) && bbit x j) := by
 have key : ∀ n : Fin 256, ∀ m : Fin 9, ∀ j : Fin 8, bbit (cut8 (UInt8.ofNat n.val) m.val) j.val = (decide (j.val < m.val) && bbit (UInt8.ofNat n.val) j.val) := by decide +kernel
 exact all_bytes (p := fun x => ∀ m : Fin 9, ∀ j : Fin 8, bbit (cut8 x m.val) j.val = (decide (j.val < m.val) && bbit x j.val)) key x ⟨m, by omega⟩ ⟨j, hj⟩
def cutB (b : B32) (n : Nat) : B32 := ⟨(List.range 32).map fun k => cut8 (b.1.getD k 0) (min 8 (n - 8 * k)), by simp⟩
theorem cutB_bit (b : B32) (n i : Nat) (hi : i < 256) : bitAt (cutB b n) i = (decide (i < n) && bitAt b i) := by
 unfold bitAt cutB
 simp only
 rw [List.getD, List.getElem?_map, List.getElem?_range (show i / 8 < 32 by omega)]
 simp only [Option.map_some, Option.getD_some]
 rw [cut8_bit _ _ _ (by omega) (by omega)]
 congr 1
 apply decide_eq_decide.2
 omega
theorem cutB_all (b : B32) (n : Nat) (h : 256 ≤ n) : cutB b n = b := bits_ext fun i hi => by rw [cutB_bit b n i hi, decide_eq_true (by omega)]; rfl
theorem cutB_flip (b : B32) (n : Nat) (h : n < 256) (hb : bitAt b n = true) : flipAt (cutB b (n + 1)) n = cutB b n := bits_ext fun i hi => by
 rw [flipAt_bit _ _ _ h hi, cutB_bit _ _ _ h, cutB_bit _ _ _ hi, cutB_bit _ _ _ hi]
 by_cases e : i = n
 ·subst e; simp [hb]
 ·rw [if_neg e, show decide (i < n + 1) = decide (i < n) from decide_eq_decide.2 (by omega)]
theorem cutB_same (b : B32) (n : Nat) (h : n < 256) (hb : bitAt b n = false) : cutB b (n + 1) = cutB b n := bits_ext fun i hi => by
 rw [cutB_bit _ _ _ hi, cutB_bit _ _ _ hi]
 by_cases e : i = n
 ·subst e; simp [hb]
 ·rw [show decide (i < n + 1) = decide (i < n) from decide_eq_decide.2 (by omega)]
def cutI (b : B32) (n k : Nat) : List UInt8 := (List.range k).map (fun k => cut8 (b.1.getD k 0) (min 8 (n - 8 * k))) ++ b.1.drop k
theorem cutI_32 (b : B32) (n : Nat) : cutI b n 32 = (cutB b n).1 := by
 have := b.2
 unfold cutI cutB
 rw [List.drop_of_length_le (by omega), List.append_nil]
theorem cutI_len (b : B32) (n k : Nat) (h : k ≤ 32) : (cutI b n k).length = 32 := by
 have := b.2
 simp [cutI]
 omega
theorem cutI_get (b : B32) (n k : Nat) : (cutI b n k).getD k 0 = b.1.getD k 0 := by
 unfold cutI
 rw [List.getD, List.getElem?_append_right (by simp)]
 simp [List.getD]
theorem cutI_set (b : B32) (n k : Nat) (h : k < 32) : (cutI b n k).set k (cut8 (b.1.getD k 0) (min 8 (n - 8 * k))) = cutI b n (k + 1) := by
 have hb := b.2
 unfold cutI
 rw [List.set_append_right _ _ (by simp), List.range_succ, List.map_append, List.append_assoc]
 congr 1
 rw [List.length_map, List.length_range, Nat.sub_self, List.drop_eq_getElem_cons (by omega), List.set_cons_zero]
 rfl
theorem common_of {a b : B32} {k : Nat} (hk : k ≤ 256) (h1 : ∀ j, j < k → (bitAt a j ^^ bitAt b j) = false) (h2 : k = 256 ∨ (bitAt a k ^^ bitAt b k) = true) : common a b = k := by
 unfold common
 by_cases h : k < 256
 ·rcases h2 with h2 | h2
  ·omega
  ·rw [find_range h h2 h1]; rfl
 ·obtain rfl : k = 256 := by omega
  rw [List.find?_eq_none.2 fun i hi => by rw [h1 i (by simpa using hi)]; simp]
  rfl
theorem bitN_eq (a b : B32) (k : Nat) : decide (((bitN a k : Nat) : Int) = ((bitN b k : Nat) : Int)) = !(bitAt a k ^^ bitAt b k) := by
 unfold bitN
 cases bitAt a k <;> cases bitAt b k <;> rfl
theorem bitN_div (b : B32) (i : Nat) : (((b.1.getD (i / 8) 0).toNat / 2 ^ (7 - i % 8) : Nat) : Int) % 2 = ((bitN b i : Nat) : Int) := by
 unfold bitN bitAt bbit
 generalize (b.1.getD (i / 8) 0).toNat / 2 ^ (7 - i % 8) = y
 rcases (show y % 2 = 0 ∨ y % 2 = 1 by omega) with h | h
 ·rw [h]; simp; omega
 ·rw [h]; simp; omega
theorem bbit_ge (x : UInt8) (j : Nat) (h : bbit x j = true) : 2 ^ (7 - j) ≤ x.toNat := by
 apply Nat.le_of_not_lt
 intro h2
 unfold bbit at h
 rw [Nat.div_eq_of_lt h2] at h
 cases h
theorem flip_up (x : UInt8) (j : Nat) (h : bbit x j = false) : UInt8.ofBitVec (BitVec.ofNat 8 (x.toNat + 2 ^ (7 - j))) = flipB x j := by
 unfold flipB flip8
 rw [h]
 rfl
theorem flip_down (x : UInt8) (j : Nat) (h : bbit x j = true) : UInt8.ofBitVec (BitVec.ofNat 8 (x.toNat - 2 ^ (7 - j))) = flipB x j := by
 unfold flipB flip8
 rw [h]
 rfl
end Go.Proofs.YtjhocljhhpkiiaaGreatDoor
/- U9 -/
namespace Go.Proofs.YtjhocljhhpkiiaaGreatDoor
open Go.RowKit
theorem refBit_s (b : B32) (i : Nat) (hi : i < 256) : Spec Tryz.prog 76 [.agg b.cells.toArray, .int .i64 (i : Int)].toArray [] [] (fun _ : Unit => .int .i64 ((bitN b i : Nat) : Int)) (fun _ => []) := by
 have hb := b.2
 have hd := bitN_div b i
 have hx := UInt8.toNat_lt (b.1.getD (i / 8) 0)
 refine spec_of Tryz.func76 rfl (n := 28) rfl rfl ?_
 intro W
 refine yR ?_
 refine h_opX (x_box rfl) fun g2 => ?_
 refine yS rfl ?_
 refine yN ?_
 refine h_seq ?_
 refine yR ?_
 refine yM rfl ?_
 refine h_op (r_bool (r_lss rfl rfl) (decide_eq_false (by omega))) ?_
 refine yM rfl ?_
 refine yM rfl ?_
 refine h_op (r_bool (r_gtr rfl rfl) (decide_eq_false (by omega))) ?_
 refine h_op (r_pick rfl rfl) ?_
 refine yN ?_
 refine h_condF rfl ?_
 refine h_skip ?_
 refine q_then ?_
 refine yR ?_
 refine yM rfl ?_
 refine h_op (r_quo rfl rfl) ?_
 refine h_op (r_idxA rfl rfl) ?_
 refine h_op (r_nth rfl (bc_at' (by omega))) ?_
 refine h_op (r_int (r_cUI rfl) (show _ = (((b.1.getD (i / 8) 0).toNat : Nat) : Int) from rfl)) ?_
 refine yS rfl ?_
 refine yN ?_
 refine h_seq ?_
 refine yR ?_
 refine yM rfl ?_
 refine h_op (r_rem rfl rfl) ?_
 refine yS rfl ?_
 refine yN ?_
 refine h_block ?_
 generalize (b.1.getD (i / 8) 0) = x at *
 refine h_loop (fun (k : Nat) => i % 8 ≤ k ∧ k ≤ 7) (fun (k : Nat) => [(6, .int .i64 (k : Int)), (5, .int .i64 ((x.toNat / 2 ^ (k - i % 8) : Nat) : Int))]) (fun (k : Nat) => []) (fun (k : Nat) => 7 - k) (i % 8) (⟨Nat.le_refl _, by omega⟩) ⟨aI rfl (by omega), aI rfl (by rw [Nat.sub_self, Nat.pow_zero, Nat.div_one]), trivial⟩ (same) ?_
 intro k hk
 have hq : x.toNat / 2 ^ (k - i % 8) < 256 := Nat.lt_of_le_of_lt (Nat.div_le_self _ _) hx
 refine h_seq ?_
 refine yR ?_
 refine yM rfl ?_
 refine h_op (r_lss rfl rfl) ?_
 refine yN ?_
 refine h_cond rfl (fun h => ?_) (fun h => ?_)
 ·have hs : x.toNat / 2 ^ (k - i % 8) / 2 = x.toNat / 2 ^ (k + 1 - i % 8) := by
   rw [Nat.div_div_eq_div_mul, ← Nat.pow_succ]
   congr 2
   omega
  generalize x.toNat / 2 ^ (k - i % 8) = y at *
  refine h_skip ?_
  refine q_then ?_
  refine h_seq ?_
  refine h_block ?_
  refine h_reg ?_
  refine yM rfl ?_
  refine h_op (r_quo rfl rfl) ?_
  refine yS rfl ?_
  refine h_nil ?_
  refine q_block ?_
  refine q_then ?_
  refine h_reg ?_
  refine yM rfl ?_
  refine h_op (r_add rfl rfl) ?_
  refine yS rfl ?_
  refine h_nil ?_
  exact h_back (k + 1) (⟨by omega, by omega⟩) (by omega) ⟨rfl, aI rfl (by rw [← hs]; rfl), trivial⟩ (same)
 ·obtain rfl : k = 7 := by omega
  generalize x.toNat / 2 ^ (7 - i % 8) = y at *
  refine h_exit ?_
  refine q_thenE ?_
  refine q_thenE ?_
  refine q_blockE ?_
  refine q_then ?_
  refine yR ?_
  refine yM rfl ?_
  refine h_op (r_int (r_rem rfl rfl) hd) ?_
  refine yS rfl ?_
  refine yN ?_
  refine h_ret ?_
  exact h_ret1 rfl rfl fun w s => ⟨(), rfl, s.res (List.nil_sublist _) (by simp)⟩
theorem value_s (i : Nat) (hi : i < 256) : Spec Tryz.prog 215 [.int .i64 (i : Int)].toArray [] [] (fun _ : Unit => .int .i64 ((2 ^ (7 - i % 8) : Nat) : Int)) (fun _ => []) := by
 refine spec_of Tryz.func215 rfl (n := 14) rfl rfl ?_
 intro W
 refine yR ?_
 refine yS rfl ?_
 refine yN ?_
 refine yR ?_
 refine yS rfl ?_
 refine yN ?_
 refine h_seq ?_
 refine yR ?_
 refine yM rfl ?_
 refine h_op (r_rem rfl rfl) ?_
 refine yS rfl ?_
 refine yN ?_
 refine h_block ?_
 refine h_loop (fun (k : Nat) => i % 8 ≤ k ∧ k ≤ 7) (fun (k : Nat) => [(4, .int .i64 (k : Int)), (3, .int .i64 ((2 ^ (k - i % 8) : Nat) : Int))]) (fun (k : Nat) => []) (fun (k : Nat) => 7 - k) (i % 8) (⟨Nat.le_refl _, by omega⟩) ⟨aI rfl (by omega), aI rfl (by rw [Nat.sub_self]; rfl), trivial⟩ (same) ?_
 intro k hk
 have hq : 2 ^ (k - i % 8) ≤ 2 ^ 7 := Nat.pow_le_pow_right (by decide) (by omega)
 refine h_seq ?_
 refine yR ?_
 refine yM rfl ?_
 refine h_op (r_lss rfl rfl) ?_
 refine yN ?_
 refine h_cond rfl (fun h => ?_) (fun h => ?_)
 ·have hs : 2 ^ (k - i % 8) * 2 = 2 ^ (k + 1 - i % 8) := by
   rw [← Nat.pow_succ]
   congr 1
   omega
  generalize 2 ^ (k - i % 8) = y at *
  refine h_skip ?_
  refine q_then ?_
  refine h_seq ?_
  refine h_block ?_
  refine h_reg ?_
  refine yM rfl ?_
  refine h_op (r_mul rfl rfl) ?_
  refine yS rfl ?_
  refine h_nil ?_
  refine q_block ?_
  refine q_then ?_
  refine h_reg ?_
  refine yM rfl ?_
  refine h_op (r_add rfl rfl) ?_
  refine yS rfl ?_
  refine h_nil ?_
  exact h_back (k + 1) (⟨by omega, by omega⟩) (by omega) ⟨rfl, aI rfl (by rw [← hs]; rfl), trivial⟩ (same)
 ·obtain rfl : k = 7 := by omega
  refine h_exit ?_
  refine q_thenE ?_
  refine q_thenE ?_
  refine q_blockE ?_
  refine q_then ?_
  refine yR ?_
  refine yM rfl ?_
  refine yS rfl ?_
  refine yN ?_
  refine h_ret ?_
  exact h_ret1 rfl rfl fun w s => ⟨(), rfl, s.res (List.nil_sublist _) (by simp)⟩
theorem refFlip_s (b : B32) (i : Nat) (hi : i < 256) : Spec Tryz.prog 187 [.agg b.cells.toArray, .int .i64 (i : Int)].toArray [] [] (fun _ : Unit => .agg (flipAt b i).cells.toArray) (fun _ => []) := by
 have hb := b.2
 have hx := UInt8.toNat_lt (b.1.getD (i / 8) 0)
 have hq : 2 ^ (7 - i % 8) ≤ 2 ^ 7 := Nat.pow_le_pow_right (by decide) (by omega)
 have hf : b.1.set (i / 8) (flipB (b.1.getD (i / 8) 0) (i % 8)) = (flipAt b i).1 := rfl
 have hup := flip_up (b.1.getD (i / 8) 0) (i % 8)
 have hdn := flip_down (b.1.getD (i / 8) 0) (i % 8)
 have hge := bbit_ge (b.1.getD (i / 8) 0) (i % 8)
 have hv := value_s i hi
 generalize 2 ^ (7 - i % 8) = q at *
 refine spec_of Tryz.func187 rfl (n := 37) rfl rfl ?_
 intro W
 change H _ _ _ _ (argsEnv 0 [.agg (bc b.1).toArray, .int .i64 (i : Int)]) _ _
 refine yR ?_
 refine h_opX (x_box rfl) fun g2 => ?_
 refine h_opX (x_alloc) fun g4 => ?_
 refine yN ?_
 refine h_seq ?_
 refine yR ?_
 refine h_op (r_loadr rfl) ?_
 refine yM rfl ?_
 refine h_call ((refBit_s b i hi).comes) rfl rfl rfl fun _ => ?_
 by_cases hbit : bitAt b i = true
 ·have hn : bitN b i = 1 := by unfold bitN; rw [hbit]; rfl
  rw [hn]
  have hdn := hdn hbit
  have hge := hge hbit
  refine yN ?_
  refine h_block ?_
  refine yR ?_
  refine h_op (r_bool (r_eql rfl rfl) (show _ = false by decide)) ?_
  refine yS rfl ?_
  refine yN ?_
  refine h_condF rfl ?_
  refine yR ?_
  refine h_op (r_bool (r_eql rfl rfl) (show _ = true by decide)) ?_
  refine yS rfl ?_
  refine yN ?_
  refine h_condT rfl ?_
  refine ha_start [.blk g2 (bc b.1) 35] [] mixed (same) ?_
  refine ha_takeP 0 rfl (r_move rfl) ?_
  refine ha_takeP 1 rfl (r_quo rfl rfl) ?_
  refine ha_takeP 2 rfl (r_move rfl) ?_
  refine ha_takeP 3 rfl (r_quo rfl rfl) ?_
  refine ha_takeP 4 rfl (r_idxA rfl rfl) ?_
  refine ha_take 5 rfl (r_nth rfl (bc_at' (by omega))) ?_
  refine ha_takeP 6 rfl (r_int (r_cUI rfl) (show _ = (((b.1.getD (i / 8) 0).toNat : Nat) : Int) from rfl)) ?_
  refine ha_takeP 7 rfl (r_move rfl) ?_
  refine ha_one 8 ?_
  refine ho_C 8 rfl (hv.comes) rfl rfl rfl (fun xx => same) fun _ => ?_
  refine ha_takeP 9 rfl (r_subN rfl rfl) ?_
  refine ha_takeP 10 rfl (r_cNW rfl) ?_
  refine ha_takeP 11 rfl (r_idxA rfl rfl) ?_
  refine ha_one 12 ?_
  refine ho_SL 12 rfl (s_setB rfl rfl) ?_
  refine q_block ?_
  refine q_then ?_
  rw [hdn, hf]
  change H _ _ _ _ _ (.blk g2 (flipAt b i).cells _ :: _) _
  refine yR ?_
  refine h_op (r_loadr rfl) ?_
  refine h_opS (s_storer rfl rfl) ?_
  refine yN ?_
  refine h_ret ?_
  exact h_ret1 rfl (rv_row rfl) fun w s => ⟨(), rfl, s.res (List.nil_sublist _) (by simp)⟩
 ·have hbit : bitAt b i = false := by simpa using hbit
  have hn : bitN b i = 0 := by unfold bitN; rw [hbit]; rfl
  rw [hn]
  have hup := hup hbit
  refine yN ?_
  refine h_block ?_
  refine yR ?_
  refine h_op (r_bool (r_eql rfl rfl) (show _ = true by decide)) ?_
  refine yS rfl ?_
  refine yN ?_
  refine h_condT rfl ?_
  refine ha_start [.blk g2 (bc b.1) 35] [] mixed (same) ?_
  refine ha_takeP 0 rfl (r_move rfl) ?_
  refine ha_takeP 1 rfl (r_quo rfl rfl) ?_
  refine ha_takeP 2 rfl (r_move rfl) ?_
  refine ha_takeP 3 rfl (r_quo rfl rfl) ?_
  refine ha_takeP 4 rfl (r_idxA rfl rfl) ?_
  refine ha_take 5 rfl (r_nth rfl (bc_at' (by omega))) ?_
  refine ha_takeP 6 rfl (r_int (r_cUI rfl) (show _ = (((b.1.getD (i / 8) 0).toNat : Nat) : Int) from rfl)) ?_
  refine ha_takeP 7 rfl (r_move rfl) ?_
  refine ha_one 8 ?_
  refine ho_C 8 rfl (hv.comes) rfl rfl rfl (fun xx => same) fun _ => ?_
  refine ha_takeP 9 rfl (r_add rfl rfl) ?_
  refine ha_takeP 10 rfl (r_cNW rfl) ?_
  refine ha_takeP 11 rfl (r_idxA rfl rfl) ?_
  refine ha_one 12 ?_
  refine ho_SL 12 rfl (s_setB rfl rfl) ?_
  refine q_block ?_
  refine q_then ?_
  rw [hup, hf]
  change H _ _ _ _ _ (.blk g2 (flipAt b i).cells _ :: _) _
  refine yR ?_
  refine h_op (r_loadr rfl) ?_
  refine h_opS (s_storer rfl rfl) ?_
  refine yN ?_
  refine h_ret ?_
  exact h_ret1 rfl (rv_row rfl) fun w s => ⟨(), rfl, s.res (List.nil_sublist _) (by simp)⟩
theorem Prefix_s (b : B32) (n : Nat) (hn : n ≤ 256) : Spec Tryz.prog 134 [.agg b.cells.toArray, .int .i64 (n : Int)].toArray [] [] (fun _ : Unit => .agg (cutB b n).cells.toArray) (fun _ => []) := by
 refine spec_of Tryz.func134 rfl (n := 21) rfl rfl ?_
 intro W
 refine yR ?_
 refine h_opX (x_box rfl) fun g2 => ?_
 refine h_opX (x_alloc) fun g4 => ?_
 refine yN ?_
 refine h_seq ?_
 refine yR ?_
 refine yM rfl ?_
 refine h_op (r_bool (r_lss rfl rfl) (decide_eq_false (by omega))) ?_
 refine yN ?_
 refine h_condF rfl ?_
 refine h_skip ?_
 refine q_then ?_
 refine h_seq ?_
 refine yR ?_
 refine yS rfl ?_
 refine yN ?_
 refine h_block ?_
 rw [show b.cells = (cutB b 256).cells by rw [cutB_all b 256 (Nat.le_refl _)]]
 refine h_loop (fun (j : Nat) => j ≤ 256 - n) (fun (j : Nat) => [(5, .int .i64 (255 - (j : Int))), (1, .int .i64 (n : Int)), (2, .pointer (some ⟨g2, 0, none⟩)), (4, .pointer (some ⟨g4, 0, none⟩))]) (fun (j : Nat) => [.blk g2 (cutB b (256 - j)).cells 35, .blk g4 zB32.cells 35]) (fun (j : Nat) => 256 - j) 0 (by omega) ⟨rfl, rfl, rfl, rfl, trivial⟩ (same) ?_
 intro j hj
 refine h_seq ?_
 refine yR ?_
 refine yM rfl ?_
 refine yM rfl ?_
 refine h_op (r_geq rfl rfl) ?_
 refine yN ?_
 refine h_cond rfl (fun h => ?_) (fun h => ?_)
 ·have hi : 255 - j < 256 := by omega
  have h1 : 256 - j = (255 - j) + 1 := by omega
  have h2 : 256 - (j + 1) = 255 - j := by omega
  rw [h1]
  have hbt : bitN (cutB b (255 - j + 1)) (255 - j) = bitN b (255 - j) := by unfold bitN; rw [cutB_bit _ _ _ hi, decide_eq_true (by omega)]; rfl
  refine h_skip ?_
  refine q_then ?_
  refine h_seq ?_
  refine h_block ?_
  refine yR ?_
  refine h_op (r_loadr rfl) ?_
  refine yM rfl ?_
  refine h_E (E' := [(14, .int .i64 ((255 - j : Nat) : Int)), (13, .agg (cutB b (255 - j + 1)).cells.toArray), (5, .int .i64 ((255 - j : Nat) : Int)), (1, .int .i64 (n : Int)), (2, .pointer (some ⟨g2, 0, none⟩)), (4, .pointer (some ⟨g4, 0, none⟩))]) ⟨aI rfl (by omega), rfl, aI rfl (by omega), rfl, rfl, rfl, trivial⟩ ?_
  refine h_call ((refBit_s (cutB b (255 - j + 1)) (255 - j) hi).comes) rfl rfl rfl fun _ => ?_
  rw [hbt]
  by_cases hbit : bitAt b (255 - j) = true
  ·have hn1 : bitN b (255 - j) = 1 := by unfold bitN; rw [hbit]; rfl
   rw [hn1]
   refine h_op (r_bool (r_eql rfl rfl) (show _ = true by decide)) ?_
   refine yN ?_
   refine h_condT rfl ?_
   refine h_reg ?_
   refine h_op (r_loadr rfl) ?_
   refine yM rfl ?_
   refine h_call ((refFlip_s (cutB b (255 - j + 1)) (255 - j) hi).comes) rfl rfl rfl fun _ => ?_
   rw [cutB_flip b (255 - j) hi hbit]
   refine h_opS (s_storer rfl rfl) ?_
   refine h_nil ?_
   refine q_block ?_
   refine q_then ?_
   refine h_reg ?_
   refine yM rfl ?_
   refine h_op (r_sub rfl rfl) ?_
   refine yS rfl ?_
   refine h_nil ?_
   rw [← h2]
   exact h_back (j + 1) (by omega) (by omega) ⟨aI rfl (by omega), rfl, rfl, rfl, trivial⟩ (same)
  ·have hbit : bitAt b (255 - j) = false := by simpa using hbit
   have hn1 : bitN b (255 - j) = 0 := by unfold bitN; rw [hbit]; rfl
   rw [hn1, cutB_same b (255 - j) hi hbit]
   refine h_op (r_bool (r_eql rfl rfl) (show _ = false by decide)) ?_
   refine yN ?_
   refine h_condF rfl ?_
   refine h_skip ?_
   refine q_block ?_
   refine q_then ?_
   refine h_reg ?_
   refine yM rfl ?_
   refine h_op (r_sub rfl rfl) ?_
   refine yS rfl ?_
   refine h_nil ?_
   rw [← h2]
   exact h_back (j + 1) (by omega) (by omega) ⟨aI rfl (by omega), rfl, rfl, rfl, trivial⟩ (same)
 ·obtain rfl : j = 256 - n := by omega
  rw [show 256 - (256 - n) = n by omega]
  refine h_exit ?_
  refine q_thenE ?_
  refine q_thenE ?_
  refine q_blockE ?_
  refine q_then ?_
  refine yR ?_
  refine h_op (r_loadr rfl) ?_
  refine h_opS (s_storer rfl rfl) ?_
  refine yN ?_
  refine h_ret ?_
  exact h_ret1 rfl (rv_row rfl) fun w s => ⟨(), rfl, s.res (List.nil_sublist _) (by simp)⟩
theorem refCommon_s (a b : B32) : Spec Tryz.prog 144 [.agg a.cells.toArray, .agg b.cells.toArray].toArray [] [] (fun _ : Unit => .int .i64 ((common a b : Nat) : Int)) (fun _ => []) := by
 refine spec_of Tryz.func144 rfl (n := 20) rfl rfl ?_
 intro W
 refine yR ?_
 refine h_opX (x_box rfl) fun g2 => ?_
 refine h_opX (x_box rfl) fun g3 => ?_
 refine yS rfl ?_
 refine yN ?_
 refine yR ?_
 refine yS rfl ?_
 refine yN ?_
 refine h_seq ?_
 refine h_block ?_
 refine h_loop (fun (k : Nat) => k ≤ 256 ∧ ∀ j, j < k → (bitAt a j ^^ bitAt b j) = false) (fun (k : Nat) => [(5, .int .i64 (k : Int)), (2, .pointer (some ⟨g2, 0, none⟩)), (3, .pointer (some ⟨g3, 0, none⟩))]) (fun (k : Nat) => [.blk g2 a.cells 35, .blk g3 b.cells 35]) (fun (k : Nat) => 256 - k) 0 (⟨by omega, fun j hj => by omega⟩) ⟨rfl, rfl, rfl, trivial⟩ (same) ?_
 rintro k ⟨hk, he⟩
 refine h_seq ?_
 refine h_seq ?_
 by_cases h256 : k < 256
 ·refine ha_start [.blk g2 a.cells 35, .blk g3 b.cells 35] [] mixed (same) ?_
  refine ha_takeP 0 rfl (r_move rfl) ?_
  refine ha_takeP 1 rfl (r_bool (r_lss rfl rfl) (decide_eq_true (by omega))) ?_
  refine ha_takeP 2 rfl (r_move rfl) ?_
  refine ha_take 3 rfl (r_loadr rfl) ?_
  refine ha_takeP 4 rfl (r_move rfl) ?_
  refine ha_take 6 rfl (r_loadr rfl) ?_
  refine ha_takeP 7 rfl (r_move rfl) ?_
  refine ha_one 5 ?_
  refine ho_C 5 rfl ((refBit_s a k h256).comes) rfl rfl rfl (fun xx => same) fun _ => ?_
  refine ha_one 8 ?_
  refine ho_C 8 rfl ((refBit_s b k h256).comes) rfl rfl rfl (fun xx => same) fun _ => ?_
  refine ha_takeP 9 rfl (r_bool (r_eql rfl rfl) (bitN_eq a b k)) ?_
  refine ha_takeP 10 rfl (r_pick rfl rfl) ?_
  refine ha_done (by kernel_rfl) ?_
  refine q_then ?_
  refine h_condB rfl (fun h => ?_) (fun h => ?_)
  ·have h0 : (bitAt a k ^^ bitAt b k) = false := by simpa using h
   refine h_skip ?_
   refine q_then ?_
   refine h_block ?_
   refine h_reg ?_
   refine yM rfl ?_
   refine h_op (r_add rfl rfl) ?_
   refine yS rfl ?_
   refine h_nil ?_
   refine q_block ?_
   exact h_back (k + 1) (⟨by omega, fun j hj => by by_cases e : j < k; exact he j e; obtain rfl : j = k := (by omega); exact h0⟩) (by omega) ⟨rfl, rfl, rfl, trivial⟩ (same)
  ·have h0 : (bitAt a k ^^ bitAt b k) = true := by simpa using h
   rw [common_of hk he (.inr h0)]
   refine h_exit ?_
   refine q_thenE ?_
   refine q_thenE ?_
   refine q_blockE ?_
   refine q_then ?_
   refine yR ?_
   refine yM rfl ?_
   refine yS rfl ?_
   refine yN ?_
   refine h_ret ?_
   exact h_ret1 rfl rfl fun w s => ⟨(), rfl, s.res (List.nil_sublist _) (by simp)⟩
 ·obtain rfl : k = 256 := by omega
  refine ha_start [.blk g2 a.cells 35, .blk g3 b.cells 35] [] mixed (same) ?_
  refine ha_takeP 0 rfl (r_move rfl) ?_
  refine ha_takeP 1 rfl (r_bool (r_lss rfl rfl) (decide_eq_false (by omega))) ?_
  refine ha_takeP 2 rfl (r_move rfl) ?_
  refine ha_off 3 rfl ?_
  refine ha_off 4 rfl ?_
  refine ha_off 5 rfl ?_
  refine ha_off 6 rfl ?_
  refine ha_off 7 rfl ?_
  refine ha_off 8 rfl ?_
  refine ha_off 9 rfl ?_
  refine ha_takeP 10 rfl (r_pick rfl rfl) ?_
  refine ha_done (by kernel_rfl) ?_
  refine q_then ?_
  refine h_condF rfl ?_
  rw [common_of hk he (.inl rfl)]
  refine h_exit ?_
  refine q_thenE ?_
  refine q_thenE ?_
  refine q_blockE ?_
  refine q_then ?_
  refine yR ?_
  refine yM rfl ?_
  refine yS rfl ?_
  refine yN ?_
  refine h_ret ?_
  exact h_ret1 rfl rfl fun w s => ⟨(), rfl, s.res (List.nil_sublist _) (by simp)⟩
end Go.Proofs.YtjhocljhhpkiiaaGreatDoor
/- U10 -/
namespace Go.Proofs.YtjhocljhhpkiiaaGreatDoor
open Go.RowKit
def sumB (n : Nat) (l : List UInt8) : B32 := cutB (sha l) n
abbrev hashT : List Value := wc .u32 K64
theorem Cut_s (b : B32) (n : Nat) (hn : n ≤ 256) : Spec Tryz.prog 78 [.agg b.cells.toArray, .int .i64 (n : Int)].toArray [] [] (fun _ : Unit => .agg (cutB b n).cells.toArray) (fun _ => []) := by
 refine spec_of Tryz.func78 rfl (n := 29) rfl rfl ?_
 intro W
 change H _ _ _ _ (argsEnv 0 [.agg (bc (cutI b n 0)).toArray, .int .i64 (n : Int)]) _ _
 have h0 := cutI_len b n 0 (by omega)
 refine yR ?_
 refine h_opX (x_box (cs := bc (cutI b n 0)) rfl) fun g2 => ?_
 refine h_opX (x_alloc) fun g4 => ?_
 refine yN ?_
 refine yR ?_
 refine yM rfl ?_
 refine h_op (r_int (r_max rfl rfl) (show _ = (n : Int) by rw [if_neg (by omega)])) ?_
 refine h_op (r_int (r_min rfl rfl) (show _ = (n : Int) by split <;> omega)) ?_
 refine yS rfl ?_
 refine yN ?_
 refine h_seq ?_
 refine yR ?_
 refine yM rfl ?_
 refine yN ?_
 refine h_block ?_
 refine h_loop (fun (k : Nat) => k ≤ 32) (fun (k : Nat) => [(10, .int .i64 (k : Int)), (1, .int .i64 (n : Int)), (2, .pointer (some ⟨g2, 0, none⟩)), (4, .pointer (some ⟨g4, 0, none⟩))]) (fun (k : Nat) => [.blk g2 (bc (cutI b n k)) 42, .blk g4 zB32.cells 42]) (fun (k : Nat) => 32 - k) 0 (by omega) ⟨rfl, rfl, rfl, rfl, trivial⟩ (same) ?_
 intro k hk
 have hl := cutI_len b n k hk
 have hg := cutI_get b n k
 refine yR ?_
 refine h_op (r_lss rfl rfl) ?_
 refine yN ?_
 refine h_seq ?_
 refine h_cond rfl (fun h => ?_) (fun h => ?_)
 ·have hst := cutI_set b n k (by omega)
  unfold cut8 at hst
  refine h_skip ?_
  refine q_then ?_
  refine h_seq ?_
  refine h_block ?_
  refine yR ?_
  refine yM rfl ?_
  refine yS rfl ?_
  refine yN ?_
  refine yR ?_
  refine yM rfl ?_
  refine yM rfl ?_
  refine h_op (r_mul rfl rfl) ?_
  refine h_op (r_sub rfl rfl) ?_
  refine h_op (r_int (r_max rfl rfl) (show _ = ((n - 8 * k : Nat) : Int) by split <;> omega)) ?_
  refine h_op (r_int (r_min rfl rfl) (show _ = ((min 8 (n - 8 * k) : Nat) : Int) by split <;> omega)) ?_
  refine yS rfl ?_
  refine yN ?_
  refine ha_start [.blk g2 (bc (cutI b n k)) 42] [] mixed (same) ?_
  refine ha_takeP 0 rfl (r_move rfl) ?_
  refine ha_takeP 1 rfl (r_idxA rfl rfl) ?_
  refine ha_take 2 rfl (r_nth rfl (bc_at' (by omega))) ?_
  refine ha_takeP 3 rfl (r_move rfl) ?_
  refine ha_takeP 4 rfl (r_subN rfl rfl) ?_
  refine ha_takeP 5 rfl (r_shl rfl rfl) ?_
  refine ha_takeP 6 rfl (r_and rfl rfl) ?_
  refine ha_takeP 7 rfl (r_idxA rfl rfl) ?_
  refine ha_one 8 ?_
  refine ho_SL 8 rfl (s_setB rfl rfl) ?_
  refine q_block ?_
  refine q_then ?_
  rw [hg, hst]
  refine h_reg ?_
  refine h_op (r_add rfl rfl) ?_
  refine yM rfl ?_
  refine h_nil ?_
  exact h_back (k + 1) (by omega) (by omega) ⟨rfl, rfl, rfl, rfl, trivial⟩ (same)
 ·obtain rfl : k = 32 := by omega
  rw [cutI_32]
  change H _ _ _ _ _ (.blk g2 (cutB b n).cells _ :: _) _
  refine h_exit ?_
  refine q_thenE ?_
  refine q_thenE ?_
  refine q_blockE ?_
  refine q_then ?_
  refine yR ?_
  refine h_op (r_loadr rfl) ?_
  refine h_opS (s_storer rfl rfl) ?_
  refine yN ?_
  refine h_ret ?_
  exact h_ret1 rfl (rv_row rfl) fun w s => ⟨(), rfl, s.res (List.nil_sublist _) (by simp)⟩
theorem refCut_s (b : B32) (n : Nat) (hn : n ≤ 256) : Spec Tryz.prog 81 [.agg b.cells.toArray, .int .i64 (n : Int)].toArray [] [] (fun _ : Unit => .agg (cutB b n).cells.toArray) (fun _ => []) := by
 refine spec_of Tryz.func81 rfl (n := 8) rfl rfl ?_
 intro W
 refine yR ?_
 refine h_opX (x_box rfl) fun g2 => ?_
 refine h_opX (x_alloc) fun g4 => ?_
 refine yN ?_
 refine yR ?_
 refine h_op (r_loadr rfl) ?_
 refine yM rfl ?_
 refine h_call ((Prefix_s b n hn).comes) rfl rfl rfl fun _ => ?_
 refine h_opS (s_storer rfl rfl) ?_
 refine yN ?_
 refine h_ret ?_
 exact h_ret1 rfl (rv_row rfl) fun w s => ⟨(), rfl, s.res (List.nil_sublist _) (by simp)⟩
theorem refSum5_s (n : Nat) (hn : n ≤ 256) (l : List UInt8) (B : Option Addr) (c : Nat) (hB : B = none → l.length = 0 ∧ c = 0) (hl : l.length ≤ 100000000000) : Spec Tryz.prog 27 [.int .i64 (n : Int), .slice B l.length c].toArray [.rd B (bc l)] [] (fun _ : Unit => .agg (sumB n l).cells.toArray) (fun _ => []) := by
 refine spec_of Tryz.func27 rfl (n := 9) rfl rfl ?_
 intro W
 refine yR ?_
 refine h_opX (x_alloc) fun g4 => ?_
 refine yN ?_
 refine yR ?_
 refine yM rfl ?_
 refine h_call ((refSum_s l B c hB hl).comes) rfl rfl rfl fun _ => ?_
 refine yM rfl ?_
 refine h_call ((refCut_s (sha l) n hn).comes) rfl rfl rfl fun _ => ?_
 change H _ _ _ _ ((_, .agg (sumB n l).cells.toArray) :: _) _ _
 refine h_opS (s_storer rfl rfl) ?_
 refine yN ?_
 refine h_ret ?_
 exact h_ret1 rfl (rv_row rfl) fun w s => ⟨(), rfl, s.res (List.nil_sublist _) (by simp)⟩
theorem Right_yes (n : Nat) (hn : n ≤ 256) : Spec Tryz.prog 26 [.int .i64 (n : Int)].toArray [] [] (fun _ : Unit => .bool true) (fun _ => []) := by
 refine spec_of Tryz.func26 rfl (n := 9) rfl rfl ?_
 intro W
 refine yR ?_
 refine yS rfl ?_
 refine yN ?_
 refine yR ?_
 refine yM rfl ?_
 refine h_op (r_bool (r_geq rfl rfl) (decide_eq_true (by omega))) ?_
 refine yM rfl ?_
 refine yM rfl ?_
 refine h_op (r_bool (r_leq rfl rfl) (decide_eq_true (by omega))) ?_
 refine h_op (r_pick rfl rfl) ?_
 refine yS rfl ?_
 refine yN ?_
 refine h_ret ?_
 exact h_ret1 rfl rfl fun w s => ⟨(), rfl, s.res (List.nil_sublist _) (by simp)⟩
theorem Right_no (i : Int) (h : ¬ (0 ≤ i ∧ i ≤ 256)) : Spec Tryz.prog 26 [.int .i64 i].toArray [] [] (fun _ : Unit => .bool false) (fun _ => []) := by
 refine spec_of Tryz.func26 rfl (n := 9) rfl rfl ?_
 intro W
 by_cases h0 : 0 ≤ i
 ·refine h_seq ?_
  refine h_reg ?_
  refine yS rfl ?_
  refine yN ?_
  refine yR ?_
  refine yM rfl ?_
  refine h_op (r_bool (r_geq rfl rfl) (decide_eq_true (by omega))) ?_
  refine yM rfl ?_
  refine yM rfl ?_
  refine h_op (r_bool (r_leq rfl rfl) (decide_eq_false (by omega))) ?_
  refine h_op (r_pick rfl rfl) ?_
  refine yS rfl ?_
  refine yN ?_
  refine h_ret ?_
  exact h_ret1 rfl rfl fun w s => ⟨(), rfl, s.res (List.nil_sublist _) (by simp)⟩
 ·refine h_seq ?_
  refine h_reg ?_
  refine yS rfl ?_
  refine yN ?_
  refine yR ?_
  refine yM rfl ?_
  refine h_op (r_bool (r_geq rfl rfl) (decide_eq_false (by omega))) ?_
  refine yM rfl ?_
  refine h_opOff ?_
  refine h_opOff ?_
  refine h_op (r_pick rfl rfl) ?_
  refine yS rfl ?_
  refine yN ?_
  refine h_ret ?_
  exact h_ret1 rfl rfl fun w s => ⟨(), rfl, s.res (List.nil_sublist _) (by simp)⟩
theorem New_s (n : Nat) (hn : n ≤ 256) : Spec Tryz.prog 71 [.int .i64 (n : Int)].toArray [] [] (fun u : Nat × Nat => .tuple #[.pointer (some ⟨u.1, 0, none⟩), .int .i64 0]) (fun u => [.blk u.1 [.pointer (some ⟨u.2, 0, none⟩), .int .i64 (n : Int)] 142, .blk u.2 [.int .i64 0] 144]) := by
 refine spec_of Tryz.func71 rfl (n := 15) rfl rfl ?_
 intro W
 refine yR ?_
 refine yS rfl ?_
 refine yS rfl ?_
 refine yN ?_
 refine h_seq ?_
 refine yR ?_
 refine yM rfl ?_
 refine h_op (r_bool (r_lss rfl rfl) (decide_eq_false (by omega))) ?_
 refine yM rfl ?_
 refine yM rfl ?_
 refine h_op (r_bool (r_gtr rfl rfl) (decide_eq_false (by omega))) ?_
 refine h_op (r_pick rfl rfl) ?_
 refine yN ?_
 refine h_condF rfl ?_
 refine h_skip ?_
 refine q_then ?_
 refine yR ?_
 refine h_op (r_build rfl) ?_
 refine h_opX (x_box rfl) fun g11 => ?_
 refine yM rfl ?_
 refine h_op (r_build rfl) ?_
 refine h_opX (x_box rfl) fun g14 => ?_
 refine yS rfl ?_
 refine yS rfl ?_
 refine yN ?_
 refine h_ret ?_
 exact h_ret2 rfl rfl rfl fun w s => ⟨(g14, g11), rfl, s.res (List.Sublist.refl _) (by simp [Fa.wr])⟩
theorem Hash_s (n : Nat) (hn : n ≤ 256) : Spec Tryz.prog 20 [.int .i64 (n : Int)].toArray [] [] (fun u : Nat × Nat => .pointer (some ⟨u.1, 0, none⟩)) (fun u => [.blk u.1 [.pointer (some ⟨u.2, 0, none⟩), .int .i64 (n : Int)] 142, .blk u.2 [.int .i64 0] 144]) := by
 refine spec_of Tryz.func20 rfl (n := 13) rfl rfl ?_
 intro W
 refine yR ?_
 refine yS rfl ?_
 refine yN ?_
 refine yR ?_
 refine yM rfl ?_
 refine h_call ((New_s n hn).comes) rfl rfl rfl fun ⟨gh, gc⟩ => ?_
 dsimp only
 refine yM rfl ?_
 refine h_op (r_extract rfl rfl) ?_
 refine h_op (r_extract rfl rfl) ?_
 refine yS rfl ?_
 refine yS rfl ?_
 refine yN ?_
 refine h_seq ?_
 refine yR ?_
 refine yM rfl ?_
 refine h_op (r_bool (r_neq rfl rfl) (show _ = false by decide)) ?_
 refine yN ?_
 refine h_condF rfl ?_
 refine h_skip ?_
 refine q_then ?_
 refine yR ?_
 refine yM rfl ?_
 refine yS rfl ?_
 refine yN ?_
 refine h_ret ?_
 exact h_ret1 rfl rfl fun w s => ⟨(gh, gc), rfl, s.res (List.Sublist.refl _) (by simp [Fa.wr])⟩
theorem HSum_s (n : Nat) (hn : n ≤ 256) (gh gc k : Nat) (hk : k ≤ 1000000000000) (l : List UInt8) (B : Option Addr) (c : Nat) (hB : B = none → l.length = 0 ∧ c = 0) (hl : l.length ≤ 100000000000) : Spec Tryz.prog 24 [.pointer (some ⟨gh, 0, none⟩), .slice B l.length c].toArray [.rd (some ⟨gh, 0, none⟩) [.pointer (some ⟨gc, 0, none⟩), .int .i64 (n : Int)], .rd B (bc l), .rd (some ⟨1, 0, none⟩) hashT] [.blk gc [.int .i64 (k : Int)] 144] (fun _ : Unit => .agg (sumB n l).cells.toArray) (fun _ => [.blk gc [.int .i64 ((k + 1 : Nat) : Int)] 144]) := by
 refine spec_of Tryz.func24 rfl (n := 25) rfl rfl ?_
 intro W
 refine yR ?_
 refine h_opX (x_alloc) fun g4 => ?_
 refine yN ?_
 refine h_seq ?_
 refine yR ?_
 refine yM rfl ?_
 refine h_op (r_nilR rfl rfl) ?_
 refine yN ?_
 refine h_condF rfl ?_
 refine h_skip ?_
 refine q_then ?_
 refine yR ?_
 refine yM rfl ?_
 refine h_op (r_nilc rfl) ?_
 refine h_op (r_field rfl) ?_
 refine h_op (r_loadc rfl) ?_
 refine h_op (r_nilc rfl) ?_
 refine h_op (r_field rfl) ?_
 refine h_op (r_loadc rfl) ?_
 refine h_op (r_int (r_add rfl rfl) (show _ = ((k + 1 : Nat) : Int) by omega)) ?_
 refine h_op (r_nilc rfl) ?_
 refine h_op (r_field rfl) ?_
 refine h_opS (s_store rfl rfl rfl) ?_
 refine yN ?_
 refine h_seq ?_
 refine ha_start [.rd (some ⟨gh, 0, none⟩) [.pointer (some ⟨gc, 0, none⟩), .int .i64 (n : Int)]] [] mixed (same) ?_
 refine ha_takeP 0 rfl (r_move rfl) ?_
 refine ha_takeP 2 rfl (r_move rfl) ?_
 refine ha_takeP 3 rfl (r_nilc rfl) ?_
 refine ha_takeP 4 rfl (r_field rfl) ?_
 refine ha_take 5 rfl (r_loadc rfl) ?_
 refine ha_one 1 ?_
 refine ho_C 1 rfl ((Sum_s l B c hB hl).comes) rfl rfl rfl (fun xx => same) fun _ => ?_
 refine ha_one 6 ?_
 refine ho_C 6 rfl ((Cut_s (sha l) n hn).comes) rfl rfl rfl (fun xx => same) fun _ => ?_
 refine ha_one 7 ?_
 refine ho_SL 7 rfl (s_storer rfl rfl) ?_
 refine q_then ?_
 change H _ _ _ _ _ (.blk g4 (sumB n l).cells _ :: _) _
 refine h_ret ?_
 exact h_ret1 rfl (rv_row rfl) fun w s => ⟨(), rfl, (same w s).res (List.Sublist.refl _) (by simp [Fa.wr])⟩
end Go.Proofs.YtjhocljhhpkiiaaGreatDoor
/- U11 -/
namespace Go.Proofs.YtjhocljhhpkiiaaGreatDoor
open Go.RowKit
section
variable {P : Program} {A : List Fa} {W : World} {n : Nat} {D : List Deferred} {E : Env} {L M : List Fa} {T : TypeId} {x y : Operand}
theorem r_cap {e size bytes : Nat} {z : Value} [E' : TS P T e size bytes z] {B : Option Addr} {N c : Nat} (hx : ev E x = some (.slice B N c)) : Runs0 P n D E L (.call { callee := .builtin .cap, args := #[x], argTypes := #[T] }) (.int .i64 (c : Int)) := fun a w ka s o ho => by
 unfold execOp
 simp [ho, resolve, invoke, builtin, ka.ev hx, Builtin.cap_, run_underlying E'.el.ht, goInt]
theorem x_appZ {t e xt size bytes N : Nat} {z : Value} {k : IntKind} [E' : TS P t e size bytes z] (hxt : P.underlying xt = some (.int k)) (hs : ev E x = some (.slice none 0 0)) (hx : ev E y = some (.int .i64 (N : Int))) (h0 : 0 < N) (hb : N * bytes ≤ 140737488355328 := by omega) :
  RunsX P A W n D E L (.call { callee := .builtin .append, args := #[x, y], argTypes := #[t, xt] }) (fun u : Nat × Nat => .slice (some ⟨u.1, 0, none⟩) N u.2) (fun u => .own (.slice (some ⟨u.1, 0, none⟩) N u.2) N e size ((List.range (N * size)).map fun i => z.cells[i % size]!) :: L) := fun a w ka s o hop => by
 obtain ⟨v', w', hrun, h2, h3, h4⟩ := xAppendZ hxt hop (ka.ev hs) (ka.ev hx) h0 hb (base := 0) (Nat.zero_le _)
 have hb2 : Below w.heap.size w w' := ⟨h3.os, h3.tape, h3.output, h3.size, fun k hk => h3.block k hk (by simp)⟩
 rcases h2.2 with ⟨rfl, h5⟩ | ⟨g, cap, cur, rfl, _⟩
 ·omega
 ·have hg : some g = some w.heap.size := h4
  injection hg with hg
  subst hg
  refine ⟨(w.heap.size, cap), w', hrun, (s.call hb2).cons h2 ?_ ?_⟩
  ·intro f hf _ k hk hk'
   have hk2 : some w.heap.size = some k := hk
   injection hk2 with hk2
   have := Fa.bound (s.ok f hf) hk'
   omega
  ·intro _ k hk
   have hk2 : some w.heap.size = some k := hk
   injection hk2 with hk2
   exact .inl (by have := s.size; omega)
end
theorem Sx.shrink {A : List Fa} {W w : World} {L M : List Fa} {g N c m e size : Nat} {xs : List Value} (s : Sx A W w L) [hd : TakeG g L N c e size xs M] (hm : m ≤ N) : Sx A W w (.own (.slice (some ⟨g, 0, none⟩) m c) m e size (xs.take (m * size)) :: M) := by
 have s2 := s.perm hd.perm
 have ho : w.ownsRow 0 e size (.slice (some ⟨g, 0, none⟩) N c) N xs := s2.ok (.own _ _ _ _ _) (List.mem_cons_self ..)
 obtain ⟨cur, hb, h3, h4, h5, h6⟩ := own_parts ho
 refine s2.turn rfl (fun k hk => .inl hk) (own_new hb ?_ (Nat.le_trans hm h3) h4 h5 ?_) rfl rfl rfl (Nat.le_refl _) fun _ _ _ => rfl
 ·rw [List.length_take, ho.1]
  exact Nat.min_eq_left (Nat.mul_le_mul_right _ hm)
 ·rw [← h6, List.take_take, Nat.min_eq_left (Nat.mul_le_mul_right _ hm)]
theorem GrowNil_s (N : Nat) (hN : N ≤ 100000000000) : Spec Tryz.prog 219 [.slice none 0 0, .int .i64 (N : Int)].toArray [] [] (fun u : Option Addr × Nat => .slice u.1 0 u.2) (fun u => [.own (.slice u.1 0 u.2) 0 5 1 (bc [])]) := by
 refine spec_of Tryz.func219 rfl (n := 27) rfl rfl ?_
 intro W
 refine yR ?_
 refine yS rfl ?_
 refine yN ?_
 refine h_seq ?_
 refine yR ?_
 refine yM rfl ?_
 refine h_op (r_bool (r_lss rfl rfl) (decide_eq_false (by omega))) ?_
 refine yN ?_
 refine h_condF rfl ?_
 refine h_skip ?_
 refine q_then ?_
 refine h_seq ?_
 refine yR ?_
 refine yM rfl ?_
 refine yM rfl ?_
 refine h_op (r_cap rfl) ?_
 refine yM rfl ?_
 refine h_op (r_len rfl) ?_
 refine h_op (r_sub rfl rfl) ?_
 refine h_op (r_int (r_sub rfl rfl) (show _ = (N : Int) by omega)) ?_
 refine yS rfl ?_
 refine yN ?_
 refine yR ?_
 refine yM rfl ?_
 refine h_op (r_gtr rfl rfl) ?_
 refine yN ?_
 refine h_cond rfl (fun h => ?_) (fun h => ?_)
 ·refine h_reg ?_
  refine yM rfl ?_
  refine yM rfl ?_
  refine h_op (r_cap rfl) ?_
  refine h_op (r_as (r_slH rfl rfl) (show _ = Value.slice none 0 0 from rfl)) ?_
  refine yM rfl ?_
  refine h_opX (x_appZ (N := N) Tryz.underlying3 rfl rfl (by omega)) fun ⟨g22, c22⟩ => ?_
  refine h_pure (φ := N ≤ c22) (fun w s => (s.ownLe (B := some ⟨g22, 0, none⟩) (N := N) (c := c22)).1) fun hc => ?_
  refine h_L (fun w s => s.shrink (g := g22) (m := 0) (Nat.zero_le _)) ?_
  rw [Nat.zero_mul, List.take_zero]
  refine yM rfl ?_
  refine h_op (r_len rfl) ?_
  refine h_op (r_as (r_slH rfl rfl) (show _ = Value.slice (some ⟨g22, 0, none⟩) 0 c22 by rw [cutA_lt (by omega)])) ?_
  refine yS rfl ?_
  refine yN ?_
  refine yR ?_
  refine yM rfl ?_
  refine yS rfl ?_
  refine yN ?_
  refine h_ret ?_
  exact h_ret1 rfl rfl fun w s => ⟨(some ⟨g22, 0, none⟩, c22), rfl, s.res (List.Sublist.refl _) (by simp [Fa.wr])⟩
 ·refine h_skip ?_
  refine q_then ?_
  refine yR ?_
  refine yM rfl ?_
  refine yS rfl ?_
  refine yN ?_
  refine h_ret ?_
  refine h_nil_own 5 1 (xs := bc []) rfl ?_
  exact h_ret1 rfl rfl fun w s => ⟨(none, 0), rfl, s.res (List.Sublist.refl _) (by simp [Fa.wr])⟩
abbrev Seg := Option Addr × Nat × List UInt8
def sv (x : Seg) : Value := .slice x.1 x.2.2.length x.2.1
def svs (xs : List Seg) : List Value := xs.map sv
def rdsOf : List Seg → List Fa
 | [] => []
 | x :: l => .rd x.1 (bc x.2.2) :: rdsOf l
theorem rdsOf_mem {xs : List Seg} {x : Seg} (h : x ∈ xs) : Fa.rd x.1 (bc x.2.2) ∈ rdsOf xs := by
 induction xs with
 | nil => cases h
 | cons y l ih => exact (List.mem_cons.1 h).elim (fun e => by rw [e]; exact List.mem_cons_self ..) fun e => List.mem_cons_of_mem _ (ih e)
instance (L : List Fa) : Rds L (rdsOf []) := ⟨fun _ _ h => (List.not_mem_nil h).elim⟩
instance (L : List Fa) (x : Seg) (xs : List Seg) [h : Rds L (.rd x.1 (bc x.2.2) :: rdsOf xs)] : Rds L (rdsOf (x :: xs)) := h
theorem rd1_mem {L : List Fa} {B : Option Addr} {cs : List Value} (h : Fa.rd B cs ∈ L) : Rd1 L (.rd B cs) := ⟨fun hw => ⟨rfl, hw.ok _ h, fun k hk => ⟨_, h, hk⟩⟩⟩
def segN (xs : List Seg) : Nat := (xs.map (·.2.2.length)).sum
def segB (xs : List Seg) : List UInt8 := xs.flatMap (·.2.2)
theorem segN_succ {xs : List Seg} {k : Nat} {x : Seg} (h : xs[k]? = some x) : segN (xs.take (k + 1)) = segN (xs.take k) + x.2.2.length := by
 unfold segN
 rw [List.take_add_one, h, List.map_append, List.sum_append]
 simp
theorem segN_le (xs : List Seg) (k : Nat) : segN (xs.take k) ≤ segN xs := by
 unfold segN
 conv => rhs; rw [← List.take_append_drop k xs, List.map_append, List.sum_append]
 omega
theorem segB_len (xs : List Seg) : (segB xs).length = segN xs := by
 unfold segB segN
 rw [List.length_flatMap]
theorem segB_succ {xs : List Seg} {k : Nat} {x : Seg} (h : xs[k]? = some x) : segB (xs.take (k + 1)) = segB (xs.take k) ++ x.2.2 := by
 unfold segB
 rw [List.take_add_one, h, List.flatMap_append]
 simp
theorem svs_len (xs : List Seg) : (svs xs).length = xs.length := by simp [svs]
theorem svs_get {xs : List Seg} {k : Nat} {x : Seg} (h : xs[k]? = some x) : (svs xs)[k]? = some (.slice x.1 x.2.2.length x.2.1) := by
 unfold svs
 rw [List.getElem?_map, h]
 rfl
theorem Fx.rdSome {w : World} {L : List Fa} {B : Option Addr} {cs : List Value} (h : Fx w (.rd B cs :: L)) (hc : 0 < cs.length) : ∃ b o, B = some ⟨b, o, none⟩ := by
 have h1 : Rd w B cs := h.ok (.rd B cs) (List.mem_cons_self ..)
 obtain ⟨b, o, e, _⟩ := h1 0 _ (List.getElem?_eq_getElem hc)
 exact ⟨b, o, e⟩
theorem Concat_s (xs : List Seg) (B : Option Addr) (cp : Nat) (hx : ∀ x ∈ xs, x.1 = none → x.2.2.length = 0 ∧ x.2.1 = 0) (hmax : segN xs ≤ 1000000000 ∧ xs.length ≤ 1000000000) : Spec Tryz.prog 195 [.slice B xs.length cp].toArray (.rd B (svs xs) :: rdsOf xs) [] (fun u : Option Addr × Nat => .slice u.1 (segB xs).length u.2) (fun u => [.own (.slice u.1 (segB xs).length u.2) (segB xs).length 5 1 (bc (segB xs))]) := by
 refine spec_of Tryz.func195 rfl (n := 36) rfl rfl ?_
 intro W
 refine yR ?_
 refine yS rfl ?_
 refine yN ?_
 refine yR ?_
 refine yS rfl ?_
 refine yN ?_
 refine h_seq ?_
 refine yR ?_
 refine yM rfl ?_
 refine h_op (r_len rfl) ?_
 refine yM rfl ?_
 refine yN ?_
 refine h_block ?_
 refine h_loop (fun (k : Nat) => k ≤ xs.length) (fun (k : Nat) => [(11, .int .i64 (k : Int)), (10, .int .i64 (xs.length : Int)), (9, .slice B xs.length cp), (3, .int .i64 ((segN (xs.take k) : Nat) : Int)), (0, .slice B xs.length cp)]) (fun (k : Nat) => .rd B (svs xs) :: rdsOf xs) (fun (k : Nat) => xs.length - k) 0 (Nat.zero_le _) ⟨rfl, rfl, rfl, rfl, rfl, trivial⟩ (fun _ s => s) ?_
 intro k hk
 have hle := segN_le xs k
 refine yR ?_
 refine h_op (r_lss rfl rfl) ?_
 refine yN ?_
 refine h_seq ?_
 refine h_cond rfl (fun h => ?_) (fun h => ?_)
 ·have hlt : k < xs.length := by omega
  obtain ⟨x, hxk⟩ : ∃ x, xs[k]? = some x := ⟨xs[k], by simp [hlt]⟩
  have hs := segN_succ hxk
  have hle2 := segN_le xs (k + 1)
  refine h_pure (φ := ∃ b o, B = some ⟨b, o, none⟩) (fun w s => s.toFx.rdSome (by rw [svs_len]; omega)) ?_
  rintro ⟨b, o, rfl⟩
  refine h_skip ?_
  refine q_then ?_
  refine h_seq ?_
  refine h_block ?_
  refine yR ?_
  refine h_op (r_idx rfl rfl) ?_
  refine h_op (r_nth rfl (svs_get hxk)) ?_
  refine yS rfl ?_
  refine yN ?_
  refine yR ?_
  refine yM rfl ?_
  refine yM rfl ?_
  refine h_op (r_len rfl) ?_
  refine h_op (r_add rfl rfl) ?_
  refine yS rfl ?_
  refine yN ?_
  refine yR ?_
  refine yM rfl ?_
  refine h_op (r_lss rfl rfl) ?_
  refine yN ?_
  refine h_no rfl (by omega) ?_
  refine h_skip ?_
  refine q_block ?_
  refine q_then ?_
  refine h_reg ?_
  refine h_op (r_add rfl rfl) ?_
  refine yM rfl ?_
  refine h_nil ?_
  exact h_back (k + 1) (by omega) (by omega) ⟨rfl, rfl, rfl, aI rfl (by rw [hs]; omega), rfl, trivial⟩ (fun _ s => s)
 ·obtain rfl : k = xs.length := by omega
  rw [List.take_length]
  refine h_exit ?_
  refine q_thenE ?_
  refine q_thenE ?_
  refine q_blockE ?_
  refine q_then ?_
  refine yR ?_
  refine yM rfl ?_
  refine h_call ((GrowNil_s (segN xs) (by omega)).comes) rfl rfl rfl fun ⟨A24, c24⟩ => ?_
  dsimp only
  refine yS rfl ?_
  refine yN ?_
  refine h_seq ?_
  refine yR ?_
  refine yM rfl ?_
  refine h_op (r_len rfl) ?_
  refine yM rfl ?_
  refine yN ?_
  refine h_block ?_
  refine h_loop (fun (s : Nat × Option Addr × Nat) => s.1 ≤ xs.length) (fun (s : Nat × Option Addr × Nat) => [(27, .int .i64 (s.1 : Int)), (26, .int .i64 (xs.length : Int)), (25, .slice B xs.length cp), (6, .slice s.2.1 (segB (xs.take s.1)).length s.2.2)]) (fun (s : Nat × Option Addr × Nat) => .own (.slice s.2.1 (segB (xs.take s.1)).length s.2.2) (segB (xs.take s.1)).length 5 1 (bc (segB (xs.take s.1))) :: .rd B (svs xs) :: rdsOf xs) (fun (s : Nat × Option Addr × Nat) => xs.length - s.1) (0, A24, c24) ((show 0 ≤ xs.length from Nat.zero_le _)) ⟨rfl, rfl, rfl, rfl, trivial⟩ (fun _ s => s) ?_
  rintro ⟨k, B', c'⟩ hk
  dsimp only at hk ⊢
  have hle := segN_le xs k
  refine yR ?_
  refine h_op (r_lss rfl rfl) ?_
  refine yN ?_
  refine h_seq ?_
  refine h_cond rfl (fun h => ?_) (fun h => ?_)
  ·have hlt : k < xs.length := by omega
   obtain ⟨x, hxk⟩ : ∃ x, xs[k]? = some x := ⟨xs[k], by simp [hlt]⟩
   have hs := segN_succ hxk
   have hle2 := segN_le xs (k + 1)
   have hsb := segB_succ hxk
   have hbl := segB_len (xs.take k)
   have hbl2 : (segB (xs.take (k + 1))).length = (segB (xs.take k)).length + x.2.2.length := by rw [hsb, List.length_append]
   have hxm := List.mem_of_getElem? hxk
   refine h_pure (φ := ∃ b o, B = some ⟨b, o, none⟩) (fun w s => s.tail.toFx.rdSome (by rw [svs_len]; omega)) ?_
   rintro ⟨b, o, rfl⟩
   refine h_skip ?_
   refine q_then ?_
   refine h_seq ?_
   refine h_block ?_
   refine yR ?_
   refine h_op (r_idx rfl rfl) ?_
   refine h_op (r_nth rfl (svs_get hxk)) ?_
   refine yS rfl ?_
   refine yN ?_
   refine h_reg ?_
   refine yM rfl ?_
   refine yM rfl ?_
   refine h_opX (x_appAB rfl rfl (hx x hxm) rfl (hr := rd1_mem (List.mem_cons_of_mem _ (rdsOf_mem hxm))) (hN := hbl2.symm)) fun ⟨A33, c33⟩ => ?_
   refine yS rfl ?_
   refine h_nil ?_
   refine q_block ?_
   refine q_then ?_
   refine h_reg ?_
   refine h_op (r_add rfl rfl) ?_
   refine yM rfl ?_
   refine h_nil ?_
   rw [← hsb]
   exact h_back (k + 1, A33, c33) ((show k + 1 ≤ xs.length by omega)) ((show xs.length - (k + 1) < xs.length - k by omega)) ⟨rfl, rfl, rfl, rfl, trivial⟩ (fun _ s => s)
  ·obtain rfl : k = xs.length := by omega
   rw [List.take_length]
   refine h_exit ?_
   refine q_thenE ?_
   refine q_thenE ?_
   refine q_blockE ?_
   refine q_then ?_
   refine yR ?_
   refine yM rfl ?_
   refine yS rfl ?_
   refine yN ?_
   refine h_ret ?_
   exact h_ret1 rfl rfl fun w s => ⟨(B', c'), rfl, s.res ((List.nil_sublist _).cons_cons _) (by simp [Fa.wr])⟩
end Go.Proofs.YtjhocljhhpkiiaaGreatDoor
/- U12 -/
namespace Go.Proofs.YtjhocljhhpkiiaaGreatDoor
open Go.RowKit
def preL (l : Leaf) : List UInt8 := 0 :: (l.key.1 ++ l.value.1)
def preN (a b : B32) : List UInt8 := 1 :: (a.1 ++ b.1)
def preE : List UInt8 := [3]
theorem preL_len (l : Leaf) : (preL l).length = 65 := by have := l.key.2; have := l.value.2; simp [preL]; omega
theorem preN_len (a b : B32) : (preN a b).length = 65 := by have := a.2; have := b.2; simp [preN]; omega
theorem x_bslV {P : Program} {A : List Fa} {W : World} {n : Nat} {D : List Deferred} {E : Env} {L : List Fa} {t e m bytes : Nat} {z : Value} [E' : TS P t e 1 bytes z] {l : List (Nat × Operand)} (xs : List Value) {ys : List Value} (hv : evp E l = some (idxd 0 ys)) (he : ys = xs) (h1 : ∀ v ∈ xs, v.oneCell' = true) (hm : xs.length = m := by rfl) (h0 : 0 < m ∧ m * 1 ≤ 16777216 := by decide) :
  RunsX P A W n D E L (.buildSlice t m l.toArray) (fun g : Nat => .slice (some ⟨g, 0, none⟩) m m) (fun g => .own (.slice (some ⟨g, 0, none⟩) m m) m e 1 xs :: L) := by
 subst he
 exact x_bsl (E' := E') hv (by rw [idxd_len, hm]) (hf := parts_idxd _ 0 h1) (ho := ⟨hm, h1⟩) (Nat.mul_one _) h0
theorem svs_one (xs : List Seg) : ∀ v ∈ svs xs, v.oneCell' = true := by
 intro v hv
 obtain ⟨x, _, rfl⟩ := List.mem_map.1 hv
 rfl
theorem rds_nil {M : List Fa} : Rds M (.rd none (svs []) :: rdsOf []) := inferInstanceAs (Rds M [.rd none []])
theorem rds2 {L : List Fa} {B A1 A2 : Option Addr} {n1 n2 : Nat} {l1 l2 : List UInt8} {c1 c2 : List Value} (e1 : c1 = bc l1) (e2 : c2 = bc l2) [h0 : Rd1 L (.rd B (svs [(A1, n1, l1), (A2, n2, l2)]))] [h1 : Rd1 L (.rd A1 c1)] [h2 : Rd1 L (.rd A2 c2)] : Rds L (.rd B (svs [(A1, n1, l1), (A2, n2, l2)]) :: rdsOf [(A1, n1, l1), (A2, n2, l2)]) := by
 subst e1 e2
 exact inferInstanceAs (Rds L [.rd B (svs [(A1, n1, l1), (A2, n2, l2)]), .rd A1 (bc l1), .rd A2 (bc l2)])
theorem rds_wr (xs : List Seg) (B : Option Addr) : ∀ r ∈ Fa.rd B (svs xs) :: rdsOf xs, r.wr = false := by
 intro r hr
 rcases List.mem_cons.1 hr with rfl | hr
 ·rfl
 ·induction xs with
  | nil => cases hr
  | cons x l ih => rcases List.mem_cons.1 hr with rfl | h; rfl; exact ih (List.mem_cons_of_mem _ h) h
theorem build_s (t : UInt8) (xs : List Seg) (B : Option Addr) (cp : Nat) (hx : ∀ x ∈ xs, x.1 = none → x.2.2.length = 0 ∧ x.2.1 = 0) (hmax : segN xs ≤ 1000000000 ∧ xs.length ≤ 1000000000) : Spec Tryz.prog 149 [.int .u8 (t.toNat : Int), .slice B xs.length cp].toArray (.rd B (svs xs) :: rdsOf xs) [] (fun u : Nat × Nat => .slice (some ⟨u.1, 0, none⟩) (t :: segB xs).length u.2) (fun u => [.own (.slice (some ⟨u.1, 0, none⟩) (t :: segB xs).length u.2) (t :: segB xs).length 5 1 (bc (t :: segB xs))]) := by
 have hl := segB_len xs
 refine spec_of Tryz.func149 rfl (n := 10) rfl rfl ?_
 intro W
 refine yR ?_
 refine yS rfl ?_
 refine yN ?_
 refine yR ?_
 refine yM rfl ?_
 refine h_opX (x_bsl rfl rfl) fun g6 => ?_
 refine yM rfl ?_
 change H _ _ _ _ _ (.own (.slice (some ⟨g6, 0, none⟩) 1 1) 1 5 1 (bc [t]) :: .rd B (svs xs) :: rdsOf xs) _
 refine h_call ((Concat_s xs B cp hx hmax).comes (hr := ⟨fun hw r hr => ⟨(rds_wr xs B r hr), hw.ok r (List.mem_cons_of_mem _ hr), fun k hk => ⟨r, List.mem_cons_of_mem _ hr, hk⟩⟩⟩)) rfl rfl rfl fun ⟨A8, c8⟩ => ?_
 dsimp only
 refine h_pure (φ := A8 = none → (segB xs).length = 0 ∧ c8 = 0) (fun w s => (s.ownLe (B := A8) (N := (segB xs).length) (c := c8)).2.2) fun hA => ?_
 refine h_opX (x_appAB rfl rfl hA rfl (hN := Nat.add_comm _ _)) fun ⟨A9, c9⟩ => ?_
 refine h_pure (φ := ∃ g, A9 = some ⟨g, 0, none⟩) (fun w s => s.ownSome (N := (segB xs).length + 1) (c := c9) (by omega)) ?_
 rintro ⟨g, rfl⟩
 refine yS rfl ?_
 refine yN ?_
 refine h_ret ?_
 exact h_ret1 rfl rfl fun w s => ⟨(g, c9), rfl, s.res ((List.nil_sublist _).cons_cons _) (by simp [Fa.wr])⟩
theorem pEmpty_s : Spec Tryz.prog 96 ([] : List Value).toArray [] [] (fun u : Nat × Nat => .slice (some ⟨u.1, 0, none⟩) 1 u.2) (fun u => [.own (.slice (some ⟨u.1, 0, none⟩) 1 u.2) 1 5 1 (bc preE)]) := by
 refine spec_of Tryz.func96 rfl (n := 2) rfl rfl ?_
 intro W
 refine yR ?_
 refine yS rfl ?_
 refine yN ?_
 refine yR ?_
 refine h_call ((build_s 3 [] none 0 (fun _ h => (List.not_mem_nil h).elim) (by decide)).comes (hr := rds_nil)) rfl rfl rfl fun ⟨g, c⟩ => ?_
 dsimp only
 refine yS rfl ?_
 refine yN ?_
 refine h_ret ?_
 exact h_ret1 rfl rfl fun w s => ⟨(g, c), rfl, s.res (List.Sublist.refl _) (by simp [Fa.wr])⟩
theorem pLeaf_s (l : Leaf) : Spec Tryz.prog 126 [.agg l.cells.toArray].toArray [] [] (fun u : Nat × Nat => .slice (some ⟨u.1, 0, none⟩) (preL l).length u.2) (fun u => [.own (.slice (some ⟨u.1, 0, none⟩) (preL l).length u.2) (preL l).length 5 1 (bc (preL l))]) := by
 have hk := l.key.2
 have hv := l.value.2
 have hseg : ∀ g : Nat, (0 : UInt8) :: segB [(some ⟨g, 0, none⟩, 32, l.key.1), (some ⟨g, 32, none⟩, 32, l.value.1)] = preL l := fun g => by simp [segB, preL]
 refine spec_of Tryz.func126 rfl (n := 9) rfl rfl ?_
 intro W
 refine yR ?_
 refine h_opX (x_box rfl) fun g1 => ?_
 refine yS rfl ?_
 refine yN ?_
 refine h_seq ?_
 refine ha_start [] [] mixed (same) ?_
 refine ha_takeP 0 rfl (r_field rfl) ?_
 refine ha_takeP 1 rfl (r_slA rfl) ?_
 refine ha_takeP 2 rfl (r_field rfl) ?_
 refine ha_takeP 3 rfl (r_slA rfl) ?_
 refine ha_one 4 ?_
 refine ho_X 4 rfl (rk (x_bslV (ys := [.slice (some ⟨g1, 0, none⟩) 32 32, .slice (some ⟨g1, 32, none⟩) 32 32]) (svs [(some ⟨g1, 0, none⟩, 32, l.key.1), (some ⟨g1, 32, none⟩, 32, l.value.1)]) rfl (by simp only [svs, sv, List.map_cons, List.map_nil, hk, hv]) (svs_one _))) (fun _ => same) fun g7 => ?_
 refine ha_one 5 ?_
 refine ho_C 5 rfl ((build_s 0 [(some ⟨g1, 0, none⟩, 32, l.key.1), (some ⟨g1, 32, none⟩, 32, l.value.1)] (some ⟨g7, 0, none⟩) 2 (by simp) (by simp [segN]; omega)).comes (hr := rds2 (c1 := l.key.cells) (c2 := l.value.cells) rfl rfl)) rfl rfl rfl (fun xx => same) fun ⟨g8, c8⟩ => ?_
 refine ha_takeP 6 rfl (r_assign rfl) ?_
 refine ha_done (by kernel_rfl) ?_
 refine q_then ?_
 dsimp only
 rw [hseg]
 refine h_ret ?_
 exact h_ret1 rfl rfl fun w s => ⟨(g8, c8), rfl, s.res ((List.nil_sublist _).cons_cons _) (by simp [Fa.wr])⟩
theorem pNode_s (a b : B32) : Spec Tryz.prog 127 [.agg a.cells.toArray, .agg b.cells.toArray].toArray [] [] (fun u : Nat × Nat => .slice (some ⟨u.1, 0, none⟩) (preN a b).length u.2) (fun u => [.own (.slice (some ⟨u.1, 0, none⟩) (preN a b).length u.2) (preN a b).length 5 1 (bc (preN a b))]) := by
 have hk := a.2
 have hv := b.2
 have hseg : ∀ g g' : Nat, (1 : UInt8) :: segB [(some ⟨g, 0, none⟩, 32, a.1), (some ⟨g', 0, none⟩, 32, b.1)] = preN a b := fun g g' => by simp [segB, preN]
 refine spec_of Tryz.func127 rfl (n := 9) rfl rfl ?_
 intro W
 refine yR ?_
 refine h_opX (x_box rfl) fun g2 => ?_
 refine h_opX (x_box rfl) fun g3 => ?_
 refine yS rfl ?_
 refine yN ?_
 refine h_seq ?_
 refine ha_start [] [] mixed (same) ?_
 refine ha_takeP 0 rfl (r_slA rfl) ?_
 refine ha_takeP 1 rfl (r_slA rfl) ?_
 refine ha_one 2 ?_
 refine ho_X 2 rfl (rk (x_bslV (ys := [.slice (some ⟨g2, 0, none⟩) 32 32, .slice (some ⟨g3, 0, none⟩) 32 32]) (svs [(some ⟨g2, 0, none⟩, 32, a.1), (some ⟨g3, 0, none⟩, 32, b.1)]) rfl (by simp only [svs, sv, List.map_cons, List.map_nil, hk, hv]) (svs_one _))) (fun _ => same) fun g7 => ?_
 refine ha_one 3 ?_
 refine ho_C 3 rfl ((build_s 1 [(some ⟨g2, 0, none⟩, 32, a.1), (some ⟨g3, 0, none⟩, 32, b.1)] (some ⟨g7, 0, none⟩) 2 (by simp) (by simp [segN]; omega)).comes (hr := rds2 (c1 := a.cells) (c2 := b.cells) rfl rfl)) rfl rfl rfl (fun xx => same) fun ⟨g8, c8⟩ => ?_
 refine ha_takeP 4 rfl (r_assign rfl) ?_
 refine ha_done (by kernel_rfl) ?_
 refine q_then ?_
 dsimp only
 rw [hseg]
 refine h_ret ?_
 exact h_ret1 rfl rfl fun w s => ⟨(g8, c8), rfl, s.res ((List.nil_sublist _).cons_cons _) (by simp [Fa.wr])⟩
end Go.Proofs.YtjhocljhhpkiiaaGreatDoor
/- U13 -/
namespace Go.Proofs.YtjhocljhhpkiiaaGreatDoor
open Go.RowKit
theorem snocB (t : List UInt8) (a : List UInt8) (k : Nat) (h : k < a.length) : (t ++ a.take k) ++ [UInt8.ofBitVec (a.getD k 0).toBitVec] = t ++ a.take (k + 1) := by
 rw [take_snoc (d := 0) h, List.append_assoc]
theorem two_s (t : UInt8) (a b : B32) : Spec Tryz.prog 119 [.int .u8 (t.toNat : Int), .agg a.cells.toArray, .agg b.cells.toArray].toArray [] [] (fun u : Nat × Nat => .slice (some ⟨u.1, 0, none⟩) 65 u.2) (fun u => [.own (.slice (some ⟨u.1, 0, none⟩) 65 u.2) 65 5 1 (bc (t :: (a.1 ++ b.1)))]) := by
 have ha := a.2
 have hb := b.2
 refine spec_of Tryz.func119 rfl (n := 33) rfl rfl ?_
 intro W
 refine yR ?_
 refine h_opX (x_box rfl) fun g4 => ?_
 refine h_opX (x_box rfl) fun g5 => ?_
 refine yS rfl ?_
 refine yN ?_
 refine yR ?_
 refine yM rfl ?_
 refine h_opX (x_bsl rfl rfl) fun g11 => ?_
 refine yS rfl ?_
 refine yN ?_
 refine h_seq ?_
 refine yR ?_
 refine yS rfl ?_
 refine yN ?_
 refine h_block ?_
 change H _ _ _ _ _ (.own (.slice (some ⟨g11, 0, none⟩) (1 + 0) 1) (1 + 0) _ _ (bc ([t] ++ a.1.take 0)) :: _) _
 refine h_loop (fun (s : Nat × Nat × Nat) => s.1 ≤ 32) (fun (s : Nat × Nat × Nat) => [(8, .int .i64 (s.1 : Int)), (7, .slice (some ⟨s.2.1, 0, none⟩) (1 + s.1) s.2.2), (4, .pointer (some ⟨g4, 0, none⟩)), (5, .pointer (some ⟨g5, 0, none⟩))]) (fun (s : Nat × Nat × Nat) => [.own (.slice (some ⟨s.2.1, 0, none⟩) (1 + s.1) s.2.2) (1 + s.1) 5 1 (bc ([t] ++ a.1.take s.1)), .blk g5 b.cells 34, .blk g4 a.cells 34]) (fun (s : Nat × Nat × Nat) => 32 - s.1) (0, g11, 1) ((show 0 ≤ 32 by omega)) ⟨rfl, rfl, rfl, rfl, trivial⟩ (same) ?_
 rintro ⟨k, g, c⟩ hk
 dsimp only at hk ⊢
 refine h_seq ?_
 refine yR ?_
 refine yM rfl ?_
 refine h_op (r_lss rfl rfl) ?_
 refine yN ?_
 refine h_cond rfl (fun h => ?_) (fun h => ?_)
 ·have hs := snocB [t] a.1 k (by omega)
  refine h_skip ?_
  refine q_then ?_
  refine h_seq ?_
  refine h_block ?_
  refine h_reg ?_
  refine yM rfl ?_
  refine yM rfl ?_
  refine h_op (r_idxA rfl rfl) ?_
  refine h_op (r_nth rfl (bc_at' (by omega))) ?_
  refine h_opX (x_bsl rfl rfl) fun g20 => ?_
  refine h_opX (x_app1B rfl rfl) fun ⟨g21, c21⟩ => ?_
  refine yS rfl ?_
  refine h_nil ?_
  refine q_block ?_
  refine q_then ?_
  refine h_reg ?_
  refine yM rfl ?_
  refine h_op (r_add rfl rfl) ?_
  refine yS rfl ?_
  refine h_nil ?_
  rw [hs]
  exact h_back (k + 1, g21, c21) ((show k + 1 ≤ 32 by omega)) ((show 32 - (k + 1) < 32 - k by omega)) ⟨rfl, rfl, rfl, rfl, trivial⟩ (same)
 ·obtain rfl : k = 32 := by omega
  refine h_exit ?_
  refine q_thenE ?_
  refine q_thenE ?_
  refine q_blockE ?_
  refine q_then ?_
  refine h_seq ?_
  refine yR ?_
  refine yS rfl ?_
  refine yN ?_
  refine h_block ?_
  rw [show [t] ++ a.1.take 32 = (t :: a.1) ++ b.1.take 0 by rw [List.take_of_length_le (by omega)]; simp]
  change H _ _ _ _ _ (.own (.slice (some ⟨g, 0, none⟩) (33 + 0) c) (33 + 0) _ _ _ :: _) _
  refine h_loop (fun (s : Nat × Nat × Nat) => s.1 ≤ 32) (fun (s : Nat × Nat × Nat) => [(9, .int .i64 (s.1 : Int)), (7, .slice (some ⟨s.2.1, 0, none⟩) (33 + s.1) s.2.2), (5, .pointer (some ⟨g5, 0, none⟩))]) (fun (s : Nat × Nat × Nat) => [.own (.slice (some ⟨s.2.1, 0, none⟩) (33 + s.1) s.2.2) (33 + s.1) 5 1 (bc ((t :: a.1) ++ b.1.take s.1)), .blk g5 b.cells 34]) (fun (s : Nat × Nat × Nat) => 32 - s.1) (0, g, c) ((show 0 ≤ 32 by omega)) ⟨rfl, rfl, rfl, trivial⟩ (same) ?_
  rintro ⟨k, g, c⟩ hk
  dsimp only at hk ⊢
  refine h_seq ?_
  refine yR ?_
  refine yM rfl ?_
  refine h_op (r_lss rfl rfl) ?_
  refine yN ?_
  refine h_cond rfl (fun h => ?_) (fun h => ?_)
  ·have hs := snocB (t :: a.1) b.1 k (by omega)
   refine h_skip ?_
   refine q_then ?_
   refine h_seq ?_
   refine h_block ?_
   refine h_reg ?_
   refine yM rfl ?_
   refine yM rfl ?_
   refine h_op (r_idxA rfl rfl) ?_
   refine h_op (r_nth rfl (bc_at' (by omega))) ?_
   refine h_opX (x_bsl rfl rfl) fun g30 => ?_
   refine h_opX (x_app1B rfl rfl) fun ⟨g31, c31⟩ => ?_
   refine yS rfl ?_
   refine h_nil ?_
   refine q_block ?_
   refine q_then ?_
   refine h_reg ?_
   refine yM rfl ?_
   refine h_op (r_add rfl rfl) ?_
   refine yS rfl ?_
   refine h_nil ?_
   rw [hs]
   exact h_back (k + 1, g31, c31) ((show k + 1 ≤ 32 by omega)) ((show 32 - (k + 1) < 32 - k by omega)) ⟨rfl, rfl, rfl, trivial⟩ (same)
  ·obtain rfl : k = 32 := by omega
   rw [show (t :: a.1) ++ b.1.take 32 = t :: (a.1 ++ b.1) by rw [List.take_of_length_le (by omega)]; simp]
   refine h_exit ?_
   refine q_thenE ?_
   refine q_thenE ?_
   refine q_blockE ?_
   refine q_then ?_
   refine yR ?_
   refine yM rfl ?_
   refine yS rfl ?_
   refine yN ?_
   refine h_ret ?_
   exact h_ret1 rfl rfl fun w s => ⟨(g, c), rfl, s.res ((List.nil_sublist _).cons_cons _) (by simp [Fa.wr])⟩
theorem rLeaf_s (l : Leaf) : Spec Tryz.prog 66 [.agg l.cells.toArray].toArray [] [] (fun u : Nat × Nat => .slice (some ⟨u.1, 0, none⟩) (preL l).length u.2) (fun u => [.own (.slice (some ⟨u.1, 0, none⟩) (preL l).length u.2) (preL l).length 5 1 (bc (preL l))]) := by
 rw [preL_len]
 refine spec_of Tryz.func66 rfl (n := 8) rfl rfl ?_
 intro W
 refine yR ?_
 refine h_opX (x_box rfl) fun g1 => ?_
 refine yS rfl ?_
 refine yN ?_
 refine yR ?_
 refine h_op (r_field rfl) ?_
 refine h_op (r_loadr rfl) ?_
 refine h_op (r_field rfl) ?_
 refine h_op (r_loadr rfl) ?_
 refine h_call ((two_s 0 l.key l.value).comes) rfl rfl rfl fun ⟨g, c⟩ => ?_
 dsimp only
 refine yS rfl ?_
 refine yN ?_
 refine h_ret ?_
 exact h_ret1 rfl rfl fun w s => ⟨(g, c), rfl, s.res ((List.nil_sublist _).cons_cons _) (by simp [Fa.wr])⟩
theorem rNode_s (a b : B32) : Spec Tryz.prog 75 [.agg a.cells.toArray, .agg b.cells.toArray].toArray [] [] (fun u : Nat × Nat => .slice (some ⟨u.1, 0, none⟩) (preN a b).length u.2) (fun u => [.own (.slice (some ⟨u.1, 0, none⟩) (preN a b).length u.2) (preN a b).length 5 1 (bc (preN a b))]) := by
 rw [preN_len]
 refine spec_of Tryz.func75 rfl (n := 8) rfl rfl ?_
 intro W
 refine yR ?_
 refine h_opX (x_box rfl) fun g2 => ?_
 refine h_opX (x_box rfl) fun g3 => ?_
 refine yS rfl ?_
 refine yN ?_
 refine yR ?_
 refine h_op (r_loadr rfl) ?_
 refine h_op (r_loadr rfl) ?_
 refine h_call ((two_s 1 a b).comes) rfl rfl rfl fun ⟨g, c⟩ => ?_
 dsimp only
 refine yS rfl ?_
 refine yN ?_
 refine h_ret ?_
 exact h_ret1 rfl rfl fun w s => ⟨(g, c), rfl, s.res ((List.nil_sublist _).cons_cons _) (by simp [Fa.wr])⟩
theorem rEmpty_s (n : Nat) (hn : n ≤ 256) : Spec Tryz.prog 80 [.int .i64 (n : Int)].toArray [] [] (fun _ : Unit => .agg (sumB n preE).cells.toArray) (fun _ => []) := by
 refine spec_of Tryz.func80 rfl (n := 6) rfl rfl ?_
 intro W
 refine yR ?_
 refine h_opX (x_alloc) fun g2 => ?_
 refine yN ?_
 refine yR ?_
 refine yM rfl ?_
 refine h_opX (x_bsl rfl rfl) fun g4 => ?_
 change H _ _ _ _ _ (.own (.slice (some ⟨g4, 0, none⟩) 1 1) 1 _ _ (bc preE) :: _) _
 refine h_call ((refSum5_s n hn preE (some ⟨g4, 0, none⟩) 1 (fun h => by cases h) (by decide)).comes) rfl rfl rfl fun _ => ?_
 refine h_opS (s_storer rfl rfl) ?_
 refine yN ?_
 refine h_ret ?_
 exact h_ret1 rfl (rv_row rfl) fun w s => ⟨(), rfl, s.res (List.nil_sublist _) (by simp)⟩
theorem Rd.some {w : World} {B : Option Addr} {cs : List Value} (h : Rd w B cs) (hc : 0 < cs.length) : ∃ b o, B = some ⟨b, o, none⟩ := by
 obtain ⟨b, o, e, _⟩ := h 0 _ (List.getElem?_eq_getElem hc)
 exact ⟨b, o, e⟩
end Go.Proofs.YtjhocljhhpkiiaaGreatDoor
