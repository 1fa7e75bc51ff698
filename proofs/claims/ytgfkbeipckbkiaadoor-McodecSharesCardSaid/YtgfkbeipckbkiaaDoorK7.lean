/- Rotations; the padding; The reference's padding and schedule; The reference's schedule; The reference's sum; The program's compression; The program's sum (joined texts: U1 U2 U3 U4 U5 U6) -/
import Derived.Test.YtgfkbeipckbkiaaDoorK6
set_option linter.all false
/- U1 -/
namespace Go.Proofs.YtgfkbeipckbkiaaDoor
set_option linter.unusedSimpArgs false
set_option linter.unusedVariables false
open Go.RowKit
section
variable {P : Program} {n : Nat} {D : List Deferred} {E : Env} {L : List Fa} {T T' : TypeId} {x y : Operand} {k : IntKind} {i j : Int} {m : Nat}
theorem r_subU {p q : Nat} [hk : UK k m] (hx : ev E x = some (.int k i)) (hy : ev E y = some (.int k j)) [ha : NatOf i p] [hb : NatOf j q] (h : q ≤ p ∧ p < 2 ^ m) : Runs0 P n D E L (.binOp .sub T x y T') (.int k ((p - q : Nat) : Int)) := fun c w ka s o ho => by
  obtain rfl := ha.eq
  obtain rfl := hb.eq
  refine run_bin ho (ka.ev hx) (ka.ev hy) (by cases k <;> rfl) ?_
  have e : binOp .sub T (.int k (p : Int)) (.int k (q : Int)) = Op.intArith .sub k p q := by simp [binOp]
  rw [e]
  simp only [Op.intArith, hk.wrap]
  rw [Int.emod_eq_of_lt (by omega) (by have h2 := h.2; have : ((p : Nat) : Int) < ((2 ^ m : Nat) : Int) := by exact_mod_cast h2
                                       push_cast at this; omega)]
  rw [Int.ofNat_sub h.1]
  rfl
end
theorem rot_and (n : Nat) (h : 1 ≤ n ∧ n ≤ 31) : (((BitVec.ofInt 64 (-(n : Int))) &&& BitVec.ofNat 64 31).toNat : Int) = ((32 - n : Nat) : Int) := by
  have key : ∀ k : Fin 32, 1 ≤ k.val → ((BitVec.ofInt 64 (-(k.val : Int))) &&& BitVec.ofNat 64 31).toNat = 32 - k.val := by decide +kernel
  have := key ⟨n, by omega⟩ h.1
  simp only at this
  rw [this]
theorem rot_eq (x : W32) (n : Nat) (h : 1 ≤ n ∧ n ≤ 31) : (x <<< (32 - n)) ||| (x >>> (32 - (32 - n))) = rotr x n := by
  rw [show 32 - (32 - n) = n by omega, BitVec.or_comm]; rfl
theorem Rot_s (x : W32) (n : Nat) (h : 1 ≤ n ∧ n ≤ 31) : Spec Tryd.prog 114 [.int .u32 (x.toNat : Int), .int .i64 (-(n : Int))].toArray [] [] (fun _ : Unit => .int .u32 ((rotr x n).toNat : Int)) (fun _ => []) := by
  refine spec_of Tryd.func114 rfl (n := 17) rfl rfl ?_
  intro W
  refine h_seq ?_
  refine h_reg ?_
  refine h_op (r_assign rfl) ?_
  refine h_nil ?_
  refine q_then ?_
  refine h_seq ?_
  refine h_reg ?_
  refine h_op (r_move rfl) ?_
  refine h_op (r_cI rfl) ?_
  refine h_op (r_int (r_and rfl rfl) (rot_and n h)) ?_
  refine h_op (r_assign rfl) ?_
  refine h_nil ?_
  refine q_then ?_
  refine h_seq ?_
  refine h_reg ?_
  refine h_op (r_move rfl) ?_
  refine h_op (r_move rfl) ?_
  refine h_op (r_shl rfl rfl) ?_
  refine h_op (r_move rfl) ?_
  refine h_op (r_move rfl) ?_
  refine h_op (r_subU rfl rfl ⟨by omega, by omega⟩) ?_
  refine h_op (r_shr rfl rfl) ?_
  refine h_op (r_or rfl rfl) ?_
  refine h_op (r_assign rfl) ?_
  refine h_nil ?_
  refine q_then ?_
  refine h_ret ?_
  exact h_ret1 rfl rfl fun w s => ⟨(), by rw [← rot_eq x n h], s.res (List.Sublist.refl _) (by simp)⟩
theorem turn_s (x : W32) (n : Nat) (h : 1 ≤ n ∧ n ≤ 31) : Spec Tryd.prog 90 [.int .u32 (x.toNat : Int), .int .u64 (n : Int)].toArray [] [] (fun _ : Unit => .int .u32 ((rotr x n).toNat : Int)) (fun _ => []) := by
  refine spec_of Tryd.func90 rfl (n := 13) rfl rfl ?_
  intro W
  refine h_seq ?_
  refine h_reg ?_
  refine h_op (r_assign rfl) ?_
  refine h_nil ?_
  refine q_then ?_
  refine h_seq ?_
  refine h_reg ?_
  refine h_op (r_move rfl) ?_
  refine h_op (r_move rfl) ?_
  refine h_op (r_shr rfl rfl) ?_
  refine h_op (r_move rfl) ?_
  refine h_op (r_move rfl) ?_
  refine h_op (r_subU rfl rfl ⟨by omega, by omega⟩) ?_
  refine h_op (r_shl rfl rfl) ?_
  refine h_op (r_or rfl rfl) ?_
  refine h_op (r_assign rfl) ?_
  refine h_nil ?_
  refine q_then ?_
  refine h_ret ?_
  exact h_ret1 rfl rfl fun w s => ⟨(), rfl, s.res (List.Sublist.refl _) (by simp)⟩
theorem right_s (x : W32) (l : List Nat) (hl : ∀ n ∈ l, 1 ≤ n ∧ n ≤ 31) (b o c : Nat) (hn : l.length ≤ 100) : Spec Tryd.prog 109 [.int .u32 (x.toNat : Int), .slice (some ⟨b, o, none⟩) l.length c].toArray [.rd (some ⟨b, o, none⟩) (ic l)] [] (fun _ : Unit => .int .u32 ((xorl x l).toNat : Int)) (fun _ => []) := by
  refine spec_of Tryd.func109 rfl (n := 22) rfl rfl ?_
  intro W
  refine h_seq ?_
  refine h_reg ?_
  refine h_op (r_assign rfl) ?_
  refine h_nil ?_
  refine q_then ?_
  refine h_seq ?_
  refine h_reg ?_
  refine h_op (r_assign rfl) ?_
  refine h_nil ?_
  refine q_then ?_
  refine h_seq ?_
  refine h_seq ?_
  refine h_reg ?_
  refine h_op (r_move rfl) ?_
  refine h_op (r_len rfl) ?_
  refine h_op (r_move rfl) ?_
  refine h_nil ?_
  refine q_then ?_
  refine h_block ?_
  refine h_loop (fun (k : Nat) => k ≤ l.length) (fun (k : Nat) => [(10, .int .i64 (k : Int)), (9, .int .i64 (l.length : Int)), (8, .slice (some ⟨b, o, none⟩) l.length c), (5, .int .u32 ((xorl x (l.take k)).toNat : Int)), (0, .int .u32 (x.toNat : Int))]) (fun (k : Nat) => [.rd (some ⟨b, o, none⟩) (ic l)]) (fun (k : Nat) => l.length - k) 0 (Nat.zero_le _) ⟨rfl, rfl, rfl, rfl, rfl, trivial⟩ (fun _ s => s) ?_
  intro k hk
  refine h_seq ?_
  refine h_reg ?_
  refine h_op (r_lss rfl rfl) ?_
  refine h_nil ?_
  refine q_then ?_
  refine h_seq ?_
  refine h_cond rfl (fun h => ?_) (fun h => ?_)
  · have hb := hl (l.getD k 0) (by rw [List.getD, List.getElem?_eq_getElem (by omega)]; exact List.getElem_mem _)
    refine h_skip ?_
    refine q_then ?_
    refine h_seq ?_
    refine h_block ?_
    refine h_seq ?_
    refine h_reg ?_
    refine h_op (r_idx rfl rfl) ?_
    refine h_op (r_nth rfl (ic_at (by omega))) ?_
    refine h_op (r_assign rfl) ?_
    refine h_nil ?_
    refine q_then ?_
    refine h_reg ?_
    refine h_op (r_move rfl) ?_
    refine h_op (r_move rfl) ?_
    refine h_op (r_move rfl) ?_
    refine h_op (r_neg rfl) ?_
    refine h_call ((Rot_s x (l.getD k 0) hb).comes) rfl rfl rfl fun _ => ?_
    refine h_op (r_xor rfl rfl) ?_
    refine h_op (r_assign rfl) ?_
    refine h_nil ?_
    refine q_block ?_
    refine q_then ?_
    refine h_reg ?_
    refine h_op (r_add rfl rfl) ?_
    refine h_op (r_move rfl) ?_
    refine h_nil ?_
    exact h_back (k + 1) (by omega) (by omega) ⟨rfl, rfl, rfl, by rw [xorl_step x (by omega)]; rfl, rfl, trivial⟩ (same)
  · refine h_exit ?_
    refine q_thenE ?_
    refine q_thenE ?_
    refine q_blockE ?_
    refine q_then ?_
    refine h_seq ?_
    refine h_reg ?_
    refine h_op (r_move rfl) ?_
    refine h_op (r_assign rfl) ?_
    refine h_nil ?_
    refine q_then ?_
    refine h_ret ?_
    obtain rfl : k = l.length := by omega
    exact h_ret1 rfl rfl fun w s => ⟨(), by rw [List.take_length], s.res (List.nil_sublist _) (by simp)⟩
theorem Blocks_s (m : Nat) (h : m ≤ 1000000000000) : Spec Tryd.prog 111 [.int .i64 (m : Int)].toArray [] [] (fun _ : Unit => .int .i64 (((m + 72) / 64 : Nat) : Int)) (fun _ => []) := by
  refine spec_of Tryd.func111 rfl (n := 13) rfl rfl ?_
  intro W
  refine h_seq ?_
  refine h_reg ?_
  refine h_op (r_assign rfl) ?_
  refine h_nil ?_
  refine q_then ?_
  refine h_seq ?_
  refine h_seq ?_
  refine h_reg ?_
  refine h_op (r_move rfl) ?_
  refine h_op (r_bool (r_lss rfl rfl) (decide_eq_false (by omega))) ?_
  refine h_op (r_move rfl) ?_
  refine h_op (r_move rfl) ?_
  refine h_op (r_bool (r_gtr rfl rfl) (decide_eq_false (by omega))) ?_
  refine h_op (r_pick rfl rfl) ?_
  refine h_nil ?_
  refine q_then ?_
  refine h_condF rfl ?_
  refine h_skip ?_
  refine q_then ?_
  refine h_seq ?_
  refine h_reg ?_
  refine h_op (r_move rfl) ?_
  refine h_op (r_add rfl rfl) ?_
  refine h_op (r_add rfl rfl) ?_
  refine h_op (r_int (r_quo rfl rfl) (show _ = (((m + 72) / 64 : Nat) : Int) by omega)) ?_
  refine h_op (r_assign rfl) ?_
  refine h_nil ?_
  refine q_then ?_
  refine h_ret ?_
  exact h_ret1 rfl rfl fun w s => ⟨(), rfl, s.res (List.Sublist.refl _) (by simp)⟩
theorem padZ_eq (l : List UInt8) : (l ++ (List.replicate (padN l.length) (0 : UInt8)).drop l.length).set l.length (UInt8.ofBitVec 128) = padZ l := by
  have h := padN_ge l.length
  unfold padZ
  generalize padN l.length = p at *
  rw [List.set_append_right _ _ (Nat.le_refl _), Nat.sub_self, List.drop_replicate]
  obtain ⟨q, hq⟩ : ∃ q, p - l.length = q + 1 := ⟨p - l.length - 1, by omega⟩
  rw [hq, List.replicate_succ, List.set_cons_zero]
  rfl
theorem lenB_eq (n i : Nat) (h : i ≤ 7) (hn : n ≤ 1000000000000) : UInt8.ofBitVec (((BitVec.ofNat 64 n * 8) >>> (8 * i)).setWidth 8) = lenB n (7 - i) := by
  unfold lenB
  rw [show 7 - (7 - i) = i by omega, show BitVec.ofNat 64 n * 8 = BitVec.ofNat 64 (8 * n) by rw [Nat.mul_comm, BitVec.ofNat_mul]; rfl]
theorem Pad_s (l : List UInt8) (A : Option Addr) (c : Nat) (hA : A = none → l.length = 0 ∧ c = 0) (hn : l.length ≤ 100000000000) : Spec Tryd.prog 105 [.slice A l.length c].toArray [.rd A (bc l)] [] (fun u : Nat × Nat => .slice (some ⟨u.1, 0, none⟩) (pad l).length u.2) (fun u => [.own (.slice (some ⟨u.1, 0, none⟩) (pad l).length u.2) (pad l).length 5 1 (bc (pad l))]) := by
  rw [← padI_8, padI_len]
  have hp : 64 * ((l.length + 72) / 64) = padN l.length := rfl
  have hp2 := padN_ge l.length
  have hp3 : padN l.length ≤ l.length + 72 := by unfold padN; omega
  have hz := padZ_eq l
  have h8 := padI_len l
  have hst : ∀ i, i < 8 → padI l (i + 1) = (padI l i).set (padN l.length - 1 - i) (lenB l.length (7 - i)) := fun i _ => by rw [padI]
  have h0 : padI l 0 = padZ l := rfl
  generalize padN l.length = p at *
  obtain ⟨q, hq⟩ : ∃ q, q = l ++ List.drop l.length (List.replicate p 0) := ⟨_, rfl⟩
  have hql : q.length = p := by rw [hq, List.length_append, List.length_drop, List.length_replicate]; omega
  rw [← hq] at hz
  refine spec_of Tryd.func105 rfl (n := 39) rfl rfl ?_
  intro W
  refine h_seq ?_
  refine h_reg ?_
  refine h_op (r_assign rfl) ?_
  refine h_nil ?_
  refine q_then ?_
  refine h_seq ?_
  refine h_reg ?_
  refine h_op (r_move rfl) ?_
  refine h_op (r_len rfl) ?_
  refine h_call ((Blocks_s l.length (by omega)).comes) rfl rfl rfl fun _ => ?_
  refine h_op (r_int (r_mul rfl rfl) (show _ = (p : Int) by omega)) ?_
  refine h_opX (x_makeB rfl rfl) fun g10 => ?_
  refine h_op (r_assign rfl) ?_
  refine h_nil ?_
  refine q_then ?_
  refine h_seq ?_
  refine h_reg ?_
  refine h_op (r_move rfl) ?_
  refine h_op (r_move rfl) ?_
  refine h_opX (x_copyB rfl rfl (fun e => (hA e).1) rfl) fun _ => ?_
  refine h_nil ?_
  refine q_then ?_
  refine h_seq ?_
  refine h_reg ?_
  refine h_op (r_move rfl) ?_
  refine h_op (r_move rfl) ?_
  refine h_op (r_len rfl) ?_
  rw [← hq]
  refine h_op (r_idx rfl rfl) ?_
  refine h_opS (s_setBO rfl rfl) ?_
  refine h_nil ?_
  refine q_then ?_
  refine h_seq ?_
  refine h_reg ?_
  refine h_op (r_move rfl) ?_
  refine h_op (r_len rfl) ?_
  refine h_op (r_cNW rfl) ?_
  refine h_op (r_mulW rfl rfl) ?_
  refine h_op (r_assign rfl) ?_
  refine h_nil ?_
  refine q_then ?_
  refine h_seq ?_
  refine h_seq ?_
  refine h_reg ?_
  refine h_op (r_move rfl) ?_
  refine h_nil ?_
  refine q_then ?_
  refine h_block ?_
  rw [hz]
  refine h_loop (fun (i : Nat) => i ≤ 8) (fun (i : Nat) => [(22, .int .i64 (i : Int)), (3, .slice (some ⟨g10, 0, none⟩) p p), (4, .int .u64 ((BitVec.ofNat 64 l.length * 8).toNat : Int))]) (fun (i : Nat) => [.own (.slice (some ⟨g10, 0, none⟩) p p) p 5 1 (bc (padI l i))]) (fun (i : Nat) => 8 - i) 0 (by omega) ⟨rfl, rfl, rfl, trivial⟩ (by rw [h0]; exact same) ?_
  intro i hi
  have hl := h8 i
  refine h_seq ?_
  refine h_reg ?_
  refine h_op (r_lss rfl rfl) ?_
  refine h_nil ?_
  refine q_then ?_
  refine h_seq ?_
  refine h_cond rfl (fun h => ?_) (fun h => ?_)
  · refine h_skip ?_
    refine q_then ?_
    refine h_seq ?_
    refine h_block ?_
    refine h_seq ?_
    refine h_reg ?_
    refine h_op (r_move rfl) ?_
    refine h_op (r_assign rfl) ?_
    refine h_nil ?_
    refine q_then ?_
    refine h_reg ?_
    refine h_op (r_move rfl) ?_
    refine h_op (r_move rfl) ?_
    refine h_op (r_len rfl) ?_
    refine h_op (r_subN rfl rfl) ?_
    refine h_op (r_move rfl) ?_
    refine h_op (r_subN rfl rfl) ?_
    refine h_op (r_move rfl) ?_
    refine h_op (r_move rfl) ?_
    refine h_op (r_mul rfl rfl) ?_
    refine h_op (r_shr rfl rfl) ?_
    refine h_op (r_cW rfl) ?_
    refine h_op (r_idx rfl rfl) ?_
    refine h_opS (s_setBO rfl rfl) ?_
    refine h_nil ?_
    refine q_block ?_
    refine q_then ?_
    rw [lenB_eq l.length i (by omega) (by omega), ← hst i (by omega)]
    refine h_reg ?_
    refine h_op (r_add rfl rfl) ?_
    refine h_op (r_move rfl) ?_
    refine h_nil ?_
    exact h_back (i + 1) (by omega) (by omega) ⟨rfl, rfl, rfl, trivial⟩ (same)
  · refine h_exit ?_
    refine q_thenE ?_
    refine q_thenE ?_
    refine q_blockE ?_
    refine q_then ?_
    refine h_seq ?_
    refine h_reg ?_
    refine h_op (r_move rfl) ?_
    refine h_op (r_assign rfl) ?_
    refine h_nil ?_
    refine q_then ?_
    refine h_ret ?_
    obtain rfl : i = 8 := by omega
    exact h_ret1 rfl rfl fun w s => ⟨(g10, p), rfl, s.res (List.Sublist.refl _) (by simp [Fa.wr])⟩
end Go.Proofs.YtgfkbeipckbkiaaDoor
/- U2 -/
namespace Go.Proofs.YtgfkbeipckbkiaaDoor
set_option linter.unusedSimpArgs false
set_option linter.unusedVariables false
open Go.RowKit
def idxd : Nat → List Value → List (Nat × Value)
  | _, [] => []
  | k, v :: l => (k, v) :: idxd (k + 1) l
theorem parts_idxd : ∀ (l : List Value) (k : Nat), (∀ v ∈ l, v.oneCell' = true) → Parts 1 k (idxd k l) l
  | [], k, _ => inferInstanceAs (Parts 1 k [] [])
  | v :: l, k, h => by
    have h1 : v.oneCell' = true := h v (by simp)
    have hv : VCells v [v] := ⟨by cases v <;> first | rfl | simp [Value.oneCell'] at h1⟩
    exact Parts.cons hv (row_one h1) (parts_idxd l (k + 1) fun u hu => h u (by simp [hu]))
theorem wc_one {m : Nat} (k : IntKind) (l : List (BitVec m)) : ∀ v ∈ wc k l, v.oneCell' = true := by
  intro v hv
  obtain ⟨x, _, rfl⟩ := List.mem_map.1 hv
  rfl
instance rowK64 : Row (wc .u32 K64) 64 := ⟨rfl, wc_one _ _⟩
theorem primes_parts : Parts 1 0 (idxd 0 (wc .u32 K64)) (wc .u32 K64) := parts_idxd _ 0 (wc_one _ _)
theorem primes_s : Spec Tryd.prog 87 ([] : List Value).toArray [] [] (fun g : Nat => .slice (some ⟨g, 0, none⟩) 64 64) (fun g => [.own (.slice (some ⟨g, 0, none⟩) 64 64) 64 142 1 (wc .u32 K64)]) := by
  refine spec_of Tryd.func87 rfl (n := 2) rfl rfl ?_
  intro W
  refine h_seq ?_
  refine h_reg ?_
  refine h_op (r_assign rfl) ?_
  refine h_nil ?_
  refine q_then ?_
  refine h_seq ?_
  refine h_reg ?_
  refine h_opX (x_bsl (ps := idxd 0 (wc .u32 K64)) rfl rfl (hf := primes_parts) (ho := rowK64)) fun g1 => ?_
  refine h_op (r_assign rfl) ?_
  refine h_nil ?_
  refine q_then ?_
  refine h_ret ?_
  exact h_ret1 rfl rfl fun w s => ⟨g1, rfl, s.res (List.Sublist.refl _) (by simp [Fa.wr])⟩
def padR (l : List UInt8) (k : Nat) : List UInt8 := (l ++ [128]) ++ List.replicate k 0
theorem padR_step (l : List UInt8) (k : Nat) : padR l k ++ [UInt8.ofBitVec 0] = padR l (k + 1) := by
  unfold padR
  rw [List.replicate_succ', List.append_assoc]
  rfl
def padJ (l : List UInt8) (j : Nat) : List UInt8 := padR l (padN l.length - l.length - 9) ++ (List.range j).map (lenB l.length)
theorem padJ_step (l : List UInt8) (j : Nat) : padJ l j ++ [lenB l.length j] = padJ l (j + 1) := by
  unfold padJ
  rw [List.range_succ, List.map_append, List.append_assoc]
  rfl
theorem padJ_8 (l : List UInt8) : padJ l 8 = pad l := by
  unfold padJ padR pad
  simp only [List.append_assoc, List.cons_append, List.nil_append]
theorem lenB_eq2 (n j : Nat) (h : j ≤ 7) (hn : n ≤ 1000000000000) : UInt8.ofBitVec (((BitVec.ofNat 64 n * 8) >>> (56 - 8 * j)).setWidth 8) = lenB n j := by
  have := lenB_eq n (7 - j) (by omega) hn
  rwa [show 8 * (7 - j) = 56 - 8 * j by omega, show 7 - (7 - j) = j by omega] at this
theorem refPad_s (l : List UInt8) (A : Option Addr) (c : Nat) (hA : A = none → l.length = 0 ∧ c = 0) (hn : l.length ≤ 100000000000) : Spec Tryd.prog 88 [.slice A l.length c].toArray [.rd A (bc l)] [] (fun u : Nat × Nat => .slice (some ⟨u.1, 0, none⟩) (pad l).length u.2) (fun u => [.own (.slice (some ⟨u.1, 0, none⟩) (pad l).length u.2) (pad l).length 5 1 (bc (pad l))]) := by
  rw [pad_len]
  have hp : 64 * ((l.length + 72) / 64) = padN l.length := rfl
  have hp2 := padN_ge l.length
  have hj0 : ∀ k, k = padN l.length - l.length - 9 → padR l k = padJ l 0 := fun k hk => by unfold padJ; rw [hk]; simp
  generalize padN l.length = p at *
  refine spec_of Tryd.func88 rfl (n := 36) rfl rfl ?_
  intro W
  refine h_seq ?_
  refine h_reg ?_
  refine h_op (r_assign rfl) ?_
  refine h_nil ?_
  refine q_then ?_
  refine h_seq ?_
  refine h_reg ?_
  refine h_opX (x_bsl0 (xs := bc [])) fun g6 => ?_
  refine h_op (r_move rfl) ?_
  refine h_opX (x_appAB rfl rfl hA rfl) fun ⟨A8, c8⟩ => ?_
  refine h_op (r_assign rfl) ?_
  refine h_nil ?_
  refine q_then ?_
  refine h_seq ?_
  refine h_reg ?_
  refine h_op (r_move rfl) ?_
  refine h_opX (x_bsl rfl rfl) fun g10 => ?_
  refine h_opX (x_app1B rfl rfl) fun ⟨g11, c11⟩ => ?_
  refine h_op (r_assign rfl) ?_
  refine h_nil ?_
  refine q_then ?_
  refine h_seq ?_
  refine h_block ?_
  rw [show ([] ++ l) ++ [UInt8.ofBitVec 128] = padR l 0 by simp [padR]]
  refine h_loop (fun (s : Nat × Nat × Nat) => l.length + 1 + s.1 ≤ p - 8) (fun (s : Nat × Nat × Nat) => [(3, .slice (some ⟨s.2.1, 0, none⟩) (l.length + 1 + s.1) s.2.2), (0, .slice A l.length c)]) (fun (s : Nat × Nat × Nat) => [.own (.slice (some ⟨s.2.1, 0, none⟩) (l.length + 1 + s.1) s.2.2) (l.length + 1 + s.1) 5 1 (bc (padR l s.1))]) (fun (s : Nat × Nat × Nat) => p - s.1) (0, g11, c11) ((show l.length + 1 + 0 ≤ p - 8 by omega)) ⟨rfl, rfl, trivial⟩ (same) ?_
  rintro ⟨k, g, cp⟩ hk
  simp only at hk
  refine h_seq ?_
  refine h_seq ?_
  refine h_reg ?_
  refine h_op (r_move rfl) ?_
  refine h_op (r_len rfl) ?_
  refine h_op (r_rem rfl rfl) ?_
  refine h_op (r_neq rfl rfl) ?_
  refine h_nil ?_
  refine q_then ?_
  refine h_cond rfl (fun h => ?_) (fun h => ?_)
  · have hlt : l.length + 1 + k < p - 8 := by omega
    refine h_skip ?_
    refine q_then ?_
    refine h_block ?_
    refine h_reg ?_
    refine h_op (r_move rfl) ?_
    refine h_opX (x_bsl rfl rfl) fun g17 => ?_
    refine h_opX (x_app1B rfl rfl) fun ⟨g18, c18⟩ => ?_
    refine h_op (r_assign rfl) ?_
    refine h_nil ?_
    refine q_block ?_
    rw [padR_step]
    exact h_back (k + 1, g18, c18) ((show l.length + 1 + (k + 1) ≤ p - 8 by omega)) ((show p - (k + 1) < p - k by omega)) ⟨rfl, rfl, trivial⟩ (same)
  · have hk2 : k = p - l.length - 9 := by omega
    rw [hj0 k hk2]
    have hN : l.length + 1 + k = p - 8 := by omega
    rw [hN]
    refine h_exit ?_
    refine q_thenE ?_
    refine q_thenE ?_
    refine q_blockE ?_
    refine q_then ?_
    refine h_seq ?_
    refine h_reg ?_
    refine h_op (r_move rfl) ?_
    refine h_op (r_len rfl) ?_
    refine h_op (r_cNW rfl) ?_
    refine h_op (r_mulW rfl rfl) ?_
    refine h_op (r_assign rfl) ?_
    refine h_nil ?_
    refine q_then ?_
    refine h_seq ?_
    refine h_seq ?_
    refine h_reg ?_
    refine h_op (r_assign rfl) ?_
    refine h_nil ?_
    refine q_then ?_
    refine h_block ?_
    refine h_loop (fun (s : Nat × Nat × Nat) => s.1 ≤ 8) (fun (s : Nat × Nat × Nat) => [(3, .slice (some ⟨s.2.1, 0, none⟩) (p - 8 + s.1) s.2.2), (4, .int .u64 ((BitVec.ofNat 64 l.length * 8).toNat : Int)), (5, .int .i64 (56 - 8 * (s.1 : Int)))]) (fun (s : Nat × Nat × Nat) => [.own (.slice (some ⟨s.2.1, 0, none⟩) (p - 8 + s.1) s.2.2) (p - 8 + s.1) 5 1 (bc (padJ l s.1))]) (fun (s : Nat × Nat × Nat) => 8 - s.1) (0, g, cp) ((show 0 ≤ 8 by omega)) ⟨rfl, rfl, rfl, trivial⟩ (same) ?_
    rintro ⟨j, g, cp⟩ hj
    simp only at hj
    refine h_seq ?_
    refine h_seq ?_
    refine h_reg ?_
    refine h_op (r_move rfl) ?_
    refine h_op (r_geq rfl rfl) ?_
    refine h_nil ?_
    refine q_then ?_
    refine h_cond rfl (fun h => ?_) (fun h => ?_)
    · refine h_skip ?_
      refine q_then ?_
      refine h_seq ?_
      refine h_block ?_
      refine h_reg ?_
      refine h_op (r_move rfl) ?_
      refine h_op (r_move rfl) ?_
      refine h_op (r_move rfl) ?_
      refine h_op (r_cP (q := 56 - 8 * j) rfl (by omega) (by omega)) ?_
      refine h_op (r_shr rfl rfl) ?_
      refine h_op (r_cW rfl) ?_
      refine h_opX (x_bsl rfl rfl) fun g33 => ?_
      refine h_opX (x_app1B rfl rfl) fun ⟨g34, c34⟩ => ?_
      refine h_op (r_assign rfl) ?_
      refine h_nil ?_
      refine q_block ?_
      refine q_then ?_
      refine h_reg ?_
      refine h_op (r_move rfl) ?_
      refine h_op (r_sub rfl rfl) ?_
      refine h_op (r_assign rfl) ?_
      refine h_nil ?_
      rw [lenB_eq2 l.length j (by omega) (by omega), padJ_step]
      exact h_back (j + 1, g34, c34) ((show j + 1 ≤ 8 by omega)) ((show 8 - (j + 1) < 8 - j by omega)) ⟨rfl, rfl, aI rfl (by omega), trivial⟩ (same)
    · obtain rfl : j = 8 := by omega
      rw [padJ_8, show p - 8 + 8 = p by omega]
      refine h_exit ?_
      refine q_thenE ?_
      refine q_thenE ?_
      refine q_blockE ?_
      refine q_then ?_
      refine h_seq ?_
      refine h_reg ?_
      refine h_op (r_move rfl) ?_
      refine h_op (r_assign rfl) ?_
      refine h_nil ?_
      refine q_then ?_
      refine h_ret ?_
      exact h_ret1 rfl rfl fun w s => ⟨(g, cp), rfl, s.res (List.Sublist.refl _) (by simp [Fa.wr])⟩
end Go.Proofs.YtgfkbeipckbkiaaDoor
/- U3 -/
namespace Go.Proofs.YtgfkbeipckbkiaaDoor
set_option linter.unusedSimpArgs false
set_option linter.unusedVariables false
open Go.RowKit
theorem Sx.ownSome {A : List Fa} {W w : World} {L M : List Fa} {B : Option Addr} {N c e size : Nat} {xs : List Value} (s : Sx A W w L) [hd : TakeO (.slice B N c) L N e size xs M] (h : 0 < N) : ∃ g, B = some ⟨g, 0, none⟩ := by
  have ho : w.ownsRow 0 e size (.slice B N c) N xs := (s.perm hd.perm).ok (.own _ _ _ _ _) (List.mem_cons_self ..)
  rcases ho.2 with ⟨_, rfl⟩ | ⟨g, cap, cur, e1, _⟩
  · omega
  · injection e1 with e1 _ _
    exact ⟨g, e1⟩
theorem sch_lo (l : List UInt8) (k : Nat) (h : k < 16) : sch l (k + 1) = sch l k ++ [wrd l k] := by rw [sch, if_pos h]
theorem sch_hi (l : List UInt8) (k : Nat) (h : 16 ≤ k) : sch l (k + 1) = sch l k ++ [(((sch l k).getD (k - 16) 0 + sg0 ((sch l k).getD (k - 15) 0)) + (sch l k).getD (k - 7) 0) + sg1 ((sch l k).getD (k - 2) 0)] := by
  rw [sch, if_neg (by omega), nextW, sch_len]
theorem schedule_s (l : List UInt8) (b o c : Nat) (hl : l.length = 64) : Spec Tryd.prog 89 [.slice (some ⟨b, o, none⟩) 64 c].toArray [.rd (some ⟨b, o, none⟩) (bc l)] [] (fun u : Nat × Nat => .slice (some ⟨u.1, 0, none⟩) 64 u.2) (fun u => [.own (.slice (some ⟨u.1, 0, none⟩) 64 u.2) 64 142 1 (wc .u32 (sch l 64))]) := by
  refine spec_of Tryd.func89 rfl (n := 95) rfl rfl ?_
  intro W
  refine h_seq ?_
  refine h_reg ?_
  refine h_op (r_assign rfl) ?_
  refine h_nil ?_
  refine q_then ?_
  refine h_seq ?_
  refine h_reg ?_
  refine h_op (r_assign rfl) ?_
  refine h_nil ?_
  refine q_then ?_
  refine h_seq ?_
  refine h_seq ?_
  refine h_reg ?_
  refine h_op (r_assign rfl) ?_
  refine h_nil ?_
  refine q_then ?_
  refine h_block ?_
  refine h_nil_own 142 1 (xs := wc .u32 (sch l 0)) rfl ?_
  refine h_loop (fun (s : Nat × Option Addr × Nat) => s.1 ≤ 16) (fun (s : Nat × Option Addr × Nat) => [(4, .int .i64 (s.1 : Int)), (3, .slice s.2.1 s.1 s.2.2), (0, .slice (some ⟨b, o, none⟩) 64 c)]) (fun (s : Nat × Option Addr × Nat) => [.own (.slice s.2.1 s.1 s.2.2) s.1 142 1 (wc .u32 (sch l s.1)), .rd (some ⟨b, o, none⟩) (bc l)]) (fun (s : Nat × Option Addr × Nat) => 16 - s.1) (0, none, 0) ((show 0 ≤ 16 by omega)) ⟨rfl, rfl, rfl, trivial⟩ (same) ?_
  rintro ⟨k, B, cp⟩ hk
  dsimp only at hk ⊢
  refine h_seq ?_
  refine h_seq ?_
  refine h_reg ?_
  refine h_op (r_move rfl) ?_
  refine h_op (r_lss rfl rfl) ?_
  refine h_nil ?_
  refine q_then ?_
  refine h_cond rfl (fun h => ?_) (fun h => ?_)
  · have hst := sch_lo l k (by omega)
    unfold wrd at hst
    refine h_skip ?_
    refine q_then ?_
    refine h_seq ?_
    refine h_block ?_
    refine ha_start [.rd (some ⟨b, o, none⟩) (bc l)] [] mixed (same) ?_
    refine ha_takeP 0 rfl (r_move rfl) ?_
    refine ha_takeP 1 rfl (r_move rfl) ?_
    refine ha_takeP 2 rfl (r_move rfl) ?_
    refine ha_takeP 3 rfl (r_mul rfl rfl) ?_
    refine ha_takeP 4 rfl (r_idx rfl rfl) ?_
    refine ha_take 5 rfl (r_nth rfl (bc_at' (by omega))) ?_
    refine ha_takeP 6 rfl (r_cW rfl) ?_
    refine ha_takeP 7 rfl (r_shl rfl rfl) ?_
    refine ha_takeP 8 rfl (r_move rfl) ?_
    refine ha_takeP 9 rfl (r_move rfl) ?_
    refine ha_takeP 10 rfl (r_mul rfl rfl) ?_
    refine ha_takeP 11 rfl (r_add rfl rfl) ?_
    refine ha_takeP 12 rfl (r_idx rfl rfl) ?_
    refine ha_take 13 rfl (r_nth rfl (bc_at' (by omega))) ?_
    refine ha_takeP 14 rfl (r_cW rfl) ?_
    refine ha_takeP 15 rfl (r_shl rfl rfl) ?_
    refine ha_takeP 16 rfl (r_or rfl rfl) ?_
    refine ha_takeP 17 rfl (r_move rfl) ?_
    refine ha_takeP 18 rfl (r_move rfl) ?_
    refine ha_takeP 19 rfl (r_mul rfl rfl) ?_
    refine ha_takeP 20 rfl (r_add rfl rfl) ?_
    refine ha_takeP 21 rfl (r_idx rfl rfl) ?_
    refine ha_take 22 rfl (r_nth rfl (bc_at' (by omega))) ?_
    refine ha_takeP 23 rfl (r_cW rfl) ?_
    refine ha_takeP 24 rfl (r_shl rfl rfl) ?_
    refine ha_takeP 25 rfl (r_or rfl rfl) ?_
    refine ha_takeP 26 rfl (r_move rfl) ?_
    refine ha_takeP 27 rfl (r_move rfl) ?_
    refine ha_takeP 28 rfl (r_mul rfl rfl) ?_
    refine ha_takeP 29 rfl (r_add rfl rfl) ?_
    refine ha_takeP 30 rfl (r_idx rfl rfl) ?_
    refine ha_take 31 rfl (r_nth rfl (bc_at' (by omega))) ?_
    refine ha_takeP 32 rfl (r_cW rfl) ?_
    refine ha_takeP 33 rfl (r_or rfl rfl) ?_
    refine ha_one 34 ?_
    refine ho_X 34 rfl (rk (x_bsl rfl rfl)) (fun _ => same) fun g46 => ?_
    refine ha_one 35 ?_
    refine ho_X 35 rfl (rk (x_app1W rfl rfl)) (fun _ => same) fun ⟨g47, c47⟩ => ?_
    refine ha_takeP 36 rfl (r_assign rfl) ?_
    refine ha_done (by kernel_rfl) ?_
    refine q_block ?_
    refine q_then ?_
    rw [← hst]
    refine h_reg ?_
    refine h_op (r_move rfl) ?_
    refine h_op (r_add rfl rfl) ?_
    refine h_op (r_assign rfl) ?_
    refine h_nil ?_
    exact h_back (k + 1, some ⟨g47, 0, none⟩, c47) ((show k + 1 ≤ 16 by omega)) ((show 16 - (k + 1) < 16 - k by omega)) ⟨rfl, rfl, rfl, trivial⟩ (same)
  · obtain rfl : k = 16 := by omega
    refine h_pure (φ := ∃ g, B = some ⟨g, 0, none⟩) (fun w s => s.ownSome (N := 16) (c := cp) (by decide)) ?_
    rintro ⟨g, rfl⟩
    refine h_exit ?_
    refine q_thenE ?_
    refine q_thenE ?_
    refine q_blockE ?_
    refine q_then ?_
    refine h_seq ?_
    refine h_seq ?_
    refine h_reg ?_
    refine h_op (r_assign rfl) ?_
    refine h_nil ?_
    refine q_then ?_
    refine h_block ?_
    refine h_loop (fun (s : Nat × Nat × Nat) => 16 ≤ s.1 ∧ s.1 ≤ 64) (fun (s : Nat × Nat × Nat) => [(5, .int .i64 (s.1 : Int)), (3, .slice (some ⟨s.2.1, 0, none⟩) s.1 s.2.2)]) (fun (s : Nat × Nat × Nat) => [.own (.slice (some ⟨s.2.1, 0, none⟩) s.1 s.2.2) s.1 142 1 (wc .u32 (sch l s.1))]) (fun (s : Nat × Nat × Nat) => 64 - s.1) (16, g, cp) ((show 16 ≤ 16 ∧ 16 ≤ 64 by omega)) ⟨rfl, rfl, trivial⟩ (same) ?_
    rintro ⟨k, g, cp⟩ hk
    dsimp only at hk ⊢
    refine h_seq ?_
    refine h_seq ?_
    refine h_reg ?_
    refine h_op (r_move rfl) ?_
    refine h_op (r_lss rfl rfl) ?_
    refine h_nil ?_
    refine q_then ?_
    refine h_cond rfl (fun h => ?_) (fun h => ?_)
    · have hst := sch_hi l k (by omega)
      unfold sg0 sg1 at hst
      have hsl := sch_len l k
      refine h_skip ?_
      refine q_then ?_
      refine h_seq ?_
      refine h_block ?_
      refine h_seq ?_
      refine h_reg ?_
      refine h_op (r_move rfl) ?_
      refine h_op (r_move rfl) ?_
      refine h_op (r_subN rfl rfl) ?_
      refine h_op (r_idx rfl rfl) ?_
      refine h_op (r_nth rfl (wc_at (by omega))) ?_
      refine h_op (r_assign rfl) ?_
      refine h_nil ?_
      refine q_then ?_
      refine h_seq ?_
      refine h_reg ?_
      refine h_op (r_move rfl) ?_
      refine h_op (r_move rfl) ?_
      refine h_op (r_subN rfl rfl) ?_
      refine h_op (r_idx rfl rfl) ?_
      refine h_op (r_nth rfl (wc_at (by omega))) ?_
      refine h_op (r_assign rfl) ?_
      refine h_nil ?_
      refine q_then ?_
      refine ha_start [] [.rd (some ⟨g, 0, none⟩) (wc .u32 (sch l k))] mixed (same) ?_
      refine ha_takeP 0 rfl (r_move rfl) ?_
      refine ha_takeP 1 rfl (r_move rfl) ?_
      refine ha_takeP 2 rfl (r_move rfl) ?_
      refine ha_takeP 3 rfl (r_subN rfl rfl) ?_
      refine ha_takeP 4 rfl (r_idx rfl rfl) ?_
      refine ha_takeR 5 rfl (r_nth rfl (wc_at (by omega))) ?_
      refine ha_takeP 6 rfl (r_move rfl) ?_
      refine ha_takeP 8 rfl (r_move rfl) ?_
      refine ha_takeP 11 rfl (r_move rfl) ?_
      refine ha_takeP 12 rfl (r_shr rfl rfl) ?_
      refine ha_takeP 15 rfl (r_move rfl) ?_
      refine ha_takeP 16 rfl (r_move rfl) ?_
      refine ha_takeP 17 rfl (r_subN rfl rfl) ?_
      refine ha_takeP 18 rfl (r_idx rfl rfl) ?_
      refine ha_takeR 19 rfl (r_nth rfl (wc_at (by omega))) ?_
      refine ha_takeP 21 rfl (r_move rfl) ?_
      refine ha_takeP 23 rfl (r_move rfl) ?_
      refine ha_takeP 26 rfl (r_move rfl) ?_
      refine ha_takeP 27 rfl (r_shr rfl rfl) ?_
      refine ha_one 7 ?_
      refine ho_C 7 rfl ((turn_s _ 7 (by decide)).comes) rfl rfl rfl (fun xx => same) fun _ => ?_
      refine ha_one 9 ?_
      refine ho_C 9 rfl ((turn_s _ 18 (by decide)).comes) rfl rfl rfl (fun xx => same) fun _ => ?_
      refine ha_takeP 10 rfl (r_xor rfl rfl) ?_
      refine ha_takeP 13 rfl (r_xor rfl rfl) ?_
      refine ha_takeP 14 rfl (r_addW rfl rfl) ?_
      refine ha_takeP 20 rfl (r_addW rfl rfl) ?_
      refine ha_one 22 ?_
      refine ho_C 22 rfl ((turn_s _ 17 (by decide)).comes) rfl rfl rfl (fun xx => same) fun _ => ?_
      refine ha_one 24 ?_
      refine ho_C 24 rfl ((turn_s _ 19 (by decide)).comes) rfl rfl rfl (fun xx => same) fun _ => ?_
      refine ha_takeP 25 rfl (r_xor rfl rfl) ?_
      refine ha_takeP 28 rfl (r_xor rfl rfl) ?_
      refine ha_takeP 29 rfl (r_addW rfl rfl) ?_
      refine ha_one 30 ?_
      refine ho_X 30 rfl (rk (x_bsl rfl rfl)) (fun _ => same) fun g92 => ?_
      refine ha_one 31 ?_
      refine ho_X 31 rfl (k_app1W rfl rfl) (fun _ => same) fun ⟨g93, c93⟩ => ?_
      refine ha_takeP 32 rfl (r_assign rfl) ?_
      refine ha_done (by kernel_rfl) ?_
      refine q_block ?_
      refine q_then ?_
      rw [← hst]
      refine h_reg ?_
      refine h_op (r_move rfl) ?_
      refine h_op (r_add rfl rfl) ?_
      refine h_op (r_assign rfl) ?_
      refine h_nil ?_
      exact h_back (k + 1, g93, c93) ((show 16 ≤ k + 1 ∧ k + 1 ≤ 64 by omega)) ((show 64 - (k + 1) < 64 - k by omega)) ⟨rfl, rfl, trivial⟩ (same)
    · obtain rfl : k = 64 := by omega
      refine h_exit ?_
      refine q_thenE ?_
      refine q_thenE ?_
      refine q_blockE ?_
      refine q_then ?_
      refine h_seq ?_
      refine h_reg ?_
      refine h_op (r_move rfl) ?_
      refine h_op (r_assign rfl) ?_
      refine h_nil ?_
      refine q_then ?_
      refine h_ret ?_
      exact h_ret1 rfl rfl fun w s => ⟨(g, cp), rfl, s.res (List.Sublist.refl _) (by simp [Fa.wr])⟩
end Go.Proofs.YtgfkbeipckbkiaaDoor
/- U4 -/
namespace Go.Proofs.YtgfkbeipckbkiaaDoor
set_option linter.unusedSimpArgs false
set_option linter.unusedVariables false
open Go.RowKit
theorem fill_set {α : Type} (f : Nat → α) (z : α) (n i : Nat) (h : i < n) : ((List.range i).map f ++ List.replicate (n - i) z).set i (f i) = (List.range (i + 1)).map f ++ List.replicate (n - (i + 1)) z := by
  obtain ⟨q, hq⟩ : ∃ q, n - i = q + 1 := ⟨n - i - 1, by omega⟩
  rw [List.set_append_right _ _ (by simp), hq, show n - (i + 1) = q by omega, List.replicate_succ, List.range_succ, List.map_append]
  simp
theorem fill_len {α : Type} (f : Nat → α) (z : α) (n i : Nat) (h : i ≤ n) : ((List.range i).map f ++ List.replicate (n - i) z).length = n := by simp; omega
theorem fill_end {α : Type} (f : Nat → α) (z : α) (n : Nat) : (List.range n).map f ++ List.replicate (n - n) z = (List.range n).map f := by simp
theorem Sx.ownRd {A : List Fa} {W w : World} {L M : List Fa} {B : Option Addr} {N c e size : Nat} {xs : List Value} (s : Sx A W w L) [hd : TakeO (.slice B N c) L N e size xs M] : Sx A W w (.rd B xs :: M) := by
  have s2 := s.perm hd.perm
  have ho : w.ownsRow 0 e size (.slice B N c) N xs := s2.ok (.own _ _ _ _ _) (List.mem_cons_self ..)
  refine s2.tail.cons (own_rd' ho) (fun g hg hw k h1 h2 => ?_) (fun h => by cases h)
  obtain ⟨_, o, rfl⟩ := h1
  exact (List.pairwise_cons.1 s2.sep).1 g hg rfl k rfl h2
theorem rd1_cut {L : List Fa} {b o o' off : Nat} {cs out : List Value} [h : Rd1 L (.rd (some ⟨b, o, none⟩) cs)] (ho : o' = o + off) (hr : ∀ j v, out[j]? = some v → cs[off + j]? = some v) : Rd1 L (.rd (some ⟨b, o', none⟩) out) := ⟨fun hw => by
  obtain ⟨_, h1, h2⟩ := h.ok hw
  subst ho
  refine ⟨rfl, fun j v hv => ⟨b, o + off, rfl, by rw [Nat.add_assoc]; exact Rd.range h1 _ v (hr j v hv)⟩, fun k hk => h2 k ?_⟩
  obtain rfl := rd_foot (A := none) hk
  refine ⟨fun hc => ?_, o, rfl⟩
  obtain ⟨hne, _⟩ := hk
  cases out with
  | nil => exact hne rfl
  | cons x out => have := hr 0 x rfl; rw [hc] at this; simp at this⟩
theorem bc_cut (l : List UInt8) (a m : Nat) : ∀ j v, (bc ((l.drop a).take m))[j]? = some v → (bc l)[a + j]? = some v := fun j v hv => by
  rw [bc_take, bc_drop, List.getElem?_take] at hv
  split at hv
  · rwa [List.getElem?_drop] at hv
  · cases hv
/-- the cells of a state -/
abbrev S8.cs (s : S8) : List Value := [.int .u32 (s.a.toNat : Int), .int .u32 (s.b.toNat : Int), .int .u32 (s.c.toNat : Int), .int .u32 (s.d.toNat : Int), .int .u32 (s.e.toNat : Int), .int .u32 (s.f.toNat : Int), .int .u32 (s.g.toNat : Int), .int .u32 (s.h.toNat : Int)]
theorem S8.cs_eq (s : S8) : s.cs = wc .u32 s.l := rfl
theorem S8.cs_at (s : S8) {i : Nat} (h : i < 8) : s.cs[i]? = some (.int .u32 ((s.l.getD i 0).toNat : Int)) := wc_at (l := s.l) h
instance rowOutL (s : S8) : Row (bc (outL s)) 32 := ⟨by rw [bc_length]; simp [outL], bc_one _⟩
instance rowS8 (s : S8) : Row (wc .u32 s.l) 8 := ⟨rfl, wc_one _ _⟩
instance (s : S8) (a b c d e f g h : Value) : SetAt [a, b, c, d, e, f, g, h] 0 (wc .u32 s.l) (wc .u32 s.l) := .whole rfl
/-- some words added -/
def addI (s t : S8) (i : Nat) : List W32 := (List.range 8).map fun j => if j < i then s.l.getD j 0 + t.l.getD j 0 else s.l.getD j 0
theorem addI_0 (s t : S8) : addI s t 0 = s.l := rfl
theorem addI_8 (s t : S8) : addI s t 8 = (s.add t).l := rfl
theorem addI_len (s t : S8) (i : Nat) : (addI s t i).length = 8 := by simp [addI]
theorem addI_get (s t : S8) (i : Nat) (h : i < 8) : (addI s t i).getD i 0 = s.l.getD i 0 := by
  unfold addI
  rw [List.getD, List.getElem?_map, List.getElem?_range h]
  simp
theorem addI_set (s t : S8) (i : Nat) (h : i < 8) : (addI s t i).set i (s.l.getD i 0 + t.l.getD i 0) = addI s t (i + 1) := by
  apply List.ext_getElem?
  intro j
  rw [List.getElem?_set, addI_len]
  unfold addI
  by_cases e : i = j
  · subst e
    rw [if_pos rfl, if_pos h, List.getElem?_map, List.getElem?_range h]
    simp
  · rw [if_neg e, List.getElem?_map, List.getElem?_map]
    by_cases hj : j < 8
    · rw [List.getElem?_range hj]
      simp only [Option.map_some]
      by_cases h1 : j < i
      · rw [if_pos h1, if_pos (by omega)]
      · rw [if_neg h1, if_neg (by omega)]
    · rw [List.getElem?_eq_none (by simpa using hj)]
      rfl
theorem outB_eq (s : S8) (i : Nat) : UInt8.ofBitVec ((s.l.getD (i / 4) 0 >>> (24 - 8 * (i % 4))).setWidth 8) = outB s i := rfl
theorem blks_get (l : List UInt8) (i : Nat) (h : i < l.length / 64) : (blks l).take (i + 1) = (blks l).take i ++ [blk64 l i] := by
  unfold blks
  rw [List.take_succ_eq_append_getElem (by simpa using h)]
  simp
theorem rnds_s (b : List UInt8) (s : S8) (n : Nat) : rnds b s (n + 1) = rnd (K64.getD n 0) (wat b n) (rnds b s n) := rfl
theorem refSum_s (l : List UInt8) (B : Option Addr) (c : Nat) (hB : B = none → l.length = 0 ∧ c = 0) (hn : l.length ≤ 100000000000) : Spec Tryd.prog 69 [.slice B l.length c].toArray [.rd B (bc l)] [] (fun _ : Unit => .agg (bc (sha l).1).toArray) (fun _ => []) := by
  have hp := pad_len l
  have hp64 : padN l.length = 64 * (padN l.length / 64) := by unfold padN; omega
  have hpl : padN l.length ≤ l.length + 72 := by unfold padN; omega
  have hbl : (blks (pad l)).length = padN l.length / 64 := by unfold blks; rw [List.length_map, List.length_range, hp]
  have hsha : bc (sha l).1 = bc (outL (comps (blks (pad l)) H0)) := rfl
  rw [hsha]
  have hK := K64_len
  have hPad := refPad_s l B c hB hn
  generalize padN l.length = p at *
  generalize pad l = q at *
  subst hp
  obtain ⟨m, hm⟩ : ∃ m, m = q.length / 64 := ⟨_, rfl⟩
  rw [← hm] at hp64 hbl
  refine spec_of Tryd.func69 rfl (n := 152) rfl rfl ?_
  intro W
  refine h_seq ?_
  refine h_reg ?_
  refine h_opX (x_alloc) fun g2 => ?_
  refine h_nil ?_
  refine q_then ?_
  refine h_seq ?_
  refine h_reg ?_
  refine h_op (r_build rfl) ?_
  refine h_opX (x_alloc) fun g3 => ?_
  refine h_opS (s_storer rfl rfl) ?_
  refine h_nil ?_
  refine q_then ?_
  refine h_seq ?_
  refine h_reg ?_
  change H _ _ _ _ _ (.blk g3 (wc .u32 (comps ((blks q).take 0) H0).l) _ :: _) _
  refine h_call (primes_s.comes) rfl rfl rfl fun g4 => ?_
  refine h_op (r_assign rfl) ?_
  refine h_nil ?_
  refine q_then ?_
  refine h_seq ?_
  refine h_reg ?_
  refine h_op (r_move rfl) ?_
  refine h_call (hPad.comes) rfl rfl rfl fun ⟨g5, c5⟩ => ?_
  dsimp only
  refine h_pure (φ := q.length ≤ c5) (fun w s => (s.ownLe (B := some ⟨g5, 0, none⟩) (N := q.length) (c := c5)).1) fun hcap => ?_
  refine h_L (fun w s => s.ownRd (B := some ⟨g5, 0, none⟩) (N := q.length) (c := c5)) ?_
  refine h_op (r_assign rfl) ?_
  refine h_nil ?_
  refine q_then ?_
  refine h_seq ?_
  refine h_seq ?_
  refine h_reg ?_
  refine h_op (r_assign rfl) ?_
  refine h_nil ?_
  refine q_then ?_
  refine h_block ?_
  refine h_loop (fun (i : Nat) => i ≤ m) (fun (i : Nat) => [(6, .int .i64 ((64 * i : Nat) : Int)), (5, .slice (some ⟨g5, 0, none⟩) q.length c5), (4, .slice (some ⟨g4, 0, none⟩) 64 64), (3, .pointer (some ⟨g3, 0, none⟩)), (2, .pointer (some ⟨g2, 0, none⟩))]) (fun (i : Nat) => [.rd (some ⟨g5, 0, none⟩) (bc q), .own (.slice (some ⟨g4, 0, none⟩) 64 64) 64 142 1 (wc .u32 K64), .blk g3 (wc .u32 (comps ((blks q).take i) H0).l) 143, .blk g2 zB32.cells 41]) (fun (i : Nat) => m - i) 0 (by omega) ⟨rfl, rfl, rfl, rfl, rfl, trivial⟩ (same) ?_
  intro i hi
  refine h_seq ?_
  refine h_seq ?_
  refine h_reg ?_
  refine h_op (r_move rfl) ?_
  refine h_op (r_move rfl) ?_
  refine h_op (r_len rfl) ?_
  refine h_op (r_lss rfl rfl) ?_
  refine h_nil ?_
  refine q_then ?_
  refine h_cond rfl (fun h => ?_) (fun h => ?_)
  · have hi2 : i < m := by omega
    have hcmp : comps ((blks q).take (i + 1)) H0 = comp (blk64 q i) (comps ((blks q).take i) H0) := by rw [blks_get q i (by omega), comps_snoc]
    have hb64 : (blk64 q i).length = 64 := by unfold blk64; rw [List.length_take, List.length_drop]; omega
    obtain ⟨b, hb⟩ : ∃ b, b = blk64 q i := ⟨_, rfl⟩
    have hcut := rd1_cut (L := [.rd (some ⟨g5, 0, none⟩) (bc q), .own (.slice (some ⟨g4, 0, none⟩) 64 64) 64 142 1 (wc .u32 K64), .blk g3 (wc .u32 (comps ((blks q).take i) H0).l) 143, .blk g2 zB32.cells 41]) (b := g5) (o' := 64 * i) (Nat.zero_add _).symm (bc_cut q (64 * i) 64)
    change Rd1 _ (.rd _ (bc (blk64 q i))) at hcut
    rw [← hb] at hcmp hb64 hcut
    have hS := sch_len b
    generalize comps ((blks q).take i) H0 = s0 at *
    refine h_skip ?_
    refine q_then ?_
    refine h_seq ?_
    refine h_block ?_
    refine h_seq ?_
    refine h_reg ?_
    refine h_op (r_move rfl) ?_
    refine h_op (r_move rfl) ?_
    refine h_op (r_move rfl) ?_
    refine h_op (r_add rfl rfl) ?_
    refine h_op (r_slLHb rfl rfl rfl (m := 64)) ?_
    refine h_call ((schedule_s b g5 (64 * i) (c5 - 64 * i) hb64).comes) rfl rfl rfl fun ⟨g7, c7⟩ => ?_
    dsimp only
    refine h_op (r_assign rfl) ?_
    refine h_nil ?_
    refine q_then ?_
    refine h_seq ?_
    refine h_reg ?_
    refine h_op (r_loadr rfl) ?_
    refine h_opX (x_alloc) fun g8 => ?_
    refine h_opS (s_storer rfl rfl) ?_
    refine h_nil ?_
    refine q_then ?_
    refine h_seq ?_
    refine h_seq ?_
    change H _ _ _ _ _ (.blk g8 (S8.cs (rnds b s0 0)) _ :: _) _
    refine h_reg ?_
    refine h_op (r_assign rfl) ?_
    refine h_nil ?_
    refine q_then ?_
    refine h_block ?_
    refine h_loop (fun (s : Nat × S8) => s.1 ≤ 64 ∧ s.2 = rnds b s0 s.1) (fun (s : Nat × S8) => [(9, .int .i64 (s.1 : Int)), (8, .pointer (some ⟨g8, 0, none⟩)), (7, .slice (some ⟨g7, 0, none⟩) 64 c7), (6, .int .i64 ((64 * i : Nat) : Int)), (5, .slice (some ⟨g5, 0, none⟩) q.length c5), (4, .slice (some ⟨g4, 0, none⟩) 64 64), (3, .pointer (some ⟨g3, 0, none⟩)), (2, .pointer (some ⟨g2, 0, none⟩))]) (fun (s : Nat × S8) => [.blk g8 (S8.cs s.2) 143, .own (.slice (some ⟨g7, 0, none⟩) 64 c7) 64 142 1 (wc .u32 (sch b 64)), .rd (some ⟨g5, 0, none⟩) (bc q), .own (.slice (some ⟨g4, 0, none⟩) 64 64) 64 142 1 (wc .u32 K64), .blk g3 (wc .u32 s0.l) 143, .blk g2 zB32.cells 41]) (fun (s : Nat × S8) => 64 - s.1) (0, rnds b s0 0) ((show 0 ≤ 64 ∧ rnds b s0 0 = rnds b s0 0 from ⟨by decide, rfl⟩)) ⟨rfl, rfl, rfl, rfl, rfl, rfl, rfl, rfl, trivial⟩ (same) ?_
    rintro ⟨k, v⟩ ⟨hk, hv⟩
    dsimp only at hk hv ⊢
    have hr1 := rnds_s b s0 k
    rw [← hv] at hr1
    have hS64 := hS 64
    refine h_seq ?_
    refine h_seq ?_
    refine h_reg ?_
    refine h_op (r_move rfl) ?_
    refine h_op (r_lss rfl rfl) ?_
    refine h_nil ?_
    refine q_then ?_
    refine h_cond rfl (fun h => ?_) (fun h => ?_)
    · refine h_skip ?_
      refine q_then ?_
      refine h_seq ?_
      refine h_block ?_
      refine h_seq ?_
      refine ha_start [.blk g8 (S8.cs v) 143, .own (.slice (some ⟨g7, 0, none⟩) 64 c7) 64 142 1 (wc .u32 (sch b 64)), .own (.slice (some ⟨g4, 0, none⟩) 64 64) 64 142 1 (wc .u32 K64)] [] mixed (same) ?_
      refine ha_takeP 0 rfl (r_idxA rfl rfl) ?_
      refine ha_take 1 rfl (r_loadc rfl) ?_
      refine ha_takeP 2 rfl (r_idxA rfl rfl) ?_
      refine ha_take 3 rfl (r_loadc rfl) ?_
      refine ha_takeP 5 rfl (r_idxA rfl rfl) ?_
      refine ha_take 6 rfl (r_loadc rfl) ?_
      refine ha_takeP 9 rfl (r_idxA rfl rfl) ?_
      refine ha_take 10 rfl (r_loadc rfl) ?_
      refine ha_takeP 14 rfl (r_idxA rfl rfl) ?_
      refine ha_take 15 rfl (r_loadc rfl) ?_
      refine ha_takeP 16 rfl (r_idxA rfl rfl) ?_
      refine ha_take 17 rfl (r_loadc rfl) ?_
      refine ha_takeP 18 rfl (r_and rfl rfl) ?_
      refine ha_takeP 19 rfl (r_idxA rfl rfl) ?_
      refine ha_take 20 rfl (r_loadc rfl) ?_
      refine ha_takeP 21 rfl (r_notW rfl) ?_
      refine ha_takeP 22 rfl (r_idxA rfl rfl) ?_
      refine ha_take 23 rfl (r_loadc rfl) ?_
      refine ha_takeP 24 rfl (r_and rfl rfl) ?_
      refine ha_takeP 25 rfl (r_xor rfl rfl) ?_
      refine ha_takeP 27 rfl (r_move rfl) ?_
      refine ha_takeP 28 rfl (r_move rfl) ?_
      refine ha_takeP 29 rfl (r_idx rfl rfl) ?_
      refine ha_take 30 rfl (r_nth rfl (wc_at (by omega))) ?_
      refine ha_takeP 32 rfl (r_move rfl) ?_
      refine ha_takeP 33 rfl (r_move rfl) ?_
      refine ha_takeP 34 rfl (r_idx rfl rfl) ?_
      refine ha_take 35 rfl (r_nth rfl (wc_at (by omega))) ?_
      refine ha_one 4 ?_
      refine ho_C 4 rfl ((turn_s _ 6 (by decide)).comes) rfl rfl rfl (fun xx => same) fun _ => ?_
      refine ha_one 7 ?_
      refine ho_C 7 rfl ((turn_s _ 11 (by decide)).comes) rfl rfl rfl (fun xx => same) fun _ => ?_
      refine ha_takeP 8 rfl (r_xor rfl rfl) ?_
      refine ha_one 11 ?_
      refine ho_C 11 rfl ((turn_s _ 25 (by decide)).comes) rfl rfl rfl (fun xx => same) fun _ => ?_
      refine ha_takeP 12 rfl (r_xor rfl rfl) ?_
      refine ha_takeP 13 rfl (r_addW rfl rfl) ?_
      refine ha_takeP 26 rfl (r_addW rfl rfl) ?_
      refine ha_takeP 31 rfl (r_addW rfl rfl) ?_
      refine ha_takeP 36 rfl (r_addW rfl rfl) ?_
      refine ha_takeP 37 rfl (r_assign rfl) ?_
      refine ha_done (by kernel_rfl) ?_
      refine q_then ?_
      refine h_seq ?_
      refine ha_start [.blk g8 (S8.cs v) 143] [] mixed (same) ?_
      refine ha_takeP 0 rfl (r_idxA rfl rfl) ?_
      refine ha_take 1 rfl (r_loadc rfl) ?_
      refine ha_takeP 3 rfl (r_idxA rfl rfl) ?_
      refine ha_take 4 rfl (r_loadc rfl) ?_
      refine ha_takeP 7 rfl (r_idxA rfl rfl) ?_
      refine ha_take 8 rfl (r_loadc rfl) ?_
      refine ha_takeP 11 rfl (r_idxA rfl rfl) ?_
      refine ha_take 12 rfl (r_loadc rfl) ?_
      refine ha_takeP 13 rfl (r_idxA rfl rfl) ?_
      refine ha_take 14 rfl (r_loadc rfl) ?_
      refine ha_takeP 15 rfl (r_and rfl rfl) ?_
      refine ha_takeP 16 rfl (r_idxA rfl rfl) ?_
      refine ha_take 17 rfl (r_loadc rfl) ?_
      refine ha_takeP 18 rfl (r_idxA rfl rfl) ?_
      refine ha_take 19 rfl (r_loadc rfl) ?_
      refine ha_takeP 20 rfl (r_and rfl rfl) ?_
      refine ha_takeP 21 rfl (r_xor rfl rfl) ?_
      refine ha_takeP 22 rfl (r_idxA rfl rfl) ?_
      refine ha_take 23 rfl (r_loadc rfl) ?_
      refine ha_takeP 24 rfl (r_idxA rfl rfl) ?_
      refine ha_take 25 rfl (r_loadc rfl) ?_
      refine ha_takeP 26 rfl (r_and rfl rfl) ?_
      refine ha_takeP 27 rfl (r_xor rfl rfl) ?_
      refine ha_one 2 ?_
      refine ho_C 2 rfl ((turn_s _ 2 (by decide)).comes) rfl rfl rfl (fun xx => same) fun _ => ?_
      refine ha_one 5 ?_
      refine ho_C 5 rfl ((turn_s _ 13 (by decide)).comes) rfl rfl rfl (fun xx => same) fun _ => ?_
      refine ha_takeP 6 rfl (r_xor rfl rfl) ?_
      refine ha_one 9 ?_
      refine ho_C 9 rfl ((turn_s _ 22 (by decide)).comes) rfl rfl rfl (fun xx => same) fun _ => ?_
      refine ha_takeP 10 rfl (r_xor rfl rfl) ?_
      refine ha_takeP 28 rfl (r_addW rfl rfl) ?_
      refine ha_takeP 29 rfl (r_assign rfl) ?_
      refine ha_done (by kernel_rfl) ?_
      refine q_then ?_
      refine h_reg ?_
      refine h_op (r_move rfl) ?_
      refine h_op (r_move rfl) ?_
      refine h_op (r_addW rfl rfl) ?_
      refine h_op (r_idxA rfl rfl) ?_
      refine h_op (r_loadc rfl) ?_
      refine h_op (r_idxA rfl rfl) ?_
      refine h_op (r_loadc rfl) ?_
      refine h_op (r_idxA rfl rfl) ?_
      refine h_op (r_loadc rfl) ?_
      refine h_op (r_idxA rfl rfl) ?_
      refine h_op (r_loadc rfl) ?_
      refine h_op (r_move rfl) ?_
      refine h_op (r_addW rfl rfl) ?_
      refine h_op (r_idxA rfl rfl) ?_
      refine h_op (r_loadc rfl) ?_
      refine h_op (r_idxA rfl rfl) ?_
      refine h_op (r_loadc rfl) ?_
      refine h_op (r_idxA rfl rfl) ?_
      refine h_op (r_loadc rfl) ?_
      refine h_op (r_build rfl) ?_
      refine h_opS (s_storer rfl rfl) ?_
      refine h_nil ?_
      refine q_block ?_
      refine q_then ?_
      change H _ _ _ _ _ (.blk g8 (S8.cs (rnd (K64.getD k 0) (wat b k) v)) _ :: _) _
      rw [← hr1]
      refine h_reg ?_
      refine h_op (r_move rfl) ?_
      refine h_op (r_add rfl rfl) ?_
      refine h_op (r_assign rfl) ?_
      refine h_nil ?_
      exact h_back (k + 1, rnds b s0 (k + 1)) ((show k + 1 ≤ 64 ∧ rnds b s0 (k + 1) = rnds b s0 (k + 1) from ⟨by omega, rfl⟩)) ((show 64 - (k + 1) < 64 - k by omega)) ⟨rfl, rfl, rfl, rfl, rfl, rfl, rfl, rfl, trivial⟩ (same)
    · obtain rfl : k = 64 := by omega
      refine h_exit ?_
      refine q_thenE ?_
      refine q_thenE ?_
      refine q_blockE ?_
      refine q_then ?_
      refine h_seq ?_
      rw [S8.cs_eq, ← addI_0 s0 v]
      refine h_reg ?_
      refine h_op (r_assign rfl) ?_
      refine h_nil ?_
      refine q_then ?_
      refine h_block ?_
      refine h_loop (fun (j : Nat) => j ≤ 8) (fun (j : Nat) => [(12, .int .i64 (j : Int)), (8, .pointer (some ⟨g8, 0, none⟩)), (6, .int .i64 ((64 * i : Nat) : Int)), (5, .slice (some ⟨g5, 0, none⟩) q.length c5), (4, .slice (some ⟨g4, 0, none⟩) 64 64), (3, .pointer (some ⟨g3, 0, none⟩)), (2, .pointer (some ⟨g2, 0, none⟩))]) (fun (j : Nat) => [.blk g8 (wc .u32 v.l) 143, .rd (some ⟨g5, 0, none⟩) (bc q), .own (.slice (some ⟨g4, 0, none⟩) 64 64) 64 142 1 (wc .u32 K64), .blk g3 (wc .u32 (addI s0 v j)) 143, .blk g2 zB32.cells 41]) (fun (j : Nat) => 8 - j) 0 (by omega) ⟨rfl, rfl, rfl, rfl, rfl, rfl, rfl, trivial⟩ (same) ?_
      intro j hj
      have hal := addI_len s0 v j
      have hvl : v.l.length = 8 := rfl
      refine h_seq ?_
      refine h_seq ?_
      refine h_reg ?_
      refine h_op (r_move rfl) ?_
      refine h_op (r_lss rfl rfl) ?_
      refine h_nil ?_
      refine q_then ?_
      refine h_cond rfl (fun h => ?_) (fun h => ?_)
      · have hst := addI_set s0 v j (by omega)
        have hg := addI_get s0 v j (by omega)
        refine h_skip ?_
        refine q_then ?_
        refine h_seq ?_
        refine h_block ?_
        refine ha_start [.blk g8 (wc .u32 v.l) 143, .blk g3 (wc .u32 (addI s0 v j)) 143] [] mixed (same) ?_
        refine ha_takeP 0 rfl (r_move rfl) ?_
        refine ha_takeP 1 rfl (r_idxA rfl rfl) ?_
        refine ha_take 2 rfl (r_nth rfl (wc_at (by omega))) ?_
        refine ha_takeP 3 rfl (r_move rfl) ?_
        refine ha_takeP 4 rfl (r_idxA rfl rfl) ?_
        refine ha_take 5 rfl (r_nth rfl (wc_at (by omega))) ?_
        refine ha_takeP 6 rfl (r_addW rfl rfl) ?_
        refine ha_takeP 7 rfl (r_idxA rfl rfl) ?_
        refine ha_one 8 ?_
        refine ho_SL 8 rfl (s_setW rfl rfl) ?_
        refine q_block ?_
        refine q_then ?_
        rw [hg, hst]
        refine h_reg ?_
        refine h_op (r_move rfl) ?_
        refine h_op (r_add rfl rfl) ?_
        refine h_op (r_assign rfl) ?_
        refine h_nil ?_
        exact h_back (j + 1) (by omega) (by omega) ⟨rfl, rfl, rfl, rfl, rfl, rfl, rfl, trivial⟩ (same)
      · obtain rfl : j = 8 := by omega
        rw [addI_8, hv, show S8.add s0 (rnds b s0 64) = comp b s0 from rfl, ← hcmp]
        refine h_exit ?_
        refine q_thenE ?_
        refine q_thenE ?_
        refine q_blockE ?_
        refine q_block ?_
        refine q_then ?_
        refine h_reg ?_
        refine h_op (r_move rfl) ?_
        refine h_op (r_add rfl rfl) ?_
        refine h_op (r_assign rfl) ?_
        refine h_nil ?_
        exact h_back (i + 1) (by omega) (by omega) ⟨aI rfl (by omega), rfl, rfl, rfl, rfl, trivial⟩ (same)
  · refine h_exit ?_
    refine q_thenE ?_
    refine q_thenE ?_
    refine q_blockE ?_
    refine q_then ?_
    refine h_seq ?_
    refine h_reg ?_
    refine h_opX (x_alloc) fun g13 => ?_
    refine h_nil ?_
    refine q_then ?_
    refine h_seq ?_
    refine h_seq ?_
    refine h_reg ?_
    refine h_op (r_assign rfl) ?_
    refine h_nil ?_
    refine q_then ?_
    refine h_block ?_
    obtain rfl : i = m := by omega
    rw [← hbl, List.take_length]
    generalize comps (blks q) H0 = s0 at *
    change H _ _ _ _ _ (.blk g13 (bc ((List.range 0).map (outB s0) ++ List.replicate (32 - 0) 0)) _ :: _) _
    refine h_loop (fun (j : Nat) => j ≤ 32) (fun (j : Nat) => [(14, .int .i64 (j : Int)), (13, .pointer (some ⟨g13, 0, none⟩)), (3, .pointer (some ⟨g3, 0, none⟩)), (2, .pointer (some ⟨g2, 0, none⟩))]) (fun (j : Nat) => [.blk g13 (bc ((List.range j).map (outB s0) ++ List.replicate (32 - j) 0)) 41, .blk g3 (wc .u32 s0.l) 143, .blk g2 zB32.cells 41]) (fun (j : Nat) => 32 - j) 0 (by omega) ⟨rfl, rfl, rfl, rfl, trivial⟩ (same) ?_
    intro j hj
    have hfl := fill_len (outB s0) 0 32 j hj
    have hsl : s0.l.length = 8 := rfl
    refine h_seq ?_
    refine h_seq ?_
    refine h_reg ?_
    refine h_op (r_move rfl) ?_
    refine h_op (r_lss rfl rfl) ?_
    refine h_nil ?_
    refine q_then ?_
    refine h_cond rfl (fun h => ?_) (fun h => ?_)
    · have hst := fill_set (outB s0) 0 32 j (by omega)
      refine h_skip ?_
      refine q_then ?_
      refine h_seq ?_
      refine h_block ?_
      refine h_reg ?_
      refine h_op (r_move rfl) ?_
      refine h_op (r_move rfl) ?_
      refine h_op (r_quo rfl rfl) ?_
      refine h_op (r_idxA rfl rfl) ?_
      refine h_op (r_nth rfl (wc_at (by omega))) ?_
      refine h_op (r_move rfl) ?_
      refine h_op (r_rem rfl rfl) ?_
      refine h_op (r_mul rfl rfl) ?_
      refine h_op (r_sub rfl rfl) ?_
      refine h_op (r_cP (q := 24 - 8 * (j % 4)) rfl (by omega) (by omega)) ?_
      refine h_op (r_shr rfl rfl) ?_
      refine h_op (r_cW rfl) ?_
      refine h_op (r_idxA rfl rfl) ?_
      refine h_opS (s_setB rfl rfl) ?_
      refine h_nil ?_
      refine q_block ?_
      refine q_then ?_
      rw [outB_eq, hst]
      refine h_reg ?_
      refine h_op (r_move rfl) ?_
      refine h_op (r_add rfl rfl) ?_
      refine h_op (r_assign rfl) ?_
      refine h_nil ?_
      exact h_back (j + 1) (by omega) (by omega) ⟨rfl, rfl, rfl, rfl, trivial⟩ (same)
    · obtain rfl : j = 32 := by omega
      rw [fill_end]
      change H _ _ _ _ _ (.blk g13 (bc (outL s0)) _ :: _) _
      refine h_exit ?_
      refine q_thenE ?_
      refine q_thenE ?_
      refine q_blockE ?_
      refine q_then ?_
      refine h_seq ?_
      refine h_reg ?_
      refine h_op (r_loadr rfl) ?_
      refine h_opS (s_storer rfl rfl) ?_
      refine h_nil ?_
      refine q_then ?_
      refine h_ret ?_
      exact h_ret1 rfl (rv_row rfl) fun w s => ⟨(), rfl, s.res (List.nil_sublist _) (by simp)⟩
end Go.Proofs.YtgfkbeipckbkiaaDoor
/- U5 -/
namespace Go.Proofs.YtgfkbeipckbkiaaDoor
set_option linter.unusedSimpArgs false
set_option linter.unusedVariables false
open Go.RowKit
theorem ic_one (l : List Nat) : ∀ v ∈ ic l, v.oneCell' = true := by
  intro v hv
  obtain ⟨x, _, rfl⟩ := List.mem_map.1 hv
  rfl
theorem idxd_len : ∀ (l : List Value) (k : Nat), (idxd k l).length = l.length
  | [], _ => rfl
  | _ :: l, k => by rw [idxd, List.length_cons, List.length_cons, idxd_len l]
theorem x_bslI {P : Program} {A : List Fa} {W : World} {n : Nat} {D : List Deferred} {E : Env} {L : List Fa} {t e m bytes : Nat} {z : Value} [E' : TS P t e 1 bytes z] {l : List (Nat × Operand)} (xs : List Nat) (hv : evp E l = some (idxd 0 (ic xs))) (hm : xs.length = m := by rfl) (h0 : 0 < m ∧ m * 1 ≤ 16777216 := by decide) :
    RunsX P A W n D E L (.buildSlice t m l.toArray) (fun g : Nat => .slice (some ⟨g, 0, none⟩) m m) (fun g => .own (.slice (some ⟨g, 0, none⟩) m m) m e 1 (ic xs) :: L) :=
  x_bsl (E' := E') hv (by rw [idxd_len, ic_len, hm]) (hf := parts_idxd _ 0 (ic_one _)) (ho := ⟨by rw [ic_len, hm], ic_one _⟩) (Nat.mul_one _) h0
def acc (l : List UInt8) (i : Nat) : Nat → W32
  | 0 => 0
  | j + 1 => (acc l i j <<< 8) ||| (l.getD (4 * i + j) 0).toBitVec.setWidth 32
theorem acc_4 (l : List UInt8) (i : Nat) : acc l i 4 = wrd l i := by
  unfold wrd
  simp only [acc, BitVec.ofNat_eq_ofNat, BitVec.zero_shiftLeft, BitVec.zero_or, BitVec.shiftLeft_or_distrib, ← BitVec.shiftLeft_add, Nat.reduceAdd, Nat.add_zero]
def winI (l : List UInt8) (i : Nat) : List W32 := (List.range i).map (wrd l) ++ List.replicate (16 - i) 0
def winP (l : List UInt8) (i j : Nat) : List W32 := (List.range i).map (wrd l) ++ acc l i j :: List.replicate (15 - i) 0
theorem winP_0 (l : List UInt8) (i : Nat) (h : i < 16) : winI l i = winP l i 0 := by
  unfold winI winP
  rw [show 16 - i = (15 - i) + 1 by omega, List.replicate_succ]
  rfl
theorem winP_4 (l : List UInt8) (i : Nat) (h : i < 16) : winP l i 4 = winI l (i + 1) := by
  unfold winI winP
  rw [acc_4, List.range_succ, List.map_append, List.append_assoc, show 16 - (i + 1) = 15 - i by omega]
  rfl
theorem winP_len (l : List UInt8) (i j : Nat) (h : i < 16) : (winP l i j).length = 16 := by simp [winP]; omega
theorem winP_get (l : List UInt8) (i j : Nat) : (winP l i j).getD i 0 = acc l i j := by
  unfold winP
  rw [List.getD, List.getElem?_append_right (by simp)]
  simp
theorem winP_set (l : List UInt8) (i j : Nat) : (winP l i j).set i ((acc l i j <<< 8) ||| (l.getD (4 * i + j) 0).toBitVec.setWidth 32) = winP l i (j + 1) := by
  unfold winP
  rw [List.set_append_right _ _ (by simp)]
  simp [acc]
/-- the window behind so many rounds -/
def Win (l : List UInt8) (r : Nat) (w : List W32) : Prop := w.length = 16 ∧ ∀ t, t < max r 16 → max r 16 ≤ t + 16 → w.getD (t % 16) 0 = wat l t
theorem win_0 (l : List UInt8) : Win l 0 (winI l 16) := by
  refine ⟨by simp [winI], fun t h1 _ => ?_⟩
  have h3 : t < 16 := by simpa using h1
  rw [Nat.mod_eq_of_lt h3, wat_lo h3]
  unfold winI
  rw [List.getD, List.getElem?_append_left (by simpa using h3), List.getElem?_map, List.getElem?_range h3]
  rfl
def nextI (w : List W32) (r : Nat) : W32 := w.getD (r % 16) 0 + (((xorl (w.getD ((r + 1) % 16) 0) [7, 18] ^^^ (w.getD ((r + 1) % 16) 0 >>> 3)) + w.getD ((r + 9) % 16) 0) + (xorl (w.getD ((r + 14) % 16) 0) [17, 19] ^^^ (w.getD ((r + 14) % 16) 0 >>> 10)))
theorem nextI_eq {l : List UInt8} {w : List W32} {r : Nat} (h : Win l r w) (h1 : 16 ≤ r) (h2 : r < 64) : nextI w r = wat l r := by
  unfold nextI
  rw [xorl2, xorl2, show r % 16 = (r - 16) % 16 by omega, show (r + 1) % 16 = (r - 15) % 16 by omega, show (r + 9) % 16 = (r - 7) % 16 by omega, show (r + 14) % 16 = (r - 2) % 16 by omega,
    h.2 (r - 16) (by omega) (by omega), h.2 (r - 15) (by omega) (by omega), h.2 (r - 7) (by omega) (by omega), h.2 (r - 2) (by omega) (by omega), wat_hi h1 h2]
  unfold sg0 sg1
  generalize wat l (r - 16) = a
  generalize (rotr (wat l (r - 15)) 7 ^^^ rotr (wat l (r - 15)) 18) ^^^ wat l (r - 15) >>> 3 = b
  generalize (rotr (wat l (r - 2)) 17 ^^^ rotr (wat l (r - 2)) 19) ^^^ wat l (r - 2) >>> 10 = c
  rw [BitVec.add_assoc, BitVec.add_assoc, BitVec.add_assoc]
theorem win_hi {l : List UInt8} {w : List W32} {r : Nat} (h : Win l r w) (h1 : 16 ≤ r) (h2 : r < 64) : Win l (r + 1) (w.set (r % 16) (nextI w r)) := by
  refine ⟨by rw [List.length_set]; exact h.1, fun t h3 h4 => ?_⟩
  have hl := h.1
  by_cases e : t = r
  · subst e
    rw [List.getD, List.getElem?_set, if_pos rfl, if_pos (by omega), nextI_eq h h1 h2, Option.getD_some]
  · rw [List.getD, List.getElem?_set, if_neg (by omega)]
    exact h.2 t (by omega) (by omega)
theorem win_lo {l : List UInt8} {w : List W32} {r : Nat} (h : Win l r w) (h1 : r < 16) : Win l (r + 1) w := ⟨h.1, fun t h3 h4 => h.2 t (by omega) (by omega)⟩
theorem win_at {l : List UInt8} {w : List W32} {r : Nat} (h : Win l (r + 1) w) : w.getD (r % 16) 0 = wat l r := h.2 r (by omega) (by omega)
theorem t1_eq (k w : W32) (v : S8) : (((v.h + xorl v.e [6, 11, 25]) + (v.g ^^^ (v.e &&& (v.f ^^^ v.g)))) + k) + w = t1 k w v := by
  rw [xorl3, ch_eq]; rfl
theorem t2_eq (t : W32) (v : S8) : (t + xorl v.a [2, 13, 22]) + ((v.a &&& v.b) ||| (v.c &&& (v.a ||| v.b))) = t + t2 v := by
  rw [xorl3, maj_eq, BitVec.add_assoc]; rfl
theorem take_s (l : List UInt8) (s : S8) (gs b o c : Nat) (hl : l.length = 64) (hc : 64 ≤ c) : Spec Tryd.prog 103 [.pointer (some ⟨gs, 0, none⟩), .slice (some ⟨b, o, none⟩) 64 c].toArray [.rd (some ⟨b, o, none⟩) (bc l), .rd (some ⟨1, 0, none⟩) (wc .u32 K64)] [.blk gs (S8.cs s) 159] (fun _ : Unit => .tuple #[]) (fun _ => [.blk gs (S8.cs (comp l s)) 159]) := by
  have hK := K64_len
  refine spec_of Tryd.func103 rfl (n := 192) rfl rfl ?_
  intro W
  refine h_seq ?_
  refine h_reg ?_
  refine h_opX (x_alloc) fun g4 => ?_
  refine h_nil ?_
  refine q_then ?_
  refine h_seq ?_
  refine h_seq ?_
  refine h_reg ?_
  refine h_op (r_move rfl) ?_
  refine h_nil ?_
  refine q_then ?_
  refine h_block ?_
  change H _ _ _ _ _ (.blk g4 (wc .u32 (winI l 0)) _ :: _) _
  refine h_loop (fun (i : Nat) => i ≤ 16) (fun (i : Nat) => [(24, .int .i64 (i : Int)), (4, .pointer (some ⟨g4, 0, none⟩)), (1, .slice (some ⟨b, o, none⟩) 64 c), (0, .pointer (some ⟨gs, 0, none⟩))]) (fun (i : Nat) => [.blk g4 (wc .u32 (winI l i)) 169, .blk gs (S8.cs s) 159, .rd (some ⟨b, o, none⟩) (bc l), .rd (some ⟨1, 0, none⟩) (wc .u32 K64)]) (fun (i : Nat) => 16 - i) 0 (by omega) ⟨rfl, rfl, rfl, rfl, trivial⟩ (same) ?_
  intro i hi
  refine h_seq ?_
  refine h_reg ?_
  refine h_op (r_lss rfl rfl) ?_
  refine h_nil ?_
  refine q_then ?_
  refine h_seq ?_
  refine h_cond rfl (fun h => ?_) (fun h => ?_)
  · refine h_skip ?_
    refine q_then ?_
    refine h_seq ?_
    refine h_block ?_
    refine h_seq ?_
    refine h_reg ?_
    refine h_op (r_move rfl) ?_
    refine h_op (r_assign rfl) ?_
    refine h_nil ?_
    refine q_then ?_
    refine h_seq ?_
    refine h_reg ?_
    refine h_op (r_move rfl) ?_
    refine h_op (r_move rfl) ?_
    refine h_op (r_mul rfl rfl) ?_
    refine h_op (r_move rfl) ?_
    refine h_op (r_mul rfl rfl) ?_
    refine h_op (r_add rfl rfl) ?_
    refine h_op (r_slLHb rfl rfl rfl (m := 4)) ?_
    refine h_op (r_len rfl) ?_
    refine h_op (r_move rfl) ?_
    refine h_nil ?_
    refine q_then ?_
    refine h_block ?_
    rw [winP_0 l i (by omega)]
    refine h_loop (fun (j : Nat) => j ≤ 4) (fun (j : Nat) => [(35, .int .i64 (j : Int)), (34, .int .i64 4), (33, .slice (some ⟨b, o + 4 * i, none⟩) 4 (c - 4 * i)), (5, .int .i64 (i : Int)), (24, .int .i64 (i : Int)), (4, .pointer (some ⟨g4, 0, none⟩)), (1, .slice (some ⟨b, o, none⟩) 64 c), (0, .pointer (some ⟨gs, 0, none⟩))]) (fun (j : Nat) => [.blk g4 (wc .u32 (winP l i j)) 169, .blk gs (S8.cs s) 159, .rd (some ⟨b, o, none⟩) (bc l), .rd (some ⟨1, 0, none⟩) (wc .u32 K64)]) (fun (j : Nat) => 4 - j) 0 (by omega) ⟨rfl, rfl, rfl, rfl, rfl, rfl, rfl, rfl, trivial⟩ (same) ?_
    intro j hj
    have hwl := winP_len l i j (by omega)
    refine h_seq ?_
    refine h_reg ?_
    refine h_op (r_lss rfl rfl) ?_
    refine h_nil ?_
    refine q_then ?_
    refine h_seq ?_
    refine h_cond rfl (fun h => ?_) (fun h => ?_)
    · refine h_skip ?_
      refine q_then ?_
      refine h_seq ?_
      refine h_block ?_
      refine h_seq ?_
      refine h_reg ?_
      refine h_op (r_idx rfl rfl (O' := o + (4 * i + j)) (hO := by omega)) ?_
      refine h_op (r_nth rfl (bc_at' (by omega))) ?_
      refine h_op (r_assign rfl) ?_
      refine h_nil ?_
      refine q_then ?_
      refine h_reg ?_
      refine h_op (r_move rfl) ?_
      refine h_op (r_move rfl) ?_
      refine h_op (r_idxA rfl rfl) ?_
      refine h_op (r_nth rfl (wc_at (by omega))) ?_
      refine h_op (r_shl rfl rfl) ?_
      refine h_op (r_move rfl) ?_
      refine h_op (r_cW rfl) ?_
      refine h_op (r_or rfl rfl) ?_
      refine h_op (r_idxA rfl rfl) ?_
      refine h_opS (s_setW rfl rfl) ?_
      refine h_nil ?_
      refine q_block ?_
      refine q_then ?_
      rw [winP_get, winP_set]
      refine h_reg ?_
      refine h_op (r_add rfl rfl) ?_
      refine h_op (r_move rfl) ?_
      refine h_nil ?_
      exact h_back (j + 1) (by omega) (by omega) ⟨rfl, rfl, rfl, rfl, rfl, rfl, rfl, rfl, trivial⟩ (same)
    · obtain rfl : j = 4 := by omega
      rw [winP_4 l i (by omega)]
      refine h_exit ?_
      refine q_thenE ?_
      refine q_thenE ?_
      refine q_blockE ?_
      refine q_block ?_
      refine q_then ?_
      refine h_reg ?_
      refine h_op (r_add rfl rfl) ?_
      refine h_op (r_move rfl) ?_
      refine h_nil ?_
      exact h_back (i + 1) (by omega) (by omega) ⟨rfl, rfl, rfl, rfl, trivial⟩ (same)
  · obtain rfl : i = 16 := by omega
    refine h_exit ?_
    refine q_thenE ?_
    refine q_thenE ?_
    refine q_blockE ?_
    refine q_then ?_
    refine h_seq ?_
    refine ha_start [.blk gs (S8.cs s) 159] [] mixed (same) ?_
    refine ha_takeP 0 rfl (r_move rfl) ?_
    refine ha_takeP 1 rfl (r_nilc rfl) ?_
    refine ha_takeP 2 rfl (r_idxA rfl rfl) ?_
    refine ha_take 3 rfl (r_loadc rfl) ?_
    refine ha_takeP 4 rfl (r_move rfl) ?_
    refine ha_takeP 5 rfl (r_nilc rfl) ?_
    refine ha_takeP 6 rfl (r_idxA rfl rfl) ?_
    refine ha_take 7 rfl (r_loadc rfl) ?_
    refine ha_takeP 8 rfl (r_move rfl) ?_
    refine ha_takeP 9 rfl (r_nilc rfl) ?_
    refine ha_takeP 10 rfl (r_idxA rfl rfl) ?_
    refine ha_take 11 rfl (r_loadc rfl) ?_
    refine ha_takeP 12 rfl (r_move rfl) ?_
    refine ha_takeP 13 rfl (r_nilc rfl) ?_
    refine ha_takeP 14 rfl (r_idxA rfl rfl) ?_
    refine ha_take 15 rfl (r_loadc rfl) ?_
    refine ha_takeP 16 rfl (r_move rfl) ?_
    refine ha_takeP 17 rfl (r_nilc rfl) ?_
    refine ha_takeP 18 rfl (r_idxA rfl rfl) ?_
    refine ha_take 19 rfl (r_loadc rfl) ?_
    refine ha_takeP 20 rfl (r_move rfl) ?_
    refine ha_takeP 21 rfl (r_nilc rfl) ?_
    refine ha_takeP 22 rfl (r_idxA rfl rfl) ?_
    refine ha_take 23 rfl (r_loadc rfl) ?_
    refine ha_takeP 24 rfl (r_move rfl) ?_
    refine ha_takeP 25 rfl (r_nilc rfl) ?_
    refine ha_takeP 26 rfl (r_idxA rfl rfl) ?_
    refine ha_take 27 rfl (r_loadc rfl) ?_
    refine ha_takeP 28 rfl (r_move rfl) ?_
    refine ha_takeP 29 rfl (r_nilc rfl) ?_
    refine ha_takeP 30 rfl (r_idxA rfl rfl) ?_
    refine ha_take 31 rfl (r_loadc rfl) ?_
    refine ha_takeP 32 rfl (r_assign rfl) ?_
    refine ha_takeP 33 rfl (r_assign rfl) ?_
    refine ha_takeP 34 rfl (r_assign rfl) ?_
    refine ha_takeP 35 rfl (r_assign rfl) ?_
    refine ha_takeP 36 rfl (r_assign rfl) ?_
    refine ha_takeP 37 rfl (r_assign rfl) ?_
    refine ha_takeP 38 rfl (r_assign rfl) ?_
    refine ha_takeP 39 rfl (r_assign rfl) ?_
    refine ha_done (by kernel_rfl) ?_
    refine q_then ?_
    refine h_seq ?_
    refine h_seq ?_
    refine h_reg ?_
    refine h_op (r_loadr rfl) ?_
    refine h_op (r_move rfl) ?_
    refine h_nil ?_
    refine q_then ?_
    refine h_block ?_
    refine h_loop (fun (u : Nat × List W32 × S8) => u.1 ≤ 64 ∧ Win l u.1 u.2.1 ∧ u.2.2 = rnds l s u.1) (fun (u : Nat × List W32 × S8) => [(83, .int .i64 (u.1 : Int)), (82, .agg (wc .u32 K64).toArray), (8, .int .u32 (u.2.2.a.toNat : Int)), (9, .int .u32 (u.2.2.b.toNat : Int)), (10, .int .u32 (u.2.2.c.toNat : Int)), (11, .int .u32 (u.2.2.d.toNat : Int)), (12, .int .u32 (u.2.2.e.toNat : Int)), (13, .int .u32 (u.2.2.f.toNat : Int)), (14, .int .u32 (u.2.2.g.toNat : Int)), (15, .int .u32 (u.2.2.h.toNat : Int)), (4, .pointer (some ⟨g4, 0, none⟩)), (0, .pointer (some ⟨gs, 0, none⟩))]) (fun (u : Nat × List W32 × S8) => [.blk g4 (wc .u32 u.2.1) 169, .blk gs (S8.cs s) 159, .rd (some ⟨1, 0, none⟩) (wc .u32 K64)]) (fun (u : Nat × List W32 × S8) => 64 - u.1) (0, winI l 16, rnds l s 0) ((show 0 ≤ 64 ∧ Win l 0 (winI l 16) ∧ rnds l s 0 = rnds l s 0 from ⟨by decide, win_0 l, rfl⟩)) ⟨rfl, rfl, rfl, rfl, rfl, rfl, rfl, rfl, rfl, rfl, rfl, rfl, trivial⟩ (same) ?_
    rintro ⟨r, w, v⟩ ⟨hr, hw, hv⟩
    dsimp only at hr hw hv ⊢
    have hwl := hw.1
    have hr1 := rnds_s l s r
    rw [← hv] at hr1
    refine h_seq ?_
    refine h_reg ?_
    refine h_op (r_lss rfl rfl) ?_
    refine h_nil ?_
    refine q_then ?_
    refine h_seq ?_
    refine h_cond rfl (fun h => ?_) (fun h => ?_)
    · refine h_skip ?_
      refine q_then ?_
      refine h_seq ?_
      refine h_block ?_
      refine h_seq ?_
      refine h_reg ?_
      refine h_op (r_move rfl) ?_
      refine h_op (r_ixc rfl rfl (wc_at (by omega))) ?_
      refine h_op (r_assign rfl) ?_
      refine h_op (r_assign rfl) ?_
      refine h_nil ?_
      refine q_then ?_
      refine h_seq ?_
      refine h_reg ?_
      refine h_op (r_move rfl) ?_
      refine h_op (r_rem rfl rfl) ?_
      refine h_op (r_assign rfl) ?_
      refine h_nil ?_
      refine q_then ?_
      refine h_seq ?_
      refine h_seq ?_
      refine h_reg ?_
      refine h_op (r_move rfl) ?_
      refine h_op (r_geq rfl rfl) ?_
      refine h_nil ?_
      refine q_then ?_
      refine h_cond rfl (fun h2 => ?_) (fun h2 => ?_)
      · refine h_seq ?_
        refine ha_start [.blk g4 (wc .u32 w) 169] [] mixed (same) ?_
        refine ha_takeP 0 rfl (r_move rfl) ?_
        refine ha_takeP 1 rfl (r_add rfl rfl) ?_
        refine ha_takeP 2 rfl (r_rem rfl rfl) ?_
        refine ha_takeP 3 rfl (r_idxA rfl rfl) ?_
        refine ha_take 4 rfl (r_nth rfl (wc_at (by omega))) ?_
        refine ha_takeP 5 rfl (r_move rfl) ?_
        refine ha_takeP 6 rfl (r_add rfl rfl) ?_
        refine ha_takeP 7 rfl (r_rem rfl rfl) ?_
        refine ha_takeP 8 rfl (r_idxA rfl rfl) ?_
        refine ha_take 9 rfl (r_nth rfl (wc_at (by omega))) ?_
        refine ha_takeP 10 rfl (r_assign rfl) ?_
        refine ha_takeP 11 rfl (r_assign rfl) ?_
        refine ha_done (by kernel_rfl) ?_
        refine q_then ?_
        refine h_join (fun (_ : Unit) => [(83, .int .i64 (r : Int)), (82, .agg (wc .u32 K64).toArray), (16, .int .i64 (r : Int)), (17, .int .u32 ((K64.getD r 0).toNat : Int)), (18, .int .i64 ((r : Int) % 16)), (8, .int .u32 (v.a.toNat : Int)), (9, .int .u32 (v.b.toNat : Int)), (10, .int .u32 (v.c.toNat : Int)), (11, .int .u32 (v.d.toNat : Int)), (12, .int .u32 (v.e.toNat : Int)), (13, .int .u32 (v.f.toNat : Int)), (14, .int .u32 (v.g.toNat : Int)), (15, .int .u32 (v.h.toNat : Int)), (4, .pointer (some ⟨g4, 0, none⟩)), (0, .pointer (some ⟨gs, 0, none⟩))]) (fun (_ : Unit) => [.blk g4 (wc .u32 (w.set (r % 16) (w.getD (r % 16) 0 + (((xorl (w.getD ((r + 1) % 16) 0) [7, 18] ^^^ (w.getD ((r + 1) % 16) 0 >>> 3)) + w.getD ((r + 9) % 16) 0) + (xorl (w.getD ((r + 14) % 16) 0) [17, 19] ^^^ (w.getD ((r + 14) % 16) 0 >>> 10)))))) 169, .blk gs (S8.cs s) 159, .rd (some ⟨1, 0, none⟩) (wc .u32 K64)]) (fun kk => ?_) ?_
        · refine ha_start [.blk g4 (wc .u32 w) 169] [] mixed (same) ?_
          refine ha_takeP 0 rfl (r_move rfl) ?_
          refine ha_takeP 1 rfl (r_idxA rfl rfl) ?_
          refine ha_take 2 rfl (r_nth rfl (wc_at (by omega))) ?_
          refine ha_takeP 3 rfl (r_move rfl) ?_
          refine ha_takeP 6 rfl (r_move rfl) ?_
          refine ha_takeP 7 rfl (r_shr rfl rfl) ?_
          refine ha_takeP 9 rfl (r_move rfl) ?_
          refine ha_takeP 10 rfl (r_add rfl rfl) ?_
          refine ha_takeP 11 rfl (r_rem rfl rfl) ?_
          refine ha_takeP 12 rfl (r_idxA rfl rfl) ?_
          refine ha_take 13 rfl (r_nth rfl (wc_at (by omega))) ?_
          refine ha_takeP 15 rfl (r_move rfl) ?_
          refine ha_takeP 18 rfl (r_move rfl) ?_
          refine ha_takeP 19 rfl (r_shr rfl rfl) ?_
          refine ha_two 4 16 ?_ ?_
          · refine ho_X 4 rfl (rk (x_bslI [7, 18] rfl)) (fun _ => same) fun g105 => ?_
            refine ha_two 5 16 ?_ ?_
            · refine ho_C 5 rfl ((right_s _ [7, 18] (by decide) g105 0 2 (by decide)).comes) rfl rfl rfl (fun xx => same) fun _ => ?_
              refine ha_takeP 8 rfl (r_xor rfl rfl) ?_
              refine ha_takeP 14 rfl (r_addW rfl rfl) ?_
              refine ha_one 16 ?_
              refine ho_X 16 rfl (rk (x_bslI [17, 19] rfl)) (fun _ => same) fun g117 => ?_
              refine ha_one 17 ?_
              refine ho_C 17 rfl ((right_s _ [17, 19] (by decide) g117 0 2 (by decide)).comes) rfl rfl rfl (fun xx => same) fun _ => ?_
              refine ha_takeP 20 rfl (r_xor rfl rfl) ?_
              refine ha_takeP 21 rfl (r_addW rfl rfl) ?_
              refine ha_takeP 22 rfl (r_addW rfl rfl) ?_
              refine ha_takeP 23 rfl (r_idxA rfl rfl) ?_
              refine ha_one 24 ?_
              refine ho_SL 24 rfl (s_setW rfl rfl) ?_
              exact h_K (kk ()) (⟨rfl, rfl, rfl, rfl, rfl, rfl, rfl, rfl, rfl, rfl, rfl, rfl, rfl, rfl, rfl, trivial⟩) same
            · refine ho_X 16 rfl (rk (x_bslI [17, 19] rfl)) (fun _ => same) fun g117 => ?_
              refine ha_one 5 ?_
              refine ho_C 5 rfl ((right_s _ [7, 18] (by decide) g105 0 2 (by decide)).comes) rfl rfl rfl (fun xx => same) fun _ => ?_
              refine ha_takeP 8 rfl (r_xor rfl rfl) ?_
              refine ha_takeP 14 rfl (r_addW rfl rfl) ?_
              refine ha_one 17 ?_
              refine ho_C 17 rfl ((right_s _ [17, 19] (by decide) g117 0 2 (by decide)).comes) rfl rfl rfl (fun xx => same) fun _ => ?_
              refine ha_takeP 20 rfl (r_xor rfl rfl) ?_
              refine ha_takeP 21 rfl (r_addW rfl rfl) ?_
              refine ha_takeP 22 rfl (r_addW rfl rfl) ?_
              refine ha_takeP 23 rfl (r_idxA rfl rfl) ?_
              refine ha_one 24 ?_
              refine ho_SL 24 rfl (s_setW rfl rfl) ?_
              exact h_K (kk ()) (⟨rfl, rfl, rfl, rfl, rfl, rfl, rfl, rfl, rfl, rfl, rfl, rfl, rfl, rfl, rfl, trivial⟩) same
          · refine ho_X 16 rfl (rk (x_bslI [17, 19] rfl)) (fun _ => same) fun g117 => ?_
            refine ha_one 4 ?_
            refine ho_X 4 rfl (rk (x_bslI [7, 18] rfl)) (fun _ => same) fun g105 => ?_
            refine ha_one 5 ?_
            refine ho_C 5 rfl ((right_s _ [7, 18] (by decide) g105 0 2 (by decide)).comes) rfl rfl rfl (fun xx => same) fun _ => ?_
            refine ha_takeP 8 rfl (r_xor rfl rfl) ?_
            refine ha_takeP 14 rfl (r_addW rfl rfl) ?_
            refine ha_one 17 ?_
            refine ho_C 17 rfl ((right_s _ [17, 19] (by decide) g117 0 2 (by decide)).comes) rfl rfl rfl (fun xx => same) fun _ => ?_
            refine ha_takeP 20 rfl (r_xor rfl rfl) ?_
            refine ha_takeP 21 rfl (r_addW rfl rfl) ?_
            refine ha_takeP 22 rfl (r_addW rfl rfl) ?_
            refine ha_takeP 23 rfl (r_idxA rfl rfl) ?_
            refine ha_one 24 ?_
            refine ho_SL 24 rfl (s_setW rfl rfl) ?_
            exact h_K (kk ()) (⟨rfl, rfl, rfl, rfl, rfl, rfl, rfl, rfl, rfl, rfl, rfl, rfl, rfl, rfl, rfl, trivial⟩) same
        rintro _
        refine q_then ?_
        refine h_seq ?_
        change H _ _ _ _ _ (.blk g4 (wc .u32 (w.set (r % 16) (nextI w r))) _ :: _) _
        have hw2 := win_hi hw (by omega) (by omega)
        have hwe := win_at hw2
        have hwl2 := hw2.1
        have h18 := t1_eq (K64.getD r 0) (wat l r) v
        have h20 := t2_eq (t1 (K64.getD r 0) (wat l r) v) v
        refine ha_start [.blk g4 (wc .u32 (w.set (r % 16) (nextI w r))) 169] [] mixed (same) ?_
        refine ha_takeP 0 rfl (r_move rfl) ?_
        refine ha_takeP 1 rfl (r_move rfl) ?_
        refine ha_takeP 5 rfl (r_move rfl) ?_
        refine ha_takeP 6 rfl (r_move rfl) ?_
        refine ha_takeP 7 rfl (r_move rfl) ?_
        refine ha_takeP 8 rfl (r_move rfl) ?_
        refine ha_takeP 9 rfl (r_xor rfl rfl) ?_
        refine ha_takeP 10 rfl (r_and rfl rfl) ?_
        refine ha_takeP 11 rfl (r_xor rfl rfl) ?_
        refine ha_takeP 13 rfl (r_move rfl) ?_
        refine ha_takeP 15 rfl (r_move rfl) ?_
        refine ha_takeP 16 rfl (r_idxA rfl rfl) ?_
        refine ha_take 17 rfl (r_nth rfl (wc_at (by omega))) ?_
        refine ha_one 2 ?_
        refine ho_X 2 rfl (rk (x_bslI [6, 11, 25] rfl)) (fun _ => same) fun g127 => ?_
        refine ha_one 3 ?_
        refine ho_C 3 rfl ((right_s _ [6, 11, 25] (by decide) g127 0 3 (by decide)).comes) rfl rfl rfl (fun xx => same) fun _ => ?_
        refine ha_takeP 4 rfl (r_addW rfl rfl) ?_
        refine ha_takeP 12 rfl (r_addW rfl rfl) ?_
        refine ha_takeP 14 rfl (r_addW rfl rfl) ?_
        refine ha_takeP 18 rfl (r_addW rfl rfl) ?_
        refine ha_takeP 19 rfl (r_assign rfl) ?_
        refine ha_done (by kernel_rfl) ?_
        refine q_then ?_
        rw [hwe, h18]
        refine h_seq ?_
        refine h_reg ?_
        refine h_op (r_move rfl) ?_
        refine h_op (r_move rfl) ?_
        refine h_op (r_move rfl) ?_
        refine h_op (r_move rfl) ?_
        refine h_op (r_move rfl) ?_
        refine h_op (r_addW rfl rfl) ?_
        refine h_op (r_assign rfl) ?_
        refine h_op (r_assign rfl) ?_
        refine h_op (r_assign rfl) ?_
        refine h_op (r_assign rfl) ?_
        refine h_nil ?_
        refine q_then ?_
        refine h_reg ?_
        refine h_op (r_move rfl) ?_
        refine h_op (r_move rfl) ?_
        refine h_op (r_move rfl) ?_
        refine h_op (r_move rfl) ?_
        refine h_op (r_move rfl) ?_
        refine h_opX (x_bslI [2, 13, 22] rfl) fun g155 => ?_
        refine h_call ((right_s _ [2, 13, 22] (by decide) g155 0 3 (by decide)).comes) rfl rfl rfl fun _ => ?_
        refine h_op (r_addW rfl rfl) ?_
        refine h_op (r_move rfl) ?_
        refine h_op (r_move rfl) ?_
        refine h_op (r_and rfl rfl) ?_
        refine h_op (r_move rfl) ?_
        refine h_op (r_move rfl) ?_
        refine h_op (r_move rfl) ?_
        refine h_op (r_or rfl rfl) ?_
        refine h_op (r_and rfl rfl) ?_
        refine h_op (r_or rfl rfl) ?_
        refine h_op (r_addW rfl rfl) ?_
        refine h_op (r_assign rfl) ?_
        refine h_op (r_assign rfl) ?_
        refine h_op (r_assign rfl) ?_
        refine h_op (r_assign rfl) ?_
        refine h_nil ?_
        refine q_block ?_
        refine q_then ?_
        rw [h20]
        refine h_reg ?_
        refine h_op (r_add rfl rfl) ?_
        refine h_op (r_move rfl) ?_
        refine h_nil ?_
        exact h_back (r + 1, (w.set (r % 16) (nextI w r)), rnd (K64.getD r 0) (wat l r) v) ((show r + 1 ≤ 64 ∧ Win l (r + 1) (w.set (r % 16) (nextI w r)) ∧ rnd (K64.getD r 0) (wat l r) v = rnds l s (r + 1) from ⟨by omega, hw2, hr1.symm⟩)) ((show 64 - (r + 1) < 64 - r by omega)) ⟨rfl, rfl, rfl, rfl, rfl, rfl, rfl, rfl, rfl, rfl, rfl, rfl, trivial⟩ (same)
      · refine h_skip ?_
        refine q_then ?_
        refine h_seq ?_
        have hw2 := win_lo hw (by omega)
        have hwe := win_at hw2
        have h18 := t1_eq (K64.getD r 0) (wat l r) v
        have h20 := t2_eq (t1 (K64.getD r 0) (wat l r) v) v
        refine ha_start [.blk g4 (wc .u32 w) 169] [] mixed (same) ?_
        refine ha_takeP 0 rfl (r_move rfl) ?_
        refine ha_takeP 1 rfl (r_move rfl) ?_
        refine ha_takeP 5 rfl (r_move rfl) ?_
        refine ha_takeP 6 rfl (r_move rfl) ?_
        refine ha_takeP 7 rfl (r_move rfl) ?_
        refine ha_takeP 8 rfl (r_move rfl) ?_
        refine ha_takeP 9 rfl (r_xor rfl rfl) ?_
        refine ha_takeP 10 rfl (r_and rfl rfl) ?_
        refine ha_takeP 11 rfl (r_xor rfl rfl) ?_
        refine ha_takeP 13 rfl (r_move rfl) ?_
        refine ha_takeP 15 rfl (r_move rfl) ?_
        refine ha_takeP 16 rfl (r_idxA rfl rfl) ?_
        refine ha_take 17 rfl (r_nth rfl (wc_at (by omega))) ?_
        refine ha_one 2 ?_
        refine ho_X 2 rfl (rk (x_bslI [6, 11, 25] rfl)) (fun _ => same) fun g127 => ?_
        refine ha_one 3 ?_
        refine ho_C 3 rfl ((right_s _ [6, 11, 25] (by decide) g127 0 3 (by decide)).comes) rfl rfl rfl (fun xx => same) fun _ => ?_
        refine ha_takeP 4 rfl (r_addW rfl rfl) ?_
        refine ha_takeP 12 rfl (r_addW rfl rfl) ?_
        refine ha_takeP 14 rfl (r_addW rfl rfl) ?_
        refine ha_takeP 18 rfl (r_addW rfl rfl) ?_
        refine ha_takeP 19 rfl (r_assign rfl) ?_
        refine ha_done (by kernel_rfl) ?_
        refine q_then ?_
        rw [hwe, h18]
        refine h_seq ?_
        refine h_reg ?_
        refine h_op (r_move rfl) ?_
        refine h_op (r_move rfl) ?_
        refine h_op (r_move rfl) ?_
        refine h_op (r_move rfl) ?_
        refine h_op (r_move rfl) ?_
        refine h_op (r_addW rfl rfl) ?_
        refine h_op (r_assign rfl) ?_
        refine h_op (r_assign rfl) ?_
        refine h_op (r_assign rfl) ?_
        refine h_op (r_assign rfl) ?_
        refine h_nil ?_
        refine q_then ?_
        refine h_reg ?_
        refine h_op (r_move rfl) ?_
        refine h_op (r_move rfl) ?_
        refine h_op (r_move rfl) ?_
        refine h_op (r_move rfl) ?_
        refine h_op (r_move rfl) ?_
        refine h_opX (x_bslI [2, 13, 22] rfl) fun g155 => ?_
        refine h_call ((right_s _ [2, 13, 22] (by decide) g155 0 3 (by decide)).comes) rfl rfl rfl fun _ => ?_
        refine h_op (r_addW rfl rfl) ?_
        refine h_op (r_move rfl) ?_
        refine h_op (r_move rfl) ?_
        refine h_op (r_and rfl rfl) ?_
        refine h_op (r_move rfl) ?_
        refine h_op (r_move rfl) ?_
        refine h_op (r_move rfl) ?_
        refine h_op (r_or rfl rfl) ?_
        refine h_op (r_and rfl rfl) ?_
        refine h_op (r_or rfl rfl) ?_
        refine h_op (r_addW rfl rfl) ?_
        refine h_op (r_assign rfl) ?_
        refine h_op (r_assign rfl) ?_
        refine h_op (r_assign rfl) ?_
        refine h_op (r_assign rfl) ?_
        refine h_nil ?_
        refine q_block ?_
        refine q_then ?_
        rw [h20]
        refine h_reg ?_
        refine h_op (r_add rfl rfl) ?_
        refine h_op (r_move rfl) ?_
        refine h_nil ?_
        exact h_back (r + 1, w, rnd (K64.getD r 0) (wat l r) v) ((show r + 1 ≤ 64 ∧ Win l (r + 1) (w) ∧ rnd (K64.getD r 0) (wat l r) v = rnds l s (r + 1) from ⟨by omega, hw2, hr1.symm⟩)) ((show 64 - (r + 1) < 64 - r by omega)) ⟨rfl, rfl, rfl, rfl, rfl, rfl, rfl, rfl, rfl, rfl, rfl, rfl, trivial⟩ (same)
    · obtain rfl : r = 64 := by omega
      refine h_exit ?_
      refine q_thenE ?_
      refine q_thenE ?_
      refine q_blockE ?_
      refine q_then ?_
      refine h_seq ?_
      refine h_reg ?_
      refine h_op (r_move rfl) ?_
      refine h_op (r_move rfl) ?_
      refine h_op (r_move rfl) ?_
      refine h_op (r_move rfl) ?_
      refine h_op (r_move rfl) ?_
      refine h_op (r_move rfl) ?_
      refine h_op (r_move rfl) ?_
      refine h_op (r_move rfl) ?_
      refine h_op (r_build rfl) ?_
      refine h_op (r_move rfl) ?_
      refine h_nil ?_
      refine q_then ?_
      refine h_block ?_
      rw [S8.cs_eq s, ← addI_0 s v]
      refine h_loop (fun (j : Nat) => j ≤ 8) (fun (j : Nat) => [(178, .int .i64 (j : Int)), (177, .agg (S8.cs v).toArray), (0, .pointer (some ⟨gs, 0, none⟩))]) (fun (j : Nat) => [.blk gs (wc .u32 (addI s v j)) 159]) (fun (j : Nat) => 8 - j) 0 (by omega) ⟨rfl, rfl, rfl, trivial⟩ (same) ?_
      intro j hj
      have hal := addI_len s v j
      refine h_seq ?_
      refine h_reg ?_
      refine h_op (r_lss rfl rfl) ?_
      refine h_nil ?_
      refine q_then ?_
      refine h_seq ?_
      refine h_cond rfl (fun h => ?_) (fun h => ?_)
      · have hst := addI_set s v j (by omega)
        have hg := addI_get s v j (by omega)
        refine h_skip ?_
        refine q_then ?_
        refine h_seq ?_
        refine h_block ?_
        refine h_seq ?_
        refine h_reg ?_
        refine h_op (r_move rfl) ?_
        refine h_op (r_ixc rfl rfl (S8.cs_at v (by omega))) ?_
        refine h_op (r_assign rfl) ?_
        refine h_op (r_assign rfl) ?_
        refine h_nil ?_
        refine q_then ?_
        refine ha_start [.blk gs (wc .u32 (addI s v j)) 159] [] mixed (same) ?_
        refine ha_takeP 0 rfl (r_move rfl) ?_
        refine ha_takeP 1 rfl (r_move rfl) ?_
        refine ha_takeP 2 rfl (r_nilc rfl) ?_
        refine ha_takeP 3 rfl (r_idxA rfl rfl) ?_
        refine ha_take 4 rfl (r_nth rfl (wc_at (by omega))) ?_
        refine ha_takeP 5 rfl (r_move rfl) ?_
        refine ha_takeP 6 rfl (r_addW rfl rfl) ?_
        refine ha_takeP 7 rfl (r_nilc rfl) ?_
        refine ha_takeP 8 rfl (r_idxA rfl rfl) ?_
        refine ha_one 9 ?_
        refine ho_SL 9 rfl (s_setW rfl rfl) ?_
        refine q_block ?_
        refine q_then ?_
        rw [hg, hst]
        refine h_reg ?_
        refine h_op (r_add rfl rfl) ?_
        refine h_op (r_move rfl) ?_
        refine h_nil ?_
        exact h_back (j + 1) (by omega) (by omega) ⟨rfl, rfl, rfl, trivial⟩ (same)
      · obtain rfl : j = 8 := by omega
        rw [addI_8, hv, show S8.add s (rnds l s 64) = comp l s from rfl, ← S8.cs_eq]
        refine h_exit ?_
        refine q_thenE ?_
        refine q_thenE ?_
        refine q_blockE ?_
        refine h_end ?_
        exact h_ret0 rfl fun w s => ⟨(), rfl, s.res (List.Sublist.refl _) (by simp [Fa.wr])⟩
end Go.Proofs.YtgfkbeipckbkiaaDoor
/- U6 -/
namespace Go.Proofs.YtgfkbeipckbkiaaDoor
set_option linter.unusedSimpArgs false
set_option linter.unusedVariables false
open Go.RowKit
theorem start_s : Spec Tryd.prog 102 ([] : List Value).toArray [] [] (fun _ : Unit => .agg (wc .u32 H0.l).toArray) (fun _ => []) := by
  refine spec_of Tryd.func102 rfl (n := 2) rfl rfl ?_
  intro W
  refine h_seq ?_
  refine h_reg ?_
  refine h_opX (x_alloc) fun g0 => ?_
  refine h_nil ?_
  refine q_then ?_
  refine h_seq ?_
  refine h_reg ?_
  refine h_op (r_build rfl) ?_
  refine h_opS (s_storer rfl rfl) ?_
  refine h_nil ?_
  refine q_then ?_
  refine h_ret ?_
  change H _ _ _ _ _ [.blk g0 (wc .u32 H0.l) _] _
  exact h_ret1 rfl (rv_row rfl) fun w s => ⟨(), rfl, s.res (List.nil_sublist _) (by simp)⟩
theorem range_cut {m i : Nat} (h : i < m) : List.range m = List.range i ++ i :: (List.range m).drop (i + 1) := by
  have h1 := (List.take_append_drop i (List.range m)).symm
  rwa [List.take_range, Nat.min_eq_left (by omega), List.drop_eq_getElem_cons (by simpa using h), List.getElem_range] at h1
theorem sameR {A : List Fa} {W w : World} {r1 r2 : Fa} {L : List Fa} (s : Sx A W w (r1 :: r2 :: L)) : Sx A W w [r1, r2] := s.sub (((List.nil_sublist L).cons_cons r2).cons_cons r1)
theorem Chunk_s (A : Option Addr) (N c : Nat) : Spec Tryd.prog 104 [.slice A N c, .int .i64 64].toArray [] [] (fun u : Nat × Nat => .func (.func 110) #[] [.pointer (some ⟨u.1, 0, none⟩), .pointer (some ⟨u.2, 0, none⟩)].toArray) (fun u => [.blk u.1 [.slice A N c] 35, .blk u.2 [.int .i64 64] 3]) := by
  refine spec_of Tryd.func104 rfl (n := 9) rfl rfl ?_
  intro W
  refine h_seq ?_
  refine h_reg ?_
  refine h_opX (x_box1 rfl) fun g2 => ?_
  refine h_opX (x_box1 rfl) fun g3 => ?_
  refine h_op (r_assign rfl) ?_
  refine h_nil ?_
  refine q_then ?_
  refine h_seq ?_
  refine h_seq ?_
  refine h_reg ?_
  refine h_op (r_loadc rfl) ?_
  refine h_op (r_lss rfl rfl) ?_
  refine h_nil ?_
  refine q_then ?_
  refine h_condF rfl ?_
  refine h_skip ?_
  refine q_then ?_
  refine h_seq ?_
  refine h_reg ?_
  refine h_op (r_func rfl rfl) ?_
  refine h_op (r_assign rfl) ?_
  refine h_nil ?_
  refine q_then ?_
  refine h_ret ?_
  exact h_ret1 rfl rfl fun w s => ⟨(g2, g3), rfl, (same w s).res (List.Sublist.refl _) (by simp [Fa.wr])⟩
/-- the parts of a row of 64 m bytes -/
theorem Chunk_it (b o c m g1 g2 : Nat) (hc : 64 * m ≤ c) (hm : m ≤ 1000000000000) : Iter Tryd.prog 110 [.pointer (some ⟨g1, 0, none⟩), .pointer (some ⟨g2, 0, none⟩)] [.rd (some ⟨g1, 0, none⟩) [.slice (some ⟨b, o, none⟩) (64 * m) c], .rd (some ⟨g2, 0, none⟩) [.int .i64 64]] [] (List.range m) (fun i => [.slice (some ⟨b, o + 64 * i, none⟩) 64 64]) [] := by
  refine iter_of Tryd.func110 rfl (n := 31) rfl rfl ?_
  intro l J Rm m0 W hJw hRm hy h0
  refine h_seq ?_
  refine h_reg ?_
  refine h_op (r_assign rfl) ?_
  refine h_nil ?_
  refine q_then ?_
  refine h_block ?_
  refine h_loop (fun (s : Nat × List Fa) => s.1 ≤ m ∧ J (List.range s.1) s.2) (fun (s : Nat × List Fa) => [(4, .int .i64 ((64 * s.1 : Nat) : Int)), (0, .func (.yield l) #[] #[]), (1, .pointer (some ⟨g1, 0, none⟩)), (2, .pointer (some ⟨g2, 0, none⟩))]) (fun (s : Nat × List Fa) => .rd (some ⟨g1, 0, none⟩) [.slice (some ⟨b, o, none⟩) (64 * m) c] :: .rd (some ⟨g2, 0, none⟩) [.int .i64 64] :: (s.2 ++ Rm)) (fun (s : Nat × List Fa) => m - s.1) (0, m0) ((show 0 ≤ m ∧ J (List.range 0) m0 from ⟨by omega, h0⟩)) ⟨rfl, rfl, rfl, rfl, trivial⟩ (fun _ s => s) ?_
  rintro ⟨i, mm⟩ ⟨hi, hJ⟩
  dsimp only at hi hJ ⊢
  refine h_seq ?_
  refine h_seq ?_
  refine h_reg ?_
  refine h_op (r_move rfl) ?_
  refine h_op (r_loadc rfl) ?_
  refine h_op (r_len rfl) ?_
  refine h_op (r_lss rfl rfl) ?_
  refine h_nil ?_
  refine q_then ?_
  refine h_cond rfl (fun h => ?_) (fun h => ?_)
  · have hi2 : i < m := by omega
    refine h_skip ?_
    refine q_then ?_
    refine h_seq ?_
    refine h_block ?_
    refine h_seq ?_
    refine ha_start [.rd (some ⟨g1, 0, none⟩) [.slice (some ⟨b, o, none⟩) (64 * m) c], .rd (some ⟨g2, 0, none⟩) [.int .i64 64]] [] mixed (fun _ s => sameR s) ?_
    refine ha_take 0 rfl (r_loadc rfl) ?_
    refine ha_take 1 rfl (r_loadc rfl) ?_
    refine ha_takeP 2 rfl (r_move rfl) ?_
    refine ha_takeP 3 rfl (r_slL rfl rfl) ?_
    refine ha_takeP 4 rfl (r_len rfl) ?_
    refine ha_takeP 5 rfl (r_int (r_min rfl rfl) (show _ = (64 : Int) by rw [if_neg (by omega)])) ?_
    refine ha_takeP 6 rfl (r_assign rfl) ?_
    refine ha_done (by kernel_rfl) ?_
    refine q_then ?_
    refine h_seq ?_
    refine h_reg ?_
    refine h_op (r_move rfl) ?_
    refine h_op (r_loadc rfl) ?_
    refine h_op (r_move rfl) ?_
    refine h_op (r_move rfl) ?_
    refine h_op (r_move rfl) ?_
    refine h_op (r_add rfl rfl) ?_
    refine h_op (r_move rfl) ?_
    refine h_op (r_move rfl) ?_
    refine h_op (r_add rfl rfl) ?_
    refine h_op (r_slLHM rfl rfl rfl rfl (N' := 64) (c' := 64) (hN := by omega) (hc := by omega)) ?_
    refine h_yield (hy _ _ _ _ (range_cut hi2) hJ) hRm rfl rfl fun m' hJ' => ?_
    refine h_op (r_not rfl) ?_
    refine h_nil ?_
    refine q_then ?_
    refine h_condF rfl ?_
    refine h_skip ?_
    refine q_block ?_
    refine q_then ?_
    refine h_reg ?_
    refine h_op (r_move rfl) ?_
    refine h_op (r_loadc rfl) ?_
    refine h_op (r_add rfl rfl) ?_
    refine h_op (r_assign rfl) ?_
    refine h_nil ?_
    exact h_back (i + 1, m') ((show i + 1 ≤ m ∧ J (List.range (i + 1)) m' from ⟨by omega, by rw [List.range_succ]; exact hJ'⟩)) ((show m - (i + 1) < m - i by omega)) ⟨aI rfl (by omega), rfl, rfl, rfl, trivial⟩ (fun _ s => s)
  · obtain rfl : i = m := by omega
    refine h_exit ?_
    refine q_thenE ?_
    refine q_thenE ?_
    refine q_blockE ?_
    refine h_end ?_
    exact h_ret0 rfl fun w s => ⟨_, mm, rfl, hJ, s.res (((List.sublist_append_left _ _).cons _).cons _) (hJw _ _ hJ)⟩
end Go.Proofs.YtgfkbeipckbkiaaDoor
