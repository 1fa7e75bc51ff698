/- codec: Size, Kind, Encode of a proof that is well-formed; codec.Encode of a proof that is well-formed; codec.Decode of the bytes of a proof that is well-formed; codec.Decode of the bytes of a proof that is well-formed (joined texts: U56 U57 U58 U59) -/
import Derived.Test.YtgfkbeipckbkiaaGreatDoorK12
set_option linter.all false
/- U56 -/
namespace Go.Proofs.YtgfkbeipckbkiaaGreatDoor
set_option linter.unusedSimpArgs false
set_option linter.unusedVariables false
open Go.RowKit
def u8n (k : Nat) : UInt8 := UInt8.ofNat k
/-- the bytes of a proof -/
def encC (k d : Nat) (lf : Leaf) (bm : B32) (ss : List B32) : List UInt8 := [1, u8n k, u8n (d / 256), u8n d] ++ (bm.1 ++ ((if k = 1 then lf.key.1 ++ lf.value.1 else []) ++ ss.flatMap (·.1)))
theorem flat_len (l : List B32) : (l.flatMap (·.1)).length = 32 * l.length := by
  induction l with
  | nil => rfl
  | cons x l ih => rw [List.flatMap_cons, List.length_append, ih, x.2, List.length_cons]; omega
def lenC (k m : Nat) : Nat := 36 + (if k = 1 then 64 else 0) + 32 * m
theorem encC_len (k d : Nat) (lf : Leaf) (bm : B32) (ss : List B32) : (encC k d lf bm ss).length = lenC k ss.length := by
  unfold encC lenC
  have h1 := bm.2
  have h2 := lf.key.2
  have h3 := lf.value.2
  have h4 := flat_len ss
  split <;> simp only [List.length_append, List.length_cons, List.length_nil, h1, h2, h3, h4] <;> omega
theorem depths_le (b : B32) : (depths b).length ≤ 256 := Nat.le_trans (List.length_filter_le _ _) (by rw [List.length_range]; exact Nat.le_refl _)
theorem cSize_s (p : Proof) (k : Nat) (hc : checkP p = 0) (hk : p.kind = (k : Int)) (hk1 : k = 0 ∨ k = 1) : Spec Tryz.prog 88 [.agg p.cells.toArray].toArray [] [] (fun _ : Unit => .int .i64 ((lenC k p.sibs.n : Nat) : Int)) (fun _ => []) := by
  have hC := Check_s p
  rw [hc] at hC
  have hsb : p.sibs.n ≤ 256 := ok_sibs hc ▸ depths_le p.bitmap
  refine spec_of Tryz.func88 rfl (n := 24) rfl rfl ?_
  intro W
  refine h_seq ?_
  refine h_reg ?_
  refine h_opX (x_box rfl) fun g1 => ?_
  refine h_op (r_assign rfl) ?_
  refine h_nil ?_
  refine q_then ?_
  refine h_seq ?_
  refine h_seq ?_
  refine h_reg ?_
  refine h_op (r_loadr rfl) ?_
  refine h_call (hC.comes) rfl rfl rfl fun _ => ?_
  refine h_op (r_neq rfl rfl) ?_
  refine h_nil ?_
  refine q_then ?_
  refine h_no rfl ((fun h => h rfl)) ?_
  rcases hk1 with rfl | rfl
  · refine h_skip ?_
    refine q_then ?_
    refine h_seq ?_
    refine h_reg ?_
    refine h_op (r_assign rfl) ?_
    refine h_nil ?_
    refine q_then ?_
    refine h_seq ?_
    refine h_seq ?_
    refine h_reg ?_
    refine h_op (r_field rfl) ?_
    refine h_op (r_loadc rfl) ?_
    refine h_nil ?_
    refine q_then ?_
    refine h_block ?_
    refine h_seq ?_
    refine h_block ?_
    refine h_seq ?_
    refine h_block ?_
    refine h_seq ?_
    refine h_seq ?_
    refine h_seq ?_
    refine h_reg ?_
    refine h_op (r_bool (r_eql rfl rfl) (decide_eq_false (by omega))) ?_
    refine h_op (r_assign rfl) ?_
    refine h_nil ?_
    refine q_then ?_
    refine h_condF rfl ?_
    refine h_skip ?_
    refine q_then ?_
    refine h_seq ?_
    refine h_reg ?_
    refine h_op (r_bool (r_eql rfl rfl) (decide_eq_true (by omega))) ?_
    refine h_op (r_assign rfl) ?_
    refine h_nil ?_
    refine q_then ?_
    refine h_condT rfl ?_
    refine h_exit ?_
    refine q_thenE ?_
    refine q_blockN (by decide) ?_
    refine q_thenE ?_
    refine q_blockE ?_
    refine q_then ?_
    refine h_seq ?_
    refine h_reg ?_
    refine h_op (r_move rfl) ?_
    refine h_op (r_field rfl) ?_
    refine h_op (r_loadc rfl) ?_
    refine h_op (r_len rfl) ?_
    refine h_op (r_add rfl rfl) ?_
    refine h_op (r_mul rfl rfl) ?_
    refine h_op (r_add rfl rfl) ?_
    refine h_op (r_add rfl rfl) ?_
    refine h_op (r_assign rfl) ?_
    refine h_nil ?_
    refine q_then ?_
    refine h_exit ?_
    refine q_blockE ?_
    refine q_then ?_
    refine h_seq ?_
    refine h_reg ?_
    refine h_op (r_move rfl) ?_
    refine h_op (r_assign rfl) ?_
    refine h_nil ?_
    refine q_then ?_
    refine h_ret ?_
    exact h_ret1 rfl (aI rfl (by show _ = ((36 + 0 + 32 * p.sibs.n : Nat) : Int); omega)) fun w s => ⟨(), rfl, s.res (List.nil_sublist _) (by simp)⟩
  · refine h_skip ?_
    refine q_then ?_
    refine h_seq ?_
    refine h_reg ?_
    refine h_op (r_assign rfl) ?_
    refine h_nil ?_
    refine q_then ?_
    refine h_seq ?_
    refine h_seq ?_
    refine h_reg ?_
    refine h_op (r_field rfl) ?_
    refine h_op (r_loadc rfl) ?_
    refine h_nil ?_
    refine q_then ?_
    refine h_block ?_
    refine h_seq ?_
    refine h_block ?_
    refine h_seq ?_
    refine h_block ?_
    refine h_seq ?_
    refine h_seq ?_
    refine h_seq ?_
    refine h_reg ?_
    refine h_op (r_bool (r_eql rfl rfl) (decide_eq_true (by omega))) ?_
    refine h_op (r_assign rfl) ?_
    refine h_nil ?_
    refine q_then ?_
    refine h_condT rfl ?_
    refine h_exit ?_
    refine q_thenE ?_
    refine q_thenE ?_
    refine q_blockE ?_
    refine q_then ?_
    refine h_reg ?_
    refine h_op (r_move rfl) ?_
    refine h_op (r_add rfl rfl) ?_
    refine h_op (r_assign rfl) ?_
    refine h_nil ?_
    refine q_block ?_
    refine q_then ?_
    refine h_seq ?_
    refine h_reg ?_
    refine h_op (r_move rfl) ?_
    refine h_op (r_field rfl) ?_
    refine h_op (r_loadc rfl) ?_
    refine h_op (r_len rfl) ?_
    refine h_op (r_add rfl rfl) ?_
    refine h_op (r_mul rfl rfl) ?_
    refine h_op (r_add rfl rfl) ?_
    refine h_op (r_add rfl rfl) ?_
    refine h_op (r_assign rfl) ?_
    refine h_nil ?_
    refine q_then ?_
    refine h_exit ?_
    refine q_blockE ?_
    refine q_then ?_
    refine h_seq ?_
    refine h_reg ?_
    refine h_op (r_move rfl) ?_
    refine h_op (r_assign rfl) ?_
    refine h_nil ?_
    refine q_then ?_
    refine h_ret ?_
    exact h_ret1 rfl (aI rfl (by show _ = ((36 + 64 + 32 * p.sibs.n : Nat) : Int); omega)) fun w s => ⟨(), rfl, s.res (List.nil_sublist _) (by simp)⟩
theorem cKind_first (l : List UInt8) (A : Option Addr) (c : Nat) (h : 2 ≤ l.length) (h0 : l.getD 0 0 ≠ 1) : Spec Tryz.prog 151 [.slice A l.length c].toArray [.rd A (bc l)] [] (fun _ : Unit => .tuple #[.int .i64 0, .int .i64 6]) (fun _ => []) := by
  have h0' : ¬ ((l.getD 0 0).toNat : Int) = 1 := fun e => h0 (UInt8.toNat_inj.1 (by rw [show (1 : UInt8).toNat = 1 from rfl]; omega))
  refine spec_of Tryz.func151 rfl (n := 17) rfl rfl ?_
  intro W
  refine h_pure (φ := ∃ b o, A = some ⟨b, o, none⟩) (fun w s => Rd.some (s.ok (.rd A (bc l)) (by simp)) (by rw [bc_length]; omega)) ?_
  rintro ⟨b, o, rfl⟩
  refine h_seq ?_
  refine h_reg ?_
  refine h_op (r_assign rfl) ?_
  refine h_op (r_assign rfl) ?_
  refine h_nil ?_
  refine q_then ?_
  refine h_seq ?_
  refine h_block ?_
  refine h_seq ?_
  refine h_reg ?_
  refine h_op (r_move rfl) ?_
  refine h_op (r_len rfl) ?_
  refine h_op (r_bool (r_lss rfl rfl) (decide_eq_false (by omega))) ?_
  refine h_op (r_assign rfl) ?_
  refine h_nil ?_
  refine q_then ?_
  refine h_condF rfl ?_
  refine h_seq ?_
  refine h_reg ?_
  refine h_op (r_move rfl) ?_
  refine h_op (r_idx rfl rfl) ?_
  refine h_op (r_nth rfl (bc_at' (l := l) (i := 0) (by omega))) ?_
  refine h_op (r_bool (r_neq rfl rfl) (decide_eq_true h0')) ?_
  refine h_op (r_assign rfl) ?_
  refine h_nil ?_
  refine q_then ?_
  refine h_condT rfl ?_
  refine h_seq ?_
  refine h_reg ?_
  refine h_op (r_assign rfl) ?_
  refine h_op (r_assign rfl) ?_
  refine h_nil ?_
  refine q_then ?_
  refine h_ret ?_
  refine q_blockR ?_
  refine q_thenR ?_
  exact h_ret2 rfl rfl rfl fun w s => ⟨(), rfl, s.res (List.nil_sublist _) (by simp)⟩
theorem cKind_s (l : List UInt8) (A : Option Addr) (c : Nat) (h : 2 ≤ l.length) (h0 : l.getD 0 0 = 1) : Spec Tryz.prog 151 [.slice A l.length c].toArray [.rd A (bc l)] [] (fun _ : Unit => .tuple #[.int .i64 ((l.getD 1 0).toNat : Int), .int .i64 0]) (fun _ => []) := by
  have h0' : ((l.getD 0 0).toNat : Int) = 1 := by rw [h0]; rfl
  refine spec_of Tryz.func151 rfl (n := 17) rfl rfl ?_
  intro W
  refine h_pure (φ := ∃ b o, A = some ⟨b, o, none⟩) (fun w s => Rd.some (s.ok (.rd A (bc l)) (by simp)) (by rw [bc_length]; omega)) ?_
  rintro ⟨b, o, rfl⟩
  refine h_seq ?_
  refine h_reg ?_
  refine h_op (r_assign rfl) ?_
  refine h_op (r_assign rfl) ?_
  refine h_nil ?_
  refine q_then ?_
  refine h_seq ?_
  refine h_block ?_
  refine h_seq ?_
  refine h_reg ?_
  refine h_op (r_move rfl) ?_
  refine h_op (r_len rfl) ?_
  refine h_op (r_bool (r_lss rfl rfl) (decide_eq_false (by omega))) ?_
  refine h_op (r_assign rfl) ?_
  refine h_nil ?_
  refine q_then ?_
  refine h_condF rfl ?_
  refine h_seq ?_
  refine h_reg ?_
  refine h_op (r_move rfl) ?_
  refine h_op (r_idx rfl rfl) ?_
  refine h_op (r_nth rfl (bc_at' (l := l) (i := 0) (by omega))) ?_
  refine h_op (r_bool (r_neq rfl rfl) (decide_eq_false (fun h => h h0'))) ?_
  refine h_op (r_assign rfl) ?_
  refine h_nil ?_
  refine q_then ?_
  refine h_condF rfl ?_
  refine h_skip ?_
  refine q_block ?_
  refine q_then ?_
  refine h_seq ?_
  refine h_reg ?_
  refine h_op (r_move rfl) ?_
  refine h_op (r_idx rfl rfl) ?_
  refine h_op (r_nth rfl (bc_at' (l := l) (i := 1) (by omega))) ?_
  refine h_op (r_int (r_cUI rfl) (show _ = (((l.getD 1 0).toNat : Nat) : Int) from rfl)) ?_
  refine h_op (r_assign rfl) ?_
  refine h_op (r_assign rfl) ?_
  refine h_nil ?_
  refine q_then ?_
  refine h_ret ?_
  exact h_ret2 rfl rfl rfl fun w s => ⟨(), rfl, s.res (List.nil_sublist _) (by simp)⟩
end Go.Proofs.YtgfkbeipckbkiaaGreatDoor
/- U57 -/
namespace Go.Proofs.YtgfkbeipckbkiaaGreatDoor
set_option linter.unusedSimpArgs false
set_option linter.unusedVariables false
open Go.RowKit
theorem rds3 {L : List Fa} {B A1 A2 A3 : Option Addr} {n1 n2 n3 : Nat} {l1 l2 l3 : List UInt8} {c1 c2 c3 : List Value} (e1 : c1 = bc l1) (e2 : c2 = bc l2) (e3 : c3 = bc l3) [h0 : Rd1 L (.rd B (svs [(A1, n1, l1), (A2, n2, l2), (A3, n3, l3)]))] [h1 : Rd1 L (.rd A1 c1)] [h2 : Rd1 L (.rd A2 c2)] [h3 : Rd1 L (.rd A3 c3)] : Rds L (.rd B (svs [(A1, n1, l1), (A2, n2, l2), (A3, n3, l3)]) :: rdsOf [(A1, n1, l1), (A2, n2, l2), (A3, n3, l3)]) := by
  subst e1 e2 e3
  exact inferInstanceAs (Rds L [.rd B (svs [(A1, n1, l1), (A2, n2, l2), (A3, n3, l3)]), .rd A1 (bc l1), .rd A2 (bc l2), .rd A3 (bc l3)])
/-- what is written ahead of the siblings -/
def headC (k d : Nat) (lf : Leaf) (bm : B32) : List UInt8 := [1, u8n k, u8n (d / 256), u8n d] ++ (bm.1 ++ (if k = 1 then lf.key.1 ++ lf.value.1 else []))
def upC (k d : Nat) (lf : Leaf) (bm : B32) (ss : List B32) (i : Nat) : List UInt8 := headC k d lf bm ++ (ss.take i).flatMap (·.1)
theorem upC_end (k d : Nat) (lf : Leaf) (bm : B32) (ss : List B32) : upC k d lf bm ss ss.length = encC k d lf bm ss := by
  unfold upC headC encC
  rw [List.take_length]
  simp only [List.append_assoc]
theorem upC_succ (k d : Nat) (lf : Leaf) (bm : B32) {ss : List B32} {i : Nat} (h : i < ss.length) : upC k d lf bm ss i ++ (ss.getD i zB32).1 = upC k d lf bm ss (i + 1) := by
  unfold upC
  rw [show ss.take (i + 1) = ss.take i ++ [ss.getD i zB32] by rw [List.take_add_one, List.getElem?_eq_getElem h, List.getD_eq_getElem?_getD, List.getElem?_eq_getElem h]; rfl, List.flatMap_append, List.flatMap_cons, List.flatMap_nil, List.append_nil, List.append_assoc]
/-- the first 36 bytes -/
def preC (k d : Nat) (bm : B32) : List UInt8 := [1, u8n k, u8n (d / 256), u8n d] ++ bm.1
theorem preC_len (k d : Nat) (bm : B32) : (preC k d bm).length = 36 := by unfold preC; rw [List.length_append, bm.2]; rfl
theorem preC_0 (d : Nat) (lf : Leaf) (bm : B32) (ss : List B32) : preC 0 d bm = upC 0 d lf bm ss 0 := by unfold preC upC headC; simp
theorem preC_1 (d : Nat) (lf : Leaf) (bm : B32) (ss : List B32) (A : Option Addr) (c : Nat) (B B' : Option Addr) : segB [(A, c, preC 1 d bm), (B, 32, lf.key.1), (B', 32, lf.value.1)] = upC 1 d lf bm ss 0 := by unfold preC upC headC segB; simp
theorem upC_len (k d : Nat) (lf : Leaf) (bm : B32) {ss : List B32} {i : Nat} (h : i ≤ ss.length) : (upC k d lf bm ss i).length = (headC k d lf bm).length + 32 * i := by
  unfold upC
  rw [List.length_append, flat_len, List.length_take, Nat.min_eq_left h]
theorem headC_len (k d : Nat) (lf : Leaf) (bm : B32) : (headC k d lf bm).length ≤ 100 := by
  unfold headC
  have h1 := bm.2
  have h2 := lf.key.2
  have h3 := lf.value.2
  split <;> simp only [List.length_append, List.length_cons, List.length_nil, h1, h2, h3] <;> omega
theorem cEncode_s (p : Proof) (k d : Nat) (hc : checkP p = 0) (hk : p.kind = (k : Int)) (hd : p.depth = (d : Int)) (hk1 : k = 0 ∨ k = 1) (ss : List B32) (hs : p.sibs.n = ss.length) : Spec Tryz.prog 47 [.agg p.cells.toArray].toArray [.rd p.sibs.A (dgs ss)] [] (fun u : Option Addr × Nat => .tuple #[.slice u.1 (encC k d p.leaf p.bitmap ss).length u.2, .int .i64 0]) (fun u => [.own (.slice u.1 (encC k d p.leaf p.bitmap ss).length u.2) (encC k d p.leaf p.bitmap ss).length 5 1 (bc (encC k d p.leaf p.bitmap ss))]) := by
  have hC := Check_s p
  rw [hc] at hC
  have hS := cSize_s p k hc hk hk1
  have hsb : p.sibs.n ≤ 256 := ok_sibs hc ▸ depths_le p.bitmap
  have hdp := ok_depth hc
  have hbm := p.bitmap.2
  have hlk := p.leaf.key.2
  have hlv := p.leaf.value.2
  have hsz : lenC k p.sibs.n ≤ 100 + 32 * 256 := by unfold lenC; split <;> omega
  rw [← upC_end]
  have hloop := fun i => upC_len k d p.leaf p.bitmap (ss := ss) (i := i)
  have hstep := fun i => upC_succ k d p.leaf p.bitmap (ss := ss) (i := i)
  have hhl := headC_len k d p.leaf p.bitmap
  have hpl := preC_len k d p.bitmap
  have hkd : p.cells = Proof.cells ⟨(k : Int), (d : Int), p.leaf, p.bitmap, p.sibs⟩ := by rw [← hk, ← hd]
  rw [hkd] at hC hS ⊢
  generalize lenC k p.sibs.n = sz at *
  refine spec_of Tryz.func47 rfl (n := 57) rfl rfl ?_
  intro W
  refine h_seq ?_
  refine h_reg ?_
  refine h_opX (x_box rfl) fun g1 => ?_
  refine h_op (r_assign rfl) ?_
  refine h_op (r_assign rfl) ?_
  refine h_nil ?_
  refine q_then ?_
  refine h_seq ?_
  refine h_seq ?_
  refine h_reg ?_
  refine h_op (r_loadr rfl) ?_
  refine h_call (hC.comes) rfl rfl rfl fun _ => ?_
  refine h_op (r_assign rfl) ?_
  refine h_nil ?_
  refine q_then ?_
  refine h_seq ?_
  refine h_reg ?_
  refine h_op (r_move rfl) ?_
  refine h_op (r_neq rfl rfl) ?_
  refine h_nil ?_
  refine q_then ?_
  refine h_no rfl ((fun h => h rfl)) ?_
  refine h_skip ?_
  refine q_then ?_
  refine h_seq ?_
  refine h_reg ?_
  refine h_op (r_loadr rfl) ?_
  refine h_call (hS.comes) rfl rfl rfl fun _ => ?_
  refine h_opX (x_make0 rfl rfl) fun g15 => ?_
  refine h_op (r_assign rfl) ?_
  refine h_nil ?_
  refine q_then ?_
  refine h_seq ?_
  change H _ _ _ _ _ (.own (.slice (some ⟨g15, 0, none⟩) 0 sz) 0 _ _ (bc []) :: _) _
  refine h_reg ?_
  refine h_op (r_move rfl) ?_
  refine h_op (r_field rfl) ?_
  refine h_op (r_loadc rfl) ?_
  refine h_op (r_cNW rfl) ?_
  refine h_op (r_field rfl) ?_
  refine h_op (r_loadc rfl) ?_
  refine h_op (r_shr8 rfl rfl) ?_
  refine h_op (r_cNW rfl) ?_
  refine h_op (r_field rfl) ?_
  refine h_op (r_loadc rfl) ?_
  refine h_op (r_cNW rfl) ?_
  refine h_opX (x_bslV (ys := [.int .u8 1, .int .u8 ((BitVec.ofNat 8 k).toNat : Int), .int .u8 ((BitVec.ofNat 8 (d / 256)).toNat : Int), .int .u8 ((BitVec.ofNat 8 d).toNat : Int)]) (bc [1, u8n k, u8n (d / 256), u8n d]) rfl rfl (bc_one _)) fun g27 => ?_
  refine h_opX (x_appAB (ly := [1, u8n k, u8n (d / 256), u8n d]) rfl rfl (fun h => by cases h) rfl) fun ⟨A28, c28⟩ => ?_
  refine h_op (r_assign rfl) ?_
  refine h_nil ?_
  refine q_then ?_
  refine h_seq ?_
  refine h_reg ?_
  refine h_op (r_move rfl) ?_
  refine h_op (r_field rfl) ?_
  refine h_op (r_slA rfl) ?_
  refine h_opX (x_appAB (ly := p.bitmap.1) rfl rfl (fun h => by cases h) hbm (N' := (preC k d p.bitmap).length) (hN := hpl.symm) (hr := inferInstanceAs (Rd1 _ (.rd _ p.bitmap.cells)))) fun ⟨A32, c32⟩ => ?_
  refine h_op (r_assign rfl) ?_
  refine h_nil ?_
  refine q_then ?_
  refine h_seq ?_
  refine h_seq ?_
  change H _ _ _ _ _ (.own (.slice A32 (preC k d p.bitmap).length c32) (preC k d p.bitmap).length _ _ (bc (preC k d p.bitmap)) :: _) _
  refine h_pure (φ := ∃ g, A32 = some ⟨g, 0, none⟩) (fun w s => s.ownSome (N := (preC k d p.bitmap).length) (c := c32) (by omega)) ?_
  rintro ⟨ga, rfl⟩
  rcases hk1 with rfl | rfl
  · rw [preC_0 d p.leaf p.bitmap ss]
    refine h_reg ?_
    refine h_op (r_field rfl) ?_
    refine h_op (r_loadc rfl) ?_
    refine h_op (r_bool (r_eql rfl rfl) (show _ = false from rfl)) ?_
    refine h_nil ?_
    refine q_then ?_
    refine h_condF rfl ?_
    refine h_skip ?_
    refine q_then ?_
    refine h_seq ?_
    refine h_seq ?_
    refine h_reg ?_
    refine h_op (r_field rfl) ?_
    refine h_op (r_loadc rfl) ?_
    refine h_op (r_len rfl) ?_
    refine h_op (r_move rfl) ?_
    refine h_nil ?_
    refine q_then ?_
    refine h_block ?_
    refine h_loop (fun (s : Nat × Option Addr × Nat) => s.1 ≤ ss.length) (fun (s : Nat × Option Addr × Nat) => [(48, .int .i64 (s.1 : Int)), (47, .int .i64 (p.sibs.n : Int)), (46, .slice p.sibs.A p.sibs.n p.sibs.c), (5, .slice s.2.1 (upC 0 d p.leaf p.bitmap ss s.1).length s.2.2)]) (fun (s : Nat × Option Addr × Nat) => [.own (.slice s.2.1 (upC 0 d p.leaf p.bitmap ss s.1).length s.2.2) (upC 0 d p.leaf p.bitmap ss s.1).length 5 1 (bc (upC 0 d p.leaf p.bitmap ss s.1)), .rd p.sibs.A (dgs ss)]) (fun (s : Nat × Option Addr × Nat) => ss.length - s.1) (0, some ⟨ga, 0, none⟩, c32) ((show 0 ≤ ss.length from Nat.zero_le _)) ⟨rfl, rfl, rfl, rfl, trivial⟩ (same) ?_
    rintro ⟨i, A, c⟩ hi
    dsimp only at hi ⊢
    have hli := hloop i hi
    refine h_seq ?_
    refine h_reg ?_
    refine h_op (r_lss rfl rfl) ?_
    refine h_nil ?_
    refine q_then ?_
    refine h_seq ?_
    refine h_cond rfl (fun h => ?_) (fun h => ?_)
    · have hi2 : i < ss.length := by omega
      have hli2 := hloop (i + 1) hi2
      have hst := hstep i hi2
      refine h_pure (φ := ∃ b o, p.sibs.A = some ⟨b, o, none⟩) (fun w s => Rd.some (s.ok (.rd p.sibs.A (dgs ss)) (by simp)) (by rw [dgs_len]; omega)) ?_
      rintro ⟨bb, o, hA⟩
      rw [hA]
      refine h_skip ?_
      refine q_then ?_
      refine h_seq ?_
      refine h_block ?_
      refine h_seq ?_
      refine h_reg ?_
      refine h_op (r_idx rfl rfl) ?_
      refine h_op (r_nthr rfl (out := (ss.getD i zB32).cells) (B32.cells_length _) (dgs_at hi2)) ?_
      refine h_opX (x_alloc) fun g7 => ?_
      refine h_opS (s_storer rfl rfl) ?_
      refine h_nil ?_
      refine q_then ?_
      refine h_reg ?_
      refine h_op (r_move rfl) ?_
      refine h_op (r_slA rfl) ?_
      refine h_opX (x_appAB (ly := (ss.getD i zB32).1) rfl rfl (fun h => by cases h) (ss.getD i zB32).2 (N' := (upC 0 d p.leaf p.bitmap ss (i + 1)).length) (hN := by omega) (hr := inferInstanceAs (Rd1 _ (.rd _ (ss.getD i zB32).cells)))) fun ⟨A54, c54⟩ => ?_
      refine h_op (r_assign rfl) ?_
      refine h_nil ?_
      refine q_block ?_
      refine q_then ?_
      refine h_reg ?_
      refine h_op (r_add rfl rfl) ?_
      refine h_op (r_move rfl) ?_
      refine h_nil ?_
      rw [hst, ← hA]
      exact h_back (i + 1, A54, c54) ((show i + 1 ≤ ss.length from hi2)) ((show ss.length - (i + 1) < ss.length - i by omega)) ⟨rfl, rfl, rfl, rfl, trivial⟩ (same)
    · obtain rfl : i = ss.length := by omega
      refine h_exit ?_
      refine q_thenE ?_
      refine q_thenE ?_
      refine q_blockE ?_
      refine q_then ?_
      refine h_seq ?_
      refine h_reg ?_
      refine h_op (r_move rfl) ?_
      refine h_op (r_assign rfl) ?_
      refine h_op (r_assign rfl) ?_
      refine h_nil ?_
      refine q_then ?_
      refine h_ret ?_
      exact h_ret2 rfl rfl rfl fun w s => ⟨(A, c), rfl, (same (L' := [.own (.slice A (upC 0 d p.leaf p.bitmap ss ss.length).length c) (upC 0 d p.leaf p.bitmap ss ss.length).length 5 1 (bc (upC 0 d p.leaf p.bitmap ss ss.length))]) w s).res (List.Sublist.refl _) (by simp [Fa.wr])⟩
  · have hseg := fun g => preC_1 d p.leaf p.bitmap ss (some ⟨ga, 0, none⟩) c32 (some ⟨g, 2, none⟩) (some ⟨g, 34, none⟩)
    refine h_reg ?_
    refine h_op (r_field rfl) ?_
    refine h_op (r_loadc rfl) ?_
    refine h_op (r_bool (r_eql rfl rfl) (show _ = true from rfl)) ?_
    refine h_nil ?_
    refine q_then ?_
    refine h_condT rfl ?_
    refine ha_start [] [] mixed (same) ?_
    refine ha_takeP 0 rfl (r_move rfl) ?_
    refine ha_takeP 1 rfl (r_field rfl) ?_
    refine ha_takeP 2 rfl (r_field rfl) ?_
    refine ha_takeP 3 rfl (r_slA rfl) ?_
    refine ha_takeP 4 rfl (r_field rfl) ?_
    refine ha_takeP 5 rfl (r_field rfl) ?_
    refine ha_takeP 6 rfl (r_slA rfl) ?_
    refine ha_one 7 ?_
    refine ho_X 7 rfl (rk (x_bslV (ys := [.slice (some ⟨ga, 0, none⟩) (preC 1 d p.bitmap).length c32, .slice (some ⟨g1, 2, none⟩) 32 32, .slice (some ⟨g1, 34, none⟩) 32 32]) (svs [(some ⟨ga, 0, none⟩, c32, preC 1 d p.bitmap), (some ⟨g1, 2, none⟩, 32, p.leaf.key.1), (some ⟨g1, 34, none⟩, 32, p.leaf.value.1)]) rfl (by simp only [svs, sv, List.map_cons, List.map_nil, hlk, hlv]) (svs_one _))) (fun _ => same) fun g43 => ?_
    refine ha_one 8 ?_
    refine ho_C 8 rfl ((Concat_s [(some ⟨ga, 0, none⟩, c32, preC 1 d p.bitmap), (some ⟨g1, 2, none⟩, 32, p.leaf.key.1), (some ⟨g1, 34, none⟩, 32, p.leaf.value.1)] (some ⟨g43, 0, none⟩) 3 (by simp) (by simp [segN]; omega)).comes (hr := rds3 (c1 := bc (preC 1 d p.bitmap)) (c2 := p.leaf.key.cells) (c3 := p.leaf.value.cells) rfl rfl rfl)) rfl rfl rfl (fun xx => same) fun ⟨A44, c44⟩ => ?_
    refine ha_takeP 9 rfl (r_assign rfl) ?_
    refine ha_done (by kernel_rfl) ?_
    refine q_then ?_
    dsimp only
    rw [hseg]
    refine h_seq ?_
    refine h_seq ?_
    refine h_reg ?_
    refine h_op (r_field rfl) ?_
    refine h_op (r_loadc rfl) ?_
    refine h_op (r_len rfl) ?_
    refine h_op (r_move rfl) ?_
    refine h_nil ?_
    refine q_then ?_
    refine h_block ?_
    refine h_loop (fun (s : Nat × Option Addr × Nat) => s.1 ≤ ss.length) (fun (s : Nat × Option Addr × Nat) => [(48, .int .i64 (s.1 : Int)), (47, .int .i64 (p.sibs.n : Int)), (46, .slice p.sibs.A p.sibs.n p.sibs.c), (5, .slice s.2.1 (upC 1 d p.leaf p.bitmap ss s.1).length s.2.2)]) (fun (s : Nat × Option Addr × Nat) => [.own (.slice s.2.1 (upC 1 d p.leaf p.bitmap ss s.1).length s.2.2) (upC 1 d p.leaf p.bitmap ss s.1).length 5 1 (bc (upC 1 d p.leaf p.bitmap ss s.1)), .rd p.sibs.A (dgs ss)]) (fun (s : Nat × Option Addr × Nat) => ss.length - s.1) (0, A44, c44) ((show 0 ≤ ss.length from Nat.zero_le _)) ⟨rfl, rfl, rfl, rfl, trivial⟩ (same) ?_
    rintro ⟨i, A, c⟩ hi
    dsimp only at hi ⊢
    have hli := hloop i hi
    refine h_seq ?_
    refine h_reg ?_
    refine h_op (r_lss rfl rfl) ?_
    refine h_nil ?_
    refine q_then ?_
    refine h_seq ?_
    refine h_cond rfl (fun h => ?_) (fun h => ?_)
    · have hi2 : i < ss.length := by omega
      have hli2 := hloop (i + 1) hi2
      have hst := hstep i hi2
      refine h_pure (φ := ∃ b o, p.sibs.A = some ⟨b, o, none⟩) (fun w s => Rd.some (s.ok (.rd p.sibs.A (dgs ss)) (by simp)) (by rw [dgs_len]; omega)) ?_
      rintro ⟨bb, o, hA⟩
      rw [hA]
      refine h_skip ?_
      refine q_then ?_
      refine h_seq ?_
      refine h_block ?_
      refine h_seq ?_
      refine h_reg ?_
      refine h_op (r_idx rfl rfl) ?_
      refine h_op (r_nthr rfl (out := (ss.getD i zB32).cells) (B32.cells_length _) (dgs_at hi2)) ?_
      refine h_opX (x_alloc) fun g7 => ?_
      refine h_opS (s_storer rfl rfl) ?_
      refine h_nil ?_
      refine q_then ?_
      refine h_reg ?_
      refine h_op (r_move rfl) ?_
      refine h_op (r_slA rfl) ?_
      refine h_opX (x_appAB (ly := (ss.getD i zB32).1) rfl rfl (fun h => by cases h) (ss.getD i zB32).2 (N' := (upC 1 d p.leaf p.bitmap ss (i + 1)).length) (hN := by omega) (hr := inferInstanceAs (Rd1 _ (.rd _ (ss.getD i zB32).cells)))) fun ⟨A54, c54⟩ => ?_
      refine h_op (r_assign rfl) ?_
      refine h_nil ?_
      refine q_block ?_
      refine q_then ?_
      refine h_reg ?_
      refine h_op (r_add rfl rfl) ?_
      refine h_op (r_move rfl) ?_
      refine h_nil ?_
      rw [hst, ← hA]
      exact h_back (i + 1, A54, c54) ((show i + 1 ≤ ss.length from hi2)) ((show ss.length - (i + 1) < ss.length - i by omega)) ⟨rfl, rfl, rfl, rfl, trivial⟩ (same)
    · obtain rfl : i = ss.length := by omega
      refine h_exit ?_
      refine q_thenE ?_
      refine q_thenE ?_
      refine q_blockE ?_
      refine q_then ?_
      refine h_seq ?_
      refine h_reg ?_
      refine h_op (r_move rfl) ?_
      refine h_op (r_assign rfl) ?_
      refine h_op (r_assign rfl) ?_
      refine h_nil ?_
      refine q_then ?_
      refine h_ret ?_
      exact h_ret2 rfl rfl rfl fun w s => ⟨(A, c), rfl, (same (L' := [.own (.slice A (upC 1 d p.leaf p.bitmap ss ss.length).length c) (upC 1 d p.leaf p.bitmap ss ss.length).length 5 1 (bc (upC 1 d p.leaf p.bitmap ss ss.length))]) w s).res (List.Sublist.refl _) (by simp [Fa.wr])⟩
end Go.Proofs.YtgfkbeipckbkiaaGreatDoor
/- U58 -/
namespace Go.Proofs.YtgfkbeipckbkiaaGreatDoor
set_option linter.unusedSimpArgs false
set_option linter.unusedVariables false
open Go.RowKit
theorem bc_app (l m : List UInt8) : bc (l ++ m) = bc l ++ bc m := by unfold bc; rw [List.map_append]
theorem cutZ {h : Zh} {A : Option Addr} {l m : List UInt8} {c k : Nat} (hr : RdZ h A (bc (l ++ m))) (hk : l.length = k) (hk0 : 0 < k) (hc : k + m.length ≤ c) : RdZ h (cutA A c k 1) (bc m) := by
  unfold cutA
  split
  · have : m = [] := List.eq_nil_of_length_eq_zero (by omega)
    rw [this]
    exact RdZ.nil _ _
  · refine ⟨fun j v hv => ?_⟩
    have h1 := hr.at_ (k + j) v (by rw [bc_app, List.getElem?_append_right (by rw [bc_length]; omega), bc_length, hk, Nat.add_sub_cancel_left]; exact hv)
    obtain ⟨b, o, rfl, h2⟩ := h1
    exact ⟨b, o + k, by simp [Addr.add_mid], by rw [Nat.add_assoc]; exact h2⟩
section
variable (h : Zh)
theorem cpart_s (x : B32) (r : List UInt8) (A : Option Addr) (c g : Nat) [hr : RdZ h A (bc (x.1 ++ r))] (hc : 32 + r.length ≤ c) (hb : r.length ≤ 1000000000) :
    Spec Tryz.prog 152 [.pointer (some ⟨g, 0, none⟩)].toArray [.zone false h] [.blk g [.slice A (32 + r.length) c, .bool false] 241] (fun _ : {y : Option Addr × Nat // RdZ h y.1 (bc r) ∧ r.length ≤ y.2} => .agg x.cells.toArray) (fun y => [.blk g [.slice y.1.1 r.length y.1.2, .bool false] 241]) := by
  have hx := x.2
  have hlen : (bc (x.1 ++ r)).length = 32 + r.length := by rw [bc_length, List.length_append, hx]
  obtain ⟨b, o, rfl, -⟩ := hr.at_ 0 _ (List.getElem?_eq_getElem (by omega))
  have hx' : RowAt (bc (x.1 ++ r)) 0 32 x.cells := ⟨fun j v hv => by rw [bc_app, Nat.zero_add]; show (x.cells ++ bc r)[j]? = some v; rw [List.getElem?_append_left (List.getElem?_eq_some_iff.1 hv).1]; exact hv, B32.cells_length x⟩
  have hcz := cutZ hr hx (by omega) hc
  refine spec_of Tryz.func152 rfl (n := 28) rfl rfl ?_
  intro W
  refine h_seq ?_
  refine h_reg ?_
  refine h_opX (x_alloc) fun g2 => ?_
  refine h_nil ?_
  refine q_then ?_
  refine h_seq ?_
  refine h_seq ?_
  refine h_reg ?_
  refine h_op (r_move rfl) ?_
  refine h_op (r_nilc rfl) ?_
  refine h_op (r_field rfl) ?_
  refine h_op (r_loadc rfl) ?_
  refine h_op (r_len rfl) ?_
  refine h_op (r_bool (r_lss rfl rfl) (decide_eq_false (by omega))) ?_
  refine h_nil ?_
  refine q_then ?_
  refine h_condF rfl ?_
  refine h_skip ?_
  refine q_then ?_
  refine h_seq ?_
  refine h_reg ?_
  refine h_op (r_move rfl) ?_
  refine h_op (r_nilc rfl) ?_
  refine h_op (r_field rfl) ?_
  refine h_op (r_loadc rfl) ?_
  refine h_op (r_arr rfl) ?_
  refine h_op (r_loadr rfl) ?_
  refine h_opS (s_storer rfl rfl) ?_
  refine h_nil ?_
  refine q_then ?_
  refine h_seq ?_
  refine h_reg ?_
  refine h_op (r_move rfl) ?_
  refine h_op (r_move rfl) ?_
  refine h_op (r_nilc rfl) ?_
  refine h_op (r_field rfl) ?_
  refine h_op (r_loadc rfl) ?_
  refine h_op (r_as (r_slL rfl rfl) (show _ = Value.slice (cutA (some ⟨b, o, none⟩) c 32 1) r.length (c - 32) by rw [Nat.add_sub_cancel_left])) ?_
  refine h_op (r_nilc rfl) ?_
  refine h_op (r_field rfl) ?_
  refine h_opS (s_store rfl rfl rfl) ?_
  refine h_nil ?_
  refine q_then ?_
  refine h_seq ?_
  refine h_reg ?_
  refine h_op (r_loadr rfl) ?_
  refine h_opS (s_storer rfl rfl) ?_
  refine h_nil ?_
  refine q_then ?_
  refine h_ret ?_
  exact h_ret1 rfl (rv_row rfl) fun w s => ⟨⟨(cutA (some ⟨b, o, none⟩) c 32 1, c - 32), hcz, by dsimp only; omega⟩, rfl, (same w s).res (List.Sublist.refl _) (by simp [Fa.wr])⟩
end
end Go.Proofs.YtgfkbeipckbkiaaGreatDoor
/- U59 -/
namespace Go.Proofs.YtgfkbeipckbkiaaGreatDoor
set_option linter.unusedSimpArgs false
set_option linter.unusedVariables false
open Go.RowKit
end Go.Proofs.YtgfkbeipckbkiaaGreatDoor
