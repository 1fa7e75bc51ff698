/- codec: Size, Kind, Encode of a proof that is well-formed; codec.Encode of a proof that is well-formed; codec.Decode of the bytes of a proof that is well-formed; codec.Decode of the bytes of a proof that is well-formed; The reference's maps: Put, Of, Few, Root; The reference's maps: Few, Root; the tree that grows out of a map (joined texts: U56 U57 U58 U59 U39 U40) -/
import Derived.Test.YtdfeimdhlagebaaGreatDoorZ12
set_option linter.all false
/- U56 -/
namespace Go.Proofs.YtdfeimdhlagebaaGreatDoor
set_option linter.unusedSimpArgs false
set_option linter.unusedVariables false
open Go.RowKit
def u8n (k : Nat) : UInt8 := UInt8.ofNat k
/-- the bytes of a proof -/
def encC (k d : Nat) (lf : Leaf) (bm : B32) (ss : List B32) : List UInt8 := [1, u8n k, u8n (d / 256), u8n d] ++ (bm.1 ++ ((if k = 1 then lf.key.1 ++ lf.value.1 else []) ++ ss.flatMap (·.1)))
theorem flat_len (l : List B32) : (l.flatMap (·.1)).length = 32 * l.length := by
  induction l with
  | nil => rfl
  | cons x l ih => rw [List.flatMap_cons, List.length_append, ih, x.2, List.length_cons]; omega
def lenC (k m : Nat) : Nat := 36 + (if k = 1 then 64 else 0) + 32 * m
theorem encC_len (k d : Nat) (lf : Leaf) (bm : B32) (ss : List B32) : (encC k d lf bm ss).length = lenC k ss.length := by
  unfold encC lenC
  have h1 := bm.2
  have h2 := lf.key.2
  have h3 := lf.value.2
  have h4 := flat_len ss
  split <;> simp only [List.length_append, List.length_cons, List.length_nil, h1, h2, h3, h4] <;> omega
theorem depths_le (b : B32) : (depths b).length ≤ 256 := Nat.le_trans (List.length_filter_le _ _) (by rw [List.length_range]; exact Nat.le_refl _)
theorem cSize_s (p : Proof) (k : Nat) (hc : checkP p = 0) (hk : p.kind = (k : Int)) (hk1 : k = 0 ∨ k = 1) : Spec Tryz.prog 50 [.agg p.cells.toArray].toArray [] [] (fun _ : Unit => .int .i64 ((lenC k p.sibs.n : Nat) : Int)) (fun _ => []) := by
  have hC := Check_s p
  rw [hc] at hC
  have hsb : p.sibs.n ≤ 256 := ok_sibs hc ▸ depths_le p.bitmap
  refine spec_of Tryz.func50 rfl (n := 24) rfl rfl ?_
  intro W
  refine h_seq ?_
  refine h_reg ?_
  refine h_opX (x_box rfl) fun g1 => ?_
  refine h_op (r_assign rfl) ?_
  refine h_nil ?_
  refine q_then ?_
  refine h_seq ?_
  refine h_seq ?_
  refine h_reg ?_
  refine h_op (r_loadr rfl) ?_
  refine h_call (hC.comes) rfl rfl rfl fun _ => ?_
  refine h_op (r_neq rfl rfl) ?_
  refine h_nil ?_
  refine q_then ?_
  refine h_no rfl ((fun h => h rfl)) ?_
  rcases hk1 with rfl | rfl
  · refine h_skip ?_
    refine q_then ?_
    refine h_seq ?_
    refine h_reg ?_
    refine h_op (r_assign rfl) ?_
    refine h_nil ?_
    refine q_then ?_
    refine h_seq ?_
    refine h_seq ?_
    refine h_reg ?_
    refine h_op (r_field rfl) ?_
    refine h_op (r_loadc rfl) ?_
    refine h_nil ?_
    refine q_then ?_
    refine h_block ?_
    refine h_seq ?_
    refine h_block ?_
    refine h_seq ?_
    refine h_block ?_
    refine h_seq ?_
    refine h_seq ?_
    refine h_seq ?_
    refine h_reg ?_
    refine h_op (r_bool (r_eql rfl rfl) (decide_eq_false (by omega))) ?_
    refine h_op (r_assign rfl) ?_
    refine h_nil ?_
    refine q_then ?_
    refine h_condF rfl ?_
    refine h_skip ?_
    refine q_then ?_
    refine h_seq ?_
    refine h_reg ?_
    refine h_op (r_bool (r_eql rfl rfl) (decide_eq_true (by omega))) ?_
    refine h_op (r_assign rfl) ?_
    refine h_nil ?_
    refine q_then ?_
    refine h_condT rfl ?_
    refine h_exit ?_
    refine q_thenE ?_
    refine q_blockN (by decide) ?_
    refine q_thenE ?_
    refine q_blockE ?_
    refine q_then ?_
    refine h_seq ?_
    refine h_reg ?_
    refine h_op (r_move rfl) ?_
    refine h_op (r_field rfl) ?_
    refine h_op (r_loadc rfl) ?_
    refine h_op (r_len rfl) ?_
    refine h_op (r_add rfl rfl) ?_
    refine h_op (r_mul rfl rfl) ?_
    refine h_op (r_add rfl rfl) ?_
    refine h_op (r_add rfl rfl) ?_
    refine h_op (r_assign rfl) ?_
    refine h_nil ?_
    refine q_then ?_
    refine h_exit ?_
    refine q_blockE ?_
    refine q_then ?_
    refine h_seq ?_
    refine h_reg ?_
    refine h_op (r_move rfl) ?_
    refine h_op (r_assign rfl) ?_
    refine h_nil ?_
    refine q_then ?_
    refine h_ret ?_
    exact h_ret1 rfl (aI rfl (by show _ = ((36 + 0 + 32 * p.sibs.n : Nat) : Int); omega)) fun w s => ⟨(), rfl, s.res (List.nil_sublist _) (by simp)⟩
  · refine h_skip ?_
    refine q_then ?_
    refine h_seq ?_
    refine h_reg ?_
    refine h_op (r_assign rfl) ?_
    refine h_nil ?_
    refine q_then ?_
    refine h_seq ?_
    refine h_seq ?_
    refine h_reg ?_
    refine h_op (r_field rfl) ?_
    refine h_op (r_loadc rfl) ?_
    refine h_nil ?_
    refine q_then ?_
    refine h_block ?_
    refine h_seq ?_
    refine h_block ?_
    refine h_seq ?_
    refine h_block ?_
    refine h_seq ?_
    refine h_seq ?_
    refine h_seq ?_
    refine h_reg ?_
    refine h_op (r_bool (r_eql rfl rfl) (decide_eq_true (by omega))) ?_
    refine h_op (r_assign rfl) ?_
    refine h_nil ?_
    refine q_then ?_
    refine h_condT rfl ?_
    refine h_exit ?_
    refine q_thenE ?_
    refine q_thenE ?_
    refine q_blockE ?_
    refine q_then ?_
    refine h_reg ?_
    refine h_op (r_move rfl) ?_
    refine h_op (r_add rfl rfl) ?_
    refine h_op (r_assign rfl) ?_
    refine h_nil ?_
    refine q_block ?_
    refine q_then ?_
    refine h_seq ?_
    refine h_reg ?_
    refine h_op (r_move rfl) ?_
    refine h_op (r_field rfl) ?_
    refine h_op (r_loadc rfl) ?_
    refine h_op (r_len rfl) ?_
    refine h_op (r_add rfl rfl) ?_
    refine h_op (r_mul rfl rfl) ?_
    refine h_op (r_add rfl rfl) ?_
    refine h_op (r_add rfl rfl) ?_
    refine h_op (r_assign rfl) ?_
    refine h_nil ?_
    refine q_then ?_
    refine h_exit ?_
    refine q_blockE ?_
    refine q_then ?_
    refine h_seq ?_
    refine h_reg ?_
    refine h_op (r_move rfl) ?_
    refine h_op (r_assign rfl) ?_
    refine h_nil ?_
    refine q_then ?_
    refine h_ret ?_
    exact h_ret1 rfl (aI rfl (by show _ = ((36 + 64 + 32 * p.sibs.n : Nat) : Int); omega)) fun w s => ⟨(), rfl, s.res (List.nil_sublist _) (by simp)⟩
theorem cKind_short (l : List UInt8) (A : Option Addr) (c : Nat) (h : l.length < 2) : Spec Tryz.prog 49 [.slice A l.length c].toArray [] [] (fun _ : Unit => .tuple #[.int .i64 0, .int .i64 5]) (fun _ => []) := by
  refine spec_of Tryz.func49 rfl (n := 17) rfl rfl ?_
  intro W
  refine h_seq ?_
  refine h_reg ?_
  refine h_op (r_assign rfl) ?_
  refine h_op (r_assign rfl) ?_
  refine h_nil ?_
  refine q_then ?_
  refine h_seq ?_
  refine h_block ?_
  refine h_seq ?_
  refine h_reg ?_
  refine h_op (r_move rfl) ?_
  refine h_op (r_len rfl) ?_
  refine h_op (r_bool (r_lss rfl rfl) (decide_eq_true (by omega))) ?_
  refine h_op (r_assign rfl) ?_
  refine h_nil ?_
  refine q_then ?_
  refine h_condT rfl ?_
  refine h_seq ?_
  refine h_reg ?_
  refine h_op (r_assign rfl) ?_
  refine h_op (r_assign rfl) ?_
  refine h_nil ?_
  refine q_then ?_
  refine h_ret ?_
  refine q_blockR ?_
  refine q_thenR ?_
  exact h_ret2 rfl rfl rfl fun w s => ⟨(), rfl, s.res (List.nil_sublist _) (by simp)⟩
theorem cKind_first (l : List UInt8) (A : Option Addr) (c : Nat) (h : 2 ≤ l.length) (h0 : l.getD 0 0 ≠ 1) : Spec Tryz.prog 49 [.slice A l.length c].toArray [.rd A (bc l)] [] (fun _ : Unit => .tuple #[.int .i64 0, .int .i64 6]) (fun _ => []) := by
  have h0' : ¬ ((l.getD 0 0).toNat : Int) = 1 := fun e => h0 (UInt8.toNat_inj.1 (by rw [show (1 : UInt8).toNat = 1 from rfl]; omega))
  refine spec_of Tryz.func49 rfl (n := 17) rfl rfl ?_
  intro W
  refine h_pure (φ := ∃ b o, A = some ⟨b, o, none⟩) (fun w s => Rd.some (s.ok (.rd A (bc l)) (by simp)) (by rw [bc_length]; omega)) ?_
  rintro ⟨b, o, rfl⟩
  refine h_seq ?_
  refine h_reg ?_
  refine h_op (r_assign rfl) ?_
  refine h_op (r_assign rfl) ?_
  refine h_nil ?_
  refine q_then ?_
  refine h_seq ?_
  refine h_block ?_
  refine h_seq ?_
  refine h_reg ?_
  refine h_op (r_move rfl) ?_
  refine h_op (r_len rfl) ?_
  refine h_op (r_bool (r_lss rfl rfl) (decide_eq_false (by omega))) ?_
  refine h_op (r_assign rfl) ?_
  refine h_nil ?_
  refine q_then ?_
  refine h_condF rfl ?_
  refine h_seq ?_
  refine h_reg ?_
  refine h_op (r_move rfl) ?_
  refine h_op (r_idx rfl rfl) ?_
  refine h_op (r_nth rfl (bc_at' (l := l) (i := 0) (by omega))) ?_
  refine h_op (r_bool (r_neq rfl rfl) (decide_eq_true h0')) ?_
  refine h_op (r_assign rfl) ?_
  refine h_nil ?_
  refine q_then ?_
  refine h_condT rfl ?_
  refine h_seq ?_
  refine h_reg ?_
  refine h_op (r_assign rfl) ?_
  refine h_op (r_assign rfl) ?_
  refine h_nil ?_
  refine q_then ?_
  refine h_ret ?_
  refine q_blockR ?_
  refine q_thenR ?_
  exact h_ret2 rfl rfl rfl fun w s => ⟨(), rfl, s.res (List.nil_sublist _) (by simp)⟩
theorem cKind_s (l : List UInt8) (A : Option Addr) (c : Nat) (h : 2 ≤ l.length) (h0 : l.getD 0 0 = 1) : Spec Tryz.prog 49 [.slice A l.length c].toArray [.rd A (bc l)] [] (fun _ : Unit => .tuple #[.int .i64 ((l.getD 1 0).toNat : Int), .int .i64 0]) (fun _ => []) := by
  have h0' : ((l.getD 0 0).toNat : Int) = 1 := by rw [h0]; rfl
  refine spec_of Tryz.func49 rfl (n := 17) rfl rfl ?_
  intro W
  refine h_pure (φ := ∃ b o, A = some ⟨b, o, none⟩) (fun w s => Rd.some (s.ok (.rd A (bc l)) (by simp)) (by rw [bc_length]; omega)) ?_
  rintro ⟨b, o, rfl⟩
  refine h_seq ?_
  refine h_reg ?_
  refine h_op (r_assign rfl) ?_
  refine h_op (r_assign rfl) ?_
  refine h_nil ?_
  refine q_then ?_
  refine h_seq ?_
  refine h_block ?_
  refine h_seq ?_
  refine h_reg ?_
  refine h_op (r_move rfl) ?_
  refine h_op (r_len rfl) ?_
  refine h_op (r_bool (r_lss rfl rfl) (decide_eq_false (by omega))) ?_
  refine h_op (r_assign rfl) ?_
  refine h_nil ?_
  refine q_then ?_
  refine h_condF rfl ?_
  refine h_seq ?_
  refine h_reg ?_
  refine h_op (r_move rfl) ?_
  refine h_op (r_idx rfl rfl) ?_
  refine h_op (r_nth rfl (bc_at' (l := l) (i := 0) (by omega))) ?_
  refine h_op (r_bool (r_neq rfl rfl) (decide_eq_false (fun h => h h0'))) ?_
  refine h_op (r_assign rfl) ?_
  refine h_nil ?_
  refine q_then ?_
  refine h_condF rfl ?_
  refine h_skip ?_
  refine q_block ?_
  refine q_then ?_
  refine h_seq ?_
  refine h_reg ?_
  refine h_op (r_move rfl) ?_
  refine h_op (r_idx rfl rfl) ?_
  refine h_op (r_nth rfl (bc_at' (l := l) (i := 1) (by omega))) ?_
  refine h_op (r_int (r_cUI rfl) (show _ = (((l.getD 1 0).toNat : Nat) : Int) from rfl)) ?_
  refine h_op (r_assign rfl) ?_
  refine h_op (r_assign rfl) ?_
  refine h_nil ?_
  refine q_then ?_
  refine h_ret ?_
  exact h_ret2 rfl rfl rfl fun w s => ⟨(), rfl, s.res (List.nil_sublist _) (by simp)⟩
end Go.Proofs.YtdfeimdhlagebaaGreatDoor
/- U57 -/
namespace Go.Proofs.YtdfeimdhlagebaaGreatDoor
set_option linter.unusedSimpArgs false
set_option linter.unusedVariables false
open Go.RowKit
theorem rds3 {L : List Fa} {B A1 A2 A3 : Option Addr} {n1 n2 n3 : Nat} {l1 l2 l3 : List UInt8} {c1 c2 c3 : List Value} (e1 : c1 = bc l1) (e2 : c2 = bc l2) (e3 : c3 = bc l3) [h0 : Rd1 L (.rd B (svs [(A1, n1, l1), (A2, n2, l2), (A3, n3, l3)]))] [h1 : Rd1 L (.rd A1 c1)] [h2 : Rd1 L (.rd A2 c2)] [h3 : Rd1 L (.rd A3 c3)] : Rds L (.rd B (svs [(A1, n1, l1), (A2, n2, l2), (A3, n3, l3)]) :: rdsOf [(A1, n1, l1), (A2, n2, l2), (A3, n3, l3)]) := by
  subst e1 e2 e3
  exact inferInstanceAs (Rds L [.rd B (svs [(A1, n1, l1), (A2, n2, l2), (A3, n3, l3)]), .rd A1 (bc l1), .rd A2 (bc l2), .rd A3 (bc l3)])
/-- what is written ahead of the siblings -/
def headC (k d : Nat) (lf : Leaf) (bm : B32) : List UInt8 := [1, u8n k, u8n (d / 256), u8n d] ++ (bm.1 ++ (if k = 1 then lf.key.1 ++ lf.value.1 else []))
def upC (k d : Nat) (lf : Leaf) (bm : B32) (ss : List B32) (i : Nat) : List UInt8 := headC k d lf bm ++ (ss.take i).flatMap (·.1)
theorem upC_end (k d : Nat) (lf : Leaf) (bm : B32) (ss : List B32) : upC k d lf bm ss ss.length = encC k d lf bm ss := by
  unfold upC headC encC
  rw [List.take_length]
  simp only [List.append_assoc]
theorem upC_succ (k d : Nat) (lf : Leaf) (bm : B32) {ss : List B32} {i : Nat} (h : i < ss.length) : upC k d lf bm ss i ++ (ss.getD i zB32).1 = upC k d lf bm ss (i + 1) := by
  unfold upC
  rw [show ss.take (i + 1) = ss.take i ++ [ss.getD i zB32] by rw [List.take_add_one, List.getElem?_eq_getElem h, List.getD_eq_getElem?_getD, List.getElem?_eq_getElem h]; rfl, List.flatMap_append, List.flatMap_cons, List.flatMap_nil, List.append_nil, List.append_assoc]
/-- the first 36 bytes -/
def preC (k d : Nat) (bm : B32) : List UInt8 := [1, u8n k, u8n (d / 256), u8n d] ++ bm.1
theorem preC_len (k d : Nat) (bm : B32) : (preC k d bm).length = 36 := by unfold preC; rw [List.length_append, bm.2]; rfl
theorem preC_0 (d : Nat) (lf : Leaf) (bm : B32) (ss : List B32) : preC 0 d bm = upC 0 d lf bm ss 0 := by unfold preC upC headC; simp
theorem preC_1 (d : Nat) (lf : Leaf) (bm : B32) (ss : List B32) (A : Option Addr) (c : Nat) (B B' : Option Addr) : segB [(A, c, preC 1 d bm), (B, 32, lf.key.1), (B', 32, lf.value.1)] = upC 1 d lf bm ss 0 := by unfold preC upC headC segB; simp
theorem upC_len (k d : Nat) (lf : Leaf) (bm : B32) {ss : List B32} {i : Nat} (h : i ≤ ss.length) : (upC k d lf bm ss i).length = (headC k d lf bm).length + 32 * i := by
  unfold upC
  rw [List.length_append, flat_len, List.length_take, Nat.min_eq_left h]
theorem headC_len (k d : Nat) (lf : Leaf) (bm : B32) : (headC k d lf bm).length ≤ 100 := by
  unfold headC
  have h1 := bm.2
  have h2 := lf.key.2
  have h3 := lf.value.2
  split <;> simp only [List.length_append, List.length_cons, List.length_nil, h1, h2, h3] <;> omega
theorem enc_loop (k d : Nat) (lf : Leaf) (bm : B32) (ss : List B32) : (upC k d lf bm ss 0).length = (headC k d lf bm).length := by unfold upC; simp
theorem cEncode_s (p : Proof) (k d : Nat) (hc : checkP p = 0) (hk : p.kind = (k : Int)) (hd : p.depth = (d : Int)) (hk1 : k = 0 ∨ k = 1) (ss : List B32) (hs : p.sibs.n = ss.length) : Spec Tryz.prog 14 [.agg p.cells.toArray].toArray [.rd p.sibs.A (dgs ss)] [] (fun u : Option Addr × Nat => .tuple #[.slice u.1 (encC k d p.leaf p.bitmap ss).length u.2, .int .i64 0]) (fun u => [.own (.slice u.1 (encC k d p.leaf p.bitmap ss).length u.2) (encC k d p.leaf p.bitmap ss).length 5 1 (bc (encC k d p.leaf p.bitmap ss))]) := by
  have hC := Check_s p
  rw [hc] at hC
  have hS := cSize_s p k hc hk hk1
  have hsb : p.sibs.n ≤ 256 := ok_sibs hc ▸ depths_le p.bitmap
  have hdp := ok_depth hc
  have hbm := p.bitmap.2
  have hlk := p.leaf.key.2
  have hlv := p.leaf.value.2
  have hsz : lenC k p.sibs.n ≤ 100 + 32 * 256 := by unfold lenC; split <;> omega
  rw [← upC_end]
  have hloop := fun i => upC_len k d p.leaf p.bitmap (ss := ss) (i := i)
  have hstep := fun i => upC_succ k d p.leaf p.bitmap (ss := ss) (i := i)
  have hhl := headC_len k d p.leaf p.bitmap
  have hpl := preC_len k d p.bitmap
  have hkd : p.cells = Proof.cells ⟨(k : Int), (d : Int), p.leaf, p.bitmap, p.sibs⟩ := by rw [← hk, ← hd]
  rw [hkd] at hC hS ⊢
  generalize lenC k p.sibs.n = sz at *
  refine spec_of Tryz.func14 rfl (n := 57) rfl rfl ?_
  intro W
  refine h_seq ?_
  refine h_reg ?_
  refine h_opX (x_box rfl) fun g1 => ?_
  refine h_op (r_assign rfl) ?_
  refine h_op (r_assign rfl) ?_
  refine h_nil ?_
  refine q_then ?_
  refine h_seq ?_
  refine h_seq ?_
  refine h_reg ?_
  refine h_op (r_loadr rfl) ?_
  refine h_call (hC.comes) rfl rfl rfl fun _ => ?_
  refine h_op (r_assign rfl) ?_
  refine h_nil ?_
  refine q_then ?_
  refine h_seq ?_
  refine h_reg ?_
  refine h_op (r_move rfl) ?_
  refine h_op (r_neq rfl rfl) ?_
  refine h_nil ?_
  refine q_then ?_
  refine h_no rfl ((fun h => h rfl)) ?_
  refine h_skip ?_
  refine q_then ?_
  refine h_seq ?_
  refine h_reg ?_
  refine h_op (r_loadr rfl) ?_
  refine h_call (hS.comes) rfl rfl rfl fun _ => ?_
  refine h_opX (x_make0 rfl rfl) fun g15 => ?_
  refine h_op (r_assign rfl) ?_
  refine h_nil ?_
  refine q_then ?_
  refine h_seq ?_
  change H _ _ _ _ _ (.own (.slice (some ⟨g15, 0, none⟩) 0 sz) 0 _ _ (bc []) :: _) _
  refine h_reg ?_
  refine h_op (r_move rfl) ?_
  refine h_op (r_field rfl) ?_
  refine h_op (r_loadc rfl) ?_
  refine h_op (r_cNW rfl) ?_
  refine h_op (r_field rfl) ?_
  refine h_op (r_loadc rfl) ?_
  refine h_op (r_shr8 rfl rfl) ?_
  refine h_op (r_cNW rfl) ?_
  refine h_op (r_field rfl) ?_
  refine h_op (r_loadc rfl) ?_
  refine h_op (r_cNW rfl) ?_
  refine h_opX (x_bslV (ys := [.int .u8 1, .int .u8 ((BitVec.ofNat 8 k).toNat : Int), .int .u8 ((BitVec.ofNat 8 (d / 256)).toNat : Int), .int .u8 ((BitVec.ofNat 8 d).toNat : Int)]) (bc [1, u8n k, u8n (d / 256), u8n d]) rfl rfl (bc_one _)) fun g27 => ?_
  refine h_opX (x_appAB (ly := [1, u8n k, u8n (d / 256), u8n d]) rfl rfl (fun h => by cases h) rfl) fun ⟨A28, c28⟩ => ?_
  refine h_op (r_assign rfl) ?_
  refine h_nil ?_
  refine q_then ?_
  refine h_seq ?_
  refine h_reg ?_
  refine h_op (r_move rfl) ?_
  refine h_op (r_field rfl) ?_
  refine h_op (r_slA rfl) ?_
  refine h_opX (x_appAB (ly := p.bitmap.1) rfl rfl (fun h => by cases h) hbm (N' := (preC k d p.bitmap).length) (hN := hpl.symm) (hr := inferInstanceAs (Rd1 _ (.rd _ p.bitmap.cells)))) fun ⟨A32, c32⟩ => ?_
  refine h_op (r_assign rfl) ?_
  refine h_nil ?_
  refine q_then ?_
  refine h_seq ?_
  refine h_seq ?_
  change H _ _ _ _ _ (.own (.slice A32 (preC k d p.bitmap).length c32) (preC k d p.bitmap).length _ _ (bc (preC k d p.bitmap)) :: _) _
  refine h_pure (φ := ∃ g, A32 = some ⟨g, 0, none⟩) (fun w s => s.ownSome (N := (preC k d p.bitmap).length) (c := c32) (by omega)) ?_
  rintro ⟨ga, rfl⟩
  rcases hk1 with rfl | rfl
  · rw [preC_0 d p.leaf p.bitmap ss]
    refine h_reg ?_
    refine h_op (r_field rfl) ?_
    refine h_op (r_loadc rfl) ?_
    refine h_op (r_bool (r_eql rfl rfl) (show _ = false from rfl)) ?_
    refine h_nil ?_
    refine q_then ?_
    refine h_condF rfl ?_
    refine h_skip ?_
    refine q_then ?_
    refine h_seq ?_
    refine h_seq ?_
    refine h_reg ?_
    refine h_op (r_field rfl) ?_
    refine h_op (r_loadc rfl) ?_
    refine h_op (r_len rfl) ?_
    refine h_op (r_move rfl) ?_
    refine h_nil ?_
    refine q_then ?_
    refine h_block ?_
    refine h_loop (fun (s : Nat × Option Addr × Nat) => s.1 ≤ ss.length) (fun (s : Nat × Option Addr × Nat) => [(48, .int .i64 (s.1 : Int)), (47, .int .i64 (p.sibs.n : Int)), (46, .slice p.sibs.A p.sibs.n p.sibs.c), (5, .slice s.2.1 (upC 0 d p.leaf p.bitmap ss s.1).length s.2.2)]) (fun (s : Nat × Option Addr × Nat) => [.own (.slice s.2.1 (upC 0 d p.leaf p.bitmap ss s.1).length s.2.2) (upC 0 d p.leaf p.bitmap ss s.1).length 5 1 (bc (upC 0 d p.leaf p.bitmap ss s.1)), .rd p.sibs.A (dgs ss)]) (fun (s : Nat × Option Addr × Nat) => ss.length - s.1) (0, some ⟨ga, 0, none⟩, c32) ((show 0 ≤ ss.length from Nat.zero_le _)) ⟨rfl, rfl, rfl, rfl, trivial⟩ (same) ?_
    rintro ⟨i, A, c⟩ hi
    dsimp only at hi ⊢
    have hli := hloop i hi
    refine h_seq ?_
    refine h_reg ?_
    refine h_op (r_lss rfl rfl) ?_
    refine h_nil ?_
    refine q_then ?_
    refine h_seq ?_
    refine h_cond rfl (fun h => ?_) (fun h => ?_)
    · have hi2 : i < ss.length := by omega
      have hli2 := hloop (i + 1) hi2
      have hst := hstep i hi2
      refine h_pure (φ := ∃ b o, p.sibs.A = some ⟨b, o, none⟩) (fun w s => Rd.some (s.ok (.rd p.sibs.A (dgs ss)) (by simp)) (by rw [dgs_len]; omega)) ?_
      rintro ⟨bb, o, hA⟩
      rw [hA]
      refine h_skip ?_
      refine q_then ?_
      refine h_seq ?_
      refine h_block ?_
      refine h_seq ?_
      refine h_reg ?_
      refine h_op (r_idx rfl rfl) ?_
      refine h_op (r_nthr rfl (out := (ss.getD i zB32).cells) (B32.cells_length _) (dgs_at hi2)) ?_
      refine h_opX (x_alloc) fun g7 => ?_
      refine h_opS (s_storer rfl rfl) ?_
      refine h_nil ?_
      refine q_then ?_
      refine h_reg ?_
      refine h_op (r_move rfl) ?_
      refine h_op (r_slA rfl) ?_
      refine h_opX (x_appAB (ly := (ss.getD i zB32).1) rfl rfl (fun h => by cases h) (ss.getD i zB32).2 (N' := (upC 0 d p.leaf p.bitmap ss (i + 1)).length) (hN := by omega) (hr := inferInstanceAs (Rd1 _ (.rd _ (ss.getD i zB32).cells)))) fun ⟨A54, c54⟩ => ?_
      refine h_op (r_assign rfl) ?_
      refine h_nil ?_
      refine q_block ?_
      refine q_then ?_
      refine h_reg ?_
      refine h_op (r_add rfl rfl) ?_
      refine h_op (r_move rfl) ?_
      refine h_nil ?_
      rw [hst, ← hA]
      exact h_back (i + 1, A54, c54) ((show i + 1 ≤ ss.length from hi2)) ((show ss.length - (i + 1) < ss.length - i by omega)) ⟨rfl, rfl, rfl, rfl, trivial⟩ (same)
    · obtain rfl : i = ss.length := by omega
      refine h_exit ?_
      refine q_thenE ?_
      refine q_thenE ?_
      refine q_blockE ?_
      refine q_then ?_
      refine h_seq ?_
      refine h_reg ?_
      refine h_op (r_move rfl) ?_
      refine h_op (r_assign rfl) ?_
      refine h_op (r_assign rfl) ?_
      refine h_nil ?_
      refine q_then ?_
      refine h_ret ?_
      exact h_ret2 rfl rfl rfl fun w s => ⟨(A, c), rfl, (same (L' := [.own (.slice A (upC 0 d p.leaf p.bitmap ss ss.length).length c) (upC 0 d p.leaf p.bitmap ss ss.length).length 5 1 (bc (upC 0 d p.leaf p.bitmap ss ss.length))]) w s).res (List.Sublist.refl _) (by simp [Fa.wr])⟩
  · have hseg := fun g => preC_1 d p.leaf p.bitmap ss (some ⟨ga, 0, none⟩) c32 (some ⟨g, 2, none⟩) (some ⟨g, 34, none⟩)
    refine h_reg ?_
    refine h_op (r_field rfl) ?_
    refine h_op (r_loadc rfl) ?_
    refine h_op (r_bool (r_eql rfl rfl) (show _ = true from rfl)) ?_
    refine h_nil ?_
    refine q_then ?_
    refine h_condT rfl ?_
    refine ha_start [] [] mixed (same) ?_
    refine ha_takeP 0 rfl (r_move rfl) ?_
    refine ha_takeP 1 rfl (r_field rfl) ?_
    refine ha_takeP 2 rfl (r_field rfl) ?_
    refine ha_takeP 3 rfl (r_slA rfl) ?_
    refine ha_takeP 4 rfl (r_field rfl) ?_
    refine ha_takeP 5 rfl (r_field rfl) ?_
    refine ha_takeP 6 rfl (r_slA rfl) ?_
    refine ha_one 7 ?_
    refine ho_X 7 rfl (rk (x_bslV (ys := [.slice (some ⟨ga, 0, none⟩) (preC 1 d p.bitmap).length c32, .slice (some ⟨g1, 2, none⟩) 32 32, .slice (some ⟨g1, 34, none⟩) 32 32]) (svs [(some ⟨ga, 0, none⟩, c32, preC 1 d p.bitmap), (some ⟨g1, 2, none⟩, 32, p.leaf.key.1), (some ⟨g1, 34, none⟩, 32, p.leaf.value.1)]) rfl (by simp only [svs, sv, List.map_cons, List.map_nil, hlk, hlv]) (svs_one _))) (fun _ => same) fun g43 => ?_
    refine ha_one 8 ?_
    refine ho_C 8 rfl ((Concat_s [(some ⟨ga, 0, none⟩, c32, preC 1 d p.bitmap), (some ⟨g1, 2, none⟩, 32, p.leaf.key.1), (some ⟨g1, 34, none⟩, 32, p.leaf.value.1)] (some ⟨g43, 0, none⟩) 3 (by simp) (by simp [segN]; omega)).comes (hr := rds3 (c1 := bc (preC 1 d p.bitmap)) (c2 := p.leaf.key.cells) (c3 := p.leaf.value.cells) rfl rfl rfl)) rfl rfl rfl (fun _ => same) fun ⟨A44, c44⟩ => ?_
    refine ha_takeP 9 rfl (r_assign rfl) ?_
    refine ha_done (by kernel_rfl) ?_
    refine q_then ?_
    dsimp only
    rw [hseg]
    refine h_seq ?_
    refine h_seq ?_
    refine h_reg ?_
    refine h_op (r_field rfl) ?_
    refine h_op (r_loadc rfl) ?_
    refine h_op (r_len rfl) ?_
    refine h_op (r_move rfl) ?_
    refine h_nil ?_
    refine q_then ?_
    refine h_block ?_
    refine h_loop (fun (s : Nat × Option Addr × Nat) => s.1 ≤ ss.length) (fun (s : Nat × Option Addr × Nat) => [(48, .int .i64 (s.1 : Int)), (47, .int .i64 (p.sibs.n : Int)), (46, .slice p.sibs.A p.sibs.n p.sibs.c), (5, .slice s.2.1 (upC 1 d p.leaf p.bitmap ss s.1).length s.2.2)]) (fun (s : Nat × Option Addr × Nat) => [.own (.slice s.2.1 (upC 1 d p.leaf p.bitmap ss s.1).length s.2.2) (upC 1 d p.leaf p.bitmap ss s.1).length 5 1 (bc (upC 1 d p.leaf p.bitmap ss s.1)), .rd p.sibs.A (dgs ss)]) (fun (s : Nat × Option Addr × Nat) => ss.length - s.1) (0, A44, c44) ((show 0 ≤ ss.length from Nat.zero_le _)) ⟨rfl, rfl, rfl, rfl, trivial⟩ (same) ?_
    rintro ⟨i, A, c⟩ hi
    dsimp only at hi ⊢
    have hli := hloop i hi
    refine h_seq ?_
    refine h_reg ?_
    refine h_op (r_lss rfl rfl) ?_
    refine h_nil ?_
    refine q_then ?_
    refine h_seq ?_
    refine h_cond rfl (fun h => ?_) (fun h => ?_)
    · have hi2 : i < ss.length := by omega
      have hli2 := hloop (i + 1) hi2
      have hst := hstep i hi2
      refine h_pure (φ := ∃ b o, p.sibs.A = some ⟨b, o, none⟩) (fun w s => Rd.some (s.ok (.rd p.sibs.A (dgs ss)) (by simp)) (by rw [dgs_len]; omega)) ?_
      rintro ⟨bb, o, hA⟩
      rw [hA]
      refine h_skip ?_
      refine q_then ?_
      refine h_seq ?_
      refine h_block ?_
      refine h_seq ?_
      refine h_reg ?_
      refine h_op (r_idx rfl rfl) ?_
      refine h_op (r_nthr rfl (out := (ss.getD i zB32).cells) (B32.cells_length _) (dgs_at hi2)) ?_
      refine h_opX (x_alloc) fun g7 => ?_
      refine h_opS (s_storer rfl rfl) ?_
      refine h_nil ?_
      refine q_then ?_
      refine h_reg ?_
      refine h_op (r_move rfl) ?_
      refine h_op (r_slA rfl) ?_
      refine h_opX (x_appAB (ly := (ss.getD i zB32).1) rfl rfl (fun h => by cases h) (ss.getD i zB32).2 (N' := (upC 1 d p.leaf p.bitmap ss (i + 1)).length) (hN := by omega) (hr := inferInstanceAs (Rd1 _ (.rd _ (ss.getD i zB32).cells)))) fun ⟨A54, c54⟩ => ?_
      refine h_op (r_assign rfl) ?_
      refine h_nil ?_
      refine q_block ?_
      refine q_then ?_
      refine h_reg ?_
      refine h_op (r_add rfl rfl) ?_
      refine h_op (r_move rfl) ?_
      refine h_nil ?_
      rw [hst, ← hA]
      exact h_back (i + 1, A54, c54) ((show i + 1 ≤ ss.length from hi2)) ((show ss.length - (i + 1) < ss.length - i by omega)) ⟨rfl, rfl, rfl, rfl, trivial⟩ (same)
    · obtain rfl : i = ss.length := by omega
      refine h_exit ?_
      refine q_thenE ?_
      refine q_thenE ?_
      refine q_blockE ?_
      refine q_then ?_
      refine h_seq ?_
      refine h_reg ?_
      refine h_op (r_move rfl) ?_
      refine h_op (r_assign rfl) ?_
      refine h_op (r_assign rfl) ?_
      refine h_nil ?_
      refine q_then ?_
      refine h_ret ?_
      exact h_ret2 rfl rfl rfl fun w s => ⟨(A, c), rfl, (same (L' := [.own (.slice A (upC 1 d p.leaf p.bitmap ss ss.length).length c) (upC 1 d p.leaf p.bitmap ss ss.length).length 5 1 (bc (upC 1 d p.leaf p.bitmap ss ss.length))]) w s).res (List.Sublist.refl _) (by simp [Fa.wr])⟩
end Go.Proofs.YtdfeimdhlagebaaGreatDoor
/- U58 -/
namespace Go.Proofs.YtdfeimdhlagebaaGreatDoor
set_option linter.unusedSimpArgs false
set_option linter.unusedVariables false
open Go.RowKit
theorem bc_app (l m : List UInt8) : bc (l ++ m) = bc l ++ bc m := by unfold bc; rw [List.map_append]
theorem cutZ {h : Zh} {A : Option Addr} {l m : List UInt8} {c k : Nat} (hr : RdZ h A (bc (l ++ m))) (hk : l.length = k) (hk0 : 0 < k) (hc : k + m.length ≤ c) : RdZ h (cutA A c k 1) (bc m) := by
  unfold cutA
  split
  · have : m = [] := List.eq_nil_of_length_eq_zero (by omega)
    rw [this]
    exact RdZ.nil _ _
  · refine ⟨fun j v hv => ?_⟩
    have h1 := hr.at_ (k + j) v (by rw [bc_app, List.getElem?_append_right (by rw [bc_length]; omega), bc_length, hk, Nat.add_sub_cancel_left]; exact hv)
    obtain ⟨b, o, rfl, h2⟩ := h1
    exact ⟨b, o + k, by simp [Addr.add_mid], by rw [Nat.add_assoc]; exact h2⟩
section
variable (h : Zh)
theorem cpart_s (x : B32) (r : List UInt8) (A : Option Addr) (c g : Nat) [hr : RdZ h A (bc (x.1 ++ r))] (hc : 32 + r.length ≤ c) (hb : r.length ≤ 1000000000) :
    Spec Tryz.prog 92 [.pointer (some ⟨g, 0, none⟩)].toArray [.zone false h] [.blk g [.slice A (32 + r.length) c, .bool false] 171] (fun _ : {y : Option Addr × Nat // RdZ h y.1 (bc r) ∧ r.length ≤ y.2} => .agg x.cells.toArray) (fun y => [.blk g [.slice y.1.1 r.length y.1.2, .bool false] 171]) := by
  have hx := x.2
  have hlen : (bc (x.1 ++ r)).length = 32 + r.length := by rw [bc_length, List.length_append, hx]
  obtain ⟨b, o, rfl, -⟩ := hr.at_ 0 _ (List.getElem?_eq_getElem (by omega))
  have hx' : RowAt (bc (x.1 ++ r)) 0 32 x.cells := ⟨fun j v hv => by rw [bc_app, Nat.zero_add]; show (x.cells ++ bc r)[j]? = some v; rw [List.getElem?_append_left (List.getElem?_eq_some_iff.1 hv).1]; exact hv, B32.cells_length x⟩
  have hcz := cutZ hr hx (by omega) hc
  refine spec_of Tryz.func92 rfl (n := 28) rfl rfl ?_
  intro W
  refine h_seq ?_
  refine h_reg ?_
  refine h_opX (x_alloc) fun g2 => ?_
  refine h_nil ?_
  refine q_then ?_
  refine h_seq ?_
  refine h_seq ?_
  refine h_reg ?_
  refine h_op (r_move rfl) ?_
  refine h_op (r_nilc rfl) ?_
  refine h_op (r_field rfl) ?_
  refine h_op (r_loadc rfl) ?_
  refine h_op (r_len rfl) ?_
  refine h_op (r_bool (r_lss rfl rfl) (decide_eq_false (by omega))) ?_
  refine h_nil ?_
  refine q_then ?_
  refine h_condF rfl ?_
  refine h_skip ?_
  refine q_then ?_
  refine h_seq ?_
  refine h_reg ?_
  refine h_op (r_move rfl) ?_
  refine h_op (r_nilc rfl) ?_
  refine h_op (r_field rfl) ?_
  refine h_op (r_loadc rfl) ?_
  refine h_op (r_arr rfl) ?_
  refine h_op (r_loadr rfl) ?_
  refine h_opS (s_storer rfl rfl) ?_
  refine h_nil ?_
  refine q_then ?_
  refine h_seq ?_
  refine h_reg ?_
  refine h_op (r_move rfl) ?_
  refine h_op (r_move rfl) ?_
  refine h_op (r_nilc rfl) ?_
  refine h_op (r_field rfl) ?_
  refine h_op (r_loadc rfl) ?_
  refine h_op (r_as (r_slL rfl rfl) (show _ = Value.slice (cutA (some ⟨b, o, none⟩) c 32 1) r.length (c - 32) by rw [Nat.add_sub_cancel_left])) ?_
  refine h_op (r_nilc rfl) ?_
  refine h_op (r_field rfl) ?_
  refine h_opS (s_store rfl rfl rfl) ?_
  refine h_nil ?_
  refine q_then ?_
  refine h_seq ?_
  refine h_reg ?_
  refine h_op (r_loadr rfl) ?_
  refine h_opS (s_storer rfl rfl) ?_
  refine h_nil ?_
  refine q_then ?_
  refine h_ret ?_
  exact h_ret1 rfl (rv_row rfl) fun w s => ⟨⟨(cutA (some ⟨b, o, none⟩) c 32 1, c - 32), hcz, by dsimp only; omega⟩, rfl, (same w s).res (List.Sublist.refl _) (by simp [Fa.wr])⟩
end
end Go.Proofs.YtdfeimdhlagebaaGreatDoor
/- U59 -/
namespace Go.Proofs.YtdfeimdhlagebaaGreatDoor
set_option linter.unusedSimpArgs false
set_option linter.unusedVariables false
open Go.RowKit
def flatS (ss : List B32) : List UInt8 := ss.flatMap (·.1)
theorem flatS_len (ss : List B32) : (flatS ss).length = 32 * ss.length := flat_len ss
theorem flatS_drop {ss : List B32} {i : Nat} (h : i < ss.length) : flatS (ss.drop i) = (ss.getD i zB32).1 ++ flatS (ss.drop (i + 1)) := by
  rw [List.drop_eq_getElem_cons h, List.getD_eq_getElem?_getD, List.getElem?_eq_getElem h]
  rfl
def midC (k : Nat) (lf : Leaf) : List UInt8 := if k = 1 then lf.key.1 ++ lf.value.1 else []
theorem encC_eq (k d : Nat) (lf : Leaf) (bm : B32) (ss : List B32) : encC k d lf bm ss = [1, u8n k, u8n (d / 256), u8n d] ++ (bm.1 ++ (midC k lf ++ flatS ss)) := rfl
theorem dgs_take {ss : List B32} {i : Nat} (h : i < ss.length) : dgs (ss.take i) ++ (ss.getD i zB32).cells = dgs (ss.take (i + 1)) := by
  rw [show ss.take (i + 1) = ss.take i ++ [ss.getD i zB32] by rw [List.take_add_one, List.getElem?_eq_getElem h, List.getD_eq_getElem?_getD, List.getElem?_eq_getElem h]; rfl, dgs_append, dgs_one']
section
variable (h : Zh)
theorem Decode_enc (k d : Nat) (lf : Leaf) (bm : B32) (ss : List B32) (hk1 : k = 0 ∨ k = 1) (hd : d ≤ 256) (hc : ∀ A c, checkP ⟨(k : Int), (d : Int), lf, bm, ⟨A, ss.length, c⟩⟩ = 0) (hlf : k = 0 → lf = zLeaf) (B : Option Addr) (c : Nat) (hcap : (encC k d lf bm ss).length ≤ c) [hB : RdZ h B (bc (encC k d lf bm ss))] :
    Spec Tryz.prog 48 [.slice B (encC k d lf bm ss).length c].toArray [.zone false h] [] (fun u : Option Addr × Nat => .tuple #[.agg (Proof.cells ⟨(k : Int), (d : Int), lf, bm, ⟨u.1, ss.length, u.2⟩⟩).toArray, .int .i64 0]) (fun u => [.own (.slice u.1 ss.length u.2) ss.length 31 32 (dgs ss)]) := by
  have hss : ss.length ≤ 256 := by
    have h1 : (depths bm).length = ss.length := ok_sibs (hc none 0)
    have h2 := depths_le bm
    omega
  have hbm := bm.2
  have hlk := lf.key.2
  have hlv := lf.value.2
  have hfl := flatS_len ss
  have hml : (midC k lf).length ≤ 64 := by unfold midC; split <;> simp only [List.length_append, List.length_nil, hlk, hlv] <;> omega
  have hlen : (encC k d lf bm ss).length = 36 + (midC k lf).length + 32 * ss.length := by
    rw [encC_eq]
    simp only [List.length_append, List.length_cons, List.length_nil, hbm, hfl]
    omega
  have hl0 : (encC k d lf bm ss).getD 0 0 = 1 := rfl
  have hl1 : ((encC k d lf bm ss).getD 1 0).toNat = k := by
    show (UInt8.ofNat k).toNat = k
    rw [UInt8.toNat_ofNat', Nat.mod_eq_of_lt (by omega)]
  have hl2 : ((encC k d lf bm ss).getD 2 0).toNat = d / 256 := by
    show (UInt8.ofNat (d / 256)).toNat = d / 256
    rw [UInt8.toNat_ofNat', Nat.mod_eq_of_lt (by omega)]
  have hl3 : ((encC k d lf bm ss).getD 3 0).toNat = d % 256 := by
    show (UInt8.ofNat d).toNat = d % 256
    rw [UInt8.toNat_ofNat']
  have hz : RdZ h (cutA B c 4 1) (bc (bm.1 ++ (midC k lf ++ flatS ss))) := cutZ (l := [1, u8n k, u8n (d / 256), u8n d]) hB rfl (by omega) (by simp only [List.length_append, hbm, hfl]; omega)
  have hK := cKind_s (encC k d lf bm ss) B c (by omega) hl0
  rw [hl1] at hK
  generalize encC k d lf bm ss = l at *
  have h4 : l.length - 4 = 32 + (midC k lf ++ flatS ss).length := by rw [List.length_append, hfl]; omega
  have hc4 : 32 + (midC k lf ++ flatS ss).length ≤ c - 4 := by omega
  have hrl : (midC k lf ++ flatS ss).length ≤ 1000000000 := by omega
  refine spec_of Tryz.func48 rfl (n := 104) rfl rfl ?_
  intro W
  obtain ⟨b, o, rfl, -⟩ := hB.at_ 0 _ (List.getElem?_eq_getElem (by rw [bc_length]; omega))
  refine h_seq ?_
  refine h_reg ?_
  refine h_opX (x_alloc) fun g2 => ?_
  refine h_op (r_assign rfl) ?_
  refine h_nil ?_
  refine q_then ?_
  refine h_seq ?_
  refine h_seq ?_
  refine h_reg ?_
  refine h_op (r_move rfl) ?_
  refine h_op (r_len rfl) ?_
  refine h_op (r_bool (r_lss rfl rfl) (decide_eq_false (by omega))) ?_
  refine h_nil ?_
  refine q_then ?_
  refine h_condF rfl ?_
  refine h_skip ?_
  refine q_then ?_
  refine h_seq ?_
  refine h_reg ?_
  refine h_op (r_move rfl) ?_
  refine h_call (hK.comes) rfl rfl rfl fun _ => ?_
  refine h_op (r_move rfl) ?_
  refine h_op (r_extract rfl rfl) ?_
  refine h_op (r_extract rfl rfl) ?_
  refine h_op (r_assign rfl) ?_
  refine h_op (r_assign rfl) ?_
  refine h_nil ?_
  refine q_then ?_
  refine h_seq ?_
  refine h_seq ?_
  refine h_reg ?_
  refine h_op (r_move rfl) ?_
  refine h_op (r_neq rfl rfl) ?_
  refine h_nil ?_
  refine q_then ?_
  refine h_no rfl ((fun h => h rfl)) ?_
  rcases hk1 with rfl | rfl
  · obtain rfl := hlf rfl
    refine h_skip ?_
    refine q_then ?_
    refine h_seq ?_
    refine h_seq ?_
    refine h_reg ?_
    refine h_op (r_move rfl) ?_
    refine h_op (r_bool (r_neq rfl rfl) (show _ = false from rfl)) ?_
    refine h_op (r_move rfl) ?_
    refine h_opOff ?_
    refine h_opOff ?_
    refine h_op (r_pick rfl rfl) ?_
    refine h_nil ?_
    refine q_then ?_
    refine h_condF rfl ?_
    refine h_skip ?_
    refine q_then ?_
    refine h_seq ?_
    refine h_reg ?_
    refine h_op (r_move rfl) ?_
    refine h_op (r_as (r_slL rfl rfl) (show _ = Value.slice (cutA (some ⟨b, o, none⟩) c 4 1) (32 + (midC 0 zLeaf ++ flatS ss).length) (c - 4) by rw [h4])) ?_
    refine h_op (r_build rfl) ?_
    refine h_opX (x_box rfl) fun g32 => ?_
    refine h_op (r_assign rfl) ?_
    refine h_nil ?_
    refine q_then ?_
    refine h_seq ?_
    refine h_reg ?_
    refine h_op (r_move rfl) ?_
    refine h_op (r_func rfl rfl) ?_
    refine h_op (r_assign rfl) ?_
    refine h_nil ?_
    refine q_then ?_
    refine h_seq ?_
    refine h_join (fun (u : {y : Option Addr × Nat // RdZ h y.1 (bc (midC 0 zLeaf ++ flatS ss)) ∧ (midC 0 zLeaf ++ flatS ss).length ≤ y.2} × Nat) => [(8, .pointer (some ⟨u.2, 0, none⟩)), (7, .func (.func 92) [.pointer (some ⟨g32, 0, none⟩)].toArray #[]), (6, .pointer (some ⟨g32, 0, none⟩)), (4, .int .i64 ((0 : Nat) : Int)), (2, .pointer (some ⟨g2, 0, none⟩))]) (fun (u : {y : Option Addr × Nat // RdZ h y.1 (bc (midC 0 zLeaf ++ flatS ss)) ∧ (midC 0 zLeaf ++ flatS ss).length ≤ y.2} × Nat) => [.blk u.2 (Proof.cells ⟨((0 : Nat) : Int), (d : Int), zProof.leaf, bm, zProof.sibs⟩) 36, .blk g32 [.slice u.1.1.1 (midC 0 zLeaf ++ flatS ss).length u.1.1.2, .bool false] 171, .blk g2 zProof.cells 36, .zone false h]) (fun kk => ?_) ?_
    · refine ha_start [.zone false h] [] mixed (same) ?_
      refine ha_takeP 0 rfl (r_move rfl) ?_
      refine ha_takeP 1 rfl (r_move rfl) ?_
      refine ha_takeP 2 rfl (r_idx rfl rfl) ?_
      refine ha_take 3 rfl (r_nth rfl (bc_at' (l := l) (i := 2) (by omega))) ?_
      refine ha_takeP 4 rfl (r_int (r_cUI rfl) (show _ = ((d / 256 : Nat) : Int) from congrArg Nat.cast hl2)) ?_
      refine ha_takeP 5 rfl (r_shl8 rfl rfl) ?_
      refine ha_takeP 6 rfl (r_move rfl) ?_
      refine ha_takeP 7 rfl (r_idx rfl rfl) ?_
      refine ha_take 8 rfl (r_nth rfl (bc_at' (l := l) (i := 3) (by omega))) ?_
      refine ha_takeP 9 rfl (r_int (r_cUI rfl) (show _ = ((d % 256 : Nat) : Int) from congrArg Nat.cast hl3)) ?_
      refine ha_takeP 10 rfl (r_int (r_or8 rfl rfl) (show _ = (d : Int) by omega)) ?_
      refine ha_takeP 11 rfl (r_move rfl) ?_
      refine ha_two 12 14 ?_ ?_
      · refine ho_C 12 rfl ((cpart_s h bm (midC 0 zLeaf ++ flatS ss) (cutA (some ⟨b, o, none⟩) c 4 1) (c - 4) g32 hc4 hrl).comes) rfl rfl rfl (fun _ => same) fun y47 => ?_
        refine ha_takeP 13 rfl (r_build rfl) ?_
        refine ha_one 14 ?_
        refine ho_X 14 rfl (rk (x_alloc)) (fun _ => same) fun g8 => ?_
        refine ha_one 15 ?_
        refine ho_SL 15 rfl (s_storer rfl rfl) ?_
        exact h_K (kk (y47, g8)) (⟨rfl, rfl, rfl, rfl, rfl, trivial⟩) same
      · refine ho_X 14 rfl (rk (x_alloc)) (fun _ => same) fun g8 => ?_
        refine ha_one 12 ?_
        refine ho_C 12 rfl ((cpart_s h bm (midC 0 zLeaf ++ flatS ss) (cutA (some ⟨b, o, none⟩) c 4 1) (c - 4) g32 hc4 hrl).comes) rfl rfl rfl (fun _ => same) fun y47 => ?_
        refine ha_takeP 13 rfl (r_build rfl) ?_
        refine ha_one 15 ?_
        refine ho_SL 15 rfl (s_storer rfl rfl) ?_
        exact h_K (kk (y47, g8)) (⟨rfl, rfl, rfl, rfl, rfl, trivial⟩) same
    rintro ⟨⟨⟨A47, c47⟩, hz0, hc0⟩, g8⟩
    refine q_then ?_
    dsimp only at hz0 hc0 ⊢
    change H _ _ _ _ _ (.blk g8 (Proof.cells ⟨((0 : Nat) : Int), (d : Int), zLeaf, bm, ⟨none, 0, 0⟩⟩) _ :: _) _
    refine h_seq ?_
    refine h_seq ?_
    refine h_reg ?_
    refine h_op (r_move rfl) ?_
    refine h_op (r_bool (r_eql rfl rfl) (show _ = false from rfl)) ?_
    refine h_nil ?_
    refine q_then ?_
    refine h_condF rfl ?_
    rw [show (midC 0 zLeaf ++ flatS ss) = flatS (ss.drop 0) from rfl] at hz0 hc0 ⊢
    refine h_skip ?_
    refine q_then ?_
    refine h_seq ?_
    refine h_block ?_
    refine h_nil_own 31 32 (xs := dgs (ss.take 0)) rfl ?_
    refine h_loop (fun (s : Nat × (Option Addr × Nat) × Option Addr × Nat) => s.1 ≤ ss.length ∧ RdZ h s.2.1.1 (bc (flatS (ss.drop s.1))) ∧ (flatS (ss.drop s.1)).length ≤ s.2.1.2) (fun (s : Nat × (Option Addr × Nat) × Option Addr × Nat) => [(8, .pointer (some ⟨g8, 0, none⟩)), (7, .func (.func 92) [.pointer (some ⟨g32, 0, none⟩)].toArray #[]), (6, .pointer (some ⟨g32, 0, none⟩)), (2, .pointer (some ⟨g2, 0, none⟩))]) (fun (s : Nat × (Option Addr × Nat) × Option Addr × Nat) => [.own (.slice s.2.2.1 s.1 s.2.2.2) s.1 31 32 (dgs (ss.take s.1)), .blk g8 (Proof.cells ⟨((0 : Nat) : Int), (d : Int), zLeaf, bm, ⟨s.2.2.1, s.1, s.2.2.2⟩⟩) 36, .blk g32 [.slice s.2.1.1 (flatS (ss.drop s.1)).length s.2.1.2, .bool false] 171, .blk g2 zProof.cells 36, .zone false h]) (fun (s : Nat × (Option Addr × Nat) × Option Addr × Nat) => ss.length - s.1) (0, (A47, c47), none, 0) (⟨Nat.zero_le _, hz0, hc0⟩) ⟨rfl, rfl, rfl, rfl, trivial⟩ (same) ?_
    rintro ⟨i, ⟨Ar, cr⟩, A, c9⟩ ⟨hi, hzr, hcr⟩
    dsimp only at hi hzr hcr ⊢
    have hdl := flatS_len (ss.drop i)
    rw [List.length_drop] at hdl
    by_cases hlt : i < ss.length
    · have hdr := flatS_drop hlt
      have hxl := (ss.getD i zB32).2
      have hl2 : (flatS (ss.drop i)).length = 32 + (flatS (ss.drop (i + 1))).length := by rw [hdr, List.length_append, hxl]
      have htk := dgs_take hlt
      rw [hdr] at hzr
      rw [hl2] at hcr ⊢
      refine h_seq ?_
      refine h_seq ?_
      refine h_reg ?_
      refine h_op (r_move rfl) ?_
      refine h_op (r_nilc rfl) ?_
      refine h_op (r_field rfl) ?_
      refine h_op (r_loadc rfl) ?_
      refine h_op (r_len rfl) ?_
      refine h_op (r_bool (r_gtr rfl rfl) (decide_eq_true (by omega))) ?_
      refine h_op (r_move rfl) ?_
      refine h_op (r_move rfl) ?_
      refine h_op (r_nilc rfl) ?_
      refine h_op (r_field rfl) ?_
      refine h_op (r_loadc rfl) ?_
      refine h_op (r_not rfl) ?_
      refine h_op (r_pick rfl rfl) ?_
      refine h_op (r_move rfl) ?_
      refine h_op (r_field rfl) ?_
      refine h_op (r_loadc rfl) ?_
      refine h_op (r_len rfl) ?_
      refine h_op (r_bool (r_leq rfl rfl) (decide_eq_true (show (i : Int) ≤ 256 by omega))) ?_
      refine h_op (r_pick rfl rfl) ?_
      refine h_nil ?_
      refine q_then ?_
      refine h_condT rfl ?_
      refine h_skip ?_
      refine q_then ?_
      refine h_block ?_
      refine ha_start [.blk g8 (Proof.cells ⟨((0 : Nat) : Int), (d : Int), zLeaf, bm, ⟨A, i, c9⟩⟩) 36] [] mixed (same) ?_
      refine ha_takeP 0 rfl (r_field rfl) ?_
      refine ha_take 1 rfl (r_loadc rfl) ?_
      refine ha_takeP 2 rfl (r_move rfl) ?_
      refine ha_one 3 ?_
      refine ho_C 3 rfl ((cpart_s h (ss.getD i zB32) (flatS (ss.drop (i + 1))) Ar cr g32 hcr (by omega)).comes) rfl rfl rfl (fun _ => same) fun ⟨⟨Ar2, cr2⟩, hz5, hc5⟩ => ?_
      refine ha_one 4 ?_
      refine ho_X 4 rfl (rk (x_bsl rfl rfl)) (fun _ => same) fun g82 => ?_
      refine ha_one 5 ?_
      refine ho_X 5 rfl (rk (x_app rfl rfl (k := 32))) (fun _ => same) fun ⟨g83, c83⟩ => ?_
      refine ha_takeP 6 rfl (r_field rfl) ?_
      refine ha_one 7 ?_
      refine ho_SL 7 rfl (s_store rfl rfl rfl) ?_
      refine q_block ?_
      rw [htk]
      exact h_back (i + 1, (Ar2, cr2), some ⟨g83, 0, none⟩, c83) (⟨hlt, hz5, hc5⟩) ((show ss.length - (i + 1) < ss.length - i by omega)) ⟨rfl, rfl, rfl, rfl, trivial⟩ (same)
    · obtain rfl : i = ss.length := by omega
      rw [List.take_length]
      have hcc := Check_s ⟨((0 : Nat) : Int), (d : Int), zLeaf, bm, ⟨A, ss.length, c9⟩⟩
      rw [hc A c9] at hcc
      refine h_seq ?_
      refine h_seq ?_
      refine h_reg ?_
      refine h_op (r_move rfl) ?_
      refine h_op (r_nilc rfl) ?_
      refine h_op (r_field rfl) ?_
      refine h_op (r_loadc rfl) ?_
      refine h_op (r_len rfl) ?_
      refine h_op (r_bool (r_gtr rfl rfl) (decide_eq_false (by omega))) ?_
      refine h_op (r_move rfl) ?_
      refine h_opOff ?_
      refine h_opOff ?_
      refine h_opOff ?_
      refine h_opOff ?_
      refine h_opOff ?_
      refine h_op (r_pick rfl rfl) ?_
      refine h_op (r_move rfl) ?_
      refine h_opOff ?_
      refine h_opOff ?_
      refine h_opOff ?_
      refine h_opOff ?_
      refine h_op (r_pick rfl rfl) ?_
      refine h_nil ?_
      refine q_then ?_
      refine h_condF rfl ?_
      refine h_exit ?_
      refine q_thenE ?_
      refine q_thenE ?_
      refine q_blockE ?_
      refine q_then ?_
      refine h_seq ?_
      refine h_seq ?_
      refine h_reg ?_
      refine h_op (r_move rfl) ?_
      refine h_op (r_nilc rfl) ?_
      refine h_op (r_field rfl) ?_
      refine h_op (r_loadc rfl) ?_
      refine h_op (r_move rfl) ?_
      refine h_op (r_move rfl) ?_
      refine h_op (r_nilc rfl) ?_
      refine h_op (r_field rfl) ?_
      refine h_op (r_loadc rfl) ?_
      refine h_op (r_len rfl) ?_
      refine h_op (r_bool (r_gtr rfl rfl) (decide_eq_false (by omega))) ?_
      refine h_op (r_pick rfl rfl) ?_
      refine h_op (r_move rfl) ?_
      refine h_op (r_loadr rfl) ?_
      refine h_call (hcc.comes) rfl rfl rfl fun _ => ?_
      refine h_op (r_bool (r_neq rfl rfl) (decide_eq_false (fun h => h rfl))) ?_
      refine h_op (r_pick rfl rfl) ?_
      refine h_nil ?_
      refine q_then ?_
      refine h_condF rfl ?_
      refine h_skip ?_
      refine q_then ?_
      refine h_seq ?_
      refine h_reg ?_
      refine h_op (r_loadr rfl) ?_
      refine h_opS (s_storer rfl rfl) ?_
      refine h_op (r_assign rfl) ?_
      refine h_nil ?_
      refine q_then ?_
      refine h_ret ?_
      exact h_ret2 rfl (rv_row rfl) rfl fun w s => ⟨(A, c9), rfl, (same (L' := [.own (.slice A ss.length c9) ss.length 31 32 (dgs ss)]) w s).res (List.Sublist.refl _) (by simp [Fa.wr])⟩
  · skip
    refine h_skip ?_
    refine q_then ?_
    refine h_seq ?_
    refine h_seq ?_
    refine h_reg ?_
    refine h_op (r_move rfl) ?_
    refine h_op (r_bool (r_neq rfl rfl) (show _ = true from rfl)) ?_
    refine h_op (r_move rfl) ?_
    refine h_op (r_move rfl) ?_
    refine h_op (r_bool (r_neq rfl rfl) (show _ = false from rfl)) ?_
    refine h_op (r_pick rfl rfl) ?_
    refine h_nil ?_
    refine q_then ?_
    refine h_condF rfl ?_
    refine h_skip ?_
    refine q_then ?_
    refine h_seq ?_
    refine h_reg ?_
    refine h_op (r_move rfl) ?_
    refine h_op (r_as (r_slL rfl rfl) (show _ = Value.slice (cutA (some ⟨b, o, none⟩) c 4 1) (32 + (midC 1 lf ++ flatS ss).length) (c - 4) by rw [h4])) ?_
    refine h_op (r_build rfl) ?_
    refine h_opX (x_box rfl) fun g32 => ?_
    refine h_op (r_assign rfl) ?_
    refine h_nil ?_
    refine q_then ?_
    refine h_seq ?_
    refine h_reg ?_
    refine h_op (r_move rfl) ?_
    refine h_op (r_func rfl rfl) ?_
    refine h_op (r_assign rfl) ?_
    refine h_nil ?_
    refine q_then ?_
    refine h_seq ?_
    refine h_join (fun (u : {y : Option Addr × Nat // RdZ h y.1 (bc (midC 1 lf ++ flatS ss)) ∧ (midC 1 lf ++ flatS ss).length ≤ y.2} × Nat) => [(8, .pointer (some ⟨u.2, 0, none⟩)), (7, .func (.func 92) [.pointer (some ⟨g32, 0, none⟩)].toArray #[]), (6, .pointer (some ⟨g32, 0, none⟩)), (4, .int .i64 ((1 : Nat) : Int)), (2, .pointer (some ⟨g2, 0, none⟩))]) (fun (u : {y : Option Addr × Nat // RdZ h y.1 (bc (midC 1 lf ++ flatS ss)) ∧ (midC 1 lf ++ flatS ss).length ≤ y.2} × Nat) => [.blk u.2 (Proof.cells ⟨((1 : Nat) : Int), (d : Int), zProof.leaf, bm, zProof.sibs⟩) 36, .blk g32 [.slice u.1.1.1 (midC 1 lf ++ flatS ss).length u.1.1.2, .bool false] 171, .blk g2 zProof.cells 36, .zone false h]) (fun kk => ?_) ?_
    · refine ha_start [.zone false h] [] mixed (same) ?_
      refine ha_takeP 0 rfl (r_move rfl) ?_
      refine ha_takeP 1 rfl (r_move rfl) ?_
      refine ha_takeP 2 rfl (r_idx rfl rfl) ?_
      refine ha_take 3 rfl (r_nth rfl (bc_at' (l := l) (i := 2) (by omega))) ?_
      refine ha_takeP 4 rfl (r_int (r_cUI rfl) (show _ = ((d / 256 : Nat) : Int) from congrArg Nat.cast hl2)) ?_
      refine ha_takeP 5 rfl (r_shl8 rfl rfl) ?_
      refine ha_takeP 6 rfl (r_move rfl) ?_
      refine ha_takeP 7 rfl (r_idx rfl rfl) ?_
      refine ha_take 8 rfl (r_nth rfl (bc_at' (l := l) (i := 3) (by omega))) ?_
      refine ha_takeP 9 rfl (r_int (r_cUI rfl) (show _ = ((d % 256 : Nat) : Int) from congrArg Nat.cast hl3)) ?_
      refine ha_takeP 10 rfl (r_int (r_or8 rfl rfl) (show _ = (d : Int) by omega)) ?_
      refine ha_takeP 11 rfl (r_move rfl) ?_
      refine ha_two 12 14 ?_ ?_
      · refine ho_C 12 rfl ((cpart_s h bm (midC 1 lf ++ flatS ss) (cutA (some ⟨b, o, none⟩) c 4 1) (c - 4) g32 hc4 hrl).comes) rfl rfl rfl (fun _ => same) fun y47 => ?_
        refine ha_takeP 13 rfl (r_build rfl) ?_
        refine ha_one 14 ?_
        refine ho_X 14 rfl (rk (x_alloc)) (fun _ => same) fun g8 => ?_
        refine ha_one 15 ?_
        refine ho_SL 15 rfl (s_storer rfl rfl) ?_
        exact h_K (kk (y47, g8)) (⟨rfl, rfl, rfl, rfl, rfl, trivial⟩) same
      · refine ho_X 14 rfl (rk (x_alloc)) (fun _ => same) fun g8 => ?_
        refine ha_one 12 ?_
        refine ho_C 12 rfl ((cpart_s h bm (midC 1 lf ++ flatS ss) (cutA (some ⟨b, o, none⟩) c 4 1) (c - 4) g32 hc4 hrl).comes) rfl rfl rfl (fun _ => same) fun y47 => ?_
        refine ha_takeP 13 rfl (r_build rfl) ?_
        refine ha_one 15 ?_
        refine ho_SL 15 rfl (s_storer rfl rfl) ?_
        exact h_K (kk (y47, g8)) (⟨rfl, rfl, rfl, rfl, rfl, trivial⟩) same
    rintro ⟨⟨⟨A47, c47⟩, hz0, hc0⟩, g8⟩
    refine q_then ?_
    dsimp only at hz0 hc0 ⊢
    change H _ _ _ _ _ (.blk g8 (Proof.cells ⟨((1 : Nat) : Int), (d : Int), zLeaf, bm, ⟨none, 0, 0⟩⟩) _ :: _) _
    have hz1 : RdZ h A47 (bc (lf.key.1 ++ (lf.value.1 ++ flatS ss))) := by rw [← List.append_assoc]; exact hz0
    rw [show (midC 1 lf ++ flatS ss).length = 32 + (lf.value.1 ++ flatS ss).length by show ((lf.key.1 ++ lf.value.1) ++ flatS ss).length = _; rw [List.append_assoc, List.length_append, hlk]] at hc0 ⊢
    refine h_seq ?_
    refine h_seq ?_
    refine h_reg ?_
    refine h_op (r_move rfl) ?_
    refine h_op (r_bool (r_eql rfl rfl) (show _ = true from rfl)) ?_
    refine h_nil ?_
    refine q_then ?_
    refine h_condT rfl ?_
    refine h_seq ?_
    refine h_reg ?_
    refine h_op (r_move rfl) ?_
    refine h_call ((cpart_s h lf.key (lf.value.1 ++ flatS ss) A47 c47 g32 hc0 (by rw [List.length_append, hlv, hfl]; omega)).comes) rfl rfl rfl fun ⟨⟨A52, c52⟩, hz2, hc2⟩ => ?_
    dsimp only at hz2 hc2 ⊢
    rw [show (lf.value.1 ++ flatS ss).length = 32 + (flatS ss).length by rw [List.length_append, hlv]] at hc2 ⊢
    refine h_op (r_field rfl) ?_
    refine h_op (r_field rfl) ?_
    refine h_opS (s_storer rfl rfl) ?_
    refine h_nil ?_
    refine q_then ?_
    refine h_reg ?_
    refine h_op (r_move rfl) ?_
    refine h_call ((cpart_s h lf.value (flatS ss) A52 c52 g32 hc2 (by rw [hfl]; omega)).comes) rfl rfl rfl fun ⟨⟨A56, c56⟩, hz3, hc3⟩ => ?_
    dsimp only at hz3 hc3 ⊢
    rw [show flatS ss = flatS (ss.drop 0) from rfl] at hz3 hc3 ⊢
    refine h_op (r_field rfl) ?_
    refine h_op (r_field rfl) ?_
    refine h_opS (s_storer rfl rfl) ?_
    refine h_nil ?_
    refine q_then ?_
    refine h_seq ?_
    refine h_block ?_
    refine h_nil_own 31 32 (xs := dgs (ss.take 0)) rfl ?_
    refine h_loop (fun (s : Nat × (Option Addr × Nat) × Option Addr × Nat) => s.1 ≤ ss.length ∧ RdZ h s.2.1.1 (bc (flatS (ss.drop s.1))) ∧ (flatS (ss.drop s.1)).length ≤ s.2.1.2) (fun (s : Nat × (Option Addr × Nat) × Option Addr × Nat) => [(8, .pointer (some ⟨g8, 0, none⟩)), (7, .func (.func 92) [.pointer (some ⟨g32, 0, none⟩)].toArray #[]), (6, .pointer (some ⟨g32, 0, none⟩)), (2, .pointer (some ⟨g2, 0, none⟩))]) (fun (s : Nat × (Option Addr × Nat) × Option Addr × Nat) => [.own (.slice s.2.2.1 s.1 s.2.2.2) s.1 31 32 (dgs (ss.take s.1)), .blk g8 (Proof.cells ⟨((1 : Nat) : Int), (d : Int), lf, bm, ⟨s.2.2.1, s.1, s.2.2.2⟩⟩) 36, .blk g32 [.slice s.2.1.1 (flatS (ss.drop s.1)).length s.2.1.2, .bool false] 171, .blk g2 zProof.cells 36, .zone false h]) (fun (s : Nat × (Option Addr × Nat) × Option Addr × Nat) => ss.length - s.1) (0, (A56, c56), none, 0) (⟨Nat.zero_le _, hz3, hc3⟩) ⟨rfl, rfl, rfl, rfl, trivial⟩ (same) ?_
    rintro ⟨i, ⟨Ar, cr⟩, A, c9⟩ ⟨hi, hzr, hcr⟩
    dsimp only at hi hzr hcr ⊢
    have hdl := flatS_len (ss.drop i)
    rw [List.length_drop] at hdl
    by_cases hlt : i < ss.length
    · have hdr := flatS_drop hlt
      have hxl := (ss.getD i zB32).2
      have hl2 : (flatS (ss.drop i)).length = 32 + (flatS (ss.drop (i + 1))).length := by rw [hdr, List.length_append, hxl]
      have htk := dgs_take hlt
      rw [hdr] at hzr
      rw [hl2] at hcr ⊢
      refine h_seq ?_
      refine h_seq ?_
      refine h_reg ?_
      refine h_op (r_move rfl) ?_
      refine h_op (r_nilc rfl) ?_
      refine h_op (r_field rfl) ?_
      refine h_op (r_loadc rfl) ?_
      refine h_op (r_len rfl) ?_
      refine h_op (r_bool (r_gtr rfl rfl) (decide_eq_true (by omega))) ?_
      refine h_op (r_move rfl) ?_
      refine h_op (r_move rfl) ?_
      refine h_op (r_nilc rfl) ?_
      refine h_op (r_field rfl) ?_
      refine h_op (r_loadc rfl) ?_
      refine h_op (r_not rfl) ?_
      refine h_op (r_pick rfl rfl) ?_
      refine h_op (r_move rfl) ?_
      refine h_op (r_field rfl) ?_
      refine h_op (r_loadc rfl) ?_
      refine h_op (r_len rfl) ?_
      refine h_op (r_bool (r_leq rfl rfl) (decide_eq_true (show (i : Int) ≤ 256 by omega))) ?_
      refine h_op (r_pick rfl rfl) ?_
      refine h_nil ?_
      refine q_then ?_
      refine h_condT rfl ?_
      refine h_skip ?_
      refine q_then ?_
      refine h_block ?_
      refine ha_start [.blk g8 (Proof.cells ⟨((1 : Nat) : Int), (d : Int), lf, bm, ⟨A, i, c9⟩⟩) 36] [] mixed (same) ?_
      refine ha_takeP 0 rfl (r_field rfl) ?_
      refine ha_take 1 rfl (r_loadc rfl) ?_
      refine ha_takeP 2 rfl (r_move rfl) ?_
      refine ha_one 3 ?_
      refine ho_C 3 rfl ((cpart_s h (ss.getD i zB32) (flatS (ss.drop (i + 1))) Ar cr g32 hcr (by omega)).comes) rfl rfl rfl (fun _ => same) fun ⟨⟨Ar2, cr2⟩, hz5, hc5⟩ => ?_
      refine ha_one 4 ?_
      refine ho_X 4 rfl (rk (x_bsl rfl rfl)) (fun _ => same) fun g82 => ?_
      refine ha_one 5 ?_
      refine ho_X 5 rfl (rk (x_app rfl rfl (k := 32))) (fun _ => same) fun ⟨g83, c83⟩ => ?_
      refine ha_takeP 6 rfl (r_field rfl) ?_
      refine ha_one 7 ?_
      refine ho_SL 7 rfl (s_store rfl rfl rfl) ?_
      refine q_block ?_
      rw [htk]
      exact h_back (i + 1, (Ar2, cr2), some ⟨g83, 0, none⟩, c83) (⟨hlt, hz5, hc5⟩) ((show ss.length - (i + 1) < ss.length - i by omega)) ⟨rfl, rfl, rfl, rfl, trivial⟩ (same)
    · obtain rfl : i = ss.length := by omega
      rw [List.take_length]
      have hcc := Check_s ⟨((1 : Nat) : Int), (d : Int), lf, bm, ⟨A, ss.length, c9⟩⟩
      rw [hc A c9] at hcc
      refine h_seq ?_
      refine h_seq ?_
      refine h_reg ?_
      refine h_op (r_move rfl) ?_
      refine h_op (r_nilc rfl) ?_
      refine h_op (r_field rfl) ?_
      refine h_op (r_loadc rfl) ?_
      refine h_op (r_len rfl) ?_
      refine h_op (r_bool (r_gtr rfl rfl) (decide_eq_false (by omega))) ?_
      refine h_op (r_move rfl) ?_
      refine h_opOff ?_
      refine h_opOff ?_
      refine h_opOff ?_
      refine h_opOff ?_
      refine h_opOff ?_
      refine h_op (r_pick rfl rfl) ?_
      refine h_op (r_move rfl) ?_
      refine h_opOff ?_
      refine h_opOff ?_
      refine h_opOff ?_
      refine h_opOff ?_
      refine h_op (r_pick rfl rfl) ?_
      refine h_nil ?_
      refine q_then ?_
      refine h_condF rfl ?_
      refine h_exit ?_
      refine q_thenE ?_
      refine q_thenE ?_
      refine q_blockE ?_
      refine q_then ?_
      refine h_seq ?_
      refine h_seq ?_
      refine h_reg ?_
      refine h_op (r_move rfl) ?_
      refine h_op (r_nilc rfl) ?_
      refine h_op (r_field rfl) ?_
      refine h_op (r_loadc rfl) ?_
      refine h_op (r_move rfl) ?_
      refine h_op (r_move rfl) ?_
      refine h_op (r_nilc rfl) ?_
      refine h_op (r_field rfl) ?_
      refine h_op (r_loadc rfl) ?_
      refine h_op (r_len rfl) ?_
      refine h_op (r_bool (r_gtr rfl rfl) (decide_eq_false (by omega))) ?_
      refine h_op (r_pick rfl rfl) ?_
      refine h_op (r_move rfl) ?_
      refine h_op (r_loadr rfl) ?_
      refine h_call (hcc.comes) rfl rfl rfl fun _ => ?_
      refine h_op (r_bool (r_neq rfl rfl) (decide_eq_false (fun h => h rfl))) ?_
      refine h_op (r_pick rfl rfl) ?_
      refine h_nil ?_
      refine q_then ?_
      refine h_condF rfl ?_
      refine h_skip ?_
      refine q_then ?_
      refine h_seq ?_
      refine h_reg ?_
      refine h_op (r_loadr rfl) ?_
      refine h_opS (s_storer rfl rfl) ?_
      refine h_op (r_assign rfl) ?_
      refine h_nil ?_
      refine q_then ?_
      refine h_ret ?_
      exact h_ret2 rfl (rv_row rfl) rfl fun w s => ⟨(A, c9), rfl, (same (L' := [.own (.slice A ss.length c9) ss.length 31 32 (dgs ss)]) w s).res (List.Sublist.refl _) (by simp [Fa.wr])⟩
end
end Go.Proofs.YtdfeimdhlagebaaGreatDoor
/- U39 -/
namespace Go.Proofs.YtdfeimdhlagebaaGreatDoor
set_option linter.unusedSimpArgs false
set_option linter.unusedVariables false
open Go.RowKit
theorem ents_app (l m : List En) : ents l ++ ents m = ents (l ++ m) := by unfold ents; rw [List.flatMap_append]
/-- what Put has written behind k entries of the rest -/
def putK (e : En) (r : List En) (k : Nat) (done : Bool) : List En := if done then insE e (r.take k) else r.take k
theorem putK_len (e : En) (r : List En) (k : Nat) (done : Bool) : (putK e r k done).length ≤ r.length + 1 := by
  unfold putK
  split
  · rw [insE_len, List.length_take]; omega
  · rw [List.length_take]; omega
/-- whether it is done -/
def doneK (e : En) (r : List En) (k : Nat) (done : Bool) : Prop := if done = true then ∃ f ∈ r.take k, cmpB e.key f.key < 0 else ∀ f ∈ r.take k, ¬ cmpB e.key f.key < 0
theorem take_snocE {α : Type} {l : List α} {k : Nat} {x : α} (h : l[k]? = some x) : l.take (k + 1) = l.take k ++ [x] := by rw [List.take_add_one, h]; rfl
theorem putK_done {e x : En} {r : List En} {k : Nat} (h : r[k]? = some x) (hd : doneK e r k true) : putK e r (k + 1) true = putK e r k true ++ [x] ∧ doneK e r (k + 1) true := by
  unfold doneK at hd ⊢
  rw [if_pos rfl] at hd ⊢
  unfold putK
  rw [if_pos rfl, if_pos rfl, take_snocE h, insE_snoc_in hd]
  obtain ⟨f, hf, h2⟩ := hd
  exact ⟨rfl, f, List.mem_append_left _ hf, h2⟩
theorem putK_now {e x : En} {r : List En} {k : Nat} (h : r[k]? = some x) (hd : doneK e r k false) (hc : cmpB e.key x.key < 0) : putK e r (k + 1) true = putK e r k false ++ [e] ++ [x] ∧ doneK e r (k + 1) true := by
  unfold doneK at hd ⊢
  rw [if_neg (by simp)] at hd
  rw [if_pos rfl]
  unfold putK
  rw [if_pos rfl, if_neg (by simp), take_snocE h, insE_snoc_now hd hc]
  exact ⟨by simp, x, by simp, hc⟩
theorem putK_not {e x : En} {r : List En} {k : Nat} (h : r[k]? = some x) (hd : doneK e r k false) (hc : ¬ cmpB e.key x.key < 0) : putK e r (k + 1) false = putK e r k false ++ [x] ∧ doneK e r (k + 1) false := by
  unfold doneK at hd ⊢
  rw [if_neg (by simp)] at hd ⊢
  unfold putK
  rw [if_neg (by simp), if_neg (by simp), take_snocE h]
  refine ⟨rfl, fun f hf => ?_⟩
  rcases List.mem_append.1 hf with hf | hf
  · exact hd f hf
  · rw [List.mem_singleton.1 hf]; exact hc
theorem putK_end {e : En} {r : List En} {done : Bool} (hd : doneK e r r.length done) : insE e r = if done then putK e r r.length true else putK e r r.length false ++ [e] := by
  unfold doneK at hd
  unfold putK
  cases done
  · rw [if_neg (by simp), List.take_length] at hd
    rw [insE_none hd]; simp
  · simp
theorem remK_len (m : List En) (key : B32) : (remK m key).length ≤ m.length := List.length_filter_le _ _
theorem Put_s (m : List En) (B : Option Addr) (c : Nat) (e : En) (hm : m.length ≤ 10000000) : Spec Tryz.prog 89 [.slice B m.length c, .agg e.key.cells.toArray, .slice e.e.value.A e.e.value.n e.e.value.c].toArray [.rd B (ents m)] [] (fun u : Option Addr × Nat => .slice u.1 (putM m e).length u.2) (fun u => [.own (.slice u.1 (putM m e).length u.2) (putM m e).length 98 33 (ents (putM m e))]) := by
  have hrl := remK_len m e.key
  unfold putM
  refine spec_of Tryz.func89 rfl (n := 54) rfl rfl ?_
  intro W
  refine h_seq ?_
  refine h_reg ?_
  refine h_opX (x_box rfl) fun g4 => ?_
  refine h_op (r_assign rfl) ?_
  refine h_nil ?_
  refine q_then ?_
  refine h_seq ?_
  refine h_reg ?_
  refine h_op (r_assign rfl) ?_
  refine h_nil ?_
  refine q_then ?_
  refine h_seq ?_
  refine h_reg ?_
  refine h_op (r_assign rfl) ?_
  refine h_nil ?_
  refine q_then ?_
  refine h_seq ?_
  refine h_reg ?_
  refine h_op (r_move rfl) ?_
  refine h_op (r_loadr rfl) ?_
  refine h_call ((Remove_s m B c e.key (by omega)).comes) rfl rfl rfl fun ⟨A13, c13⟩ => ?_
  dsimp only
  have hR : Spec Tryz.prog 102 [.agg e.key.cells.toArray, .agg e.key.cells.toArray].toArray [] [] (fun _ : Unit => .int .i64 (cmpB e.key e.key)) (fun _ => []) := Compare_s e.key e.key
  clear hR
  generalize remK m e.key = r at *
  refine h_pure (φ := ∀ i, i < r.length → ∃ g, A13 = some ⟨g, 0, none⟩) (fun w s i hi => s.ownSome (N := r.length) (c := c13) (by omega)) fun hA13 => ?_
  refine h_op (r_assign rfl) ?_
  refine h_nil ?_
  refine q_then ?_
  refine h_seq ?_
  refine h_seq ?_
  refine h_reg ?_
  refine h_op (r_assign rfl) ?_
  refine h_nil ?_
  refine q_then ?_
  refine h_block ?_
  refine h_nil_own 98 33 (xs := ents (putK e r 0 false)) rfl ?_
  change H _ _ _ _ _ (.own (.slice none (putK e r 0 false).length 0) (putK e r 0 false).length _ _ _ :: _) _
  refine h_loop (fun (s : Nat × Bool × Option Addr × Nat) => s.1 ≤ r.length ∧ doneK e r s.1 s.2.1) (fun (s : Nat × Bool × Option Addr × Nat) => [(10, .int .i64 (s.1 : Int)), (8, .bool s.2.1), (7, .slice s.2.2.1 (putK e r s.1 s.2.1).length s.2.2.2), (9, .slice A13 r.length c13), (4, .pointer (some ⟨g4, 0, none⟩)), (2, .slice e.e.value.A e.e.value.n e.e.value.c)]) (fun (s : Nat × Bool × Option Addr × Nat) => [.own (.slice s.2.2.1 (putK e r s.1 s.2.1).length s.2.2.2) (putK e r s.1 s.2.1).length 98 33 (ents (putK e r s.1 s.2.1)), .own (.slice A13 r.length c13) r.length 98 33 (ents r), .blk g4 e.key.cells 24]) (fun (s : Nat × Bool × Option Addr × Nat) => r.length - s.1) (0, false, none, 0) ((show 0 ≤ r.length ∧ doneK e r 0 false from ⟨Nat.zero_le _, by unfold doneK; rw [if_neg (by simp)]; intro f hf; simp at hf⟩)) ⟨rfl, rfl, rfl, rfl, rfl, rfl, trivial⟩ (same) ?_
  rintro ⟨k, done, A, c'⟩ ⟨hk, hd⟩
  dsimp only at hk hd ⊢
  have hlen := putK_len e r k done
  refine h_seq ?_
  refine h_seq ?_
  refine h_reg ?_
  refine h_op (r_move rfl) ?_
  refine h_op (r_move rfl) ?_
  refine h_op (r_len rfl) ?_
  refine h_op (r_lss rfl rfl) ?_
  refine h_nil ?_
  refine q_then ?_
  refine h_cond rfl (fun h => ?_) (fun h => ?_)
  · obtain ⟨x, hx⟩ := getE (l := r) (k := k) (by omega)
    obtain ⟨g, rfl⟩ := hA13 k (by omega)
    rcases done with _ | _
    · by_cases hc : cmpB e.key x.key < 0
      · obtain ⟨hp, hd2⟩ := putK_now hx hd hc
        have hl : (putK e r k false).length + 1 + 1 = (putK e r (k + 1) true).length := by rw [hp]; simp
        refine h_skip ?_
        refine q_then ?_
        refine h_seq ?_
        refine h_block ?_
        refine h_seq ?_
        refine h_seq ?_
        refine ha_start [.blk g4 e.key.cells 24, .own (.slice (some ⟨g, 0, none⟩) r.length c13) r.length 98 33 (ents r)] [] mixed (same) ?_
        refine ha_takeP 0 rfl (r_move rfl) ?_
        refine ha_takeP 1 rfl (r_not rfl) ?_
        refine ha_takeP 2 rfl (r_move rfl) ?_
        refine ha_take 3 rfl (r_loadr rfl) ?_
        refine ha_takeP 4 rfl (r_move rfl) ?_
        refine ha_takeP 5 rfl (r_move rfl) ?_
        refine ha_takeP 6 rfl (r_idx rfl rfl) ?_
        refine ha_takeP 7 rfl (r_field rfl) ?_
        refine ha_take 8 rfl (r_nthr rfl (out := x.key.cells) (B32.cells_length _) (ents_key hx)) ?_
        refine ha_one 9 ?_
        refine ho_C 9 rfl ((Compare_s e.key x.key).comes) rfl rfl rfl (fun _ => same) fun _ => ?_
        refine ha_takeP 10 rfl (r_bool (r_lss rfl rfl) (decide_eq_true hc)) ?_
        refine ha_takeP 11 rfl (r_pick rfl rfl) ?_
        refine ha_done (by kernel_rfl) ?_
        refine q_then ?_
        refine h_condT rfl ?_
        refine h_seq ?_
        refine h_reg ?_
        refine h_op (r_move rfl) ?_
        refine h_op (r_loadr rfl) ?_
        refine h_op (r_move rfl) ?_
        refine h_op (r_build rfl) ?_
        refine h_opX (x_bsl rfl rfl) fun g36 => ?_
        refine h_opX (x_app rfl rfl (k := 33)) fun ⟨g37, c37⟩ => ?_
        refine h_op (r_assign rfl) ?_
        refine h_nil ?_
        refine q_then ?_
        refine h_reg ?_
        refine h_op (r_assign rfl) ?_
        refine h_nil ?_
        refine q_then ?_
        refine h_reg ?_
        refine h_op (r_move rfl) ?_
        refine h_op (r_move rfl) ?_
        refine h_op (r_move rfl) ?_
        refine h_op (r_idx rfl rfl) ?_
        refine h_op (r_nthr rfl (out := x.e.cells) (Entry.cells_length _) (ents_at hx)) ?_
        refine h_opX (x_bsl rfl rfl) fun g43 => ?_
        refine h_opX (x_app rfl rfl (k := 33)) fun ⟨g44, c44⟩ => ?_
        refine h_op (r_assign rfl) ?_
        refine h_nil ?_
        refine q_block ?_
        refine q_then ?_
        refine h_reg ?_
        refine h_op (r_move rfl) ?_
        refine h_op (r_add rfl rfl) ?_
        refine h_op (r_assign rfl) ?_
        refine h_nil ?_
        rw [show Entry.cells _ = e.e.cells from rfl, ents_snoc, ents_snoc, ← hp, hl]
        exact h_back (k + 1, true, some ⟨g44, 0, none⟩, c44) ((show k + 1 ≤ r.length ∧ doneK e r (k + 1) true from ⟨by omega, hd2⟩)) ((show r.length - (k + 1) < r.length - k by omega)) ⟨rfl, rfl, rfl, rfl, rfl, rfl, trivial⟩ (same)
      · obtain ⟨hp, hd2⟩ := putK_not hx hd hc
        have hl : (putK e r k false).length + 1 = (putK e r (k + 1) false).length := by rw [hp]; simp
        refine h_skip ?_
        refine q_then ?_
        refine h_seq ?_
        refine h_block ?_
        refine h_seq ?_
        refine h_seq ?_
        refine ha_start [.blk g4 e.key.cells 24, .own (.slice (some ⟨g, 0, none⟩) r.length c13) r.length 98 33 (ents r)] [] mixed (same) ?_
        refine ha_takeP 0 rfl (r_move rfl) ?_
        refine ha_takeP 1 rfl (r_not rfl) ?_
        refine ha_takeP 2 rfl (r_move rfl) ?_
        refine ha_take 3 rfl (r_loadr rfl) ?_
        refine ha_takeP 4 rfl (r_move rfl) ?_
        refine ha_takeP 5 rfl (r_move rfl) ?_
        refine ha_takeP 6 rfl (r_idx rfl rfl) ?_
        refine ha_takeP 7 rfl (r_field rfl) ?_
        refine ha_take 8 rfl (r_nthr rfl (out := x.key.cells) (B32.cells_length _) (ents_key hx)) ?_
        refine ha_one 9 ?_
        refine ho_C 9 rfl ((Compare_s e.key x.key).comes) rfl rfl rfl (fun _ => same) fun _ => ?_
        refine ha_takeP 10 rfl (r_bool (r_lss rfl rfl) (decide_eq_false hc)) ?_
        refine ha_takeP 11 rfl (r_pick rfl rfl) ?_
        refine ha_done (by kernel_rfl) ?_
        refine q_then ?_
        refine h_condF rfl ?_
        refine h_skip ?_
        refine q_then ?_
        refine h_reg ?_
        refine h_op (r_move rfl) ?_
        refine h_op (r_move rfl) ?_
        refine h_op (r_move rfl) ?_
        refine h_op (r_idx rfl rfl) ?_
        refine h_op (r_nthr rfl (out := x.e.cells) (Entry.cells_length _) (ents_at hx)) ?_
        refine h_opX (x_bsl rfl rfl) fun g43 => ?_
        refine h_opX (x_app rfl rfl (k := 33)) fun ⟨g44, c44⟩ => ?_
        refine h_op (r_assign rfl) ?_
        refine h_nil ?_
        refine q_block ?_
        refine q_then ?_
        refine h_reg ?_
        refine h_op (r_move rfl) ?_
        refine h_op (r_add rfl rfl) ?_
        refine h_op (r_assign rfl) ?_
        refine h_nil ?_
        rw [ents_snoc, ← hp, hl]
        exact h_back (k + 1, false, some ⟨g44, 0, none⟩, c44) ((show k + 1 ≤ r.length ∧ doneK e r (k + 1) false from ⟨by omega, hd2⟩)) ((show r.length - (k + 1) < r.length - k by omega)) ⟨rfl, rfl, rfl, rfl, rfl, rfl, trivial⟩ (same)
    · obtain ⟨hp, hd2⟩ := putK_done hx hd
      have hl : (putK e r k true).length + 1 = (putK e r (k + 1) true).length := by rw [hp]; simp
      refine h_skip ?_
      refine q_then ?_
      refine h_seq ?_
      refine h_block ?_
      refine h_seq ?_
      refine h_seq ?_
      refine ha_start [.blk g4 e.key.cells 24, .own (.slice (some ⟨g, 0, none⟩) r.length c13) r.length 98 33 (ents r)] [] mixed (same) ?_
      refine ha_takeP 0 rfl (r_move rfl) ?_
      refine ha_takeP 1 rfl (r_not rfl) ?_
      refine ha_takeP 2 rfl (r_move rfl) ?_
      refine ha_off 3 rfl ?_
      refine ha_off 4 rfl ?_
      refine ha_off 5 rfl ?_
      refine ha_off 6 rfl ?_
      refine ha_off 7 rfl ?_
      refine ha_off 8 rfl ?_
      refine ha_off 9 rfl ?_
      refine ha_off 10 rfl ?_
      refine ha_takeP 11 rfl (r_pick rfl rfl) ?_
      refine ha_done (by kernel_rfl) ?_
      refine q_then ?_
      refine h_condF rfl ?_
      refine h_skip ?_
      refine q_then ?_
      refine h_reg ?_
      refine h_op (r_move rfl) ?_
      refine h_op (r_move rfl) ?_
      refine h_op (r_move rfl) ?_
      refine h_op (r_idx rfl rfl) ?_
      refine h_op (r_nthr rfl (out := x.e.cells) (Entry.cells_length _) (ents_at hx)) ?_
      refine h_opX (x_bsl rfl rfl) fun g43 => ?_
      refine h_opX (x_app rfl rfl (k := 33)) fun ⟨g44, c44⟩ => ?_
      refine h_op (r_assign rfl) ?_
      refine h_nil ?_
      refine q_block ?_
      refine q_then ?_
      refine h_reg ?_
      refine h_op (r_move rfl) ?_
      refine h_op (r_add rfl rfl) ?_
      refine h_op (r_assign rfl) ?_
      refine h_nil ?_
      rw [ents_snoc, ← hp, hl]
      exact h_back (k + 1, true, some ⟨g44, 0, none⟩, c44) ((show k + 1 ≤ r.length ∧ doneK e r (k + 1) true from ⟨by omega, hd2⟩)) ((show r.length - (k + 1) < r.length - k by omega)) ⟨rfl, rfl, rfl, rfl, rfl, rfl, trivial⟩ (same)
  · obtain rfl : k = r.length := by omega
    have hp := putK_end hd
    rcases done with _ | _
    · rw [if_neg (by simp)] at hp
      have hl : (putK e r r.length false).length + 1 = (insE e r).length := by rw [hp]; simp
      refine h_exit ?_
      refine q_thenE ?_
      refine q_thenE ?_
      refine q_blockE ?_
      refine q_then ?_
      refine h_seq ?_
      refine h_seq ?_
      refine h_reg ?_
      refine h_op (r_move rfl) ?_
      refine h_op (r_not rfl) ?_
      refine h_nil ?_
      refine q_then ?_
      refine h_condT rfl ?_
      refine h_reg ?_
      refine h_op (r_move rfl) ?_
      refine h_op (r_loadr rfl) ?_
      refine h_op (r_move rfl) ?_
      refine h_op (r_build rfl) ?_
      refine h_opX (x_bsl rfl rfl) fun g51 => ?_
      refine h_opX (x_app rfl rfl (k := 33)) fun ⟨g52, c52⟩ => ?_
      refine h_op (r_assign rfl) ?_
      refine h_nil ?_
      refine q_then ?_
      refine h_seq ?_
      refine h_reg ?_
      refine h_op (r_move rfl) ?_
      refine h_op (r_assign rfl) ?_
      refine h_nil ?_
      refine q_then ?_
      refine h_ret ?_
      rw [show Entry.cells _ = e.e.cells from rfl, ents_snoc, ← hp, hl]
      exact h_ret1 rfl rfl fun w s => ⟨(some ⟨g52, 0, none⟩, c52), rfl, (same w s).res (List.Sublist.refl _) (by simp [Fa.wr])⟩
    · rw [if_pos rfl] at hp
      rw [hp]
      refine h_exit ?_
      refine q_thenE ?_
      refine q_thenE ?_
      refine q_blockE ?_
      refine q_then ?_
      refine h_seq ?_
      refine h_seq ?_
      refine h_reg ?_
      refine h_op (r_move rfl) ?_
      refine h_op (r_not rfl) ?_
      refine h_nil ?_
      refine q_then ?_
      refine h_condF rfl ?_
      refine h_skip ?_
      refine q_then ?_
      refine h_seq ?_
      refine h_reg ?_
      refine h_op (r_move rfl) ?_
      refine h_op (r_assign rfl) ?_
      refine h_nil ?_
      refine q_then ?_
      refine h_ret ?_
      exact h_ret1 rfl rfl fun w s => ⟨(A, c'), rfl, (same w s).res (List.Sublist.refl _) (by simp [Fa.wr])⟩
theorem Of_s (l : List En) (B : Option Addr) (c : Nat) (hm : l.length ≤ 1000000) : Spec Tryz.prog 45 [.slice B l.length c].toArray [.rd B (ents l)] [] (fun u : Option Addr × Nat => .slice u.1 (ofM l).length u.2) (fun u => [.own (.slice u.1 (ofM l).length u.2) (ofM l).length 98 33 (ents (ofM l))]) := by
  refine spec_of Tryz.func45 rfl (n := 24) rfl rfl ?_
  intro W
  refine h_seq ?_
  refine h_reg ?_
  refine h_op (r_assign rfl) ?_
  refine h_nil ?_
  refine q_then ?_
  refine h_seq ?_
  refine h_reg ?_
  refine h_op (r_assign rfl) ?_
  refine h_nil ?_
  refine q_then ?_
  refine h_seq ?_
  refine h_seq ?_
  refine h_reg ?_
  refine h_op (r_assign rfl) ?_
  refine h_nil ?_
  refine q_then ?_
  refine h_block ?_
  refine h_nil_own 98 33 (xs := ents (ofM (l.take 0))) rfl ?_
  change H _ _ _ _ _ (.own (.slice none (ofM (l.take 0)).length 0) (ofM (l.take 0)).length _ _ _ :: _) _
  refine h_loop (fun (s : Nat × Option Addr × Nat) => s.1 ≤ l.length) (fun (s : Nat × Option Addr × Nat) => [(4, .int .i64 (s.1 : Int)), (3, .slice s.2.1 (ofM (l.take s.1)).length s.2.2), (0, .slice B l.length c)]) (fun (s : Nat × Option Addr × Nat) => [.own (.slice s.2.1 (ofM (l.take s.1)).length s.2.2) (ofM (l.take s.1)).length 98 33 (ents (ofM (l.take s.1))), .rd B (ents l)]) (fun (s : Nat × Option Addr × Nat) => l.length - s.1) (0, none, 0) ((show 0 ≤ l.length from Nat.zero_le _)) ⟨rfl, rfl, rfl, trivial⟩ (same) ?_
  rintro ⟨k, A, c'⟩ hk
  dsimp only at hk ⊢
  have hlen : (ofM (l.take k)).length ≤ l.length := Nat.le_trans (ofM_len _) (by rw [List.length_take]; omega)
  refine h_seq ?_
  refine h_seq ?_
  refine h_reg ?_
  refine h_op (r_move rfl) ?_
  refine h_op (r_move rfl) ?_
  refine h_op (r_len rfl) ?_
  refine h_op (r_lss rfl rfl) ?_
  refine h_nil ?_
  refine q_then ?_
  refine h_cond rfl (fun h => ?_) (fun h => ?_)
  · obtain ⟨x, hx⟩ := getE (l := l) (k := k) (by omega)
    refine h_pure (φ := ∃ b o, B = some ⟨b, o, none⟩) (fun w s => Rd.some (s.ok (.rd B (ents l)) (by simp)) (by rw [ents_len]; omega)) ?_
    rintro ⟨bb, o, rfl⟩
    refine h_skip ?_
    refine q_then ?_
    refine h_seq ?_
    refine h_block ?_
    refine ha_start [.rd (some ⟨bb, o, none⟩) (ents l)] [] mixed (same) ?_
    refine ha_takeP 0 rfl (r_move rfl) ?_
    refine ha_takeP 1 rfl (r_move rfl) ?_
    refine ha_takeP 2 rfl (r_move rfl) ?_
    refine ha_takeP 3 rfl (r_idx rfl rfl) ?_
    refine ha_takeP 4 rfl (r_field rfl) ?_
    refine ha_take 5 rfl (r_nthr rfl (out := x.key.cells) (B32.cells_length _) (ents_key hx)) ?_
    refine ha_takeP 6 rfl (r_move rfl) ?_
    refine ha_takeP 7 rfl (r_move rfl) ?_
    refine ha_takeP 8 rfl (r_idx rfl rfl) ?_
    refine ha_takeP 9 rfl (r_field rfl (O' := o + (k * 33 + 32)) (by omega)) ?_
    refine ha_take 10 rfl (r_nth rfl (ents_val hx)) ?_
    refine ha_one 11 ?_
    refine ho_C 11 rfl ((Put_s (ofM (l.take k)) A c' x (by omega)).comes) rfl rfl rfl (fun _ => same) fun ⟨A22, c22⟩ => ?_
    refine ha_takeP 12 rfl (r_assign rfl) ?_
    refine ha_done (by kernel_rfl) ?_
    refine q_block ?_
    refine q_then ?_
    dsimp only
    rw [← ofM_snoc l k x hx]
    refine h_reg ?_
    refine h_op (r_move rfl) ?_
    refine h_op (r_add rfl rfl) ?_
    refine h_op (r_assign rfl) ?_
    refine h_nil ?_
    exact h_back (k + 1, A22, c22) ((show k + 1 ≤ l.length by omega)) ((show l.length - (k + 1) < l.length - k by omega)) ⟨rfl, rfl, rfl, trivial⟩ (same)
  · obtain rfl : k = l.length := by omega
    rw [List.take_length]
    refine h_exit ?_
    refine q_thenE ?_
    refine q_thenE ?_
    refine q_blockE ?_
    refine q_then ?_
    refine h_seq ?_
    refine h_reg ?_
    refine h_op (r_move rfl) ?_
    refine h_op (r_assign rfl) ?_
    refine h_nil ?_
    refine q_then ?_
    refine h_ret ?_
    exact h_ret1 rfl rfl fun w s => ⟨(A, c'), rfl, (same w s).res (List.Sublist.refl _) (by simp [Fa.wr])⟩
end Go.Proofs.YtdfeimdhlagebaaGreatDoor
/- U40 -/
namespace Go.Proofs.YtdfeimdhlagebaaGreatDoor
set_option linter.unusedSimpArgs false
set_option linter.unusedVariables false
open Go.RowKit
def fewM (l : List En) : Bool := decide (l.length ≤ 12) && l.all fun e => decide (e.e.value.n ≤ 200)
theorem Few_s (l : List En) (B : Option Addr) (c : Nat) (hm : l.length ≤ 1000000000000000) : Spec Tryz.prog 44 [.slice B l.length c].toArray [.rd B (ents l)] [] (fun _ : Unit => .bool (fewM l)) (fun _ => []) := by
  unfold fewM
  refine spec_of Tryz.func44 rfl (n := 20) rfl rfl ?_
  intro W
  by_cases h12 : 12 < l.length
  · rw [decide_eq_false (by omega), Bool.false_and]
    refine h_seq ?_
    refine h_reg ?_
    refine h_op (r_assign rfl) ?_
    refine h_nil ?_
    refine q_then ?_
    refine h_seq ?_
    refine h_seq ?_
    refine h_reg ?_
    refine h_op (r_move rfl) ?_
    refine h_op (r_len rfl) ?_
    refine h_op (r_gtr rfl rfl) ?_
    refine h_nil ?_
    refine q_then ?_
    refine h_yes rfl ((by omega)) ?_
    refine h_seq ?_
    refine h_reg ?_
    refine h_op (r_assign rfl) ?_
    refine h_nil ?_
    refine q_then ?_
    refine h_ret ?_
    refine q_thenR ?_
    exact h_ret1 rfl rfl fun w s => ⟨(), rfl, s.res (List.nil_sublist _) (by simp)⟩
  · rw [decide_eq_true (by omega), Bool.true_and]
    refine h_seq ?_
    refine h_reg ?_
    refine h_op (r_assign rfl) ?_
    refine h_nil ?_
    refine q_then ?_
    refine h_seq ?_
    refine h_seq ?_
    refine h_reg ?_
    refine h_op (r_move rfl) ?_
    refine h_op (r_len rfl) ?_
    refine h_op (r_gtr rfl rfl) ?_
    refine h_nil ?_
    refine q_then ?_
    refine h_no rfl ((by omega)) ?_
    refine h_skip ?_
    refine q_then ?_
    refine h_seq ?_
    refine h_seq ?_
    refine h_reg ?_
    refine h_op (r_assign rfl) ?_
    refine h_nil ?_
    refine q_then ?_
    refine h_block ?_
    refine h_loop (fun (k : Nat) => k ≤ l.length ∧ ∀ e ∈ l.take k, e.e.value.n ≤ 200) (fun (k : Nat) => [(3, .int .i64 (k : Int)), (0, .slice B l.length c)]) (fun (k : Nat) => [.rd B (ents l)]) (fun (k : Nat) => l.length - k) 0 (⟨Nat.zero_le _, fun e he => by simp at he⟩) ⟨rfl, rfl, trivial⟩ (same) ?_
    rintro k ⟨hk, ha⟩
    refine h_seq ?_
    refine h_seq ?_
    refine h_reg ?_
    refine h_op (r_move rfl) ?_
    refine h_op (r_move rfl) ?_
    refine h_op (r_len rfl) ?_
    refine h_op (r_lss rfl rfl) ?_
    refine h_nil ?_
    refine q_then ?_
    refine h_cond rfl (fun h => ?_) (fun h => ?_)
    · obtain ⟨e, he⟩ := getE (l := l) (k := k) (by omega)
      refine h_pure (φ := ∃ b o, B = some ⟨b, o, none⟩) (fun w s => Rd.some (s.ok (.rd B (ents l)) (by simp)) (by rw [ents_len]; omega)) ?_
      rintro ⟨b, o, rfl⟩
      refine h_skip ?_
      refine q_then ?_
      refine h_seq ?_
      refine h_block ?_
      refine h_seq ?_
      refine h_reg ?_
      refine h_op (r_move rfl) ?_
      refine h_op (r_move rfl) ?_
      refine h_op (r_idx rfl rfl) ?_
      refine h_op (r_field rfl (O' := o + (k * 33 + 32)) (by omega)) ?_
      refine h_op (r_nth rfl (ents_val he)) ?_
      refine h_op (r_len rfl) ?_
      refine h_op (r_gtr rfl rfl) ?_
      refine h_nil ?_
      refine q_then ?_
      refine h_cond rfl (fun h2 => ?_) (fun h2 => ?_)
      · have : (l.all fun e => decide (e.e.value.n ≤ 200)) = false := by
          rw [List.all_eq_false]
          exact ⟨e, List.mem_of_getElem? he, by simp; omega⟩
        rw [this]
        refine h_seq ?_
        refine h_reg ?_
        refine h_op (r_assign rfl) ?_
        refine h_nil ?_
        refine q_then ?_
        refine h_ret ?_
        refine q_blockR ?_
        refine q_thenR ?_
        refine q_thenR ?_
        refine q_blockR ?_
        refine q_thenR ?_
        exact h_ret1 rfl rfl fun w s => ⟨(), rfl, s.res (List.nil_sublist _) (by simp)⟩
      · have ha2 : ∀ f ∈ l.take (k + 1), f.e.value.n ≤ 200 := fun f hf => by
          rw [take_snocE he] at hf
          rcases List.mem_append.1 hf with hf | hf
          · exact ha f hf
          · rw [List.mem_singleton.1 hf]; omega
        refine h_skip ?_
        refine q_block ?_
        refine q_then ?_
        refine h_reg ?_
        refine h_op (r_move rfl) ?_
        refine h_op (r_add rfl rfl) ?_
        refine h_op (r_assign rfl) ?_
        refine h_nil ?_
        exact h_back (k + 1) (⟨by omega, ha2⟩) (by omega) ⟨rfl, rfl, trivial⟩ (same)
    · obtain rfl : k = l.length := by omega
      rw [List.take_length] at ha
      have : (l.all fun e => decide (e.e.value.n ≤ 200)) = true := List.all_eq_true.2 fun e he => decide_eq_true (ha e he)
      rw [this]
      refine h_exit ?_
      refine q_thenE ?_
      refine q_thenE ?_
      refine q_blockE ?_
      refine q_then ?_
      refine h_seq ?_
      refine h_reg ?_
      refine h_op (r_assign rfl) ?_
      refine h_nil ?_
      refine q_then ?_
      refine h_ret ?_
      exact h_ret1 rfl rfl fun w s => ⟨(), rfl, s.res (List.nil_sublist _) (by simp)⟩
theorem rValue_s (l : List UInt8) (B : Option Addr) (c : Nat) (hB : B = none → l.length = 0 ∧ c = 0) (hl : l.length ≤ 100000000) : Spec Tryz.prog 86 [.slice B l.length c].toArray [.rd B (bc l)] [] (fun u : Nat × Nat => .slice (some ⟨u.1, 0, none⟩) (preV l).length u.2) (fun u => [.own (.slice (some ⟨u.1, 0, none⟩) (preV l).length u.2) (preV l).length 5 1 (bc (preV l))]) := by
  have e : [(2 : UInt8)] ++ l = preV l := rfl
  refine spec_of Tryz.func86 rfl (n := 6) rfl rfl ?_
  intro W
  refine h_seq ?_
  refine h_reg ?_
  refine h_op (r_assign rfl) ?_
  refine h_nil ?_
  refine q_then ?_
  refine h_seq ?_
  refine h_reg ?_
  refine h_opX (x_bslV (ys := [.int .u8 2]) (bc [2]) rfl rfl (bc_one _)) fun g3 => ?_
  refine h_op (r_move rfl) ?_
  refine h_opX (x_appAB rfl rfl hB rfl (N' := (preV l).length) (hN := Nat.add_comm _ _)) fun ⟨A5, c5⟩ => ?_
  refine h_pure (φ := ∃ g, A5 = some ⟨g, 0, none⟩) (fun w s => s.ownSome (N := (preV l).length) (c := c5) (Nat.succ_pos _)) ?_
  rintro ⟨g, rfl⟩
  rw [e]
  refine h_op (r_assign rfl) ?_
  refine h_nil ?_
  refine q_then ?_
  refine h_ret ?_
  exact h_ret1 rfl rfl fun w s => ⟨(g, c5), rfl, (same w s).res (List.Sublist.refl _) (by simp [Fa.wr])⟩
theorem rLeafOf_s (n : Nat) (hn : n ≤ 256) (key : B32) (l : List UInt8) (B : Option Addr) (c : Nat) (hB : B = none → l.length = 0 ∧ c = 0) (hl : l.length ≤ 100000000) : Spec Tryz.prog 41 [.int .i64 (n : Int), .agg key.cells.toArray, .slice B l.length c].toArray [.rd B (bc l)] [] (fun _ : Unit => .agg (leafOf n key l).cells.toArray) (fun _ => []) := by
  have hpl : (preV l).length = l.length + 1 := rfl
  refine spec_of Tryz.func41 rfl (n := 13) rfl rfl ?_
  intro W
  refine h_seq ?_
  refine h_reg ?_
  refine h_opX (x_box rfl) fun g4 => ?_
  refine h_opX (x_alloc) fun g6 => ?_
  refine h_nil ?_
  refine q_then ?_
  refine h_seq ?_
  refine ha_start [.blk g4 key.cells 24] [] mixed (same) ?_
  refine ha_take 0 rfl (r_loadr rfl) ?_
  refine ha_takeP 1 rfl (r_move rfl) ?_
  refine ha_takeP 2 rfl (r_move rfl) ?_
  refine ha_one 3 ?_
  refine ho_C 3 rfl ((rValue_s l B c hB hl).comes) rfl rfl rfl (fun _ => same) fun ⟨g10, c10⟩ => ?_
  refine ha_one 4 ?_
  refine ho_C 4 rfl ((refSum5_s n hn (preV l) (some ⟨g10, 0, none⟩) c10 (fun h => by cases h) (by omega)).comes) rfl rfl rfl (fun _ => same) fun _ => ?_
  refine ha_takeP 5 rfl (r_build rfl) ?_
  refine ha_one 6 ?_
  refine ho_SL 6 rfl (s_storer rfl rfl) ?_
  refine q_then ?_
  refine h_ret ?_
  exact h_ret1 rfl (rv_row rfl) fun w s => ⟨(), rfl, s.res (List.nil_sublist _) (by simp)⟩
theorem ents_key0 (e : En) : ∀ j v, e.key.cells[j]? = some v → (ents [e])[0 + j]? = some v := fun j v hv => by have := ents_key (l := [e]) (k := 0) rfl j v hv; rwa [Nat.zero_mul] at this
theorem ents_at0 (e : En) : ∀ j v, e.e.cells[j]? = some v → (ents [e])[0 + j]? = some v := fun j v hv => by have := ents_at (l := [e]) (k := 0) rfl j v hv; rwa [Nat.zero_mul] at this
theorem ents_val0 (e : En) : (ents [e])[32]? = some (.slice e.e.value.A e.e.value.n e.e.value.c) := by have := ents_val (l := [e]) (k := 0) rfl; rwa [Nat.zero_mul, Nat.zero_add] at this
/-- each value of the entries is held -/
def ValsZ (h : Zh) (m : List En) : Prop := ∀ e ∈ m, SlZ h e.e.value e.val ∧ e.val.length ≤ 10000000
theorem ValsZ.part {h : Zh} {m : List En} (x : ValsZ h m) (d : Nat) (b : Bool) : ValsZ h (part m d b) := fun e he => x e (part_mem.1 he).1
theorem ValsZ.mono {h h' : Zh} (hl : LeZ h h') {m : List En} (x : ValsZ h m) : ValsZ h' m := fun e he => ⟨(x e he).1.mono hl, (x e he).2⟩
theorem Root_any (n : Nat) (hn : n ≤ 256) (h : Zh) {m : List En} {d : Nat} (hd : d ≤ 256) (ha : Alike m d) : m.length ≤ 1000000 → ValsZ h m → ∀ (B : Option Addr) (c : Nat), Spec Tryz.prog 25 [.int .i64 (n : Int), .slice B m.length c, .int .i64 (d : Int)].toArray [.rd B (ents m), .zone false h] [] (fun _ : Unit => .agg (rootM n m d).cells.toArray) (fun _ => []) := by
  refine parts_ind (p := fun m d => m.length ≤ 1000000 → ValsZ h m → ∀ (B : Option Addr) (c : Nat), Spec Tryz.prog 25 [.int .i64 (n : Int), .slice B m.length c, .int .i64 (d : Int)].toArray [.rd B (ents m), .zone false h] [] (fun _ : Unit => .agg (rootM n m d).cells.toArray) (fun _ => [])) ?_ ?_ ?_ (256 - d) m d (Nat.le_refl _) hd ha
  · intro d _ _ B c
    rw [rootM_nil]
    refine spec_of Tryz.func25 rfl (n := 49) rfl rfl ?_
    intro W
    refine h_seq ?_
    refine h_reg ?_
    refine h_opX (x_alloc) fun g6 => ?_
    refine h_nil ?_
    refine q_then ?_
    refine h_seq ?_
    refine h_seq ?_
    refine h_reg ?_
    refine h_op (r_move rfl) ?_
    refine h_op (r_len rfl) ?_
    refine h_op (r_bool (r_eql rfl rfl) (show _ = true by simp)) ?_
    refine h_nil ?_
    refine q_then ?_
    refine h_condT rfl ?_
    refine h_seq ?_
    refine h_reg ?_
    refine h_op (r_move rfl) ?_
    refine h_call ((rEmpty_s n hn).comes) rfl rfl rfl fun _ => ?_
    refine h_opS (s_storer rfl rfl) ?_
    refine h_nil ?_
    refine q_then ?_
    refine h_ret ?_
    refine q_thenR ?_
    exact h_ret1 rfl (rv_row rfl) fun w s => ⟨(), rfl, s.res (List.nil_sublist _) (by simp)⟩
  · intro e d hd _ hv B c
    rw [rootM_one n e hd]
    obtain ⟨hs, hvl⟩ := hv e (by simp)
    obtain ⟨⟨key, A, N, cc⟩, b⟩ := e
    obtain rfl : N = b.length := hs.len
    have hA : A = none → b.length = 0 ∧ cc = 0 := hs.nil
    have hrd : RdZ h A (bc b) := hs.rd
    dsimp only at hvl
    refine spec_of Tryz.func25 rfl (n := 49) rfl rfl ?_
    intro W
    refine h_seq ?_
    refine h_reg ?_
    refine h_opX (x_alloc) fun g6 => ?_
    refine h_nil ?_
    refine q_then ?_
    refine h_seq ?_
    refine h_seq ?_
    refine h_reg ?_
    refine h_op (r_move rfl) ?_
    refine h_op (r_len rfl) ?_
    refine h_op (r_bool (r_eql rfl rfl) (show _ = false by simp)) ?_
    refine h_nil ?_
    refine q_then ?_
    refine h_condF rfl ?_
    refine h_skip ?_
    refine q_then ?_
    refine h_seq ?_
    refine h_seq ?_
    refine h_reg ?_
    refine h_op (r_move rfl) ?_
    refine h_op (r_len rfl) ?_
    refine h_op (r_bool (r_eql rfl rfl) (show _ = true by simp)) ?_
    refine h_nil ?_
    refine q_then ?_
    refine h_condT rfl ?_
    refine h_pure (φ := ∃ b o, B = some ⟨b, o, none⟩) (fun w s => Rd.some (s.ok (.rd B (ents [⟨⟨key, ⟨A, b.length, cc⟩⟩, b⟩])) (by simp)) (by rw [ents_len]; exact Nat.zero_lt_succ _)) ?_
    rintro ⟨bb, o, rfl⟩
    refine h_seq ?_
    refine ha_start [.rd (some ⟨bb, o, none⟩) (ents [⟨⟨key, ⟨A, b.length, cc⟩⟩, b⟩])] [] mixed (same) ?_
    refine ha_takeP 0 rfl (r_move rfl) ?_
    refine ha_takeP 1 rfl (r_move rfl) ?_
    refine ha_takeP 2 rfl (r_move rfl) ?_
    refine ha_takeP 3 rfl (r_idx rfl rfl (hm := by simp)) ?_
    refine ha_takeP 4 rfl (r_field rfl) ?_
    refine ha_take 5 rfl (r_nthr rfl (out := key.cells) (B32.cells_length _) (ents_key0 ⟨⟨key, ⟨A, b.length, cc⟩⟩, b⟩)) ?_
    refine ha_takeP 6 rfl (r_move rfl) ?_
    refine ha_takeP 7 rfl (r_idx rfl rfl (hm := by simp)) ?_
    refine ha_takeP 8 rfl (r_field rfl) ?_
    refine ha_take 9 rfl (r_nth rfl (ents_val0 ⟨⟨key, ⟨A, b.length, cc⟩⟩, b⟩)) ?_
    refine ha_one 10 ?_
    refine ho_C 10 rfl ((rLeafOf_s n hn key b A cc hA (by omega)).comes) rfl rfl rfl (fun _ => same) fun _ => ?_
    refine ha_one 11 ?_
    refine ho_C 11 rfl ((rLeaf_s (leafOf n key b)).comes) rfl rfl rfl (fun _ => same) fun ⟨g28, c28⟩ => ?_
    refine ha_one 12 ?_
    refine ho_C 12 rfl ((refSum5_s n hn (preL (leafOf n key b)) (some ⟨g28, 0, none⟩) c28 (fun h => by cases h) (by rw [preL_len]; decide)).comes) rfl rfl rfl (fun _ => same) fun _ => ?_
    refine ha_one 13 ?_
    refine ho_SL 13 rfl (s_storer rfl rfl) ?_
    refine q_then ?_
    refine h_ret ?_
    refine q_thenR ?_
    exact h_ret1 rfl (rv_row rfl) fun w s => ⟨(), rfl, s.res (List.nil_sublist _) (by simp)⟩
  · intro m d ha hm hd i1 i2 hl hv B c
    have p1 := part_le m d false
    have p2 := part_le m d true
    rw [rootM_two n hm (by omega)]
    refine spec_of Tryz.func25 rfl (n := 49) rfl rfl ?_
    intro W
    refine h_seq ?_
    refine h_reg ?_
    refine h_opX (x_alloc) fun g6 => ?_
    refine h_nil ?_
    refine q_then ?_
    refine h_seq ?_
    refine h_seq ?_
    refine h_reg ?_
    refine h_op (r_move rfl) ?_
    refine h_op (r_len rfl) ?_
    refine h_op (r_eql rfl rfl) ?_
    refine h_nil ?_
    refine q_then ?_
    refine h_no rfl ((by omega)) ?_
    refine h_skip ?_
    refine q_then ?_
    refine h_seq ?_
    refine h_seq ?_
    refine h_reg ?_
    refine h_op (r_move rfl) ?_
    refine h_op (r_len rfl) ?_
    refine h_op (r_eql rfl rfl) ?_
    refine h_nil ?_
    refine q_then ?_
    refine h_no rfl ((by omega)) ?_
    refine h_skip ?_
    refine q_then ?_
    refine h_seq ?_
    refine h_reg ?_
    refine h_op (r_move rfl) ?_
    refine h_op (r_move rfl) ?_
    refine h_op (r_move rfl) ?_
    refine h_call ((Part_s m B c d false hd (by omega)).comes) rfl rfl rfl fun ⟨A33, c33⟩ => ?_
    refine h_op (r_move rfl) ?_
    refine h_op (r_add rfl rfl) ?_
    refine h_call ((i1 (by omega) (hv.part d false) A33 c33).comes) rfl rfl rfl fun _ => ?_
    refine h_opX (x_alloc) fun g7 => ?_
    refine h_opS (s_storer rfl rfl) ?_
    refine h_nil ?_
    refine q_then ?_
    refine h_seq ?_
    refine h_reg ?_
    refine h_op (r_move rfl) ?_
    refine h_op (r_move rfl) ?_
    refine h_op (r_move rfl) ?_
    refine h_call ((Part_s m B c d true hd (by omega)).comes) rfl rfl rfl fun ⟨A40, c40⟩ => ?_
    refine h_op (r_move rfl) ?_
    refine h_op (r_add rfl rfl) ?_
    refine h_call ((i2 (by omega) (hv.part d true) A40 c40).comes) rfl rfl rfl fun _ => ?_
    refine h_opX (x_alloc) fun g8 => ?_
    refine h_opS (s_storer rfl rfl) ?_
    refine h_nil ?_
    refine q_then ?_
    refine h_seq ?_
    refine h_reg ?_
    refine h_op (r_move rfl) ?_
    refine h_op (r_loadr rfl) ?_
    refine h_op (r_loadr rfl) ?_
    refine h_call ((rNode_s (rootM n (part m d false) (d + 1)) (rootM n (part m d true) (d + 1))).comes) rfl rfl rfl fun ⟨g47, c47⟩ => ?_
    refine h_call ((refSum5_s n hn (preN (rootM n (part m d false) (d + 1)) (rootM n (part m d true) (d + 1))) (some ⟨g47, 0, none⟩) c47 (fun h => by cases h) (by rw [preN_len]; decide)).comes) rfl rfl rfl fun _ => ?_
    refine h_opS (s_storer rfl rfl) ?_
    refine h_nil ?_
    refine q_then ?_
    refine h_ret ?_
    exact h_ret1 rfl (rv_row rfl) fun w s => ⟨(), rfl, s.res (List.nil_sublist _) (by simp)⟩
end Go.Proofs.YtdfeimdhlagebaaGreatDoor
