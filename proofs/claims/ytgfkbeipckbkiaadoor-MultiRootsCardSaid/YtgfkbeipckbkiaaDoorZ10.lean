/- The preimages; The reference's preimages; what is the same; The rules of a proof's form, and its check; Rows of digests; Repeat; Arguments of this translation, opened; what the law's condition says of the table of rounds; Booleans compared; small laws; Shifts by eight; a slice's first cells as an array; Interface values held against nil; Multiproofs: the subtrees that items describe: plain; What a proof's siblings are, expanded. Plain Lean; Maps of keys, and their trees: plain Lean; The digest of a tree, and the proof of a map: plain Lean; Trees in memory: what a zone holds of them (joined texts: U12 U13 U14 U15 TC N12 N13 N14 E14 E10 E11 E12 UT) -/
import Derived.Test.YtgfkbeipckbkiaaDoorZ9
import Derived.LaidMore
import Derived.Stop.Joined
import Derived.WideLaws
set_option linter.all false
/- U12 -/
namespace Go.Proofs.YtgfkbeipckbkiaaDoor
set_option linter.unusedSimpArgs false
set_option linter.unusedVariables false
open Go.RowKit
def preL (l : Leaf) : List UInt8 := 0 :: (l.key.1 ++ l.value.1)
def preN (a b : B32) : List UInt8 := 1 :: (a.1 ++ b.1)
def preE : List UInt8 := [3]
theorem preL_len (l : Leaf) : (preL l).length = 65 := by have := l.key.2; have := l.value.2; simp [preL]; omega
theorem preN_len (a b : B32) : (preN a b).length = 65 := by have := a.2; have := b.2; simp [preN]; omega
theorem x_bslV {P : Program} {A : List Fa} {W : World} {n : Nat} {D : List Deferred} {E : Env} {L : List Fa} {t e m bytes : Nat} {z : Value} [E' : TS P t e 1 bytes z] {l : List (Nat × Operand)} (xs : List Value) {ys : List Value} (hv : evp E l = some (idxd 0 ys)) (he : ys = xs) (h1 : ∀ v ∈ xs, v.oneCell' = true) (hm : xs.length = m := by rfl) (h0 : 0 < m ∧ m * 1 ≤ 16777216 := by decide) :
    RunsX P A W n D E L (.buildSlice t m l.toArray) (fun g : Nat => .slice (some ⟨g, 0, none⟩) m m) (fun g => .own (.slice (some ⟨g, 0, none⟩) m m) m e 1 xs :: L) := by
  subst he
  exact x_bsl (E' := E') hv (by rw [idxd_len, hm]) (hf := parts_idxd _ 0 h1) (ho := ⟨hm, h1⟩) (Nat.mul_one _) h0
theorem svs_one (xs : List Seg) : ∀ v ∈ svs xs, v.oneCell' = true := by
  intro v hv
  obtain ⟨x, _, rfl⟩ := List.mem_map.1 hv
  rfl
theorem rds_nil {M : List Fa} : Rds M (.rd none (svs []) :: rdsOf []) := inferInstanceAs (Rds M [.rd none []])
theorem rds2 {L : List Fa} {B A1 A2 : Option Addr} {n1 n2 : Nat} {l1 l2 : List UInt8} {c1 c2 : List Value} (e1 : c1 = bc l1) (e2 : c2 = bc l2) [h0 : Rd1 L (.rd B (svs [(A1, n1, l1), (A2, n2, l2)]))] [h1 : Rd1 L (.rd A1 c1)] [h2 : Rd1 L (.rd A2 c2)] : Rds L (.rd B (svs [(A1, n1, l1), (A2, n2, l2)]) :: rdsOf [(A1, n1, l1), (A2, n2, l2)]) := by
  subst e1 e2
  exact inferInstanceAs (Rds L [.rd B (svs [(A1, n1, l1), (A2, n2, l2)]), .rd A1 (bc l1), .rd A2 (bc l2)])
theorem rds_wr (xs : List Seg) (B : Option Addr) : ∀ r ∈ Fa.rd B (svs xs) :: rdsOf xs, r.wr = false := by
  intro r hr
  rcases List.mem_cons.1 hr with rfl | hr
  · rfl
  · induction xs with
    | nil => cases hr
    | cons x l ih => rcases List.mem_cons.1 hr with rfl | h; rfl; exact ih (List.mem_cons_of_mem _ h) h
theorem build_s (t : UInt8) (xs : List Seg) (B : Option Addr) (cp : Nat) (hx : ∀ x ∈ xs, x.1 = none → x.2.2.length = 0 ∧ x.2.1 = 0) (hmax : segN xs ≤ 1000000000 ∧ xs.length ≤ 1000000000) : Spec Tryd.prog 96 [.int .u8 (t.toNat : Int), .slice B xs.length cp].toArray (.rd B (svs xs) :: rdsOf xs) [] (fun u : Nat × Nat => .slice (some ⟨u.1, 0, none⟩) (t :: segB xs).length u.2) (fun u => [.own (.slice (some ⟨u.1, 0, none⟩) (t :: segB xs).length u.2) (t :: segB xs).length 5 1 (bc (t :: segB xs))]) := by
  have hl := segB_len xs
  refine spec_of Tryd.func96 rfl (n := 10) rfl rfl ?_
  intro W
  refine h_seq ?_
  refine h_reg ?_
  refine h_op (r_assign rfl) ?_
  refine h_nil ?_
  refine q_then ?_
  refine h_seq ?_
  refine h_reg ?_
  refine h_op (r_move rfl) ?_
  refine h_opX (x_bsl rfl rfl) fun g6 => ?_
  refine h_op (r_move rfl) ?_
  change H _ _ _ _ _ (.own (.slice (some ⟨g6, 0, none⟩) 1 1) 1 5 1 (bc [t]) :: .rd B (svs xs) :: rdsOf xs) _
  refine h_call ((Concat_s xs B cp hx hmax).comes (hr := ⟨fun hw r hr => ⟨(rds_wr xs B r hr), hw.ok r (List.mem_cons_of_mem _ hr), fun k hk => ⟨r, List.mem_cons_of_mem _ hr, hk⟩⟩⟩)) rfl rfl rfl fun ⟨A8, c8⟩ => ?_
  dsimp only
  refine h_pure (φ := A8 = none → (segB xs).length = 0 ∧ c8 = 0) (fun w s => (s.ownLe (B := A8) (N := (segB xs).length) (c := c8)).2.2) fun hA => ?_
  refine h_opX (x_appAB rfl rfl hA rfl (hN := Nat.add_comm _ _)) fun ⟨A9, c9⟩ => ?_
  refine h_pure (φ := ∃ g, A9 = some ⟨g, 0, none⟩) (fun w s => s.ownSome (N := (segB xs).length + 1) (c := c9) (by omega)) ?_
  rintro ⟨g, rfl⟩
  refine h_op (r_assign rfl) ?_
  refine h_nil ?_
  refine q_then ?_
  refine h_ret ?_
  exact h_ret1 rfl rfl fun w s => ⟨(g, c9), rfl, s.res ((List.nil_sublist _).cons_cons _) (by simp [Fa.wr])⟩
theorem pEmpty_s : Spec Tryd.prog 77 ([] : List Value).toArray [] [] (fun u : Nat × Nat => .slice (some ⟨u.1, 0, none⟩) 1 u.2) (fun u => [.own (.slice (some ⟨u.1, 0, none⟩) 1 u.2) 1 5 1 (bc preE)]) := by
  refine spec_of Tryd.func77 rfl (n := 2) rfl rfl ?_
  intro W
  refine h_seq ?_
  refine h_reg ?_
  refine h_op (r_assign rfl) ?_
  refine h_nil ?_
  refine q_then ?_
  refine h_seq ?_
  refine h_reg ?_
  refine h_call ((build_s 3 [] none 0 (fun _ h => (List.not_mem_nil h).elim) (by decide)).comes (hr := rds_nil)) rfl rfl rfl fun ⟨g, c⟩ => ?_
  dsimp only
  refine h_op (r_assign rfl) ?_
  refine h_nil ?_
  refine q_then ?_
  refine h_ret ?_
  exact h_ret1 rfl rfl fun w s => ⟨(g, c), rfl, s.res (List.Sublist.refl _) (by simp [Fa.wr])⟩
theorem pLeaf_s (l : Leaf) : Spec Tryd.prog 139 [.agg l.cells.toArray].toArray [] [] (fun u : Nat × Nat => .slice (some ⟨u.1, 0, none⟩) (preL l).length u.2) (fun u => [.own (.slice (some ⟨u.1, 0, none⟩) (preL l).length u.2) (preL l).length 5 1 (bc (preL l))]) := by
  have hk := l.key.2
  have hv := l.value.2
  have hseg : ∀ g : Nat, (0 : UInt8) :: segB [(some ⟨g, 0, none⟩, 32, l.key.1), (some ⟨g, 32, none⟩, 32, l.value.1)] = preL l := fun g => by simp [segB, preL]
  refine spec_of Tryd.func139 rfl (n := 9) rfl rfl ?_
  intro W
  refine h_seq ?_
  refine h_reg ?_
  refine h_opX (x_box rfl) fun g1 => ?_
  refine h_op (r_assign rfl) ?_
  refine h_nil ?_
  refine q_then ?_
  refine h_seq ?_
  refine ha_start [] [] mixed (same) ?_
  refine ha_takeP 0 rfl (r_field rfl) ?_
  refine ha_takeP 1 rfl (r_slA rfl) ?_
  refine ha_takeP 2 rfl (r_field rfl) ?_
  refine ha_takeP 3 rfl (r_slA rfl) ?_
  refine ha_one 4 ?_
  refine ho_X 4 rfl (rk (x_bslV (ys := [.slice (some ⟨g1, 0, none⟩) 32 32, .slice (some ⟨g1, 32, none⟩) 32 32]) (svs [(some ⟨g1, 0, none⟩, 32, l.key.1), (some ⟨g1, 32, none⟩, 32, l.value.1)]) rfl (by simp only [svs, sv, List.map_cons, List.map_nil, hk, hv]) (svs_one _))) (fun _ => same) fun g7 => ?_
  refine ha_one 5 ?_
  refine ho_C 5 rfl ((build_s 0 [(some ⟨g1, 0, none⟩, 32, l.key.1), (some ⟨g1, 32, none⟩, 32, l.value.1)] (some ⟨g7, 0, none⟩) 2 (by simp) (by simp [segN]; omega)).comes (hr := rds2 (c1 := l.key.cells) (c2 := l.value.cells) rfl rfl)) rfl rfl rfl (fun _ => same) fun ⟨g8, c8⟩ => ?_
  refine ha_takeP 6 rfl (r_assign rfl) ?_
  refine ha_done (by kernel_rfl) ?_
  refine q_then ?_
  dsimp only
  rw [hseg]
  refine h_ret ?_
  exact h_ret1 rfl rfl fun w s => ⟨(g8, c8), rfl, s.res ((List.nil_sublist _).cons_cons _) (by simp [Fa.wr])⟩
theorem pNode_s (a b : B32) : Spec Tryd.prog 136 [.agg a.cells.toArray, .agg b.cells.toArray].toArray [] [] (fun u : Nat × Nat => .slice (some ⟨u.1, 0, none⟩) (preN a b).length u.2) (fun u => [.own (.slice (some ⟨u.1, 0, none⟩) (preN a b).length u.2) (preN a b).length 5 1 (bc (preN a b))]) := by
  have hk := a.2
  have hv := b.2
  have hseg : ∀ g g' : Nat, (1 : UInt8) :: segB [(some ⟨g, 0, none⟩, 32, a.1), (some ⟨g', 0, none⟩, 32, b.1)] = preN a b := fun g g' => by simp [segB, preN]
  refine spec_of Tryd.func136 rfl (n := 9) rfl rfl ?_
  intro W
  refine h_seq ?_
  refine h_reg ?_
  refine h_opX (x_box rfl) fun g2 => ?_
  refine h_opX (x_box rfl) fun g3 => ?_
  refine h_op (r_assign rfl) ?_
  refine h_nil ?_
  refine q_then ?_
  refine h_seq ?_
  refine ha_start [] [] mixed (same) ?_
  refine ha_takeP 0 rfl (r_slA rfl) ?_
  refine ha_takeP 1 rfl (r_slA rfl) ?_
  refine ha_one 2 ?_
  refine ho_X 2 rfl (rk (x_bslV (ys := [.slice (some ⟨g2, 0, none⟩) 32 32, .slice (some ⟨g3, 0, none⟩) 32 32]) (svs [(some ⟨g2, 0, none⟩, 32, a.1), (some ⟨g3, 0, none⟩, 32, b.1)]) rfl (by simp only [svs, sv, List.map_cons, List.map_nil, hk, hv]) (svs_one _))) (fun _ => same) fun g7 => ?_
  refine ha_one 3 ?_
  refine ho_C 3 rfl ((build_s 1 [(some ⟨g2, 0, none⟩, 32, a.1), (some ⟨g3, 0, none⟩, 32, b.1)] (some ⟨g7, 0, none⟩) 2 (by simp) (by simp [segN]; omega)).comes (hr := rds2 (c1 := a.cells) (c2 := b.cells) rfl rfl)) rfl rfl rfl (fun _ => same) fun ⟨g8, c8⟩ => ?_
  refine ha_takeP 4 rfl (r_assign rfl) ?_
  refine ha_done (by kernel_rfl) ?_
  refine q_then ?_
  dsimp only
  rw [hseg]
  refine h_ret ?_
  exact h_ret1 rfl rfl fun w s => ⟨(g8, c8), rfl, s.res ((List.nil_sublist _).cons_cons _) (by simp [Fa.wr])⟩
end Go.Proofs.YtgfkbeipckbkiaaDoor
/- U13 -/
namespace Go.Proofs.YtgfkbeipckbkiaaDoor
set_option linter.unusedSimpArgs false
set_option linter.unusedVariables false
open Go.RowKit
theorem snocB (t : List UInt8) (a : List UInt8) (k : Nat) (h : k < a.length) : (t ++ a.take k) ++ [UInt8.ofBitVec (a.getD k 0).toBitVec] = t ++ a.take (k + 1) := by
  rw [take_snoc (d := 0) h, List.append_assoc]
theorem two_s (t : UInt8) (a b : B32) : Spec Tryd.prog 84 [.int .u8 (t.toNat : Int), .agg a.cells.toArray, .agg b.cells.toArray].toArray [] [] (fun u : Nat × Nat => .slice (some ⟨u.1, 0, none⟩) 65 u.2) (fun u => [.own (.slice (some ⟨u.1, 0, none⟩) 65 u.2) 65 5 1 (bc (t :: (a.1 ++ b.1)))]) := by
  have ha := a.2
  have hb := b.2
  refine spec_of Tryd.func84 rfl (n := 33) rfl rfl ?_
  intro W
  refine h_seq ?_
  refine h_reg ?_
  refine h_opX (x_box rfl) fun g4 => ?_
  refine h_opX (x_box rfl) fun g5 => ?_
  refine h_op (r_assign rfl) ?_
  refine h_nil ?_
  refine q_then ?_
  refine h_seq ?_
  refine h_reg ?_
  refine h_op (r_move rfl) ?_
  refine h_opX (x_bsl rfl rfl) fun g11 => ?_
  refine h_op (r_assign rfl) ?_
  refine h_nil ?_
  refine q_then ?_
  refine h_seq ?_
  refine h_seq ?_
  refine h_reg ?_
  refine h_op (r_assign rfl) ?_
  refine h_nil ?_
  refine q_then ?_
  refine h_block ?_
  change H _ _ _ _ _ (.own (.slice (some ⟨g11, 0, none⟩) (1 + 0) 1) (1 + 0) _ _ (bc ([t] ++ a.1.take 0)) :: _) _
  refine h_loop (fun (s : Nat × Nat × Nat) => s.1 ≤ 32) (fun (s : Nat × Nat × Nat) => [(8, .int .i64 (s.1 : Int)), (7, .slice (some ⟨s.2.1, 0, none⟩) (1 + s.1) s.2.2), (4, .pointer (some ⟨g4, 0, none⟩)), (5, .pointer (some ⟨g5, 0, none⟩))]) (fun (s : Nat × Nat × Nat) => [.own (.slice (some ⟨s.2.1, 0, none⟩) (1 + s.1) s.2.2) (1 + s.1) 5 1 (bc ([t] ++ a.1.take s.1)), .blk g5 b.cells 39, .blk g4 a.cells 39]) (fun (s : Nat × Nat × Nat) => 32 - s.1) (0, g11, 1) ((show 0 ≤ 32 by omega)) ⟨rfl, rfl, rfl, rfl, trivial⟩ (same) ?_
  rintro ⟨k, g, c⟩ hk
  dsimp only at hk ⊢
  refine h_seq ?_
  refine h_seq ?_
  refine h_reg ?_
  refine h_op (r_move rfl) ?_
  refine h_op (r_lss rfl rfl) ?_
  refine h_nil ?_
  refine q_then ?_
  refine h_cond rfl (fun h => ?_) (fun h => ?_)
  · have hs := snocB [t] a.1 k (by omega)
    refine h_skip ?_
    refine q_then ?_
    refine h_seq ?_
    refine h_block ?_
    refine h_reg ?_
    refine h_op (r_move rfl) ?_
    refine h_op (r_move rfl) ?_
    refine h_op (r_idxA rfl rfl) ?_
    refine h_op (r_nth rfl (bc_at' (by omega))) ?_
    refine h_opX (x_bsl rfl rfl) fun g20 => ?_
    refine h_opX (x_app1B rfl rfl) fun ⟨g21, c21⟩ => ?_
    refine h_op (r_assign rfl) ?_
    refine h_nil ?_
    refine q_block ?_
    refine q_then ?_
    refine h_reg ?_
    refine h_op (r_move rfl) ?_
    refine h_op (r_add rfl rfl) ?_
    refine h_op (r_assign rfl) ?_
    refine h_nil ?_
    rw [hs]
    exact h_back (k + 1, g21, c21) ((show k + 1 ≤ 32 by omega)) ((show 32 - (k + 1) < 32 - k by omega)) ⟨rfl, rfl, rfl, rfl, trivial⟩ (same)
  · obtain rfl : k = 32 := by omega
    refine h_exit ?_
    refine q_thenE ?_
    refine q_thenE ?_
    refine q_blockE ?_
    refine q_then ?_
    refine h_seq ?_
    refine h_seq ?_
    refine h_reg ?_
    refine h_op (r_assign rfl) ?_
    refine h_nil ?_
    refine q_then ?_
    refine h_block ?_
    rw [show [t] ++ a.1.take 32 = (t :: a.1) ++ b.1.take 0 by rw [List.take_of_length_le (by omega)]; simp]
    change H _ _ _ _ _ (.own (.slice (some ⟨g, 0, none⟩) (33 + 0) c) (33 + 0) _ _ _ :: _) _
    refine h_loop (fun (s : Nat × Nat × Nat) => s.1 ≤ 32) (fun (s : Nat × Nat × Nat) => [(9, .int .i64 (s.1 : Int)), (7, .slice (some ⟨s.2.1, 0, none⟩) (33 + s.1) s.2.2), (5, .pointer (some ⟨g5, 0, none⟩))]) (fun (s : Nat × Nat × Nat) => [.own (.slice (some ⟨s.2.1, 0, none⟩) (33 + s.1) s.2.2) (33 + s.1) 5 1 (bc ((t :: a.1) ++ b.1.take s.1)), .blk g5 b.cells 39]) (fun (s : Nat × Nat × Nat) => 32 - s.1) (0, g, c) ((show 0 ≤ 32 by omega)) ⟨rfl, rfl, rfl, trivial⟩ (same) ?_
    rintro ⟨k, g, c⟩ hk
    dsimp only at hk ⊢
    refine h_seq ?_
    refine h_seq ?_
    refine h_reg ?_
    refine h_op (r_move rfl) ?_
    refine h_op (r_lss rfl rfl) ?_
    refine h_nil ?_
    refine q_then ?_
    refine h_cond rfl (fun h => ?_) (fun h => ?_)
    · have hs := snocB (t :: a.1) b.1 k (by omega)
      refine h_skip ?_
      refine q_then ?_
      refine h_seq ?_
      refine h_block ?_
      refine h_reg ?_
      refine h_op (r_move rfl) ?_
      refine h_op (r_move rfl) ?_
      refine h_op (r_idxA rfl rfl) ?_
      refine h_op (r_nth rfl (bc_at' (by omega))) ?_
      refine h_opX (x_bsl rfl rfl) fun g30 => ?_
      refine h_opX (x_app1B rfl rfl) fun ⟨g31, c31⟩ => ?_
      refine h_op (r_assign rfl) ?_
      refine h_nil ?_
      refine q_block ?_
      refine q_then ?_
      refine h_reg ?_
      refine h_op (r_move rfl) ?_
      refine h_op (r_add rfl rfl) ?_
      refine h_op (r_assign rfl) ?_
      refine h_nil ?_
      rw [hs]
      exact h_back (k + 1, g31, c31) ((show k + 1 ≤ 32 by omega)) ((show 32 - (k + 1) < 32 - k by omega)) ⟨rfl, rfl, rfl, trivial⟩ (same)
    · obtain rfl : k = 32 := by omega
      rw [show (t :: a.1) ++ b.1.take 32 = t :: (a.1 ++ b.1) by rw [List.take_of_length_le (by omega)]; simp]
      refine h_exit ?_
      refine q_thenE ?_
      refine q_thenE ?_
      refine q_blockE ?_
      refine q_then ?_
      refine h_seq ?_
      refine h_reg ?_
      refine h_op (r_move rfl) ?_
      refine h_op (r_assign rfl) ?_
      refine h_nil ?_
      refine q_then ?_
      refine h_ret ?_
      exact h_ret1 rfl rfl fun w s => ⟨(g, c), rfl, s.res ((List.nil_sublist _).cons_cons _) (by simp [Fa.wr])⟩
theorem rLeaf_s (l : Leaf) : Spec Tryd.prog 62 [.agg l.cells.toArray].toArray [] [] (fun u : Nat × Nat => .slice (some ⟨u.1, 0, none⟩) (preL l).length u.2) (fun u => [.own (.slice (some ⟨u.1, 0, none⟩) (preL l).length u.2) (preL l).length 5 1 (bc (preL l))]) := by
  rw [preL_len]
  refine spec_of Tryd.func62 rfl (n := 8) rfl rfl ?_
  intro W
  refine h_seq ?_
  refine h_reg ?_
  refine h_opX (x_box rfl) fun g1 => ?_
  refine h_op (r_assign rfl) ?_
  refine h_nil ?_
  refine q_then ?_
  refine h_seq ?_
  refine h_reg ?_
  refine h_op (r_field rfl) ?_
  refine h_op (r_loadr rfl) ?_
  refine h_op (r_field rfl) ?_
  refine h_op (r_loadr rfl) ?_
  refine h_call ((two_s 0 l.key l.value).comes) rfl rfl rfl fun ⟨g, c⟩ => ?_
  dsimp only
  refine h_op (r_assign rfl) ?_
  refine h_nil ?_
  refine q_then ?_
  refine h_ret ?_
  exact h_ret1 rfl rfl fun w s => ⟨(g, c), rfl, s.res ((List.nil_sublist _).cons_cons _) (by simp [Fa.wr])⟩
theorem rNode_s (a b : B32) : Spec Tryd.prog 63 [.agg a.cells.toArray, .agg b.cells.toArray].toArray [] [] (fun u : Nat × Nat => .slice (some ⟨u.1, 0, none⟩) (preN a b).length u.2) (fun u => [.own (.slice (some ⟨u.1, 0, none⟩) (preN a b).length u.2) (preN a b).length 5 1 (bc (preN a b))]) := by
  rw [preN_len]
  refine spec_of Tryd.func63 rfl (n := 8) rfl rfl ?_
  intro W
  refine h_seq ?_
  refine h_reg ?_
  refine h_opX (x_box rfl) fun g2 => ?_
  refine h_opX (x_box rfl) fun g3 => ?_
  refine h_op (r_assign rfl) ?_
  refine h_nil ?_
  refine q_then ?_
  refine h_seq ?_
  refine h_reg ?_
  refine h_op (r_loadr rfl) ?_
  refine h_op (r_loadr rfl) ?_
  refine h_call ((two_s 1 a b).comes) rfl rfl rfl fun ⟨g, c⟩ => ?_
  dsimp only
  refine h_op (r_assign rfl) ?_
  refine h_nil ?_
  refine q_then ?_
  refine h_ret ?_
  exact h_ret1 rfl rfl fun w s => ⟨(g, c), rfl, s.res ((List.nil_sublist _).cons_cons _) (by simp [Fa.wr])⟩
theorem rEmpty_s (n : Nat) (hn : n ≤ 256) : Spec Tryd.prog 61 [.int .i64 (n : Int)].toArray [] [] (fun _ : Unit => .agg (sumB n preE).cells.toArray) (fun _ => []) := by
  refine spec_of Tryd.func61 rfl (n := 6) rfl rfl ?_
  intro W
  refine h_seq ?_
  refine h_reg ?_
  refine h_opX (x_alloc) fun g2 => ?_
  refine h_nil ?_
  refine q_then ?_
  refine h_seq ?_
  refine h_reg ?_
  refine h_op (r_move rfl) ?_
  refine h_opX (x_bsl rfl rfl) fun g4 => ?_
  change H _ _ _ _ _ (.own (.slice (some ⟨g4, 0, none⟩) 1 1) 1 _ _ (bc preE) :: _) _
  refine h_call ((refSum5_s n hn preE (some ⟨g4, 0, none⟩) 1 (fun h => by cases h) (by decide)).comes) rfl rfl rfl fun _ => ?_
  refine h_opS (s_storer rfl rfl) ?_
  refine h_nil ?_
  refine q_then ?_
  refine h_ret ?_
  exact h_ret1 rfl (rv_row rfl) fun w s => ⟨(), rfl, s.res (List.nil_sublist _) (by simp)⟩
theorem Rd.some {w : World} {B : Option Addr} {cs : List Value} (h : Rd w B cs) (hc : 0 < cs.length) : ∃ b o, B = some ⟨b, o, none⟩ := by
  obtain ⟨b, o, e, _⟩ := h 0 _ (List.getElem?_eq_getElem hc)
  exact ⟨b, o, e⟩
theorem Same_yes (l : List UInt8) (B B' : Option Addr) (c c' : Nat) (hl : l.length ≤ 1000000000) : Spec Tryd.prog 31 [.slice B l.length c, .slice B' l.length c'].toArray [.rd B (bc l), .rd B' (bc l)] [] (fun _ : Unit => .bool true) (fun _ => []) := by
  refine spec_of Tryd.func31 rfl (n := 26) rfl rfl ?_
  intro W
  refine h_seq ?_
  refine h_reg ?_
  refine h_op (r_assign rfl) ?_
  refine h_nil ?_
  refine q_then ?_
  refine h_seq ?_
  refine h_seq ?_
  refine h_reg ?_
  refine h_op (r_move rfl) ?_
  refine h_op (r_len rfl) ?_
  refine h_op (r_move rfl) ?_
  refine h_op (r_len rfl) ?_
  refine h_op (r_neq rfl rfl) ?_
  refine h_nil ?_
  refine q_then ?_
  refine h_no rfl ((fun h => h rfl)) ?_
  refine h_skip ?_
  refine q_then ?_
  refine h_seq ?_
  refine h_seq ?_
  refine h_reg ?_
  refine h_op (r_assign rfl) ?_
  refine h_nil ?_
  refine q_then ?_
  refine h_block ?_
  refine h_loop (fun (k : Nat) => k ≤ l.length) (fun (k : Nat) => [(5, .int .i64 (k : Int)), (0, .slice B l.length c), (1, .slice B' l.length c')]) (fun (k : Nat) => [.rd B (bc l), .rd B' (bc l)]) (fun (k : Nat) => l.length - k) 0 (Nat.zero_le _) ⟨rfl, rfl, rfl, trivial⟩ (same) ?_
  intro k hk
  refine h_seq ?_
  refine h_seq ?_
  refine h_reg ?_
  refine h_op (r_move rfl) ?_
  refine h_op (r_move rfl) ?_
  refine h_op (r_len rfl) ?_
  refine h_op (r_lss rfl rfl) ?_
  refine h_nil ?_
  refine q_then ?_
  refine h_cond rfl (fun h => ?_) (fun h => ?_)
  · refine h_pure (φ := (∃ b o, B = some ⟨b, o, none⟩) ∧ ∃ b o, B' = some ⟨b, o, none⟩) (fun w s => ⟨Rd.some (s.ok (.rd B (bc l)) (by simp)) (by rw [bc_length]; omega), Rd.some (s.ok (.rd B' (bc l)) (by simp)) (by rw [bc_length]; omega)⟩) ?_
    rintro ⟨⟨b, o, rfl⟩, b', o', rfl⟩
    refine h_skip ?_
    refine q_then ?_
    refine h_seq ?_
    refine h_block ?_
    refine h_seq ?_
    refine ha_start [.rd (some ⟨b, o, none⟩) (bc l), .rd (some ⟨b', o', none⟩) (bc l)] [] mixed (same) ?_
    refine ha_takeP 0 rfl (r_move rfl) ?_
    refine ha_takeP 1 rfl (r_move rfl) ?_
    refine ha_takeP 2 rfl (r_idx rfl rfl) ?_
    refine ha_take 3 rfl (r_nth rfl (bc_at' (by omega))) ?_
    refine ha_takeP 4 rfl (r_move rfl) ?_
    refine ha_takeP 5 rfl (r_move rfl) ?_
    refine ha_takeP 6 rfl (r_idx rfl rfl) ?_
    refine ha_take 7 rfl (r_nth rfl (bc_at' (by omega))) ?_
    refine ha_takeP 8 rfl (r_neq rfl rfl) ?_
    refine ha_done (by kernel_rfl) ?_
    refine q_then ?_
    refine h_no rfl ((fun h => h rfl)) ?_
    refine h_skip ?_
    refine q_block ?_
    refine q_then ?_
    refine h_reg ?_
    refine h_op (r_move rfl) ?_
    refine h_op (r_add rfl rfl) ?_
    refine h_op (r_assign rfl) ?_
    refine h_nil ?_
    exact h_back (k + 1) (by omega) (by omega) ⟨rfl, rfl, rfl, trivial⟩ (same)
  · refine h_exit ?_
    refine q_thenE ?_
    refine q_thenE ?_
    refine q_blockE ?_
    refine q_then ?_
    refine h_seq ?_
    refine h_reg ?_
    refine h_op (r_assign rfl) ?_
    refine h_nil ?_
    refine q_then ?_
    refine h_ret ?_
    exact h_ret1 rfl rfl fun w s => ⟨(), rfl, s.res (List.nil_sublist _) (by simp)⟩
end Go.Proofs.YtgfkbeipckbkiaaDoor
/- U14 -/
namespace Go.Proofs.YtgfkbeipckbkiaaDoor
set_option linter.unusedSimpArgs false
set_option linter.unusedVariables false
open Go.RowKit
def okJ (p : Proof) : Nat → Bool
  | 0 => decide (p.kind = 0) || decide (p.kind = 1)
  | 1 => decide (0 ≤ p.depth) && decide (p.depth ≤ 256)
  | 2 => decide (p.kind = 1) || decide (p.leaf = zLeaf)
  | 3 => decide (lastI p.bitmap 256 = p.depth - 1)
  | 4 => decide (((depths p.bitmap).length : Int) = (p.sibs.n : Int))
  | _ => true
/-- the error of a proof's form -/
def checkP (p : Proof) : Int := if okJ p 0 = false then 7 else if okJ p 1 = false then 5 else if okJ p 2 = false then 5 else if okJ p 3 = false then 5 else if okJ p 4 = false then 5 else 0
theorem checkP_bad {p : Proof} {k : Nat} (hk : k < 5) (h : ∀ j, j < k → okJ p j = true) (hb : okJ p k = false) : checkP p = if k = 0 then 7 else 5 := by
  unfold checkP
  rcases (show k = 0 ∨ k = 1 ∨ k = 2 ∨ k = 3 ∨ k = 4 by omega) with rfl | rfl | rfl | rfl | rfl
  · rw [if_pos hb]; rfl
  · rw [h 0 (by omega), if_neg (by simp), if_pos hb]; rfl
  · rw [h 0 (by omega), if_neg (by simp), h 1 (by omega), if_neg (by simp), if_pos hb]; rfl
  · rw [h 0 (by omega), if_neg (by simp), h 1 (by omega), if_neg (by simp), h 2 (by omega), if_neg (by simp), if_pos hb]; rfl
  · rw [h 0 (by omega), if_neg (by simp), h 1 (by omega), if_neg (by simp), h 2 (by omega), if_neg (by simp), h 3 (by omega), if_neg (by simp), if_pos hb]; rfl
theorem checkP_good {p : Proof} (h : ∀ j, j < 5 → okJ p j = true) : checkP p = 0 := by
  unfold checkP
  rw [h 0 (by omega), if_neg (by simp), h 1 (by omega), if_neg (by simp), h 2 (by omega), if_neg (by simp), h 3 (by omega), if_neg (by simp), h 4 (by omega), if_neg (by simp)]
theorem checkP_zero {p : Proof} (h : checkP p = 0) : ∀ j, j < 5 → okJ p j = true := by
  intro j hj
  induction j using Nat.strongRecOn with
  | ind j ih =>
    cases hb : okJ p j with
    | true => rfl
    | false =>
      rw [checkP_bad hj (fun i hi => ih i hi (by omega)) hb] at h
      split at h <;> cases h
end Go.Proofs.YtgfkbeipckbkiaaDoor
/- U15 -/
namespace Go.Proofs.YtgfkbeipckbkiaaDoor
set_option linter.unusedSimpArgs false
set_option linter.unusedVariables false
open Go.RowKit
/-- the cells of some digests -/
def dgs (l : List B32) : List Value := l.flatMap B32.cells
theorem dgs_nil : dgs [] = [] := rfl
theorem dgs_cons (x : B32) (l : List B32) : dgs (x :: l) = x.cells ++ dgs l := rfl
theorem dgs_append (l m : List B32) : dgs (l ++ m) = dgs l ++ dgs m := by simp [dgs]
theorem dgs_one' (x : B32) : dgs [x] = x.cells := by simp [dgs]
theorem dgs_len (l : List B32) : (dgs l).length = l.length * 32 := by
  induction l with
  | nil => rfl
  | cons x l ih => rw [dgs_cons, List.length_append, B32.cells_length, ih, List.length_cons]; omega
theorem dgs_one (l : List B32) : ∀ v ∈ dgs l, v.oneCell' = true := by
  intro v hv
  obtain ⟨x, _, hx⟩ := List.mem_flatMap.1 hv
  exact B32.cells_one x v hx
theorem dgs_at {l : List B32} {k : Nat} (hk : k < l.length) : ∀ j v, (l.getD k zB32).cells[j]? = some v → (dgs l)[k * 32 + j]? = some v := by
  induction l generalizing k with
  | nil => cases hk
  | cons x l ih =>
    intro j v hv
    rw [dgs_cons]
    cases k with
    | zero =>
      rw [Nat.zero_mul, Nat.zero_add, List.getElem?_append_left (by have := (List.getElem?_eq_some_iff.1 hv).1; simpa using this)]
      exact hv
    | succ k =>
      rw [List.getElem?_append_right (by rw [B32.cells_length]; omega), B32.cells_length, show (k + 1) * 32 + j - 32 = k * 32 + j by omega]
      exact ih (by simpa using hk) j v hv
theorem dgs_set (l : List B32) (k : Nat) (x : B32) (hk : k < l.length) : (dgs l).take (k * 32) ++ x.cells ++ (dgs l).drop (k * 32 + 32) = dgs (l.set k x) := by
  have h1 : l = l.take k ++ l[k] :: l.drop (k + 1) := by rw [← List.drop_eq_getElem_cons hk, List.take_append_drop]
  have hl : (dgs (l.take k)).length = k * 32 := by rw [dgs_len, List.length_take]; congr 1; omega
  have h2 : dgs l = dgs (l.take k) ++ (l[k].cells ++ dgs (l.drop (k + 1))) := by conv => lhs; rw [h1, dgs_append, dgs_cons]
  rw [List.set_eq_take_append_cons_drop, if_pos hk, dgs_append, dgs_cons, h2]
  rw [List.take_append_of_le_length (by omega), List.take_of_length_le (by omega), ← hl, List.drop_append, List.drop_of_length_le (by omega), List.nil_append, show (dgs (l.take k)).length + 32 - (dgs (l.take k)).length = 32 by omega, List.drop_append, List.drop_of_length_le (by rw [B32.cells_length]; exact Nat.le_refl _), B32.cells_length, Nat.sub_self, List.drop_zero, List.nil_append, List.append_assoc]
theorem dgs_zero (n : Nat) : dgs (List.replicate n zB32) = List.replicate (n * 32) (.int .u8 0) := by
  have hz : zB32.cells = List.replicate 32 (.int .u8 0) := by simp [B32.cells, zB32, bc]
  induction n with
  | zero => rfl
  | succ n ih => rw [List.replicate_succ, dgs_cons, ih, hz, List.replicate_append_replicate]; congr 1; omega
theorem made_dgs (n : Nat) : (madeCells (Value.agg zB32.cells.toArray).cells (n * 32)).toList = dgs (List.replicate n zB32) := by
  rw [dgs_zero]
  have hz : zB32.cells = List.replicate 32 (.int .u8 0) := by simp [B32.cells, zB32, bc]
  apply List.ext_getElem?
  intro j
  rw [List.getElem?_replicate]
  by_cases h : j < n * 32
  · have hm : j % 32 < 32 := Nat.mod_lt _ (by decide)
    simp [-List.reduceReplicate, madeCells, h, Value.cells, hz, List.getElem?_replicate, hm]
  · simp [madeCells, h, Value.cells]
section
variable {P : Program}
theorem run_copy_rowS (w : World) (dT sT ty elem : TypeId) (g o dLen dCap size : Nat) (a : Addr) (sLen sCap : Nat) (cur : Array Value) (t : TypeId) (cs : List Value)
    (hu : P.underlying dT = some (.slice elem)) (hs : (P.info? elem).map (·.size) = some size)
    (hg : w.heap[g]? = some (.cells cur t (0, 0))) (hn : cs.length = Nat.min sLen dLen * size)
    (hsrc : ∀ j v, cs[j]? = some v → w.cell? (a.add j) = some v) (hfit : o + cs.length ≤ cur.size) (h1 : ∀ v ∈ cs, v.oneCell' = true) :
    (Builtin.copy_ #[dT, sT] ty #[.slice (some ⟨g, o, none⟩) dLen dCap, .slice (some a) sLen sCap]).run P w =
      .ok (goInt (Nat.min sLen dLen)) (w.setRow g (cur.toList.take o ++ cs ++ cur.toList.drop (o + cs.length)).toArray) := by
  have hl := run_loadCells_list (P := P) w a cs hsrc
  have hst := run_storeCells_at P g o t cs 0 cur w hg (by simpa using hfit) h1
  cases hq : P.info? elem with
  | none => simp [hq] at hs
  | some i =>
    have hi : i.size = size := by simpa [hq] using hs
    rw [hn] at hl
    simp [Builtin.copy_, run_underlying hu, Builtin.lenOf, Builtin.firstCells, sizeOf, typeInfo, hq, hi, hl, hst]
variable {A : List Fa} {W : World} {n : Nat} {D : List Deferred} {E : Env} {L M : List Fa} {x y : Operand}
/-- a copy into a row of one's own, somewhere -/
theorem x_copyAt {dT sT e g o dLen dCap N c size bytes m c' q b O : Nat} {z : Value} [E' : TS P dT e size bytes z] {xs cs xs' : List Value} (hd : ev E x = some (.slice (some ⟨g, o, none⟩) dLen dCap)) (hs : ev E y = some (.slice (some ⟨b, O, none⟩) m c')) [ht : TakeG g L N c e size xs M] (hR : ∀ w, Fx w L → Rd w (some ⟨b, O, none⟩) cs) (hq : Nat.min m dLen = q) (hl : cs.length = q * size) (hfit : o + cs.length ≤ xs.length) (h1 : ∀ u ∈ cs, u.oneCell' = true) (hx : xs.take o ++ cs ++ xs.drop (o + cs.length) = xs') :
    RunsX P A W n D E L (.call { callee := .builtin .copy, args := #[x, y], argTypes := #[dT, sT] }) (fun _ : Unit => .int .i64 (q : Int)) (fun _ => .own (.slice (some ⟨g, 0, none⟩) N c) N e size xs' :: M) := fun a w ka s o' hop => by
  have h2 := s.perm ht.perm
  have ho : w.ownsRow 0 e size (.slice (some ⟨g, 0, none⟩) N c) N xs := h2.ok (.own _ _ _ _ _) (List.mem_cons_self ..)
  obtain ⟨cur, hb, h3, h4, h5, h6⟩ := own_parts ho
  have hxl := ho.1
  have hcl : xs.length ≤ cur.length := by rw [← h6, List.length_take]; omega
  have hrun := run_copy_rowS (P := P) w dT sT o'.type e g o dLen dCap size ⟨b, O, none⟩ m c' cur.toArray e cs E'.el.ht (ts_size (E' := E')) hb (by rw [hq]; exact hl) (fun j v hv => by
    obtain ⟨b', O', e', hc⟩ := hR w s.toFx j v hv
    injection e' with e'
    injection e' with e1 e2
    subst e1 e2
    rw [Addr.add_mid]
    exact hc) (by simp; omega) h1
  have hbl : Below 0 w (w.setRow g (cur.toArray.toList.take o ++ cs ++ cur.toArray.toList.drop (o + cs.length)).toArray) := below_setRow (Below.refl 0 w) (Nat.zero_le _) _
  refine ⟨(), _, ?_, h2.turn rfl (fun k hk => .inl hk) (own_new (setRow_heap w g _ _ e _ hb) ?_ h3 h4 ?_ ?_) hbl.os hbl.tape hbl.output hbl.size fun k _ hne => setRow_other w g k _ fun e => hne (show some g = some k by rw [e])⟩
  · unfold execOp
    simp only [hop, resolve, invoke, builtin, ka.ev hd, ka.ev hs, List.map_toArray, List.map_cons, List.map_nil, Sem.run_bind, Sem.run_pure, Result.andThen_ok, hrun, hq]
    rfl
  · rw [← hx, ← hxl]
    simp only [List.length_append, List.length_take, List.length_drop]
    omega
  · simp only [List.length_append, List.length_take, List.length_drop]
    rw [← h5]
    omega
  · have hc : cur = xs ++ cur.drop (N * size) := by rw [← h6, List.take_append_drop]
    rw [hc] at hcl ⊢
    generalize cur.drop (N * size) = rest at *
    simp only
    rw [List.take_append_of_le_length (show o ≤ xs.length by omega), List.drop_append_of_le_length hfit, ← List.append_assoc, ← hx]
    rw [List.take_append_of_le_length, List.take_of_length_le]
    · simp only [List.length_append, List.length_take, List.length_drop]; omega
    · simp only [List.length_append, List.length_take, List.length_drop]; omega
end
end Go.Proofs.YtgfkbeipckbkiaaDoor
/- TC -/
namespace Go.Proofs.YtgfkbeipckbkiaaDoor
set_option linter.unusedSimpArgs false
set_option linter.unusedVariables false
open Go.RowKit Go.ChangeShapes Go.WideShapes
section
variable {H : Type} {enc : TypeId × Value → H} {w : World} {base : Nat} {spare : Nat → Bool} {held : Bool} {v : Value} {d : DataW H} {ps : List MemPlace} {r : Reach} {b0 : Nat}
theorem c_int : Tryd.prog.cellsOf 3 = 1 := by kernel_rfl
theorem c_Digest : Tryd.prog.cellsOf 41 = 32 := by kernel_rfl
theorem c_Key : Tryd.prog.cellsOf 40 = 32 := by kernel_rfl
theorem c_Leaf : Tryd.prog.cellsOf 43 = 64 := by kernel_rfl
theorem c_u8 : Tryd.prog.cellsOf 5 = 1 := by kernel_rfl
theorem c_u8x32 : Tryd.prog.cellsOf 39 = 32 := by kernel_rfl
theorem c_u32 : Tryd.prog.cellsOf 142 = 1 := by kernel_rfl
theorem c_u32x64 : Tryd.prog.cellsOf 170 = 64 := by kernel_rfl
end
theorem Rx.sub0 {W w : World} {N : List Fa} (h : Rx [] W w N) : Rx [] W w [] := ⟨h.toSx.sub (List.nil_sublist _), fun _ h => (List.not_mem_nil h).elim⟩
theorem laidOut' : laidOutB Tryd.prog = true := by kernel_rfl
theorem own' : ownKnob Tryd.prog.godebug = none := by kernel_rfl
/-! the table -/
abbrev laidR : List (String × DataW Unit) := [("sparsetree/sha.rounds", Rows.laid_sparsetree_sha_rounds)]
theorem gRounds : Tryd.prog.globalNamed "sparsetree/sha.rounds" = some 1 := by kernel_rfl
theorem tRounds : (Tryd.prog.globals[1]?).map (·.type) = some 170 := by kernel_rfl
theorem door_met (os : Os) (args : Array Value) : laidMetH Tryd.prog laidR ((World.doorLaid Tryd.prog 14 os).forCall (fun _ _ => 0) ⟨#[], args, []⟩).memory :=
  laidMetH_of_parts3 (fuel := 8) (laidMet_of_run' 8 (by kernel_rfl) (by kernel_rfl)) (by kernel_rfl) (by kernel_rfl)
theorem table_of {W : World} (h : laidMetH Tryd.prog laidR W) : Rd W (some ⟨1, 0, none⟩) hashT := by
  rw [MakeChecks.laidMetH_plain _ _ _ (by kernel_rfl)] at h
  obtain ⟨ps, ⟨g0, t0, cs0, f0, p0, q0, hg0, ht0, hv0, hd0, _, _⟩, _, _⟩ := h
  obtain rfl := Option.some.inj (gRounds.symm.trans hg0)
  obtain rfl := Option.some.inj (tRounds.symm.trans ht0)
  have e : Rows.laid_sparsetree_sha_rounds (H := Unit) = .agg ((K64.map BitVec.toNat).map fun k : Nat => DataW.lit (.int .u32 (k : Int))) := by kernel_rfl
  rw [e] at hd0
  have h1 := words_of Tryd.underlying170 Tryd.underlying142 c_u32 c_u32x64 hd0
  intro j u hu
  refine ⟨1, 0, rfl, ?_⟩
  rw [Nat.zero_add, World.var?_cell hg0 hv0, ← Array.getElem?_toList, h1, ← hu]
  simp [wc]
  rfl
end Go.Proofs.YtgfkbeipckbkiaaDoor
/- N12 -/
namespace Go.Proofs.YtgfkbeipckbkiaaDoor
set_option linter.unusedSimpArgs false
set_option linter.unusedVariables false
open Go.RowKit
class TBool (P : Program) (T : TypeId) : Prop where
  und : P.underlying T = some .bool
section
variable {P : Program} {n : Nat} {D : List Deferred} {E : Env} {L : List Fa} {T T' : TypeId} {x y : Operand}
theorem run_equalIn_bool (w : World) (d : Nat) (a b : Bool) (h : P.underlying T = some .bool) : (Op.equalIn (d + 1) T (.bool a) (.bool b)).run P w = .ok (a == b) w := by
  simp [Op.equalIn, run_underlying h]
theorem run_eq_bool (w : World) (a b : Bool) (h : P.underlying T = some .bool) : (binOp .eql T (.bool a) (.bool b)).run P w = .ok (.bool (a == b)) w := by
  simp only [binOp]
  simp [Op.equal, Op.maxDepth, run_equalIn_bool w 9999 a b h]
theorem run_ne_bool (w : World) (a b : Bool) (h : P.underlying T = some .bool) : (binOp .neq T (.bool a) (.bool b)).run P w = .ok (.bool (!(a == b))) w := by
  simp only [binOp]
  simp [Op.equal, Op.maxDepth, run_equalIn_bool w 9999 a b h]
theorem r_eqb [hT : TBool P T] {a b : Bool} (hx : ev E x = some (.bool a)) (hy : ev E y = some (.bool b)) : Runs0 P n D E L (.binOp .eql T x y T') (.bool (a == b)) := fun c w ka s o ho => run_bin ho (ka.ev hx) (ka.ev hy) rfl (run_eq_bool w a b hT.und)
theorem r_neb [hT : TBool P T] {a b : Bool} (hx : ev E x = some (.bool a)) (hy : ev E y = some (.bool b)) : Runs0 P n D E L (.binOp .neq T x y T') (.bool (!(a == b))) := fun c w ka s o ho => run_bin ho (ka.ev hx) (ka.ev hy) rfl (run_ne_bool w a b hT.und)
end
/-- a zone that began as all that there was: nothing below has turned -/
theorem zone_below {W w : World} {h1 : Zh} {N : List Fa} (hr : Rx [.zone true (World.zh W)] W w (.zone true h1 :: N)) (hl : LeZ (World.zh W) h1) : Below W.heap.size W w := by
  refine ⟨hr.os, hr.tape, hr.output, hr.size, fun k hk => ?_⟩
  obtain ⟨o, ho⟩ : ∃ o, W.heap[k]? = some o := ⟨_, Array.getElem?_eq_getElem hk⟩
  rw [ho]
  exact hr.ok (.zone true h1) (List.mem_cons_self ..) k o (hl.le k o ho)
theorem Fx.all (W : World) : Fx W [.zone true (World.zh W)] := ⟨fun f hf => by rw [List.mem_singleton.1 hf]; exact fun k o ho => ho, List.pairwise_singleton _ _⟩
end Go.Proofs.YtgfkbeipckbkiaaDoor
/- N13 -/
namespace Go.Proofs.YtgfkbeipckbkiaaDoor
set_option linter.unusedSimpArgs false
set_option linter.unusedVariables false
open Go.RowKit
section
variable {P : Program} {n : Nat} {D : List Deferred} {E : Env} {L : List Fa} {T T' : TypeId} {x y : Operand}
theorem r_shl8 {i : Int} (hx : ev E x = some (.int .i64 i)) (hy : ev E y = some (.int .u64 8)) (h : 0 ≤ i ∧ i < 256 := by omega) : Runs0 P n D E L (.binOp .shl T x y T') (.int .i64 (i * 256)) := fun a w ka s o ho => xShl8 ho (ka.ev hx) (ka.ev hy) h
theorem r_or8 {i j : Int} (hx : ev E x = some (.int .i64 (i * 256))) (hy : ev E y = some (.int .i64 j)) (h : 0 ≤ i ∧ i < 256 := by omega) (h' : 0 ≤ j ∧ j < 256 := by omega) : Runs0 P n D E L (.binOp .or T x y T') (.int .i64 (i * 256 + j)) := fun a w ka s o ho => xOr8 ho (ka.ev hx) (ka.ev hy) h h'
theorem r_shr8 {i : Nat} (hx : ev E x = some (.int .i64 (i : Int))) (hy : ev E y = some (.int .u64 8)) : Runs0 P n D E L (.binOp .shr T x y T') (.int .i64 ((i / 256 : Nat) : Int)) := fun a w ka s o ho => by
  have hx := ka.ev hx
  have hy := ka.ev hy
  unfold execOp
  simp only [ho, hx, hy]
  have e : (binOp .shr T (.int .i64 (i : Int)) (.int .u64 8)).run P w = .ok (.int .i64 ((i / 256 : Nat) : Int)) w := by
    rw [show ((i / 256 : Nat) : Int) = (i : Int).fdiv (2 ^ 8) by rw [Int.fdiv_eq_ediv_of_nonneg _ (by decide)]; simp]
    rfl
  rw [Sem.run_bind, Sem.run_bind]
  have g : (eqGuard .shr T x y (.int .i64 (i : Int)) (.int .u64 8)).run P w = .ok () w := rfl
  rw [g, Result.andThen_ok, e]
  rfl
theorem r_arr {len e size : Nat} [hT : TArr P T len e size] {A : Option Addr} {m c : Nat} (hx : ev E x = some (.slice A m c)) (hm : len ≤ m := by omega) : Runs0 P n D E L (.sliceToArrayPointer T x) (.pointer A) := fun a w ka s o ho => ex_arrayAt ho hT.und (ka.ev hx) hm
end
end Go.Proofs.YtgfkbeipckbkiaaDoor
/- N14 -/
namespace Go.Proofs.YtgfkbeipckbkiaaDoor
set_option linter.unusedSimpArgs false
set_option linter.unusedVariables false
open Go.RowKit
class TIf (P : Program) (T : TypeId) : Prop where
  und : P.underlying T = some (.interface (P.methodsAt T))
section
variable {P : Program} {n : Nat} {D : List Deferred} {E : Env} {L : List Fa} {T T' : TypeId} {t : Nat}
theorem r_ifnil {u : TypeId} {v : Value} [hT : TIf P T] (hx : ev E (.tmp t) = some (.iface u v)) : Runs0 P n D E L (.binOp .eql T (.tmp t) (.const .nilIface) T') (.bool false) := fun a w ka s o ho =>
  run_bin ho (ka.ev hx) (v := .nilIface) rfl rfl (run_eql_held_nil w T u v hT.und)
theorem r_nilnil [hT : TIf P T] (hx : ev E (.tmp t) = some .nilIface) : Runs0 P n D E L (.binOp .eql T (.tmp t) (.const .nilIface) T') (.bool true) := fun a w ka s o ho =>
  run_bin ho (ka.ev hx) (v := .nilIface) rfl rfl (run_eql_nil_nil w T hT.und)
end
section
variable {A : List Fa} {W : World} {n : Nat} {D : List Deferred} {ro : Option Nat} {P : Program} {ops : List Oper} {Q : Exit → Act → World → Prop} {Lb Lr L : List Fa} {fuel : Nat} {listed : Array Bool} {E : Env}
variable {op : Op} {d : Nat} {ty : TypeId} {pos : String} {af : Array Edge} {g : Option (Nat × Bool)}
/-- a method of an interface value, called in a region that draws its order -/
theorem ho_CM (i : Nat) {x : Operand} {l : List Operand} {ts : Array TypeId} {f : FuncId} {T : TypeId} {u : Value} {name : String} {argv args : List Value} [MethT P T name f] {τ : Type} {v : τ → Value} {L' : τ → List Fa} (hi : ops[i]? = some ⟨some d, .call ⟨.invoke x name, l.toArray, ts⟩, ty, pos, af, g⟩) (hc : Comes P A W L f args.toArray v L') (hx : ev E x = some (.iface T u)) (ha : evs E l = some argv) (he : u :: argv = args) [hl : ∀ x, Rds (L' x) Lr]
    (hb : ∀ x w, Sx A W w (L' x) → Sx A W w Lb) (k : ∀ x, HA A W n D ro P ops Q Lb Lr fuel (listed.setIfInBounds i true) ((d, v x) :: E) (L' x)) (hd : Nat.blt d n = true := by exact rfl) (hg : wn ops.toArray E g = some true := by exact rfl) : HO A W n D ro P ops Q Lb Lr fuel listed E L i := fun a w ka s sr => by
  refine ho_mk hi (wn_run ka hg) (wpIn_ent (x_callM ka rfl hx ha) (he ▸ hc w s) ?_)
  rintro e w' ⟨y, rfl, hy⟩
  have h3 : Fx w' Lr := Fx.rds hy.toFx (hr := hl y)
  exact ⟨_, rfl, fun _ _ => ⟨hb y _ hy, h3⟩, k y _ _ (ka.put hd _) hy ⟨hb y _ hy, h3⟩⟩
end
end Go.Proofs.YtgfkbeipckbkiaaDoor
/- E14 -/
namespace Go.Proofs.YtgfkbeipckbkiaaDoor
set_option linter.unusedSimpArgs false
set_option linter.unusedVariables false
open Go.RowKit
inductive Sub where
  | one (x : Item)
  | two (l r : Sub)
/-- the subtree that items begin with, with at most d levels of inner nodes -/
def readM : Nat → List Item → Option (Sub × List Item)
  | _, [] => none
  | 0, x :: rest => if x.kind = 2 then none else some (.one x, rest)
  | d + 1, x :: rest => if x.kind = 2 then (readM d rest).bind fun p => (readM d p.2).bind fun q => some (.two p.1 q.1, q.2) else some (.one x, rest)

/-- the kind is one of the four -/
def kindOk (x : Item) : Bool := decide (0 ≤ x.kind) && decide (x.kind ≤ 3)
/-- fields that have no meaning are zero -/
def cleanItem (x : Item) : Bool := (x.kind == 3 || decide (x.digest = zB32)) && (x.kind == 1 || decide (x.leaf = zLeaf))
def parseM (l : List Item) : Except Int Sub :=
  if l.all kindOk then
    match readM 256 l with
    | some (t, []) => if l.all cleanItem then .ok t else .error 5
    | _ => .error 5
  else .error 7

theorem all_take {α : Type} (p : α → Bool) (l : List α) (k : Nat) (x : α) (h : l[k]? = some x) : (l.take (k + 1)).all p = ((l.take k).all p && p x) := by
  rw [List.take_add_one, h, List.all_append]
  simp
theorem readM_suffix : ∀ (d : Nat) (l : List Item) (t : Sub) (rest : List Item), readM d l = some (t, rest) → ∃ n, 0 < n ∧ n ≤ l.length ∧ rest = l.drop n
  | _, [], t, rest, h => by cases ‹Nat› <;> simp [readM] at h
  | 0, x :: l, t, rest, h => by
    simp only [readM] at h
    split at h
    · cases h
    · simp only [Option.some.injEq, Prod.mk.injEq] at h
      exact ⟨1, by omega, by simp, by simp [h.2]⟩
  | d + 1, x :: l, t, rest, h => by
    simp only [readM] at h
    split at h
    · obtain ⟨p, hp, h⟩ := Option.bind_eq_some_iff.1 h
      obtain ⟨q, hq, h⟩ := Option.bind_eq_some_iff.1 h
      obtain ⟨n, hn0, hn, e1⟩ := readM_suffix d l p.1 p.2 hp
      obtain ⟨m, hm0, hm, e2⟩ := readM_suffix d p.2 q.1 q.2 hq
      simp only [Option.some.injEq, Prod.mk.injEq] at h
      rw [e1, List.length_drop] at hm
      refine ⟨n + m + 1, by omega, by simp; omega, ?_⟩
      rw [← h.2, e2, e1, List.drop_drop]
      rfl
    · simp only [Option.some.injEq, Prod.mk.injEq] at h
      exact ⟨1, by omega, by simp, by simp [h.2]⟩
/-- the index behind what was read -/
def skipI (l : List Item) (r : Option (Sub × List Item)) : Int := match r with | none => -1 | some p => (l.length : Int) - p.2.length

def checkM (l : List Item) : Int := match parseM l with | .ok _ => 0 | .error c => c
/-- what the reference's Check computes -/
theorem checkM_eq (l : List Item) : checkM l = if l.all kindOk then (if l.all cleanItem then (if l.length = 0 ∨ skipI l (readM 256 l) ≠ l.length then 5 else 0) else 5) else 7 := by
  unfold checkM parseM
  by_cases h1 : l.all kindOk = true
  · rw [if_pos h1, if_pos h1]
    by_cases h2 : l.all cleanItem = true
    · rw [if_pos h2]
      cases h3 : readM 256 l with
      | none =>
        have : (skipI l none) ≠ (l.length : Int) := by simp only [skipI]; omega
        simp [this]
      | some p =>
        obtain ⟨t, rest⟩ := p
        obtain ⟨n, hn0, hn, e1⟩ := readM_suffix 256 l t rest h3
        cases rest with
        | nil =>
          have h0 : l.length ≠ 0 := by omega
          have hs : skipI l (some (t, [])) = l.length := by simp [skipI]
          simp [h2, h0, hs]
        | cons y rest =>
          have hs : skipI l (some (t, y :: rest)) ≠ l.length := by simp only [skipI, List.length_cons]; omega
          simp [hs]
    · have h2' : l.all cleanItem = false := by simpa using h2
      rw [if_neg h2]
      cases h3 : readM 256 l with
      | none => rfl
      | some p =>
        obtain ⟨t, rest⟩ := p
        cases rest <;> simp [h2']
  · rw [if_neg h1, if_neg h1]
end Go.Proofs.YtgfkbeipckbkiaaDoor
/- E10 -/
namespace Go.Proofs.YtgfkbeipckbkiaaDoor
set_option linter.unusedSimpArgs false
set_option linter.unusedVariables false
open Go.RowKit
def expL (e : B32) (b : B32) (ss : List B32) : Nat → List B32
  | 0 => []
  | k + 1 => expL e b ss k ++ [if bitAt b k then ss.getD (dep b k).length zB32 else e]
theorem expL_len (e : B32) (b : B32) (ss : List B32) : ∀ n, (expL e b ss n).length = n
  | 0 => rfl
  | n + 1 => by rw [expL, List.length_append, expL_len e b ss n]; rfl
theorem expL_eq (e : B32) (b : B32) (ss : List B32) : ∀ n, expL e b ss n = (List.range n).map fun i => if bitAt b i then ss.getD (dep b i).length zB32 else e
  | 0 => rfl
  | n + 1 => by rw [expL, expL_eq e b ss n, List.range_succ, List.map_append]; rfl
def expJ (e : B32) (b : B32) (ss : List B32) (n j : Nat) : List B32 := (List.range n).map fun i => if bitAt b i = true ∧ (dep b i).length < j then ss.getD (dep b i).length zB32 else e
theorem expJ_len (e : B32) (b : B32) (ss : List B32) (n j : Nat) : (expJ e b ss n j).length = n := by simp [expJ]
theorem expJ_0 (e : B32) (b : B32) (ss : List B32) (n : Nat) : expJ e b ss n 0 = List.replicate n e := by
  apply List.ext_getElem?
  intro i
  unfold expJ
  rw [List.getElem?_map, List.getElem?_replicate]
  by_cases h : i < n
  · rw [List.getElem?_range h, if_pos h]; simp
  · rw [List.getElem?_eq_none (by simpa using h), if_neg h]; rfl
theorem dep_split (b : B32) {i : Nat} (h : i < 256) : depths b = dep b i ++ ((if bitAt b i then [i] else []) ++ ((List.range (255 - i)).map (i + 1 + ·)).filter (bitAt b)) := by
  unfold depths dep
  have e : (256 : Nat) = (i + 1) + (255 - i) := by omega
  rw [e, List.range_add, List.filter_append, List.range_succ, List.filter_append, List.append_assoc]
  congr 2
  rw [List.filter_cons]
  split <;> rfl
theorem dep_nth {b : B32} {i : Nat} (h : i < 256) (hb : bitAt b i = true) : (depths b)[(dep b i).length]? = some i := by
  rw [dep_split b h, if_pos hb, List.getElem?_append_right (Nat.le_refl _), Nat.sub_self]
  rfl
theorem dep_lt {b : B32} {i : Nat} (h : i < 256) (hb : bitAt b i = true) : (dep b i).length < (depths b).length := (List.getElem?_eq_some_iff.1 (dep_nth h hb)).1
theorem dep_pos {b : B32} {i j : Nat} (h : (depths b)[j]? = some i) : i < 256 ∧ bitAt b i = true ∧ (dep b i).length = j := by
  have hm := List.mem_of_getElem? h
  unfold depths at hm
  rw [List.mem_filter] at hm
  have hi : i < 256 := by simpa using hm.1
  refine ⟨hi, hm.2, ?_⟩
  have h2 := dep_nth hi hm.2
  have hnd : (depths b).Nodup := List.nodup_range.filter _
  obtain ⟨h3, h4⟩ := List.getElem?_eq_some_iff.1 h
  obtain ⟨h5, h6⟩ := List.getElem?_eq_some_iff.1 h2
  exact (List.getElem_inj hnd).1 (h6.trans h4.symm)
theorem expJ_all (e : B32) (b : B32) (ss : List B32) (n j : Nat) (hn : n ≤ 256) (hj : (depths b).length ≤ j) : expJ e b ss n j = expL e b ss n := by
  rw [expL_eq]
  unfold expJ
  apply List.map_congr_left
  intro i hi
  have hi : i < n := by simpa using hi
  by_cases hb : bitAt b i = true
  · rw [if_pos ⟨hb, by have := dep_lt (b := b) (i := i) (by omega) hb; omega⟩, if_pos hb]
  · rw [if_neg (fun h => hb h.1), if_neg hb]
theorem expJ_set (e : B32) (b : B32) (ss : List B32) (n j : Nat) {i0 : Nat} (h : (depths b)[j]? = some i0) (hn : n ≤ 256) (h0 : i0 < n) : (expJ e b ss n j).set i0 (ss.getD j zB32) = expJ e b ss n (j + 1) := by
  obtain ⟨h1, h2, h3⟩ := dep_pos h
  apply List.ext_getElem?
  intro i
  rw [List.getElem?_set, expJ_len]
  unfold expJ
  by_cases e2 : i0 = i
  · subst e2
    rw [if_pos rfl, if_pos h0, List.getElem?_map, List.getElem?_range h0, Option.map_some, if_pos ⟨h2, by omega⟩, h3]
  · rw [if_neg e2, List.getElem?_map, List.getElem?_map]
    by_cases hi : i < n
    · rw [List.getElem?_range hi, Option.map_some, Option.map_some]
      congr 1
      by_cases hb : bitAt b i = true
      · have hne : (dep b i).length ≠ j := fun hj => by
          have := dep_nth (b := b) (i := i) (by omega) hb
          rw [hj, h] at this
          injection this with this
          exact e2 this
        by_cases hl : (dep b i).length < j
        · rw [if_pos ⟨hb, hl⟩, if_pos ⟨hb, by omega⟩]
        · rw [if_neg (fun h => hl h.2), if_neg (fun h => by have := h.2; omega)]
      · rw [if_neg (fun h => hb h.1), if_neg (fun h => hb h.1)]
    · rw [List.getElem?_eq_none (by simpa using hi)]; rfl
theorem lastI_max (b : B32) : ∀ (n i : Nat), i < n → bitAt b i = true → (i : Int) ≤ lastI b n
  | 0, i, h, _ => by omega
  | n + 1, i, h, hb => by
    rw [lastI_succ]
    by_cases hn : bitAt b n = true
    · rw [if_pos hn]; omega
    · rw [if_neg hn]
      have : i ≠ n := fun e => hn (e ▸ hb)
      exact lastI_max b n i (by omega) hb
theorem lastI_depths (b : B32) : lastI b 256 = match (depths b).getLast? with | some i => (i : Int) | none => -1 := rfl
end Go.Proofs.YtgfkbeipckbkiaaDoor
/- E11 -/
namespace Go.Proofs.YtgfkbeipckbkiaaDoor
set_option linter.unusedSimpArgs false
set_option linter.unusedVariables false
open Go.RowKit
/-- an entry: its key, where its value lies, its value -/
structure En where
  e : Entry
  val : List UInt8
abbrev En.key (x : En) : B32 := x.e.key
inductive Tr where
  | nil
  | leaf (k : B32) (v : List UInt8)
  | node (l r : Tr)
def Tr.cnt : Tr → Nat
  | .nil => 0
  | .leaf .. => 1
  | .node l r => l.cnt + r.cnt
def Tr.kind : Tr → Nat
  | .nil => 0
  | .leaf .. => 1
  | .node .. => 2
def Tr.lf : Tr → Option (B32 × List UInt8)
  | .leaf k v => some (k, v)
  | _ => none
def Tr.sub : Bool → Tr → Tr
  | false, .node l _ => l
  | true, .node _ r => r
  | _, _ => .nil
/-- the entries whose keys have a bit -/
def part (m : List En) (d : Nat) (b : Bool) : List En := m.filter fun e => bitAt e.key d == b
theorem part_len (m : List En) (d : Nat) : (part m d false).length + (part m d true).length = m.length := by
  unfold part
  induction m with
  | nil => rfl
  | cons e m ih =>
    cases hb : bitAt e.key d
    · rw [List.filter_cons_of_pos (by simp [hb]), List.filter_cons_of_neg (by simp [hb]), List.length_cons, List.length_cons]; omega
    · rw [List.filter_cons_of_neg (by simp [hb]), List.filter_cons_of_pos (by simp [hb]), List.length_cons, List.length_cons]; omega
theorem part_le (m : List En) (d : Nat) (b : Bool) : (part m d b).length ≤ m.length := List.length_filter_le _ _
theorem part_mem {m : List En} {d : Nat} {b : Bool} {e : En} : e ∈ part m d b ↔ e ∈ m ∧ bitAt e.key d = b := by simp [part]
/-- different keys that have their first d bits in common -/
structure Alike (m : List En) (d : Nat) : Prop where
  nodup : (m.map En.key).Nodup
  same : ∀ e ∈ m, ∀ f ∈ m, ∀ i, i < d → bitAt e.key i = bitAt f.key i
theorem Alike.part {m : List En} {d : Nat} (h : Alike m d) (b : Bool) : Alike (part m d b) (d + 1) := by
  refine ⟨(h.nodup.sublist ((List.filter_sublist).map _)), fun e he f hf i hi => ?_⟩
  obtain ⟨he, hb⟩ := part_mem.1 he
  obtain ⟨hf, hb'⟩ := part_mem.1 hf
  rcases Nat.lt_or_ge i d with h1 | h1
  · exact h.same e he f hf i h1
  · obtain rfl : i = d := by omega
    rw [hb, hb']
theorem Alike.start {m : List En} (h : (m.map En.key).Nodup) : Alike m 0 := ⟨h, fun _ _ _ _ _ hi => by omega⟩
/-- at depth 256 one is left at most -/
theorem Alike.last {m : List En} {d : Nat} (h : Alike m d) (hd : 256 ≤ d) : m.length ≤ 1 := by
  match m, h with
  | [], _ => simp
  | [_], _ => simp
  | e :: f :: m, h =>
    have := bits_ext (a := e.key) (b := f.key) fun i hi => h.same e (by simp) f (by simp) i (by omega)
    have h1 := h.nodup
    simp [this] at h1
theorem Alike.lt {m : List En} {d : Nat} (h : Alike m d) (hm : 1 < m.length) : d < 256 := by
  rcases Nat.lt_or_ge d 256 with h1 | h1
  · exact h1
  · have := h.last h1; omega
/-- the tree of a map -/
def mkF : Nat → List En → Nat → Tr
  | 0, _, _ => .nil
  | f + 1, m, d => match m with
    | [] => .nil
    | [e] => .leaf e.key e.val
    | _ => .node (mkF f (part m d false) (d + 1)) (mkF f (part m d true) (d + 1))
def mkT (m : List En) (d : Nat) : Tr := mkF (257 - d) m d
theorem mkT_nil (d : Nat) : mkT [] d = .nil := by
  unfold mkT
  cases 257 - d <;> rfl
theorem mkT_one (e : En) {d : Nat} (h : d ≤ 256) : mkT [e] d = .leaf e.key e.val := by
  unfold mkT
  rw [show 257 - d = 256 - d + 1 by omega]
  rfl
theorem mkT_two {m : List En} {d : Nat} (h : 1 < m.length) (hd : d ≤ 256) : mkT m d = .node (mkT (part m d false) (d + 1)) (mkT (part m d true) (d + 1)) := by
  unfold mkT
  rw [show 257 - d = 257 - (d + 1) + 1 by omega]
  match m, h with
  | [], h => simp at h
  | [_], h => simp at h
  | _ :: _ :: _, _ => rfl
theorem mkT_kind (m : List En) {d : Nat} (hd : d ≤ 256) : (mkT m d).kind = min m.length 2 := by
  match m with
  | [] => rw [mkT_nil]; rfl
  | [e] => rw [mkT_one e hd]; rfl
  | e :: f :: m => rw [mkT_two (by simp) hd]; simp [Tr.kind]
/-- an induction along the parts -/
theorem parts_ind {p : List En → Nat → Prop} (h0 : ∀ d, p [] d) (h1 : ∀ e d, d ≤ 256 → p [e] d) (h2 : ∀ m d, Alike m d → 1 < m.length → d < 256 → p (part m d false) (d + 1) → p (part m d true) (d + 1) → p m d) : ∀ (k : Nat) (m : List En) (d : Nat), 256 - d ≤ k → d ≤ 256 → Alike m d → p m d
  | k, m, d, hk, hd, ha => by
    match m, ha with
    | [], _ => exact h0 d
    | [e], _ => exact h1 e d hd
    | e :: f :: m, ha =>
      have hl : 1 < (e :: f :: m).length := by simp
      have hlt := ha.lt hl
      cases k with
      | zero => omega
      | succ k => exact h2 _ d ha hl hlt (parts_ind h0 h1 h2 k _ _ (by omega) (by omega) (ha.part false)) (parts_ind h0 h1 h2 k _ _ (by omega) (by omega) (ha.part true))
theorem mkT_cnt {m : List En} {d : Nat} (hd : d ≤ 256) (ha : Alike m d) : (mkT m d).cnt = m.length :=
  parts_ind (p := fun m d => (mkT m d).cnt = m.length) (fun d => by rw [mkT_nil]; rfl) (fun e d h => by rw [mkT_one e h]; rfl)
    (fun m d _ hm hd i1 i2 => by rw [mkT_two hm (by omega)]; show _ + _ = _; rw [i1, i2, part_len]) 256 m d (by omega) hd ha
/-! the way of a key -/
def loc (k : B32) : Tr → Nat → Tr × Nat
  | .node l r, d => if bitAt k d then loc k r (d + 1) else loc k l (d + 1)
  | t, d => (t, d)
/-- the subtrees beside the way -/
def sibs (k : B32) : Tr → Nat → List Tr
  | .node l r, d => if bitAt k d then l :: sibs k r (d + 1) else r :: sibs k l (d + 1)
  | _, _ => []
/-- the subtrees on the way -/
def wayT (k : B32) : Tr → Nat → List Tr
  | .node l r, d => .node l r :: (if bitAt k d then wayT k r (d + 1) else wayT k l (d + 1))
  | t, _ => [t]
def endF (k : B32) : Nat → List En → Nat → List En × Nat
  | 0, m, d => (m, d)
  | f + 1, m, d => if m.length ≤ 1 then (m, d) else endF k f (part m d (bitAt k d)) (d + 1)
/-- the map below the end of the way, and its depth -/
def endM (k : B32) (m : List En) (d : Nat) : List En × Nat := endF k (257 - d) m d
theorem endM_one {k : B32} {m : List En} {d : Nat} (h : m.length ≤ 1) : endM k m d = (m, d) := by
  unfold endM
  cases 257 - d with
  | zero => rfl
  | succ f => unfold endF; rw [if_pos h]
theorem endM_two {k : B32} {m : List En} {d : Nat} (h : 1 < m.length) (hd : d ≤ 256) : endM k m d = endM k (part m d (bitAt k d)) (d + 1) := by
  unfold endM
  rw [show 257 - d = 257 - (d + 1) + 1 by omega]
  conv => lhs; unfold endF
  rw [if_neg (by omega)]
/-- the map below what stands on the way at a depth -/
def atM (k : B32) (m : List En) : Nat → List En
  | 0 => m
  | d + 1 => part (atM k m d) d (bitAt k d)
def sibM (k : B32) (m : List En) (d : Nat) : List En := part (atM k m d) d (!bitAt k d)
theorem atM_alike {k : B32} {m : List En} (h : Alike m 0) : ∀ d, Alike (atM k m d) d
  | 0 => h
  | d + 1 => (atM_alike h d).part _
theorem atM_le (k : B32) (m : List En) : ∀ d, (atM k m d).length ≤ m.length
  | 0 => Nat.le_refl _
  | d + 1 => Nat.le_trans (part_le _ _ _) (atM_le k m d)
theorem endM_at {k : B32} {m : List En} (h : Alike m 0) : ∀ (j d : Nat), 256 - d ≤ j → d ≤ 256 → ∃ D, d ≤ D ∧ D ≤ 256 ∧ endM k (atM k m d) d = (atM k m D, D) ∧ (atM k m D).length ≤ 1 ∧ ∀ i, d ≤ i → i < D → 1 < (atM k m i).length
  | j, d, hj, hd => by
    by_cases h1 : (atM k m d).length ≤ 1
    · exact ⟨d, Nat.le_refl _, hd, endM_one h1, h1, fun i a b => by omega⟩
    · have hlt := (atM_alike (k := k) h d).lt (by omega)
      cases j with
      | zero => omega
      | succ j =>
        obtain ⟨D, a1, a2, a3, a4, a5⟩ := endM_at h j (d + 1) (by omega) (by omega)
        refine ⟨D, by omega, a2, by rw [endM_two (by omega) hd]; exact a3, a4, fun i b1 b2 => ?_⟩
        rcases Nat.eq_or_lt_of_le b1 with e | e
        · subst e; omega
        · exact a5 i e b2
theorem loc_mkT {k : B32} {m : List En} (h : Alike m 0) : ∀ (j d : Nat), 256 - d ≤ j → d ≤ 256 → loc k (mkT (atM k m d) d) d = (mkT (endM k (atM k m d) d).1 (endM k (atM k m d) d).2, (endM k (atM k m d) d).2)
  | j, d, hj, hd => by
    by_cases h1 : (atM k m d).length ≤ 1
    · rw [endM_one h1]
      match atM k m d, h1 with
      | [], _ => rw [mkT_nil]; rfl
      | [e], _ => rw [mkT_one e hd]; rfl
      | _ :: _ :: _, h1 => simp at h1
    · have hlt := (atM_alike (k := k) h d).lt (by omega)
      cases j with
      | zero => omega
      | succ j =>
        have ih := loc_mkT (k := k) h j (d + 1) (by omega) (by omega)
        rw [endM_two (by omega) hd, mkT_two (by omega) hd]
        unfold loc
        have e : atM k m (d + 1) = part (atM k m d) d (bitAt k d) := rfl
        rw [e] at ih
        cases hb : bitAt k d
        · rw [hb] at ih; simpa using ih
        · rw [hb] at ih; simpa using ih
theorem sibs_mkT {k : B32} {m : List En} (h : Alike m 0) {D : Nat} (hD : D ≤ 256) (h1 : (atM k m D).length ≤ 1) (h2 : ∀ i, i < D → 1 < (atM k m i).length) : ∀ (j d : Nat), D - d = j → d ≤ D → sibs k (mkT (atM k m d) d) d = (List.range' d j).map fun i => mkT (sibM k m i) (i + 1)
  | 0, d, hj, hd => by
    obtain rfl : d = D := by omega
    match hm : atM k m d, h1 with
    | [], _ => rw [mkT_nil]; rfl
    | [e], _ => rw [mkT_one e hD]; rfl
    | _ :: _ :: _, h1 => simp at h1
  | j + 1, d, hj, hd => by
    have hl := h2 d (by omega)
    have ih := sibs_mkT h hD h1 h2 j (d + 1) (by omega) (by omega)
    rw [mkT_two hl (by omega), List.range'_succ, List.map_cons, ← ih]
    conv => lhs; unfold sibs
    show _ = mkT (part (atM k m d) d (!bitAt k d)) (d + 1) :: sibs k (mkT (part (atM k m d) d (bitAt k d)) (d + 1)) (d + 1)
    cases hb : bitAt k d <;> simp
theorem wayT_mkT {k : B32} {m : List En} (h : Alike m 0) {D : Nat} (hD : D ≤ 256) (h1 : (atM k m D).length ≤ 1) (h2 : ∀ i, i < D → 1 < (atM k m i).length) : ∀ (j d : Nat), D - d = j → d ≤ D → wayT k (mkT (atM k m d) d) d = (List.range' d (j + 1)).map fun i => mkT (atM k m i) i
  | 0, d, hj, hd => by
    obtain rfl : d = D := by omega
    simp only [Nat.zero_add, List.range'_one, List.map_cons, List.map_nil]
    match hm : atM k m d, h1 with
    | [], _ => rw [mkT_nil]; rfl
    | [e], _ => rw [mkT_one e hD]; rfl
    | _ :: _ :: _, h1 => simp at h1
  | j + 1, d, hj, hd => by
    have hl := h2 d (by omega)
    have ih := wayT_mkT h hD h1 h2 j (d + 1) (by omega) (by omega)
    rw [List.range'_succ, List.map_cons, ← ih]
    have e := mkT_two hl (show d ≤ 256 by omega)
    rw [e]
    conv => lhs; unfold wayT
    show _ = _ :: wayT k (mkT (part (atM k m d) d (bitAt k d)) (d + 1)) (d + 1)
    cases hb : bitAt k d <;> simp
/-! maps that entries lead to -/
def cmpL : List UInt8 → List UInt8 → Int
  | x :: xs, y :: ys => if x < y then -1 else if y < x then 1 else cmpL xs ys
  | _, _ => 0
def cmpB (a b : B32) : Int := cmpL a.1 b.1
def remK (m : List En) (k : B32) : List En := m.filter fun e => decide (e.key ≠ k)
def insE (e : En) : List En → List En
  | [] => [e]
  | f :: m => if cmpB e.key f.key < 0 then e :: f :: m else f :: insE e m
def putM (m : List En) (e : En) : List En := insE e (remK m e.key)
def ofM (l : List En) : List En := l.foldl putM []
theorem insE_snoc_in {e x : En} : ∀ {l : List En}, (∃ f ∈ l, cmpB e.key f.key < 0) → insE e (l ++ [x]) = insE e l ++ [x]
  | [], h => by obtain ⟨f, hf, _⟩ := h; cases hf
  | g :: l, h => by
    by_cases h1 : cmpB e.key g.key < 0
    · rw [List.cons_append, insE, insE, if_pos h1, if_pos h1]; rfl
    · rw [List.cons_append, insE, insE, if_neg h1, if_neg h1, insE_snoc_in (l := l)]
      · rfl
      · obtain ⟨f, hf, h2⟩ := h
        rcases List.mem_cons.1 hf with rfl | hf
        · exact (h1 h2).elim
        · exact ⟨f, hf, h2⟩
theorem insE_none {e : En} : ∀ {l : List En}, (∀ f ∈ l, ¬ cmpB e.key f.key < 0) → insE e l = l ++ [e]
  | [], _ => rfl
  | g :: l, h => by rw [insE, if_neg (h g (List.mem_cons_self ..)), insE_none fun f hf => h f (List.mem_cons_of_mem _ hf)]; rfl
theorem insE_snoc_now {e x : En} : ∀ {l : List En}, (∀ f ∈ l, ¬ cmpB e.key f.key < 0) → cmpB e.key x.key < 0 → insE e (l ++ [x]) = l ++ [e, x]
  | [], _, h => by rw [List.nil_append, insE, if_pos h]; rfl
  | g :: l, h, h' => by rw [List.cons_append, insE, if_neg (h g (List.mem_cons_self ..)), insE_snoc_now (fun f hf => h f (List.mem_cons_of_mem _ hf)) h']; rfl
theorem insE_mem {e f : En} : ∀ {l : List En}, f ∈ insE e l ↔ f = e ∨ f ∈ l
  | [] => by simp [insE]
  | g :: l => by
    unfold insE
    split
    · simp
    · rw [List.mem_cons, insE_mem (l := l), List.mem_cons]
      constructor <;> (rintro (h | h | h) <;> simp_all)
theorem insE_len (e : En) : ∀ (l : List En), (insE e l).length = l.length + 1
  | [] => rfl
  | g :: l => by
    unfold insE
    split
    · rfl
    · rw [List.length_cons, insE_len e l]; rfl
theorem insE_nodup {e : En} : ∀ {l : List En}, (l.map En.key).Nodup → (∀ f ∈ l, f.key ≠ e.key) → ((insE e l).map En.key).Nodup
  | [], _, _ => by simp [insE]
  | g :: l, h, h' => by
    unfold insE
    rw [List.map_cons, List.nodup_cons] at h
    split
    · rw [List.map_cons, List.map_cons, List.nodup_cons, List.nodup_cons]
      refine ⟨fun hm => ?_, h.1, h.2⟩
      rw [List.mem_cons, List.mem_map] at hm
      rcases hm with hm | ⟨f, hf, hm⟩
      · exact h' g (List.mem_cons_self ..) hm.symm
      · exact h' f (List.mem_cons_of_mem _ hf) hm
    · rw [List.map_cons, List.nodup_cons]
      refine ⟨fun hm => ?_, insE_nodup h.2 fun f hf => h' f (List.mem_cons_of_mem _ hf)⟩
      obtain ⟨f, hf, hk⟩ := List.mem_map.1 hm
      rcases insE_mem.1 hf with rfl | hf
      · exact h' g (List.mem_cons_self ..) hk.symm
      · exact h.1 (List.mem_map.2 ⟨f, hf, hk⟩)
theorem putM_nodup {m : List En} (e : En) (h : (m.map En.key).Nodup) : ((putM m e).map En.key).Nodup :=
  insE_nodup (h.sublist ((List.filter_sublist).map _)) fun f hf => by simpa [remK] using (List.mem_filter.1 hf).2
theorem putM_mem {m : List En} {e f : En} (h : f ∈ putM m e) : f = e ∨ f ∈ m := (insE_mem.1 h).imp_right fun h => (List.mem_filter.1 h).1
theorem putM_len (m : List En) (e : En) : (putM m e).length ≤ m.length + 1 := by
  unfold putM
  rw [insE_len]
  have := List.length_filter_le (fun f => decide (f.key ≠ e.key)) m
  unfold remK
  omega
theorem foldM_nodup : ∀ (l m : List En), (m.map En.key).Nodup → ((l.foldl putM m).map En.key).Nodup
  | [], _, h => h
  | e :: l, m, h => foldM_nodup l _ (putM_nodup e h)
theorem ofM_nodup (l : List En) : ((ofM l).map En.key).Nodup := foldM_nodup l [] (by simp)
theorem foldM_mem : ∀ (l m : List En) (f : En), f ∈ l.foldl putM m → f ∈ l ∨ f ∈ m
  | [], _, _, h => .inr h
  | e :: l, m, f, h => by
    rcases foldM_mem l _ f h with h | h
    · exact .inl (List.mem_cons_of_mem _ h)
    · rcases putM_mem h with rfl | h
      · exact .inl (List.mem_cons_self ..)
      · exact .inr h
theorem ofM_mem {l : List En} {f : En} (h : f ∈ ofM l) : f ∈ l := (foldM_mem l [] f h).elim id fun h => by cases h
theorem foldM_len : ∀ (l m : List En), (l.foldl putM m).length ≤ l.length + m.length
  | [], _ => by simp
  | e :: l, m => by
    have h1 := foldM_len l (putM m e)
    have h2 := putM_len m e
    rw [List.foldl_cons, List.length_cons]
    omega
theorem ofM_len (l : List En) : (ofM l).length ≤ l.length := by have := foldM_len l []; rw [List.length_nil, Nat.add_zero] at this; exact this
theorem ofM_snoc (l : List En) (k : Nat) (e : En) (h : l[k]? = some e) : ofM (l.take (k + 1)) = putM (ofM (l.take k)) e := by
  rw [List.take_add_one, h]
  unfold ofM
  rw [Option.toList_some, List.foldl_append]
  rfl
end Go.Proofs.YtgfkbeipckbkiaaDoor
/- E12 -/
namespace Go.Proofs.YtgfkbeipckbkiaaDoor
set_option linter.unusedSimpArgs false
set_option linter.unusedVariables false
open Go.RowKit
def preV (v : List UInt8) : List UInt8 := 2 :: v
/-- the leaf of a key and a value -/
def leafOf (n : Nat) (k : B32) (v : List UInt8) : Leaf := ⟨k, sumB n (preV v)⟩
def dgT (n : Nat) : Tr → B32
  | .nil => sumB n preE
  | .leaf k v => sumB n (preL (leafOf n k v))
  | .node l r => sumB n (preN (dgT n l) (dgT n r))
/-- the root of a map -/
def rootM (n : Nat) (m : List En) (d : Nat) : B32 := dgT n (mkT m d)
theorem rootM_nil (n d : Nat) : rootM n [] d = sumB n preE := by unfold rootM; rw [mkT_nil]; rfl
theorem rootM_one (n : Nat) (e : En) {d : Nat} (h : d ≤ 256) : rootM n [e] d = sumB n (preL (leafOf n e.key e.val)) := by unfold rootM; rw [mkT_one e h]; rfl
theorem rootM_two (n : Nat) {m : List En} {d : Nat} (h : 1 < m.length) (hd : d ≤ 256) : rootM n m d = sumB n (preN (rootM n (part m d false) (d + 1)) (rootM n (part m d true) (d + 1))) := by unfold rootM; rw [mkT_two h hd]; rfl
/-! sets of depths -/
/-- the set with some depths -/
def dset (l : List Nat) : B32 := ⟨(List.range 32).map fun k => UInt8.ofNat (((List.range 8).filter fun j => decide (8 * k + j ∈ l)).map fun j => 2 ^ (7 - j)).sum, by simp⟩
theorem byte_sum (p : Nat → Bool) : ∀ j, j < 8 → bbit (UInt8.ofNat (((List.range 8).filter p).map fun j => 2 ^ (7 - j)).sum) j = p j := by
  have key : ∀ (a b c d e f g h : Bool) (j : Nat), j < 8 → bbit (UInt8.ofNat (((List.range 8).filter fun i => [a, b, c, d, e, f, g, h].getD i false).map fun j => 2 ^ (7 - j)).sum) j = [a, b, c, d, e, f, g, h].getD j false := by decide +kernel
  intro j hj
  have hf : (List.range 8).filter p = (List.range 8).filter fun i => [p 0, p 1, p 2, p 3, p 4, p 5, p 6, p 7].getD i false := by
    apply List.filter_congr
    intro i hi
    have := List.mem_range.1 hi
    match i, this with
    | 0, _ | 1, _ | 2, _ | 3, _ | 4, _ | 5, _ | 6, _ | 7, _ => rfl
  rw [hf, key _ _ _ _ _ _ _ _ j hj]
  match j, hj with
  | 0, _ | 1, _ | 2, _ | 3, _ | 4, _ | 5, _ | 6, _ | 7, _ => rfl
theorem dset_bit (l : List Nat) (i : Nat) (hi : i < 256) : bitAt (dset l) i = decide (i ∈ l) := by
  unfold bitAt dset
  simp only [List.getD_eq_getElem?_getD, List.getElem?_map]
  rw [List.getElem?_range (by omega)]
  simp only [Option.map_some, Option.getD_some]
  rw [byte_sum _ _ (by omega), Nat.div_add_mod]
theorem dset_nil : dset [] = zB32 := bits_ext fun i hi => by rw [dset_bit _ i hi, bitAt_zero]; simp
theorem dset_snoc (l : List Nat) (i : Nat) (hi : i < 256) (hn : i ∉ l) : flipAt (dset l) i = dset (l ++ [i]) := bits_ext fun k hk => by
  rw [flipAt_bit _ _ _ hi hk, dset_bit _ k hk, dset_bit _ k hk, dset_bit _ i hi]
  by_cases h : k = i
  · subst h; simp [hn]
  · simp [h]
theorem dset_depths {l : List Nat} (h1 : l.Pairwise (· < ·)) (h2 : ∀ i ∈ l, i < 256) : depths (dset l) = l := by
  have : depths (dset l) = (List.range 256).filter fun i => decide (i ∈ l) := by
    apply List.filter_congr
    intro i hi
    exact dset_bit l i (List.mem_range.1 hi)
  rw [this]
  apply List.Perm.eq_of_pairwise (le := fun a b : Nat => a < b) (fun a b _ _ h h' => by omega)
  · exact (List.pairwise_lt_range).filter _
  · exact h1
  · rw [List.perm_ext_iff_of_nodup ((List.nodup_range).filter _) (h1.imp (fun h => Nat.ne_of_lt h))]
    intro i
    simp only [List.mem_filter, List.mem_range, decide_eq_true_eq]
    exact ⟨fun h => h.2, fun h => ⟨h2 i h, h⟩⟩
/-! the proof of a map for a key -/
/-- the depths below which something stands beside the way -/
def sibD (k : B32) (m : List En) (D : Nat) : List Nat := (List.range D).filter fun i => decide (0 < (sibM k m i).length)
theorem sibD_succ (k : B32) (m : List En) (D : Nat) : sibD k m (D + 1) = sibD k m D ++ if 0 < (sibM k m D).length then [D] else [] := by
  unfold sibD
  rw [List.range_succ, List.filter_append]
  congr 1
  by_cases h : 0 < (sibM k m D).length
  · rw [if_pos h]; simp [h]
  · rw [if_neg h]; simp [h]
theorem sibD_lt {k : B32} {m : List En} {D i : Nat} (h : i ∈ sibD k m D) : i < D := List.mem_range.1 (List.mem_filter.1 h).1
theorem sibD_pw (k : B32) (m : List En) (D : Nat) : (sibD k m D).Pairwise (· < ·) := (List.pairwise_lt_range).filter _
def sibR (n : Nat) (k : B32) (m : List En) (D : Nat) : List B32 := (sibD k m D).map fun i => rootM n (sibM k m i) (i + 1)
theorem sibR_succ (n : Nat) (k : B32) (m : List En) (D : Nat) : sibR n k m (D + 1) = sibR n k m D ++ if 0 < (sibM k m D).length then [rootM n (sibM k m D) (D + 1)] else [] := by
  unfold sibR
  rw [sibD_succ, List.map_append]
  congr 1
  split <;> rfl
def leafT (n : Nat) : Tr → Leaf
  | .leaf k v => leafOf n k v
  | _ => zLeaf
end Go.Proofs.YtgfkbeipckbkiaaDoor
/- UT -/
namespace Go.Proofs.YtgfkbeipckbkiaaDoor
set_option linter.unusedSimpArgs false
set_option linter.unusedVariables false
open Go.RowKit
/-- the hasher, its counter, the table of rounds -/
abbrev HR (gh gc n : Nat) : Fa := .rd (some ⟨gh, 0, none⟩) [.pointer (some ⟨gc, 0, none⟩), .int .i64 (n : Int)]
abbrev CN (gc k : Nat) : Fa := .blk gc [.int .i64 (k : Int)] 98
abbrev TBL : Fa := .rd (some ⟨1, 0, none⟩) hashT
/-- some bytes that a slice holds -/
class SlZ (h : Zh) (s : Sl) (b : List UInt8) : Prop where
  len : s.n = b.length
  cap : s.n ≤ s.c
  nil : s.A = none → s.n = 0 ∧ s.c = 0
  rd : RdZ h s.A (bc b)
theorem SlZ.mono {h h' : Zh} (hl : LeZ h h') {s : Sl} {b : List UInt8} (x : SlZ h s b) : SlZ h' s b := ⟨x.len, x.cap, x.nil, x.rd.mono hl⟩
def trZ (n : Nat) (h : Zh) : Tr → Option Addr → Prop
  | .nil, p => p = none
  | .leaf k b, p => ∃ g s, p = some ⟨g, 0, none⟩ ∧ RdZ h p (Nd.cells ⟨.iface 127 (.agg (NLeaf.cells ⟨leafOf n k b, s⟩).toArray), dgT n (.leaf k b)⟩) ∧ SlZ h s b
  | .node l r, p => ∃ g pl pr, p = some ⟨g, 0, none⟩ ∧ RdZ h p (Nd.cells ⟨.iface 131 (.agg (NInner.cells ⟨pl, pr, dgT n l, dgT n r, ((l.cnt + r.cnt : Nat) : Int)⟩).toArray), dgT n (.node l r)⟩) ∧ trZ n h l pl ∧ trZ n h r pr
theorem trZ.mono {n : Nat} {h h' : Zh} (hl : LeZ h h') : ∀ {t : Tr} {p : Option Addr}, trZ n h t p → trZ n h' t p
  | .nil, _, x => x
  | .leaf _ _, _, ⟨g, s, e, r, b⟩ => ⟨g, s, e, r.mono hl, b.mono hl⟩
  | .node _ _, _, ⟨g, pl, pr, e, r, x, y⟩ => ⟨g, pl, pr, e, r.mono hl, trZ.mono hl x, trZ.mono hl y⟩
/-- the tree that a pointer leads to -/
class TrZ (n : Nat) (h : Zh) (t : Tr) (p : Option Addr) : Prop where
  ok : trZ n h t p
instance (n : Nat) (h : Zh) : TrZ n h .nil none := ⟨rfl⟩
instance (priority := 10) (n : Nat) (h h' : Zh) (t : Tr) (p : Option Addr) [hl : LeZ h h'] [x : TrZ n h t p] : TrZ n h' t p := ⟨x.ok.mono hl⟩
instance (priority := 10) (h h' : Zh) (s : Sl) (b : List UInt8) [hl : LeZ h h'] [x : SlZ h s b] : SlZ h' s b := x.mono hl
/-- where a subtree's pointer stands -/
def subP (h : Zh) (b : Bool) : Option Addr → Option Addr
  | some ⟨g, 0, none⟩ => match h.cell g 0 with
    | some (.iface T (.agg cs)) => if T = 131 then (match cs[(if b then 1 else 0 : Nat)]? with | some (.pointer q) => q | _ => none) else none
    | _ => none
  | _ => none
theorem subP_node {h : Zh} {g : Nat} {x : NInner} {d : B32} (hr : RdZ h (some ⟨g, 0, none⟩) (Nd.cells ⟨.iface 131 (.agg x.cells.toArray), d⟩)) (b : Bool) : subP h b (some ⟨g, 0, none⟩) = if b then x.r else x.l := by
  have hc := hr.cell (j := 0) (v := .iface 131 (.agg x.cells.toArray)) rfl
  rw [Nat.zero_add] at hc
  have e : x.cells.toArray[(if b then 1 else 0 : Nat)]? = some (.pointer (if b then x.r else x.l)) := by cases b <;> simp [NInner.cells]
  unfold subP
  simp only [hc, if_true, e]
theorem subP_leaf {h : Zh} {g : Nat} {x : NLeaf} {d : B32} (hr : RdZ h (some ⟨g, 0, none⟩) (Nd.cells ⟨.iface 127 (.agg x.cells.toArray), d⟩)) (b : Bool) : subP h b (some ⟨g, 0, none⟩) = none := by
  have hc := hr.cell (j := 0) (v := .iface 127 (.agg x.cells.toArray)) rfl
  rw [Nat.zero_add] at hc
  have e : ¬ 127 = 131 := by decide
  unfold subP
  simp only [hc, if_neg e]
theorem subP_nil (h : Zh) (b : Bool) : subP h b none = none := rfl
theorem trZ.sub {n : Nat} {h : Zh} {t : Tr} {p : Option Addr} (x : trZ n h t p) (b : Bool) : trZ n h (t.sub b) (subP h b p) := by
  rcases t with _ | ⟨kk, v⟩ | ⟨l, r⟩
  · obtain rfl : p = none := x
    cases b <;> rfl
  · obtain ⟨g, s, rfl, hr, _⟩ := x
    cases b <;> exact subP_leaf hr _
  · obtain ⟨g, pl, pr, rfl, hr, hl, hr2⟩ := x
    rw [subP_node hr]
    cases b
    · exact hl
    · exact hr2
instance (n : Nat) (h : Zh) (t : Tr) (p : Option Addr) (b : Bool) [x : TrZ n h t p] : TrZ n h (t.sub b) (subP h b p) := ⟨x.ok.sub b⟩
theorem TrZ.left {n : Nat} {h : Zh} {l r : Tr} {p : Option Addr} (x : TrZ n h (.node l r) p) : TrZ n h l (subP h false p) := ⟨x.ok.sub false⟩
theorem TrZ.right {n : Nat} {h : Zh} {l r : Tr} {p : Option Addr} (x : TrZ n h (.node l r) p) : TrZ n h r (subP h true p) := ⟨x.ok.sub true⟩
/-- the way of a key: its subtrees, their pointers -/
def wayK (key : B32) (t : Tr) : Nat → Tr
  | 0 => t
  | k + 1 => (wayK key t k).sub (bitAt key k)
def wayQ (h : Zh) (key : B32) (p : Option Addr) : Nat → Option Addr
  | 0 => p
  | k + 1 => subP h (bitAt key k) (wayQ h key p k)
theorem wayK_ok {n : Nat} {h : Zh} {t : Tr} {p : Option Addr} (x : trZ n h t p) (key : B32) : ∀ k, trZ n h (wayK key t k) (wayQ h key p k)
  | 0 => x
  | k + 1 => (wayK_ok x key k).sub _
instance (n : Nat) (h : Zh) (t : Tr) (p : Option Addr) (key : B32) (k : Nat) [x : TrZ n h t p] : TrZ n h (wayK key t k) (wayQ h key p k) := ⟨wayK_ok x.ok key k⟩
/-- the way ends at a depth -/
structure WayTo (key : B32) (t : Tr) (D : Nat) : Prop where
  le : D ≤ 256
  end_ : (wayK key t D).kind ≠ 2
  on : ∀ i, i < D → (wayK key t i).kind = 2
theorem wayK_mkT {key : B32} {m : List En} (h : Alike m 0) {D : Nat} (hD : D ≤ 256) (h2 : ∀ i, i < D → 1 < (atM key m i).length) : ∀ i, i ≤ D → wayK key (mkT m 0) i = mkT (atM key m i) i
  | 0, _ => by rw [wayK, atM]
  | i + 1, hi => by
    have hl := h2 i (by omega)
    rw [wayK, atM]
    rw [wayK_mkT h hD h2 i (by omega), mkT_two hl (by omega)]
    cases bitAt key i <;> simp only [Tr.sub]
theorem wayTo_mkT {key : B32} {m : List En} (h : Alike m 0) : ∃ D, WayTo key (mkT m 0) D ∧ endM key m 0 = (atM key m D, D) ∧ (atM key m D).length ≤ 1 ∧ (∀ i, i < D → 1 < (atM key m i).length) ∧ ∀ i, i ≤ D → wayK key (mkT m 0) i = mkT (atM key m i) i := by
  obtain ⟨D, _, hD, h1, h2, h3⟩ := endM_at (k := key) h 256 0 (by omega) (by omega)
  have hw := wayK_mkT (key := key) h hD (fun i hi => h3 i (by omega) hi)
  refine ⟨D, ⟨hD, ?_, fun i hi => ?_⟩, h1, h2, fun i hi => h3 i (by omega) hi, hw⟩
  · rw [hw D (Nat.le_refl _), mkT_kind _ hD]; omega
  · have := h3 i (by omega) hi
    rw [hw i (by omega), mkT_kind _ (by omega)]; omega
/-- how many digests the making of a tree takes -/
def Tr.cost : Tr → Nat
  | .nil => 0
  | .leaf .. => 2
  | .node l r => l.cost + r.cost + (if l.kind = 0 then 1 else 0) + (if r.kind = 0 then 1 else 0) + 1
instance (x : NInner) : RowAt x.cells 0 2 [.pointer x.l, .pointer x.r] := .mk' (pre := []) (post := x.dl.cells ++ (x.dr.cells ++ [.int .i64 x.n])) (by simp [NInner.cells]) rfl rfl
instance (x : NInner) : RowAt x.cells 2 64 (x.dl.cells ++ x.dr.cells) := .mk' (pre := [.pointer x.l, .pointer x.r]) (post := [.int .i64 x.n]) (by simp [NInner.cells]) rfl (by simp [B32.cells_length])
instance (x : NInner) (a b : Option Addr) : SetAt x.cells 0 [.pointer a, .pointer b] ({ x with l := a, r := b } : NInner).cells := .mk' (pre := []) (old := [.pointer x.l, .pointer x.r]) (post := x.dl.cells ++ (x.dr.cells ++ [.int .i64 x.n])) (by simp [NInner.cells]) (by simp [NInner.cells]) rfl rfl
instance (x : NInner) (a b : B32) : SetAt x.cells 2 (a.cells ++ b.cells) ({ x with dl := a, dr := b } : NInner).cells := .mk' (pre := [.pointer x.l, .pointer x.r]) (old := x.dl.cells ++ x.dr.cells) (post := [.int .i64 x.n]) (by simp [NInner.cells]) (by simp [NInner.cells]) rfl (by simp [B32.cells_length])
instance : TZ Tryd.prog 129 (zB32.cells ++ zB32.cells) := ⟨⟨.agg (zB32.cells ++ zB32.cells).toArray, by kernel_rfl, rfl⟩⟩
instance : TB Tryd.prog 129 (zB32.cells ++ zB32.cells) (plArr 32) := ⟨fun w ps cells h => run_build_array Tryd.underlying129 (z := (zB32.cells ++ zB32.cells).toArray) (n := 64) (by kernel_rfl) (s := 32) (by kernel_rfl) h⟩
instance (a b c : B32) : SetAt (a.cells ++ b.cells) 0 c.cells (c.cells ++ b.cells) := .mk' (pre := []) (old := a.cells) (post := b.cells) (by simp) (by simp) rfl (by rw [B32.cells_length, B32.cells_length])
instance (a b c : B32) : SetAt (a.cells ++ b.cells) 32 c.cells (a.cells ++ c.cells) := .mk' (pre := a.cells) (old := b.cells) (post := []) (by simp) (by simp) (B32.cells_length _) (by rw [B32.cells_length, B32.cells_length])
instance (a b : B32) : Row (a.cells ++ b.cells) 64 := ⟨by rw [List.length_append, B32.cells_length, B32.cells_length], fun v hv => (List.mem_append.1 hv).elim (B32.cells_one a v) (B32.cells_one b v)⟩
instance (a b : Option Addr) : Row [.pointer a, .pointer b] 2 := ⟨rfl, by simp [Value.oneCell']⟩
instance : TZero Tryd.prog 127 (.agg zNLeaf.cells.toArray) := ⟨fun w => by kernel_rfl⟩
instance : TZero Tryd.prog 131 (.agg zNInner.cells.toArray) := ⟨fun w => by kernel_rfl⟩
instance : MethT Tryd.prog 127 "sparsetree/node.preimage" 140 := ⟨fun v args w => by kernel_rfl⟩
instance : MethT Tryd.prog 131 "sparsetree/node.preimage" 141 := ⟨fun v args w => by kernel_rfl⟩
end Go.Proofs.YtgfkbeipckbkiaaDoor
