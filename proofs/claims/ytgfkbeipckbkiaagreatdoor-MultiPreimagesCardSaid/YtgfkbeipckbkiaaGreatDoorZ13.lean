/- The reference's view of the keys below a prefix; heights, sizes: plain; multi.Prove; multi: the ends of keys; multiproofs: the reference's Same; law19.Few; The reference's maps: Put, Of, Few, Root; The reference's maps: Few, Root; the tree that grows out of a map; The tree that grows out of a map (joined texts: E19 U74 U75 U79 U39 U40 U41) -/
import Derived.Test.YtgfkbeipckbkiaaGreatDoorZ12
set_option linter.all false
/- E19 -/
namespace Go.Proofs.YtgfkbeipckbkiaaGreatDoor
set_option linter.unusedSimpArgs false
set_option linter.unusedVariables false
open Go.RowKit
theorem common_iff {a b : B32} {d : Nat} (hd : d ≤ 256) : d ≤ common a b ↔ ∀ i, i < d → bitAt a i = bitAt b i := by
  unfold common
  cases h : (List.range 256).find? (fun i => bitAt a i ^^ bitAt b i) with
  | none =>
    rw [List.find?_eq_none] at h
    exact ⟨fun _ i hi => by have := h i (List.mem_range.2 (by omega)); simpa using this, fun _ => hd⟩
  | some k =>
    rw [List.find?_range_eq_some] at h
    obtain ⟨h1, h2, h3⟩ := h
    simp only [Option.getD_some]
    refine ⟨fun hk i hi => by simpa using h3 i (by omega), fun hall => ?_⟩
    rcases Nat.lt_or_ge k d with h4 | h4
    · have := hall k h4
      simp [this] at h1
    · exact h4
/-- the keys with the first bits of a prefix -/
def keysP (ks : List B32) (p : B32) (d : Nat) : List B32 := ks.filter fun k => decide (d ≤ common k p)
theorem keysP_zero (ks : List B32) (p : B32) : keysP ks p 0 = ks := by unfold keysP; simp
theorem keysP_left {ks : List B32} {p : B32} {d : Nat} (hd : d < 256) (hb : bitAt p d = false) : keysB (keysP ks p d) d false = keysP ks p (d + 1) := by
  unfold keysB keysP
  rw [List.filter_filter]
  apply List.filter_congr
  intro k _
  rw [Bool.eq_iff_iff]
  simp only [Bool.and_eq_true, beq_iff_eq, decide_eq_true_eq]
  rw [common_iff (by omega), common_iff (by omega)]
  constructor
  · rintro ⟨h1, h2⟩ i hi
    rcases Nat.lt_or_ge i d with h3 | h3
    · exact h2 i h3
    · obtain rfl : i = d := by omega
      rw [h1, hb]
  · intro h
    exact ⟨by rw [h d (by omega), hb], fun i hi => h i (by omega)⟩
theorem keysP_right {ks : List B32} {p : B32} {d : Nat} (hd : d < 256) (hb : bitAt p d = false) : keysB (keysP ks p d) d true = keysP ks (flipAt p d) (d + 1) := by
  unfold keysB keysP
  rw [List.filter_filter]
  apply List.filter_congr
  intro k _
  rw [Bool.eq_iff_iff]
  simp only [Bool.and_eq_true, beq_iff_eq, decide_eq_true_eq]
  rw [common_iff (by omega), common_iff (by omega)]
  have hf : ∀ i, i < 256 → bitAt (flipAt p d) i = if i = d then true else bitAt p i := fun i hi => by rw [flipAt_bit p d i hd hi, hb]; rfl
  constructor
  · rintro ⟨h1, h2⟩ i hi
    rw [hf i (by omega)]
    rcases Nat.lt_or_ge i d with h3 | h3
    · rw [if_neg (by omega)]; exact h2 i h3
    · obtain rfl : i = d := by omega
      rw [if_pos rfl, h1]
  · intro h
    refine ⟨by rw [h d (by omega), hf d hd, if_pos rfl], fun i hi => ?_⟩
    rw [h i (by omega), hf i (by omega), if_neg (by omega)]
theorem ltK_of {a b : B32} (h : cmpB a b < 0) : ltK a b := cmpB_bits h
theorem chk_ord : ∀ {l : List B32}, chkK l = 0 → l.Pairwise ltK
  | [], _ => .nil
  | [a], _ => List.pairwise_singleton ..
  | a :: b :: l, h => by
    unfold chkK at h
    split at h
    · cases h
    · split at h
      · cases h
      · have ih := chk_ord h
        have hab : ltK a b := ltK_of (by omega)
        refine List.pairwise_cons.2 ⟨fun x hx => ?_, ih⟩
        rcases List.mem_cons.1 hx with rfl | hx
        · exact hab
        · exact ltK_trans hab ((List.pairwise_cons.1 ih).1 x hx)
theorem keysE_ok {l : List B32} (h : keysE l = 0) : l.length ≠ 0 ∧ l.length ≤ 65535 ∧ l.Pairwise ltK := by
  unfold keysE at h
  split at h
  · cases h
  · split at h
    · cases h
    · exact ⟨by assumption, by omega, chk_ord h⟩
theorem mkT_ht {m : List En} {d : Nat} (hd : d ≤ 256) (ha : Alike m d) : d + (mkT m d).ht ≤ 256 :=
  parts_ind (p := fun m d => d ≤ 256 → d + (mkT m d).ht ≤ 256) (fun d hd => by rw [mkT_nil]; exact hd) (fun e d h _ => by rw [mkT_one e h]; exact h)
    (fun m d _ hm hd i1 i2 _ => by rw [mkT_two hm (by omega)]; show d + (max _ _ + 1) ≤ _; have := i1 (by omega); have := i2 (by omega); omega) 256 m d (by omega) hd ha hd
theorem mkT_sz {m : List En} {d : Nat} (hd : d ≤ 256) (ha : Alike m d) : (mkT m d).sz ≤ 1 + 2 * (m.length * (256 - d)) :=
  parts_ind (p := fun m d => (mkT m d).sz ≤ 1 + 2 * (m.length * (256 - d))) (fun d => by rw [mkT_nil]; show 1 ≤ _; omega) (fun e d h => by rw [mkT_one e h]; show 1 ≤ _; omega)
    (fun m d _ hm hd i1 i2 => by
      rw [mkT_two hm (by omega)]
      show _ + _ + 1 ≤ _
      have e := part_len m d
      have e2 : m.length * (256 - d) = (part m d false).length * (256 - (d + 1)) + (part m d true).length * (256 - (d + 1)) + m.length := by
        rw [← Nat.add_mul, e, show 256 - d = 256 - (d + 1) + 1 by omega, Nat.mul_succ]
      omega) 256 m d (by omega) hd ha
theorem subT_ht (n : Nat) : ∀ (t : Tr) (ks : List B32) (d : Nat), (subT n t ks d).ht ≤ t.ht
  | .nil, ks, d => by unfold subT; exact Nat.le_refl _
  | .leaf k v, [], d => Nat.le_refl _
  | .leaf k v, _ :: _, d => Nat.le_refl _
  | .node l r, [], d => Nat.zero_le _
  | .node l r, x :: ks, d => by
    have h1 := subT_ht n l (keysB (x :: ks) d false) (d + 1)
    have h2 := subT_ht n r (keysB (x :: ks) d true) (d + 1)
    unfold subT
    show max _ _ + 1 ≤ max l.ht r.ht + 1
    omega
/-- what add appends is a multiproof -/
theorem addT_parse (n : Nat) {m : List En} (ha : Alike m 0) (ks : List B32) : parseM (addT n (mkT m 0) ks 0) = .ok (subT n (mkT m 0) ks 0) := by
  rw [addT_flat]
  have := mkT_ht (by omega) ha
  have := subT_ht n (mkT m 0) ks 0
  exact flat_parse (subT_ok ..) (by omega)
/-- it fits the keys -/
theorem subT_fits (n : Nat) : ∀ (t : Tr) (ks : List B32) (d : Nat), (endsM (subT n t ks d) ks d).2 = true
  | .nil, ks, d => by unfold subT; rfl
  | .leaf k v, [], d => rfl
  | .leaf k v, _ :: _, d => rfl
  | .node l r, [], d => rfl
  | .node l r, x :: ks, d => by
    have h1 := subT_fits n l (keysB (x :: ks) d false) (d + 1)
    have h2 := subT_fits n r (keysB (x :: ks) d true) (d + 1)
    unfold subT endsM
    rw [if_neg (by simp), if_pos h1]
    exact h2
/-- where the way of a key in the tree ends, as an item -/
def itemT (n : Nat) : Tr → Item
  | .nil => ⟨0, zB32, zLeaf⟩
  | .leaf k v => ⟨1, zB32, leafOf n k v⟩
  | .node _ _ => innerI
theorem subT_end (n : Nat) (k : B32) : ∀ (t : Tr) (ks : List B32) (d : Nat), k ∈ ks → (subT n t ks d).endI k d = (itemT n (loc k t d).1, (loc k t d).2)
  | .nil, ks, d, _ => by unfold subT; rfl
  | .leaf k v, [], d, h => by cases h
  | .leaf k v, _ :: _, d, _ => rfl
  | .node l r, [], d, h => by cases h
  | .node l r, x :: ks, d, h => by
    unfold subT Sub.endI loc
    cases hb : bitAt k d
    · exact subT_end n k l _ _ (keysB_mem.2 ⟨h, hb⟩)
    · exact subT_end n k r _ _ (keysB_mem.2 ⟨h, hb⟩)
end Go.Proofs.YtgfkbeipckbkiaaGreatDoor
/- U74 -/
namespace Go.Proofs.YtgfkbeipckbkiaaGreatDoor
set_option linter.unusedSimpArgs false
set_option linter.unusedVariables false
open Go.RowKit
section
variable (h : Zh) (ks : List B32) (B : Option Addr) (cc : Nat)
theorem mProve_bad (p : Option Addr) (gh : Nat) (hl : ks.length ≤ 1000000000) (he : keysE ks ≠ 0) : Spec Tryz.prog 15 [.pointer (some ⟨gh, 0, none⟩), .pointer p, .slice B ks.length cc].toArray [.rd B (dgs ks)] [] (fun _ : Unit => .tuple #[.slice none 0 0, .int .i64 (keysE ks)]) (fun _ => []) := by
  refine spec_of Tryz.func15 rfl (n := 18) rfl rfl ?_
  intro W
  refine h_seq ?_
  refine h_reg ?_
  refine h_op (r_assign rfl) ?_
  refine h_op (r_assign rfl) ?_
  refine h_nil ?_
  refine q_then ?_
  refine h_seq ?_
  refine h_seq ?_
  refine h_reg ?_
  refine h_op (r_move rfl) ?_
  refine h_call ((mKeys_s ks B cc (by omega)).comes) rfl rfl rfl fun _ => ?_
  refine h_op (r_assign rfl) ?_
  refine h_nil ?_
  refine q_then ?_
  refine h_seq ?_
  refine h_reg ?_
  refine h_op (r_move rfl) ?_
  refine h_op (r_neq rfl rfl) ?_
  refine h_nil ?_
  refine q_then ?_
  refine h_yes rfl (he) ?_
  refine h_seq ?_
  refine h_reg ?_
  refine h_op (r_move rfl) ?_
  refine h_op (r_assign rfl) ?_
  refine h_op (r_assign rfl) ?_
  refine h_nil ?_
  refine q_then ?_
  refine h_ret ?_
  refine q_thenR ?_
  exact h_ret2 rfl rfl rfl fun w s => ⟨(), rfl, s.res (List.nil_sublist _) (by simp)⟩
theorem mProve_s (n : Nat) (hn : n ≤ 256) (gh gc k : Nat) (hk : k ≤ 1000000000) [hT : RdZ h (some ⟨2, 0, none⟩) hashT] (t : Tr) (p : Option Addr) (ht : TrZ n h t p) [hB : RdZ h B (dgs ks)] (hcc : ks.length ≤ cc) (he : keysE ks = 0) (hht : t.ht ≤ 256) (hsz : t.sz ≤ 1000000) : Spec Tryz.prog 15 [.pointer (some ⟨gh, 0, none⟩), .pointer p, .slice B ks.length cc].toArray [HR gh gc n, .zone false h] [CN gc k] (fun u : Option Addr × Nat => .tuple #[.slice u.1 (addT n t ks 0).length u.2, .int .i64 0]) (fun u => [.own (.slice u.1 (addT n t ks 0).length u.2) (addT n t ks 0).length 53 97 (its (addT n t ks 0)), CN gc k]) := by
  obtain ⟨h1, h2, h3⟩ := keysE_ok he
  have hK := mKeys_s ks B cc (by omega)
  rw [he] at hK
  have hA := add_s n hn gh gc k hk h t p ht ks B cc 0 hB hcc (by omega) h3 (fun _ _ _ _ i hi => absurd hi (by omega)) (by omega) [] none 0 (by simp; omega)
  simp only [List.nil_append, List.length_nil] at hA
  refine spec_of Tryz.func15 rfl (n := 18) rfl rfl ?_
  intro W
  refine h_seq ?_
  refine h_reg ?_
  refine h_op (r_assign rfl) ?_
  refine h_op (r_assign rfl) ?_
  refine h_nil ?_
  refine q_then ?_
  refine h_seq ?_
  refine h_seq ?_
  refine h_reg ?_
  refine h_op (r_move rfl) ?_
  refine h_call (hK.comes) rfl rfl rfl fun _ => ?_
  refine h_op (r_assign rfl) ?_
  refine h_nil ?_
  refine q_then ?_
  refine h_seq ?_
  refine h_reg ?_
  refine h_op (r_move rfl) ?_
  refine h_op (r_neq rfl rfl) ?_
  refine h_nil ?_
  refine q_then ?_
  refine h_no rfl ((fun h => h rfl)) ?_
  refine h_skip ?_
  refine q_then ?_
  refine h_seq ?_
  refine h_reg ?_
  refine h_op (r_move rfl) ?_
  refine h_op (r_move rfl) ?_
  refine h_op (r_move rfl) ?_
  refine h_nil_own 53 97 (xs := its []) rfl ?_
  refine h_call (hA.comes) rfl rfl rfl fun ⟨A17, c17⟩ => ?_
  refine h_op (r_assign rfl) ?_
  refine h_op (r_assign rfl) ?_
  refine h_nil ?_
  refine q_then ?_
  refine h_ret ?_
  exact h_ret2 rfl rfl rfl fun w s => ⟨(A17, c17), rfl, (same w s).res (List.Sublist.refl _) (by simp [Fa.wr])⟩
end
end Go.Proofs.YtgfkbeipckbkiaaGreatDoor
/- U75 -/
namespace Go.Proofs.YtgfkbeipckbkiaaGreatDoor
set_option linter.unusedSimpArgs false
set_option linter.unusedVariables false
open Go.RowKit
instance : TZero Tryz.prog 142 (.agg [.nilIface, .nilIface].toArray) := ⟨fun w => by kernel_rfl⟩
def endC (l : List (Item × Nat)) : List Value := l.flatMap fun x => End.cells ⟨x.1, (x.2 : Int)⟩
theorem endC_len (l : List (Item × Nat)) : (endC l).length = l.length * 98 := by
  unfold endC
  induction l with
  | nil => rfl
  | cons x l ih => rw [List.flatMap_cons, List.length_append, ih, List.length_cons, End.cells_length]; omega
theorem endC_snoc (l : List (Item × Nat)) (x : Item × Nat) : endC l ++ End.cells ⟨x.1, (x.2 : Int)⟩ = endC (l ++ [x]) := by unfold endC; rw [List.flatMap_append]; simp
section
variable (h : Zh)
theorem ends_one (x : Item) (ks : List B32) (B : Option Addr) (cc d : Nat) (hks : ks.length ≤ 100000) (out : List (Item × Nat)) (A : Option Addr) (c : Nat) (ho : out.length + ks.length ≤ 1000000) (b : Bool) (hb : (x.kind != 3 || ks.isEmpty) = b) : Spec Tryz.prog 63 [.slice A out.length c, .iface (Sub.one x).tag (Sub.one x).val, .slice B ks.length cc, .int .i64 (d : Int)].toArray [.zone false h] [.own (.slice A out.length c) out.length 55 98 (endC out)] (fun u : Option Addr × Nat => .tuple #[.slice u.1 (out ++ ks.map fun _ => (x, d)).length u.2, .bool b]) (fun u => [.own (.slice u.1 (out ++ ks.map fun _ => (x, d)).length u.2) (out ++ ks.map fun _ => (x, d)).length 55 98 (endC (out ++ ks.map fun _ => (x, d)))]) := by
  have ht : ∀ k, k < ks.length → (ks.take (k + 1)).map (fun _ => (x, d)) = (ks.take k).map (fun _ => (x, d)) ++ [(x, d)] := fun k hk => by rw [List.take_add_one, List.getElem?_eq_getElem hk, Option.toList_some, List.map_append]; rfl
  refine spec_of Tryz.func63 rfl (n := 79) rfl rfl ?_
  intro W
  change H _ _ _ _ (argsEnv 0 [.slice A out.length c, .iface 146 (.agg x.cells.toArray), .slice B ks.length cc, .int .i64 (d : Int)]) _ _
  refine h_seq ?_
  refine h_reg ?_
  refine h_op (r_assign rfl) ?_
  refine h_op (r_assign rfl) ?_
  refine h_nil ?_
  refine q_then ?_
  refine h_seq ?_
  refine h_seq ?_
  refine h_reg ?_
  refine h_op (r_move rfl) ?_
  refine h_nil ?_
  refine q_then ?_
  refine h_block ?_
  refine h_seq ?_
  refine h_reg ?_
  refine h_op (r_as2n rfl) ?_
  refine h_op (r_extract rfl rfl) ?_
  refine h_op (r_extract rfl rfl) ?_
  refine h_nil ?_
  refine q_then ?_
  refine h_condF rfl ?_
  refine h_seq ?_
  refine h_reg ?_
  refine h_op (r_as2 rfl) ?_
  refine h_op (r_extract rfl rfl) ?_
  refine h_op (r_extract rfl rfl) ?_
  refine h_nil ?_
  refine q_then ?_
  refine h_condT rfl ?_
  refine h_seq ?_
  refine h_reg ?_
  refine h_opX (x_alloc) fun g14 => ?_
  refine h_opS (s_storer rfl rfl) ?_
  refine h_nil ?_
  refine q_then ?_
  refine h_seq ?_
  refine h_seq ?_
  refine h_reg ?_
  refine h_op (r_move rfl) ?_
  refine h_op (r_len rfl) ?_
  refine h_op (r_move rfl) ?_
  refine h_nil ?_
  refine q_then ?_
  refine h_block ?_
  refine h_loop (fun (s : Nat × List (Item × Nat) × Option Addr × Nat) => s.1 ≤ ks.length ∧ s.2.1 = out ++ (ks.take s.1).map (fun _ => (x, d))) (fun (s : Nat × List (Item × Nat) × Option Addr × Nat) => [(58, .int .i64 (s.1 : Int)), (57, .int .i64 (ks.length : Int)), (0, .slice s.2.2.1 s.2.1.length s.2.2.2), (14, .pointer (some ⟨g14, 0, none⟩)), (3, .int .i64 (d : Int)), (2, .slice B ks.length cc)]) (fun (s : Nat × List (Item × Nat) × Option Addr × Nat) => [.own (.slice s.2.2.1 s.2.1.length s.2.2.2) s.2.1.length 55 98 (endC s.2.1), .blk g14 x.cells 146]) (fun (s : Nat × List (Item × Nat) × Option Addr × Nat) => ks.length - s.1) (0, out, A, c) (⟨Nat.zero_le _, by simp⟩) ⟨rfl, rfl, rfl, rfl, rfl, rfl, trivial⟩ (same) ?_
  rintro ⟨k, o, A', c'⟩ ⟨hk, he⟩
  dsimp only at hk he ⊢
  have hol : o.length = out.length + k := by rw [he, List.length_append, List.length_map, List.length_take]; omega
  refine h_seq ?_
  refine h_reg ?_
  refine h_op (r_lss rfl rfl) ?_
  refine h_nil ?_
  refine q_then ?_
  refine h_seq ?_
  refine h_cond rfl (fun hlt => ?_) (fun hlt => ?_)
  · have hk2 : k < ks.length := by omega
    have hl : o.length + 1 = (o ++ [(x, d)]).length := by rw [List.length_append]; rfl
    refine h_skip ?_
    refine q_then ?_
    refine h_seq ?_
    refine h_block ?_
    refine h_reg ?_
    refine h_op (r_move rfl) ?_
    refine h_op (r_field rfl) ?_
    refine h_op (r_loadr rfl) ?_
    refine h_op (r_move rfl) ?_
    refine h_op (r_build rfl) ?_
    refine h_opX (x_bsl rfl rfl) fun g65 => ?_
    refine h_opX (x_app rfl rfl (k := 98)) fun ⟨g66, c66⟩ => ?_
    refine h_op (r_assign rfl) ?_
    refine h_nil ?_
    refine q_block ?_
    refine q_then ?_
    refine h_reg ?_
    refine h_op (r_add rfl rfl) ?_
    refine h_op (r_move rfl) ?_
    refine h_nil ?_
    change H _ _ _ _ _ (.own _ _ _ _ (endC o ++ End.cells ⟨x, (d : Int)⟩) :: _) _
    rw [endC_snoc o (x, d), hl]
    exact h_back (k + 1, o ++ [(x, d)], some ⟨g66, 0, none⟩, c66) (⟨by dsimp only; omega, by dsimp only; rw [ht k hk2, he, List.append_assoc]⟩) ((show ks.length - (k + 1) < ks.length - k by omega)) ⟨rfl, rfl, rfl, rfl, rfl, rfl, trivial⟩ (same)
  · obtain rfl : k = ks.length := by omega
    rw [List.take_length] at he
    subst he
    by_cases h3 : x.kind = 3
    · have hb2 : decide ((ks.length : Int) = 0) = b := by
        rw [← hb, h3]
        cases ks <;> simp
        omega
      refine h_exit ?_
      refine q_thenE ?_
      refine q_thenE ?_
      refine q_blockE ?_
      refine q_then ?_
      refine h_seq ?_
      refine h_reg ?_
      refine h_op (r_move rfl) ?_
      refine h_op (r_field rfl) ?_
      refine h_op (r_field rfl) ?_
      refine h_op (r_loadc rfl) ?_
      refine h_op (r_bool (r_neq rfl rfl) (show _ = false by simp [h3])) ?_
      refine h_op (r_move rfl) ?_
      refine h_op (r_move rfl) ?_
      refine h_op (r_len rfl) ?_
      refine h_op (r_bool (r_eql rfl rfl) hb2) ?_
      refine h_op (r_pick rfl rfl) ?_
      refine h_op (r_assign rfl) ?_
      refine h_op (r_assign rfl) ?_
      refine h_nil ?_
      refine q_then ?_
      refine h_ret ?_
      refine q_blockR ?_
      refine q_thenR ?_
      exact h_ret2 rfl rfl rfl fun w s => ⟨(A', c'), rfl, (same w s).res (List.Sublist.refl _) (by simp [Fa.wr])⟩
    · obtain rfl : b = true := by rw [← hb]; simp [h3]
      refine h_exit ?_
      refine q_thenE ?_
      refine q_thenE ?_
      refine q_blockE ?_
      refine q_then ?_
      refine h_seq ?_
      refine h_reg ?_
      refine h_op (r_move rfl) ?_
      refine h_op (r_field rfl) ?_
      refine h_op (r_field rfl) ?_
      refine h_op (r_loadc rfl) ?_
      refine h_op (r_bool (r_neq rfl rfl) (show _ = true by simp [h3])) ?_
      refine h_op (r_move rfl) ?_
      refine h_opOff ?_
      refine h_opOff ?_
      refine h_opOff ?_
      refine h_op (r_pick rfl rfl) ?_
      refine h_op (r_assign rfl) ?_
      refine h_op (r_assign rfl) ?_
      refine h_nil ?_
      refine q_then ?_
      refine h_ret ?_
      refine q_blockR ?_
      refine q_thenR ?_
      exact h_ret2 rfl rfl rfl fun w s => ⟨(A', c'), rfl, (same w s).res (List.Sublist.refl _) (by simp [Fa.wr])⟩
theorem ends_none (l r : Sub) (B : Option Addr) (cc d : Nat) (out : List (Item × Nat)) (A : Option Addr) (c : Nat) : Spec Tryz.prog 63 [.slice A out.length c, .iface (Sub.two l r).tag (Sub.two l r).val, .slice B 0 cc, .int .i64 (d : Int)].toArray [.zone false h] [.own (.slice A out.length c) out.length 55 98 (endC out)] (fun u : Option Addr × Nat => .tuple #[.slice u.1 out.length u.2, .bool false]) (fun u => [.own (.slice u.1 out.length u.2) out.length 55 98 (endC out)]) := by
  refine spec_of Tryz.func63 rfl (n := 79) rfl rfl ?_
  intro W
  change H _ _ _ _ (argsEnv 0 [.slice A out.length c, .iface 142 (.agg [.iface l.tag l.val, .iface r.tag r.val].toArray), .slice B 0 cc, .int .i64 (d : Int)]) _ _
  refine h_seq ?_
  refine h_reg ?_
  refine h_op (r_assign rfl) ?_
  refine h_op (r_assign rfl) ?_
  refine h_nil ?_
  refine q_then ?_
  refine h_seq ?_
  refine h_seq ?_
  refine h_reg ?_
  refine h_op (r_move rfl) ?_
  refine h_nil ?_
  refine q_then ?_
  refine h_block ?_
  refine h_seq ?_
  refine h_reg ?_
  refine h_op (r_as2 rfl) ?_
  refine h_op (r_extract rfl rfl) ?_
  refine h_op (r_extract rfl rfl) ?_
  refine h_nil ?_
  refine q_then ?_
  refine h_condT rfl ?_
  refine h_seq ?_
  refine h_reg ?_
  refine h_opX (x_alloc) fun g10 => ?_
  refine h_opS (s_storer rfl rfl) ?_
  refine h_nil ?_
  refine q_then ?_
  refine h_seq ?_
  refine h_seq ?_
  refine h_reg ?_
  refine h_op (r_move rfl) ?_
  refine h_op (r_len rfl) ?_
  refine h_op (r_bool (r_eql rfl rfl) (show _ = true from rfl)) ?_
  refine h_nil ?_
  refine q_then ?_
  refine h_condT rfl ?_
  refine h_seq ?_
  refine h_reg ?_
  refine h_op (r_move rfl) ?_
  refine h_op (r_assign rfl) ?_
  refine h_op (r_assign rfl) ?_
  refine h_nil ?_
  refine q_then ?_
  refine h_ret ?_
  refine q_thenR ?_
  refine q_blockR ?_
  refine q_thenR ?_
  exact h_ret2 rfl rfl rfl fun w s => ⟨(A, c), rfl, (same w s).res (List.Sublist.refl _) (by simp [Fa.wr])⟩
/-- what a call of ends brings -/
def EndsS (t : Sub) : Prop := ∀ (ks : List B32) (B : Option Addr) (cc d : Nat), RdZ h B (dgs ks) → ks.length ≤ cc → ks.length ≤ 100000 → ks.Pairwise ltK → AlikeK ks d → d + t.ht ≤ 256 → ∀ (out : List (Item × Nat)) (A : Option Addr) (c : Nat), out.length + ks.length ≤ 1000000 →
  Spec Tryz.prog 63 [.slice A out.length c, .iface t.tag t.val, .slice B ks.length cc, .int .i64 (d : Int)].toArray [.zone false h] [.own (.slice A out.length c) out.length 55 98 (endC out)] (fun u : Option Addr × Nat => .tuple #[.slice u.1 (out ++ (endsM t ks d).1).length u.2, .bool (endsM t ks d).2]) (fun u => [.own (.slice u.1 (out ++ (endsM t ks d).1).length u.2) (out ++ (endsM t ks d).1).length 55 98 (endC (out ++ (endsM t ks d).1))])
theorem ends_two (l r : Sub) (ihl : EndsS h l) (ihr : EndsS h r) (ks : List B32) (B : Option Addr) (cc d m : Nat) (hB : RdZ h B (dgs ks)) (hcc : ks.length ≤ cc) (hks : ks.length ≤ 100000) (hne : ks.length ≠ 0) (ho : ks.Pairwise ltK) (ha : AlikeK ks d) (hd : d + (Sub.two l r).ht ≤ 256) (hm : m ≤ ks.length) (hp : ∀ j, j < ks.length → bitAt (ks.getD j zB32) d = decide (m ≤ j)) (h1 : ks.take m = keysB ks d false) (h2 : ks.drop m = keysB ks d true) (out : List (Item × Nat)) (A : Option Addr) (c : Nat) (hsz : out.length + ks.length ≤ 1000000) (e1 e2 : List (Item × Nat)) (b1 b2 : Bool) (he1 : endsM l (keysB ks d false) (d + 1) = (e1, b1)) (he2 : endsM r (keysB ks d true) (d + 1) = (e2, b2)) :
    Spec Tryz.prog 63 [.slice A out.length c, .iface (Sub.two l r).tag (Sub.two l r).val, .slice B ks.length cc, .int .i64 (d : Int)].toArray [.zone false h] [.own (.slice A out.length c) out.length 55 98 (endC out)] (fun u : Option Addr × Nat => .tuple #[.slice u.1 (out ++ if b1 then e1 ++ e2 else e1).length u.2, .bool (b1 && b2)]) (fun u => [.own (.slice u.1 (out ++ if b1 then e1 ++ e2 else e1).length u.2) (out ++ if b1 then e1 ++ e2 else e1).length 55 98 (endC (out ++ if b1 then e1 ++ e2 else e1))]) := by
  have hht : d + (max l.ht r.ht + 1) ≤ 256 := hd
  have h0 : 0 < (dgs ks).length := by rw [dgs_len]; omega
  obtain ⟨b, o, rfl, -⟩ := hB.at_ 0 _ (List.getElem?_eq_getElem h0)
  have hlm : (ks.take m).length = m := by rw [List.length_take, Nat.min_eq_left hm]
  have hle1 := endsM_len l (keysB ks d false) (d + 1)
  rw [he1, ← h1, hlm] at hle1
  dsimp only at hle1
  have hL := ihl (ks.take m) (some ⟨b, o, none⟩) m (d + 1) (dgs_takeZ hB m) (by omega) (by omega) (by rw [h1]; exact keysB_ord ho _) (by rw [h1]; exact keysB_alike ha _) (by omega) out A c (by omega)
  have hR := ihr (ks.drop m) (cutA (some ⟨b, o, none⟩) cc m 32) (cc - m) (d + 1) (dgs_dropZ hB hm hcc) (by rw [List.length_drop]; omega) (by rw [List.length_drop]; omega) (by rw [h2]; exact keysB_ord ho _) (by rw [h2]; exact keysB_alike ha _) (by omega) (out ++ e1)
  rw [hlm, h1, he1] at hL
  rw [List.length_drop] at hR
  simp only [h2, he2] at hR
  dsimp only at hL
  have hS := Split_s ks (some ⟨b, o, none⟩) cc d m (by omega) (by omega) hm hp
  refine spec_of Tryz.func63 rfl (n := 79) rfl rfl ?_
  intro W
  change H _ _ _ _ (argsEnv 0 [.slice A out.length c, .iface 142 (.agg [.iface l.tag l.val, .iface r.tag r.val].toArray), .slice (some ⟨b, o, none⟩) ks.length cc, .int .i64 (d : Int)]) _ _
  refine h_seq ?_
  refine h_reg ?_
  refine h_op (r_assign rfl) ?_
  refine h_op (r_assign rfl) ?_
  refine h_nil ?_
  refine q_then ?_
  refine h_seq ?_
  refine h_seq ?_
  refine h_reg ?_
  refine h_op (r_move rfl) ?_
  refine h_nil ?_
  refine q_then ?_
  refine h_block ?_
  refine h_seq ?_
  refine h_reg ?_
  refine h_op (r_as2 rfl) ?_
  refine h_op (r_extract rfl rfl) ?_
  refine h_op (r_extract rfl rfl) ?_
  refine h_nil ?_
  refine q_then ?_
  refine h_condT rfl ?_
  refine h_seq ?_
  refine h_reg ?_
  refine h_opX (x_alloc) fun g10 => ?_
  refine h_opS (s_storer rfl rfl) ?_
  refine h_nil ?_
  refine q_then ?_
  refine h_seq ?_
  refine h_seq ?_
  refine h_reg ?_
  refine h_op (r_move rfl) ?_
  refine h_op (r_len rfl) ?_
  refine h_op (r_bool (r_eql rfl rfl) (decide_eq_false (by omega))) ?_
  refine h_nil ?_
  refine q_then ?_
  refine h_condF rfl ?_
  refine h_skip ?_
  refine q_then ?_
  refine h_seq ?_
  refine h_reg ?_
  refine h_op (r_move rfl) ?_
  refine h_op (r_move rfl) ?_
  refine h_call (hS.comes) rfl rfl rfl fun _ => ?_
  refine h_op (r_assign rfl) ?_
  refine h_nil ?_
  refine q_then ?_
  refine h_seq ?_
  refine ha_start [.zone false h, .blk g10 [.iface l.tag l.val, .iface r.tag r.val] 142] [] mixed (same) ?_
  refine ha_takeP 0 rfl (r_move rfl) ?_
  refine ha_takeP 1 rfl (r_idxA rfl rfl) ?_
  refine ha_take 2 rfl (r_loadc rfl) ?_
  refine ha_takeP 3 rfl (r_move rfl) ?_
  refine ha_takeP 4 rfl (r_move rfl) ?_
  refine ha_takeP 5 rfl (r_move rfl) ?_
  refine ha_takeP 6 rfl (r_slHM rfl rfl rfl) ?_
  refine ha_takeP 7 rfl (r_move rfl) ?_
  refine ha_takeP 8 rfl (r_add rfl rfl) ?_
  refine ha_one 9 ?_
  refine ho_C 9 rfl (hL.comes) rfl rfl rfl (fun _ => same) fun ⟨A36, c36⟩ => ?_
  refine ha_takeP 10 rfl (r_move rfl) ?_
  refine ha_takeP 11 rfl (r_extract rfl rfl) ?_
  refine ha_takeP 12 rfl (r_extract rfl rfl) ?_
  refine ha_takeP 13 rfl (r_assign rfl) ?_
  refine ha_takeP 14 rfl (r_assign rfl) ?_
  refine ha_done (by kernel_rfl) ?_
  refine q_then ?_
  cases b1
  · refine h_seq ?_
    refine h_seq ?_
    refine h_reg ?_
    refine h_op (r_move rfl) ?_
    refine h_op (r_not rfl) ?_
    refine h_nil ?_
    refine q_then ?_
    refine h_condT rfl ?_
    refine h_seq ?_
    refine h_reg ?_
    refine h_op (r_move rfl) ?_
    refine h_op (r_assign rfl) ?_
    refine h_op (r_assign rfl) ?_
    refine h_nil ?_
    refine q_then ?_
    refine h_ret ?_
    refine q_thenR ?_
    refine q_blockR ?_
    refine q_thenR ?_
    rw [if_neg Bool.false_ne_true]
    exact h_ret2 rfl rfl rfl fun w s => ⟨(A36, c36), rfl, (same w s).res (List.Sublist.refl _) (by simp [Fa.wr])⟩
  · refine h_seq ?_
    refine h_seq ?_
    refine h_reg ?_
    refine h_op (r_move rfl) ?_
    refine h_op (r_not rfl) ?_
    refine h_nil ?_
    refine q_then ?_
    refine h_condF rfl ?_
    refine h_skip ?_
    refine q_then ?_
    refine h_seq ?_
    rw [if_pos rfl, ← List.append_assoc]
    refine ha_start [.zone false h, .blk g10 [.iface l.tag l.val, .iface r.tag r.val] 142] [] mixed (same) ?_
    refine ha_takeP 0 rfl (r_move rfl) ?_
    refine ha_takeP 1 rfl (r_idxA rfl rfl) ?_
    refine ha_take 2 rfl (r_loadc rfl) ?_
    refine ha_takeP 3 rfl (r_move rfl) ?_
    refine ha_takeP 4 rfl (r_move rfl) ?_
    refine ha_takeP 5 rfl (r_slL rfl rfl) ?_
    refine ha_takeP 6 rfl (r_move rfl) ?_
    refine ha_takeP 7 rfl (r_add rfl rfl) ?_
    refine ha_one 8 ?_
    refine ho_C 8 rfl ((hR A36 c36 (by rw [List.length_append]; omega)).comes) rfl rfl rfl (fun _ => same) fun ⟨A50, c50⟩ => ?_
    refine ha_takeP 9 rfl (r_extract rfl rfl) ?_
    refine ha_takeP 10 rfl (r_extract rfl rfl) ?_
    refine ha_takeP 11 rfl (r_assign rfl) ?_
    refine ha_takeP 12 rfl (r_assign rfl) ?_
    refine ha_done (by kernel_rfl) ?_
    refine q_then ?_
    refine h_ret ?_
    refine q_blockR ?_
    refine q_thenR ?_
    exact h_ret2 rfl rfl rfl fun w s => ⟨(A50, c50), rfl, (same w s).res (List.Sublist.refl _) (by simp [Fa.wr])⟩
theorem ends_s : ∀ t : Sub, EndsS h t
  | .one x => fun ks B cc d _ _ hks _ _ _ out A c ho => ends_one h x ks B cc d hks out A c ho _ rfl
  | .two l r => fun ks B cc d hB hcc hks hord hal hd out A c ho => by
    cases ks with
    | nil =>
      have h1 : endsM (.two l r) [] d = ([], false) := by unfold endsM; rfl
      rw [h1, List.append_nil]
      exact ends_none h l r B cc d out A c
    | cons x ks =>
      obtain ⟨m, m1, m2, m3, m4⟩ := split_at hord hal
      have h1 : endsM (.two l r) (x :: ks) d = (if (endsM l (keysB (x :: ks) d false) (d + 1)).2 then (endsM l (keysB (x :: ks) d false) (d + 1)).1 ++ (endsM r (keysB (x :: ks) d true) (d + 1)).1 else (endsM l (keysB (x :: ks) d false) (d + 1)).1, (endsM l (keysB (x :: ks) d false) (d + 1)).2 && (endsM r (keysB (x :: ks) d true) (d + 1)).2) := by
        conv => lhs; unfold endsM
        cases (endsM l (keysB (x :: ks) d false) (d + 1)).2 <;> simp
      rw [h1]
      exact ends_two h l r (ends_s l) (ends_s r) (x :: ks) B cc d m hB hcc hks (by simp) hord hal hd m1 m2 m3 m4 out A c ho _ _ _ _ rfl rfl
end
/-! Ends -/
section
variable (h : Zh) (l : List Item) (A : Option Addr) (c : Nat) [hr : RdZ h A (its l)] (hc : l.length ≤ c) (hl : l.length ≤ 1000000) (ks : List B32) (B : Option Addr) (cc : Nat) [hB : RdZ h B (dgs ks)]
include hc hl
theorem Ends_s (t : Sub) (hp : parseM l = .ok t) (hcc : ks.length ≤ cc) (hk : ks.length ≤ 100000) (he : keysE ks = 0) (es : List (Item × Nat)) (b : Bool) (hE : endsM t ks 0 = (es, b)) : Spec Tryz.prog 21 [.slice A l.length c, .slice B ks.length cc].toArray [.zone false h] [] (fun u : Option Addr × Nat => .tuple (if b then #[.slice u.1 es.length u.2, .int .i64 0] else #[.slice none 0 0, .int .i64 12])) (fun u => if b then [.own (.slice u.1 es.length u.2) es.length 55 98 (endC es)] else []) := by
  have hP := parse_s h l A c hc hl
  rw [hp] at hP
  obtain ⟨h1, h2, h3⟩ := keysE_ok he
  have hK := mKeys_s ks B cc (by omega)
  rw [he] at hK
  have hht := (parse_flat hp).2.2
  have hA := ends_s h t ks B cc 0 hB hcc hk h3 (fun _ _ _ _ i hi => absurd hi (by omega)) (by omega) [] none 0 (by simp; omega)
  rw [hE] at hA
  simp only [List.nil_append, List.length_nil] at hA
  refine spec_of Tryz.func21 rfl (n := 31) rfl rfl ?_
  intro W
  refine h_seq ?_
  refine h_reg ?_
  refine h_op (r_assign rfl) ?_
  refine h_op (r_assign rfl) ?_
  refine h_nil ?_
  refine q_then ?_
  refine h_seq ?_
  refine h_reg ?_
  refine h_op (r_move rfl) ?_
  refine h_call (hP.comes) rfl rfl rfl fun _ => ?_
  refine h_op (r_move rfl) ?_
  refine h_op (r_extract rfl rfl) ?_
  refine h_op (r_extract rfl rfl) ?_
  refine h_op (r_assign rfl) ?_
  refine h_op (r_assign rfl) ?_
  refine h_nil ?_
  refine q_then ?_
  refine h_seq ?_
  refine h_seq ?_
  refine h_reg ?_
  refine h_op (r_move rfl) ?_
  refine h_op (r_eql rfl rfl) ?_
  refine h_nil ?_
  refine q_then ?_
  refine h_yes rfl (rfl) ?_
  refine h_reg ?_
  refine h_op (r_move rfl) ?_
  refine h_call (hK.comes) rfl rfl rfl fun _ => ?_
  refine h_op (r_assign rfl) ?_
  refine h_nil ?_
  refine q_then ?_
  refine h_seq ?_
  refine h_seq ?_
  refine h_reg ?_
  refine h_op (r_move rfl) ?_
  refine h_op (r_neq rfl rfl) ?_
  refine h_nil ?_
  refine q_then ?_
  refine h_no rfl ((fun h => h rfl)) ?_
  refine h_skip ?_
  refine q_then ?_
  refine h_seq ?_
  refine h_reg ?_
  refine h_op (r_move rfl) ?_
  refine h_op (r_move rfl) ?_
  refine h_nil_own 55 98 (xs := endC []) rfl ?_
  refine h_call (hA.comes) rfl rfl rfl fun ⟨A25, c25⟩ => ?_
  cases b
  · refine h_op (r_move rfl) ?_
    refine h_op (r_extract rfl rfl) ?_
    refine h_op (r_extract rfl rfl) ?_
    refine h_op (r_assign rfl) ?_
    refine h_op (r_assign rfl) ?_
    refine h_nil ?_
    refine q_then ?_
    refine h_seq ?_
    refine h_seq ?_
    refine h_reg ?_
    refine h_op (r_move rfl) ?_
    refine h_op (r_not rfl) ?_
    refine h_nil ?_
    refine q_then ?_
    refine h_condT rfl ?_
    refine h_seq ?_
    refine h_reg ?_
    refine h_op (r_assign rfl) ?_
    refine h_op (r_assign rfl) ?_
    refine h_nil ?_
    refine q_then ?_
    refine h_ret ?_
    refine q_thenR ?_
    exact h_ret2 rfl rfl rfl fun w s => ⟨(none, 0), rfl, s.res (List.nil_sublist _) (by simp)⟩
  · refine h_op (r_move rfl) ?_
    refine h_op (r_extract rfl rfl) ?_
    refine h_op (r_extract rfl rfl) ?_
    refine h_op (r_assign rfl) ?_
    refine h_op (r_assign rfl) ?_
    refine h_nil ?_
    refine q_then ?_
    refine h_seq ?_
    refine h_seq ?_
    refine h_reg ?_
    refine h_op (r_move rfl) ?_
    refine h_op (r_not rfl) ?_
    refine h_nil ?_
    refine q_then ?_
    refine h_condF rfl ?_
    refine h_skip ?_
    refine q_then ?_
    refine h_seq ?_
    refine h_reg ?_
    refine h_op (r_move rfl) ?_
    refine h_op (r_assign rfl) ?_
    refine h_op (r_assign rfl) ?_
    refine h_nil ?_
    refine q_then ?_
    refine h_ret ?_
    exact h_ret2 rfl rfl rfl fun w s => ⟨(A25, c25), rfl, (same (L' := [.own (.slice A25 es.length c25) es.length 55 98 (endC es)]) w s).res (List.Sublist.refl _) (by simp [Fa.wr])⟩
end
end Go.Proofs.YtgfkbeipckbkiaaGreatDoor
/- U79 -/
namespace Go.Proofs.YtgfkbeipckbkiaaGreatDoor
set_option linter.unusedSimpArgs false
set_option linter.unusedVariables false
open Go.RowKit
theorem itemFields' : ∃ f1 f2 f3 : Field, Tryz.prog.underlying 53 = some (.struct #[f1, f2, f3]) ∧ (f1.name == "_") = false ∧ (f2.name == "_") = false ∧ (f3.name == "_") = false ∧ f1.type = 3 ∧ f2.type = 41 ∧ f3.type = 51 ∧ f1.offset = 0 ∧ f2.offset = 1 ∧ f3.offset = 33 :=
  ⟨_, _, _, Tryz.underlying53, by decide, by decide, by decide, rfl, rfl, rfl, rfl, rfl, rfl⟩
theorem eqItem' {w : World} (d : Nat) (x y : Item) : (Op.equalIn (d + 4) 53 (.agg x.cells.toArray) (.agg y.cells.toArray)).run Tryz.prog w = .ok (decide (x = y)) w := by
  obtain ⟨f1, f2, f3, hT, m1, m2, m3, t1, t2, t3, o1, o2, o3⟩ := itemFields'
  exact eq_Item d hT Tryz.stoodInHeld53 m1 m2 m3 t1 t2 t3 o1 o2 o3 Tryz.underlying3 Tryz.underlying41 Tryz.underlying5 (by kernel_rfl) (by kernel_rfl) (eqLeaf' d) Tryz.underlying51 rfl (by kernel_rfl) x y
instance (x y : Item) : TEq Tryz.prog 53 x.cells y.cells (decide (x = y)) := ⟨fun w d => eqItem' (d + 2) x y, Tryz.eqGuardType53⟩
theorem its_item {l : List Item} {k : Nat} {x : Item} (h : l[k]? = some x) : ∀ j v, x.cells[j]? = some v → (its l)[k * 97 + j]? = some v := its_at h
theorem rSame19_yes (l : List Item) (A B : Option Addr) (c c' : Nat) (hl : l.length ≤ 100000000) : Spec Tryz.prog 18 [.slice A l.length c, .slice B l.length c'].toArray [.rd A (its l), .rd B (its l)] [] (fun _ : Unit => .bool true) (fun _ => []) := by
  refine spec_of Tryz.func18 rfl (n := 26) rfl rfl ?_
  intro W
  refine h_seq ?_
  refine h_reg ?_
  refine h_op (r_assign rfl) ?_
  refine h_nil ?_
  refine q_then ?_
  refine h_seq ?_
  refine h_seq ?_
  refine h_reg ?_
  refine h_op (r_move rfl) ?_
  refine h_op (r_len rfl) ?_
  refine h_op (r_move rfl) ?_
  refine h_op (r_len rfl) ?_
  refine h_op (r_neq rfl rfl) ?_
  refine h_nil ?_
  refine q_then ?_
  refine h_no rfl ((fun h => h rfl)) ?_
  refine h_skip ?_
  refine q_then ?_
  refine h_seq ?_
  refine h_seq ?_
  refine h_reg ?_
  refine h_op (r_assign rfl) ?_
  refine h_nil ?_
  refine q_then ?_
  refine h_block ?_
  refine h_loop (fun (k : Nat) => k ≤ l.length) (fun (k : Nat) => [(5, .int .i64 (k : Int)), (0, .slice A l.length c), (1, .slice B l.length c')]) (fun (k : Nat) => [.rd A (its l), .rd B (its l)]) (fun (k : Nat) => l.length - k) 0 ((show 0 ≤ l.length from Nat.zero_le _)) ⟨rfl, rfl, rfl, trivial⟩ (same) ?_
  rintro k hk
  refine h_seq ?_
  refine h_seq ?_
  refine h_reg ?_
  refine h_op (r_move rfl) ?_
  refine h_op (r_move rfl) ?_
  refine h_op (r_len rfl) ?_
  refine h_op (r_lss rfl rfl) ?_
  refine h_nil ?_
  refine q_then ?_
  refine h_cond rfl (fun hlt => ?_) (fun hlt => ?_)
  · obtain ⟨x, hx⟩ : ∃ x, l[k]? = some x := ⟨_, List.getElem?_eq_getElem (by omega)⟩
    refine h_pure (φ := ∃ b o, A = some ⟨b, o, none⟩) (fun w s => Rd.some (s.ok (.rd A (its l)) (by simp)) (by rw [its_len]; omega)) ?_
    rintro ⟨b, o, rfl⟩
    refine h_pure (φ := ∃ b o, B = some ⟨b, o, none⟩) (fun w s => Rd.some (s.ok (.rd B (its l)) (by simp)) (by rw [its_len]; omega)) ?_
    rintro ⟨b', o', rfl⟩
    refine h_skip ?_
    refine q_then ?_
    refine h_seq ?_
    refine h_block ?_
    refine h_seq ?_
    refine ha_start [.rd (some ⟨b, o, none⟩) (its l), .rd (some ⟨b', o', none⟩) (its l)] [] mixed (same) ?_
    refine ha_takeP 0 rfl (r_move rfl) ?_
    refine ha_takeP 1 rfl (r_move rfl) ?_
    refine ha_takeP 2 rfl (r_idx rfl rfl) ?_
    refine ha_take 3 rfl (r_nthr rfl (out := x.cells) (Item.cells_length _) (its_item hx)) ?_
    refine ha_takeP 4 rfl (r_move rfl) ?_
    refine ha_takeP 5 rfl (r_move rfl) ?_
    refine ha_takeP 6 rfl (r_idx rfl rfl) ?_
    refine ha_take 7 rfl (r_nthr rfl (out := x.cells) (Item.cells_length _) (its_item hx)) ?_
    refine ha_takeP 8 rfl (r_ner rfl rfl) ?_
    refine ha_done (by kernel_rfl) ?_
    refine q_then ?_
    refine h_no rfl ((fun h => h rfl)) ?_
    refine h_skip ?_
    refine q_block ?_
    refine q_then ?_
    refine h_reg ?_
    refine h_op (r_move rfl) ?_
    refine h_op (r_add rfl rfl) ?_
    refine h_op (r_assign rfl) ?_
    refine h_nil ?_
    exact h_back (k + 1) ((show k + 1 ≤ l.length by omega)) ((show l.length - (k + 1) < l.length - k by omega)) ⟨rfl, rfl, rfl, trivial⟩ (same)
  · refine h_exit ?_
    refine q_thenE ?_
    refine q_thenE ?_
    refine q_blockE ?_
    refine q_then ?_
    refine h_seq ?_
    refine h_reg ?_
    refine h_op (r_assign rfl) ?_
    refine h_nil ?_
    refine q_then ?_
    refine h_ret ?_
    exact h_ret1 rfl rfl fun w s => ⟨(), rfl, s.res (List.nil_sublist _) (by simp)⟩
theorem Few19_s (l : List Item) (A : Option Addr) (c : Nat) : Spec Tryz.prog 27 [.slice A l.length c].toArray [] [] (fun _ : Unit => .int .i64 (if l.length ≤ 1200 then 1 else 0)) (fun _ => []) := by
  refine spec_of Tryz.func27 rfl (n := 6) rfl rfl ?_
  intro W
  by_cases h : l.length ≤ 1200
  · rw [if_pos h]
    refine h_seq ?_
    refine h_reg ?_
    refine h_op (r_assign rfl) ?_
    refine h_nil ?_
    refine q_then ?_
    refine h_seq ?_
    refine h_seq ?_
    refine h_reg ?_
    refine h_op (r_move rfl) ?_
    refine h_op (r_len rfl) ?_
    refine h_op (r_gtr rfl rfl) ?_
    refine h_nil ?_
    refine q_then ?_
    refine h_no rfl ((by omega)) ?_
    refine h_skip ?_
    refine q_then ?_
    refine h_seq ?_
    refine h_reg ?_
    refine h_op (r_assign rfl) ?_
    refine h_nil ?_
    refine q_then ?_
    refine h_ret ?_
    exact h_ret1 rfl rfl fun w s => ⟨(), rfl, s.res (List.nil_sublist _) (by simp)⟩
  · rw [if_neg h]
    refine h_seq ?_
    refine h_reg ?_
    refine h_op (r_assign rfl) ?_
    refine h_nil ?_
    refine q_then ?_
    refine h_seq ?_
    refine h_seq ?_
    refine h_reg ?_
    refine h_op (r_move rfl) ?_
    refine h_op (r_len rfl) ?_
    refine h_op (r_gtr rfl rfl) ?_
    refine h_nil ?_
    refine q_then ?_
    refine h_yes rfl ((by omega)) ?_
    refine h_seq ?_
    refine h_reg ?_
    refine h_op (r_assign rfl) ?_
    refine h_nil ?_
    refine q_then ?_
    refine h_ret ?_
    refine q_thenR ?_
    exact h_ret1 rfl rfl fun w s => ⟨(), rfl, s.res (List.nil_sublist _) (by simp)⟩
end Go.Proofs.YtgfkbeipckbkiaaGreatDoor
/- U39 -/
namespace Go.Proofs.YtgfkbeipckbkiaaGreatDoor
set_option linter.unusedSimpArgs false
set_option linter.unusedVariables false
open Go.RowKit
/-- what Put has written behind k entries of the rest -/
def putK (e : En) (r : List En) (k : Nat) (done : Bool) : List En := if done then insE e (r.take k) else r.take k
theorem putK_len (e : En) (r : List En) (k : Nat) (done : Bool) : (putK e r k done).length ≤ r.length + 1 := by
  unfold putK
  split
  · rw [insE_len, List.length_take]; omega
  · rw [List.length_take]; omega
/-- whether it is done -/
def doneK (e : En) (r : List En) (k : Nat) (done : Bool) : Prop := if done = true then ∃ f ∈ r.take k, cmpB e.key f.key < 0 else ∀ f ∈ r.take k, ¬ cmpB e.key f.key < 0
theorem take_snocE {α : Type} {l : List α} {k : Nat} {x : α} (h : l[k]? = some x) : l.take (k + 1) = l.take k ++ [x] := by rw [List.take_add_one, h]; rfl
theorem putK_done {e x : En} {r : List En} {k : Nat} (h : r[k]? = some x) (hd : doneK e r k true) : putK e r (k + 1) true = putK e r k true ++ [x] ∧ doneK e r (k + 1) true := by
  unfold doneK at hd ⊢
  rw [if_pos rfl] at hd ⊢
  unfold putK
  rw [if_pos rfl, if_pos rfl, take_snocE h, insE_snoc_in hd]
  obtain ⟨f, hf, h2⟩ := hd
  exact ⟨rfl, f, List.mem_append_left _ hf, h2⟩
theorem putK_now {e x : En} {r : List En} {k : Nat} (h : r[k]? = some x) (hd : doneK e r k false) (hc : cmpB e.key x.key < 0) : putK e r (k + 1) true = putK e r k false ++ [e] ++ [x] ∧ doneK e r (k + 1) true := by
  unfold doneK at hd ⊢
  rw [if_neg (by simp)] at hd
  rw [if_pos rfl]
  unfold putK
  rw [if_pos rfl, if_neg (by simp), take_snocE h, insE_snoc_now hd hc]
  exact ⟨by simp, x, by simp, hc⟩
theorem putK_not {e x : En} {r : List En} {k : Nat} (h : r[k]? = some x) (hd : doneK e r k false) (hc : ¬ cmpB e.key x.key < 0) : putK e r (k + 1) false = putK e r k false ++ [x] ∧ doneK e r (k + 1) false := by
  unfold doneK at hd ⊢
  rw [if_neg (by simp)] at hd ⊢
  unfold putK
  rw [if_neg (by simp), if_neg (by simp), take_snocE h]
  refine ⟨rfl, fun f hf => ?_⟩
  rcases List.mem_append.1 hf with hf | hf
  · exact hd f hf
  · rw [List.mem_singleton.1 hf]; exact hc
theorem putK_end {e : En} {r : List En} {done : Bool} (hd : doneK e r r.length done) : insE e r = if done then putK e r r.length true else putK e r r.length false ++ [e] := by
  unfold doneK at hd
  unfold putK
  cases done
  · rw [if_neg (by simp), List.take_length] at hd
    rw [insE_none hd]; simp
  · simp
theorem remK_len (m : List En) (key : B32) : (remK m key).length ≤ m.length := List.length_filter_le _ _
theorem Put_s (m : List En) (B : Option Addr) (c : Nat) (e : En) (hm : m.length ≤ 10000000) : Spec Tryz.prog 94 [.slice B m.length c, .agg e.key.cells.toArray, .slice e.e.value.A e.e.value.n e.e.value.c].toArray [.rd B (ents m)] [] (fun u : Option Addr × Nat => .slice u.1 (putM m e).length u.2) (fun u => [.own (.slice u.1 (putM m e).length u.2) (putM m e).length 109 33 (ents (putM m e))]) := by
  have hrl := remK_len m e.key
  unfold putM
  refine spec_of Tryz.func94 rfl (n := 54) rfl rfl ?_
  intro W
  refine h_seq ?_
  refine h_reg ?_
  refine h_opX (x_box rfl) fun g4 => ?_
  refine h_op (r_assign rfl) ?_
  refine h_nil ?_
  refine q_then ?_
  refine h_seq ?_
  refine h_reg ?_
  refine h_op (r_assign rfl) ?_
  refine h_nil ?_
  refine q_then ?_
  refine h_seq ?_
  refine h_reg ?_
  refine h_op (r_assign rfl) ?_
  refine h_nil ?_
  refine q_then ?_
  refine h_seq ?_
  refine h_reg ?_
  refine h_op (r_move rfl) ?_
  refine h_op (r_loadr rfl) ?_
  refine h_call ((Remove_s m B c e.key (by omega)).comes) rfl rfl rfl fun ⟨A13, c13⟩ => ?_
  dsimp only
  have hR : Spec Tryz.prog 100 [.agg e.key.cells.toArray, .agg e.key.cells.toArray].toArray [] [] (fun _ : Unit => .int .i64 (cmpB e.key e.key)) (fun _ => []) := Compare_s e.key e.key
  clear hR
  generalize remK m e.key = r at *
  refine h_pure (φ := ∀ i, i < r.length → ∃ g, A13 = some ⟨g, 0, none⟩) (fun w s i hi => s.ownSome (N := r.length) (c := c13) (by omega)) fun hA13 => ?_
  refine h_op (r_assign rfl) ?_
  refine h_nil ?_
  refine q_then ?_
  refine h_seq ?_
  refine h_seq ?_
  refine h_reg ?_
  refine h_op (r_assign rfl) ?_
  refine h_nil ?_
  refine q_then ?_
  refine h_block ?_
  refine h_nil_own 109 33 (xs := ents (putK e r 0 false)) rfl ?_
  change H _ _ _ _ _ (.own (.slice none (putK e r 0 false).length 0) (putK e r 0 false).length _ _ _ :: _) _
  refine h_loop (fun (s : Nat × Bool × Option Addr × Nat) => s.1 ≤ r.length ∧ doneK e r s.1 s.2.1) (fun (s : Nat × Bool × Option Addr × Nat) => [(10, .int .i64 (s.1 : Int)), (8, .bool s.2.1), (7, .slice s.2.2.1 (putK e r s.1 s.2.1).length s.2.2.2), (9, .slice A13 r.length c13), (4, .pointer (some ⟨g4, 0, none⟩)), (2, .slice e.e.value.A e.e.value.n e.e.value.c)]) (fun (s : Nat × Bool × Option Addr × Nat) => [.own (.slice s.2.2.1 (putK e r s.1 s.2.1).length s.2.2.2) (putK e r s.1 s.2.1).length 109 33 (ents (putK e r s.1 s.2.1)), .own (.slice A13 r.length c13) r.length 109 33 (ents r), .blk g4 e.key.cells 39]) (fun (s : Nat × Bool × Option Addr × Nat) => r.length - s.1) (0, false, none, 0) ((show 0 ≤ r.length ∧ doneK e r 0 false from ⟨Nat.zero_le _, by unfold doneK; rw [if_neg (by simp)]; intro f hf; simp at hf⟩)) ⟨rfl, rfl, rfl, rfl, rfl, rfl, trivial⟩ (same) ?_
  rintro ⟨k, done, A, c'⟩ ⟨hk, hd⟩
  dsimp only at hk hd ⊢
  have hlen := putK_len e r k done
  refine h_seq ?_
  refine h_seq ?_
  refine h_reg ?_
  refine h_op (r_move rfl) ?_
  refine h_op (r_move rfl) ?_
  refine h_op (r_len rfl) ?_
  refine h_op (r_lss rfl rfl) ?_
  refine h_nil ?_
  refine q_then ?_
  refine h_cond rfl (fun h => ?_) (fun h => ?_)
  · obtain ⟨x, hx⟩ := getE (l := r) (k := k) (by omega)
    obtain ⟨g, rfl⟩ := hA13 k (by omega)
    rcases done with _ | _
    · by_cases hc : cmpB e.key x.key < 0
      · obtain ⟨hp, hd2⟩ := putK_now hx hd hc
        have hl : (putK e r k false).length + 1 + 1 = (putK e r (k + 1) true).length := by rw [hp]; simp
        refine h_skip ?_
        refine q_then ?_
        refine h_seq ?_
        refine h_block ?_
        refine h_seq ?_
        refine h_seq ?_
        refine ha_start [.blk g4 e.key.cells 39, .own (.slice (some ⟨g, 0, none⟩) r.length c13) r.length 109 33 (ents r)] [] mixed (same) ?_
        refine ha_takeP 0 rfl (r_move rfl) ?_
        refine ha_takeP 1 rfl (r_not rfl) ?_
        refine ha_takeP 2 rfl (r_move rfl) ?_
        refine ha_take 3 rfl (r_loadr rfl) ?_
        refine ha_takeP 4 rfl (r_move rfl) ?_
        refine ha_takeP 5 rfl (r_move rfl) ?_
        refine ha_takeP 6 rfl (r_idx rfl rfl) ?_
        refine ha_takeP 7 rfl (r_field rfl) ?_
        refine ha_take 8 rfl (r_nthr rfl (out := x.key.cells) (B32.cells_length _) (ents_key hx)) ?_
        refine ha_one 9 ?_
        refine ho_C 9 rfl ((Compare_s e.key x.key).comes) rfl rfl rfl (fun _ => same) fun _ => ?_
        refine ha_takeP 10 rfl (r_bool (r_lss rfl rfl) (decide_eq_true hc)) ?_
        refine ha_takeP 11 rfl (r_pick rfl rfl) ?_
        refine ha_done (by kernel_rfl) ?_
        refine q_then ?_
        refine h_condT rfl ?_
        refine h_seq ?_
        refine h_reg ?_
        refine h_op (r_move rfl) ?_
        refine h_op (r_loadr rfl) ?_
        refine h_op (r_move rfl) ?_
        refine h_op (r_build rfl) ?_
        refine h_opX (x_bsl rfl rfl) fun g36 => ?_
        refine h_opX (x_app rfl rfl (k := 33)) fun ⟨g37, c37⟩ => ?_
        refine h_op (r_assign rfl) ?_
        refine h_nil ?_
        refine q_then ?_
        refine h_reg ?_
        refine h_op (r_assign rfl) ?_
        refine h_nil ?_
        refine q_then ?_
        refine h_reg ?_
        refine h_op (r_move rfl) ?_
        refine h_op (r_move rfl) ?_
        refine h_op (r_move rfl) ?_
        refine h_op (r_idx rfl rfl) ?_
        refine h_op (r_nthr rfl (out := x.e.cells) (Entry.cells_length _) (ents_at hx)) ?_
        refine h_opX (x_bsl rfl rfl) fun g43 => ?_
        refine h_opX (x_app rfl rfl (k := 33)) fun ⟨g44, c44⟩ => ?_
        refine h_op (r_assign rfl) ?_
        refine h_nil ?_
        refine q_block ?_
        refine q_then ?_
        refine h_reg ?_
        refine h_op (r_move rfl) ?_
        refine h_op (r_add rfl rfl) ?_
        refine h_op (r_assign rfl) ?_
        refine h_nil ?_
        rw [show Entry.cells _ = e.e.cells from rfl, ents_snoc, ents_snoc, ← hp, hl]
        exact h_back (k + 1, true, some ⟨g44, 0, none⟩, c44) ((show k + 1 ≤ r.length ∧ doneK e r (k + 1) true from ⟨by omega, hd2⟩)) ((show r.length - (k + 1) < r.length - k by omega)) ⟨rfl, rfl, rfl, rfl, rfl, rfl, trivial⟩ (same)
      · obtain ⟨hp, hd2⟩ := putK_not hx hd hc
        have hl : (putK e r k false).length + 1 = (putK e r (k + 1) false).length := by rw [hp]; simp
        refine h_skip ?_
        refine q_then ?_
        refine h_seq ?_
        refine h_block ?_
        refine h_seq ?_
        refine h_seq ?_
        refine ha_start [.blk g4 e.key.cells 39, .own (.slice (some ⟨g, 0, none⟩) r.length c13) r.length 109 33 (ents r)] [] mixed (same) ?_
        refine ha_takeP 0 rfl (r_move rfl) ?_
        refine ha_takeP 1 rfl (r_not rfl) ?_
        refine ha_takeP 2 rfl (r_move rfl) ?_
        refine ha_take 3 rfl (r_loadr rfl) ?_
        refine ha_takeP 4 rfl (r_move rfl) ?_
        refine ha_takeP 5 rfl (r_move rfl) ?_
        refine ha_takeP 6 rfl (r_idx rfl rfl) ?_
        refine ha_takeP 7 rfl (r_field rfl) ?_
        refine ha_take 8 rfl (r_nthr rfl (out := x.key.cells) (B32.cells_length _) (ents_key hx)) ?_
        refine ha_one 9 ?_
        refine ho_C 9 rfl ((Compare_s e.key x.key).comes) rfl rfl rfl (fun _ => same) fun _ => ?_
        refine ha_takeP 10 rfl (r_bool (r_lss rfl rfl) (decide_eq_false hc)) ?_
        refine ha_takeP 11 rfl (r_pick rfl rfl) ?_
        refine ha_done (by kernel_rfl) ?_
        refine q_then ?_
        refine h_condF rfl ?_
        refine h_skip ?_
        refine q_then ?_
        refine h_reg ?_
        refine h_op (r_move rfl) ?_
        refine h_op (r_move rfl) ?_
        refine h_op (r_move rfl) ?_
        refine h_op (r_idx rfl rfl) ?_
        refine h_op (r_nthr rfl (out := x.e.cells) (Entry.cells_length _) (ents_at hx)) ?_
        refine h_opX (x_bsl rfl rfl) fun g43 => ?_
        refine h_opX (x_app rfl rfl (k := 33)) fun ⟨g44, c44⟩ => ?_
        refine h_op (r_assign rfl) ?_
        refine h_nil ?_
        refine q_block ?_
        refine q_then ?_
        refine h_reg ?_
        refine h_op (r_move rfl) ?_
        refine h_op (r_add rfl rfl) ?_
        refine h_op (r_assign rfl) ?_
        refine h_nil ?_
        rw [ents_snoc, ← hp, hl]
        exact h_back (k + 1, false, some ⟨g44, 0, none⟩, c44) ((show k + 1 ≤ r.length ∧ doneK e r (k + 1) false from ⟨by omega, hd2⟩)) ((show r.length - (k + 1) < r.length - k by omega)) ⟨rfl, rfl, rfl, rfl, rfl, rfl, trivial⟩ (same)
    · obtain ⟨hp, hd2⟩ := putK_done hx hd
      have hl : (putK e r k true).length + 1 = (putK e r (k + 1) true).length := by rw [hp]; simp
      refine h_skip ?_
      refine q_then ?_
      refine h_seq ?_
      refine h_block ?_
      refine h_seq ?_
      refine h_seq ?_
      refine ha_start [.blk g4 e.key.cells 39, .own (.slice (some ⟨g, 0, none⟩) r.length c13) r.length 109 33 (ents r)] [] mixed (same) ?_
      refine ha_takeP 0 rfl (r_move rfl) ?_
      refine ha_takeP 1 rfl (r_not rfl) ?_
      refine ha_takeP 2 rfl (r_move rfl) ?_
      refine ha_off 3 rfl ?_
      refine ha_off 4 rfl ?_
      refine ha_off 5 rfl ?_
      refine ha_off 6 rfl ?_
      refine ha_off 7 rfl ?_
      refine ha_off 8 rfl ?_
      refine ha_off 9 rfl ?_
      refine ha_off 10 rfl ?_
      refine ha_takeP 11 rfl (r_pick rfl rfl) ?_
      refine ha_done (by kernel_rfl) ?_
      refine q_then ?_
      refine h_condF rfl ?_
      refine h_skip ?_
      refine q_then ?_
      refine h_reg ?_
      refine h_op (r_move rfl) ?_
      refine h_op (r_move rfl) ?_
      refine h_op (r_move rfl) ?_
      refine h_op (r_idx rfl rfl) ?_
      refine h_op (r_nthr rfl (out := x.e.cells) (Entry.cells_length _) (ents_at hx)) ?_
      refine h_opX (x_bsl rfl rfl) fun g43 => ?_
      refine h_opX (x_app rfl rfl (k := 33)) fun ⟨g44, c44⟩ => ?_
      refine h_op (r_assign rfl) ?_
      refine h_nil ?_
      refine q_block ?_
      refine q_then ?_
      refine h_reg ?_
      refine h_op (r_move rfl) ?_
      refine h_op (r_add rfl rfl) ?_
      refine h_op (r_assign rfl) ?_
      refine h_nil ?_
      rw [ents_snoc, ← hp, hl]
      exact h_back (k + 1, true, some ⟨g44, 0, none⟩, c44) ((show k + 1 ≤ r.length ∧ doneK e r (k + 1) true from ⟨by omega, hd2⟩)) ((show r.length - (k + 1) < r.length - k by omega)) ⟨rfl, rfl, rfl, rfl, rfl, rfl, trivial⟩ (same)
  · obtain rfl : k = r.length := by omega
    have hp := putK_end hd
    rcases done with _ | _
    · rw [if_neg (by simp)] at hp
      have hl : (putK e r r.length false).length + 1 = (insE e r).length := by rw [hp]; simp
      refine h_exit ?_
      refine q_thenE ?_
      refine q_thenE ?_
      refine q_blockE ?_
      refine q_then ?_
      refine h_seq ?_
      refine h_seq ?_
      refine h_reg ?_
      refine h_op (r_move rfl) ?_
      refine h_op (r_not rfl) ?_
      refine h_nil ?_
      refine q_then ?_
      refine h_condT rfl ?_
      refine h_reg ?_
      refine h_op (r_move rfl) ?_
      refine h_op (r_loadr rfl) ?_
      refine h_op (r_move rfl) ?_
      refine h_op (r_build rfl) ?_
      refine h_opX (x_bsl rfl rfl) fun g51 => ?_
      refine h_opX (x_app rfl rfl (k := 33)) fun ⟨g52, c52⟩ => ?_
      refine h_op (r_assign rfl) ?_
      refine h_nil ?_
      refine q_then ?_
      refine h_seq ?_
      refine h_reg ?_
      refine h_op (r_move rfl) ?_
      refine h_op (r_assign rfl) ?_
      refine h_nil ?_
      refine q_then ?_
      refine h_ret ?_
      rw [show Entry.cells _ = e.e.cells from rfl, ents_snoc, ← hp, hl]
      exact h_ret1 rfl rfl fun w s => ⟨(some ⟨g52, 0, none⟩, c52), rfl, (same w s).res (List.Sublist.refl _) (by simp [Fa.wr])⟩
    · rw [if_pos rfl] at hp
      rw [hp]
      refine h_exit ?_
      refine q_thenE ?_
      refine q_thenE ?_
      refine q_blockE ?_
      refine q_then ?_
      refine h_seq ?_
      refine h_seq ?_
      refine h_reg ?_
      refine h_op (r_move rfl) ?_
      refine h_op (r_not rfl) ?_
      refine h_nil ?_
      refine q_then ?_
      refine h_condF rfl ?_
      refine h_skip ?_
      refine q_then ?_
      refine h_seq ?_
      refine h_reg ?_
      refine h_op (r_move rfl) ?_
      refine h_op (r_assign rfl) ?_
      refine h_nil ?_
      refine q_then ?_
      refine h_ret ?_
      exact h_ret1 rfl rfl fun w s => ⟨(A, c'), rfl, (same w s).res (List.Sublist.refl _) (by simp [Fa.wr])⟩
theorem Of_s (l : List En) (B : Option Addr) (c : Nat) (hm : l.length ≤ 1000000) : Spec Tryz.prog 51 [.slice B l.length c].toArray [.rd B (ents l)] [] (fun u : Option Addr × Nat => .slice u.1 (ofM l).length u.2) (fun u => [.own (.slice u.1 (ofM l).length u.2) (ofM l).length 109 33 (ents (ofM l))]) := by
  refine spec_of Tryz.func51 rfl (n := 24) rfl rfl ?_
  intro W
  refine h_seq ?_
  refine h_reg ?_
  refine h_op (r_assign rfl) ?_
  refine h_nil ?_
  refine q_then ?_
  refine h_seq ?_
  refine h_reg ?_
  refine h_op (r_assign rfl) ?_
  refine h_nil ?_
  refine q_then ?_
  refine h_seq ?_
  refine h_seq ?_
  refine h_reg ?_
  refine h_op (r_assign rfl) ?_
  refine h_nil ?_
  refine q_then ?_
  refine h_block ?_
  refine h_nil_own 109 33 (xs := ents (ofM (l.take 0))) rfl ?_
  change H _ _ _ _ _ (.own (.slice none (ofM (l.take 0)).length 0) (ofM (l.take 0)).length _ _ _ :: _) _
  refine h_loop (fun (s : Nat × Option Addr × Nat) => s.1 ≤ l.length) (fun (s : Nat × Option Addr × Nat) => [(4, .int .i64 (s.1 : Int)), (3, .slice s.2.1 (ofM (l.take s.1)).length s.2.2), (0, .slice B l.length c)]) (fun (s : Nat × Option Addr × Nat) => [.own (.slice s.2.1 (ofM (l.take s.1)).length s.2.2) (ofM (l.take s.1)).length 109 33 (ents (ofM (l.take s.1))), .rd B (ents l)]) (fun (s : Nat × Option Addr × Nat) => l.length - s.1) (0, none, 0) ((show 0 ≤ l.length from Nat.zero_le _)) ⟨rfl, rfl, rfl, trivial⟩ (same) ?_
  rintro ⟨k, A, c'⟩ hk
  dsimp only at hk ⊢
  have hlen : (ofM (l.take k)).length ≤ l.length := Nat.le_trans (ofM_len _) (by rw [List.length_take]; omega)
  refine h_seq ?_
  refine h_seq ?_
  refine h_reg ?_
  refine h_op (r_move rfl) ?_
  refine h_op (r_move rfl) ?_
  refine h_op (r_len rfl) ?_
  refine h_op (r_lss rfl rfl) ?_
  refine h_nil ?_
  refine q_then ?_
  refine h_cond rfl (fun h => ?_) (fun h => ?_)
  · obtain ⟨x, hx⟩ := getE (l := l) (k := k) (by omega)
    refine h_pure (φ := ∃ b o, B = some ⟨b, o, none⟩) (fun w s => Rd.some (s.ok (.rd B (ents l)) (by simp)) (by rw [ents_len]; omega)) ?_
    rintro ⟨bb, o, rfl⟩
    refine h_skip ?_
    refine q_then ?_
    refine h_seq ?_
    refine h_block ?_
    refine ha_start [.rd (some ⟨bb, o, none⟩) (ents l)] [] mixed (same) ?_
    refine ha_takeP 0 rfl (r_move rfl) ?_
    refine ha_takeP 1 rfl (r_move rfl) ?_
    refine ha_takeP 2 rfl (r_move rfl) ?_
    refine ha_takeP 3 rfl (r_idx rfl rfl) ?_
    refine ha_takeP 4 rfl (r_field rfl) ?_
    refine ha_take 5 rfl (r_nthr rfl (out := x.key.cells) (B32.cells_length _) (ents_key hx)) ?_
    refine ha_takeP 6 rfl (r_move rfl) ?_
    refine ha_takeP 7 rfl (r_move rfl) ?_
    refine ha_takeP 8 rfl (r_idx rfl rfl) ?_
    refine ha_takeP 9 rfl (r_field rfl (O' := o + (k * 33 + 32)) (by omega)) ?_
    refine ha_take 10 rfl (r_nth rfl (ents_val hx)) ?_
    refine ha_one 11 ?_
    refine ho_C 11 rfl ((Put_s (ofM (l.take k)) A c' x (by omega)).comes) rfl rfl rfl (fun _ => same) fun ⟨A22, c22⟩ => ?_
    refine ha_takeP 12 rfl (r_assign rfl) ?_
    refine ha_done (by kernel_rfl) ?_
    refine q_block ?_
    refine q_then ?_
    dsimp only
    rw [← ofM_snoc l k x hx]
    refine h_reg ?_
    refine h_op (r_move rfl) ?_
    refine h_op (r_add rfl rfl) ?_
    refine h_op (r_assign rfl) ?_
    refine h_nil ?_
    exact h_back (k + 1, A22, c22) ((show k + 1 ≤ l.length by omega)) ((show l.length - (k + 1) < l.length - k by omega)) ⟨rfl, rfl, rfl, trivial⟩ (same)
  · obtain rfl : k = l.length := by omega
    rw [List.take_length]
    refine h_exit ?_
    refine q_thenE ?_
    refine q_thenE ?_
    refine q_blockE ?_
    refine q_then ?_
    refine h_seq ?_
    refine h_reg ?_
    refine h_op (r_move rfl) ?_
    refine h_op (r_assign rfl) ?_
    refine h_nil ?_
    refine q_then ?_
    refine h_ret ?_
    exact h_ret1 rfl rfl fun w s => ⟨(A, c'), rfl, (same w s).res (List.Sublist.refl _) (by simp [Fa.wr])⟩
end Go.Proofs.YtgfkbeipckbkiaaGreatDoor
/- U40 -/
namespace Go.Proofs.YtgfkbeipckbkiaaGreatDoor
set_option linter.unusedSimpArgs false
set_option linter.unusedVariables false
open Go.RowKit
def fewM (l : List En) : Bool := decide (l.length ≤ 12) && l.all fun e => decide (e.e.value.n ≤ 200)
theorem Few_s (l : List En) (B : Option Addr) (c : Nat) (hm : l.length ≤ 1000000000000000) : Spec Tryz.prog 50 [.slice B l.length c].toArray [.rd B (ents l)] [] (fun _ : Unit => .bool (fewM l)) (fun _ => []) := by
  unfold fewM
  refine spec_of Tryz.func50 rfl (n := 20) rfl rfl ?_
  intro W
  by_cases h12 : 12 < l.length
  · rw [decide_eq_false (by omega), Bool.false_and]
    refine h_seq ?_
    refine h_reg ?_
    refine h_op (r_assign rfl) ?_
    refine h_nil ?_
    refine q_then ?_
    refine h_seq ?_
    refine h_seq ?_
    refine h_reg ?_
    refine h_op (r_move rfl) ?_
    refine h_op (r_len rfl) ?_
    refine h_op (r_gtr rfl rfl) ?_
    refine h_nil ?_
    refine q_then ?_
    refine h_yes rfl ((by omega)) ?_
    refine h_seq ?_
    refine h_reg ?_
    refine h_op (r_assign rfl) ?_
    refine h_nil ?_
    refine q_then ?_
    refine h_ret ?_
    refine q_thenR ?_
    exact h_ret1 rfl rfl fun w s => ⟨(), rfl, s.res (List.nil_sublist _) (by simp)⟩
  · rw [decide_eq_true (by omega), Bool.true_and]
    refine h_seq ?_
    refine h_reg ?_
    refine h_op (r_assign rfl) ?_
    refine h_nil ?_
    refine q_then ?_
    refine h_seq ?_
    refine h_seq ?_
    refine h_reg ?_
    refine h_op (r_move rfl) ?_
    refine h_op (r_len rfl) ?_
    refine h_op (r_gtr rfl rfl) ?_
    refine h_nil ?_
    refine q_then ?_
    refine h_no rfl ((by omega)) ?_
    refine h_skip ?_
    refine q_then ?_
    refine h_seq ?_
    refine h_seq ?_
    refine h_reg ?_
    refine h_op (r_assign rfl) ?_
    refine h_nil ?_
    refine q_then ?_
    refine h_block ?_
    refine h_loop (fun (k : Nat) => k ≤ l.length ∧ ∀ e ∈ l.take k, e.e.value.n ≤ 200) (fun (k : Nat) => [(3, .int .i64 (k : Int)), (0, .slice B l.length c)]) (fun (k : Nat) => [.rd B (ents l)]) (fun (k : Nat) => l.length - k) 0 (⟨Nat.zero_le _, fun e he => by simp at he⟩) ⟨rfl, rfl, trivial⟩ (same) ?_
    rintro k ⟨hk, ha⟩
    refine h_seq ?_
    refine h_seq ?_
    refine h_reg ?_
    refine h_op (r_move rfl) ?_
    refine h_op (r_move rfl) ?_
    refine h_op (r_len rfl) ?_
    refine h_op (r_lss rfl rfl) ?_
    refine h_nil ?_
    refine q_then ?_
    refine h_cond rfl (fun h => ?_) (fun h => ?_)
    · obtain ⟨e, he⟩ := getE (l := l) (k := k) (by omega)
      refine h_pure (φ := ∃ b o, B = some ⟨b, o, none⟩) (fun w s => Rd.some (s.ok (.rd B (ents l)) (by simp)) (by rw [ents_len]; omega)) ?_
      rintro ⟨b, o, rfl⟩
      refine h_skip ?_
      refine q_then ?_
      refine h_seq ?_
      refine h_block ?_
      refine h_seq ?_
      refine h_reg ?_
      refine h_op (r_move rfl) ?_
      refine h_op (r_move rfl) ?_
      refine h_op (r_idx rfl rfl) ?_
      refine h_op (r_field rfl (O' := o + (k * 33 + 32)) (by omega)) ?_
      refine h_op (r_nth rfl (ents_val he)) ?_
      refine h_op (r_len rfl) ?_
      refine h_op (r_gtr rfl rfl) ?_
      refine h_nil ?_
      refine q_then ?_
      refine h_cond rfl (fun h2 => ?_) (fun h2 => ?_)
      · have : (l.all fun e => decide (e.e.value.n ≤ 200)) = false := by
          rw [List.all_eq_false]
          exact ⟨e, List.mem_of_getElem? he, by simp; omega⟩
        rw [this]
        refine h_seq ?_
        refine h_reg ?_
        refine h_op (r_assign rfl) ?_
        refine h_nil ?_
        refine q_then ?_
        refine h_ret ?_
        refine q_blockR ?_
        refine q_thenR ?_
        refine q_thenR ?_
        refine q_blockR ?_
        refine q_thenR ?_
        exact h_ret1 rfl rfl fun w s => ⟨(), rfl, s.res (List.nil_sublist _) (by simp)⟩
      · have ha2 : ∀ f ∈ l.take (k + 1), f.e.value.n ≤ 200 := fun f hf => by
          rw [take_snocE he] at hf
          rcases List.mem_append.1 hf with hf | hf
          · exact ha f hf
          · rw [List.mem_singleton.1 hf]; omega
        refine h_skip ?_
        refine q_block ?_
        refine q_then ?_
        refine h_reg ?_
        refine h_op (r_move rfl) ?_
        refine h_op (r_add rfl rfl) ?_
        refine h_op (r_assign rfl) ?_
        refine h_nil ?_
        exact h_back (k + 1) (⟨by omega, ha2⟩) (by omega) ⟨rfl, rfl, trivial⟩ (same)
    · obtain rfl : k = l.length := by omega
      rw [List.take_length] at ha
      have : (l.all fun e => decide (e.e.value.n ≤ 200)) = true := List.all_eq_true.2 fun e he => decide_eq_true (ha e he)
      rw [this]
      refine h_exit ?_
      refine q_thenE ?_
      refine q_thenE ?_
      refine q_blockE ?_
      refine q_then ?_
      refine h_seq ?_
      refine h_reg ?_
      refine h_op (r_assign rfl) ?_
      refine h_nil ?_
      refine q_then ?_
      refine h_ret ?_
      exact h_ret1 rfl rfl fun w s => ⟨(), rfl, s.res (List.nil_sublist _) (by simp)⟩
theorem rValue_s (l : List UInt8) (B : Option Addr) (c : Nat) (hB : B = none → l.length = 0 ∧ c = 0) (hl : l.length ≤ 100000000) : Spec Tryz.prog 93 [.slice B l.length c].toArray [.rd B (bc l)] [] (fun u : Nat × Nat => .slice (some ⟨u.1, 0, none⟩) (preV l).length u.2) (fun u => [.own (.slice (some ⟨u.1, 0, none⟩) (preV l).length u.2) (preV l).length 5 1 (bc (preV l))]) := by
  have e : [(2 : UInt8)] ++ l = preV l := rfl
  refine spec_of Tryz.func93 rfl (n := 6) rfl rfl ?_
  intro W
  refine h_seq ?_
  refine h_reg ?_
  refine h_op (r_assign rfl) ?_
  refine h_nil ?_
  refine q_then ?_
  refine h_seq ?_
  refine h_reg ?_
  refine h_opX (x_bslV (ys := [.int .u8 2]) (bc [2]) rfl rfl (bc_one _)) fun g3 => ?_
  refine h_op (r_move rfl) ?_
  refine h_opX (x_appAB rfl rfl hB rfl (N' := (preV l).length) (hN := Nat.add_comm _ _)) fun ⟨A5, c5⟩ => ?_
  refine h_pure (φ := ∃ g, A5 = some ⟨g, 0, none⟩) (fun w s => s.ownSome (N := (preV l).length) (c := c5) (Nat.succ_pos _)) ?_
  rintro ⟨g, rfl⟩
  rw [e]
  refine h_op (r_assign rfl) ?_
  refine h_nil ?_
  refine q_then ?_
  refine h_ret ?_
  exact h_ret1 rfl rfl fun w s => ⟨(g, c5), rfl, (same w s).res (List.Sublist.refl _) (by simp [Fa.wr])⟩
theorem rLeafOf_s (n : Nat) (hn : n ≤ 256) (key : B32) (l : List UInt8) (B : Option Addr) (c : Nat) (hB : B = none → l.length = 0 ∧ c = 0) (hl : l.length ≤ 100000000) : Spec Tryz.prog 49 [.int .i64 (n : Int), .agg key.cells.toArray, .slice B l.length c].toArray [.rd B (bc l)] [] (fun _ : Unit => .agg (leafOf n key l).cells.toArray) (fun _ => []) := by
  have hpl : (preV l).length = l.length + 1 := rfl
  refine spec_of Tryz.func49 rfl (n := 13) rfl rfl ?_
  intro W
  refine h_seq ?_
  refine h_reg ?_
  refine h_opX (x_box rfl) fun g4 => ?_
  refine h_opX (x_alloc) fun g6 => ?_
  refine h_nil ?_
  refine q_then ?_
  refine h_seq ?_
  refine ha_start [.blk g4 key.cells 39] [] mixed (same) ?_
  refine ha_take 0 rfl (r_loadr rfl) ?_
  refine ha_takeP 1 rfl (r_move rfl) ?_
  refine ha_takeP 2 rfl (r_move rfl) ?_
  refine ha_one 3 ?_
  refine ho_C 3 rfl ((rValue_s l B c hB hl).comes) rfl rfl rfl (fun _ => same) fun ⟨g10, c10⟩ => ?_
  refine ha_one 4 ?_
  refine ho_C 4 rfl ((refSum5_s n hn (preV l) (some ⟨g10, 0, none⟩) c10 (fun h => by cases h) (by omega)).comes) rfl rfl rfl (fun _ => same) fun _ => ?_
  refine ha_takeP 5 rfl (r_build rfl) ?_
  refine ha_one 6 ?_
  refine ho_SL 6 rfl (s_storer rfl rfl) ?_
  refine q_then ?_
  refine h_ret ?_
  exact h_ret1 rfl (rv_row rfl) fun w s => ⟨(), rfl, s.res (List.nil_sublist _) (by simp)⟩
theorem ents_key0 (e : En) : ∀ j v, e.key.cells[j]? = some v → (ents [e])[0 + j]? = some v := fun j v hv => by have := ents_key (l := [e]) (k := 0) rfl j v hv; rwa [Nat.zero_mul] at this
theorem ents_at0 (e : En) : ∀ j v, e.e.cells[j]? = some v → (ents [e])[0 + j]? = some v := fun j v hv => by have := ents_at (l := [e]) (k := 0) rfl j v hv; rwa [Nat.zero_mul] at this
theorem ents_val0 (e : En) : (ents [e])[32]? = some (.slice e.e.value.A e.e.value.n e.e.value.c) := by have := ents_val (l := [e]) (k := 0) rfl; rwa [Nat.zero_mul, Nat.zero_add] at this
/-- each value of the entries is held -/
def ValsZ (h : Zh) (m : List En) : Prop := ∀ e ∈ m, SlZ h e.e.value e.val ∧ e.val.length ≤ 10000000
theorem ValsZ.part {h : Zh} {m : List En} (x : ValsZ h m) (d : Nat) (b : Bool) : ValsZ h (part m d b) := fun e he => x e (part_mem.1 he).1
theorem ValsZ.mono {h h' : Zh} (hl : LeZ h h') {m : List En} (x : ValsZ h m) : ValsZ h' m := fun e he => ⟨(x e he).1.mono hl, (x e he).2⟩
theorem Root_any (n : Nat) (hn : n ≤ 256) (h : Zh) {m : List En} {d : Nat} (hd : d ≤ 256) (ha : Alike m d) : m.length ≤ 1000000 → ValsZ h m → ∀ (B : Option Addr) (c : Nat), Spec Tryz.prog 22 [.int .i64 (n : Int), .slice B m.length c, .int .i64 (d : Int)].toArray [.rd B (ents m), .zone false h] [] (fun _ : Unit => .agg (rootM n m d).cells.toArray) (fun _ => []) := by
  refine parts_ind (p := fun m d => m.length ≤ 1000000 → ValsZ h m → ∀ (B : Option Addr) (c : Nat), Spec Tryz.prog 22 [.int .i64 (n : Int), .slice B m.length c, .int .i64 (d : Int)].toArray [.rd B (ents m), .zone false h] [] (fun _ : Unit => .agg (rootM n m d).cells.toArray) (fun _ => [])) ?_ ?_ ?_ (256 - d) m d (Nat.le_refl _) hd ha
  · intro d _ _ B c
    rw [rootM_nil]
    refine spec_of Tryz.func22 rfl (n := 49) rfl rfl ?_
    intro W
    refine h_seq ?_
    refine h_reg ?_
    refine h_opX (x_alloc) fun g6 => ?_
    refine h_nil ?_
    refine q_then ?_
    refine h_seq ?_
    refine h_seq ?_
    refine h_reg ?_
    refine h_op (r_move rfl) ?_
    refine h_op (r_len rfl) ?_
    refine h_op (r_bool (r_eql rfl rfl) (show _ = true by simp)) ?_
    refine h_nil ?_
    refine q_then ?_
    refine h_condT rfl ?_
    refine h_seq ?_
    refine h_reg ?_
    refine h_op (r_move rfl) ?_
    refine h_call ((rEmpty_s n hn).comes) rfl rfl rfl fun _ => ?_
    refine h_opS (s_storer rfl rfl) ?_
    refine h_nil ?_
    refine q_then ?_
    refine h_ret ?_
    refine q_thenR ?_
    exact h_ret1 rfl (rv_row rfl) fun w s => ⟨(), rfl, s.res (List.nil_sublist _) (by simp)⟩
  · intro e d hd _ hv B c
    rw [rootM_one n e hd]
    obtain ⟨hs, hvl⟩ := hv e (by simp)
    obtain ⟨⟨key, A, N, cc⟩, b⟩ := e
    obtain rfl : N = b.length := hs.len
    have hA : A = none → b.length = 0 ∧ cc = 0 := hs.nil
    have hrd : RdZ h A (bc b) := hs.rd
    dsimp only at hvl
    refine spec_of Tryz.func22 rfl (n := 49) rfl rfl ?_
    intro W
    refine h_seq ?_
    refine h_reg ?_
    refine h_opX (x_alloc) fun g6 => ?_
    refine h_nil ?_
    refine q_then ?_
    refine h_seq ?_
    refine h_seq ?_
    refine h_reg ?_
    refine h_op (r_move rfl) ?_
    refine h_op (r_len rfl) ?_
    refine h_op (r_bool (r_eql rfl rfl) (show _ = false by simp)) ?_
    refine h_nil ?_
    refine q_then ?_
    refine h_condF rfl ?_
    refine h_skip ?_
    refine q_then ?_
    refine h_seq ?_
    refine h_seq ?_
    refine h_reg ?_
    refine h_op (r_move rfl) ?_
    refine h_op (r_len rfl) ?_
    refine h_op (r_bool (r_eql rfl rfl) (show _ = true by simp)) ?_
    refine h_nil ?_
    refine q_then ?_
    refine h_condT rfl ?_
    refine h_pure (φ := ∃ b o, B = some ⟨b, o, none⟩) (fun w s => Rd.some (s.ok (.rd B (ents [⟨⟨key, ⟨A, b.length, cc⟩⟩, b⟩])) (by simp)) (by rw [ents_len]; exact Nat.zero_lt_succ _)) ?_
    rintro ⟨bb, o, rfl⟩
    refine h_seq ?_
    refine ha_start [.rd (some ⟨bb, o, none⟩) (ents [⟨⟨key, ⟨A, b.length, cc⟩⟩, b⟩])] [] mixed (same) ?_
    refine ha_takeP 0 rfl (r_move rfl) ?_
    refine ha_takeP 1 rfl (r_move rfl) ?_
    refine ha_takeP 2 rfl (r_move rfl) ?_
    refine ha_takeP 3 rfl (r_idx rfl rfl (hm := by simp)) ?_
    refine ha_takeP 4 rfl (r_field rfl) ?_
    refine ha_take 5 rfl (r_nthr rfl (out := key.cells) (B32.cells_length _) (ents_key0 ⟨⟨key, ⟨A, b.length, cc⟩⟩, b⟩)) ?_
    refine ha_takeP 6 rfl (r_move rfl) ?_
    refine ha_takeP 7 rfl (r_idx rfl rfl (hm := by simp)) ?_
    refine ha_takeP 8 rfl (r_field rfl) ?_
    refine ha_take 9 rfl (r_nth rfl (ents_val0 ⟨⟨key, ⟨A, b.length, cc⟩⟩, b⟩)) ?_
    refine ha_one 10 ?_
    refine ho_C 10 rfl ((rLeafOf_s n hn key b A cc hA (by omega)).comes) rfl rfl rfl (fun _ => same) fun _ => ?_
    refine ha_one 11 ?_
    refine ho_C 11 rfl ((rLeaf_s (leafOf n key b)).comes) rfl rfl rfl (fun _ => same) fun ⟨g28, c28⟩ => ?_
    refine ha_one 12 ?_
    refine ho_C 12 rfl ((refSum5_s n hn (preL (leafOf n key b)) (some ⟨g28, 0, none⟩) c28 (fun h => by cases h) (by rw [preL_len]; decide)).comes) rfl rfl rfl (fun _ => same) fun _ => ?_
    refine ha_one 13 ?_
    refine ho_SL 13 rfl (s_storer rfl rfl) ?_
    refine q_then ?_
    refine h_ret ?_
    refine q_thenR ?_
    exact h_ret1 rfl (rv_row rfl) fun w s => ⟨(), rfl, s.res (List.nil_sublist _) (by simp)⟩
  · intro m d ha hm hd i1 i2 hl hv B c
    have p1 := part_le m d false
    have p2 := part_le m d true
    rw [rootM_two n hm (by omega)]
    refine spec_of Tryz.func22 rfl (n := 49) rfl rfl ?_
    intro W
    refine h_seq ?_
    refine h_reg ?_
    refine h_opX (x_alloc) fun g6 => ?_
    refine h_nil ?_
    refine q_then ?_
    refine h_seq ?_
    refine h_seq ?_
    refine h_reg ?_
    refine h_op (r_move rfl) ?_
    refine h_op (r_len rfl) ?_
    refine h_op (r_eql rfl rfl) ?_
    refine h_nil ?_
    refine q_then ?_
    refine h_no rfl ((by omega)) ?_
    refine h_skip ?_
    refine q_then ?_
    refine h_seq ?_
    refine h_seq ?_
    refine h_reg ?_
    refine h_op (r_move rfl) ?_
    refine h_op (r_len rfl) ?_
    refine h_op (r_eql rfl rfl) ?_
    refine h_nil ?_
    refine q_then ?_
    refine h_no rfl ((by omega)) ?_
    refine h_skip ?_
    refine q_then ?_
    refine h_seq ?_
    refine h_reg ?_
    refine h_op (r_move rfl) ?_
    refine h_op (r_move rfl) ?_
    refine h_op (r_move rfl) ?_
    refine h_call ((Part_s m B c d false hd (by omega)).comes) rfl rfl rfl fun ⟨A33, c33⟩ => ?_
    refine h_op (r_move rfl) ?_
    refine h_op (r_add rfl rfl) ?_
    refine h_call ((i1 (by omega) (hv.part d false) A33 c33).comes) rfl rfl rfl fun _ => ?_
    refine h_opX (x_alloc) fun g7 => ?_
    refine h_opS (s_storer rfl rfl) ?_
    refine h_nil ?_
    refine q_then ?_
    refine h_seq ?_
    refine h_reg ?_
    refine h_op (r_move rfl) ?_
    refine h_op (r_move rfl) ?_
    refine h_op (r_move rfl) ?_
    refine h_call ((Part_s m B c d true hd (by omega)).comes) rfl rfl rfl fun ⟨A40, c40⟩ => ?_
    refine h_op (r_move rfl) ?_
    refine h_op (r_add rfl rfl) ?_
    refine h_call ((i2 (by omega) (hv.part d true) A40 c40).comes) rfl rfl rfl fun _ => ?_
    refine h_opX (x_alloc) fun g8 => ?_
    refine h_opS (s_storer rfl rfl) ?_
    refine h_nil ?_
    refine q_then ?_
    refine h_seq ?_
    refine h_reg ?_
    refine h_op (r_move rfl) ?_
    refine h_op (r_loadr rfl) ?_
    refine h_op (r_loadr rfl) ?_
    refine h_call ((rNode_s (rootM n (part m d false) (d + 1)) (rootM n (part m d true) (d + 1))).comes) rfl rfl rfl fun ⟨g47, c47⟩ => ?_
    refine h_call ((refSum5_s n hn (preN (rootM n (part m d false) (d + 1)) (rootM n (part m d true) (d + 1))) (some ⟨g47, 0, none⟩) c47 (fun h => by cases h) (by rw [preN_len]; decide)).comes) rfl rfl rfl fun _ => ?_
    refine h_opS (s_storer rfl rfl) ?_
    refine h_nil ?_
    refine q_then ?_
    refine h_ret ?_
    exact h_ret1 rfl (rv_row rfl) fun w s => ⟨(), rfl, s.res (List.nil_sublist _) (by simp)⟩
end Go.Proofs.YtgfkbeipckbkiaaGreatDoor
/- U41 -/
namespace Go.Proofs.YtgfkbeipckbkiaaGreatDoor
set_option linter.unusedSimpArgs false
set_option linter.unusedVariables false
open Go.RowKit
theorem mkT_cost {m : List En} {d : Nat} (hd : d ≤ 256) (ha : Alike m d) : (mkT m d).cost ≤ m.length * (4 * (257 - d)) := by
  refine parts_ind (p := fun m d => (mkT m d).cost ≤ m.length * (4 * (257 - d))) ?_ ?_ ?_ (256 - d) m d (Nat.le_refl _) hd ha
  · intro d
    rw [mkT_nil]; exact Nat.zero_le _
  · intro e d h
    rw [mkT_one e h]
    show 2 ≤ 1 * (4 * (257 - d))
    omega
  · intro m d _ hm hd i1 i2
    rw [mkT_two hm (by omega)]
    have hl := part_len m d
    have e1 := i01 ((mkT (part m d false) (d + 1)).kind = 0)
    have e2 := i01 ((mkT (part m d true) (d + 1)).kind = 0)
    have e3 : 4 * (257 - d) = 4 * (257 - (d + 1)) + 4 := by omega
    have e4 : m.length * (4 * (257 - d)) = (part m d false).length * (4 * (257 - (d + 1))) + (part m d true).length * (4 * (257 - (d + 1))) + m.length * 4 := by
      rw [e3, Nat.mul_add, ← hl, Nat.add_mul]
    rw [e4]
    show _ + _ + _ + _ + 1 ≤ _
    omega
theorem joinT_mk {m : List En} {d : Nat} (hm : 1 < m.length) (hd : d < 256) : joinT (mkT (part m d false) (d + 1)) (mkT (part m d true) (d + 1)) = mkT m d ∧ ∀ k, k + (mkT (part m d false) (d + 1)).cost + (mkT (part m d true) (d + 1)).cost + joinC (mkT (part m d false) (d + 1)) (mkT (part m d true) (d + 1)) = k + (mkT m d).cost := by
  have hl := part_len m d
  have k1 := mkT_kind (part m d false) (d := d + 1) (by omega)
  have k2 := mkT_kind (part m d true) (d := d + 1) (by omega)
  rw [mkT_two hm (by omega)]
  unfold joinT joinC
  rw [if_neg (by omega), if_neg (by omega), if_neg (by omega), if_neg (by omega)]
  refine ⟨rfl, fun k => ?_⟩
  show _ = k + (_ + _ + _ + _ + 1)
  omega
theorem Grow_any (n : Nat) (hn : n ≤ 256) (gh gc : Nat) {m : List En} {d : Nat} (hd : d ≤ 256) (ha : Alike m d) : m.length ≤ 1000000 → ∀ (h : Zh) (k : Nat) (B : Option Addr) (c : Nat), RdZ h (some ⟨2, 0, none⟩) hashT → ValsZ h m → k + (mkT m d).cost ≤ 10000000000 →
    Spec Tryz.prog 52 [.pointer (some ⟨gh, 0, none⟩), .slice B m.length c, .int .i64 (d : Int)].toArray [HR gh gc n, .rd B (ents m)] [.zone true h, CN gc k] (fun x : {x : Zh × Option Addr // LeZ h x.1 ∧ TrZ n x.1 (mkT m d) x.2} => .pointer x.1.2) (fun x => [.zone true x.1.1, CN gc (k + (mkT m d).cost)]) := by
  refine parts_ind (p := fun m d => m.length ≤ 1000000 → ∀ (h : Zh) (k : Nat) (B : Option Addr) (c : Nat), RdZ h (some ⟨2, 0, none⟩) hashT → ValsZ h m → k + (mkT m d).cost ≤ 10000000000 →
    Spec Tryz.prog 52 [.pointer (some ⟨gh, 0, none⟩), .slice B m.length c, .int .i64 (d : Int)].toArray [HR gh gc n, .rd B (ents m)] [.zone true h, CN gc k] (fun x : {x : Zh × Option Addr // LeZ h x.1 ∧ TrZ n x.1 (mkT m d) x.2} => .pointer x.1.2) (fun x => [.zone true x.1.1, CN gc (k + (mkT m d).cost)])) ?_ ?_ ?_ (256 - d) m d (Nat.le_refl _) hd ha
  · intro d _ h k B c hT _ _
    rw [mkT_nil]
    refine spec_of Tryz.func52 rfl (n := 34) rfl rfl ?_
    intro W
    refine h_seq ?_
    refine h_reg ?_
    refine h_op (r_assign rfl) ?_
    refine h_nil ?_
    refine q_then ?_
    refine h_seq ?_
    refine h_seq ?_
    refine h_reg ?_
    refine h_op (r_move rfl) ?_
    refine h_op (r_len rfl) ?_
    refine h_nil ?_
    refine q_then ?_
    refine h_block ?_
    refine h_seq ?_
    refine h_reg ?_
    refine h_op (r_bool (r_eql rfl rfl) (show _ = true by simp)) ?_
    refine h_op (r_assign rfl) ?_
    refine h_nil ?_
    refine q_then ?_
    refine h_condT rfl ?_
    refine h_seq ?_
    refine h_reg ?_
    refine h_op (r_assign rfl) ?_
    refine h_nil ?_
    refine q_then ?_
    refine h_ret ?_
    refine q_blockR ?_
    refine q_thenR ?_
    exact h_ret1 rfl rfl fun w s => ⟨⟨(h, none), LeZ.refl h, ⟨rfl⟩⟩, rfl, (same (L' := [.zone true h, CN gc k]) w s).res (List.Sublist.refl _) (by simp [Fa.wr])⟩
  · intro e d hd _ h k B c hT hv hk
    rw [mkT_one e hd] at hk ⊢
    obtain ⟨hs, hvl⟩ := hv e (by simp)
    obtain ⟨⟨key, s⟩, b⟩ := e
    dsimp only at hs hvl
    have hk' : k + 2 ≤ 10000000000 := hk
    refine spec_of Tryz.func52 rfl (n := 34) rfl rfl ?_
    intro W
    refine h_seq ?_
    refine h_reg ?_
    refine h_op (r_assign rfl) ?_
    refine h_nil ?_
    refine q_then ?_
    refine h_seq ?_
    refine h_seq ?_
    refine h_reg ?_
    refine h_op (r_move rfl) ?_
    refine h_op (r_len rfl) ?_
    refine h_nil ?_
    refine q_then ?_
    refine h_block ?_
    refine h_seq ?_
    refine h_reg ?_
    refine h_op (r_bool (r_eql rfl rfl) (show _ = false by simp)) ?_
    refine h_op (r_assign rfl) ?_
    refine h_nil ?_
    refine q_then ?_
    refine h_condF rfl ?_
    refine h_seq ?_
    refine h_reg ?_
    refine h_op (r_bool (r_eql rfl rfl) (show _ = true by simp)) ?_
    refine h_op (r_assign rfl) ?_
    refine h_nil ?_
    refine q_then ?_
    refine h_condT rfl ?_
    refine h_pure (φ := ∃ b o, B = some ⟨b, o, none⟩) (fun w s' => Rd.some (s'.ok (.rd B (ents [⟨⟨key, s⟩, b⟩])) (by simp)) (by rw [ents_len]; exact Nat.zero_lt_succ _)) ?_
    rintro ⟨bb, o, rfl⟩
    refine h_seq ?_
    refine h_reg ?_
    refine h_op (r_move rfl) ?_
    refine h_op (r_move rfl) ?_
    refine h_op (r_idx rfl rfl (hm := by simp)) ?_
    refine h_op (r_nthr rfl (out := Entry.cells ⟨key, s⟩) (Entry.cells_length _) (ents_at0 ⟨⟨key, s⟩, b⟩)) ?_
    refine h_call ((NewLeaf_s n hn gh gc k (by omega) h key s b (by omega)).comes) rfl rfl rfl fun ⟨⟨h1, p1⟩, hle, ht⟩ => ?_
    dsimp only at hle ht ⊢
    refine h_op (r_assign rfl) ?_
    refine h_nil ?_
    refine q_then ?_
    refine h_ret ?_
    refine q_blockR ?_
    refine q_thenR ?_
    exact h_ret1 rfl rfl fun w s => ⟨⟨(h1, p1), hle, ht⟩, rfl, (same (L' := [.zone true h1, CN gc (k + 2)]) w s).res (List.Sublist.refl _) (by simp [Fa.wr])⟩
  · intro m d ha hm hd i1 i2 hl h k B c hT hv hk
    have p1 := part_len m d
    obtain ⟨hj, hcost⟩ := joinT_mk hm hd
    have hck := hcost k
    have c1 := mkT_cnt (show d + 1 ≤ 256 by omega) (ha.part false)
    have c2 := mkT_cnt (show d + 1 ≤ 256 by omega) (ha.part true)
    rw [← hck, ← hj]
    rw [← hck] at hk
    refine spec_of Tryz.func52 rfl (n := 34) rfl rfl ?_
    intro W
    refine h_seq ?_
    refine h_reg ?_
    refine h_op (r_assign rfl) ?_
    refine h_nil ?_
    refine q_then ?_
    refine h_seq ?_
    refine h_seq ?_
    refine h_reg ?_
    refine h_op (r_move rfl) ?_
    refine h_op (r_len rfl) ?_
    refine h_nil ?_
    refine q_then ?_
    refine h_block ?_
    refine h_seq ?_
    refine h_reg ?_
    refine h_op (r_eql rfl rfl) ?_
    refine h_op (r_assign rfl) ?_
    refine h_nil ?_
    refine q_then ?_
    refine h_no rfl ((by omega)) ?_
    refine h_seq ?_
    refine h_reg ?_
    refine h_op (r_eql rfl rfl) ?_
    refine h_op (r_assign rfl) ?_
    refine h_nil ?_
    refine q_then ?_
    refine h_no rfl ((by omega)) ?_
    refine h_skip ?_
    refine q_block ?_
    refine q_then ?_
    refine h_seq ?_
    refine h_reg ?_
    refine h_op (r_move rfl) ?_
    refine h_op (r_move rfl) ?_
    refine h_op (r_move rfl) ?_
    refine h_op (r_move rfl) ?_
    refine h_call ((Part_s m B c d false hd (by omega)).comes) rfl rfl rfl fun ⟨A22, c22⟩ => ?_
    refine h_op (r_move rfl) ?_
    refine h_op (r_add rfl rfl) ?_
    refine h_call ((i1 (by omega) h k A22 c22 hT (hv.part d false) (by omega)).comes) rfl rfl rfl fun ⟨⟨h1, q1⟩, hle1, ht1⟩ => ?_
    dsimp only at hle1 ht1 ⊢
    refine h_op (r_move rfl) ?_
    refine h_op (r_move rfl) ?_
    refine h_op (r_move rfl) ?_
    refine h_call ((Part_s m B c d true hd (by omega)).comes) rfl rfl rfl fun ⟨A29, c29⟩ => ?_
    refine h_op (r_move rfl) ?_
    refine h_op (r_add rfl rfl) ?_
    refine h_call ((i2 (by omega) h1 (k + (mkT (part m d false) (d + 1)).cost) A29 c29 (hT.mono hle1) ((hv.part d true).mono hle1) (by omega)).comes) rfl rfl rfl fun ⟨⟨h2, q2⟩, hle2, ht2⟩ => ?_
    dsimp only at hle2 ht2 ⊢
    have hT2 : RdZ h2 (some ⟨2, 0, none⟩) hashT := (hT.mono hle1).mono hle2
    refine h_call ((Join_s n hn gh gc (k + (mkT (part m d false) (d + 1)).cost + (mkT (part m d true) (d + 1)).cost) (by omega) h2 (mkT (part m d false) (d + 1)) (mkT (part m d true) (d + 1)) q1 q2 (by omega)).comes) rfl rfl rfl fun ⟨⟨h3, q3⟩, hle3, ht3⟩ => ?_
    dsimp only at hle3 ht3 ⊢
    refine h_op (r_assign rfl) ?_
    refine h_nil ?_
    refine q_then ?_
    refine h_ret ?_
    exact h_ret1 rfl rfl fun w s => ⟨⟨(h3, q3), (hle1.trans hle2).trans hle3, ht3⟩, rfl, (same w s).res (List.Sublist.refl _) (by simp [Fa.wr])⟩
theorem ValsZ.of {h : Zh} {l : List En} (x : ValsZ h l) : ValsZ h (ofM l) := fun e he => x e (ofM_mem he)
/-- the map of some entries, and its tree -/
theorem Tree_yes (n : Nat) (hn : n ≤ 256) (l : List En) (B : Option Addr) (c : Nat) (hf : fewM l = true) (h : Zh) [hT : RdZ h (some ⟨2, 0, none⟩) hashT] [hB : RdZ h B (ents l)] (hv : ValsZ h l) : Spec Tryz.prog 12 [.int .i64 (n : Int), .slice B l.length c].toArray [] [.zone true h] (fun x : {x : Zh × Option Addr × Option Addr × Nat // LeZ h x.1 ∧ TrZ n x.1 (mkT (ofM l) 0) x.2.1} => .tuple #[.slice x.1.2.2.1 (ofM l).length x.1.2.2.2, .pointer x.1.2.1, .bool true]) (fun x => [.own (.slice x.1.2.2.1 (ofM l).length x.1.2.2.2) (ofM l).length 109 33 (ents (ofM l)), .zone true x.1.1]) := by
  have hl : l.length ≤ 12 := by unfold fewM at hf; rw [Bool.and_eq_true, decide_eq_true_eq] at hf; exact hf.1
  have hlm := ofM_len l
  have hal : Alike (ofM l) 0 := Alike.start (ofM_nodup l)
  have hcost := mkT_cost (show 0 ≤ 256 by omega) hal
  have hcost2 : (mkT (ofM l) 0).cost ≤ 12 * (4 * 257) := Nat.le_trans hcost (Nat.mul_le_mul (by omega) (by omega))
  refine spec_of Tryz.func12 rfl (n := 27) rfl rfl ?_
  intro W
  refine h_seq ?_
  refine h_reg ?_
  refine h_op (r_assign rfl) ?_
  refine h_op (r_assign rfl) ?_
  refine h_op (r_assign rfl) ?_
  refine h_nil ?_
  refine q_then ?_
  refine h_seq ?_
  refine h_seq ?_
  refine h_reg ?_
  refine h_op (r_move rfl) ?_
  refine h_call ((Right_yes n hn).comes) rfl rfl rfl fun _ => ?_
  refine h_op (r_not rfl) ?_
  refine h_op (r_move rfl) ?_
  refine h_op (r_move rfl) ?_
  refine h_call ((Few_s l B c (by omega)).comes) rfl rfl rfl fun _ => ?_
  rw [hf]
  refine h_op (r_not rfl) ?_
  refine h_op (r_pick rfl rfl) ?_
  refine h_nil ?_
  refine q_then ?_
  refine h_condF rfl ?_
  refine h_skip ?_
  refine q_then ?_
  refine h_seq ?_
  refine h_reg ?_
  refine h_op (r_move rfl) ?_
  refine h_call ((Hash_s n hn).comes) rfl rfl rfl fun ⟨gh, gc⟩ => ?_
  dsimp only
  refine h_op (r_assign rfl) ?_
  refine h_nil ?_
  refine q_then ?_
  refine h_seq ?_
  refine h_seq ?_
  refine h_reg ?_
  refine h_op (r_move rfl) ?_
  refine h_op (r_nilR rfl rfl) ?_
  refine h_nil ?_
  refine q_then ?_
  refine h_condF rfl ?_
  refine h_skip ?_
  refine q_then ?_
  refine h_seq ?_
  refine h_reg ?_
  refine h_op (r_move rfl) ?_
  refine h_call ((Of_s l B c (by omega)).comes) rfl rfl rfl fun ⟨A22, c22⟩ => ?_
  dsimp only
  refine h_op (r_assign rfl) ?_
  refine h_nil ?_
  refine q_then ?_
  refine h_seq ?_
  refine h_reg ?_
  refine h_op (r_move rfl) ?_
  refine h_op (r_move rfl) ?_
  refine h_op (r_move rfl) ?_
  refine h_call ((Grow_any n hn gh gc (show 0 ≤ 256 by omega) hal (by omega) h 0 A22 c22 hT hv.of (by omega)).comes) rfl rfl rfl fun ⟨⟨h1, q1⟩, hle1, ht1⟩ => ?_
  dsimp only at hle1 ht1 ⊢
  refine h_op (r_assign rfl) ?_
  refine h_op (r_assign rfl) ?_
  refine h_op (r_assign rfl) ?_
  refine h_nil ?_
  refine q_then ?_
  refine h_ret ?_
  exact h_ret3 rfl rfl rfl rfl fun w s => ⟨⟨(h1, q1, A22, c22), hle1, ht1⟩, rfl, (same (L' := [.own (.slice A22 (ofM l).length c22) (ofM l).length 109 33 (ents (ofM l)), .zone true h1]) w s).res (List.Sublist.refl _) (by simp [Fa.wr])⟩
end Go.Proofs.YtgfkbeipckbkiaaGreatDoor
