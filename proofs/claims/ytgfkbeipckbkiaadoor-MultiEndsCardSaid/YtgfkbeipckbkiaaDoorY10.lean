/- key.Split; Keys in order, by their bits: plain; Keys in order, split at a depth: plain; The items of a tree for some keys: plain; multi.add; multi.add, the cases of one item; A slice cut at its length and its capacity; multi.add: all trees; multi: parse, Check; multi: the digest of a subtree; multiproofs: the reference's Skip (joined texts: U70 E15 E16 E17 U71 U72 N16 U73 U63 U64 U65) -/
import Derived.Test.YtgfkbeipckbkiaaDoorY9
set_option linter.all false
/- U70 -/
namespace Go.Proofs.YtgfkbeipckbkiaaDoor
set_option linter.unusedSimpArgs false
set_option linter.unusedVariables false
open Go.RowKit
theorem splitF_s (l : List B32) (A : Option Addr) (c i j g2 g3 : Nat) (hj : j < l.length) (hi : i < 256) : Spec Tryd.prog 80 [.int .i64 (j : Int), .pointer (some ⟨g2, 0, none⟩), .pointer (some ⟨g3, 0, none⟩)].toArray [.rd (some ⟨g2, 0, none⟩) [.slice A l.length c], .rd (some ⟨g3, 0, none⟩) [.int .i64 (i : Int)], .rd A (dgs l)] [] (fun _ : Unit => .bool (bitAt (l.getD j zB32) i)) (fun _ => []) := by
  have h1 := dgs_at hj
  refine spec_of Tryd.func80 rfl (n := 12) rfl rfl ?_
  intro W
  refine h_pure (φ := ∃ b o, A = some ⟨b, o, none⟩) (fun w s => Rd.some (s.ok (.rd A (dgs l)) (by simp)) (by rw [dgs_len]; omega)) ?_
  rintro ⟨b, o, rfl⟩
  refine h_seq ?_
  refine h_reg ?_
  refine h_op (r_assign rfl) ?_
  refine h_nil ?_
  refine q_then ?_
  refine h_seq ?_
  refine ha_start [.rd (some ⟨g2, 0, none⟩) [.slice (some ⟨b, o, none⟩) l.length c], .rd (some ⟨g3, 0, none⟩) [.int .i64 (i : Int)], .rd (some ⟨b, o, none⟩) (dgs l)] [] mixed (same) ?_
  refine ha_take 0 rfl (r_loadc rfl) ?_
  refine ha_takeP 1 rfl (r_move rfl) ?_
  refine ha_takeP 2 rfl (r_idx rfl rfl) ?_
  refine ha_take 3 rfl (r_nthr rfl (out := (l.getD j zB32).cells) (B32.cells_length _) h1) ?_
  refine ha_take 4 rfl (r_loadc rfl) ?_
  refine ha_one 5 ?_
  refine ho_C 5 rfl ((Bit_s (l.getD j zB32) i hi).comes) rfl rfl rfl (fun _ => same) fun _ => ?_
  refine ha_takeP 6 rfl (r_bool (r_eql rfl rfl) (bitN_one (l.getD j zB32) i)) ?_
  refine ha_takeP 7 rfl (r_assign rfl) ?_
  refine ha_done (by kernel_rfl) ?_
  refine q_then ?_
  refine h_ret ?_
  exact h_ret1 rfl rfl fun w s => ⟨(), rfl, s.res (List.nil_sublist _) (by simp)⟩
theorem half (a : Nat) (h : a < 18446744073709551616) : (((BitVec.ofNat 64 a) >>> 1).toNat : Int) = ((a / 2 : Nat) : Int) := by
  rw [BitVec.toNat_ushiftRight, BitVec.toNat_ofNat, Nat.mod_eq_of_lt (by omega), Nat.shiftRight_eq_div_pow]
theorem Search_s (l : List B32) (A : Option Addr) (c i g2 g3 m : Nat) (hi : i < 256) (hl : l.length ≤ 1000000) (hm : m ≤ l.length) (hp : ∀ j, j < l.length → bitAt (l.getD j zB32) i = decide (m ≤ j)) : Spec Tryd.prog 79 [.int .i64 (l.length : Int), .func (.func 80) #[] [.pointer (some ⟨g2, 0, none⟩), .pointer (some ⟨g3, 0, none⟩)].toArray].toArray [.rd (some ⟨g2, 0, none⟩) [.slice A l.length c], .rd (some ⟨g3, 0, none⟩) [.int .i64 (i : Int)], .rd A (dgs l)] [] (fun _ : Unit => .int .i64 (m : Int)) (fun _ => []) := by
  refine spec_of Tryd.func79 rfl (n := 26) rfl rfl ?_
  intro W
  refine h_seq ?_
  refine h_reg ?_
  refine h_op (r_assign rfl) ?_
  refine h_nil ?_
  refine q_then ?_
  refine h_seq ?_
  refine h_reg ?_
  refine h_op (r_move rfl) ?_
  refine h_op (r_assign rfl) ?_
  refine h_op (r_assign rfl) ?_
  refine h_nil ?_
  refine q_then ?_
  refine h_seq ?_
  refine h_block ?_
  refine h_loop (fun (s : Nat × Nat) => s.1 ≤ m ∧ m ≤ s.2 ∧ s.2 ≤ l.length) (fun (s : Nat × Nat) => [(5, .int .i64 (s.1 : Int)), (6, .int .i64 (s.2 : Int)), (1, .func (.func 80) #[] [.pointer (some ⟨g2, 0, none⟩), .pointer (some ⟨g3, 0, none⟩)].toArray)]) (fun (s : Nat × Nat) => [.rd (some ⟨g2, 0, none⟩) [.slice A l.length c], .rd (some ⟨g3, 0, none⟩) [.int .i64 (i : Int)], .rd A (dgs l)]) (fun (s : Nat × Nat) => s.2 - s.1) (0, l.length) (⟨Nat.zero_le _, hm, Nat.le_refl _⟩) ⟨rfl, rfl, rfl, trivial⟩ (same) ?_
  rintro ⟨a, b⟩ ⟨h1, h2, h3⟩
  dsimp only at h1 h2 h3 ⊢
  refine h_seq ?_
  refine h_seq ?_
  refine h_reg ?_
  refine h_op (r_move rfl) ?_
  refine h_op (r_move rfl) ?_
  refine h_op (r_lss rfl rfl) ?_
  refine h_nil ?_
  refine q_then ?_
  refine h_cond rfl (fun hlt => ?_) (fun hlt => ?_)
  · have hh : (a + b) / 2 < l.length := by omega
    have hb := splitF_s l A c i ((a + b) / 2) g2 g3 hh hi
    rw [hp _ hh] at hb
    refine h_skip ?_
    refine q_then ?_
    refine h_block ?_
    refine h_seq ?_
    refine h_reg ?_
    refine h_op (r_move rfl) ?_
    refine h_op (r_move rfl) ?_
    refine h_op (r_int (r_add rfl rfl) (show _ = ((a + b : Nat) : Int) by omega)) ?_
    refine h_op (r_cNW rfl) ?_
    refine h_op (r_int (r_shr rfl rfl) (half (a + b) (by omega))) ?_
    refine h_op (r_cN rfl (IntWalk.i64_in _ (by omega))) ?_
    refine h_op (r_assign rfl) ?_
    refine h_nil ?_
    refine q_then ?_
    refine h_seq ?_
    refine h_reg ?_
    refine h_op (r_move rfl) ?_
    refine h_op (r_move rfl) ?_
    by_cases hc : m ≤ (a + b) / 2
    · rw [decide_eq_true hc] at hb
      refine h_call (hb.comes) rfl rfl rfl fun _ => ?_
      refine h_op (r_not rfl) ?_
      refine h_nil ?_
      refine q_then ?_
      refine h_condF rfl ?_
      refine h_reg ?_
      refine h_op (r_move rfl) ?_
      refine h_op (r_assign rfl) ?_
      refine h_nil ?_
      refine q_block ?_
      exact h_back (a, (a + b) / 2) (⟨h1, hc, by dsimp only; omega⟩) ((show (a + b) / 2 - a < b - a by omega)) ⟨rfl, rfl, rfl, trivial⟩ (same)
    · rw [decide_eq_false hc] at hb
      refine h_call (hb.comes) rfl rfl rfl fun _ => ?_
      refine h_op (r_not rfl) ?_
      refine h_nil ?_
      refine q_then ?_
      refine h_condT rfl ?_
      refine h_reg ?_
      refine h_op (r_move rfl) ?_
      refine h_op (r_add rfl rfl) ?_
      refine h_op (r_assign rfl) ?_
      refine h_nil ?_
      refine q_block ?_
      exact h_back ((a + b) / 2 + 1, b) (⟨by dsimp only; omega, h2, h3⟩) ((show b - ((a + b) / 2 + 1) < b - a by omega)) ⟨aI rfl (by omega), rfl, rfl, trivial⟩ (same)
  · obtain rfl : a = m := by omega
    refine h_exit ?_
    refine q_thenE ?_
    refine q_thenE ?_
    refine q_blockE ?_
    refine q_then ?_
    refine h_seq ?_
    refine h_reg ?_
    refine h_op (r_move rfl) ?_
    refine h_op (r_assign rfl) ?_
    refine h_nil ?_
    refine q_then ?_
    refine h_ret ?_
    exact h_ret1 rfl rfl fun w s => ⟨(), rfl, s.res (List.nil_sublist _) (by simp)⟩
theorem Split_s (l : List B32) (A : Option Addr) (c i m : Nat) (hi : i < 256) (hl : l.length ≤ 1000000) (hm : m ≤ l.length) (hp : ∀ j, j < l.length → bitAt (l.getD j zB32) i = decide (m ≤ j)) : Spec Tryd.prog 58 [.slice A l.length c, .int .i64 (i : Int)].toArray [.rd A (dgs l)] [] (fun _ : Unit => .int .i64 (m : Int)) (fun _ => []) := by
  refine spec_of Tryd.func58 rfl (n := 9) rfl rfl ?_
  intro W
  refine h_seq ?_
  refine h_reg ?_
  refine h_opX (x_box1 rfl) fun g2 => ?_
  refine h_opX (x_box1 rfl) fun g3 => ?_
  refine h_op (r_assign rfl) ?_
  refine h_nil ?_
  refine q_then ?_
  refine h_seq ?_
  refine h_reg ?_
  refine h_op (r_loadc rfl) ?_
  refine h_op (r_len rfl) ?_
  refine h_op (r_func rfl rfl) ?_
  refine h_call ((Search_s l A c i g2 g3 m hi hl hm hp).comes) rfl rfl rfl fun _ => ?_
  refine h_op (r_assign rfl) ?_
  refine h_nil ?_
  refine q_then ?_
  refine h_ret ?_
  exact h_ret1 rfl rfl fun w s => ⟨(), rfl, s.res (List.nil_sublist _) (by simp)⟩
end Go.Proofs.YtgfkbeipckbkiaaDoor
/- E15 -/
namespace Go.Proofs.YtgfkbeipckbkiaaDoor
set_option linter.unusedSimpArgs false
set_option linter.unusedVariables false
open Go.RowKit
theorem byte_lt_bits (x y : UInt8) (h : x < y) : ∃ j, j < 8 ∧ (∀ i, i < j → bbit x i = bbit y i) ∧ bbit x j = false ∧ bbit y j = true := by
  have key : ∀ n m : Fin 256, n.val < m.val → ((List.range 8).any fun j => ((List.range j).all fun i => bbit (UInt8.ofNat n.val) i == bbit (UInt8.ofNat m.val) i) && !bbit (UInt8.ofNat n.val) j && bbit (UInt8.ofNat m.val) j) = true := by decide +kernel
  have h2 := key ⟨x.toNat, x.toNat_lt⟩ ⟨y.toNat, y.toNat_lt⟩ (UInt8.lt_iff_toNat_lt.1 h)
  simp only [UInt8.ofNat_toNat, List.any_eq_true, List.mem_range, Bool.and_eq_true, List.all_eq_true, beq_iff_eq, Bool.not_eq_true'] at h2
  obtain ⟨j, hj, ⟨h3, h4⟩, h5⟩ := h2
  exact ⟨j, hj, h3, h4, h5⟩
theorem cmpL_lt : ∀ (a b : List UInt8), cmpL a b < 0 → ∃ k, k < a.length ∧ k < b.length ∧ (∀ i, i < k → a.getD i 0 = b.getD i 0) ∧ a.getD k 0 < b.getD k 0
  | [], b, h => by unfold cmpL at h; omega
  | x :: a, [], h => by unfold cmpL at h; omega
  | x :: a, y :: b, h => by
    unfold cmpL at h
    by_cases h1 : x < y
    · exact ⟨0, by simp, by simp, fun i hi => by omega, by simpa using h1⟩
    · rw [if_neg h1] at h
      by_cases h2 : y < x
      · rw [if_pos h2] at h; omega
      · rw [if_neg h2] at h
        obtain ⟨k, k1, k2, k3, k4⟩ := cmpL_lt a b h
        have e : x = y := UInt8.le_antisymm (UInt8.not_lt.1 h2) (UInt8.not_lt.1 h1)
        refine ⟨k + 1, by simp; omega, by simp; omega, fun i hi => ?_, by simpa using k4⟩
        cases i with
        | zero => simpa using e
        | succ i => simpa using k3 i (by omega)
theorem cmpB_bits {a b : B32} (h : cmpB a b < 0) : ∃ i, i < 256 ∧ (∀ j, j < i → bitAt a j = bitAt b j) ∧ bitAt a i = false ∧ bitAt b i = true := by
  obtain ⟨k, k1, _, k3, k4⟩ := cmpL_lt a.1 b.1 h
  obtain ⟨j, hj, h1, h2, h3⟩ := byte_lt_bits _ _ k4
  have ha := a.2
  refine ⟨8 * k + j, by omega, fun i hi => ?_, ?_, ?_⟩
  · unfold bitAt
    by_cases hk : i / 8 < k
    · rw [k3 _ hk]
    · have e : i / 8 = k := by omega
      rw [e]
      exact h1 _ (by omega)
  · unfold bitAt
    rw [show (8 * k + j) / 8 = k by omega, show (8 * k + j) % 8 = j by omega]
    exact h2
  · unfold bitAt
    rw [show (8 * k + j) / 8 = k by omega, show (8 * k + j) % 8 = j by omega]
    exact h3
end Go.Proofs.YtgfkbeipckbkiaaDoor
/- E16 -/
namespace Go.Proofs.YtgfkbeipckbkiaaDoor
set_option linter.unusedSimpArgs false
set_option linter.unusedVariables false
open Go.RowKit
/-- ahead of another key -/
def ltK (a b : B32) : Prop := ∃ i, i < 256 ∧ (∀ j, j < i → bitAt a j = bitAt b j) ∧ bitAt a i = false ∧ bitAt b i = true
theorem ltK_trans {a b c : B32} (h : ltK a b) (h' : ltK b c) : ltK a c := by
  obtain ⟨i, i1, i2, i3, i4⟩ := h
  obtain ⟨j, j1, j2, j3, j4⟩ := h'
  rcases Nat.lt_trichotomy i j with hij | rfl | hij
  · exact ⟨i, i1, fun k hk => (i2 k hk).trans (j2 k (by omega)), i3, (j2 i hij) ▸ i4⟩
  · rw [i4] at j3; cases j3
  · exact ⟨j, j1, fun k hk => (i2 k (by omega)).trans (j2 k hk), (i2 j hij).trans j3, j4⟩
def AlikeK (l : List B32) (d : Nat) : Prop := ∀ a ∈ l, ∀ b ∈ l, ∀ i, i < d → bitAt a i = bitAt b i
theorem ltK_bit {a b : B32} {d : Nat} (h : ltK a b) (ha : ∀ i, i < d → bitAt a i = bitAt b i) (hb : bitAt a d = true) : bitAt b d = true := by
  obtain ⟨i, i1, i2, i3, i4⟩ := h
  rcases Nat.lt_trichotomy i d with hid | rfl | hid
  · rw [ha i hid, i4] at i3; cases i3
  · rw [hb] at i3; cases i3
  · rw [← i2 d hid]; exact hb
theorem split_at : ∀ {l : List B32} {d : Nat}, l.Pairwise ltK → AlikeK l d → ∃ m, m ≤ l.length ∧ (∀ j, j < l.length → bitAt (l.getD j zB32) d = decide (m ≤ j)) ∧ l.take m = l.filter (fun k => bitAt k d == false) ∧ l.drop m = l.filter (fun k => bitAt k d == true)
  | [], _, _, _ => ⟨0, Nat.le_refl _, fun j hj => by simp at hj, rfl, rfl⟩
  | a :: l, d, ho, ha => by
    obtain ⟨h1, h2⟩ := List.pairwise_cons.1 ho
    have hal : AlikeK l d := fun x hx y hy => ha x (List.mem_cons_of_mem _ hx) y (List.mem_cons_of_mem _ hy)
    cases hb : bitAt a d
    · obtain ⟨m, m1, m2, m3, m4⟩ := split_at h2 hal
      refine ⟨m + 1, by simp; omega, fun j hj => ?_, ?_, ?_⟩
      · cases j with
        | zero => simpa using hb
        | succ j =>
          have := m2 j (by simpa using hj)
          rw [List.getD_cons_succ, this]
          exact decide_eq_decide.2 ⟨fun h => by omega, fun h => by omega⟩
      · rw [List.take_succ_cons, m3, List.filter_cons_of_pos (by simp [hb])]
      · rw [List.drop_succ_cons, m4, List.filter_cons_of_neg (by simp [hb])]
    · have hall : ∀ x ∈ l, bitAt x d = true := fun x hx => ltK_bit (h1 x hx) (ha a (List.mem_cons_self ..) x (List.mem_cons_of_mem _ hx)) hb
      refine ⟨0, Nat.zero_le _, fun j hj => ?_, ?_, ?_⟩
      · cases j with
        | zero => simpa using hb
        | succ j =>
          have hj' : j < l.length := by simpa using hj
          rw [List.getD_cons_succ, List.getD_eq_getElem?_getD, List.getElem?_eq_getElem hj', Option.getD_some, hall _ (List.getElem_mem hj')]
          simp
      · rw [List.take_zero, List.filter_cons_of_neg (by simp [hb])]
        symm
        rw [List.filter_eq_nil_iff]
        intro x hx
        simp [hall x hx]
      · rw [List.drop_zero, List.filter_cons_of_pos (by simp [hb])]
        congr 1
        symm
        rw [List.filter_eq_self]
        intro x hx
        simp [hall x hx]
end Go.Proofs.YtgfkbeipckbkiaaDoor
/- E17 -/
namespace Go.Proofs.YtgfkbeipckbkiaaDoor
set_option linter.unusedSimpArgs false
set_option linter.unusedVariables false
open Go.RowKit
/-- the keys with a bit -/
def keysB (ks : List B32) (d : Nat) (b : Bool) : List B32 := ks.filter fun k => bitAt k d == b
/-- what add appends -/
def addT (n : Nat) : Tr → List B32 → Nat → List Item
  | .nil, _, _ => [⟨0, zB32, zLeaf⟩]
  | t, [], _ => [⟨3, dgT n t, zLeaf⟩]
  | .leaf k v, _, _ => [⟨1, zB32, leafOf n k v⟩]
  | .node l r, ks, d => ⟨2, zB32, zLeaf⟩ :: (addT n l (keysB ks d false) (d + 1) ++ addT n r (keysB ks d true) (d + 1))
theorem keysB_alike {ks : List B32} {d : Nat} (h : AlikeK ks d) (b : Bool) : AlikeK (keysB ks d b) (d + 1) := fun x hx y hy i hi => by
  have hx' := List.mem_filter.1 hx
  have hy' := List.mem_filter.1 hy
  rcases Nat.lt_or_ge i d with h1 | h1
  · exact h x hx'.1 y hy'.1 i h1
  · obtain rfl : i = d := by omega
    have e1 : bitAt x i = b := by simpa using hx'.2
    have e2 : bitAt y i = b := by simpa using hy'.2
    rw [e1, e2]
theorem keysB_ord {ks : List B32} {d : Nat} (h : ks.Pairwise ltK) (b : Bool) : (keysB ks d b).Pairwise ltK := h.filter _
end Go.Proofs.YtgfkbeipckbkiaaDoor
/- U71 -/
namespace Go.Proofs.YtgfkbeipckbkiaaDoor
set_option linter.unusedSimpArgs false
set_option linter.unusedVariables false
open Go.RowKit
def Tr.ht : Tr → Nat
  | .node l r => max l.ht r.ht + 1
  | _ => 0
def Tr.sz : Tr → Nat
  | .node l r => l.sz + r.sz + 1
  | _ => 1
theorem addT_len (n : Nat) : ∀ (t : Tr) (ks : List B32) (d : Nat), (addT n t ks d).length ≤ t.sz
  | .nil, ks, d => by unfold addT; exact Nat.le_refl _
  | .leaf k v, ks, d => by cases ks <;> (unfold addT; exact Nat.le_refl _)
  | .node l r, [], d => by unfold addT; show 1 ≤ l.sz + r.sz + 1; omega
  | .node l r, x :: ks, d => by
    unfold addT
    have h1 := addT_len n l (keysB (x :: ks) d false) (d + 1)
    have h2 := addT_len n r (keysB (x :: ks) d true) (d + 1)
    show ((addT n l _ _ ++ addT n r _ _).length + 1) ≤ l.sz + r.sz + 1
    rw [List.length_append]
    omega
theorem its_app (l m : List Item) : its l ++ its m = its (l ++ m) := by unfold its; rw [List.flatMap_append]
theorem dgs_takeZ {h : Zh} {A : Option Addr} {ks : List B32} (hr : RdZ h A (dgs ks)) (m : Nat) : RdZ h A (dgs (ks.take m)) := by
  have e : dgs ks = dgs (ks.take m) ++ dgs (ks.drop m) := by rw [← dgs_append, List.take_append_drop]
  refine ⟨fun j v hv => hr.at_ j v ?_⟩
  rw [e, List.getElem?_append_left (List.getElem?_eq_some_iff.1 hv).1]
  exact hv
theorem dgs_dropZ {h : Zh} {A : Option Addr} {ks : List B32} {c m : Nat} (hr : RdZ h A (dgs ks)) (hm : m ≤ ks.length) (hc : ks.length ≤ c) : RdZ h (cutA A c m 32) (dgs (ks.drop m)) := by
  have e : dgs ks = dgs (ks.take m) ++ dgs (ks.drop m) := by rw [← dgs_append, List.take_append_drop]
  have hl : (dgs (ks.take m)).length = m * 32 := by rw [dgs_len, List.length_take, Nat.min_eq_left hm]
  unfold cutA
  split
  · have : ks.drop m = [] := List.drop_of_length_le (by omega)
    rw [this]
    exact RdZ.nil _ _
  · refine ⟨fun j v hv => ?_⟩
    have h1 := hr.at_ (m * 32 + j) v (by rw [e, List.getElem?_append_right (by omega), hl, Nat.add_sub_cancel_left]; exact hv)
    obtain ⟨b, o, rfl, h2⟩ := h1
    exact ⟨b, o + m * 32, by simp [Addr.add_mid], by rw [Nat.add_assoc]; exact h2⟩
end Go.Proofs.YtgfkbeipckbkiaaDoor
/- U72 -/
namespace Go.Proofs.YtgfkbeipckbkiaaDoor
set_option linter.unusedSimpArgs false
set_option linter.unusedVariables false
open Go.RowKit
section
variable (n : Nat) (hn : n ≤ 256) (gh gc k : Nat) (hk : k ≤ 1000000000) (h : Zh) [hT : RdZ h (some ⟨1, 0, none⟩) hashT]
variable (p : Option Addr) (out : List Item) (A : Option Addr) (c : Nat) (ho : out.length ≤ 1000000) (i : Int)
theorem its_one (x : Item) : its [x] = x.cells := by unfold its; simp
theorem its_snoc (l : List Item) (x : Item) : its l ++ x.cells = its (l ++ [x]) := by rw [← its_one x, its_app]
include ho
omit hT in
theorem add_nil (ht : TrZ n h .nil p) (B : Option Addr) (N cc : Nat) : Spec Tryd.prog 35 [.pointer (some ⟨gh, 0, none⟩), .slice A out.length c, .pointer p, .slice B N cc, .int .i64 i].toArray [HR gh gc n, .zone false h] [.own (.slice A out.length c) out.length 45 97 (its out), CN gc k] (fun u : Option Addr × Nat => .slice u.1 (out.length + 1) u.2) (fun u => [.own (.slice u.1 (out.length + 1) u.2) (out.length + 1) 45 97 (its (out ++ [⟨0, zB32, zLeaf⟩])), CN gc k]) := by
  refine spec_of Tryd.func35 rfl (n := 72) rfl rfl ?_
  intro W
  refine h_seq ?_
  refine h_reg ?_
  refine h_op (r_assign rfl) ?_
  refine h_nil ?_
  refine q_then ?_
  refine h_seq ?_
  refine h_reg ?_
  refine h_op (r_move rfl) ?_
  refine h_call ((Kind_s n h .nil p).comes) rfl rfl rfl fun _ => ?_
  refine h_op (r_assign rfl) ?_
  refine h_nil ?_
  refine q_then ?_
  refine h_seq ?_
  refine h_block ?_
  refine h_seq ?_
  refine h_reg ?_
  refine h_op (r_move rfl) ?_
  refine h_op (r_bool (r_eql rfl rfl) (show _ = true from rfl)) ?_
  refine h_op (r_assign rfl) ?_
  refine h_nil ?_
  refine q_then ?_
  refine h_condT rfl ?_
  refine h_seq ?_
  refine h_reg ?_
  refine h_op (r_move rfl) ?_
  refine h_op (r_build rfl) ?_
  refine h_opX (x_bsl rfl rfl) fun g20 => ?_
  refine h_opX (x_app rfl rfl (k := 97)) fun ⟨g21, c21⟩ => ?_
  refine h_op (r_assign rfl) ?_
  refine h_nil ?_
  refine q_then ?_
  refine h_ret ?_
  refine q_blockR ?_
  refine q_thenR ?_
  rw [show zItem.cells = Item.cells ⟨0, zB32, zLeaf⟩ from rfl, its_snoc]
  exact h_ret1 rfl rfl fun w s => ⟨(some ⟨g21, 0, none⟩, c21), rfl, (same w s).res (List.Sublist.refl _) (by simp [Fa.wr])⟩
include hn hk
theorem add_sib (t : Tr) (ht : TrZ n h t p) (hk0 : t.kind ≠ 0) (B : Option Addr) (cc : Nat) : Spec Tryd.prog 35 [.pointer (some ⟨gh, 0, none⟩), .slice A out.length c, .pointer p, .slice B 0 cc, .int .i64 i].toArray [HR gh gc n, .zone false h] [.own (.slice A out.length c) out.length 45 97 (its out), CN gc k] (fun u : Option Addr × Nat => .slice u.1 (out.length + 1) u.2) (fun u => [.own (.slice u.1 (out.length + 1) u.2) (out.length + 1) 45 97 (its (out ++ [⟨3, dgT n t, zLeaf⟩])), CN gc k]) := by
  have hD := Digest_s n hn gh gc k (by omega) h t p
  rw [if_neg hk0, Nat.add_zero] at hD
  refine spec_of Tryd.func35 rfl (n := 72) rfl rfl ?_
  intro W
  refine h_seq ?_
  refine h_reg ?_
  refine h_op (r_assign rfl) ?_
  refine h_nil ?_
  refine q_then ?_
  refine h_seq ?_
  refine h_reg ?_
  refine h_op (r_move rfl) ?_
  refine h_call ((Kind_s n h t p).comes) rfl rfl rfl fun _ => ?_
  refine h_op (r_assign rfl) ?_
  refine h_nil ?_
  refine q_then ?_
  refine h_seq ?_
  refine h_block ?_
  refine h_seq ?_
  refine h_reg ?_
  refine h_op (r_move rfl) ?_
  refine h_op (r_bool (r_eql rfl rfl) (decide_eq_false (by omega))) ?_
  refine h_op (r_assign rfl) ?_
  refine h_nil ?_
  refine q_then ?_
  refine h_condF rfl ?_
  refine h_seq ?_
  refine h_reg ?_
  refine h_op (r_move rfl) ?_
  refine h_op (r_len rfl) ?_
  refine h_op (r_bool (r_eql rfl rfl) (show _ = true from rfl)) ?_
  refine h_op (r_assign rfl) ?_
  refine h_nil ?_
  refine q_then ?_
  refine h_condT rfl ?_
  refine h_seq ?_
  refine h_reg ?_
  refine h_op (r_move rfl) ?_
  refine h_op (r_move rfl) ?_
  refine h_op (r_move rfl) ?_
  refine h_call (hD.comes) rfl rfl rfl fun _ => ?_
  refine h_op (r_build rfl) ?_
  refine h_opX (x_bsl rfl rfl) fun g31 => ?_
  refine h_opX (x_app rfl rfl (k := 97)) fun ⟨g32, c32⟩ => ?_
  refine h_op (r_assign rfl) ?_
  refine h_nil ?_
  refine q_then ?_
  refine h_ret ?_
  refine q_blockR ?_
  refine q_thenR ?_
  change H _ _ _ _ _ (.own _ _ _ _ (its out ++ Item.cells ⟨3, dgT n t, zLeaf⟩) :: _) _
  rw [its_snoc]
  exact h_ret1 rfl rfl fun w s => ⟨(some ⟨g32, 0, none⟩, c32), rfl, (same w s).res (List.Sublist.refl _) (by simp [Fa.wr])⟩
omit hn hk hT in
theorem add_leaf (key : B32) (v : List UInt8) (ht : TrZ n h (.leaf key v) p) (B : Option Addr) (N cc : Nat) (hN : N ≠ 0) : Spec Tryd.prog 35 [.pointer (some ⟨gh, 0, none⟩), .slice A out.length c, .pointer p, .slice B N cc, .int .i64 i].toArray [HR gh gc n, .zone false h] [.own (.slice A out.length c) out.length 45 97 (its out), CN gc k] (fun u : Option Addr × Nat => .slice u.1 (out.length + 1) u.2) (fun u => [.own (.slice u.1 (out.length + 1) u.2) (out.length + 1) 45 97 (its (out ++ [⟨1, zB32, leafOf n key v⟩])), CN gc k]) := by
  refine spec_of Tryd.func35 rfl (n := 72) rfl rfl ?_
  intro W
  refine h_seq ?_
  refine h_reg ?_
  refine h_op (r_assign rfl) ?_
  refine h_nil ?_
  refine q_then ?_
  refine h_seq ?_
  refine h_reg ?_
  refine h_op (r_move rfl) ?_
  refine h_call ((Kind_s n h (.leaf key v) p).comes) rfl rfl rfl fun _ => ?_
  refine h_op (r_assign rfl) ?_
  refine h_nil ?_
  refine q_then ?_
  refine h_seq ?_
  refine h_block ?_
  refine h_seq ?_
  refine h_reg ?_
  refine h_op (r_move rfl) ?_
  refine h_op (r_bool (r_eql rfl rfl) (show _ = false from rfl)) ?_
  refine h_op (r_assign rfl) ?_
  refine h_nil ?_
  refine q_then ?_
  refine h_condF rfl ?_
  refine h_seq ?_
  refine h_reg ?_
  refine h_op (r_move rfl) ?_
  refine h_op (r_len rfl) ?_
  refine h_op (r_bool (r_eql rfl rfl) (decide_eq_false (by omega))) ?_
  refine h_op (r_assign rfl) ?_
  refine h_nil ?_
  refine q_then ?_
  refine h_condF rfl ?_
  refine h_seq ?_
  refine h_reg ?_
  refine h_op (r_move rfl) ?_
  refine h_op (r_bool (r_eql rfl rfl) (show _ = true from rfl)) ?_
  refine h_op (r_assign rfl) ?_
  refine h_nil ?_
  refine q_then ?_
  refine h_condT rfl ?_
  refine h_seq ?_
  refine h_reg ?_
  refine h_op (r_move rfl) ?_
  refine h_op (r_move rfl) ?_
  refine h_op (r_move rfl) ?_
  refine h_call ((Leaf_s n h (.leaf key v) p).comes) rfl rfl rfl fun _ => ?_
  refine h_op (r_build rfl) ?_
  refine h_opX (x_bsl rfl rfl) fun g41 => ?_
  refine h_opX (x_app rfl rfl (k := 97)) fun ⟨g42, c42⟩ => ?_
  refine h_op (r_assign rfl) ?_
  refine h_nil ?_
  refine q_then ?_
  refine h_ret ?_
  refine q_blockR ?_
  refine q_thenR ?_
  change H _ _ _ _ _ (.own _ _ _ _ (its out ++ Item.cells ⟨1, zB32, leafOf n key v⟩) :: _) _
  rw [its_snoc]
  exact h_ret1 rfl rfl fun w s => ⟨(some ⟨g42, 0, none⟩, c42), rfl, (same w s).res (List.Sublist.refl _) (by simp [Fa.wr])⟩
end
end Go.Proofs.YtgfkbeipckbkiaaDoor
/- N16 -/
namespace Go.Proofs.YtgfkbeipckbkiaaDoor
set_option linter.unusedSimpArgs false
set_option linter.unusedVariables false
open Go.RowKit
section
variable {P : Program} {nn : Nat} {D : List Deferred} {E : Env} {L : List Fa} {T : TypeId} {x q r : Operand} {e size bytes : Nat} {z : Value} {N c h m : Nat}
theorem run_slHM [E' : TS P T e size bytes z] {b O : Nat} {i2 i3 : Int} {k2 k3 : IntKind} (w : World) (h2 : NatOf i2 h) (h3 : NatOf i3 m) (a2 : h ≤ m) (a3 : m ≤ c) :
    (Instr.sliceAt T (.slice (some ⟨b, O, none⟩) N c) none (some (.int k2 i2)) (some (.int k3 i3))).run P w = .ok (.slice (some ⟨b, O, none⟩) h m) w := by
  obtain rfl := h2.eq
  obtain rfl := h3.eq
  obtain ⟨t, hi, _, hsz, _⟩ := info_parts E'.el.hi
  have c1 : (0 : Int) ≤ (m : Int) ∧ (m : Int) ≤ (c : Int) := ⟨by omega, by omega⟩
  have c2 : (0 : Int) ≤ (h : Int) ∧ (h : Int) ≤ (m : Int) := ⟨by omega, by omega⟩
  have c3 : (0 : Int) ≤ (0 : Int) ∧ (0 : Int) ≤ (h : Int) := ⟨by omega, by omega⟩
  unfold Instr.sliceAt
  simp only [Sem.run_bind, run_underlying E'.el.ht, Result.andThen_ok, Instr.slice, Instr.sliceBounds, Instr.sliceBound, asIntOf, Sem.run_pure, if_pos c1, if_pos c2, if_pos c3, Int.toNat_natCast, sizeOf, typeInfo, Option.isSome_some]
  simp [hi, hsz, Addr.add_mid]
theorem r_slHM [E' : TS P T e size bytes z] {b O : Nat} {i2 i3 : Int} {k2 k3 : IntKind} (hx : ev E x = some (.slice (some ⟨b, O, none⟩) N c)) (hq : ev E q = some (.int k2 i2)) (hr : ev E r = some (.int k3 i3)) [h2 : NatOf i2 h] [h3 : NatOf i3 m] (a2 : h ≤ m := by omega) (a3 : m ≤ c := by omega) : Runs0 P nn D E L (.slice T x none (some q) (some r)) (.slice (some ⟨b, O, none⟩) h m) := fun a w ka s o ho => by
  have := run_slHM (P := P) (T := T) (N := N) (b := b) (O := O) (k2 := k2) (k3 := k3) w h2 h3 a2 a3
  unfold execOp
  simp only [ho, ka.ev hx, Option.map_some, Option.map_none, ka.ev hq, ka.ev hr]
  rw [Sem.run_bind, this]
  rfl
theorem cut_zero {b O c size : Nat} (hc : 0 < c) : cutA (some ⟨b, O, none⟩) c 0 size = some ⟨b, O, none⟩ := by
  unfold cutA
  rw [if_neg (by omega)]
  simp [Addr.add_mid]
theorem r_slHb [E' : TS P T e size bytes z] {b O : Nat} {j : Int} {k : IntKind} (hx : ev E x = some (.slice (some ⟨b, O, none⟩) N c)) (hq : ev E q = some (.int k j)) [hj : NatOf j h] (hl : h ≤ c := by omega) (hc : 0 < c := by omega) : Runs0 P nn D E L (.slice T x none (some q) none) (.slice (some ⟨b, O, none⟩) h c) := by
  have := r_slH (P := P) (n := nn) (D := D) (L := L) (E' := E') hx hq (hj := hj) hl
  rwa [cut_zero hc] at this
end
end Go.Proofs.YtgfkbeipckbkiaaDoor
/- U73 -/
namespace Go.Proofs.YtgfkbeipckbkiaaDoor
set_option linter.unusedSimpArgs false
set_option linter.unusedVariables false
open Go.RowKit
section
variable (n : Nat) (hn : n ≤ 256) (gh gc k : Nat) (hk : k ≤ 1000000000) (h : Zh) [hT : RdZ h (some ⟨1, 0, none⟩) hashT]
/-- what a call of add brings -/
def AddS (t : Tr) : Prop := ∀ (p : Option Addr), TrZ n h t p → ∀ (ks : List B32) (B : Option Addr) (cc d : Nat), RdZ h B (dgs ks) → ks.length ≤ cc → ks.length ≤ 1000000 → ks.Pairwise ltK → AlikeK ks d → d + t.ht ≤ 256 → ∀ (out : List Item) (A : Option Addr) (c : Nat), out.length + t.sz ≤ 1000000 →
  Spec Tryd.prog 35 [.pointer (some ⟨gh, 0, none⟩), .slice A out.length c, .pointer p, .slice B ks.length cc, .int .i64 (d : Int)].toArray [HR gh gc n, .zone false h] [.own (.slice A out.length c) out.length 45 97 (its out), CN gc k] (fun u : Option Addr × Nat => .slice u.1 (out ++ addT n t ks d).length u.2) (fun u => [.own (.slice u.1 (out ++ addT n t ks d).length u.2) (out ++ addT n t ks d).length 45 97 (its (out ++ addT n t ks d)), CN gc k])
omit hT in
theorem add_node (l r : Tr) (ihl : AddS n gh gc k h l) (ihr : AddS n gh gc k h r) (p : Option Addr) (ht : TrZ n h (.node l r) p) (ks : List B32) (B : Option Addr) (cc d m : Nat) (hB : RdZ h B (dgs ks)) (hcc : ks.length ≤ cc) (hks : ks.length ≤ 1000000) (hne : ks.length ≠ 0) (ho : ks.Pairwise ltK) (ha : AlikeK ks d) (hd : d + (Tr.node l r).ht ≤ 256) (hm : m ≤ ks.length) (hp : ∀ j, j < ks.length → bitAt (ks.getD j zB32) d = decide (m ≤ j)) (h1 : ks.take m = keysB ks d false) (h2 : ks.drop m = keysB ks d true) (out : List Item) (A : Option Addr) (c : Nat) (hsz : out.length + (Tr.node l r).sz ≤ 1000000) :
    Spec Tryd.prog 35 [.pointer (some ⟨gh, 0, none⟩), .slice A out.length c, .pointer p, .slice B ks.length cc, .int .i64 (d : Int)].toArray [HR gh gc n, .zone false h] [.own (.slice A out.length c) out.length 45 97 (its out), CN gc k] (fun u : Option Addr × Nat => .slice u.1 (out ++ ⟨2, zB32, zLeaf⟩ :: (addT n l (keysB ks d false) (d + 1) ++ addT n r (keysB ks d true) (d + 1))).length u.2) (fun u => [.own (.slice u.1 (out ++ ⟨2, zB32, zLeaf⟩ :: (addT n l (keysB ks d false) (d + 1) ++ addT n r (keysB ks d true) (d + 1))).length u.2) (out ++ ⟨2, zB32, zLeaf⟩ :: (addT n l (keysB ks d false) (d + 1) ++ addT n r (keysB ks d true) (d + 1))).length 45 97 (its (out ++ ⟨2, zB32, zLeaf⟩ :: (addT n l (keysB ks d false) (d + 1) ++ addT n r (keysB ks d true) (d + 1)))), CN gc k]) := by
  have hht : d + (max l.ht r.ht + 1) ≤ 256 := hd
  have hsz' : out.length + (l.sz + r.sz + 1) ≤ 1000000 := hsz
  have h0 : 0 < (dgs ks).length := by rw [dgs_len]; omega
  obtain ⟨b, o, rfl, -⟩ := hB.at_ 0 _ (List.getElem?_eq_getElem h0)
  have hlm : (ks.take m).length = m := by rw [List.length_take, Nat.min_eq_left hm]
  have hlen1 := addT_len n l (keysB ks d false) (d + 1)
  have hL := ihl (subP h false p) (TrZ.left ht) (ks.take m) (some ⟨b, o, none⟩) m (d + 1) (dgs_takeZ hB m) (by omega) (by omega) (by rw [h1]; exact keysB_ord ho _) (by rw [h1]; exact keysB_alike ha _) (by omega)
  have hR := ihr (subP h true p) (TrZ.right ht) (ks.drop m) (cutA (some ⟨b, o, none⟩) cc m 32) (cc - m) (d + 1) (dgs_dropZ hB hm hcc) (by rw [List.length_drop]; omega) (by rw [List.length_drop]; omega) (by rw [h2]; exact keysB_ord ho _) (by rw [h2]; exact keysB_alike ha _) (by omega)
  rw [hlm] at hL
  rw [List.length_drop] at hR
  rw [h1] at hL
  rw [h2] at hR
  have hS := Split_s ks (some ⟨b, o, none⟩) cc d m (by omega) hks hm hp
  have e3 : (out ++ [⟨2, zB32, zLeaf⟩]) ++ addT n l (keysB ks d false) (d + 1) ++ addT n r (keysB ks d true) (d + 1) = out ++ ⟨2, zB32, zLeaf⟩ :: (addT n l (keysB ks d false) (d + 1) ++ addT n r (keysB ks d true) (d + 1)) := by simp
  rw [← e3]
  have hl1 : out.length + 1 = (out ++ [(⟨2, zB32, zLeaf⟩ : Item)]).length := by simp
  refine spec_of Tryd.func35 rfl (n := 72) rfl rfl ?_
  intro W
  refine h_seq ?_
  refine h_reg ?_
  refine h_op (r_assign rfl) ?_
  refine h_nil ?_
  refine q_then ?_
  refine h_seq ?_
  refine h_reg ?_
  refine h_op (r_move rfl) ?_
  refine h_call ((Kind_s n h (.node l r) p).comes) rfl rfl rfl fun _ => ?_
  refine h_op (r_assign rfl) ?_
  refine h_nil ?_
  refine q_then ?_
  refine h_seq ?_
  refine h_block ?_
  refine h_seq ?_
  refine h_reg ?_
  refine h_op (r_move rfl) ?_
  refine h_op (r_bool (r_eql rfl rfl) (show _ = false from rfl)) ?_
  refine h_op (r_assign rfl) ?_
  refine h_nil ?_
  refine q_then ?_
  refine h_condF rfl ?_
  refine h_seq ?_
  refine h_reg ?_
  refine h_op (r_move rfl) ?_
  refine h_op (r_len rfl) ?_
  refine h_op (r_bool (r_eql rfl rfl) (decide_eq_false (by omega))) ?_
  refine h_op (r_assign rfl) ?_
  refine h_nil ?_
  refine q_then ?_
  refine h_condF rfl ?_
  refine h_seq ?_
  refine h_reg ?_
  refine h_op (r_move rfl) ?_
  refine h_op (r_bool (r_eql rfl rfl) (show _ = false from rfl)) ?_
  refine h_op (r_assign rfl) ?_
  refine h_nil ?_
  refine q_then ?_
  refine h_condF rfl ?_
  refine h_skip ?_
  refine q_block ?_
  refine q_then ?_
  refine h_seq ?_
  refine h_reg ?_
  refine h_op (r_move rfl) ?_
  refine h_op (r_move rfl) ?_
  refine h_call (hS.comes) rfl rfl rfl fun _ => ?_
  refine h_op (r_assign rfl) ?_
  refine h_nil ?_
  refine q_then ?_
  refine h_seq ?_
  refine h_reg ?_
  refine h_op (r_move rfl) ?_
  refine h_op (r_move rfl) ?_
  refine h_op (r_build rfl) ?_
  refine h_opX (x_bsl rfl rfl) fun g49 => ?_
  refine h_opX (x_app rfl rfl (k := 97)) fun ⟨g50, c50⟩ => ?_
  refine h_op (r_assign rfl) ?_
  refine h_nil ?_
  refine q_then ?_
  refine h_seq ?_
  change H _ _ _ _ _ (.own _ _ _ _ (its out ++ Item.cells ⟨2, zB32, zLeaf⟩) :: _) _
  rw [its_snoc, hl1]
  refine ha_start [.zone false h] [] mixed (same) ?_
  refine ha_takeP 0 rfl (r_move rfl) ?_
  refine ha_takeP 1 rfl (r_move rfl) ?_
  refine ha_takeP 2 rfl (r_move rfl) ?_
  refine ha_takeP 4 rfl (r_move rfl) ?_
  refine ha_takeP 5 rfl (r_move rfl) ?_
  refine ha_takeP 6 rfl (r_move rfl) ?_
  refine ha_takeP 7 rfl (r_slHM rfl rfl rfl) ?_
  refine ha_takeP 8 rfl (r_move rfl) ?_
  refine ha_takeP 9 rfl (r_add rfl rfl) ?_
  refine ha_one 3 ?_
  refine ho_C 3 rfl ((Child_s n h (.node l r) p 0 false (by simp)).comes) rfl rfl rfl (fun _ => same) fun _ => ?_
  refine ha_one 10 ?_
  refine ho_C 10 rfl ((hL (out ++ [⟨2, zB32, zLeaf⟩]) (some ⟨g50, 0, none⟩) c50 (by rw [← hl1]; omega)).comes) rfl rfl rfl (fun _ => same) fun ⟨A61, c61⟩ => ?_
  refine ha_takeP 11 rfl (r_assign rfl) ?_
  refine ha_done (by kernel_rfl) ?_
  refine q_then ?_
  refine h_seq ?_
  refine ha_start [.zone false h] [] mixed (same) ?_
  refine ha_takeP 0 rfl (r_move rfl) ?_
  refine ha_takeP 1 rfl (r_move rfl) ?_
  refine ha_takeP 2 rfl (r_move rfl) ?_
  refine ha_takeP 4 rfl (r_move rfl) ?_
  refine ha_takeP 5 rfl (r_move rfl) ?_
  refine ha_takeP 6 rfl (r_slL rfl rfl) ?_
  refine ha_takeP 7 rfl (r_move rfl) ?_
  refine ha_takeP 8 rfl (r_add rfl rfl) ?_
  refine ha_one 3 ?_
  refine ho_C 3 rfl ((Child_s n h (.node l r) p 1 true (by simp)).comes) rfl rfl rfl (fun _ => same) fun _ => ?_
  refine ha_one 9 ?_
  refine ho_C 9 rfl ((hR (out ++ [⟨2, zB32, zLeaf⟩] ++ addT n l (keysB ks d false) (d + 1)) A61 c61 (by rw [List.length_append, ← hl1]; omega)).comes) rfl rfl rfl (fun _ => same) fun ⟨A71, c71⟩ => ?_
  refine ha_takeP 10 rfl (r_assign rfl) ?_
  refine ha_done (by kernel_rfl) ?_
  refine q_then ?_
  refine h_ret ?_
  exact h_ret1 rfl rfl fun w s => ⟨(A71, c71), rfl, (same w s).res (List.Sublist.refl _) (by simp [Fa.wr])⟩
include hn hk
theorem add_s : ∀ t : Tr, AddS n gh gc k h t
  | .nil => fun p ht ks B cc d _ _ _ _ _ _ out A c ho => by
    have h1 : addT n .nil ks d = [⟨0, zB32, zLeaf⟩] := by unfold addT; rfl
    rw [h1, List.length_append]
    exact add_nil n gh gc k h p out A c (by omega) _ ht B ks.length cc
  | .leaf key v => fun p ht ks B cc d _ _ _ _ _ _ out A c ho => by
    cases ks with
    | nil =>
      have h1 : addT n (.leaf key v) [] d = [⟨3, dgT n (.leaf key v), zLeaf⟩] := by unfold addT; rfl
      rw [h1, List.length_append]
      exact add_sib n hn gh gc k hk h p out A c (by omega) _ (.leaf key v) ht (by simp [Tr.kind]) B cc
    | cons x ks =>
      have h1 : addT n (.leaf key v) (x :: ks) d = [⟨1, zB32, leafOf n key v⟩] := by unfold addT; rfl
      rw [h1, List.length_append]
      exact add_leaf n gh gc k h p out A c (by omega) _ key v ht B (x :: ks).length cc (by simp)
  | .node l r => fun p ht ks B cc d hB hcc hks hord hal hd out A c ho => by
    cases ks with
    | nil =>
      have h1 : addT n (.node l r) [] d = [⟨3, dgT n (.node l r), zLeaf⟩] := by unfold addT; rfl
      rw [h1, List.length_append]
      exact add_sib n hn gh gc k hk h p out A c (by omega) _ (.node l r) ht (by simp [Tr.kind]) B cc
    | cons x ks =>
      obtain ⟨m, m1, m2, m3, m4⟩ := split_at hord hal
      have h1 : addT n (.node l r) (x :: ks) d = ⟨2, zB32, zLeaf⟩ :: (addT n l (keysB (x :: ks) d false) (d + 1) ++ addT n r (keysB (x :: ks) d true) (d + 1)) := by conv => lhs; unfold addT
      rw [h1]
      exact add_node n gh gc k h l r (add_s l) (add_s r) p ht (x :: ks) B cc d m hB hcc hks (by simp) hord hal hd m1 m2 m3 m4 out A c ho
end
end Go.Proofs.YtgfkbeipckbkiaaDoor
/- U63 -/
namespace Go.Proofs.YtgfkbeipckbkiaaDoor
set_option linter.unusedSimpArgs false
set_option linter.unusedVariables false
open Go.RowKit
theorem its_at {l : List Item} {k : Nat} {x : Item} (h : l[k]? = some x) : ∀ j v, x.cells[j]? = some v → (its l)[k * 97 + j]? = some v := by
  induction l generalizing k with
  | nil => cases h
  | cons y l ih =>
    intro j v hv
    rw [its_cons]
    cases k with
    | zero =>
      obtain rfl : y = x := by simpa using h
      rw [Nat.zero_mul, Nat.zero_add, List.getElem?_append_left (List.getElem?_eq_some_iff.1 hv).1]
      exact hv
    | succ k =>
      rw [List.getElem?_append_right (by rw [Item.cells_length]; omega), Item.cells_length, show (k + 1) * 97 + j - 97 = k * 97 + j by omega]
      exact ih (by simpa using h) j v hv
/-- what parse brings -/
def parseV : Except Int Sub → Value
  | .ok t => .tuple #[.iface t.tag t.val, .int .i64 0]
  | .error e => .tuple #[.nilIface, .int .i64 e]
theorem clean3 {x : Item} (h : x.kind = 3) : cleanItem x = decide (x.leaf = zLeaf) := by unfold cleanItem; simp [h]
theorem clean1 {x : Item} (h : ¬ x.kind = 3) (hd : x.digest = zB32) (h1 : x.kind = 1) : cleanItem x = true := by unfold cleanItem; simp [hd, h1]
theorem clean0 {x : Item} (h : ¬ x.kind = 3) (hd : x.digest = zB32) (h1 : ¬ x.kind = 1) : cleanItem x = decide (x.leaf = zLeaf) := by unfold cleanItem; simp [hd, h1]
theorem cleanN {x : Item} (h : ¬ x.kind = 3) (hd : ¬ x.digest = zB32) : cleanItem x = false := by unfold cleanItem; simp [h, hd]
section
variable (h : Zh)
theorem parse_s (l : List Item) (A : Option Addr) (c : Nat) [hr : RdZ h A (its l)] (hc : l.length ≤ c) (hl : l.length ≤ 1000000) : Spec Tryd.prog 42 [.slice A l.length c].toArray [.zone false h] [] (fun _ : Unit => parseV (parseM l)) (fun _ => []) := by
  have hR := read_all h 256 (Nat.le_refl _) l A c hr hc
  rw [show (256 - ((256 : Nat) : Int)) = 0 from rfl] at hR
  refine spec_of Tryd.func42 rfl (n := 64) rfl rfl ?_
  intro W
  refine h_seq ?_
  refine h_reg ?_
  refine h_op (r_assign rfl) ?_
  refine h_op (r_assign rfl) ?_
  refine h_nil ?_
  refine q_then ?_
  refine h_seq ?_
  refine h_reg ?_
  refine h_op (r_assign rfl) ?_
  refine h_nil ?_
  refine q_then ?_
  refine h_seq ?_
  refine h_seq ?_
  refine h_reg ?_
  refine h_op (r_move rfl) ?_
  refine h_op (r_len rfl) ?_
  refine h_op (r_move rfl) ?_
  refine h_nil ?_
  refine q_then ?_
  refine h_block ?_
  refine h_loop (fun (s : Nat × Bool) => s.1 ≤ l.length ∧ (l.take s.1).all kindOk = true ∧ s.2 = (l.take s.1).all cleanItem) (fun (s : Nat × Bool) => [(11, .int .i64 (s.1 : Int)), (10, .int .i64 (l.length : Int)), (9, .slice A l.length c), (4, .bool s.2), (0, .slice A l.length c)]) (fun (s : Nat × Bool) => [.zone false h]) (fun (s : Nat × Bool) => l.length - s.1) (0, true) ((show 0 ≤ l.length ∧ _ ∧ _ from ⟨Nat.zero_le _, rfl, rfl⟩)) ⟨rfl, rfl, rfl, rfl, rfl, trivial⟩ (same) ?_
  rintro ⟨k, b⟩ ⟨hk, hok, hb⟩
  dsimp only at hk hok hb ⊢
  refine h_seq ?_
  refine h_reg ?_
  refine h_op (r_lss rfl rfl) ?_
  refine h_nil ?_
  refine q_then ?_
  refine h_seq ?_
  refine h_cond rfl (fun hlt => ?_) (fun hlt => ?_)
  · have hk2 : k < l.length := by omega
    obtain ⟨x, hx⟩ : ∃ x, l[k]? = some x := ⟨_, List.getElem?_eq_getElem hk2⟩
    have hak := all_take kindOk l k x hx
    have hac := all_take cleanItem l k x hx
    rw [hok, Bool.true_and] at hak
    rw [← hb] at hac
    have h0 : 0 < (its l).length := by rw [its_len]; omega
    obtain ⟨bb, o, rfl, -⟩ := hr.at_ 0 _ (List.getElem?_eq_getElem h0)
    have hat := its_at hx
    by_cases h1 : x.kind < 0
    · have hpm : parseM l = .error 7 := by
        unfold parseM
        rw [if_neg]
        intro ha
        have := List.all_eq_true.1 ha x (List.mem_of_getElem? hx)
        unfold kindOk at this
        simp at this
        omega
      rw [hpm]
      refine h_skip ?_
      refine q_then ?_
      refine h_seq ?_
      refine h_block ?_
      refine h_seq ?_
      refine h_reg ?_
      refine h_op (r_idx rfl rfl) ?_
      refine h_op (r_nthr rfl (out := x.cells) (Item.cells_length x) hat) ?_
      refine h_opX (x_alloc) fun g6 => ?_
      refine h_opS (s_storer rfl rfl) ?_
      refine h_nil ?_
      refine q_then ?_
      refine h_seq ?_
      refine h_seq ?_
      refine h_reg ?_
      refine h_op (r_field rfl) ?_
      refine h_op (r_loadc rfl) ?_
      refine h_op (r_bool (r_lss rfl rfl) (decide_eq_true h1)) ?_
      refine h_op (r_move rfl) ?_
      refine h_opOff ?_
      refine h_opOff ?_
      refine h_opOff ?_
      refine h_op (r_pick rfl rfl) ?_
      refine h_nil ?_
      refine q_then ?_
      refine h_condT rfl ?_
      refine h_seq ?_
      refine h_reg ?_
      refine h_op (r_assign rfl) ?_
      refine h_op (r_assign rfl) ?_
      refine h_nil ?_
      refine q_then ?_
      refine h_ret ?_
      refine q_thenR ?_
      refine q_blockR ?_
      refine q_thenR ?_
      refine q_thenR ?_
      refine q_blockR ?_
      refine q_thenR ?_
      exact h_ret2 rfl rfl rfl fun w s => ⟨(), rfl, s.res (List.nil_sublist _) (by simp)⟩
    · by_cases h2 : 3 < x.kind
      · have hpm : parseM l = .error 7 := by
          unfold parseM
          rw [if_neg]
          intro ha
          have := List.all_eq_true.1 ha x (List.mem_of_getElem? hx)
          unfold kindOk at this
          simp at this
          omega
        rw [hpm]
        refine h_skip ?_
        refine q_then ?_
        refine h_seq ?_
        refine h_block ?_
        refine h_seq ?_
        refine h_reg ?_
        refine h_op (r_idx rfl rfl) ?_
        refine h_op (r_nthr rfl (out := x.cells) (Item.cells_length x) hat) ?_
        refine h_opX (x_alloc) fun g6 => ?_
        refine h_opS (s_storer rfl rfl) ?_
        refine h_nil ?_
        refine q_then ?_
        refine h_seq ?_
        refine h_seq ?_
        refine h_reg ?_
        refine h_op (r_field rfl) ?_
        refine h_op (r_loadc rfl) ?_
        refine h_op (r_bool (r_lss rfl rfl) (decide_eq_false h1)) ?_
        refine h_op (r_move rfl) ?_
        refine h_op (r_field rfl) ?_
        refine h_op (r_loadc rfl) ?_
        refine h_op (r_bool (r_gtr rfl rfl) (decide_eq_true h2)) ?_
        refine h_op (r_pick rfl rfl) ?_
        refine h_nil ?_
        refine q_then ?_
        refine h_condT rfl ?_
        refine h_seq ?_
        refine h_reg ?_
        refine h_op (r_assign rfl) ?_
        refine h_op (r_assign rfl) ?_
        refine h_nil ?_
        refine q_then ?_
        refine h_ret ?_
        refine q_thenR ?_
        refine q_blockR ?_
        refine q_thenR ?_
        refine q_thenR ?_
        refine q_blockR ?_
        refine q_thenR ?_
        exact h_ret2 rfl rfl rfl fun w s => ⟨(), rfl, s.res (List.nil_sublist _) (by simp)⟩
      · have hok' : (l.take (k + 1)).all kindOk = true := by rw [hak]; unfold kindOk; simp; omega
        refine h_skip ?_
        refine q_then ?_
        refine h_seq ?_
        refine h_block ?_
        refine h_seq ?_
        refine h_reg ?_
        refine h_op (r_idx rfl rfl) ?_
        refine h_op (r_nthr rfl (out := x.cells) (Item.cells_length x) hat) ?_
        refine h_opX (x_alloc) fun g6 => ?_
        refine h_opS (s_storer rfl rfl) ?_
        refine h_nil ?_
        refine q_then ?_
        refine h_seq ?_
        refine h_seq ?_
        refine h_reg ?_
        refine h_op (r_field rfl) ?_
        refine h_op (r_loadc rfl) ?_
        refine h_op (r_bool (r_lss rfl rfl) (decide_eq_false h1)) ?_
        refine h_op (r_move rfl) ?_
        refine h_op (r_field rfl) ?_
        refine h_op (r_loadc rfl) ?_
        refine h_op (r_bool (r_gtr rfl rfl) (decide_eq_false h2)) ?_
        refine h_op (r_pick rfl rfl) ?_
        refine h_nil ?_
        refine q_then ?_
        refine h_condF rfl ?_
        rcases b with _ | _
        · refine h_skip ?_
          refine q_then ?_
          refine h_reg ?_
          refine h_op (r_move rfl) ?_
          refine h_op (r_move rfl) ?_
          refine h_opOff ?_
          refine h_opOff ?_
          refine h_opOff ?_
          refine h_opOff ?_
          refine h_opOff ?_
          refine h_opOff ?_
          refine h_opOff ?_
          refine h_opOff ?_
          refine h_opOff ?_
          refine h_op (r_pick rfl rfl) ?_
          refine h_op (r_move rfl) ?_
          refine h_opOff ?_
          refine h_opOff ?_
          refine h_opOff ?_
          refine h_opOff ?_
          refine h_opOff ?_
          refine h_opOff ?_
          refine h_opOff ?_
          refine h_opOff ?_
          refine h_opOff ?_
          refine h_op (r_pick rfl rfl) ?_
          refine h_op (r_assign rfl) ?_
          refine h_nil ?_
          refine q_block ?_
          refine q_then ?_
          refine h_reg ?_
          refine h_op (r_add rfl rfl) ?_
          refine h_op (r_move rfl) ?_
          refine h_nil ?_
          exact h_back (k + 1, false) (⟨hk2, hok', by rw [hac]; rfl⟩) ((show l.length - (k + 1) < l.length - k by omega)) ⟨rfl, rfl, rfl, rfl, rfl, trivial⟩ (same)
        · rw [Bool.true_and] at hac
          by_cases h3 : x.kind = 3
          · refine h_skip ?_
            refine q_then ?_
            refine h_reg ?_
            refine h_op (r_move rfl) ?_
            refine h_op (r_move rfl) ?_
            refine h_op (r_field rfl) ?_
            refine h_op (r_loadc rfl) ?_
            refine h_op (r_bool (r_eql rfl rfl) (decide_eq_true h3)) ?_
            refine h_op (r_move rfl) ?_
            refine h_opOff ?_
            refine h_opOff ?_
            refine h_opOff ?_
            refine h_opOff ?_
            refine h_op (r_pick rfl rfl) ?_
            refine h_op (r_pick rfl rfl) ?_
            refine h_op (r_move rfl) ?_
            refine h_op (r_field rfl) ?_
            refine h_op (r_loadc rfl) ?_
            refine h_op (r_bool (r_eql rfl rfl) (decide_eq_false (by omega))) ?_
            refine h_op (r_move rfl) ?_
            refine h_op (r_field rfl) ?_
            refine h_op (r_loadr rfl) ?_
            refine h_op (r_build rfl) ?_
            refine h_op (r_eqr rfl rfl) ?_
            refine h_op (r_pick rfl rfl) ?_
            refine h_op (r_pick rfl rfl) ?_
            refine h_op (r_assign rfl) ?_
            refine h_nil ?_
            refine q_block ?_
            refine q_then ?_
            refine h_reg ?_
            refine h_op (r_add rfl rfl) ?_
            refine h_op (r_move rfl) ?_
            refine h_nil ?_
            exact h_back (k + 1, decide (x.leaf = zLeaf)) (⟨hk2, hok', by rw [hac, clean3 h3]⟩) ((show l.length - (k + 1) < l.length - k by omega)) ⟨rfl, rfl, rfl, rfl, rfl, trivial⟩ (same)
          · by_cases hd : x.digest = zB32
            · by_cases h4 : x.kind = 1
              · refine h_skip ?_
                refine q_then ?_
                refine h_reg ?_
                refine h_op (r_move rfl) ?_
                refine h_op (r_move rfl) ?_
                refine h_op (r_field rfl) ?_
                refine h_op (r_loadc rfl) ?_
                refine h_op (r_bool (r_eql rfl rfl) (decide_eq_false h3)) ?_
                refine h_op (r_move rfl) ?_
                refine h_op (r_field rfl) ?_
                refine h_op (r_loadr rfl) ?_
                refine h_op (r_build rfl) ?_
                refine h_op (r_bool (r_eqr rfl rfl) (decide_eq_true hd)) ?_
                refine h_op (r_pick rfl rfl) ?_
                refine h_op (r_pick rfl rfl) ?_
                refine h_op (r_move rfl) ?_
                refine h_op (r_field rfl) ?_
                refine h_op (r_loadc rfl) ?_
                refine h_op (r_bool (r_eql rfl rfl) (decide_eq_true h4)) ?_
                refine h_op (r_move rfl) ?_
                refine h_opOff ?_
                refine h_opOff ?_
                refine h_opOff ?_
                refine h_opOff ?_
                refine h_op (r_pick rfl rfl) ?_
                refine h_op (r_pick rfl rfl) ?_
                refine h_op (r_assign rfl) ?_
                refine h_nil ?_
                refine q_block ?_
                refine q_then ?_
                refine h_reg ?_
                refine h_op (r_add rfl rfl) ?_
                refine h_op (r_move rfl) ?_
                refine h_nil ?_
                exact h_back (k + 1, true) (⟨hk2, hok', by rw [hac, clean1 h3 hd h4]⟩) ((show l.length - (k + 1) < l.length - k by omega)) ⟨rfl, rfl, rfl, rfl, rfl, trivial⟩ (same)
              · refine h_skip ?_
                refine q_then ?_
                refine h_reg ?_
                refine h_op (r_move rfl) ?_
                refine h_op (r_move rfl) ?_
                refine h_op (r_field rfl) ?_
                refine h_op (r_loadc rfl) ?_
                refine h_op (r_bool (r_eql rfl rfl) (decide_eq_false h3)) ?_
                refine h_op (r_move rfl) ?_
                refine h_op (r_field rfl) ?_
                refine h_op (r_loadr rfl) ?_
                refine h_op (r_build rfl) ?_
                refine h_op (r_bool (r_eqr rfl rfl) (decide_eq_true hd)) ?_
                refine h_op (r_pick rfl rfl) ?_
                refine h_op (r_pick rfl rfl) ?_
                refine h_op (r_move rfl) ?_
                refine h_op (r_field rfl) ?_
                refine h_op (r_loadc rfl) ?_
                refine h_op (r_bool (r_eql rfl rfl) (decide_eq_false h4)) ?_
                refine h_op (r_move rfl) ?_
                refine h_op (r_field rfl) ?_
                refine h_op (r_loadr rfl) ?_
                refine h_op (r_build rfl) ?_
                refine h_op (r_eqr rfl rfl) ?_
                refine h_op (r_pick rfl rfl) ?_
                refine h_op (r_pick rfl rfl) ?_
                refine h_op (r_assign rfl) ?_
                refine h_nil ?_
                refine q_block ?_
                refine q_then ?_
                refine h_reg ?_
                refine h_op (r_add rfl rfl) ?_
                refine h_op (r_move rfl) ?_
                refine h_nil ?_
                exact h_back (k + 1, decide (x.leaf = zLeaf)) (⟨hk2, hok', by rw [hac, clean0 h3 hd h4]⟩) ((show l.length - (k + 1) < l.length - k by omega)) ⟨rfl, rfl, rfl, rfl, rfl, trivial⟩ (same)
            · refine h_skip ?_
              refine q_then ?_
              refine h_reg ?_
              refine h_op (r_move rfl) ?_
              refine h_op (r_move rfl) ?_
              refine h_op (r_field rfl) ?_
              refine h_op (r_loadc rfl) ?_
              refine h_op (r_bool (r_eql rfl rfl) (decide_eq_false h3)) ?_
              refine h_op (r_move rfl) ?_
              refine h_op (r_field rfl) ?_
              refine h_op (r_loadr rfl) ?_
              refine h_op (r_build rfl) ?_
              refine h_op (r_bool (r_eqr rfl rfl) (decide_eq_false hd)) ?_
              refine h_op (r_pick rfl rfl) ?_
              refine h_op (r_pick rfl rfl) ?_
              refine h_op (r_move rfl) ?_
              refine h_opOff ?_
              refine h_opOff ?_
              refine h_opOff ?_
              refine h_opOff ?_
              refine h_opOff ?_
              refine h_opOff ?_
              refine h_opOff ?_
              refine h_opOff ?_
              refine h_opOff ?_
              refine h_op (r_pick rfl rfl) ?_
              refine h_op (r_assign rfl) ?_
              refine h_nil ?_
              refine q_block ?_
              refine q_then ?_
              refine h_reg ?_
              refine h_op (r_add rfl rfl) ?_
              refine h_op (r_move rfl) ?_
              refine h_nil ?_
              exact h_back (k + 1, false) (⟨hk2, hok', by rw [hac, cleanN h3 hd]⟩) ((show l.length - (k + 1) < l.length - k by omega)) ⟨rfl, rfl, rfl, rfl, rfl, trivial⟩ (same)
  · obtain rfl : k = l.length := by omega
    rw [List.take_length] at hok hb
    have hpm : parseM l = match readM 256 l with | some (t, []) => if l.all cleanItem then .ok t else .error 5 | _ => .error 5 := by
      unfold parseM
      rw [if_pos hok]
      rcases readM 256 l with _ | ⟨t, r⟩
      · rfl
      · cases r <;> rfl
    rw [hpm]
    rcases hm : readM 256 l with _ | ⟨t, r⟩
    · rw [hm] at hR
      refine h_exit ?_
      refine q_thenE ?_
      refine q_thenE ?_
      refine q_blockE ?_
      refine q_then ?_
      refine h_seq ?_
      refine h_reg ?_
      refine h_op (r_move rfl) ?_
      refine h_call (hR.comes) rfl rfl rfl fun _ => ?_
      rcases b with _ | _
      · refine h_op (r_move rfl) ?_
        refine h_op (r_extract rfl rfl) ?_
        refine h_op (r_extract rfl rfl) ?_
        refine h_op (r_assign rfl) ?_
        refine h_op (r_assign rfl) ?_
        refine h_nil ?_
        refine q_then ?_
        refine h_seq ?_
        refine h_seq ?_
        refine h_reg ?_
        refine h_op (r_move rfl) ?_
        refine h_op (r_not rfl) ?_
        refine h_op (r_move rfl) ?_
        refine h_opOff ?_
        refine h_opOff ?_
        refine h_op (r_pick rfl rfl) ?_
        refine h_op (r_move rfl) ?_
        refine h_opOff ?_
        refine h_opOff ?_
        refine h_opOff ?_
        refine h_op (r_pick rfl rfl) ?_
        refine h_nil ?_
        refine q_then ?_
        refine h_condT rfl ?_
        refine h_seq ?_
        refine h_reg ?_
        refine h_op (r_assign rfl) ?_
        refine h_op (r_assign rfl) ?_
        refine h_nil ?_
        refine q_then ?_
        refine h_ret ?_
        refine q_thenR ?_
        exact h_ret2 rfl rfl rfl fun w s => ⟨(), rfl, s.res (List.nil_sublist _) (by simp)⟩
      · refine h_op (r_move rfl) ?_
        refine h_op (r_extract rfl rfl) ?_
        refine h_op (r_extract rfl rfl) ?_
        refine h_op (r_assign rfl) ?_
        refine h_op (r_assign rfl) ?_
        refine h_nil ?_
        refine q_then ?_
        refine h_seq ?_
        refine h_seq ?_
        refine h_reg ?_
        refine h_op (r_move rfl) ?_
        refine h_op (r_not rfl) ?_
        refine h_op (r_move rfl) ?_
        refine h_op (r_move rfl) ?_
        refine h_op (r_nilnil rfl) ?_
        refine h_op (r_pick rfl rfl) ?_
        refine h_op (r_move rfl) ?_
        refine h_opOff ?_
        refine h_opOff ?_
        refine h_opOff ?_
        refine h_op (r_pick rfl rfl) ?_
        refine h_nil ?_
        refine q_then ?_
        refine h_condT rfl ?_
        refine h_seq ?_
        refine h_reg ?_
        refine h_op (r_assign rfl) ?_
        refine h_op (r_assign rfl) ?_
        refine h_nil ?_
        refine q_then ?_
        refine h_ret ?_
        refine q_thenR ?_
        exact h_ret2 rfl rfl rfl fun w s => ⟨(), rfl, s.res (List.nil_sublist _) (by simp)⟩
    · rw [hm] at hR
      refine h_exit ?_
      refine q_thenE ?_
      refine q_thenE ?_
      refine q_blockE ?_
      refine q_then ?_
      refine h_seq ?_
      refine h_reg ?_
      refine h_op (r_move rfl) ?_
      refine h_call (hR.comes) rfl rfl rfl fun ⟨⟨A1, c1⟩, hz1, hc1⟩ => ?_
      dsimp only at hz1 hc1 ⊢
      rcases b with _ | _
      · rw [show parseV (match (some (t, r) : Option (Sub × List Item)) with | some (t, []) => if l.all cleanItem then .ok t else .error 5 | _ => .error 5) = parseV (.error 5) by cases r <;> simp [← hb]]
        refine h_op (r_move rfl) ?_
        refine h_op (r_extract rfl rfl) ?_
        refine h_op (r_extract rfl rfl) ?_
        refine h_op (r_assign rfl) ?_
        refine h_op (r_assign rfl) ?_
        refine h_nil ?_
        refine q_then ?_
        refine h_seq ?_
        refine h_seq ?_
        refine h_reg ?_
        refine h_op (r_move rfl) ?_
        refine h_op (r_not rfl) ?_
        refine h_op (r_move rfl) ?_
        refine h_opOff ?_
        refine h_opOff ?_
        refine h_op (r_pick rfl rfl) ?_
        refine h_op (r_move rfl) ?_
        refine h_opOff ?_
        refine h_opOff ?_
        refine h_opOff ?_
        refine h_op (r_pick rfl rfl) ?_
        refine h_nil ?_
        refine q_then ?_
        refine h_condT rfl ?_
        refine h_seq ?_
        refine h_reg ?_
        refine h_op (r_assign rfl) ?_
        refine h_op (r_assign rfl) ?_
        refine h_nil ?_
        refine q_then ?_
        refine h_ret ?_
        refine q_thenR ?_
        exact h_ret2 rfl rfl rfl fun w s => ⟨(), rfl, s.res (List.nil_sublist _) (by simp)⟩
      · rcases r with _ | ⟨y, r⟩
        · rw [show parseV (match (some (t, []) : Option (Sub × List Item)) with | some (t, []) => if l.all cleanItem then .ok t else .error 5 | _ => .error 5) = parseV (.ok t) by simp [← hb]]
          refine h_op (r_move rfl) ?_
          refine h_op (r_extract rfl rfl) ?_
          refine h_op (r_extract rfl rfl) ?_
          refine h_op (r_assign rfl) ?_
          refine h_op (r_assign rfl) ?_
          refine h_nil ?_
          refine q_then ?_
          refine h_seq ?_
          refine h_seq ?_
          refine h_reg ?_
          refine h_op (r_move rfl) ?_
          refine h_op (r_not rfl) ?_
          refine h_op (r_move rfl) ?_
          refine h_op (r_move rfl) ?_
          refine h_op (r_ifnil rfl) ?_
          refine h_op (r_pick rfl rfl) ?_
          refine h_op (r_move rfl) ?_
          refine h_op (r_move rfl) ?_
          refine h_op (r_len rfl) ?_
          refine h_op (r_bool (r_gtr rfl rfl) (show _ = false from rfl)) ?_
          refine h_op (r_pick rfl rfl) ?_
          refine h_nil ?_
          refine q_then ?_
          refine h_condF rfl ?_
          refine h_skip ?_
          refine q_then ?_
          refine h_seq ?_
          refine h_reg ?_
          refine h_op (r_move rfl) ?_
          refine h_op (r_assign rfl) ?_
          refine h_op (r_assign rfl) ?_
          refine h_nil ?_
          refine q_then ?_
          refine h_ret ?_
          exact h_ret2 rfl rfl rfl fun w s => ⟨(), rfl, s.res (List.nil_sublist _) (by simp)⟩
        · refine h_op (r_move rfl) ?_
          refine h_op (r_extract rfl rfl) ?_
          refine h_op (r_extract rfl rfl) ?_
          refine h_op (r_assign rfl) ?_
          refine h_op (r_assign rfl) ?_
          refine h_nil ?_
          refine q_then ?_
          refine h_seq ?_
          refine h_seq ?_
          refine h_reg ?_
          refine h_op (r_move rfl) ?_
          refine h_op (r_not rfl) ?_
          refine h_op (r_move rfl) ?_
          refine h_op (r_move rfl) ?_
          refine h_op (r_ifnil rfl) ?_
          refine h_op (r_pick rfl rfl) ?_
          refine h_op (r_move rfl) ?_
          refine h_op (r_move rfl) ?_
          refine h_op (r_len rfl) ?_
          refine h_op (r_bool (r_gtr rfl rfl) (decide_eq_true (by simp))) ?_
          refine h_op (r_pick rfl rfl) ?_
          refine h_nil ?_
          refine q_then ?_
          refine h_condT rfl ?_
          refine h_seq ?_
          refine h_reg ?_
          refine h_op (r_assign rfl) ?_
          refine h_op (r_assign rfl) ?_
          refine h_nil ?_
          refine q_then ?_
          refine h_ret ?_
          refine q_thenR ?_
          exact h_ret2 rfl rfl rfl fun w s => ⟨(), rfl, s.res (List.nil_sublist _) (by simp)⟩
theorem mCheck_s (l : List Item) (A : Option Addr) (c : Nat) [hr : RdZ h A (its l)] (hc : l.length ≤ c) (hl : l.length ≤ 1000000) : Spec Tryd.prog 17 [.slice A l.length c].toArray [.zone false h] [] (fun _ : Unit => .int .i64 (checkM l)) (fun _ => []) := by
  have hp := parse_s h l A c hc hl
  unfold checkM
  refine spec_of Tryd.func17 rfl (n := 11) rfl rfl ?_
  intro W
  refine h_seq ?_
  refine h_reg ?_
  refine h_op (r_assign rfl) ?_
  refine h_nil ?_
  refine q_then ?_
  refine h_seq ?_
  refine h_reg ?_
  refine h_op (r_move rfl) ?_
  refine h_call (hp.comes) rfl rfl rfl fun _ => ?_
  cases parseM l
  · refine h_op (r_move rfl) ?_
    refine h_op (r_extract rfl rfl) ?_
    refine h_op (r_extract rfl rfl) ?_
    refine h_op (r_assign rfl) ?_
    refine h_op (r_assign rfl) ?_
    refine h_nil ?_
    refine q_then ?_
    refine h_seq ?_
    refine h_reg ?_
    refine h_op (r_move rfl) ?_
    refine h_op (r_assign rfl) ?_
    refine h_nil ?_
    refine q_then ?_
    refine h_ret ?_
    exact h_ret1 rfl rfl fun w s => ⟨(), rfl, s.res (List.nil_sublist _) (by simp)⟩
  · refine h_op (r_move rfl) ?_
    refine h_op (r_extract rfl rfl) ?_
    refine h_op (r_extract rfl rfl) ?_
    refine h_op (r_assign rfl) ?_
    refine h_op (r_assign rfl) ?_
    refine h_nil ?_
    refine q_then ?_
    refine h_seq ?_
    refine h_reg ?_
    refine h_op (r_move rfl) ?_
    refine h_op (r_assign rfl) ?_
    refine h_nil ?_
    refine q_then ?_
    refine h_ret ?_
    exact h_ret1 rfl rfl fun w s => ⟨(), rfl, s.res (List.nil_sublist _) (by simp)⟩
end
end Go.Proofs.YtgfkbeipckbkiaaDoor
/- U64 -/
namespace Go.Proofs.YtgfkbeipckbkiaaDoor
set_option linter.unusedSimpArgs false
set_option linter.unusedVariables false
open Go.RowKit
def preI (x : Item) : List UInt8 := if x.kind = 1 then preL x.leaf else preE
def dgS (n : Nat) : Sub → B32
  | .one x => if x.kind = 3 then x.digest else sumB n (preI x)
  | .two l r => sumB n (preN (dgS n l) (dgS n r))
def Sub.cost : Sub → Nat
  | .one x => if x.kind = 3 then 0 else 1
  | .two l r => l.cost + r.cost + 1
def Sub.dig : Sub → FuncId
  | .one _ => 137
  | .two _ _ => 134
instance : MethT Tryd.prog 122 "sparsetree/multi.digest" 137 := ⟨fun v args w => by kernel_rfl⟩
instance : MethT Tryd.prog 120 "sparsetree/multi.digest" 134 := ⟨fun v args w => by kernel_rfl⟩
instance (t : Sub) : MethT Tryd.prog t.tag "sparsetree/multi.digest" t.dig := by
  cases t
  · exact inferInstanceAs (MethT Tryd.prog 122 _ 137)
  · exact inferInstanceAs (MethT Tryd.prog 120 _ 134)
instance (t : Sub) : Ent Tryd.prog t.dig := by
  cases t
  · exact inferInstanceAs (Ent Tryd.prog 137)
  · exact inferInstanceAs (Ent Tryd.prog 134)
theorem preI_len (x : Item) : (preI x).length ≤ 65 := by
  unfold preI
  split
  · rw [preL_len]; exact Nat.le_refl _
  · decide
theorem epre_s (x : Item) : Spec Tryd.prog 138 [.agg x.cells.toArray].toArray [] [] (fun u : Nat × Nat => .slice (some ⟨u.1, 0, none⟩) (preI x).length u.2) (fun u => [.own (.slice (some ⟨u.1, 0, none⟩) (preI x).length u.2) (preI x).length 5 1 (bc (preI x))]) := by
  refine spec_of Tryd.func138 rfl (n := 12) rfl rfl ?_
  intro W
  by_cases hk : x.kind = 1
  · rw [show preI x = preL x.leaf from if_pos hk]
    refine h_seq ?_
    refine h_reg ?_
    refine h_opX (x_box rfl) fun g1 => ?_
    refine h_op (r_assign rfl) ?_
    refine h_nil ?_
    refine q_then ?_
    refine h_seq ?_
    refine h_seq ?_
    refine h_reg ?_
    refine h_op (r_field rfl) ?_
    refine h_op (r_field rfl) ?_
    refine h_op (r_loadc rfl) ?_
    refine h_op (r_bool (r_eql rfl rfl) (decide_eq_true hk)) ?_
    refine h_nil ?_
    refine q_then ?_
    refine h_condT rfl ?_
    refine h_seq ?_
    refine h_reg ?_
    refine h_op (r_field rfl) ?_
    refine h_op (r_field rfl) ?_
    refine h_op (r_loadr rfl) ?_
    refine h_call ((pLeaf_s x.leaf).comes) rfl rfl rfl fun ⟨g10, c10⟩ => ?_
    refine h_op (r_assign rfl) ?_
    refine h_nil ?_
    refine q_then ?_
    refine h_ret ?_
    refine q_thenR ?_
    exact h_ret1 rfl rfl fun w s => ⟨(g10, c10), rfl, (same w s).res (List.Sublist.refl _) (by simp [Fa.wr])⟩
  · rw [show preI x = preE from if_neg hk, show preE.length = 1 from rfl]
    refine h_seq ?_
    refine h_reg ?_
    refine h_opX (x_box rfl) fun g1 => ?_
    refine h_op (r_assign rfl) ?_
    refine h_nil ?_
    refine q_then ?_
    refine h_seq ?_
    refine h_seq ?_
    refine h_reg ?_
    refine h_op (r_field rfl) ?_
    refine h_op (r_field rfl) ?_
    refine h_op (r_loadc rfl) ?_
    refine h_op (r_bool (r_eql rfl rfl) (decide_eq_false hk)) ?_
    refine h_nil ?_
    refine q_then ?_
    refine h_condF rfl ?_
    refine h_skip ?_
    refine q_then ?_
    refine h_seq ?_
    refine h_reg ?_
    refine h_call ((pEmpty_s).comes) rfl rfl rfl fun ⟨g11, c11⟩ => ?_
    refine h_op (r_assign rfl) ?_
    refine h_nil ?_
    refine q_then ?_
    refine h_ret ?_
    exact h_ret1 rfl rfl fun w s => ⟨(g11, c11), rfl, (same w s).res (List.Sublist.refl _) (by simp [Fa.wr])⟩
section
variable (n : Nat) (hn : n ≤ 256) (gh gc : Nat)
include hn
theorem edig_s (x : Item) (k : Nat) (hk : k ≤ 100000000000) : Spec Tryd.prog 137 [.agg x.cells.toArray, .pointer (some ⟨gh, 0, none⟩)].toArray [HR gh gc n, TBL] [CN gc k] (fun _ : Unit => .agg (dgS n (.one x)).cells.toArray) (fun _ => [CN gc (k + (Sub.one x).cost)]) := by
  have hl := preI_len x
  unfold dgS Sub.cost
  refine spec_of Tryd.func137 rfl (n := 16) rfl rfl ?_
  intro W
  by_cases h3 : x.kind = 3
  · rw [if_pos h3, if_pos h3]
    refine h_seq ?_
    refine h_reg ?_
    refine h_opX (x_box rfl) fun g2 => ?_
    refine h_opX (x_alloc) fun g4 => ?_
    refine h_nil ?_
    refine q_then ?_
    refine h_seq ?_
    refine h_seq ?_
    refine h_reg ?_
    refine h_op (r_field rfl) ?_
    refine h_op (r_field rfl) ?_
    refine h_op (r_loadc rfl) ?_
    refine h_op (r_bool (r_eql rfl rfl) (decide_eq_true h3)) ?_
    refine h_nil ?_
    refine q_then ?_
    refine h_condT rfl ?_
    refine h_seq ?_
    refine h_reg ?_
    refine h_op (r_field rfl) ?_
    refine h_op (r_field rfl) ?_
    refine h_op (r_loadr rfl) ?_
    refine h_opS (s_storer rfl rfl) ?_
    refine h_nil ?_
    refine q_then ?_
    refine h_ret ?_
    refine q_thenR ?_
    exact h_ret1 rfl (rv_row rfl) fun w s => ⟨(), rfl, (same (L' := [CN gc k]) w s).res (List.Sublist.refl _) (by simp [Fa.wr])⟩
  · rw [if_neg h3, if_neg h3]
    refine h_seq ?_
    refine h_reg ?_
    refine h_opX (x_box rfl) fun g2 => ?_
    refine h_opX (x_alloc) fun g4 => ?_
    refine h_nil ?_
    refine q_then ?_
    refine h_seq ?_
    refine h_seq ?_
    refine h_reg ?_
    refine h_op (r_field rfl) ?_
    refine h_op (r_field rfl) ?_
    refine h_op (r_loadc rfl) ?_
    refine h_op (r_bool (r_eql rfl rfl) (decide_eq_false h3)) ?_
    refine h_nil ?_
    refine q_then ?_
    refine h_condF rfl ?_
    refine h_skip ?_
    refine q_then ?_
    refine h_seq ?_
    refine h_reg ?_
    refine h_op (r_move rfl) ?_
    refine h_op (r_loadr rfl) ?_
    refine h_call ((epre_s x).comes) rfl rfl rfl fun ⟨g14, c14⟩ => ?_
    refine h_call ((HSum_s n hn gh gc k (by omega) (preI x) (some ⟨g14, 0, none⟩) c14 (fun h => by cases h) (by omega)).comes) rfl rfl rfl fun _ => ?_
    refine h_opS (s_storer rfl rfl) ?_
    refine h_nil ?_
    refine q_then ?_
    refine h_ret ?_
    exact h_ret1 rfl (rv_row rfl) fun w s => ⟨(), rfl, (same (L' := [CN gc (k + 1)]) w s).res (List.Sublist.refl _) (by simp [Fa.wr])⟩
/-- what a subtree's digest brings -/
def DigS (t : Sub) : Prop := ∀ k, k + t.cost ≤ 100000000000 → Spec Tryd.prog t.dig [t.val, .pointer (some ⟨gh, 0, none⟩)].toArray [HR gh gc n, TBL] [CN gc k] (fun _ : Unit => .agg (dgS n t).cells.toArray) (fun _ => [CN gc (k + t.cost)])
omit hn in
theorem ppre_s (l r : Sub) (hl : DigS n gh gc l) (hr : DigS n gh gc r) (k : Nat) (hk : k + (l.cost + r.cost) ≤ 100000000000) : Spec Tryd.prog 135 [(Sub.two l r).val, .pointer (some ⟨gh, 0, none⟩)].toArray [HR gh gc n, TBL] [CN gc k] (fun u : Nat × Nat => .slice (some ⟨u.1, 0, none⟩) (preN (dgS n l) (dgS n r)).length u.2) (fun u => [.own (.slice (some ⟨u.1, 0, none⟩) (preN (dgS n l) (dgS n r)).length u.2) (preN (dgS n l) (dgS n r)).length 5 1 (bc (preN (dgS n l) (dgS n r))), CN gc (k + l.cost + r.cost)]) := by
  refine spec_of Tryd.func135 rfl (n := 14) rfl rfl ?_
  intro W
  change H _ _ _ _ (argsEnv 0 [.agg [.iface l.tag l.val, .iface r.tag r.val].toArray, .pointer (some ⟨gh, 0, none⟩)]) _ _
  refine h_seq ?_
  refine h_reg ?_
  refine h_opX (x_box rfl) fun g2 => ?_
  refine h_op (r_assign rfl) ?_
  refine h_nil ?_
  refine q_then ?_
  refine h_seq ?_
  refine ha_start [.blk g2 [.iface l.tag l.val, .iface r.tag r.val] 120] [] mixed (same) ?_
  refine ha_takeP 0 rfl (r_idxA rfl rfl) ?_
  refine ha_take 1 rfl (r_loadc rfl) ?_
  refine ha_takeP 2 rfl (r_move rfl) ?_
  refine ha_takeP 4 rfl (r_idxA rfl rfl) ?_
  refine ha_take 5 rfl (r_loadc rfl) ?_
  refine ha_takeP 6 rfl (r_move rfl) ?_
  refine ha_one 3 ?_
  refine ho_CM 3 rfl ((hl k (by omega)).comes) rfl rfl rfl (fun _ => same) fun _ => ?_
  refine ha_one 7 ?_
  refine ho_CM 7 rfl ((hr (k + l.cost) (by omega)).comes) rfl rfl rfl (fun _ => same) fun _ => ?_
  refine ha_one 8 ?_
  refine ho_C 8 rfl ((pNode_s (dgS n l) (dgS n r)).comes) rfl rfl rfl (fun _ => same) fun ⟨g13, c13⟩ => ?_
  refine ha_takeP 9 rfl (r_assign rfl) ?_
  refine ha_done (by kernel_rfl) ?_
  refine q_then ?_
  refine h_ret ?_
  exact h_ret1 rfl rfl fun w s => ⟨(g13, c13), rfl, (same w s).res (List.Sublist.refl _) (by simp [Fa.wr])⟩
theorem dig_s : ∀ t : Sub, DigS n gh gc t
  | .one x => fun k hk => edig_s n hn gh gc x k (by omega)
  | .two l r => fun k hk => by
    have ihl := dig_s l
    have ihr := dig_s r
    have hk' : k + (l.cost + r.cost + 1) ≤ 100000000000 := hk
    show Spec Tryd.prog 134 _ _ _ _ (fun _ => [CN gc (k + (l.cost + r.cost + 1))])
    unfold dgS
    have hP := ppre_s n gh gc l r ihl ihr k (by omega)
    have hpl := preN_len (dgS n l) (dgS n r)
    rw [show k + (l.cost + r.cost + 1) = k + l.cost + r.cost + 1 by omega]
    refine spec_of Tryd.func134 rfl (n := 10) rfl rfl ?_
    intro W
    change H _ _ _ _ (argsEnv 0 [.agg [.iface l.tag l.val, .iface r.tag r.val].toArray, .pointer (some ⟨gh, 0, none⟩)]) _ _
    refine h_seq ?_
    refine h_reg ?_
    refine h_opX (x_box rfl) fun g2 => ?_
    refine h_opX (x_alloc) fun g4 => ?_
    refine h_nil ?_
    refine q_then ?_
    refine h_seq ?_
    refine h_reg ?_
    refine h_op (r_move rfl) ?_
    refine h_op (r_loadr rfl) ?_
    refine h_op (r_move rfl) ?_
    refine h_call (hP.comes) rfl rfl rfl fun ⟨g8, c8⟩ => ?_
    dsimp only
    refine h_call ((HSum_s n hn gh gc (k + l.cost + r.cost) (by omega) (preN (dgS n l) (dgS n r)) (some ⟨g8, 0, none⟩) c8 (fun h => by cases h) (by omega)).comes) rfl rfl rfl fun _ => ?_
    refine h_opS (s_storer rfl rfl) ?_
    refine h_nil ?_
    refine q_then ?_
    refine h_ret ?_
    exact h_ret1 rfl (rv_row rfl) fun w s => ⟨(), rfl, (same (L' := [CN gc (k + l.cost + r.cost + 1)]) w s).res (List.Sublist.refl _) (by simp [Fa.wr])⟩
end
end Go.Proofs.YtgfkbeipckbkiaaDoor
/- U65 -/
namespace Go.Proofs.YtgfkbeipckbkiaaDoor
set_option linter.unusedSimpArgs false
set_option linter.unusedVariables false
open Go.RowKit
theorem its_kind {l : List Item} {k : Nat} {x : Item} (h : l[k]? = some x) : (its l)[k * 97]? = some (.int .i64 x.kind) := by
  have := its_at h 0 (.int .i64 x.kind) (by simp [Item.cells])
  rwa [Nat.add_zero] at this
theorem Skip_neg (l : List Item) (A : Option Addr) (c : Nat) (i : Int) : Spec Tryd.prog 43 [.slice A l.length c, .int .i64 (-1), .int .i64 i].toArray [.rd A (its l)] [] (fun _ : Unit => .int .i64 (-1)) (fun _ => []) := by
  refine spec_of Tryd.func43 rfl (n := 45) rfl rfl ?_
  intro W
  refine h_seq ?_
  refine h_reg ?_
  refine h_op (r_assign rfl) ?_
  refine h_nil ?_
  refine q_then ?_
  refine h_seq ?_
  refine h_seq ?_
  refine h_reg ?_
  refine h_op (r_move rfl) ?_
  refine h_op (r_bool (r_lss rfl rfl) (show _ = true from rfl)) ?_
  refine h_op (r_move rfl) ?_
  refine h_opOff ?_
  refine h_opOff ?_
  refine h_opOff ?_
  refine h_opOff ?_
  refine h_op (r_pick rfl rfl) ?_
  refine h_op (r_move rfl) ?_
  refine h_opOff ?_
  refine h_opOff ?_
  refine h_opOff ?_
  refine h_opOff ?_
  refine h_opOff ?_
  refine h_opOff ?_
  refine h_opOff ?_
  refine h_opOff ?_
  refine h_opOff ?_
  refine h_opOff ?_
  refine h_op (r_pick rfl rfl) ?_
  refine h_nil ?_
  refine q_then ?_
  refine h_condT rfl ?_
  refine h_seq ?_
  refine h_reg ?_
  refine h_op (r_assign rfl) ?_
  refine h_nil ?_
  refine q_then ?_
  refine h_ret ?_
  refine q_thenR ?_
  exact h_ret1 rfl rfl fun w s => ⟨(), rfl, s.res (List.nil_sublist _) (by simp)⟩
theorem Skip_end (l : List Item) (A : Option Addr) (c at_ : Nat) (h : l.length ≤ at_) (i : Int) : Spec Tryd.prog 43 [.slice A l.length c, .int .i64 (at_ : Int), .int .i64 i].toArray [.rd A (its l)] [] (fun _ : Unit => .int .i64 (-1)) (fun _ => []) := by
  refine spec_of Tryd.func43 rfl (n := 45) rfl rfl ?_
  intro W
  refine h_seq ?_
  refine h_reg ?_
  refine h_op (r_assign rfl) ?_
  refine h_nil ?_
  refine q_then ?_
  refine h_seq ?_
  refine h_seq ?_
  refine h_reg ?_
  refine h_op (r_move rfl) ?_
  refine h_op (r_bool (r_lss rfl rfl) (decide_eq_false (by omega))) ?_
  refine h_op (r_move rfl) ?_
  refine h_op (r_move rfl) ?_
  refine h_op (r_move rfl) ?_
  refine h_op (r_len rfl) ?_
  refine h_op (r_bool (r_geq rfl rfl) (decide_eq_true (by omega))) ?_
  refine h_op (r_pick rfl rfl) ?_
  refine h_op (r_move rfl) ?_
  refine h_opOff ?_
  refine h_opOff ?_
  refine h_opOff ?_
  refine h_opOff ?_
  refine h_opOff ?_
  refine h_opOff ?_
  refine h_opOff ?_
  refine h_opOff ?_
  refine h_opOff ?_
  refine h_opOff ?_
  refine h_op (r_pick rfl rfl) ?_
  refine h_nil ?_
  refine q_then ?_
  refine h_condT rfl ?_
  refine h_seq ?_
  refine h_reg ?_
  refine h_op (r_assign rfl) ?_
  refine h_nil ?_
  refine q_then ?_
  refine h_ret ?_
  refine q_thenR ?_
  exact h_ret1 rfl rfl fun w s => ⟨(), rfl, s.res (List.nil_sublist _) (by simp)⟩
section
variable (l : List Item) (A : Option Addr) (c : Nat) (at_ : Nat) (x : Item) (hx : l[at_]? = some x) (hl : l.length ≤ 1000000)
include hx hl
theorem Skip_one (hk : x.kind ≠ 2) (i : Int) : Spec Tryd.prog 43 [.slice A l.length c, .int .i64 (at_ : Int), .int .i64 i].toArray [.rd A (its l)] [] (fun _ : Unit => .int .i64 ((at_ + 1 : Nat) : Int)) (fun _ => []) := by
  have hat : at_ < l.length := (List.getElem?_eq_some_iff.1 hx).1
  have hki := its_kind hx
  refine spec_of Tryd.func43 rfl (n := 45) rfl rfl ?_
  intro W
  refine h_pure (φ := ∃ b o, A = some ⟨b, o, none⟩) (fun w s => Rd.some (s.ok (.rd A (its l)) (by simp)) (by rw [its_len]; omega)) ?_
  rintro ⟨b, o, rfl⟩
  refine h_seq ?_
  refine h_reg ?_
  refine h_op (r_assign rfl) ?_
  refine h_nil ?_
  refine q_then ?_
  refine h_seq ?_
  refine h_seq ?_
  refine h_reg ?_
  refine h_op (r_move rfl) ?_
  refine h_op (r_bool (r_lss rfl rfl) (decide_eq_false (by omega))) ?_
  refine h_op (r_move rfl) ?_
  refine h_op (r_move rfl) ?_
  refine h_op (r_move rfl) ?_
  refine h_op (r_len rfl) ?_
  refine h_op (r_bool (r_geq rfl rfl) (decide_eq_false (by omega))) ?_
  refine h_op (r_pick rfl rfl) ?_
  refine h_op (r_move rfl) ?_
  refine h_op (r_move rfl) ?_
  refine h_op (r_move rfl) ?_
  refine h_op (r_idx rfl rfl) ?_
  refine h_op (r_field rfl) ?_
  refine h_op (r_nth rfl hki) ?_
  refine h_op (r_bool (r_eql rfl rfl) (decide_eq_false hk)) ?_
  refine h_op (r_move rfl) ?_
  refine h_opOff ?_
  refine h_opOff ?_
  refine h_op (r_pick rfl rfl) ?_
  refine h_op (r_pick rfl rfl) ?_
  refine h_nil ?_
  refine q_then ?_
  refine h_condF rfl ?_
  refine h_skip ?_
  refine q_then ?_
  refine h_seq ?_
  refine h_seq ?_
  refine h_reg ?_
  refine h_op (r_move rfl) ?_
  refine h_op (r_move rfl) ?_
  refine h_op (r_idx rfl rfl) ?_
  refine h_op (r_field rfl) ?_
  refine h_op (r_nth rfl hki) ?_
  refine h_op (r_bool (r_neq rfl rfl) (decide_eq_true hk)) ?_
  refine h_nil ?_
  refine q_then ?_
  refine h_condT rfl ?_
  refine h_seq ?_
  refine h_reg ?_
  refine h_op (r_move rfl) ?_
  refine h_op (r_add rfl rfl) ?_
  refine h_op (r_assign rfl) ?_
  refine h_nil ?_
  refine q_then ?_
  refine h_ret ?_
  refine q_thenR ?_
  exact h_ret1 rfl rfl fun w s => ⟨(), rfl, s.res (List.nil_sublist _) (by simp)⟩
theorem Skip_deep (hk : x.kind = 2) (i : Int) (hi : 255 < i) : Spec Tryd.prog 43 [.slice A l.length c, .int .i64 (at_ : Int), .int .i64 i].toArray [.rd A (its l)] [] (fun _ : Unit => .int .i64 (-1)) (fun _ => []) := by
  have hat : at_ < l.length := (List.getElem?_eq_some_iff.1 hx).1
  have hki := its_kind hx
  refine spec_of Tryd.func43 rfl (n := 45) rfl rfl ?_
  intro W
  refine h_pure (φ := ∃ b o, A = some ⟨b, o, none⟩) (fun w s => Rd.some (s.ok (.rd A (its l)) (by simp)) (by rw [its_len]; omega)) ?_
  rintro ⟨b, o, rfl⟩
  refine h_seq ?_
  refine h_reg ?_
  refine h_op (r_assign rfl) ?_
  refine h_nil ?_
  refine q_then ?_
  refine h_seq ?_
  refine h_seq ?_
  refine h_reg ?_
  refine h_op (r_move rfl) ?_
  refine h_op (r_bool (r_lss rfl rfl) (decide_eq_false (by omega))) ?_
  refine h_op (r_move rfl) ?_
  refine h_op (r_move rfl) ?_
  refine h_op (r_move rfl) ?_
  refine h_op (r_len rfl) ?_
  refine h_op (r_bool (r_geq rfl rfl) (decide_eq_false (by omega))) ?_
  refine h_op (r_pick rfl rfl) ?_
  refine h_op (r_move rfl) ?_
  refine h_op (r_move rfl) ?_
  refine h_op (r_move rfl) ?_
  refine h_op (r_idx rfl rfl) ?_
  refine h_op (r_field rfl) ?_
  refine h_op (r_nth rfl hki) ?_
  refine h_op (r_bool (r_eql rfl rfl) (decide_eq_true hk)) ?_
  refine h_op (r_move rfl) ?_
  refine h_op (r_move rfl) ?_
  refine h_op (r_bool (r_gtr rfl rfl) (decide_eq_true (by omega))) ?_
  refine h_op (r_pick rfl rfl) ?_
  refine h_op (r_pick rfl rfl) ?_
  refine h_nil ?_
  refine q_then ?_
  refine h_condT rfl ?_
  refine h_seq ?_
  refine h_reg ?_
  refine h_op (r_assign rfl) ?_
  refine h_nil ?_
  refine q_then ?_
  refine h_ret ?_
  refine q_thenR ?_
  exact h_ret1 rfl rfl fun w s => ⟨(), rfl, s.res (List.nil_sublist _) (by simp)⟩
theorem Skip_two (hk : x.kind = 2) (d : Nat) (hd : d < 256) (r1 r2 : Int) (h1 : Spec Tryd.prog 43 [.slice A l.length c, .int .i64 ((at_ + 1 : Nat) : Int), .int .i64 (256 - (d : Int))].toArray [.rd A (its l)] [] (fun _ : Unit => .int .i64 r1) (fun _ => []))
    (h2 : Spec Tryd.prog 43 [.slice A l.length c, .int .i64 r1, .int .i64 (256 - (d : Int))].toArray [.rd A (its l)] [] (fun _ : Unit => .int .i64 r2) (fun _ => [])) : Spec Tryd.prog 43 [.slice A l.length c, .int .i64 (at_ : Int), .int .i64 (256 - ((d + 1 : Nat) : Int))].toArray [.rd A (its l)] [] (fun _ : Unit => .int .i64 r2) (fun _ => []) := by
  have hat : at_ < l.length := (List.getElem?_eq_some_iff.1 hx).1
  have hki := its_kind hx
  refine spec_of Tryd.func43 rfl (n := 45) rfl rfl ?_
  intro W
  refine h_pure (φ := ∃ b o, A = some ⟨b, o, none⟩) (fun w s => Rd.some (s.ok (.rd A (its l)) (by simp)) (by rw [its_len]; omega)) ?_
  rintro ⟨b, o, rfl⟩
  refine h_seq ?_
  refine h_reg ?_
  refine h_op (r_assign rfl) ?_
  refine h_nil ?_
  refine q_then ?_
  refine h_seq ?_
  refine h_seq ?_
  refine h_reg ?_
  refine h_op (r_move rfl) ?_
  refine h_op (r_bool (r_lss rfl rfl) (decide_eq_false (by omega))) ?_
  refine h_op (r_move rfl) ?_
  refine h_op (r_move rfl) ?_
  refine h_op (r_move rfl) ?_
  refine h_op (r_len rfl) ?_
  refine h_op (r_bool (r_geq rfl rfl) (decide_eq_false (by omega))) ?_
  refine h_op (r_pick rfl rfl) ?_
  refine h_op (r_move rfl) ?_
  refine h_op (r_move rfl) ?_
  refine h_op (r_move rfl) ?_
  refine h_op (r_idx rfl rfl) ?_
  refine h_op (r_field rfl) ?_
  refine h_op (r_nth rfl hki) ?_
  refine h_op (r_bool (r_eql rfl rfl) (decide_eq_true hk)) ?_
  refine h_op (r_move rfl) ?_
  refine h_op (r_move rfl) ?_
  refine h_op (r_bool (r_gtr rfl rfl) (decide_eq_false (by omega))) ?_
  refine h_op (r_pick rfl rfl) ?_
  refine h_op (r_pick rfl rfl) ?_
  refine h_nil ?_
  refine q_then ?_
  refine h_condF rfl ?_
  refine h_skip ?_
  refine q_then ?_
  refine h_seq ?_
  refine h_seq ?_
  refine h_reg ?_
  refine h_op (r_move rfl) ?_
  refine h_op (r_move rfl) ?_
  refine h_op (r_idx rfl rfl) ?_
  refine h_op (r_field rfl) ?_
  refine h_op (r_nth rfl hki) ?_
  refine h_op (r_bool (r_neq rfl rfl) (decide_eq_false (fun h => h hk))) ?_
  refine h_nil ?_
  refine q_then ?_
  refine h_condF rfl ?_
  refine h_skip ?_
  refine q_then ?_
  refine h_seq ?_
  refine h_reg ?_
  refine h_op (r_move rfl) ?_
  refine h_op (r_move rfl) ?_
  refine h_op (r_move rfl) ?_
  refine h_op (r_int (r_add rfl rfl) (show _ = ((at_ + 1 : Nat) : Int) by omega)) ?_
  refine h_op (r_move rfl) ?_
  refine h_op (r_int (r_add rfl rfl) (show _ = 256 - (d : Int) by omega)) ?_
  refine h_call (h1.comes) rfl rfl rfl fun _ => ?_
  refine h_op (r_move rfl) ?_
  refine h_op (r_int (r_add rfl rfl) (show _ = 256 - (d : Int) by omega)) ?_
  refine h_call (h2.comes) rfl rfl rfl fun _ => ?_
  refine h_op (r_assign rfl) ?_
  refine h_nil ?_
  refine q_then ?_
  refine h_ret ?_
  exact h_ret1 rfl rfl fun w s => ⟨(), rfl, s.res (List.nil_sublist _) (by simp)⟩
end
theorem drop_get {l : List Item} {k : Nat} {x : Item} (h : l[k]? = some x) : l.drop k = x :: l.drop (k + 1) := by
  obtain ⟨h1, h2⟩ := List.getElem?_eq_some_iff.1 h
  rw [List.drop_eq_getElem_cons h1, h2]
theorem Skip_s (l : List Item) (A : Option Addr) (c : Nat) (hl : l.length ≤ 1000000) : ∀ (d : Nat), d ≤ 256 → ∀ at_ : Nat, Spec Tryd.prog 43 [.slice A l.length c, .int .i64 (at_ : Int), .int .i64 (256 - (d : Int))].toArray [.rd A (its l)] [] (fun _ : Unit => .int .i64 (skipI l (readM d (l.drop at_)))) (fun _ => [])
  | d, hd, at_ => by
    cases hx : l[at_]? with
    | none =>
      have h1 := List.getElem?_eq_none_iff.1 hx
      rw [List.drop_of_length_le h1, show readM d [] = none by cases d <;> rfl]
      exact Skip_end l A c at_ h1 _
    | some x =>
      have hat : at_ < l.length := (List.getElem?_eq_some_iff.1 hx).1
      rw [drop_get hx]
      by_cases hk : x.kind = 2
      · match d, hd with
        | 0, _ =>
          rw [show readM 0 (x :: l.drop (at_ + 1)) = none by unfold readM; rw [if_pos hk]]
          exact Skip_deep l A c at_ x hx hl hk _ (by simp)
        | d + 1, hd =>
          have h1 := Skip_s l A c hl d (by omega) (at_ + 1)
          have e : readM (d + 1) (x :: l.drop (at_ + 1)) = (readM d (l.drop (at_ + 1))).bind fun p => (readM d p.2).bind fun q => some (.two p.1 q.1, q.2) := by
            conv => lhs; unfold readM
            rw [if_pos hk]
          rw [e]
          cases hm : readM d (l.drop (at_ + 1)) with
          | none =>
            rw [hm] at h1
            exact Skip_two l A c at_ x hx hl hk d (by omega) _ _ h1 (Skip_neg l A c _)
          | some p =>
            obtain ⟨t, rest⟩ := p
            obtain ⟨m, hm0, hml, rfl⟩ := readM_suffix d _ t rest hm
            rw [hm] at h1
            rw [List.length_drop] at hml
            have e2 : skipI l (some (t, (l.drop (at_ + 1)).drop m)) = ((at_ + 1 + m : Nat) : Int) := by
              simp only [skipI, List.length_drop]; omega
            rw [e2] at h1
            have h2 := Skip_s l A c hl d (by omega) (at_ + 1 + m)
            rw [← List.drop_drop] at h2
            have h3 := Skip_two l A c at_ x hx hl hk d (by omega) _ _ h1 h2
            have e3 : skipI l (readM d ((l.drop (at_ + 1)).drop m)) = skipI l ((some (t, (l.drop (at_ + 1)).drop m)).bind fun p => (readM d p.2).bind fun q => some (Sub.two p.1 q.1, q.2)) := by
              show _ = skipI l ((readM d ((l.drop (at_ + 1)).drop m)).bind fun q => some (Sub.two t q.1, q.2))
              cases readM d ((l.drop (at_ + 1)).drop m) <;> rfl
            rw [← e3]
            exact h3
      · rw [show readM d (x :: l.drop (at_ + 1)) = some (.one x, l.drop (at_ + 1)) by cases d <;> (unfold readM; rw [if_neg hk])]
        rw [show skipI l (some (Sub.one x, l.drop (at_ + 1))) = ((at_ + 1 : Nat) : Int) by simp only [skipI, List.length_drop]; omega]
        exact Skip_one l A c at_ x hx hl hk _
termination_by d => d
end Go.Proofs.YtgfkbeipckbkiaaDoor
