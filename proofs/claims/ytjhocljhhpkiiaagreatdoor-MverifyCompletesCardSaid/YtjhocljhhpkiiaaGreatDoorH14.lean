/- key.Split; multi.add; The reference's view of the keys below a prefix; heights, sizes: plain; How long a multiproof is: plain; The bytes of a multiproof: plain; What decoding a multiproof computes, for all bytes: plain; The reference's check; law18.Short; The example of chapter 18: plain; The reference's proof of a map: List, Bytes, End, Sibling; law15.alive: it is true; The reference's proof of a map; The laws' trees: inputs that they leave out; a key's way; law15: ProofIsTrue is true; The zero proof is well-formed; law16.alive: it is true; law16: FoldLeads is true; A proof's bytes, decoded; a claim against a map's proof: plain; The bytes of a multiproof decode to it: plain; multi: the ends of keys; The ends of keys, read: where what stands; What mverify computes: plain; mverify: show (joined texts: U70 U71 E19 E20 E26 E27 U99 E24 U49 U46 U50 U51t U52 U26z U27 U55 E25 E28 U75 E22 E30 U122) -/
import Derived.Test.YtjhocljhhpkiiaaGreatDoorH13
set_option linter.all false
/- U70 -/
namespace Go.Proofs.YtjhocljhhpkiiaaGreatDoor
set_option linter.unusedSimpArgs false
set_option linter.unusedVariables false
open Go.RowKit
theorem splitF_s (l : List B32) (A : Option Addr) (c i j g2 g3 : Nat) (hj : j < l.length) (hi : i < 256) : Spec Tryz.prog 211 [.int .i64 (j : Int), .pointer (some ⟨g2, 0, none⟩), .pointer (some ⟨g3, 0, none⟩)].toArray [.rd (some ⟨g2, 0, none⟩) [.slice A l.length c], .rd (some ⟨g3, 0, none⟩) [.int .i64 (i : Int)], .rd A (dgs l)] [] (fun _ : Unit => .bool (bitAt (l.getD j zB32) i)) (fun _ => []) := by
  have h1 := dgs_at hj
  refine spec_of Tryz.func211 rfl (n := 12) rfl rfl ?_
  intro W
  refine h_pure (φ := ∃ b o, A = some ⟨b, o, none⟩) (fun w s => Rd.some (s.ok (.rd A (dgs l)) (by simp)) (by rw [dgs_len]; omega)) ?_
  rintro ⟨b, o, rfl⟩
  refine h_seq ?_
  refine h_reg ?_
  refine h_op (r_assign rfl) ?_
  refine h_nil ?_
  refine q_then ?_
  refine h_seq ?_
  refine ha_start [.rd (some ⟨g2, 0, none⟩) [.slice (some ⟨b, o, none⟩) l.length c], .rd (some ⟨g3, 0, none⟩) [.int .i64 (i : Int)], .rd (some ⟨b, o, none⟩) (dgs l)] [] mixed (same) ?_
  refine ha_take 0 rfl (r_loadc rfl) ?_
  refine ha_takeP 1 rfl (r_move rfl) ?_
  refine ha_takeP 2 rfl (r_idx rfl rfl) ?_
  refine ha_take 3 rfl (r_nthr rfl (out := (l.getD j zB32).cells) (B32.cells_length _) h1) ?_
  refine ha_take 4 rfl (r_loadc rfl) ?_
  refine ha_one 5 ?_
  refine ho_C 5 rfl ((Bit_s (l.getD j zB32) i hi).comes) rfl rfl rfl (fun xx => same) fun _ => ?_
  refine ha_takeP 6 rfl (r_bool (r_eql rfl rfl) (bitN_one (l.getD j zB32) i)) ?_
  refine ha_takeP 7 rfl (r_assign rfl) ?_
  refine ha_done (by kernel_rfl) ?_
  refine q_then ?_
  refine h_ret ?_
  exact h_ret1 rfl rfl fun w s => ⟨(), rfl, s.res (List.nil_sublist _) (by simp)⟩
theorem half (a : Nat) (h : a < 18446744073709551616) : (((BitVec.ofNat 64 a) >>> 1).toNat : Int) = ((a / 2 : Nat) : Int) := by
  rw [BitVec.toNat_ushiftRight, BitVec.toNat_ofNat, Nat.mod_eq_of_lt (by omega), Nat.shiftRight_eq_div_pow]
theorem Search_s (l : List B32) (A : Option Addr) (c i g2 g3 m : Nat) (hi : i < 256) (hl : l.length ≤ 1000000) (hm : m ≤ l.length) (hp : ∀ j, j < l.length → bitAt (l.getD j zB32) i = decide (m ≤ j)) : Spec Tryz.prog 210 [.int .i64 (l.length : Int), .func (.func 211) #[] [.pointer (some ⟨g2, 0, none⟩), .pointer (some ⟨g3, 0, none⟩)].toArray].toArray [.rd (some ⟨g2, 0, none⟩) [.slice A l.length c], .rd (some ⟨g3, 0, none⟩) [.int .i64 (i : Int)], .rd A (dgs l)] [] (fun _ : Unit => .int .i64 (m : Int)) (fun _ => []) := by
  refine spec_of Tryz.func210 rfl (n := 26) rfl rfl ?_
  intro W
  refine h_seq ?_
  refine h_reg ?_
  refine h_op (r_assign rfl) ?_
  refine h_nil ?_
  refine q_then ?_
  refine h_seq ?_
  refine h_reg ?_
  refine h_op (r_move rfl) ?_
  refine h_op (r_assign rfl) ?_
  refine h_op (r_assign rfl) ?_
  refine h_nil ?_
  refine q_then ?_
  refine h_seq ?_
  refine h_block ?_
  refine h_loop (fun (s : Nat × Nat) => s.1 ≤ m ∧ m ≤ s.2 ∧ s.2 ≤ l.length) (fun (s : Nat × Nat) => [(5, .int .i64 (s.1 : Int)), (6, .int .i64 (s.2 : Int)), (1, .func (.func 211) #[] [.pointer (some ⟨g2, 0, none⟩), .pointer (some ⟨g3, 0, none⟩)].toArray)]) (fun (s : Nat × Nat) => [.rd (some ⟨g2, 0, none⟩) [.slice A l.length c], .rd (some ⟨g3, 0, none⟩) [.int .i64 (i : Int)], .rd A (dgs l)]) (fun (s : Nat × Nat) => s.2 - s.1) (0, l.length) (⟨Nat.zero_le _, hm, Nat.le_refl _⟩) ⟨rfl, rfl, rfl, trivial⟩ (same) ?_
  rintro ⟨a, b⟩ ⟨h1, h2, h3⟩
  dsimp only at h1 h2 h3 ⊢
  refine h_seq ?_
  refine h_seq ?_
  refine h_reg ?_
  refine h_op (r_move rfl) ?_
  refine h_op (r_move rfl) ?_
  refine h_op (r_lss rfl rfl) ?_
  refine h_nil ?_
  refine q_then ?_
  refine h_cond rfl (fun hlt => ?_) (fun hlt => ?_)
  · have hh : (a + b) / 2 < l.length := by omega
    have hb := splitF_s l A c i ((a + b) / 2) g2 g3 hh hi
    rw [hp _ hh] at hb
    refine h_skip ?_
    refine q_then ?_
    refine h_block ?_
    refine h_seq ?_
    refine h_reg ?_
    refine h_op (r_move rfl) ?_
    refine h_op (r_move rfl) ?_
    refine h_op (r_int (r_add rfl rfl) (show _ = ((a + b : Nat) : Int) by omega)) ?_
    refine h_op (r_cNW rfl) ?_
    refine h_op (r_int (r_shr rfl rfl) (half (a + b) (by omega))) ?_
    refine h_op (r_cN rfl (IntWalk.i64_in _ (by omega))) ?_
    refine h_op (r_assign rfl) ?_
    refine h_nil ?_
    refine q_then ?_
    refine h_seq ?_
    refine h_reg ?_
    refine h_op (r_move rfl) ?_
    refine h_op (r_move rfl) ?_
    by_cases hc : m ≤ (a + b) / 2
    · rw [decide_eq_true hc] at hb
      refine h_call (hb.comes) rfl rfl rfl fun _ => ?_
      refine h_op (r_not rfl) ?_
      refine h_nil ?_
      refine q_then ?_
      refine h_condF rfl ?_
      refine h_reg ?_
      refine h_op (r_move rfl) ?_
      refine h_op (r_assign rfl) ?_
      refine h_nil ?_
      refine q_block ?_
      exact h_back (a, (a + b) / 2) (⟨h1, hc, by dsimp only; omega⟩) ((show (a + b) / 2 - a < b - a by omega)) ⟨rfl, rfl, rfl, trivial⟩ (same)
    · rw [decide_eq_false hc] at hb
      refine h_call (hb.comes) rfl rfl rfl fun _ => ?_
      refine h_op (r_not rfl) ?_
      refine h_nil ?_
      refine q_then ?_
      refine h_condT rfl ?_
      refine h_reg ?_
      refine h_op (r_move rfl) ?_
      refine h_op (r_add rfl rfl) ?_
      refine h_op (r_assign rfl) ?_
      refine h_nil ?_
      refine q_block ?_
      exact h_back ((a + b) / 2 + 1, b) (⟨by dsimp only; omega, h2, h3⟩) ((show b - ((a + b) / 2 + 1) < b - a by omega)) ⟨aI rfl (by omega), rfl, rfl, trivial⟩ (same)
  · obtain rfl : a = m := by omega
    refine h_exit ?_
    refine q_thenE ?_
    refine q_thenE ?_
    refine q_blockE ?_
    refine q_then ?_
    refine h_seq ?_
    refine h_reg ?_
    refine h_op (r_move rfl) ?_
    refine h_op (r_assign rfl) ?_
    refine h_nil ?_
    refine q_then ?_
    refine h_ret ?_
    exact h_ret1 rfl rfl fun w s => ⟨(), rfl, s.res (List.nil_sublist _) (by simp)⟩
theorem Split_s (l : List B32) (A : Option Addr) (c i m : Nat) (hi : i < 256) (hl : l.length ≤ 1000000) (hm : m ≤ l.length) (hp : ∀ j, j < l.length → bitAt (l.getD j zB32) i = decide (m ≤ j)) : Spec Tryz.prog 166 [.slice A l.length c, .int .i64 (i : Int)].toArray [.rd A (dgs l)] [] (fun _ : Unit => .int .i64 (m : Int)) (fun _ => []) := by
  refine spec_of Tryz.func166 rfl (n := 9) rfl rfl ?_
  intro W
  refine h_seq ?_
  refine h_reg ?_
  refine h_opX (x_box1 rfl) fun g2 => ?_
  refine h_opX (x_box1 rfl) fun g3 => ?_
  refine h_op (r_assign rfl) ?_
  refine h_nil ?_
  refine q_then ?_
  refine h_seq ?_
  refine h_reg ?_
  refine h_op (r_loadc rfl) ?_
  refine h_op (r_len rfl) ?_
  refine h_op (r_func rfl rfl) ?_
  refine h_call ((Search_s l A c i g2 g3 m hi hl hm hp).comes) rfl rfl rfl fun _ => ?_
  refine h_op (r_assign rfl) ?_
  refine h_nil ?_
  refine q_then ?_
  refine h_ret ?_
  exact h_ret1 rfl rfl fun w s => ⟨(), rfl, s.res (List.nil_sublist _) (by simp)⟩
end Go.Proofs.YtjhocljhhpkiiaaGreatDoor
/- U71 -/
namespace Go.Proofs.YtjhocljhhpkiiaaGreatDoor
set_option linter.unusedSimpArgs false
set_option linter.unusedVariables false
open Go.RowKit
def Tr.ht : Tr → Nat
  | .node l r => max l.ht r.ht + 1
  | _ => 0
def Tr.sz : Tr → Nat
  | .node l r => l.sz + r.sz + 1
  | _ => 1
theorem addT_len (n : Nat) : ∀ (t : Tr) (ks : List B32) (d : Nat), (addT n t ks d).length ≤ t.sz
  | .nil, ks, d => by unfold addT; exact Nat.le_refl _
  | .leaf k v, ks, d => by cases ks <;> (unfold addT; exact Nat.le_refl _)
  | .node l r, [], d => by unfold addT; show 1 ≤ l.sz + r.sz + 1; omega
  | .node l r, x :: ks, d => by
    unfold addT
    have h1 := addT_len n l (keysB (x :: ks) d false) (d + 1)
    have h2 := addT_len n r (keysB (x :: ks) d true) (d + 1)
    show ((addT n l _ _ ++ addT n r _ _).length + 1) ≤ l.sz + r.sz + 1
    rw [List.length_append]
    omega
theorem its_app (l m : List Item) : its l ++ its m = its (l ++ m) := by unfold its; rw [List.flatMap_append]
theorem dgs_takeZ {h : Zh} {A : Option Addr} {ks : List B32} (hr : RdZ h A (dgs ks)) (m : Nat) : RdZ h A (dgs (ks.take m)) := by
  have e : dgs ks = dgs (ks.take m) ++ dgs (ks.drop m) := by rw [← dgs_append, List.take_append_drop]
  refine ⟨fun j v hv => hr.at_ j v ?_⟩
  rw [e, List.getElem?_append_left (List.getElem?_eq_some_iff.1 hv).1]
  exact hv
theorem dgs_dropZ {h : Zh} {A : Option Addr} {ks : List B32} {c m : Nat} (hr : RdZ h A (dgs ks)) (hm : m ≤ ks.length) (hc : ks.length ≤ c) : RdZ h (cutA A c m 32) (dgs (ks.drop m)) := by
  have e : dgs ks = dgs (ks.take m) ++ dgs (ks.drop m) := by rw [← dgs_append, List.take_append_drop]
  have hl : (dgs (ks.take m)).length = m * 32 := by rw [dgs_len, List.length_take, Nat.min_eq_left hm]
  unfold cutA
  split
  · have : ks.drop m = [] := List.drop_of_length_le (by omega)
    rw [this]
    exact RdZ.nil _ _
  · refine ⟨fun j v hv => ?_⟩
    have h1 := hr.at_ (m * 32 + j) v (by rw [e, List.getElem?_append_right (by omega), hl, Nat.add_sub_cancel_left]; exact hv)
    obtain ⟨b, o, rfl, h2⟩ := h1
    exact ⟨b, o + m * 32, by simp [Addr.add_mid], by rw [Nat.add_assoc]; exact h2⟩
end Go.Proofs.YtjhocljhhpkiiaaGreatDoor
/- E19 -/
namespace Go.Proofs.YtjhocljhhpkiiaaGreatDoor
set_option linter.unusedSimpArgs false
set_option linter.unusedVariables false
open Go.RowKit
theorem ltK_of {a b : B32} (h : cmpB a b < 0) : ltK a b := cmpB_bits h
theorem chk_ord : ∀ {l : List B32}, chkK l = 0 → l.Pairwise ltK
  | [], _ => .nil
  | [a], _ => List.pairwise_singleton ..
  | a :: b :: l, h => by
    unfold chkK at h
    split at h
    · cases h
    · split at h
      · cases h
      · have ih := chk_ord h
        have hab : ltK a b := ltK_of (by omega)
        refine List.pairwise_cons.2 ⟨fun x hx => ?_, ih⟩
        rcases List.mem_cons.1 hx with rfl | hx
        · exact hab
        · exact ltK_trans hab ((List.pairwise_cons.1 ih).1 x hx)
theorem keysE_ok {l : List B32} (h : keysE l = 0) : l.length ≠ 0 ∧ l.length ≤ 65535 ∧ l.Pairwise ltK := by
  unfold keysE at h
  split at h
  · cases h
  · split at h
    · cases h
    · exact ⟨by assumption, by omega, chk_ord h⟩
theorem mkT_ht {m : List En} {d : Nat} (hd : d ≤ 256) (ha : Alike m d) : d + (mkT m d).ht ≤ 256 :=
  parts_ind (p := fun m d => d ≤ 256 → d + (mkT m d).ht ≤ 256) (fun d hd => by rw [mkT_nil]; exact hd) (fun e d h _ => by rw [mkT_one e h]; exact h)
    (fun m d _ hm hd i1 i2 _ => by rw [mkT_two hm (by omega)]; show d + (max _ _ + 1) ≤ _; have := i1 (by omega); have := i2 (by omega); omega) 256 m d (by omega) hd ha hd
theorem mkT_sz {m : List En} {d : Nat} (hd : d ≤ 256) (ha : Alike m d) : (mkT m d).sz ≤ 1 + 2 * (m.length * (256 - d)) :=
  parts_ind (p := fun m d => (mkT m d).sz ≤ 1 + 2 * (m.length * (256 - d))) (fun d => by rw [mkT_nil]; show 1 ≤ _; omega) (fun e d h => by rw [mkT_one e h]; show 1 ≤ _; omega)
    (fun m d _ hm hd i1 i2 => by
      rw [mkT_two hm (by omega)]
      show _ + _ + 1 ≤ _
      have e := part_len m d
      have e2 : m.length * (256 - d) = (part m d false).length * (256 - (d + 1)) + (part m d true).length * (256 - (d + 1)) + m.length := by
        rw [← Nat.add_mul, e, show 256 - d = 256 - (d + 1) + 1 by omega, Nat.mul_succ]
      omega) 256 m d (by omega) hd ha
theorem subT_ht (n : Nat) : ∀ (t : Tr) (ks : List B32) (d : Nat), (subT n t ks d).ht ≤ t.ht
  | .nil, ks, d => by unfold subT; exact Nat.le_refl _
  | .leaf k v, [], d => Nat.le_refl _
  | .leaf k v, _ :: _, d => Nat.le_refl _
  | .node l r, [], d => Nat.zero_le _
  | .node l r, x :: ks, d => by
    have h1 := subT_ht n l (keysB (x :: ks) d false) (d + 1)
    have h2 := subT_ht n r (keysB (x :: ks) d true) (d + 1)
    unfold subT
    show max _ _ + 1 ≤ max l.ht r.ht + 1
    omega
/-- what add appends is a multiproof -/
theorem addT_parse (n : Nat) {m : List En} (ha : Alike m 0) (ks : List B32) : parseM (addT n (mkT m 0) ks 0) = .ok (subT n (mkT m 0) ks 0) := by
  rw [addT_flat]
  have := mkT_ht (by omega) ha
  have := subT_ht n (mkT m 0) ks 0
  exact flat_parse (subT_ok ..) (by omega)
/-- it fits the keys -/
theorem subT_fits (n : Nat) : ∀ (t : Tr) (ks : List B32) (d : Nat), (endsM (subT n t ks d) ks d).2 = true
  | .nil, ks, d => by unfold subT; rfl
  | .leaf k v, [], d => rfl
  | .leaf k v, _ :: _, d => rfl
  | .node l r, [], d => rfl
  | .node l r, x :: ks, d => by
    have h1 := subT_fits n l (keysB (x :: ks) d false) (d + 1)
    have h2 := subT_fits n r (keysB (x :: ks) d true) (d + 1)
    unfold subT endsM
    rw [if_neg (by simp), if_pos h1]
    exact h2
/-- where the way of a key in the tree ends, as an item -/
def itemT (n : Nat) : Tr → Item
  | .nil => ⟨0, zB32, zLeaf⟩
  | .leaf k v => ⟨1, zB32, leafOf n k v⟩
  | .node _ _ => innerI
theorem subT_end (n : Nat) (k : B32) : ∀ (t : Tr) (ks : List B32) (d : Nat), k ∈ ks → (subT n t ks d).endI k d = (itemT n (loc k t d).1, (loc k t d).2)
  | .nil, ks, d, _ => by unfold subT; rfl
  | .leaf k v, [], d, h => by cases h
  | .leaf k v, _ :: _, d, _ => rfl
  | .node l r, [], d, h => by cases h
  | .node l r, x :: ks, d, h => by
    unfold subT Sub.endI loc
    cases hb : bitAt k d
    · exact subT_end n k l _ _ (keysB_mem.2 ⟨h, hb⟩)
    · exact subT_end n k r _ _ (keysB_mem.2 ⟨h, hb⟩)
end Go.Proofs.YtjhocljhhpkiiaaGreatDoor
/- E20 -/
namespace Go.Proofs.YtjhocljhhpkiiaaGreatDoor
set_option linter.unusedSimpArgs false
set_option linter.unusedVariables false
open Go.RowKit
/-- how many items have a kind -/
def cntI (k : Int) (l : List Item) : Nat := l.countP fun x => x.kind == k
end Go.Proofs.YtjhocljhhpkiiaaGreatDoor
/- E26 -/
namespace Go.Proofs.YtjhocljhhpkiiaaGreatDoor
set_option linter.unusedSimpArgs false
set_option linter.unusedVariables false
open Go.RowKit
/-- how many bytes an item has after its kind -/
def payN (k : Int) : Nat := if k = 1 then 64 else if k = 3 then 32 else 0
def itB (x : Item) : List UInt8 := u8n x.kind.toNat :: (if x.kind = 1 then x.leaf.key.1 ++ x.leaf.value.1 else if x.kind = 3 then x.digest.1 else [])
theorem itB_len (x : Item) : (itB x).length = 1 + payN x.kind := by
  unfold itB payN
  have h1 := x.leaf.key.2
  have h2 := x.leaf.value.2
  have h3 := x.digest.2
  split
  · simp [h1, h2]
  · split <;> simp [h3]
def itsB (l : List Item) : List UInt8 := l.flatMap itB
def lenI (l : List Item) : Nat := (l.map fun x => 1 + payN x.kind).sum
theorem itsB_len : ∀ l : List Item, (itsB l).length = lenI l
  | [] => rfl
  | x :: l => by
    have ih := itsB_len l
    unfold itsB lenI at ih ⊢
    rw [List.flatMap_cons, List.length_append, itB_len, ih, List.map_cons, List.sum_cons]
theorem itsB_snoc {l : List Item} {k : Nat} {x : Item} (h : l[k]? = some x) : itsB (l.take (k + 1)) = itsB (l.take k) ++ itB x := by
  unfold itsB
  rw [List.take_add_one, h, List.flatMap_append]
  simp
theorem lenI_snoc {l : List Item} {k : Nat} {x : Item} (h : l[k]? = some x) : lenI (l.take (k + 1)) = lenI (l.take k) + (1 + payN x.kind) := by
  rw [← itsB_len, ← itsB_len, itsB_snoc h, List.length_append, itB_len]
theorem payN_le (k : Int) : payN k ≤ 64 := by unfold payN; split <;> (try split) <;> omega
theorem lenI_le : ∀ l : List Item, lenI l ≤ 65 * l.length
  | [] => Nat.le_refl _
  | x :: l => by
    have ih := lenI_le l
    have h := payN_le x.kind
    unfold lenI at ih ⊢
    rw [List.map_cons, List.sum_cons, List.length_cons]
    omega
/-- by kinds -/
theorem lenI_cnt : ∀ l : List Item, lenI l = l.length + 64 * cntI 1 l + 32 * cntI 3 l
  | [] => rfl
  | x :: l => by
    have ih := lenI_cnt l
    unfold lenI cntI at ih ⊢
    rw [List.map_cons, List.sum_cons, ih, List.length_cons, List.countP_cons, List.countP_cons]
    unfold payN
    by_cases h1 : x.kind = 1
    · simp [h1]; omega
    · by_cases h3 : x.kind = 3
      · simp [h3]; omega
      · simp [h1, h3]; omega
/-- the bytes ahead of the items -/
def headM (n : Nat) : List UInt8 := [1, 2, u8n (n / 2 ^ 24), u8n (n / 2 ^ 16), u8n (n / 2 ^ 8), u8n (n / 2 ^ 0)]
def encM (l : List Item) : List UInt8 := headM l.length ++ itsB l
theorem encM_len (l : List Item) : (encM l).length = 6 + lenI l := by
  unfold encM
  rw [List.length_append, itsB_len]
  rfl
end Go.Proofs.YtjhocljhhpkiiaaGreatDoor
/- E27 -/
namespace Go.Proofs.YtjhocljhhpkiiaaGreatDoor
set_option linter.unusedSimpArgs false
set_option linter.unusedVariables false
open Go.RowKit
/-- the item of a kind, and of the bytes behind it -/
def itemB (k : UInt8) (r : List UInt8) : Item :=
  if k.toNat = 1 then ⟨1, zB32, ⟨b32At r 0, b32At r 32⟩⟩ else if k.toNat = 3 then ⟨3, b32At r 0, zLeaf⟩ else ⟨(k.toNat : Int), zB32, zLeaf⟩
/-- how many bytes stand behind a kind -/
abbrev payB (k : UInt8) : Nat := payN (k.toNat : Int)
theorem itemB_kind (k : UInt8) (r : List UInt8) : (itemB k r).kind = (k.toNat : Int) := by
  unfold itemB
  split
  · show (1 : Int) = _; omega
  · split
    · show (3 : Int) = _; omega
    · rfl
/-- all items of bytes, or none where the last one is cut off -/
def itsN : Nat → List UInt8 → Option (List Item)
  | _, [] => some []
  | 0, _ :: _ => none
  | n + 1, k :: r => if r.length < payB k then none else (itsN n (r.drop (payB k))).map (itemB k r :: ·)
def itsD (s : List UInt8) : Option (List Item) := itsN s.length s
theorem itsN_eq : ∀ (n : Nat) (s : List UInt8), s.length ≤ n → itsN n s = itsD s := by
  intro n
  induction n using Nat.strongRecOn with
  | ind n ih =>
    intro s hs
    cases s with
    | nil => cases n <;> rfl
    | cons k r =>
      cases n with
      | zero => simp at hs
      | succ n =>
        unfold itsD
        simp only [List.length_cons, itsN] at hs ⊢
        split
        · rfl
        · rw [ih n (by omega) _ (by simp; omega)]
          have h2 : itsN r.length (r.drop (payB k)) = itsD (r.drop (payB k)) := by
            by_cases h : r.length < n + 1
            · exact ih _ h _ (by simp)
            · omega
          rw [h2]
theorem itsD_nil : itsD [] = some [] := rfl
theorem itsD_cons (k : UInt8) (r : List UInt8) : itsD (k :: r) = if r.length < payB k then none else (itsD (r.drop (payB k))).map (itemB k r :: ·) := by
  have : itsD (k :: r) = itsN (r.length + 1) (k :: r) := rfl
  rw [this, itsN, itsN_eq r.length _ (by simp)]
/-- the number that the head tells -/
def cntH (b : List UInt8) : Nat := (((b.getD 2 0).toNat * 256 + (b.getD 3 0).toNat) * 256 + (b.getD 4 0).toNat) * 256 + (b.getD 5 0).toNat
def decM (b : List UInt8) : Except Int (List Item) :=
  if b.length < 6 then .error 5 else if b.getD 0 0 ≠ 1 then .error 6 else if b.getD 1 0 ≠ 2 then .error 7 else
  match itsD (b.drop 6) with
  | some l => if l.length = cntH b ∧ checkM l = 0 then .ok l else .error 5
  | none => .error 5
/-- what a loop that has read some items, and stops at a number of them, has still to find -/
theorem itsD_pos {s : List UInt8} {l : List Item} (h : itsD s = some l) : s.length = lenI l := by
  suffices H : ∀ (n : Nat) (s : List UInt8) (l : List Item), s.length ≤ n → itsD s = some l → s.length = lenI l from H s.length s l (Nat.le_refl _) h
  intro n
  induction n with
  | zero =>
    intro s l hs h
    obtain rfl := List.eq_nil_of_length_eq_zero (Nat.le_zero.1 hs)
    obtain rfl : [] = l := Option.some.inj h
    rfl
  | succ n ih =>
    intro s l hs h
    cases s with
    | nil =>
      obtain rfl : [] = l := Option.some.inj h
      rfl
    | cons k r =>
      rw [itsD_cons] at h
      split at h
      · cases h
      · obtain ⟨m, hm, rfl⟩ := Option.map_eq_some_iff.1 h
        have h2 := ih _ _ (by rw [List.length_drop]; simp at hs; omega) hm
        rw [List.length_drop] at h2
        unfold lenI at h2 ⊢
        have h3 : payB k = payN (k.toNat : Int) := rfl
        rw [List.map_cons, List.sum_cons, ← h2, itemB_kind, List.length_cons]
        omega
end Go.Proofs.YtjhocljhhpkiiaaGreatDoor
/- U99 -/
namespace Go.Proofs.YtjhocljhhpkiiaaGreatDoor
set_option linter.unusedSimpArgs false
set_option linter.unusedVariables false
open Go.RowKit
end Go.Proofs.YtjhocljhhpkiiaaGreatDoor
/- E24 -/
namespace Go.Proofs.YtjhocljhhpkiiaaGreatDoor
set_option linter.unusedSimpArgs false
set_option linter.unusedVariables false
open Go.RowKit
abbrev E18 : B32 := sumB 256 preE
abbrev kb18 : List UInt8 := List.replicate 32 0
theorem keyOf_val (x : B32) : keyOf x.1 = x := by unfold keyOf; rw [dif_pos x.2]
end Go.Proofs.YtjhocljhhpkiiaaGreatDoor
/- U49 -/
namespace Go.Proofs.YtjhocljhhpkiiaaGreatDoor
set_option linter.unusedSimpArgs false
set_option linter.unusedVariables false
open Go.RowKit
/-! sets of depths -/
/-! the way of a key -/
end Go.Proofs.YtjhocljhhpkiiaaGreatDoor
/- U46 -/
namespace Go.Proofs.YtjhocljhhpkiiaaGreatDoor
set_option linter.unusedSimpArgs false
set_option linter.unusedVariables false
open Go.RowKit
def kB (x : UInt8) : B32 := ⟨x :: List.replicate 31 0, rfl⟩
def L15 : List En := [⟨⟨zB32, ⟨none, 0, 0⟩⟩, []⟩, ⟨⟨kB 255, ⟨none, 0, 0⟩⟩, []⟩]
theorem slz_nil (h : Zh) : SlZ h ⟨none, 0, 0⟩ [] := ⟨rfl, Nat.le_refl _, fun _ => ⟨rfl, rfl⟩, RdZ.nil _ _⟩
theorem z7 : prfK 256 (kB 7) .nil 0 none 0 = zProof := by
  unfold prfK
  show (⟨0, 0, zLeaf, dset [], ⟨none, 0, 0⟩⟩ : Proof) = zProof
  rw [dset_nil]; rfl
end Go.Proofs.YtjhocljhhpkiiaaGreatDoor
/- U50 -/
namespace Go.Proofs.YtjhocljhhpkiiaaGreatDoor
set_option linter.unusedSimpArgs false
set_option linter.unusedVariables false
open Go.RowKit
/-- the loop over the depths -/
theorem leafT_one (n : Nat) (e : En) {d : Nat} (h : d ≤ 256) : leafT n (mkT [e] d) = leafOf n e.key e.val := by rw [mkT_one e h]; rfl
theorem leafT_nil (n d : Nat) : leafT n (mkT [] d) = zLeaf := by rw [mkT_nil]; rfl
theorem kind_one (e : En) {d : Nat} (h : d ≤ 256) : (mkT [e] d).kind = 1 := by rw [mkT_one e h]; rfl
theorem kind_nil (d : Nat) : (mkT [] d).kind = 0 := by rw [mkT_nil]; rfl
end Go.Proofs.YtjhocljhhpkiiaaGreatDoor
/- U51t -/
namespace Go.Proofs.YtjhocljhhpkiiaaGreatDoor
set_option linter.unusedSimpArgs false
set_option linter.unusedVariables false
open Go.RowKit
instance iU51t_1 : TBool Tryz.prog 4 := ⟨Tryz.underlying4⟩
theorem New_no (i : Int) (h : ¬ (0 ≤ i ∧ i ≤ 256)) : Spec Tryz.prog 71 [.int .i64 i].toArray [] [] (fun _ : Unit => .tuple #[.pointer none, .int .i64 4]) (fun _ => []) := by
  refine spec_of Tryz.func71 rfl (n := 15) rfl rfl ?_
  intro W
  by_cases h0 : i < 0
  · refine h_seq ?_
    refine h_reg ?_
    refine h_op (r_assign rfl) ?_
    refine h_op (r_assign rfl) ?_
    refine h_nil ?_
    refine q_then ?_
    refine h_seq ?_
    refine h_seq ?_
    refine h_reg ?_
    refine h_op (r_move rfl) ?_
    refine h_op (r_bool (r_lss rfl rfl) (decide_eq_true h0)) ?_
    refine h_op (r_move rfl) ?_
    refine h_opOff ?_
    refine h_opOff ?_
    refine h_op (r_pick rfl rfl) ?_
    refine h_nil ?_
    refine q_then ?_
    refine h_condT rfl ?_
    refine h_seq ?_
    refine h_reg ?_
    refine h_op (r_assign rfl) ?_
    refine h_op (r_assign rfl) ?_
    refine h_nil ?_
    refine q_then ?_
    refine h_ret ?_
    refine q_thenR ?_
    exact h_ret2 rfl rfl rfl fun w s => ⟨(), rfl, s.res (List.nil_sublist _) (by simp)⟩
  · refine h_seq ?_
    refine h_reg ?_
    refine h_op (r_assign rfl) ?_
    refine h_op (r_assign rfl) ?_
    refine h_nil ?_
    refine q_then ?_
    refine h_seq ?_
    refine h_seq ?_
    refine h_reg ?_
    refine h_op (r_move rfl) ?_
    refine h_op (r_bool (r_lss rfl rfl) (decide_eq_false h0)) ?_
    refine h_op (r_move rfl) ?_
    refine h_op (r_move rfl) ?_
    refine h_op (r_bool (r_gtr rfl rfl) (decide_eq_true (by omega))) ?_
    refine h_op (r_pick rfl rfl) ?_
    refine h_nil ?_
    refine q_then ?_
    refine h_condT rfl ?_
    refine h_seq ?_
    refine h_reg ?_
    refine h_op (r_assign rfl) ?_
    refine h_op (r_assign rfl) ?_
    refine h_nil ?_
    refine q_then ?_
    refine h_ret ?_
    refine q_thenR ?_
    exact h_ret2 rfl rfl rfl fun w s => ⟨(), rfl, s.res (List.nil_sublist _) (by simp)⟩
theorem Hash_no (i : Int) (h : ¬ (0 ≤ i ∧ i ≤ 256)) : Spec Tryz.prog 20 [.int .i64 i].toArray [] [] (fun _ : Unit => .pointer none) (fun _ => []) := by
  refine spec_of Tryz.func20 rfl (n := 13) rfl rfl ?_
  intro W
  refine h_seq ?_
  refine h_reg ?_
  refine h_op (r_assign rfl) ?_
  refine h_nil ?_
  refine q_then ?_
  refine h_seq ?_
  refine h_reg ?_
  refine h_op (r_move rfl) ?_
  refine h_call ((New_no i h).comes) rfl rfl rfl fun _ => ?_
  refine h_op (r_move rfl) ?_
  refine h_op (r_extract rfl rfl) ?_
  refine h_op (r_extract rfl rfl) ?_
  refine h_op (r_assign rfl) ?_
  refine h_op (r_assign rfl) ?_
  refine h_nil ?_
  refine q_then ?_
  refine h_seq ?_
  refine h_seq ?_
  refine h_reg ?_
  refine h_op (r_move rfl) ?_
  refine h_op (r_neq rfl rfl) ?_
  refine h_nil ?_
  refine q_then ?_
  refine h_yes rfl ((by decide)) ?_
  refine h_seq ?_
  refine h_reg ?_
  refine h_op (r_assign rfl) ?_
  refine h_nil ?_
  refine q_then ?_
  refine h_ret ?_
  refine q_thenR ?_
  exact h_ret1 rfl rfl fun w s => ⟨(), rfl, s.res (List.nil_sublist _) (by simp)⟩
theorem Few_long (l : List En) (B : Option Addr) (c : Nat) (hl : 12 < l.length) : Spec Tryz.prog 63 [.slice B l.length c].toArray [.rd B (ents l)] [] (fun _ : Unit => .bool (fewM l)) (fun _ => []) := by
  unfold fewM
  rw [decide_eq_false (by omega), Bool.false_and]
  refine spec_of Tryz.func63 rfl (n := 20) rfl rfl ?_
  intro W
  refine h_seq ?_
  refine h_reg ?_
  refine h_op (r_assign rfl) ?_
  refine h_nil ?_
  refine q_then ?_
  refine h_seq ?_
  refine h_seq ?_
  refine h_reg ?_
  refine h_op (r_move rfl) ?_
  refine h_op (r_len rfl) ?_
  refine h_op (r_gtr rfl rfl) ?_
  refine h_nil ?_
  refine q_then ?_
  refine h_yes rfl ((by omega)) ?_
  refine h_seq ?_
  refine h_reg ?_
  refine h_op (r_assign rfl) ?_
  refine h_nil ?_
  refine q_then ?_
  refine h_ret ?_
  refine q_thenR ?_
  exact h_ret1 rfl rfl fun w s => ⟨(), rfl, s.res (List.nil_sublist _) (by simp)⟩
theorem Few_any (l : List En) (B : Option Addr) (c : Nat) : Spec Tryz.prog 63 [.slice B l.length c].toArray [.rd B (ents l)] [] (fun _ : Unit => .bool (fewM l)) (fun _ => []) := by
  by_cases hl : 12 < l.length
  · exact Few_long l B c hl
  · exact Few_s l B c (by omega)
theorem Tree_bits (i : Int) (hi : ¬ (0 ≤ i ∧ i ≤ 256)) (l : List En) (B : Option Addr) (c : Nat) : Spec Tryz.prog 15 [.int .i64 i, .slice B l.length c].toArray [] [] (fun _ : Unit => .tuple #[.slice none 0 0, .pointer none, .bool false]) (fun _ => []) := by
  refine spec_of Tryz.func15 rfl (n := 27) rfl rfl ?_
  intro W
  refine h_seq ?_
  refine h_reg ?_
  refine h_op (r_assign rfl) ?_
  refine h_op (r_assign rfl) ?_
  refine h_op (r_assign rfl) ?_
  refine h_nil ?_
  refine q_then ?_
  refine h_seq ?_
  refine h_seq ?_
  refine h_reg ?_
  refine h_op (r_move rfl) ?_
  refine h_call ((Right_no i hi).comes) rfl rfl rfl fun _ => ?_
  refine h_op (r_not rfl) ?_
  refine h_op (r_move rfl) ?_
  refine h_opOff ?_
  refine h_opOff ?_
  refine h_opOff ?_
  refine h_op (r_pick rfl rfl) ?_
  refine h_nil ?_
  refine q_then ?_
  refine h_condT rfl ?_
  refine h_seq ?_
  refine h_reg ?_
  refine h_op (r_assign rfl) ?_
  refine h_op (r_assign rfl) ?_
  refine h_op (r_assign rfl) ?_
  refine h_nil ?_
  refine q_then ?_
  refine h_ret ?_
  refine q_thenR ?_
  exact h_ret3 rfl rfl rfl rfl fun w s => ⟨(), rfl, s.res (List.nil_sublist _) (by simp)⟩
theorem Tree_few (n : Nat) (hn : n ≤ 256) (l : List En) (B : Option Addr) (c : Nat) (hf : fewM l = false) : Spec Tryz.prog 15 [.int .i64 (n : Int), .slice B l.length c].toArray [.rd B (ents l)] [] (fun _ : Unit => .tuple #[.slice none 0 0, .pointer none, .bool false]) (fun _ => []) := by
  refine spec_of Tryz.func15 rfl (n := 27) rfl rfl ?_
  intro W
  refine h_seq ?_
  refine h_reg ?_
  refine h_op (r_assign rfl) ?_
  refine h_op (r_assign rfl) ?_
  refine h_op (r_assign rfl) ?_
  refine h_nil ?_
  refine q_then ?_
  refine h_seq ?_
  refine h_seq ?_
  refine h_reg ?_
  refine h_op (r_move rfl) ?_
  refine h_call ((Right_yes n hn).comes) rfl rfl rfl fun _ => ?_
  refine h_op (r_not rfl) ?_
  refine h_op (r_move rfl) ?_
  refine h_op (r_move rfl) ?_
  refine h_call ((Few_any l B c).comes) rfl rfl rfl fun _ => ?_
  rw [hf]
  refine h_op (r_not rfl) ?_
  refine h_op (r_pick rfl rfl) ?_
  refine h_nil ?_
  refine q_then ?_
  refine h_condT rfl ?_
  refine h_seq ?_
  refine h_reg ?_
  refine h_op (r_assign rfl) ?_
  refine h_op (r_assign rfl) ?_
  refine h_op (r_assign rfl) ?_
  refine h_nil ?_
  refine q_then ?_
  refine h_ret ?_
  refine q_thenR ?_
  exact h_ret3 rfl rfl rfl rfl fun w s => ⟨(), rfl, s.res (List.nil_sublist _) (by simp)⟩
/-- entries whose values lie in memory -/
def SlsZ (h : Zh) (l : List En) : Prop := ∀ e ∈ l, SlZ h e.e.value e.val
theorem SlsZ.few {h : Zh} {l : List En} (x : SlsZ h l) (hf : fewM l = true) : ValsZ h l := fun e he => by
  unfold fewM at hf
  rw [Bool.and_eq_true, List.all_eq_true] at hf
  have h1 := of_decide_eq_true (hf.2 e he)
  have h2 := (x e he).len
  exact ⟨x e he, by omega⟩
theorem ValsZ.few {h h' : Zh} {l : List En} (x : ValsZ h l) (hl : LeZ h h') : ValsZ h' (ofM l) := (ValsZ.of x).mono hl
/-- the tree of a map, along a key's way -/
structure WayM (key : B32) (m : List En) (D : Nat) : Prop where
  way : WayTo key (mkT m 0) D
  last : (atM key m D).length ≤ 1
  more : ∀ i, i < D → 1 < (atM key m i).length
  on : ∀ i, i ≤ D → wayK key (mkT m 0) i = mkT (atM key m i) i
theorem wayM {key : B32} {m : List En} (h : Alike m 0) : ∃ D, WayM key m D := by
  obtain ⟨D, a, b, c, d, e⟩ := wayTo_mkT (key := key) h
  exact ⟨D, a, c, d, e⟩
end Go.Proofs.YtjhocljhhpkiiaaGreatDoor
/- U52 -/
namespace Go.Proofs.YtjhocljhhpkiiaaGreatDoor
set_option linter.unusedSimpArgs false
set_option linter.unusedVariables false
open Go.RowKit
theorem first_diff (a b : B32) : ∀ n, (∀ j, j < n → (bitAt a j ^^ bitAt b j) = false) ∨ ∃ k, k < n ∧ (∀ j, j < k → (bitAt a j ^^ bitAt b j) = false) ∧ (bitAt a k ^^ bitAt b k) = true
  | 0 => .inl fun j hj => by omega
  | n + 1 => by
    rcases first_diff a b n with h | ⟨k, h1, h2, h3⟩
    · cases hb : bitAt a n ^^ bitAt b n
      · refine .inl fun j hj => ?_
        rcases Nat.lt_or_ge j n with h4 | h4
        · exact h j h4
        · obtain rfl : j = n := by omega
          exact hb
      · exact .inr ⟨n, by omega, h, hb⟩
    · exact .inr ⟨k, by omega, h2, h3⟩
theorem common_ge {a b : B32} {D : Nat} (hD : D ≤ 256) (h : ∀ i, i < D → bitAt a i = bitAt b i) : D ≤ common a b := by
  rcases first_diff a b 256 with h1 | ⟨k, h1, h2, h3⟩
  · rw [common_of (Nat.le_refl _) h1 (.inl rfl)]; exact hD
  · rw [common_of (by omega) h2 (.inr h3)]
    rcases Nat.lt_or_ge k D with h4 | h4
    · rw [h k h4] at h3; simp at h3
    · exact h4
theorem atM_bits {key : B32} {m : List En} : ∀ {D : Nat} {e : En}, e ∈ atM key m D → e ∈ m ∧ ∀ i, i < D → bitAt e.key i = bitAt key i
  | 0, e, h => ⟨h, fun i hi => by omega⟩
  | D + 1, e, h => by
    obtain ⟨h1, h2⟩ := part_mem.1 h
    obtain ⟨h3, h4⟩ := atM_bits h1
    refine ⟨h3, fun i hi => ?_⟩
    rcases Nat.lt_or_ge i D with h5 | h5
    · exact h4 i h5
    · obtain rfl : i = D := by omega
      exact h2
theorem atM_key {key : B32} {m : List En} {e : En} (h : e ∈ m) (hk : e.key = key) : ∀ D, e ∈ atM key m D
  | 0 => h
  | D + 1 => part_mem.2 ⟨atM_key h hk D, by rw [hk]⟩
/-- what a map holds for a key -/
def getE' (m : List En) (key : B32) : Option En := m.find? fun e => decide (e.key = key)
def getV : Option En → List UInt8
  | some e => e.val
  | none => []
def getS : Option En → Sl
  | some e => e.e.value
  | none => ⟨none, 0, 0⟩
theorem getS_ok {h : Zh} {m : List En} (hv : ValsZ h m) (key : B32) : SlZ h (getS (getE' m key)) (getV (getE' m key)) ∧ (getV (getE' m key)).length ≤ 10000000 := by
  cases hg : getE' m key with
  | none => exact ⟨⟨rfl, Nat.le_refl _, fun _ => ⟨rfl, rfl⟩, RdZ.nil _ _⟩, Nat.zero_le _⟩
  | some e => exact hv e (List.mem_of_find?_eq_some hg)
/-- the end of the way, against what the map holds -/
theorem end_get {key : B32} {m : List En} {D : Nat} (hl : (atM key m D).length ≤ 1) : (atM key m D = [] ∧ getE' m key = none) ∨ ∃ e, atM key m D = [e] ∧ (∀ i, i < D → bitAt e.key i = bitAt key i) ∧ ((e.key = key ∧ getE' m key = some e) ∨ (e.key ≠ key ∧ getE' m key = none)) := by
  have hno : ∀ {e : En}, getE' m key = some e → e ∈ atM key m D ∧ e.key = key := fun {e} he => by
    have h2 := List.find?_some he
    have h3 : e.key = key := by simpa using h2
    exact ⟨atM_key (List.mem_of_find?_eq_some he) h3 D, h3⟩
  cases hg : getE' m key with
  | none =>
    match hq : atM key m D, hl with
    | [], _ => exact .inl ⟨rfl, rfl⟩
    | [e], _ =>
      have hm : e ∈ atM key m D := by rw [hq]; simp
      obtain ⟨h1, h2⟩ := atM_bits hm
      refine .inr ⟨e, rfl, h2, .inr ⟨fun hk => ?_, rfl⟩⟩
      have := List.find?_eq_none.1 hg e h1
      simp [hk] at this
    | _ :: _ :: _, hl => exact absurd hl (by simp)
  | some f =>
    obtain ⟨h1, h2⟩ := hno hg
    match hq : atM key m D, hl with
    | [], _ => rw [hq] at h1; cases h1
    | [e], _ =>
      rw [hq] at h1
      obtain rfl : f = e := by simpa using h1
      exact .inr ⟨f, rfl, fun i _ => by rw [h2], .inl ⟨h2, rfl⟩⟩
    | _ :: _ :: _, hl => exact absurd hl (by simp)
/-- what the proof shows -/
theorem sup_true {key : B32} {m : List En} {D : Nat} (w : WayM key m D) (n : Nat) (A : Option Addr) (c : Nat) : supP (prfK n key (mkT m 0) D A c) key (sumB n (preV (getV (getE' m key)))) true = (getE' m key).isSome ∧ supP (prfK n key (mkT m 0) D A c) key (sumB n (preV (getV (getE' m key)))) false = !(getE' m key).isSome ∧ ∀ other, other ≠ sumB n (preV (getV (getE' m key))) → supP (prfK n key (mkT m 0) D A c) key other true = false := by
  have hon := w.on D (Nat.le_refl _)
  have hD := w.way.le
  unfold prfK supP
  rw [hon]
  rcases end_get w.last with ⟨h1, h2⟩ | ⟨e, h1, hb, ⟨hk, h2⟩ | ⟨hk, h2⟩⟩
  · rw [h1, h2, kind_nil, leafT_nil]
    refine ⟨?_, ?_, fun other _ => ?_⟩
    · rw [if_pos rfl]; exact decide_eq_false fun e => absurd (show ((0 : Nat) : Int) = 1 from e.1) (by decide)
    · rw [if_neg (by simp), if_neg (show ¬ ((0 : Nat) : Int) = 1 by decide)]; exact decide_eq_true rfl
    · rw [if_pos rfl]; exact decide_eq_false fun e => absurd (show ((0 : Nat) : Int) = 1 from e.1) (by decide)
  · rw [h1, h2, kind_one e hD, leafT_one n e hD, hk]
    refine ⟨?_, ?_, fun other ho => ?_⟩
    · rw [if_pos rfl]; exact decide_eq_true ⟨rfl, rfl⟩
    · rw [if_neg (by simp)]; refine (if_pos (show _ = (1 : Int) from rfl)).trans ?_; exact decide_eq_false fun e => e.1 rfl
    · rw [if_pos rfl]; exact decide_eq_false fun e => ho (congrArg Leaf.value e.2).symm
  · rw [h1, h2, kind_one e hD, leafT_one n e hD]
    refine ⟨?_, ?_, fun other _ => ?_⟩
    · rw [if_pos rfl]; exact decide_eq_false fun e' => hk (congrArg Leaf.key e'.2)
    · rw [if_neg (by simp)]; refine (if_pos (show _ = (1 : Int) from rfl)).trans ?_; exact decide_eq_true ⟨hk, Int.ofNat_le.2 (common_ge hD hb)⟩
    · rw [if_pos rfl]; exact decide_eq_false fun e' => hk (congrArg Leaf.key e'.2)
theorem find_take {m : List En} {key : B32} {k : Nat} {e : En} (he : m[k]? = some e) (hk : e.key = key) (ha : ∀ f ∈ m.take k, f.key ≠ key) : getE' m key = some e := by
  have e1 : m = m.take k ++ e :: m.drop (k + 1) := by
    have h1 := List.take_append_drop k m
    have hl := (List.getElem?_eq_some_iff.1 he)
    obtain ⟨hl, hx⟩ := hl
    rw [List.drop_eq_getElem_cons hl, hx] at h1
    exact h1.symm
  unfold getE'
  rw [e1, List.find?_append]
  have h2 : (m.take k).find? (fun f => decide (f.key = key)) = none := List.find?_eq_none.2 fun f hf => by simpa using ha f hf
  rw [h2, List.find?_cons_of_pos (by simpa using hk)]
  rfl
theorem Get_s (m : List En) (B : Option Addr) (c : Nat) (key : B32) (hm : m.length ≤ 100000000) : Spec Tryz.prog 60 [.slice B m.length c, .agg key.cells.toArray].toArray [.rd B (ents m)] [] (fun _ : Unit => .tuple #[.slice (getS (getE' m key)).A (getS (getE' m key)).n (getS (getE' m key)).c, .bool (getE' m key).isSome]) (fun _ => []) := by
  refine spec_of Tryz.func60 rfl (n := 25) rfl rfl ?_
  intro W
  refine h_seq ?_
  refine h_reg ?_
  refine h_opX (x_box rfl) fun g3 => ?_
  refine h_op (r_assign rfl) ?_
  refine h_op (r_assign rfl) ?_
  refine h_nil ?_
  refine q_then ?_
  refine h_seq ?_
  refine h_seq ?_
  refine h_reg ?_
  refine h_op (r_assign rfl) ?_
  refine h_nil ?_
  refine q_then ?_
  refine h_block ?_
  refine h_loop (fun (k : Nat) => k ≤ m.length ∧ ∀ f ∈ m.take k, f.key ≠ key) (fun (k : Nat) => [(6, .int .i64 (k : Int)), (0, .slice B m.length c), (3, .pointer (some ⟨g3, 0, none⟩))]) (fun (k : Nat) => [.blk g3 key.cells 35, .rd B (ents m)]) (fun (k : Nat) => m.length - k) 0 (⟨Nat.zero_le _, fun f hf => by simp at hf⟩) ⟨rfl, rfl, rfl, trivial⟩ (same) ?_
  rintro k ⟨hk, ha⟩
  refine h_seq ?_
  refine h_seq ?_
  refine h_reg ?_
  refine h_op (r_move rfl) ?_
  refine h_op (r_move rfl) ?_
  refine h_op (r_len rfl) ?_
  refine h_op (r_lss rfl rfl) ?_
  refine h_nil ?_
  refine q_then ?_
  refine h_cond rfl (fun h => ?_) (fun h => ?_)
  · obtain ⟨e, he⟩ := getE (l := m) (k := k) (by omega)
    refine h_pure (φ := ∃ b o, B = some ⟨b, o, none⟩) (fun w s => Rd.some (s.ok (.rd B (ents m)) (by simp)) (by rw [ents_len]; omega)) ?_
    rintro ⟨bb, o, rfl⟩
    refine h_skip ?_
    refine q_then ?_
    refine h_seq ?_
    refine h_block ?_
    refine h_seq ?_
    refine ha_start [.blk g3 key.cells 35, .rd (some ⟨bb, o, none⟩) (ents m)] [] mixed (same) ?_
    refine ha_takeP 0 rfl (r_move rfl) ?_
    refine ha_takeP 1 rfl (r_move rfl) ?_
    refine ha_takeP 2 rfl (r_idx rfl rfl) ?_
    refine ha_takeP 3 rfl (r_field rfl) ?_
    refine ha_take 4 rfl (r_nthr rfl (out := e.key.cells) (B32.cells_length _) (ents_key he)) ?_
    refine ha_take 5 rfl (r_loadr rfl) ?_
    refine ha_takeP 6 rfl (r_eqr rfl rfl) ?_
    refine ha_done (by kernel_rfl) ?_
    refine q_then ?_
    refine h_cond rfl (fun h2 => ?_) (fun h2 => ?_)
    · rw [find_take he (by simpa using h2) ha]
      refine h_seq ?_
      refine h_reg ?_
      refine h_op (r_move rfl) ?_
      refine h_op (r_move rfl) ?_
      refine h_op (r_idx rfl rfl) ?_
      refine h_op (r_field rfl (O' := o + (k * 33 + 32)) (by omega)) ?_
      refine h_op (r_nth rfl (ents_val he)) ?_
      refine h_op (r_assign rfl) ?_
      refine h_op (r_assign rfl) ?_
      refine h_nil ?_
      refine q_then ?_
      refine h_ret ?_
      refine q_blockR ?_
      refine q_thenR ?_
      refine q_thenR ?_
      refine q_blockR ?_
      refine q_thenR ?_
      exact h_ret2 rfl rfl rfl fun w s => ⟨(), rfl, s.res (List.nil_sublist _) (by simp)⟩
    · have ha2 : ∀ f ∈ m.take (k + 1), f.key ≠ key := fun f hf => by
        rw [take_snocE he] at hf
        rcases List.mem_append.1 hf with hf | hf
        · exact ha f hf
        · rw [List.mem_singleton.1 hf]; simpa using h2
      refine h_skip ?_
      refine q_block ?_
      refine q_then ?_
      refine h_reg ?_
      refine h_op (r_move rfl) ?_
      refine h_op (r_add rfl rfl) ?_
      refine h_op (r_assign rfl) ?_
      refine h_nil ?_
      exact h_back (k + 1) (⟨by omega, ha2⟩) (by omega) ⟨rfl, rfl, rfl, trivial⟩ (same)
  · obtain rfl : k = m.length := by omega
    rw [List.take_length] at ha
    have : getE' m key = none := List.find?_eq_none.2 fun f hf => by simpa using ha f hf
    rw [this]
    refine h_exit ?_
    refine q_thenE ?_
    refine q_thenE ?_
    refine q_blockE ?_
    refine q_then ?_
    refine h_seq ?_
    refine h_reg ?_
    refine h_op (r_assign rfl) ?_
    refine h_op (r_assign rfl) ?_
    refine h_nil ?_
    refine q_then ?_
    refine h_ret ?_
    exact h_ret2 rfl rfl rfl fun w s => ⟨(), rfl, s.res (List.nil_sublist _) (by simp)⟩
end Go.Proofs.YtjhocljhhpkiiaaGreatDoor
/- U26z -/
namespace Go.Proofs.YtjhocljhhpkiiaaGreatDoor
set_option linter.unusedSimpArgs false
set_option linter.unusedVariables false
open Go.RowKit
instance (L : List Fa) (A : Option Addr) : Rd1 L (.rd A (dgs [])) := inferInstanceAs (Rd1 L (.rd A []))
end Go.Proofs.YtjhocljhhpkiiaaGreatDoor
/- U27 -/
namespace Go.Proofs.YtjhocljhhpkiiaaGreatDoor
set_option linter.unusedSimpArgs false
set_option linter.unusedVariables false
open Go.RowKit
end Go.Proofs.YtjhocljhhpkiiaaGreatDoor
/- U55 -/
namespace Go.Proofs.YtjhocljhhpkiiaaGreatDoor
set_option linter.unusedSimpArgs false
set_option linter.unusedVariables false
open Go.RowKit
end Go.Proofs.YtjhocljhhpkiiaaGreatDoor
/- E25 -/
namespace Go.Proofs.YtjhocljhhpkiiaaGreatDoor
set_option linter.unusedSimpArgs false
set_option linter.unusedVariables false
open Go.RowKit
theorem b32At_of {l pre post : List UInt8} {x : B32} {o : Nat} (h : l = pre ++ (x.1 ++ post)) (hp : pre.length = o) : b32At l o = x := by
  subst hp
  subst h
  apply Subtype.ext
  apply List.ext_getElem?
  intro j
  show ((List.range 32).map fun j => (pre ++ (x.1 ++ post)).getD (pre.length + j) 0)[j]? = _
  have hx := x.2
  by_cases hj : j < 32
  · rw [List.getElem?_map, List.getElem?_range hj]
    simp only [Option.map_some, List.getD_eq_getElem?_getD]
    rw [List.getElem?_append_right (by omega), Nat.add_sub_cancel_left, List.getElem?_append_left (by omega), List.getElem?_eq_getElem (by omega)]
    rfl
  · rw [List.getElem?_eq_none (by simp; omega), List.getElem?_eq_none (by omega)]
theorem u8n_nat {m : Nat} (h : m < 256) : (u8n m).toNat = m := by
  unfold u8n
  rw [UInt8.toNat_ofNat']
  exact Nat.mod_eq_of_lt h
/-- what a map's proof says of a claim -/
theorem sup_claim {key : B32} {m : List En} {D : Nat} (w : WayM key m D) (n : Nat) (present : Bool) (vb : List UInt8) :
    supP (prfK n key (mkT m 0) D none 0) key (valD n present vb) present = ((present == (getE' m key).isSome) && (!(getE' m key).isSome || decide (sumB n (preV (getV (getE' m key))) = sumB n (preV vb)))) := by
  obtain ⟨h1, h2, h3⟩ := sup_true w n none 0
  cases present with
  | false =>
    have e : supP (prfK n key (mkT m 0) D none 0) key (valD n false vb) false = supP (prfK n key (mkT m 0) D none 0) key (sumB n (preV (getV (getE' m key)))) false := rfl
    rw [e, h2]
    cases (getE' m key).isSome <;> rfl
  | true =>
    show supP _ key (sumB n (preV vb)) true = _
    by_cases hq : sumB n (preV (getV (getE' m key))) = sumB n (preV vb)
    · rw [decide_eq_true hq, ← hq, h1]
      cases (getE' m key).isSome <;> rfl
    · rw [h3 _ (fun h => hq h.symm), decide_eq_false hq]
      cases (getE' m key).isSome <;> rfl
theorem getS_few {l : List En} (hf : fewM l = true) (key : B32) : (getS (getE' (ofM l) key)).n ≤ 200 := by
  cases hg : getE' (ofM l) key with
  | none => exact Nat.zero_le _
  | some e =>
    have h1 := ofM_mem (List.mem_of_find?_eq_some hg)
    unfold fewM at hf
    rw [Bool.and_eq_true, List.all_eq_true] at hf
    exact of_decide_eq_true (hf.2 e h1)
end Go.Proofs.YtjhocljhhpkiiaaGreatDoor
/- E28 -/
namespace Go.Proofs.YtjhocljhhpkiiaaGreatDoor
set_option linter.unusedSimpArgs false
set_option linter.unusedVariables false
open Go.RowKit
theorem itsD_item (x : Item) (hk : kindOk x = true) (hc : cleanItem x = true) (r : List UInt8) : itsD (itB x ++ r) = (itsD r).map (x :: ·) := by
  obtain ⟨kind, digest, leaf⟩ := x
  simp only [kindOk, Bool.and_eq_true, decide_eq_true_eq] at hk
  simp only [cleanItem, Bool.and_eq_true, Bool.or_eq_true, decide_eq_true_eq, beq_iff_eq] at hc
  obtain ⟨k, rfl⟩ : ∃ k : Nat, kind = (k : Int) := ⟨kind.toNat, by omega⟩
  have hu : (u8n k).toNat = k := u8n_nat (by omega)
  have hl1 := leaf.key.2
  have hl2 := leaf.value.2
  have hl3 := digest.2
  have hpb : payB (u8n k) = payN (k : Int) := by unfold payB; rw [hu]
  by_cases k1 : k = 1
  · subst k1
    have hd : digest = zB32 := hc.1.resolve_left (by omega)
    subst hd
    have e : itB ⟨((1 : Nat) : Int), zB32, leaf⟩ = u8n 1 :: (leaf.key.1 ++ leaf.value.1) := by unfold itB; rw [if_pos (show ((1 : Nat) : Int) = 1 from rfl)]; rfl
    have hp : payB (u8n 1) = 64 := by rw [hpb]; rfl
    rw [e, List.cons_append, itsD_cons, hp, if_neg (by simp [hl1, hl2]; omega)]
    have e2 : (leaf.key.1 ++ leaf.value.1 ++ r).drop 64 = r := List.drop_left' (by rw [List.length_append, hl1, hl2])
    have e3 : itemB (u8n 1) (leaf.key.1 ++ leaf.value.1 ++ r) = ⟨((1 : Nat) : Int), zB32, leaf⟩ := by
      unfold itemB
      rw [if_pos hu, b32At_of (o := 0) (pre := []) (x := leaf.key) (post := leaf.value.1 ++ r) (by simp) rfl, b32At_of (o := 32) (pre := leaf.key.1) (x := leaf.value) (post := r) (by simp) hl1]
      rfl
    rw [e2, e3]
  · have hlf : leaf = zLeaf := hc.2.resolve_left (by omega)
    subst hlf
    by_cases k3 : k = 3
    · subst k3
      have e : itB ⟨((3 : Nat) : Int), digest, zLeaf⟩ = u8n 3 :: digest.1 := by unfold itB; rw [if_neg (show ¬ ((3 : Nat) : Int) = 1 by decide), if_pos (show ((3 : Nat) : Int) = 3 from rfl)]; rfl
      have hp : payB (u8n 3) = 32 := by rw [hpb]; rfl
      rw [e, List.cons_append, itsD_cons, hp, if_neg (by simp [hl3]; try omega)]
      have e2 : (digest.1 ++ r).drop 32 = r := List.drop_left' hl3
      have e3 : itemB (u8n 3) (digest.1 ++ r) = ⟨((3 : Nat) : Int), digest, zLeaf⟩ := by
        unfold itemB
        rw [if_neg (by omega), if_pos hu, b32At_of (o := 0) (pre := []) (x := digest) (post := r) (by simp) rfl]
        rfl
      rw [e2, e3]
    · have hd : digest = zB32 := hc.1.resolve_left (by omega)
      subst hd
      have e : itB ⟨(k : Int), zB32, zLeaf⟩ = [u8n k] := by unfold itB; rw [if_neg (show ¬ (k : Int) = 1 by omega), if_neg (show ¬ (k : Int) = 3 by omega)]; rfl
      have hp : payB (u8n k) = 0 := by rw [hpb]; unfold payN; rw [if_neg (by omega), if_neg (by omega)]
      have e3 : itemB (u8n k) r = ⟨(k : Int), zB32, zLeaf⟩ := by
        unfold itemB
        rw [hu, if_neg (by omega), if_neg (by omega)]
      rw [e, List.singleton_append, itsD_cons, hp, if_neg (by omega), List.drop_zero, e3]
theorem itsD_its : ∀ (l : List Item), l.all kindOk = true → l.all cleanItem = true → itsD (itsB l) = some l
  | [], _, _ => rfl
  | x :: l, h1, h2 => by
    rw [List.all_cons, Bool.and_eq_true] at h1 h2
    show itsD (itB x ++ itsB l) = _
    rw [itsD_item x h1.1 h2.1, itsD_its l h1.2 h2.2]
    rfl
theorem decM_enc (l : List Item) (h : checkM l = 0) (hl : l.length < 4294967296) : decM (encM l) = .ok l := by
  have hk : l.all kindOk = true ∧ l.all cleanItem = true := by
    have h' := h
    rw [checkM_eq] at h'
    split at h'
    · split at h'
      · exact ⟨‹_›, ‹_›⟩
      · cases h'
    · cases h'
  have hlen := encM_len l
  have hd : (encM l).drop 6 = itsB l := rfl
  have hc : cntH (encM l) = l.length := by
    show (((u8n (l.length / 2 ^ 24)).toNat * 256 + (u8n (l.length / 2 ^ 16)).toNat) * 256 + (u8n (l.length / 2 ^ 8)).toNat) * 256 + (u8n (l.length / 2 ^ 0)).toNat = _
    unfold u8n
    simp only [UInt8.toNat_ofNat']
    omega
  unfold decM
  rw [if_neg (by omega), if_neg (show ¬ (encM l).getD 0 0 ≠ 1 from fun h => h rfl), if_neg (show ¬ (encM l).getD 1 0 ≠ 2 from fun h => h rfl), hd, itsD_its l hk.1 hk.2]
  show (if l.length = cntH (encM l) ∧ checkM l = 0 then _ else _) = _
  rw [if_pos ⟨hc.symm, h⟩]
end Go.Proofs.YtjhocljhhpkiiaaGreatDoor
/- U75 -/
namespace Go.Proofs.YtjhocljhhpkiiaaGreatDoor
set_option linter.unusedSimpArgs false
set_option linter.unusedVariables false
open Go.RowKit
instance iU75_1 : TZero Tryz.prog 232 (.agg [.nilIface, .nilIface].toArray) := ⟨fun w => by kernel_rfl⟩
def endC (l : List (Item × Nat)) : List Value := l.flatMap fun x => End.cells ⟨x.1, (x.2 : Int)⟩
theorem endC_len (l : List (Item × Nat)) : (endC l).length = l.length * 98 := by
  unfold endC
  induction l with
  | nil => rfl
  | cons x l ih => rw [List.flatMap_cons, List.length_append, ih, List.length_cons, End.cells_length]; omega
theorem endC_snoc (l : List (Item × Nat)) (x : Item × Nat) : endC l ++ End.cells ⟨x.1, (x.2 : Int)⟩ = endC (l ++ [x]) := by unfold endC; rw [List.flatMap_append]; simp
section
variable (h : Zh)
theorem ends_one (x : Item) (ks : List B32) (B : Option Addr) (cc d : Nat) (hks : ks.length ≤ 100000) (out : List (Item × Nat)) (A : Option Addr) (c : Nat) (ho : out.length + ks.length ≤ 1000000) (b : Bool) (hb : (x.kind != 3 || ks.isEmpty) = b) : Spec Tryz.prog 205 [.slice A out.length c, .iface (Sub.one x).tag (Sub.one x).val, .slice B ks.length cc, .int .i64 (d : Int)].toArray [.zone false h] [.own (.slice A out.length c) out.length 250 98 (endC out)] (fun u : Option Addr × Nat => .tuple #[.slice u.1 (out ++ ks.map fun _ => (x, d)).length u.2, .bool b]) (fun u => [.own (.slice u.1 (out ++ ks.map fun _ => (x, d)).length u.2) (out ++ ks.map fun _ => (x, d)).length 250 98 (endC (out ++ ks.map fun _ => (x, d)))]) := by
  have ht : ∀ k, k < ks.length → (ks.take (k + 1)).map (fun _ => (x, d)) = (ks.take k).map (fun _ => (x, d)) ++ [(x, d)] := fun k hk => by rw [List.take_add_one, List.getElem?_eq_getElem hk, Option.toList_some, List.map_append]; rfl
  refine spec_of Tryz.func205 rfl (n := 79) rfl rfl ?_
  intro W
  change H _ _ _ _ (argsEnv 0 [.slice A out.length c, .iface 235 (.agg x.cells.toArray), .slice B ks.length cc, .int .i64 (d : Int)]) _ _
  refine h_seq ?_
  refine h_reg ?_
  refine h_op (r_assign rfl) ?_
  refine h_op (r_assign rfl) ?_
  refine h_nil ?_
  refine q_then ?_
  refine h_seq ?_
  refine h_seq ?_
  refine h_reg ?_
  refine h_op (r_move rfl) ?_
  refine h_nil ?_
  refine q_then ?_
  refine h_block ?_
  refine h_seq ?_
  refine h_reg ?_
  refine h_op (r_as2n rfl) ?_
  refine h_op (r_extract rfl rfl) ?_
  refine h_op (r_extract rfl rfl) ?_
  refine h_nil ?_
  refine q_then ?_
  refine h_condF rfl ?_
  refine h_seq ?_
  refine h_reg ?_
  refine h_op (r_as2 rfl) ?_
  refine h_op (r_extract rfl rfl) ?_
  refine h_op (r_extract rfl rfl) ?_
  refine h_nil ?_
  refine q_then ?_
  refine h_condT rfl ?_
  refine h_seq ?_
  refine h_reg ?_
  refine h_opX (x_alloc) fun g14 => ?_
  refine h_opS (s_storer rfl rfl) ?_
  refine h_nil ?_
  refine q_then ?_
  refine h_seq ?_
  refine h_seq ?_
  refine h_reg ?_
  refine h_op (r_move rfl) ?_
  refine h_op (r_len rfl) ?_
  refine h_op (r_move rfl) ?_
  refine h_nil ?_
  refine q_then ?_
  refine h_block ?_
  refine h_loop (fun (s : Nat × List (Item × Nat) × Option Addr × Nat) => s.1 ≤ ks.length ∧ s.2.1 = out ++ (ks.take s.1).map (fun _ => (x, d))) (fun (s : Nat × List (Item × Nat) × Option Addr × Nat) => [(58, .int .i64 (s.1 : Int)), (57, .int .i64 (ks.length : Int)), (0, .slice s.2.2.1 s.2.1.length s.2.2.2), (14, .pointer (some ⟨g14, 0, none⟩)), (3, .int .i64 (d : Int)), (2, .slice B ks.length cc)]) (fun (s : Nat × List (Item × Nat) × Option Addr × Nat) => [.own (.slice s.2.2.1 s.2.1.length s.2.2.2) s.2.1.length 250 98 (endC s.2.1), .blk g14 x.cells 235]) (fun (s : Nat × List (Item × Nat) × Option Addr × Nat) => ks.length - s.1) (0, out, A, c) (⟨Nat.zero_le _, by simp⟩) ⟨rfl, rfl, rfl, rfl, rfl, rfl, trivial⟩ (same) ?_
  rintro ⟨k, o, A', c'⟩ ⟨hk, he⟩
  dsimp only at hk he ⊢
  have hol : o.length = out.length + k := by rw [he, List.length_append, List.length_map, List.length_take]; omega
  refine h_seq ?_
  refine h_reg ?_
  refine h_op (r_lss rfl rfl) ?_
  refine h_nil ?_
  refine q_then ?_
  refine h_seq ?_
  refine h_cond rfl (fun hlt => ?_) (fun hlt => ?_)
  · have hk2 : k < ks.length := by omega
    have hl : o.length + 1 = (o ++ [(x, d)]).length := by rw [List.length_append]; rfl
    refine h_skip ?_
    refine q_then ?_
    refine h_seq ?_
    refine h_block ?_
    refine h_reg ?_
    refine h_op (r_move rfl) ?_
    refine h_op (r_field rfl) ?_
    refine h_op (r_loadr rfl) ?_
    refine h_op (r_move rfl) ?_
    refine h_op (r_build rfl) ?_
    refine h_opX (x_bsl rfl rfl) fun g65 => ?_
    refine h_opX (x_app rfl rfl (k := 98)) fun ⟨g66, c66⟩ => ?_
    refine h_op (r_assign rfl) ?_
    refine h_nil ?_
    refine q_block ?_
    refine q_then ?_
    refine h_reg ?_
    refine h_op (r_add rfl rfl) ?_
    refine h_op (r_move rfl) ?_
    refine h_nil ?_
    change H _ _ _ _ _ (.own _ _ _ _ (endC o ++ End.cells ⟨x, (d : Int)⟩) :: _) _
    rw [endC_snoc o (x, d), hl]
    exact h_back (k + 1, o ++ [(x, d)], some ⟨g66, 0, none⟩, c66) (⟨by dsimp only; omega, by dsimp only; rw [ht k hk2, he, List.append_assoc]⟩) ((show ks.length - (k + 1) < ks.length - k by omega)) ⟨rfl, rfl, rfl, rfl, rfl, rfl, trivial⟩ (same)
  · obtain rfl : k = ks.length := by omega
    rw [List.take_length] at he
    subst he
    by_cases h3 : x.kind = 3
    · have hb2 : decide ((ks.length : Int) = 0) = b := by
        rw [← hb, h3]
        cases ks <;> simp
        omega
      refine h_exit ?_
      refine q_thenE ?_
      refine q_thenE ?_
      refine q_blockE ?_
      refine q_then ?_
      refine h_seq ?_
      refine h_reg ?_
      refine h_op (r_move rfl) ?_
      refine h_op (r_field rfl) ?_
      refine h_op (r_field rfl) ?_
      refine h_op (r_loadc rfl) ?_
      refine h_op (r_bool (r_neq rfl rfl) (show _ = false by simp [h3])) ?_
      refine h_op (r_move rfl) ?_
      refine h_op (r_move rfl) ?_
      refine h_op (r_len rfl) ?_
      refine h_op (r_bool (r_eql rfl rfl) hb2) ?_
      refine h_op (r_pick rfl rfl) ?_
      refine h_op (r_assign rfl) ?_
      refine h_op (r_assign rfl) ?_
      refine h_nil ?_
      refine q_then ?_
      refine h_ret ?_
      refine q_blockR ?_
      refine q_thenR ?_
      exact h_ret2 rfl rfl rfl fun w s => ⟨(A', c'), rfl, (same w s).res (List.Sublist.refl _) (by simp [Fa.wr])⟩
    · obtain rfl : b = true := by rw [← hb]; simp [h3]
      refine h_exit ?_
      refine q_thenE ?_
      refine q_thenE ?_
      refine q_blockE ?_
      refine q_then ?_
      refine h_seq ?_
      refine h_reg ?_
      refine h_op (r_move rfl) ?_
      refine h_op (r_field rfl) ?_
      refine h_op (r_field rfl) ?_
      refine h_op (r_loadc rfl) ?_
      refine h_op (r_bool (r_neq rfl rfl) (show _ = true by simp [h3])) ?_
      refine h_op (r_move rfl) ?_
      refine h_opOff ?_
      refine h_opOff ?_
      refine h_opOff ?_
      refine h_op (r_pick rfl rfl) ?_
      refine h_op (r_assign rfl) ?_
      refine h_op (r_assign rfl) ?_
      refine h_nil ?_
      refine q_then ?_
      refine h_ret ?_
      refine q_blockR ?_
      refine q_thenR ?_
      exact h_ret2 rfl rfl rfl fun w s => ⟨(A', c'), rfl, (same w s).res (List.Sublist.refl _) (by simp [Fa.wr])⟩
theorem ends_none (l r : Sub) (B : Option Addr) (cc d : Nat) (out : List (Item × Nat)) (A : Option Addr) (c : Nat) : Spec Tryz.prog 205 [.slice A out.length c, .iface (Sub.two l r).tag (Sub.two l r).val, .slice B 0 cc, .int .i64 (d : Int)].toArray [.zone false h] [.own (.slice A out.length c) out.length 250 98 (endC out)] (fun u : Option Addr × Nat => .tuple #[.slice u.1 out.length u.2, .bool false]) (fun u => [.own (.slice u.1 out.length u.2) out.length 250 98 (endC out)]) := by
  refine spec_of Tryz.func205 rfl (n := 79) rfl rfl ?_
  intro W
  change H _ _ _ _ (argsEnv 0 [.slice A out.length c, .iface 232 (.agg [.iface l.tag l.val, .iface r.tag r.val].toArray), .slice B 0 cc, .int .i64 (d : Int)]) _ _
  refine h_seq ?_
  refine h_reg ?_
  refine h_op (r_assign rfl) ?_
  refine h_op (r_assign rfl) ?_
  refine h_nil ?_
  refine q_then ?_
  refine h_seq ?_
  refine h_seq ?_
  refine h_reg ?_
  refine h_op (r_move rfl) ?_
  refine h_nil ?_
  refine q_then ?_
  refine h_block ?_
  refine h_seq ?_
  refine h_reg ?_
  refine h_op (r_as2 rfl) ?_
  refine h_op (r_extract rfl rfl) ?_
  refine h_op (r_extract rfl rfl) ?_
  refine h_nil ?_
  refine q_then ?_
  refine h_condT rfl ?_
  refine h_seq ?_
  refine h_reg ?_
  refine h_opX (x_alloc) fun g10 => ?_
  refine h_opS (s_storer rfl rfl) ?_
  refine h_nil ?_
  refine q_then ?_
  refine h_seq ?_
  refine h_seq ?_
  refine h_reg ?_
  refine h_op (r_move rfl) ?_
  refine h_op (r_len rfl) ?_
  refine h_op (r_bool (r_eql rfl rfl) (show _ = true from rfl)) ?_
  refine h_nil ?_
  refine q_then ?_
  refine h_condT rfl ?_
  refine h_seq ?_
  refine h_reg ?_
  refine h_op (r_move rfl) ?_
  refine h_op (r_assign rfl) ?_
  refine h_op (r_assign rfl) ?_
  refine h_nil ?_
  refine q_then ?_
  refine h_ret ?_
  refine q_thenR ?_
  refine q_blockR ?_
  refine q_thenR ?_
  exact h_ret2 rfl rfl rfl fun w s => ⟨(A, c), rfl, (same w s).res (List.Sublist.refl _) (by simp [Fa.wr])⟩
/-- what a call of ends brings -/
def EndsS (t : Sub) : Prop := ∀ (ks : List B32) (B : Option Addr) (cc d : Nat), RdZ h B (dgs ks) → ks.length ≤ cc → ks.length ≤ 100000 → ks.Pairwise ltK → AlikeK ks d → d + t.ht ≤ 256 → ∀ (out : List (Item × Nat)) (A : Option Addr) (c : Nat), out.length + ks.length ≤ 1000000 →
  Spec Tryz.prog 205 [.slice A out.length c, .iface t.tag t.val, .slice B ks.length cc, .int .i64 (d : Int)].toArray [.zone false h] [.own (.slice A out.length c) out.length 250 98 (endC out)] (fun u : Option Addr × Nat => .tuple #[.slice u.1 (out ++ (endsM t ks d).1).length u.2, .bool (endsM t ks d).2]) (fun u => [.own (.slice u.1 (out ++ (endsM t ks d).1).length u.2) (out ++ (endsM t ks d).1).length 250 98 (endC (out ++ (endsM t ks d).1))])
theorem ends_two (l r : Sub) (ihl : EndsS h l) (ihr : EndsS h r) (ks : List B32) (B : Option Addr) (cc d m : Nat) (hB : RdZ h B (dgs ks)) (hcc : ks.length ≤ cc) (hks : ks.length ≤ 100000) (hne : ks.length ≠ 0) (ho : ks.Pairwise ltK) (ha : AlikeK ks d) (hd : d + (Sub.two l r).ht ≤ 256) (hm : m ≤ ks.length) (hp : ∀ j, j < ks.length → bitAt (ks.getD j zB32) d = decide (m ≤ j)) (h1 : ks.take m = keysB ks d false) (h2 : ks.drop m = keysB ks d true) (out : List (Item × Nat)) (A : Option Addr) (c : Nat) (hsz : out.length + ks.length ≤ 1000000) (e1 e2 : List (Item × Nat)) (b1 b2 : Bool) (he1 : endsM l (keysB ks d false) (d + 1) = (e1, b1)) (he2 : endsM r (keysB ks d true) (d + 1) = (e2, b2)) :
    Spec Tryz.prog 205 [.slice A out.length c, .iface (Sub.two l r).tag (Sub.two l r).val, .slice B ks.length cc, .int .i64 (d : Int)].toArray [.zone false h] [.own (.slice A out.length c) out.length 250 98 (endC out)] (fun u : Option Addr × Nat => .tuple #[.slice u.1 (out ++ if b1 then e1 ++ e2 else e1).length u.2, .bool (b1 && b2)]) (fun u => [.own (.slice u.1 (out ++ if b1 then e1 ++ e2 else e1).length u.2) (out ++ if b1 then e1 ++ e2 else e1).length 250 98 (endC (out ++ if b1 then e1 ++ e2 else e1))]) := by
  have hht : d + (max l.ht r.ht + 1) ≤ 256 := hd
  have h0 : 0 < (dgs ks).length := by rw [dgs_len]; omega
  obtain ⟨b, o, rfl, -⟩ := hB.at_ 0 _ (List.getElem?_eq_getElem h0)
  have hlm : (ks.take m).length = m := by rw [List.length_take, Nat.min_eq_left hm]
  have hle1 := endsM_len l (keysB ks d false) (d + 1)
  rw [he1, ← h1, hlm] at hle1
  dsimp only at hle1
  have hL := ihl (ks.take m) (some ⟨b, o, none⟩) m (d + 1) (dgs_takeZ hB m) (by omega) (by omega) (by rw [h1]; exact keysB_ord ho _) (by rw [h1]; exact keysB_alike ha _) (by omega) out A c (by omega)
  have hR := ihr (ks.drop m) (cutA (some ⟨b, o, none⟩) cc m 32) (cc - m) (d + 1) (dgs_dropZ hB hm hcc) (by rw [List.length_drop]; omega) (by rw [List.length_drop]; omega) (by rw [h2]; exact keysB_ord ho _) (by rw [h2]; exact keysB_alike ha _) (by omega) (out ++ e1)
  rw [hlm, h1, he1] at hL
  rw [List.length_drop] at hR
  simp only [h2, he2] at hR
  dsimp only at hL
  have hS := Split_s ks (some ⟨b, o, none⟩) cc d m (by omega) (by omega) hm hp
  refine spec_of Tryz.func205 rfl (n := 79) rfl rfl ?_
  intro W
  change H _ _ _ _ (argsEnv 0 [.slice A out.length c, .iface 232 (.agg [.iface l.tag l.val, .iface r.tag r.val].toArray), .slice (some ⟨b, o, none⟩) ks.length cc, .int .i64 (d : Int)]) _ _
  refine h_seq ?_
  refine h_reg ?_
  refine h_op (r_assign rfl) ?_
  refine h_op (r_assign rfl) ?_
  refine h_nil ?_
  refine q_then ?_
  refine h_seq ?_
  refine h_seq ?_
  refine h_reg ?_
  refine h_op (r_move rfl) ?_
  refine h_nil ?_
  refine q_then ?_
  refine h_block ?_
  refine h_seq ?_
  refine h_reg ?_
  refine h_op (r_as2 rfl) ?_
  refine h_op (r_extract rfl rfl) ?_
  refine h_op (r_extract rfl rfl) ?_
  refine h_nil ?_
  refine q_then ?_
  refine h_condT rfl ?_
  refine h_seq ?_
  refine h_reg ?_
  refine h_opX (x_alloc) fun g10 => ?_
  refine h_opS (s_storer rfl rfl) ?_
  refine h_nil ?_
  refine q_then ?_
  refine h_seq ?_
  refine h_seq ?_
  refine h_reg ?_
  refine h_op (r_move rfl) ?_
  refine h_op (r_len rfl) ?_
  refine h_op (r_bool (r_eql rfl rfl) (decide_eq_false (by omega))) ?_
  refine h_nil ?_
  refine q_then ?_
  refine h_condF rfl ?_
  refine h_skip ?_
  refine q_then ?_
  refine h_seq ?_
  refine h_reg ?_
  refine h_op (r_move rfl) ?_
  refine h_op (r_move rfl) ?_
  refine h_call (hS.comes) rfl rfl rfl fun _ => ?_
  refine h_op (r_assign rfl) ?_
  refine h_nil ?_
  refine q_then ?_
  refine h_seq ?_
  refine ha_start [.zone false h, .blk g10 [.iface l.tag l.val, .iface r.tag r.val] 232] [] mixed (same) ?_
  refine ha_takeP 0 rfl (r_move rfl) ?_
  refine ha_takeP 1 rfl (r_idxA rfl rfl) ?_
  refine ha_take 2 rfl (r_loadc rfl) ?_
  refine ha_takeP 3 rfl (r_move rfl) ?_
  refine ha_takeP 4 rfl (r_move rfl) ?_
  refine ha_takeP 5 rfl (r_move rfl) ?_
  refine ha_takeP 6 rfl (r_slHM rfl rfl rfl) ?_
  refine ha_takeP 7 rfl (r_move rfl) ?_
  refine ha_takeP 8 rfl (r_add rfl rfl) ?_
  refine ha_one 9 ?_
  refine ho_C 9 rfl (hL.comes) rfl rfl rfl (fun xx => same) fun ⟨A36, c36⟩ => ?_
  refine ha_takeP 10 rfl (r_move rfl) ?_
  refine ha_takeP 11 rfl (r_extract rfl rfl) ?_
  refine ha_takeP 12 rfl (r_extract rfl rfl) ?_
  refine ha_takeP 13 rfl (r_assign rfl) ?_
  refine ha_takeP 14 rfl (r_assign rfl) ?_
  refine ha_done (by kernel_rfl) ?_
  refine q_then ?_
  cases b1
  · refine h_seq ?_
    refine h_seq ?_
    refine h_reg ?_
    refine h_op (r_move rfl) ?_
    refine h_op (r_not rfl) ?_
    refine h_nil ?_
    refine q_then ?_
    refine h_condT rfl ?_
    refine h_seq ?_
    refine h_reg ?_
    refine h_op (r_move rfl) ?_
    refine h_op (r_assign rfl) ?_
    refine h_op (r_assign rfl) ?_
    refine h_nil ?_
    refine q_then ?_
    refine h_ret ?_
    refine q_thenR ?_
    refine q_blockR ?_
    refine q_thenR ?_
    rw [if_neg Bool.false_ne_true]
    exact h_ret2 rfl rfl rfl fun w s => ⟨(A36, c36), rfl, (same w s).res (List.Sublist.refl _) (by simp [Fa.wr])⟩
  · refine h_seq ?_
    refine h_seq ?_
    refine h_reg ?_
    refine h_op (r_move rfl) ?_
    refine h_op (r_not rfl) ?_
    refine h_nil ?_
    refine q_then ?_
    refine h_condF rfl ?_
    refine h_skip ?_
    refine q_then ?_
    refine h_seq ?_
    rw [if_pos rfl, ← List.append_assoc]
    refine ha_start [.zone false h, .blk g10 [.iface l.tag l.val, .iface r.tag r.val] 232] [] mixed (same) ?_
    refine ha_takeP 0 rfl (r_move rfl) ?_
    refine ha_takeP 1 rfl (r_idxA rfl rfl) ?_
    refine ha_take 2 rfl (r_loadc rfl) ?_
    refine ha_takeP 3 rfl (r_move rfl) ?_
    refine ha_takeP 4 rfl (r_move rfl) ?_
    refine ha_takeP 5 rfl (r_slL rfl rfl) ?_
    refine ha_takeP 6 rfl (r_move rfl) ?_
    refine ha_takeP 7 rfl (r_add rfl rfl) ?_
    refine ha_one 8 ?_
    refine ho_C 8 rfl ((hR A36 c36 (by rw [List.length_append]; omega)).comes) rfl rfl rfl (fun xx => same) fun ⟨A50, c50⟩ => ?_
    refine ha_takeP 9 rfl (r_extract rfl rfl) ?_
    refine ha_takeP 10 rfl (r_extract rfl rfl) ?_
    refine ha_takeP 11 rfl (r_assign rfl) ?_
    refine ha_takeP 12 rfl (r_assign rfl) ?_
    refine ha_done (by kernel_rfl) ?_
    refine q_then ?_
    refine h_ret ?_
    refine q_blockR ?_
    refine q_thenR ?_
    exact h_ret2 rfl rfl rfl fun w s => ⟨(A50, c50), rfl, (same w s).res (List.Sublist.refl _) (by simp [Fa.wr])⟩
theorem ends_s : ∀ t : Sub, EndsS h t
  | .one x => fun ks B cc d _ _ hks _ _ _ out A c ho => ends_one h x ks B cc d hks out A c ho _ rfl
  | .two l r => fun ks B cc d hB hcc hks hord hal hd out A c ho => by
    cases ks with
    | nil =>
      have h1 : endsM (.two l r) [] d = ([], false) := by unfold endsM; rfl
      rw [h1, List.append_nil]
      exact ends_none h l r B cc d out A c
    | cons x ks =>
      obtain ⟨m, m1, m2, m3, m4⟩ := split_at hord hal
      have h1 : endsM (.two l r) (x :: ks) d = (if (endsM l (keysB (x :: ks) d false) (d + 1)).2 then (endsM l (keysB (x :: ks) d false) (d + 1)).1 ++ (endsM r (keysB (x :: ks) d true) (d + 1)).1 else (endsM l (keysB (x :: ks) d false) (d + 1)).1, (endsM l (keysB (x :: ks) d false) (d + 1)).2 && (endsM r (keysB (x :: ks) d true) (d + 1)).2) := by
        conv => lhs; unfold endsM
        cases (endsM l (keysB (x :: ks) d false) (d + 1)).2 <;> simp
      rw [h1]
      exact ends_two h l r (ends_s l) (ends_s r) (x :: ks) B cc d m hB hcc hks (by simp) hord hal hd m1 m2 m3 m4 out A c ho _ _ _ _ rfl rfl
end
/-! Ends -/
section
variable (h : Zh) (l : List Item) (A : Option Addr) (c : Nat) [hr : RdZ h A (its l)] (hc : l.length ≤ c) (hl : l.length ≤ 1000000) (ks : List B32) (B : Option Addr) (cc : Nat) [hB : RdZ h B (dgs ks)]
include hc hl
theorem Ends_s (t : Sub) (hp : parseM l = .ok t) (hcc : ks.length ≤ cc) (hk : ks.length ≤ 100000) (he : keysE ks = 0) (es : List (Item × Nat)) (b : Bool) (hE : endsM t ks 0 = (es, b)) : Spec Tryz.prog 153 [.slice A l.length c, .slice B ks.length cc].toArray [.zone false h] [] (fun u : Option Addr × Nat => .tuple (if b then #[.slice u.1 es.length u.2, .int .i64 0] else #[.slice none 0 0, .int .i64 12])) (fun u => if b then [.own (.slice u.1 es.length u.2) es.length 250 98 (endC es)] else []) := by
  have hP := parse_s h l A c hc hl
  rw [hp] at hP
  obtain ⟨h1, h2, h3⟩ := keysE_ok he
  have hK := mKeys_s ks B cc (by omega)
  rw [he] at hK
  have hht := (parse_flat hp).2.2
  have hA := ends_s h t ks B cc 0 hB hcc hk h3 (fun _ _ _ _ i hi => absurd hi (by omega)) (by omega) [] none 0 (by simp; omega)
  rw [hE] at hA
  simp only [List.nil_append, List.length_nil] at hA
  refine spec_of Tryz.func153 rfl (n := 31) rfl rfl ?_
  intro W
  refine h_seq ?_
  refine h_reg ?_
  refine h_op (r_assign rfl) ?_
  refine h_op (r_assign rfl) ?_
  refine h_nil ?_
  refine q_then ?_
  refine h_seq ?_
  refine h_reg ?_
  refine h_op (r_move rfl) ?_
  refine h_call (hP.comes) rfl rfl rfl fun _ => ?_
  refine h_op (r_move rfl) ?_
  refine h_op (r_extract rfl rfl) ?_
  refine h_op (r_extract rfl rfl) ?_
  refine h_op (r_assign rfl) ?_
  refine h_op (r_assign rfl) ?_
  refine h_nil ?_
  refine q_then ?_
  refine h_seq ?_
  refine h_seq ?_
  refine h_reg ?_
  refine h_op (r_move rfl) ?_
  refine h_op (r_eql rfl rfl) ?_
  refine h_nil ?_
  refine q_then ?_
  refine h_yes rfl (rfl) ?_
  refine h_reg ?_
  refine h_op (r_move rfl) ?_
  refine h_call (hK.comes) rfl rfl rfl fun _ => ?_
  refine h_op (r_assign rfl) ?_
  refine h_nil ?_
  refine q_then ?_
  refine h_seq ?_
  refine h_seq ?_
  refine h_reg ?_
  refine h_op (r_move rfl) ?_
  refine h_op (r_neq rfl rfl) ?_
  refine h_nil ?_
  refine q_then ?_
  refine h_no rfl ((fun h => h rfl)) ?_
  refine h_skip ?_
  refine q_then ?_
  refine h_seq ?_
  refine h_reg ?_
  refine h_op (r_move rfl) ?_
  refine h_op (r_move rfl) ?_
  refine h_nil_own 250 98 (xs := endC []) rfl ?_
  refine h_call (hA.comes) rfl rfl rfl fun ⟨A25, c25⟩ => ?_
  cases b
  · refine h_op (r_move rfl) ?_
    refine h_op (r_extract rfl rfl) ?_
    refine h_op (r_extract rfl rfl) ?_
    refine h_op (r_assign rfl) ?_
    refine h_op (r_assign rfl) ?_
    refine h_nil ?_
    refine q_then ?_
    refine h_seq ?_
    refine h_seq ?_
    refine h_reg ?_
    refine h_op (r_move rfl) ?_
    refine h_op (r_not rfl) ?_
    refine h_nil ?_
    refine q_then ?_
    refine h_condT rfl ?_
    refine h_seq ?_
    refine h_reg ?_
    refine h_op (r_assign rfl) ?_
    refine h_op (r_assign rfl) ?_
    refine h_nil ?_
    refine q_then ?_
    refine h_ret ?_
    refine q_thenR ?_
    exact h_ret2 rfl rfl rfl fun w s => ⟨(none, 0), rfl, s.res (List.nil_sublist _) (by simp)⟩
  · refine h_op (r_move rfl) ?_
    refine h_op (r_extract rfl rfl) ?_
    refine h_op (r_extract rfl rfl) ?_
    refine h_op (r_assign rfl) ?_
    refine h_op (r_assign rfl) ?_
    refine h_nil ?_
    refine q_then ?_
    refine h_seq ?_
    refine h_seq ?_
    refine h_reg ?_
    refine h_op (r_move rfl) ?_
    refine h_op (r_not rfl) ?_
    refine h_nil ?_
    refine q_then ?_
    refine h_condF rfl ?_
    refine h_skip ?_
    refine q_then ?_
    refine h_seq ?_
    refine h_reg ?_
    refine h_op (r_move rfl) ?_
    refine h_op (r_assign rfl) ?_
    refine h_op (r_assign rfl) ?_
    refine h_nil ?_
    refine q_then ?_
    refine h_ret ?_
    exact h_ret2 rfl rfl rfl fun w s => ⟨(A25, c25), rfl, (same (L' := [.own (.slice A25 es.length c25) es.length 250 98 (endC es)]) w s).res (List.Sublist.refl _) (by simp [Fa.wr])⟩
end
end Go.Proofs.YtjhocljhhpkiiaaGreatDoor
/- E22 -/
namespace Go.Proofs.YtjhocljhhpkiiaaGreatDoor
set_option linter.unusedSimpArgs false
set_option linter.unusedVariables false
open Go.RowKit
theorem endC_at {l : List (Item × Nat)} {k : Nat} {x : Item × Nat} (h : l[k]? = some x) : ∀ j v, (End.cells ⟨x.1, (x.2 : Int)⟩)[j]? = some v → (endC l)[k * 98 + j]? = some v := by
  intro j v hv
  have hj : j < 98 := by have := (List.getElem?_eq_some_iff.1 hv).1; rw [End.cells_length] at this; exact this
  obtain ⟨h1, h2⟩ := List.getElem?_eq_some_iff.1 h
  have e : endC l = endC (l.take k) ++ (End.cells ⟨x.1, (x.2 : Int)⟩ ++ endC (l.drop (k + 1))) := by
    conv => lhs; rw [← List.take_append_drop k l, List.drop_eq_getElem_cons h1, h2]
    unfold endC
    rw [List.flatMap_append, List.flatMap_cons]
  rw [e, List.getElem?_append_right (by rw [endC_len, List.length_take]; omega), endC_len, List.length_take, Nat.min_eq_left (by omega), Nat.add_sub_cancel_left, List.getElem?_append_left (by rw [End.cells_length]; exact hj)]
  exact hv
theorem itemT_kind (n : Nat) {t : Tr} (h : t.kind ≠ 2) : (itemT n t).kind = ((t.kind : Nat) : Int) := by cases t <;> first | rfl | exact (h rfl).elim
theorem itemT_leaf (n : Nat) {t : Tr} (h : t.kind ≠ 2) : (itemT n t).leaf = leafT n t := by cases t <;> first | rfl | exact (h rfl).elim
theorem loc_way {m : List En} (h : Alike m 0) (key : B32) : ∃ D, WayTo key (mkT m 0) D ∧ loc key (mkT m 0) 0 = (wayK key (mkT m 0) D, D) := by
  obtain ⟨D, h1, h2, _, _, h5⟩ := wayTo_mkT (key := key) h
  refine ⟨D, h1, ?_⟩
  have := loc_mkT (k := key) h 256 0 (by omega) (by omega)
  rw [show atM key m 0 = m from rfl, h2] at this
  rw [this, h5 D (Nat.le_refl _)]
end Go.Proofs.YtjhocljhhpkiiaaGreatDoor
/- E30 -/
namespace Go.Proofs.YtjhocljhhpkiiaaGreatDoor
set_option linter.unusedSimpArgs false
set_option linter.unusedVariables false
open Go.RowKit
/-- a way's end, as a proof -/
def endPr (x : Item × Nat) : Proof := ⟨x.1.kind, (x.2 : Int), x.1.leaf, zB32, ⟨none, 0, 0⟩⟩
instance : Inhabited (Item × Nat) := ⟨(zItem, 0)⟩
def showE (n : Nat) (es : List (Item × Nat)) (l : List CB) (i : Nat) : Int :=
  if supP (endPr (es.getD i (zItem, 0))) (keyOf (l.getD i zCB).kb) (valD n (l.getD i zCB).c.present (l.getD i zCB).vb) (l.getD i zCB).c.present then 0 else 12
/-- the first of the last three steps that fails, or nothing -/
def showR (n : Nat) (root : B32) (l : List CB) (t : Sub) : Option (Nat × Int) :=
  if (endsM t (keysC l) 0).2 then
    match firstF (showE n (endsM t (keysC l) 0).1 l) (endsM t (keysC l) 0).1.length 0 with
    | some r => some r
    | none => if dgS n t = root then none else some (0, 13)
  else some (0, 12)
/-- the first step that fails, with its index and its code, or nothing -/
def mverR (n : Nat) (root : Sl) (rb : List UInt8) (l : List CB) (bb : List UInt8) : Option (Nat × Int) :=
  if root.n = 32 then
    match claimsR l with
    | some r => some r
    | none => match decM bb with
      | .error e => some (0, e)
      | .ok its => match parseM its with
        | .error e => some (0, e)
        | .ok t => showR n (keyOf rb) l t
  else some (0, 4)
/-- what is decoded is well-formed -/
theorem decM_ok {bb : List UInt8} {its : List Item} (h : decM bb = .ok its) : checkM its = 0 := by
  unfold decM at h
  split at h
  · cases h
  · split at h
    · cases h
    · split at h
      · cases h
      · split at h
        · split at h
          · rename_i h2
            injection h with h
            subst h
            exact h2.2
          · cases h
        · cases h
theorem decM_err {bb : List UInt8} {e : Int} (h : decM bb = .error e) : e ≠ 0 := by
  unfold decM at h
  split at h
  · injection h with h; omega
  · split at h
    · injection h with h; omega
    · split at h
      · injection h with h; omega
      · split at h
        · split at h
          · cases h
          · injection h with h; omega
        · injection h with h; omega
theorem checkM_parse {its : List Item} (h : checkM its = 0) : ∃ t, parseM its = .ok t := by
  unfold checkM at h
  split at h
  · exact ⟨_, ‹_›⟩
  · rename_i c hc
    exfalso
    unfold parseM at hc
    split at hc
    · split at hc
      · split at hc
        · cases hc
        · injection hc with hc; omega
      · injection hc with hc; omega
    · injection hc with hc; omega
end Go.Proofs.YtjhocljhhpkiiaaGreatDoor
/- U122 -/
namespace Go.Proofs.YtjhocljhhpkiiaaGreatDoor
set_option linter.unusedSimpArgs false
set_option linter.unusedVariables false
open Go.RowKit
theorem keysC_getD {l : List CB} {k : Nat} (h : k < l.length) : (keysC l).getD k zB32 = keyOf (l.getD k zCB).kb := by
  rw [List.getD_eq_getElem?_getD, keysC_get h]; rfl
section
variable (n : Nat) (hn : n ≤ 256) (h : Zh) [hT : RdZ h (some ⟨1, 0, none⟩) hashT] (gh gc : Nat) (l : List CB) (A : Option Addr) (c : Nat) [hr : RdZ h A (cbs l)] (hz : ClsZ h l) (hvl : ∀ x ∈ l, x.vb.length ≤ 100000000) (hll : l.length ≤ 100000) (K : Option Addr) (kc : Nat) [hK : RdZ h K (dgs (keysC l))] (gl ph pk : Nat)
include hn hz hvl hll
omit hll in
theorem show1_s (k : Nat) (hk : k ≤ 1000000000) (i : Nat) (hi : i < l.length) (x : Item × Nat) (b : Bool) (hb : supP (endPr x) (keyOf (l.getD i zCB).kb) (valD n (l.getD i zCB).c.present (l.getD i zCB).vb) (l.getD i zCB).c.present = b) : Spec Tryz.prog 155 [.int .i64 (i : Int), .agg (End.cells ⟨x.1, (x.2 : Int)⟩).toArray, .pointer (some ⟨gl, 0, none⟩), .pointer (some ⟨ph, 0, none⟩), .pointer (some ⟨pk, 0, none⟩)].toArray [HR gh gc n, .zone false h, .rd (some ⟨gl, 0, none⟩) [.slice A l.length c], .rd (some ⟨ph, 0, none⟩) [.pointer (some ⟨gh, 0, none⟩)], .rd (some ⟨pk, 0, none⟩) [.slice K l.length kc]] [CN gc k] (fun _ : Unit => .int .i64 (if b then 0 else 12)) (fun _ => [CN gc (k + if (l.getD i zCB).c.present then 1 else 0)]) := by
  have hx := getD_get zCB hi
  have hvz := (hz.get hi).2
  have hvb := hvl _ (List.mem_of_getElem? hx)
  have hd := dgs_at (l := keysC l) (k := i) (by rw [keysC_len]; exact hi)
  rw [keysC_getD hi] at hd
  generalize l.getD i zCB = y at *
  have hvn := hvz.len
  have hVr : RdZ h y.c.value.A (bc y.vb) := hvz.rd
  have hVn := hvz.nil
  obtain ⟨bA, oA, rfl, -⟩ := hr.at_ (i * 3) _ (cbs_at hx 0 _ rfl)
  obtain ⟨bK, oK, rfl, -⟩ := hK.at_ (i * 32 + 0) _ (hd 0 _ (List.getElem?_eq_getElem (by rw [B32.cells_length]; decide)))
  have e1 := cbs_at hx 1 _ rfl
  have e2 := cbs_at hx 2 _ rfl
  obtain ⟨⟨ks, ⟨vA, vn, vc⟩, pr⟩, kb, vb⟩ := y
  dsimp only at hvn hVr hVn hvb hb hd e1 e2 ⊢
  subst hvn
  have hS := fun v => Supports_s (endPr x) (keyOf kb) v pr
  cases pr
  · refine spec_of Tryz.func155 rfl (n := 45) rfl rfl ?_
    intro W
    refine h_seq ?_
    refine h_reg ?_
    refine h_opX (x_box rfl) fun g6 => ?_
    refine h_op (r_assign rfl) ?_
    refine h_nil ?_
    refine q_then ?_
    refine h_seq ?_
    refine h_reg ?_
    refine h_opX (x_alloc) fun g8 => ?_
    refine h_nil ?_
    refine q_then ?_
    refine h_seq ?_
    refine h_seq ?_
    refine h_reg ?_
    refine h_op (r_loadc rfl) ?_
    refine h_op (r_move rfl) ?_
    refine h_op (r_idx rfl rfl) ?_
    refine h_op (r_field rfl (O' := oA + (i * 3 + 2)) (by omega)) ?_
    refine h_op (r_nth rfl e2) ?_
    refine h_nil ?_
    refine q_then ?_
    refine h_condF rfl ?_
    refine h_skip ?_
    refine q_then ?_
    refine h_seq ?_
    refine h_reg ?_
    refine h_op (r_field rfl) ?_
    refine h_op (r_field rfl) ?_
    refine h_op (r_loadc rfl) ?_
    refine h_op (r_field rfl) ?_
    refine h_op (r_loadc rfl) ?_
    refine h_op (r_field rfl) ?_
    refine h_op (r_field rfl) ?_
    refine h_op (r_loadr rfl) ?_
    refine h_op (r_build rfl) ?_
    refine h_opX (x_alloc) fun g9 => ?_
    refine h_opS (s_storer rfl rfl) ?_
    refine h_nil ?_
    refine q_then ?_
    refine h_seq ?_
    refine h_seq ?_
    change H _ _ _ _ _ (.blk g9 (endPr x).cells _ :: _) _
    have hS := hS zB32
    rw [show supP (endPr x) (keyOf kb) zB32 false = b from hb] at hS
    refine ha_start [.blk g9 (endPr x).cells 54, .blk g8 zB32.cells 42, .zone false h, .rd (some ⟨gl, 0, none⟩) [.slice (some ⟨bA, oA, none⟩) l.length c], .rd (some ⟨pk, 0, none⟩) [.slice (some ⟨bK, oK, none⟩) l.length kc]] [] mixed (same) ?_
    refine ha_take 0 rfl (r_loadr rfl) ?_
    refine ha_take 1 rfl (r_loadc rfl) ?_
    refine ha_takeP 2 rfl (r_move rfl) ?_
    refine ha_takeP 3 rfl (r_idx rfl rfl) ?_
    refine ha_take 4 rfl (r_nthr rfl (out := (keyOf kb).cells) (B32.cells_length _) hd) ?_
    refine ha_take 5 rfl (r_loadr rfl) ?_
    refine ha_take 6 rfl (r_loadc rfl) ?_
    refine ha_takeP 7 rfl (r_move rfl) ?_
    refine ha_takeP 8 rfl (r_idx rfl rfl) ?_
    refine ha_takeP 9 rfl (r_field rfl (O' := oA + (i * 3 + 2)) (by omega)) ?_
    refine ha_take 10 rfl (r_nth rfl e2) ?_
    refine ha_one 11 ?_
    refine ho_C 11 rfl (hS.comes) rfl rfl rfl (fun xx => same) fun _ => ?_
    refine ha_takeP 12 rfl (r_not rfl) ?_
    refine ha_done (by kernel_rfl) ?_
    refine q_then ?_
    cases b
    · refine h_condT rfl ?_
      refine h_seq ?_
      refine h_reg ?_
      refine h_op (r_assign rfl) ?_
      refine h_nil ?_
      refine q_then ?_
      refine h_ret ?_
      refine q_thenR ?_
      exact h_ret1 rfl rfl fun w s => ⟨(), rfl, (same (L' := [CN gc k]) w s).res (List.Sublist.refl _) (by simp [Fa.wr])⟩
    · refine h_condF rfl ?_
      refine h_skip ?_
      refine q_then ?_
      refine h_seq ?_
      refine h_reg ?_
      refine h_op (r_assign rfl) ?_
      refine h_nil ?_
      refine q_then ?_
      refine h_ret ?_
      exact h_ret1 rfl rfl fun w s => ⟨(), rfl, (same (L' := [CN gc k]) w s).res (List.Sublist.refl _) (by simp [Fa.wr])⟩
  · refine spec_of Tryz.func155 rfl (n := 45) rfl rfl ?_
    intro W
    refine h_seq ?_
    refine h_reg ?_
    refine h_opX (x_box rfl) fun g6 => ?_
    refine h_op (r_assign rfl) ?_
    refine h_nil ?_
    refine q_then ?_
    refine h_seq ?_
    refine h_reg ?_
    refine h_opX (x_alloc) fun g8 => ?_
    refine h_nil ?_
    refine q_then ?_
    refine h_seq ?_
    refine h_seq ?_
    refine h_reg ?_
    refine h_op (r_loadc rfl) ?_
    refine h_op (r_move rfl) ?_
    refine h_op (r_idx rfl rfl) ?_
    refine h_op (r_field rfl (O' := oA + (i * 3 + 2)) (by omega)) ?_
    refine h_op (r_nth rfl e2) ?_
    refine h_nil ?_
    refine q_then ?_
    refine h_condT rfl ?_
    refine ha_start [.zone false h, .rd (some ⟨gl, 0, none⟩) [.slice (some ⟨bA, oA, none⟩) l.length c], .rd (some ⟨ph, 0, none⟩) [.pointer (some ⟨gh, 0, none⟩)]] [] mixed (same) ?_
    refine ha_take 0 rfl (r_loadc rfl) ?_
    refine ha_take 1 rfl (r_loadc rfl) ?_
    refine ha_takeP 2 rfl (r_move rfl) ?_
    refine ha_takeP 3 rfl (r_idx rfl rfl) ?_
    refine ha_takeP 4 rfl (r_field rfl (O' := oA + (i * 3 + 1)) (by omega)) ?_
    refine ha_take 5 rfl (r_nth rfl e1) ?_
    refine ha_one 6 ?_
    refine ho_C 6 rfl ((pValue_s vb vA vc (fun e => by have := hVn e; omega) hvb).comes) rfl rfl rfl (fun xx => same) fun ⟨g21, c21⟩ => ?_
    refine ha_one 7 ?_
    refine ho_C 7 rfl ((HSum_s n hn gh gc k (by omega) (preV vb) (some ⟨g21, 0, none⟩) c21 (fun h => by cases h) (by show vb.length + 1 ≤ _; omega)).comes) rfl rfl rfl (fun xx => same) fun _ => ?_
    refine ha_one 8 ?_
    refine ho_SL 8 rfl (s_storer rfl rfl) ?_
    refine q_then ?_
    refine h_seq ?_
    refine h_reg ?_
    refine h_op (r_field rfl) ?_
    refine h_op (r_field rfl) ?_
    refine h_op (r_loadc rfl) ?_
    refine h_op (r_field rfl) ?_
    refine h_op (r_loadc rfl) ?_
    refine h_op (r_field rfl) ?_
    refine h_op (r_field rfl) ?_
    refine h_op (r_loadr rfl) ?_
    refine h_op (r_build rfl) ?_
    refine h_opX (x_alloc) fun g9 => ?_
    refine h_opS (s_storer rfl rfl) ?_
    refine h_nil ?_
    refine q_then ?_
    refine h_seq ?_
    refine h_seq ?_
    change H _ _ _ _ _ (.blk g9 (endPr x).cells _ :: _) _
    have hS := hS (sumB n (preV vb))
    rw [show supP (endPr x) (keyOf kb) (sumB n (preV vb)) true = b from hb] at hS
    refine ha_start [.blk g9 (endPr x).cells 54, .blk g8 (sumB n (preV vb)).cells 42, .zone false h, .rd (some ⟨gl, 0, none⟩) [.slice (some ⟨bA, oA, none⟩) l.length c], .rd (some ⟨pk, 0, none⟩) [.slice (some ⟨bK, oK, none⟩) l.length kc]] [] mixed (same) ?_
    refine ha_take 0 rfl (r_loadr rfl) ?_
    refine ha_take 1 rfl (r_loadc rfl) ?_
    refine ha_takeP 2 rfl (r_move rfl) ?_
    refine ha_takeP 3 rfl (r_idx rfl rfl) ?_
    refine ha_take 4 rfl (r_nthr rfl (out := (keyOf kb).cells) (B32.cells_length _) hd) ?_
    refine ha_take 5 rfl (r_loadr rfl) ?_
    refine ha_take 6 rfl (r_loadc rfl) ?_
    refine ha_takeP 7 rfl (r_move rfl) ?_
    refine ha_takeP 8 rfl (r_idx rfl rfl) ?_
    refine ha_takeP 9 rfl (r_field rfl (O' := oA + (i * 3 + 2)) (by omega)) ?_
    refine ha_take 10 rfl (r_nth rfl e2) ?_
    refine ha_one 11 ?_
    refine ho_C 11 rfl (hS.comes) rfl rfl rfl (fun xx => same) fun _ => ?_
    refine ha_takeP 12 rfl (r_not rfl) ?_
    refine ha_done (by kernel_rfl) ?_
    refine q_then ?_
    cases b
    · refine h_condT rfl ?_
      refine h_seq ?_
      refine h_reg ?_
      refine h_op (r_assign rfl) ?_
      refine h_nil ?_
      refine q_then ?_
      refine h_ret ?_
      refine q_thenR ?_
      exact h_ret1 rfl rfl fun w s => ⟨(), rfl, (same (L' := [CN gc (k + 1)]) w s).res (List.Sublist.refl _) (by simp [Fa.wr])⟩
    · refine h_condF rfl ?_
      refine h_skip ?_
      refine q_then ?_
      refine h_seq ?_
      refine h_reg ?_
      refine h_op (r_assign rfl) ?_
      refine h_nil ?_
      refine q_then ?_
      refine h_ret ?_
      exact h_ret1 rfl rfl fun w s => ⟨(), rfl, (same (L' := [CN gc (k + 1)]) w s).res (List.Sublist.refl _) (by simp [Fa.wr])⟩
theorem first3_s (k : Nat) (hk : k ≤ 100000000) (es : List (Item × Nat)) (E : Option Addr) (ec : Nat) [hE : RdZ h E (endC es)] (hel : es.length ≤ l.length) (r : Option (Nat × Int)) (hR : firstF (showE n es l) es.length 0 = r) : Spec Tryz.prog 154 [.slice E es.length ec, .func (.func 155) #[] #[.pointer (some ⟨gl, 0, none⟩), .pointer (some ⟨ph, 0, none⟩), .pointer (some ⟨pk, 0, none⟩)]].toArray [HR gh gc n, .zone false h, .rd (some ⟨gl, 0, none⟩) [.slice A l.length c], .rd (some ⟨ph, 0, none⟩) [.pointer (some ⟨gh, 0, none⟩)], .rd (some ⟨pk, 0, none⟩) [.slice K l.length kc]] [CN gc k] (fun u : {u : Nat × Nat // u.2 ≤ k + es.length} => errV r u.1.1) (fun u => CN gc u.1.2 :: errB r u.1.1) := by
  refine spec_of Tryz.func154 rfl (n := 25) rfl rfl ?_
  intro W
  refine h_seq ?_
  refine h_reg ?_
  refine h_op (r_assign rfl) ?_
  refine h_nil ?_
  refine q_then ?_
  refine h_seq ?_
  refine h_seq ?_
  refine h_reg ?_
  refine h_op (r_move rfl) ?_
  refine h_op (r_len rfl) ?_
  refine h_op (r_move rfl) ?_
  refine h_nil ?_
  refine q_then ?_
  refine h_block ?_
  refine h_loop (fun (s : Nat × Nat) => s.1 ≤ es.length ∧ s.2 ≤ k + s.1 ∧ ∀ j, j < s.1 → showE n es l j = 0) (fun (s : Nat × Nat) => [(10, .int .i64 (s.1 : Int)), (9, .int .i64 (es.length : Int)), (8, .slice E es.length ec), (1, .func (.func 155) #[] #[.pointer (some ⟨gl, 0, none⟩), .pointer (some ⟨ph, 0, none⟩), .pointer (some ⟨pk, 0, none⟩)])]) (fun (s : Nat × Nat) => [CN gc s.2, HR gh gc n, .zone false h, .rd (some ⟨gl, 0, none⟩) [.slice A l.length c], .rd (some ⟨ph, 0, none⟩) [.pointer (some ⟨gh, 0, none⟩)], .rd (some ⟨pk, 0, none⟩) [.slice K l.length kc]]) (fun (s : Nat × Nat) => es.length - s.1) (0, k) (⟨Nat.zero_le _, Nat.le_refl _, fun j hj => absurd hj (Nat.not_lt_zero _)⟩) ⟨rfl, rfl, rfl, rfl, trivial⟩ (same) ?_
  rintro ⟨i, k'⟩ ⟨hi, hk', hz'⟩
  dsimp only at hi hk' hz' ⊢
  refine h_seq ?_
  refine h_reg ?_
  refine h_op (r_lss rfl rfl) ?_
  refine h_nil ?_
  refine q_then ?_
  refine h_seq ?_
  refine h_cond rfl (fun hlt => ?_) (fun hlt => ?_)
  · have hi2 : i < es.length := by omega
    have hx := getD_get (zItem, 0) hi2
    have hz0 : ∀ j, 0 ≤ j → j < i → showE n es l j = 0 := fun j _ hj => hz' j hj
    have hs := show1_s n hn h gh gc l A c hz hvl K kc gl ph pk k' (by omega) i (by omega) (es.getD i (zItem, 0)) _ rfl
    change Spec _ _ _ _ _ (fun _ : Unit => .int .i64 (showE n es l i)) _ at hs
    obtain ⟨b, o, rfl, -⟩ := hE.at_ (i * 98) _ (endC_at hx 0 _ rfl)
    obtain ⟨p, hp, hpe⟩ : ∃ p, p ≤ 1 ∧ (if (l.getD i zCB).c.present = true then 1 else 0) = p := ⟨_, by split <;> omega, rfl⟩
    rw [hpe] at hs
    refine h_skip ?_
    refine q_then ?_
    refine h_seq ?_
    refine h_block ?_
    refine h_seq ?_
    refine h_reg ?_
    refine h_op (r_move rfl) ?_
    refine h_op (r_idx rfl rfl) ?_
    refine h_op (r_nthr rfl (out := End.cells ⟨(es.getD i (zItem, 0)).1, ((es.getD i (zItem, 0)).2 : Int)⟩) (End.cells_length _) (endC_at hx)) ?_
    refine h_opX (x_alloc) fun g6 => ?_
    refine h_op (r_assign rfl) ?_
    refine h_opS (s_storer rfl rfl) ?_
    refine h_nil ?_
    refine q_then ?_
    refine h_seq ?_
    refine h_reg ?_
    refine h_op (r_move rfl) ?_
    refine h_op (r_move rfl) ?_
    refine h_op (r_move rfl) ?_
    refine h_op (r_loadr rfl) ?_
    refine h_call (hs.comes) rfl rfl rfl fun _ => ?_
    by_cases h0 : showE n es l i = 0
    · rw [h0]
      refine h_call ((mFail_no (i : Int)).comes) rfl rfl rfl fun _ => ?_
      refine h_op (r_assign rfl) ?_
      refine h_nil ?_
      refine q_then ?_
      refine h_seq ?_
      refine h_reg ?_
      refine h_op (r_move rfl) ?_
      refine h_op (r_nilnn rfl) ?_
      refine h_nil ?_
      refine q_then ?_
      refine h_condF rfl ?_
      refine h_skip ?_
      refine q_block ?_
      refine q_then ?_
      refine h_reg ?_
      refine h_op (r_add rfl rfl) ?_
      refine h_op (r_move rfl) ?_
      refine h_nil ?_
      exact h_back (i + 1, k' + p) (⟨hi2, by dsimp only; omega, fun j hj => (Nat.lt_or_ge j i).elim (hz' j) fun h8 => by (obtain rfl : j = i := by (dsimp only at hj; omega)); exact h0⟩) ((show es.length - (i + 1) < es.length - i by omega)) ⟨rfl, rfl, rfl, rfl, trivial⟩ (same)
    · obtain rfl : some (i, showE n es l i) = r := by rw [← hR, firstF_some (showE n es l) i h0 es.length 0 (Nat.zero_le _) (by omega) hz0]
      refine h_call ((mFail_s (i : Int) (showE n es l i) h0).comes) rfl rfl rfl fun g20 => ?_
      refine h_op (r_assign rfl) ?_
      refine h_nil ?_
      refine q_then ?_
      refine h_seq ?_
      refine h_reg ?_
      refine h_op (r_move rfl) ?_
      refine h_op (r_ifnn rfl) ?_
      refine h_nil ?_
      refine q_then ?_
      refine h_condT rfl ?_
      refine h_seq ?_
      refine h_reg ?_
      refine h_op (r_move rfl) ?_
      refine h_op (r_assign rfl) ?_
      refine h_nil ?_
      refine q_then ?_
      refine h_ret ?_
      refine q_blockR ?_
      refine q_thenR ?_
      refine q_thenR ?_
      refine q_blockR ?_
      refine q_thenR ?_
      exact h_ret1 rfl rfl fun w s => ⟨⟨(g20, k' + p), by dsimp only; omega⟩, rfl, (same (L' := [CN gc (k' + p), .blk g20 (fltC batchB (i : Int) (showE n es l i)) 178]) w s).res (List.Sublist.refl _) (by simp [Fa.wr, errB])⟩
  · obtain rfl : i = es.length := by omega
    obtain rfl : none = r := by rw [← hR, firstF_none _ _ _ (fun j _ hj => hz' j (by omega))]
    refine h_exit ?_
    refine q_thenE ?_
    refine q_thenE ?_
    refine q_blockE ?_
    refine q_then ?_
    refine h_seq ?_
    refine h_reg ?_
    refine h_op (r_assign rfl) ?_
    refine h_nil ?_
    refine q_then ?_
    refine h_ret ?_
    exact h_ret1 rfl rfl fun w s => ⟨⟨(0, k'), hk'⟩, rfl, (same (L' := [CN gc k']) w s).res (List.Sublist.refl _) (by simp [Fa.wr, errB])⟩
end
end Go.Proofs.YtjhocljhhpkiiaaGreatDoor
