/- multi.add, the cases of one item; multi.add: all trees; multi.Prove; multiproofs: the reference's Same; law19.Few; law15.alive: it is true; law19.alive: it is true; multiproofs: the reference's Digest and Preimage; law19: MultiChecks, MultiRoots are true; mverify: Verify, Check, Accepts; law20.alive: it is true; The example of chapter 21: plain; law19: MultiLeads is true; The reference: claims' form, keys; slices.Equal of keys; A map's multiproof, against claims about the map: plain; law18.alive: it is true; law21.alive: it is true; law21: MverifyCompletes is true (joined texts: U72 U73 U74 U79 U47 U81 U68 U82 U124 U114 E31 U86 U125 E32 U100 U128 U132) -/
import Derived.Test.YtjhocljhhpkiiaaGreatDoorH15
set_option linter.all false
/- U72 -/
namespace Go.Proofs.YtjhocljhhpkiiaaGreatDoor
set_option linter.unusedSimpArgs false
set_option linter.unusedVariables false
open Go.RowKit
section
variable (n : Nat) (hn : n ≤ 256) (gh gc k : Nat) (hk : k ≤ 1000000000) (h : Zh) [hT : RdZ h (some ⟨1, 0, none⟩) hashT]
variable (p : Option Addr) (out : List Item) (A : Option Addr) (c : Nat) (ho : out.length ≤ 1000000) (i : Int)
theorem its_one (x : Item) : its [x] = x.cells := by unfold its; simp
theorem its_snoc (l : List Item) (x : Item) : its l ++ x.cells = its (l ++ [x]) := by rw [← its_one x, its_app]
include ho
omit hT in
theorem add_nil (ht : TrZ n h .nil p) (B : Option Addr) (N cc : Nat) : Spec Tryz.prog 114 [.pointer (some ⟨gh, 0, none⟩), .slice A out.length c, .pointer p, .slice B N cc, .int .i64 i].toArray [HR gh gc n, .zone false h] [.own (.slice A out.length c) out.length 126 97 (its out), CN gc k] (fun u : Option Addr × Nat => .slice u.1 (out.length + 1) u.2) (fun u => [.own (.slice u.1 (out.length + 1) u.2) (out.length + 1) 126 97 (its (out ++ [⟨0, zB32, zLeaf⟩])), CN gc k]) := by
  refine spec_of Tryz.func114 rfl (n := 72) rfl rfl ?_
  intro W
  refine h_seq ?_
  refine h_reg ?_
  refine h_op (r_assign rfl) ?_
  refine h_nil ?_
  refine q_then ?_
  refine h_seq ?_
  refine h_reg ?_
  refine h_op (r_move rfl) ?_
  refine h_call ((Kind_s n h .nil p).comes) rfl rfl rfl fun _ => ?_
  refine h_op (r_assign rfl) ?_
  refine h_nil ?_
  refine q_then ?_
  refine h_seq ?_
  refine h_block ?_
  refine h_seq ?_
  refine h_reg ?_
  refine h_op (r_move rfl) ?_
  refine h_op (r_bool (r_eql rfl rfl) (show _ = true from rfl)) ?_
  refine h_op (r_assign rfl) ?_
  refine h_nil ?_
  refine q_then ?_
  refine h_condT rfl ?_
  refine h_seq ?_
  refine h_reg ?_
  refine h_op (r_move rfl) ?_
  refine h_op (r_build rfl) ?_
  refine h_opX (x_bsl rfl rfl) fun g20 => ?_
  refine h_opX (x_app rfl rfl (k := 97)) fun ⟨g21, c21⟩ => ?_
  refine h_op (r_assign rfl) ?_
  refine h_nil ?_
  refine q_then ?_
  refine h_ret ?_
  refine q_blockR ?_
  refine q_thenR ?_
  rw [show zItem.cells = Item.cells ⟨0, zB32, zLeaf⟩ from rfl, its_snoc]
  exact h_ret1 rfl rfl fun w s => ⟨(some ⟨g21, 0, none⟩, c21), rfl, (same w s).res (List.Sublist.refl _) (by simp [Fa.wr])⟩
include hn hk
theorem add_sib (t : Tr) (ht : TrZ n h t p) (hk0 : t.kind ≠ 0) (B : Option Addr) (cc : Nat) : Spec Tryz.prog 114 [.pointer (some ⟨gh, 0, none⟩), .slice A out.length c, .pointer p, .slice B 0 cc, .int .i64 i].toArray [HR gh gc n, .zone false h] [.own (.slice A out.length c) out.length 126 97 (its out), CN gc k] (fun u : Option Addr × Nat => .slice u.1 (out.length + 1) u.2) (fun u => [.own (.slice u.1 (out.length + 1) u.2) (out.length + 1) 126 97 (its (out ++ [⟨3, dgT n t, zLeaf⟩])), CN gc k]) := by
  have hD := Digest_s n hn gh gc k (by omega) h t p
  rw [if_neg hk0, Nat.add_zero] at hD
  refine spec_of Tryz.func114 rfl (n := 72) rfl rfl ?_
  intro W
  refine h_seq ?_
  refine h_reg ?_
  refine h_op (r_assign rfl) ?_
  refine h_nil ?_
  refine q_then ?_
  refine h_seq ?_
  refine h_reg ?_
  refine h_op (r_move rfl) ?_
  refine h_call ((Kind_s n h t p).comes) rfl rfl rfl fun _ => ?_
  refine h_op (r_assign rfl) ?_
  refine h_nil ?_
  refine q_then ?_
  refine h_seq ?_
  refine h_block ?_
  refine h_seq ?_
  refine h_reg ?_
  refine h_op (r_move rfl) ?_
  refine h_op (r_bool (r_eql rfl rfl) (decide_eq_false (by omega))) ?_
  refine h_op (r_assign rfl) ?_
  refine h_nil ?_
  refine q_then ?_
  refine h_condF rfl ?_
  refine h_seq ?_
  refine h_reg ?_
  refine h_op (r_move rfl) ?_
  refine h_op (r_len rfl) ?_
  refine h_op (r_bool (r_eql rfl rfl) (show _ = true from rfl)) ?_
  refine h_op (r_assign rfl) ?_
  refine h_nil ?_
  refine q_then ?_
  refine h_condT rfl ?_
  refine h_seq ?_
  refine h_reg ?_
  refine h_op (r_move rfl) ?_
  refine h_op (r_move rfl) ?_
  refine h_op (r_move rfl) ?_
  refine h_call (hD.comes) rfl rfl rfl fun _ => ?_
  refine h_op (r_build rfl) ?_
  refine h_opX (x_bsl rfl rfl) fun g31 => ?_
  refine h_opX (x_app rfl rfl (k := 97)) fun ⟨g32, c32⟩ => ?_
  refine h_op (r_assign rfl) ?_
  refine h_nil ?_
  refine q_then ?_
  refine h_ret ?_
  refine q_blockR ?_
  refine q_thenR ?_
  change H _ _ _ _ _ (.own _ _ _ _ (its out ++ Item.cells ⟨3, dgT n t, zLeaf⟩) :: _) _
  rw [its_snoc]
  exact h_ret1 rfl rfl fun w s => ⟨(some ⟨g32, 0, none⟩, c32), rfl, (same w s).res (List.Sublist.refl _) (by simp [Fa.wr])⟩
omit hn hk hT in
theorem add_leaf (key : B32) (v : List UInt8) (ht : TrZ n h (.leaf key v) p) (B : Option Addr) (N cc : Nat) (hN : N ≠ 0) : Spec Tryz.prog 114 [.pointer (some ⟨gh, 0, none⟩), .slice A out.length c, .pointer p, .slice B N cc, .int .i64 i].toArray [HR gh gc n, .zone false h] [.own (.slice A out.length c) out.length 126 97 (its out), CN gc k] (fun u : Option Addr × Nat => .slice u.1 (out.length + 1) u.2) (fun u => [.own (.slice u.1 (out.length + 1) u.2) (out.length + 1) 126 97 (its (out ++ [⟨1, zB32, leafOf n key v⟩])), CN gc k]) := by
  refine spec_of Tryz.func114 rfl (n := 72) rfl rfl ?_
  intro W
  refine h_seq ?_
  refine h_reg ?_
  refine h_op (r_assign rfl) ?_
  refine h_nil ?_
  refine q_then ?_
  refine h_seq ?_
  refine h_reg ?_
  refine h_op (r_move rfl) ?_
  refine h_call ((Kind_s n h (.leaf key v) p).comes) rfl rfl rfl fun _ => ?_
  refine h_op (r_assign rfl) ?_
  refine h_nil ?_
  refine q_then ?_
  refine h_seq ?_
  refine h_block ?_
  refine h_seq ?_
  refine h_reg ?_
  refine h_op (r_move rfl) ?_
  refine h_op (r_bool (r_eql rfl rfl) (show _ = false from rfl)) ?_
  refine h_op (r_assign rfl) ?_
  refine h_nil ?_
  refine q_then ?_
  refine h_condF rfl ?_
  refine h_seq ?_
  refine h_reg ?_
  refine h_op (r_move rfl) ?_
  refine h_op (r_len rfl) ?_
  refine h_op (r_bool (r_eql rfl rfl) (decide_eq_false (by omega))) ?_
  refine h_op (r_assign rfl) ?_
  refine h_nil ?_
  refine q_then ?_
  refine h_condF rfl ?_
  refine h_seq ?_
  refine h_reg ?_
  refine h_op (r_move rfl) ?_
  refine h_op (r_bool (r_eql rfl rfl) (show _ = true from rfl)) ?_
  refine h_op (r_assign rfl) ?_
  refine h_nil ?_
  refine q_then ?_
  refine h_condT rfl ?_
  refine h_seq ?_
  refine h_reg ?_
  refine h_op (r_move rfl) ?_
  refine h_op (r_move rfl) ?_
  refine h_op (r_move rfl) ?_
  refine h_call ((Leaf_s n h (.leaf key v) p).comes) rfl rfl rfl fun _ => ?_
  refine h_op (r_build rfl) ?_
  refine h_opX (x_bsl rfl rfl) fun g41 => ?_
  refine h_opX (x_app rfl rfl (k := 97)) fun ⟨g42, c42⟩ => ?_
  refine h_op (r_assign rfl) ?_
  refine h_nil ?_
  refine q_then ?_
  refine h_ret ?_
  refine q_blockR ?_
  refine q_thenR ?_
  change H _ _ _ _ _ (.own _ _ _ _ (its out ++ Item.cells ⟨1, zB32, leafOf n key v⟩) :: _) _
  rw [its_snoc]
  exact h_ret1 rfl rfl fun w s => ⟨(some ⟨g42, 0, none⟩, c42), rfl, (same w s).res (List.Sublist.refl _) (by simp [Fa.wr])⟩
end
end Go.Proofs.YtjhocljhhpkiiaaGreatDoor
/- U73 -/
namespace Go.Proofs.YtjhocljhhpkiiaaGreatDoor
set_option linter.unusedSimpArgs false
set_option linter.unusedVariables false
open Go.RowKit
section
variable (n : Nat) (hn : n ≤ 256) (gh gc k : Nat) (hk : k ≤ 1000000000) (h : Zh) [hT : RdZ h (some ⟨1, 0, none⟩) hashT]
/-- what a call of add brings -/
def AddS (t : Tr) : Prop := ∀ (p : Option Addr), TrZ n h t p → ∀ (ks : List B32) (B : Option Addr) (cc d : Nat), RdZ h B (dgs ks) → ks.length ≤ cc → ks.length ≤ 1000000 → ks.Pairwise ltK → AlikeK ks d → d + t.ht ≤ 256 → ∀ (out : List Item) (A : Option Addr) (c : Nat), out.length + t.sz ≤ 1000000 →
  Spec Tryz.prog 114 [.pointer (some ⟨gh, 0, none⟩), .slice A out.length c, .pointer p, .slice B ks.length cc, .int .i64 (d : Int)].toArray [HR gh gc n, .zone false h] [.own (.slice A out.length c) out.length 126 97 (its out), CN gc k] (fun u : Option Addr × Nat => .slice u.1 (out ++ addT n t ks d).length u.2) (fun u => [.own (.slice u.1 (out ++ addT n t ks d).length u.2) (out ++ addT n t ks d).length 126 97 (its (out ++ addT n t ks d)), CN gc k])
omit hT in
theorem add_node (l r : Tr) (ihl : AddS n gh gc k h l) (ihr : AddS n gh gc k h r) (p : Option Addr) (ht : TrZ n h (.node l r) p) (ks : List B32) (B : Option Addr) (cc d m : Nat) (hB : RdZ h B (dgs ks)) (hcc : ks.length ≤ cc) (hks : ks.length ≤ 1000000) (hne : ks.length ≠ 0) (ho : ks.Pairwise ltK) (ha : AlikeK ks d) (hd : d + (Tr.node l r).ht ≤ 256) (hm : m ≤ ks.length) (hp : ∀ j, j < ks.length → bitAt (ks.getD j zB32) d = decide (m ≤ j)) (h1 : ks.take m = keysB ks d false) (h2 : ks.drop m = keysB ks d true) (out : List Item) (A : Option Addr) (c : Nat) (hsz : out.length + (Tr.node l r).sz ≤ 1000000) :
    Spec Tryz.prog 114 [.pointer (some ⟨gh, 0, none⟩), .slice A out.length c, .pointer p, .slice B ks.length cc, .int .i64 (d : Int)].toArray [HR gh gc n, .zone false h] [.own (.slice A out.length c) out.length 126 97 (its out), CN gc k] (fun u : Option Addr × Nat => .slice u.1 (out ++ ⟨2, zB32, zLeaf⟩ :: (addT n l (keysB ks d false) (d + 1) ++ addT n r (keysB ks d true) (d + 1))).length u.2) (fun u => [.own (.slice u.1 (out ++ ⟨2, zB32, zLeaf⟩ :: (addT n l (keysB ks d false) (d + 1) ++ addT n r (keysB ks d true) (d + 1))).length u.2) (out ++ ⟨2, zB32, zLeaf⟩ :: (addT n l (keysB ks d false) (d + 1) ++ addT n r (keysB ks d true) (d + 1))).length 126 97 (its (out ++ ⟨2, zB32, zLeaf⟩ :: (addT n l (keysB ks d false) (d + 1) ++ addT n r (keysB ks d true) (d + 1)))), CN gc k]) := by
  have hht : d + (max l.ht r.ht + 1) ≤ 256 := hd
  have hsz' : out.length + (l.sz + r.sz + 1) ≤ 1000000 := hsz
  have h0 : 0 < (dgs ks).length := by rw [dgs_len]; omega
  obtain ⟨b, o, rfl, -⟩ := hB.at_ 0 _ (List.getElem?_eq_getElem h0)
  have hlm : (ks.take m).length = m := by rw [List.length_take, Nat.min_eq_left hm]
  have hlen1 := addT_len n l (keysB ks d false) (d + 1)
  have hL := ihl (subP h false p) (TrZ.left ht) (ks.take m) (some ⟨b, o, none⟩) m (d + 1) (dgs_takeZ hB m) (by omega) (by omega) (by rw [h1]; exact keysB_ord ho _) (by rw [h1]; exact keysB_alike ha _) (by omega)
  have hR := ihr (subP h true p) (TrZ.right ht) (ks.drop m) (cutA (some ⟨b, o, none⟩) cc m 32) (cc - m) (d + 1) (dgs_dropZ hB hm hcc) (by rw [List.length_drop]; omega) (by rw [List.length_drop]; omega) (by rw [h2]; exact keysB_ord ho _) (by rw [h2]; exact keysB_alike ha _) (by omega)
  rw [hlm] at hL
  rw [List.length_drop] at hR
  rw [h1] at hL
  rw [h2] at hR
  have hS := Split_s ks (some ⟨b, o, none⟩) cc d m (by omega) hks hm hp
  have e3 : (out ++ [⟨2, zB32, zLeaf⟩]) ++ addT n l (keysB ks d false) (d + 1) ++ addT n r (keysB ks d true) (d + 1) = out ++ ⟨2, zB32, zLeaf⟩ :: (addT n l (keysB ks d false) (d + 1) ++ addT n r (keysB ks d true) (d + 1)) := by simp
  rw [← e3]
  have hl1 : out.length + 1 = (out ++ [(⟨2, zB32, zLeaf⟩ : Item)]).length := by simp
  refine spec_of Tryz.func114 rfl (n := 72) rfl rfl ?_
  intro W
  refine h_seq ?_
  refine h_reg ?_
  refine h_op (r_assign rfl) ?_
  refine h_nil ?_
  refine q_then ?_
  refine h_seq ?_
  refine h_reg ?_
  refine h_op (r_move rfl) ?_
  refine h_call ((Kind_s n h (.node l r) p).comes) rfl rfl rfl fun _ => ?_
  refine h_op (r_assign rfl) ?_
  refine h_nil ?_
  refine q_then ?_
  refine h_seq ?_
  refine h_block ?_
  refine h_seq ?_
  refine h_reg ?_
  refine h_op (r_move rfl) ?_
  refine h_op (r_bool (r_eql rfl rfl) (show _ = false from rfl)) ?_
  refine h_op (r_assign rfl) ?_
  refine h_nil ?_
  refine q_then ?_
  refine h_condF rfl ?_
  refine h_seq ?_
  refine h_reg ?_
  refine h_op (r_move rfl) ?_
  refine h_op (r_len rfl) ?_
  refine h_op (r_bool (r_eql rfl rfl) (decide_eq_false (by omega))) ?_
  refine h_op (r_assign rfl) ?_
  refine h_nil ?_
  refine q_then ?_
  refine h_condF rfl ?_
  refine h_seq ?_
  refine h_reg ?_
  refine h_op (r_move rfl) ?_
  refine h_op (r_bool (r_eql rfl rfl) (show _ = false from rfl)) ?_
  refine h_op (r_assign rfl) ?_
  refine h_nil ?_
  refine q_then ?_
  refine h_condF rfl ?_
  refine h_skip ?_
  refine q_block ?_
  refine q_then ?_
  refine h_seq ?_
  refine h_reg ?_
  refine h_op (r_move rfl) ?_
  refine h_op (r_move rfl) ?_
  refine h_call (hS.comes) rfl rfl rfl fun _ => ?_
  refine h_op (r_assign rfl) ?_
  refine h_nil ?_
  refine q_then ?_
  refine h_seq ?_
  refine h_reg ?_
  refine h_op (r_move rfl) ?_
  refine h_op (r_move rfl) ?_
  refine h_op (r_build rfl) ?_
  refine h_opX (x_bsl rfl rfl) fun g49 => ?_
  refine h_opX (x_app rfl rfl (k := 97)) fun ⟨g50, c50⟩ => ?_
  refine h_op (r_assign rfl) ?_
  refine h_nil ?_
  refine q_then ?_
  refine h_seq ?_
  change H _ _ _ _ _ (.own _ _ _ _ (its out ++ Item.cells ⟨2, zB32, zLeaf⟩) :: _) _
  rw [its_snoc, hl1]
  refine ha_start [.zone false h] [] mixed (same) ?_
  refine ha_takeP 0 rfl (r_move rfl) ?_
  refine ha_takeP 1 rfl (r_move rfl) ?_
  refine ha_takeP 2 rfl (r_move rfl) ?_
  refine ha_takeP 4 rfl (r_move rfl) ?_
  refine ha_takeP 5 rfl (r_move rfl) ?_
  refine ha_takeP 6 rfl (r_move rfl) ?_
  refine ha_takeP 7 rfl (r_slHM rfl rfl rfl) ?_
  refine ha_takeP 8 rfl (r_move rfl) ?_
  refine ha_takeP 9 rfl (r_add rfl rfl) ?_
  refine ha_one 3 ?_
  refine ho_C 3 rfl ((Child_s n h (.node l r) p 0 false (by simp)).comes) rfl rfl rfl (fun xx => same) fun _ => ?_
  refine ha_one 10 ?_
  refine ho_C 10 rfl ((hL (out ++ [⟨2, zB32, zLeaf⟩]) (some ⟨g50, 0, none⟩) c50 (by rw [← hl1]; omega)).comes) rfl rfl rfl (fun xx => same) fun ⟨A61, c61⟩ => ?_
  refine ha_takeP 11 rfl (r_assign rfl) ?_
  refine ha_done (by kernel_rfl) ?_
  refine q_then ?_
  refine h_seq ?_
  refine ha_start [.zone false h] [] mixed (same) ?_
  refine ha_takeP 0 rfl (r_move rfl) ?_
  refine ha_takeP 1 rfl (r_move rfl) ?_
  refine ha_takeP 2 rfl (r_move rfl) ?_
  refine ha_takeP 4 rfl (r_move rfl) ?_
  refine ha_takeP 5 rfl (r_move rfl) ?_
  refine ha_takeP 6 rfl (r_slL rfl rfl) ?_
  refine ha_takeP 7 rfl (r_move rfl) ?_
  refine ha_takeP 8 rfl (r_add rfl rfl) ?_
  refine ha_one 3 ?_
  refine ho_C 3 rfl ((Child_s n h (.node l r) p 1 true (by simp)).comes) rfl rfl rfl (fun xx => same) fun _ => ?_
  refine ha_one 9 ?_
  refine ho_C 9 rfl ((hR (out ++ [⟨2, zB32, zLeaf⟩] ++ addT n l (keysB ks d false) (d + 1)) A61 c61 (by rw [List.length_append, ← hl1]; omega)).comes) rfl rfl rfl (fun xx => same) fun ⟨A71, c71⟩ => ?_
  refine ha_takeP 10 rfl (r_assign rfl) ?_
  refine ha_done (by kernel_rfl) ?_
  refine q_then ?_
  refine h_ret ?_
  exact h_ret1 rfl rfl fun w s => ⟨(A71, c71), rfl, (same w s).res (List.Sublist.refl _) (by simp [Fa.wr])⟩
include hn hk
theorem add_s : ∀ t : Tr, AddS n gh gc k h t
  | .nil => fun p ht ks B cc d _ _ _ _ _ _ out A c ho => by
    have h1 : addT n .nil ks d = [⟨0, zB32, zLeaf⟩] := by unfold addT; rfl
    rw [h1, List.length_append]
    exact add_nil n gh gc k h p out A c (by omega) _ ht B ks.length cc
  | .leaf key v => fun p ht ks B cc d _ _ _ _ _ _ out A c ho => by
    cases ks with
    | nil =>
      have h1 : addT n (.leaf key v) [] d = [⟨3, dgT n (.leaf key v), zLeaf⟩] := by unfold addT; rfl
      rw [h1, List.length_append]
      exact add_sib n hn gh gc k hk h p out A c (by omega) _ (.leaf key v) ht (by simp [Tr.kind]) B cc
    | cons x ks =>
      have h1 : addT n (.leaf key v) (x :: ks) d = [⟨1, zB32, leafOf n key v⟩] := by unfold addT; rfl
      rw [h1, List.length_append]
      exact add_leaf n gh gc k h p out A c (by omega) _ key v ht B (x :: ks).length cc (by simp)
  | .node l r => fun p ht ks B cc d hB hcc hks hord hal hd out A c ho => by
    cases ks with
    | nil =>
      have h1 : addT n (.node l r) [] d = [⟨3, dgT n (.node l r), zLeaf⟩] := by unfold addT; rfl
      rw [h1, List.length_append]
      exact add_sib n hn gh gc k hk h p out A c (by omega) _ (.node l r) ht (by simp [Tr.kind]) B cc
    | cons x ks =>
      obtain ⟨m, m1, m2, m3, m4⟩ := split_at hord hal
      have h1 : addT n (.node l r) (x :: ks) d = ⟨2, zB32, zLeaf⟩ :: (addT n l (keysB (x :: ks) d false) (d + 1) ++ addT n r (keysB (x :: ks) d true) (d + 1)) := by conv => lhs; unfold addT
      rw [h1]
      exact add_node n gh gc k h l r (add_s l) (add_s r) p ht (x :: ks) B cc d m hB hcc hks (by simp) hord hal hd m1 m2 m3 m4 out A c ho
end
end Go.Proofs.YtjhocljhhpkiiaaGreatDoor
/- U74 -/
namespace Go.Proofs.YtjhocljhhpkiiaaGreatDoor
set_option linter.unusedSimpArgs false
set_option linter.unusedVariables false
open Go.RowKit
section
variable (h : Zh) (ks : List B32) (B : Option Addr) (cc : Nat)
theorem mProve_s (n : Nat) (hn : n ≤ 256) (gh gc k : Nat) (hk : k ≤ 1000000000) [hT : RdZ h (some ⟨1, 0, none⟩) hashT] (t : Tr) (p : Option Addr) (ht : TrZ n h t p) [hB : RdZ h B (dgs ks)] (hcc : ks.length ≤ cc) (he : keysE ks = 0) (hht : t.ht ≤ 256) (hsz : t.sz ≤ 1000000) : Spec Tryz.prog 61 [.pointer (some ⟨gh, 0, none⟩), .pointer p, .slice B ks.length cc].toArray [HR gh gc n, .zone false h] [CN gc k] (fun u : Option Addr × Nat => .tuple #[.slice u.1 (addT n t ks 0).length u.2, .int .i64 0]) (fun u => [.own (.slice u.1 (addT n t ks 0).length u.2) (addT n t ks 0).length 126 97 (its (addT n t ks 0)), CN gc k]) := by
  obtain ⟨h1, h2, h3⟩ := keysE_ok he
  have hK := mKeys_s ks B cc (by omega)
  rw [he] at hK
  have hA := add_s n hn gh gc k hk h t p ht ks B cc 0 hB hcc (by omega) h3 (fun _ _ _ _ i hi => absurd hi (by omega)) (by omega) [] none 0 (by simp; omega)
  simp only [List.nil_append, List.length_nil] at hA
  refine spec_of Tryz.func61 rfl (n := 18) rfl rfl ?_
  intro W
  refine h_seq ?_
  refine h_reg ?_
  refine h_op (r_assign rfl) ?_
  refine h_op (r_assign rfl) ?_
  refine h_nil ?_
  refine q_then ?_
  refine h_seq ?_
  refine h_seq ?_
  refine h_reg ?_
  refine h_op (r_move rfl) ?_
  refine h_call (hK.comes) rfl rfl rfl fun _ => ?_
  refine h_op (r_assign rfl) ?_
  refine h_nil ?_
  refine q_then ?_
  refine h_seq ?_
  refine h_reg ?_
  refine h_op (r_move rfl) ?_
  refine h_op (r_neq rfl rfl) ?_
  refine h_nil ?_
  refine q_then ?_
  refine h_no rfl ((fun h => h rfl)) ?_
  refine h_skip ?_
  refine q_then ?_
  refine h_seq ?_
  refine h_reg ?_
  refine h_op (r_move rfl) ?_
  refine h_op (r_move rfl) ?_
  refine h_op (r_move rfl) ?_
  refine h_nil_own 126 97 (xs := its []) rfl ?_
  refine h_call (hA.comes) rfl rfl rfl fun ⟨A17, c17⟩ => ?_
  refine h_op (r_assign rfl) ?_
  refine h_op (r_assign rfl) ?_
  refine h_nil ?_
  refine q_then ?_
  refine h_ret ?_
  exact h_ret2 rfl rfl rfl fun w s => ⟨(A17, c17), rfl, (same w s).res (List.Sublist.refl _) (by simp [Fa.wr])⟩
end
end Go.Proofs.YtjhocljhhpkiiaaGreatDoor
/- U79 -/
namespace Go.Proofs.YtjhocljhhpkiiaaGreatDoor
set_option linter.unusedSimpArgs false
set_option linter.unusedVariables false
open Go.RowKit
theorem itemFields' : ∃ f1 f2 f3 : Field, Tryz.prog.underlying 126 = some (.struct #[f1, f2, f3]) ∧ (f1.name == "_") = false ∧ (f2.name == "_") = false ∧ (f3.name == "_") = false ∧ f1.type = 3 ∧ f2.type = 42 ∧ f3.type = 51 ∧ f1.offset = 0 ∧ f2.offset = 1 ∧ f3.offset = 33 :=
  ⟨_, _, _, Tryz.underlying126, by decide, by decide, by decide, rfl, rfl, rfl, rfl, rfl, rfl⟩
theorem eqItem' {w : World} (d : Nat) (x y : Item) : (Op.equalIn (d + 4) 126 (.agg x.cells.toArray) (.agg y.cells.toArray)).run Tryz.prog w = .ok (decide (x = y)) w := by
  obtain ⟨f1, f2, f3, hT, m1, m2, m3, t1, t2, t3, o1, o2, o3⟩ := itemFields'
  exact eq_Item d hT Tryz.stoodInHeld126 m1 m2 m3 t1 t2 t3 o1 o2 o3 Tryz.underlying3 Tryz.underlying42 Tryz.underlying5 (by kernel_rfl) (by kernel_rfl) (eqLeaf' d) Tryz.underlying51 rfl (by kernel_rfl) x y
instance (x y : Item) : TEq Tryz.prog 126 x.cells y.cells (decide (x = y)) := ⟨fun w d => eqItem' (d + 2) x y, Tryz.eqGuardType126⟩
end Go.Proofs.YtjhocljhhpkiiaaGreatDoor
/- U47 -/
namespace Go.Proofs.YtjhocljhhpkiiaaGreatDoor
set_option linter.unusedSimpArgs false
set_option linter.unusedVariables false
open Go.RowKit
end Go.Proofs.YtjhocljhhpkiiaaGreatDoor
/- U81 -/
namespace Go.Proofs.YtjhocljhhpkiiaaGreatDoor
set_option linter.unusedSimpArgs false
set_option linter.unusedVariables false
open Go.RowKit
def L1 : List En := [⟨⟨zB32, ⟨none, 0, 0⟩⟩, []⟩]
theorem rd1_pre {L : List Fa} {A : Option Addr} {cs ds : List Value} (h : Rd1 L (.rd A (cs ++ ds))) : Rd1 L (.rd A cs) := ⟨fun hw => by
  obtain ⟨h1, h2, h3⟩ := h.ok hw
  refine ⟨rfl, fun j v hv => h2 j v ?_, fun k hk => h3 k ⟨fun e => hk.1 (List.append_eq_nil_iff.1 e).1, hk.2⟩⟩
  rw [List.getElem?_append_left (List.getElem?_eq_some_iff.1 hv).1]
  exact hv⟩
instance (L : List Fa) (A : Option Addr) [h : Rd1 L (.rd A (ents L15))] : Rd1 L (.rd A (ents L1)) := rd1_pre (ds := ents (L15.drop 1)) h
end Go.Proofs.YtjhocljhhpkiiaaGreatDoor
/- U68 -/
namespace Go.Proofs.YtjhocljhhpkiiaaGreatDoor
set_option linter.unusedSimpArgs false
set_option linter.unusedVariables false
open Go.RowKit
end Go.Proofs.YtjhocljhhpkiiaaGreatDoor
/- U82 -/
namespace Go.Proofs.YtjhocljhhpkiiaaGreatDoor
set_option linter.unusedSimpArgs false
set_option linter.unusedVariables false
open Go.RowKit
theorem checkM_ok {l : List Item} {t : Sub} (h : parseM l = .ok t) : checkM l = 0 := by unfold checkM; rw [h]
theorem checkM_bad {l : List Item} {e : Int} (h : parseM l = .error e) : checkM l = e := by unfold checkM; rw [h]
theorem parse_err {l : List Item} {e : Int} (h : parseM l = .error e) : e ≠ 0 := by
  unfold parseM at h
  split at h
  · split at h
    · split at h
      · cases h
      · injection h with h; omega
    · injection h with h; omega
  · injection h with h; omega
end Go.Proofs.YtjhocljhhpkiiaaGreatDoor
/- U124 -/
namespace Go.Proofs.YtjhocljhhpkiiaaGreatDoor
set_option linter.unusedSimpArgs false
set_option linter.unusedVariables false
open Go.RowKit
def decLen (bb : List UInt8) : Nat := match decM bb with
  | .ok l => l.length
  | .error _ => 0
theorem decM_len {bb : List UInt8} {l : List Item} (h : decM bb = .ok l) : l.length ≤ bb.length := by
  unfold decM at h
  split at h
  · cases h
  · split at h
    · cases h
    · split at h
      · cases h
      · rcases hm : itsD (bb.drop 6) with _ | l'
        · rw [hm] at h; cases h
        · rw [hm] at h
          dsimp only at h
          split at h
          · injection h with h
            subst h
            have h1 := itsD_pos hm
            have h2 := lenI_cnt l'
            rw [List.length_drop] at h1
            omega
          · cases h
theorem as_nil (t : Nat) : Spec Tryz.prog 104 [.nilIface, .iface 176 (.pointer (some ⟨t, 0, none⟩))].toArray [] [] (fun _ : Unit => .bool false) (fun _ => []) := by
  refine spec_of Tryz.func104 rfl (n := 42) rfl rfl ?_
  intro W
  refine h_seq ?_
  refine h_reg ?_
  refine h_op (r_assign rfl) ?_
  refine h_nil ?_
  refine q_then ?_
  refine h_seq ?_
  refine h_seq ?_
  refine h_reg ?_
  refine h_op (r_move rfl) ?_
  refine h_op (r_nilnil rfl) ?_
  refine h_nil ?_
  refine q_then ?_
  refine h_condT rfl ?_
  refine h_seq ?_
  refine h_reg ?_
  refine h_op (r_assign rfl) ?_
  refine h_nil ?_
  refine q_then ?_
  refine h_ret ?_
  refine q_thenR ?_
  exact h_ret1 rfl rfl fun w s => ⟨(), rfl, s.res (List.nil_sublist _) (by simp)⟩
section
variable (n : Nat) (hn : n ≤ 256) (h : Zh) [hT : RdZ h (some ⟨1, 0, none⟩) hashT] (gh gc : Nat) (l : List CB) (A : Option Addr) (c : Nat) [hr : RdZ h A (cbs l)] (hz : ClsZ h l) (hvl : ∀ x ∈ l, x.vb.length ≤ 100000000) (hll : l.length ≤ 100000)
include hn hz hvl hll
theorem mVerify_s (k : Nat) (hk : k ≤ 100000000) (root b : Sl) (rb bb : List UInt8) [hRt : SlZ h root rb] [hB : SlZ h b bb] (hbl : bb.length ≤ 900000) : Spec Tryz.prog 50 [.pointer (some ⟨gh, 0, none⟩), .slice root.A root.n root.c, .slice A l.length c, .slice b.A b.n b.c].toArray [HR gh gc n] [.zone true h, CN gc k] (fun u : {u : Nat × Zh × Nat // LeZ h u.2.1 ∧ u.2.2 ≤ k + l.length + decLen bb} => errV (mverR n root rb l bb) u.1.1) (fun u => .zone true u.1.2.1 :: CN gc u.1.2.2 :: errB (mverR n root rb l bb) u.1.1) := by
  have hrn := hRt.len
  have hbn := hB.len
  have hbc := hB.cap
  have hRr : RdZ h root.A (bc rb) := hRt.rd
  have hBr : RdZ h b.A (bc bb) := hB.rd
  obtain ⟨rA, rn, rc⟩ := root
  obtain ⟨bA, bn, bc'⟩ := b
  dsimp only at hrn hbn hbc hRr hBr ⊢
  subst hrn hbn
  obtain ⟨r, hR⟩ : ∃ r, mverR n ⟨rA, rb.length, rc⟩ rb l bb = r := ⟨_, rfl⟩
  rw [hR]
  unfold mverR at hR
  dsimp only at hR
  have hC := mClaims_s h l A c (by omega) hz _ rfl
  refine spec_of Tryz.func50 rfl (n := 42) rfl rfl ?_
  intro W
  by_cases h32 : rb.length = 32
  · rw [if_pos h32] at hR
    refine h_seq ?_
    refine h_reg ?_
    refine h_op (r_assign rfl) ?_
    refine h_nil ?_
    refine q_then ?_
    refine h_seq ?_
    refine h_seq ?_
    refine h_reg ?_
    refine h_op (r_move rfl) ?_
    refine h_op (r_len rfl) ?_
    refine h_op (r_neq rfl rfl) ?_
    refine h_nil ?_
    refine q_then ?_
    refine h_no rfl ((fun hh => hh (show ((rb.length : Nat) : Int) = 32 by omega))) ?_
    refine h_skip ?_
    refine q_then ?_
    refine h_seq ?_
    refine h_reg ?_
    refine h_op (r_move rfl) ?_
    obtain ⟨r1, hr1⟩ : ∃ r1, claimsR l = r1 := ⟨_, rfl⟩
    rw [hr1] at hR hC
    rcases r1 with _ | ⟨i, e⟩
    · replace hC : Spec Tryz.prog 56 [.slice A l.length c].toArray [.zone false h] [] (fun g : Nat => .tuple #[.slice (some ⟨g, 0, none⟩) l.length l.length, .nilIface]) (fun g => [.own (.slice (some ⟨g, 0, none⟩) l.length l.length) l.length 35 32 (dgs (keysC l))]) := hC
      refine h_call (hC.comes) rfl rfl rfl fun g19 => ?_
      refine h_op (r_move rfl) ?_
      refine h_op (r_extract rfl rfl) ?_
      refine h_op (r_extract rfl rfl) ?_
      refine h_op (r_assign rfl) ?_
      refine h_op (r_assign rfl) ?_
      refine h_nil ?_
      refine q_then ?_
      refine h_seq ?_
      refine h_seq ?_
      refine h_reg ?_
      refine h_op (r_move rfl) ?_
      refine h_op (r_nilnn rfl) ?_
      refine h_nil ?_
      refine q_then ?_
      refine h_condF rfl ?_
      refine h_freezeO (.slice (some ⟨g19, 0, none⟩) l.length l.length) fun h2 B2 c2 e2 hle2 hlen2 hnil2 hz2 hr2 => ?_
      injection e2 with e2 _ e3
      subst e2 e3
      have hB2 : RdZ h2 bA (bc bb) := hBr.mono hz2
      have hD := mDecode_s h2 bb hbl bA bc' hbc
      rcases hd : decM bb with e | its0
      · have hne := decM_err hd
        rw [hd] at hR
        obtain rfl : some (0, e) = r := hR
        rw [hd] at hD
        replace hD : Spec Tryz.prog 103 [.slice bA bb.length bc'].toArray [] [.zone true h2] (fun u : {u : Zh × Option Addr × Nat // LeZ h2 u.1 ∧ ∀ l, Except.error e = .ok l → RdZ u.1 u.2.1 (its l) ∧ l.length ≤ u.2.2} => .tuple #[.slice none 0 0, .int .i64 e]) (fun u => [.zone true u.1.1]) := hD
        refine h_skip ?_
        refine q_then ?_
        refine h_seq ?_
        refine h_reg ?_
        refine h_op (r_move rfl) ?_
        refine h_call (hD.comes) rfl rfl rfl fun ⟨⟨h3, A3, c3⟩, hle3, _⟩ => ?_
        dsimp only at hle3 ⊢
        refine h_op (r_move rfl) ?_
        refine h_op (r_extract rfl rfl) ?_
        refine h_op (r_extract rfl rfl) ?_
        refine h_op (r_assign rfl) ?_
        refine h_op (r_assign rfl) ?_
        refine h_nil ?_
        refine q_then ?_
        refine h_seq ?_
        refine h_seq ?_
        refine h_reg ?_
        refine h_op (r_move rfl) ?_
        refine h_op (r_neq rfl rfl) ?_
        refine h_nil ?_
        refine q_then ?_
        refine h_yes rfl (hne) ?_
        refine h_seq ?_
        refine h_reg ?_
        refine h_op (r_move rfl) ?_
        refine h_call ((mFail_s 0 e hne).comes) rfl rfl rfl fun g33 => ?_
        refine h_op (r_assign rfl) ?_
        refine h_nil ?_
        refine q_then ?_
        refine h_ret ?_
        refine q_thenR ?_
        exact h_ret1 rfl rfl fun w s => ⟨⟨(g33, h3, k), hz2.trans hle3, by dsimp only; omega⟩, rfl, (same (L' := [.zone true h3, CN gc k, .blk g33 (fltC batchB 0 e) 178]) w s).res (List.Sublist.refl _) (by simp [Fa.wr, errB])⟩
      · have hil := decM_len hd
        obtain ⟨t, hp⟩ := checkM_parse (decM_ok hd)
        have hdl : decLen bb = its0.length := by unfold decLen; rw [hd]
        rw [hd] at hR
        dsimp only at hR
        rw [hp] at hR
        replace hR : showR n (keyOf rb) l t = r := hR
        rw [hd] at hD
        replace hD : Spec Tryz.prog 103 [.slice bA bb.length bc'].toArray [] [.zone true h2] (fun u : {u : Zh × Option Addr × Nat // LeZ h2 u.1 ∧ ∀ l, Except.ok its0 = .ok l → RdZ u.1 u.2.1 (its l) ∧ l.length ≤ u.2.2} => .tuple #[.slice u.1.2.1 its0.length u.1.2.2, .int .i64 0]) (fun u => [.zone true u.1.1]) := hD
        refine h_skip ?_
        refine q_then ?_
        refine h_seq ?_
        refine h_reg ?_
        refine h_op (r_move rfl) ?_
        refine h_call (hD.comes) rfl rfl rfl fun ⟨⟨h3, A3, c3⟩, hle3, h3i⟩ => ?_
        dsimp only at hle3 h3i ⊢
        obtain ⟨h3r, h3c⟩ := h3i its0 rfl
        have hle := hz2.trans hle3
        have hT3 : RdZ h3 (some ⟨1, 0, none⟩) hashT := hT.mono hle
        have hr3 : RdZ h3 A (cbs l) := hr.mono hle
        have hK3 : RdZ h3 (some ⟨g19, 0, none⟩) (dgs (keysC l)) := hr2.mono hle3
        have hRr3 : RdZ h3 rA (keyOf rb).cells := by rw [keyOf_cells h32]; exact hRr.mono hle
        have hS := show_s n hn h3 gh gc l A c (hz.mono hle) hvl hll (some ⟨g19, 0, none⟩) l.length (Nat.le_refl _) k hk (keyOf rb) hr1 its0 A3 c3 h3c (by omega) t hp
        rw [hR] at hS
        obtain ⟨bR, oR, rfl, -⟩ := hRr3.at_ 0 _ (List.getElem?_eq_getElem (by rw [B32.cells_length]; decide))
        refine h_op (r_move rfl) ?_
        refine h_op (r_extract rfl rfl) ?_
        refine h_op (r_extract rfl rfl) ?_
        refine h_op (r_assign rfl) ?_
        refine h_op (r_assign rfl) ?_
        refine h_nil ?_
        refine q_then ?_
        refine h_seq ?_
        refine h_seq ?_
        refine h_reg ?_
        refine h_op (r_move rfl) ?_
        refine h_op (r_neq rfl rfl) ?_
        refine h_nil ?_
        refine q_then ?_
        refine h_no rfl ((fun h => h rfl)) ?_
        refine h_skip ?_
        refine q_then ?_
        refine h_seq ?_
        refine h_reg ?_
        refine h_op (r_move rfl) ?_
        refine h_op (r_move rfl) ?_
        refine h_op (r_arr rfl (hm := show 32 ≤ rb.length by omega)) ?_
        refine h_op (r_loadr rfl) ?_
        refine h_op (r_move rfl) ?_
        refine h_op (r_move rfl) ?_
        refine h_op (r_move rfl) ?_
        refine h_call (hS.comes) rfl rfl rfl fun ⟨⟨g41, h4, k4⟩, hle4, hk4⟩ => ?_
        dsimp only at hle4 hk4 ⊢
        rcases r with _ | ⟨i9, e9⟩
        · change H _ _ _ _ _ (.zone true h4 :: CN gc k4 :: _) _
          refine h_op (r_assign rfl) ?_
          refine h_nil ?_
          refine q_then ?_
          refine h_ret ?_
          exact h_ret1 rfl rfl fun w s => ⟨⟨(0, h4, k4), hle.trans hle4, by dsimp only; omega⟩, rfl, (same (L' := [.zone true h4, CN gc k4]) w s).res (List.Sublist.refl _) (by simp [Fa.wr, errB])⟩
        · change H _ _ _ _ _ (.zone true h4 :: CN gc k4 :: .blk g41 (fltC batchB (i9 : Int) e9) _ :: _) _
          refine h_op (r_assign rfl) ?_
          refine h_nil ?_
          refine q_then ?_
          refine h_ret ?_
          exact h_ret1 rfl rfl fun w s => ⟨⟨(g41, h4, k4), hle.trans hle4, by dsimp only; omega⟩, rfl, (same (L' := [.zone true h4, CN gc k4, .blk g41 (fltC batchB (i9 : Int) e9) 178]) w s).res (List.Sublist.refl _) (by simp [Fa.wr, errB])⟩
    · replace hC : Spec Tryz.prog 56 [.slice A l.length c].toArray [.zone false h] [] (fun g : Nat => .tuple #[.slice none 0 0, .iface 174 (.pointer (some ⟨g, 0, none⟩))]) (fun g => [.blk g (fltC batchB (i : Int) e) 178]) := hC
      obtain rfl : some (i, e) = r := hR
      refine h_call (hC.comes) rfl rfl rfl fun g19 => ?_
      refine h_op (r_move rfl) ?_
      refine h_op (r_extract rfl rfl) ?_
      refine h_op (r_extract rfl rfl) ?_
      refine h_op (r_assign rfl) ?_
      refine h_op (r_assign rfl) ?_
      refine h_nil ?_
      refine q_then ?_
      refine h_seq ?_
      refine h_seq ?_
      refine h_reg ?_
      refine h_op (r_move rfl) ?_
      refine h_op (r_ifnn rfl) ?_
      refine h_nil ?_
      refine q_then ?_
      refine h_condT rfl ?_
      refine h_seq ?_
      refine h_reg ?_
      refine h_op (r_move rfl) ?_
      refine h_op (r_assign rfl) ?_
      refine h_nil ?_
      refine q_then ?_
      refine h_ret ?_
      refine q_thenR ?_
      exact h_ret1 rfl rfl fun w s => ⟨⟨(g19, h, k), LeZ.refl h, by dsimp only; omega⟩, rfl, (same (L' := [.zone true h, CN gc k, .blk g19 (fltC batchB (i : Int) e) 178]) w s).res (List.Sublist.refl _) (by simp [Fa.wr, errB])⟩
  · rw [if_neg h32] at hR
    subst hR
    refine h_seq ?_
    refine h_reg ?_
    refine h_op (r_assign rfl) ?_
    refine h_nil ?_
    refine q_then ?_
    refine h_seq ?_
    refine h_seq ?_
    refine h_reg ?_
    refine h_op (r_move rfl) ?_
    refine h_op (r_len rfl) ?_
    refine h_op (r_neq rfl rfl) ?_
    refine h_nil ?_
    refine q_then ?_
    refine h_yes rfl ((show ¬ ((rb.length : Nat) : Int) = 32 by omega)) ?_
    refine h_seq ?_
    refine h_reg ?_
    refine h_call ((mFail_s 0 4 (by decide)).comes) rfl rfl rfl fun g16 => ?_
    refine h_op (r_assign rfl) ?_
    refine h_nil ?_
    refine q_then ?_
    refine h_ret ?_
    refine q_thenR ?_
    exact h_ret1 rfl rfl fun w s => ⟨⟨(g16, h, k), LeZ.refl h, by dsimp only; omega⟩, rfl, (same (L' := [.zone true h, CN gc k, .blk g16 (fltC batchB 0 4) 178]) w s).res (List.Sublist.refl _) (by simp [Fa.wr, errB])⟩
theorem mvCheck_s [hE : RdZ h (some ⟨0, 0, none⟩) [rty 90]] (k : Nat) (hk : k ≤ 100000000) (root b : Sl) (rb bb : List UInt8) [hRt : SlZ h root rb] [hB : SlZ h b bb] (hbl : bb.length ≤ 900000) : Spec Tryz.prog 54 [.pointer (some ⟨gh, 0, none⟩), .slice root.A root.n root.c, .slice A l.length c, .slice b.A b.n b.c].toArray [HR gh gc n] [.zone true h, CN gc k] (fun u : {u : Zh × Nat // LeZ h u.1 ∧ u.2 ≤ k + l.length + decLen bb} => .int .i64 (errE (mverR n root rb l bb))) (fun u => [.zone true u.1.1, CN gc u.1.2]) := by
  have hV := mVerify_s n hn h gh gc l A c hz hvl hll k hk root b rb bb hbl
  generalize mverR n root rb l bb = r at hV ⊢
  rcases r with _ | ⟨i, e⟩
  · replace hV : Spec Tryz.prog 50 [.pointer (some ⟨gh, 0, none⟩), .slice root.A root.n root.c, .slice A l.length c, .slice b.A b.n b.c].toArray [HR gh gc n] [.zone true h, CN gc k] (fun u : {u : Nat × Zh × Nat // LeZ h u.2.1 ∧ u.2.2 ≤ k + l.length + decLen bb} => .nilIface) (fun u => [.zone true u.1.2.1, CN gc u.1.2.2]) := hV
    refine spec_of Tryz.func54 rfl (n := 21) rfl rfl ?_
    intro W
    refine h_seq ?_
    refine h_reg ?_
    refine h_op (r_assign rfl) ?_
    refine h_nil ?_
    refine q_then ?_
    refine h_seq ?_
    refine h_reg ?_
    refine h_opX (x_alloc) fun g9 => ?_
    refine h_nil ?_
    refine q_then ?_
    refine h_seq ?_
    refine h_seq ?_
    refine h_reg ?_
    refine h_op (r_move rfl) ?_
    refine h_op (r_move rfl) ?_
    refine h_op (r_move rfl) ?_
    refine h_op (r_move rfl) ?_
    refine h_call (hV.comes) rfl rfl rfl fun ⟨⟨g14, z, k'⟩, hz', hk'⟩ => ?_
    dsimp only at hz' hk' ⊢
    refine h_op (r_mkI rfl) ?_
    refine h_call ((as_nil g9).comes) rfl rfl rfl fun _ => ?_
    refine h_op (r_not rfl) ?_
    refine h_nil ?_
    refine q_then ?_
    refine h_condT rfl ?_
    refine h_seq ?_
    refine h_reg ?_
    refine h_op (r_assign rfl) ?_
    refine h_nil ?_
    refine q_then ?_
    refine h_ret ?_
    refine q_thenR ?_
    exact h_ret1 rfl rfl fun w s => ⟨⟨(z, k'), hz', hk'⟩, rfl, (same (L' := [.zone true z, CN gc k']) w s).res (List.Sublist.refl _) (by simp [Fa.wr])⟩
  · replace hV : Spec Tryz.prog 50 [.pointer (some ⟨gh, 0, none⟩), .slice root.A root.n root.c, .slice A l.length c, .slice b.A b.n b.c].toArray [HR gh gc n] [.zone true h, CN gc k] (fun u : {u : Nat × Zh × Nat // LeZ h u.2.1 ∧ u.2.2 ≤ k + l.length + decLen bb} => .iface 174 (.pointer (some ⟨u.1.1, 0, none⟩))) (fun u => [.zone true u.1.2.1, CN gc u.1.2.2, .blk u.1.1 (fltC batchB (i : Int) e) 178]) := hV
    refine spec_of Tryz.func54 rfl (n := 21) rfl rfl ?_
    intro W
    refine h_seq ?_
    refine h_reg ?_
    refine h_op (r_assign rfl) ?_
    refine h_nil ?_
    refine q_then ?_
    refine h_seq ?_
    refine h_reg ?_
    refine h_opX (x_alloc) fun g9 => ?_
    refine h_nil ?_
    refine q_then ?_
    refine h_seq ?_
    refine h_seq ?_
    refine h_reg ?_
    refine h_op (r_move rfl) ?_
    refine h_op (r_move rfl) ?_
    refine h_op (r_move rfl) ?_
    refine h_op (r_move rfl) ?_
    refine h_call (hV.comes) rfl rfl rfl fun ⟨⟨g14, z, k'⟩, hz', hk'⟩ => ?_
    dsimp only at hz' hk' ⊢
    have hEz : RdZ z (some ⟨0, 0, none⟩) [rty 90] := hE.mono hz'
    refine h_op (r_mkI rfl) ?_
    refine h_call ((as_s1 g14 g9).comes) rfl rfl rfl fun _ => ?_
    refine h_op (r_not rfl) ?_
    refine h_nil ?_
    refine q_then ?_
    refine h_condF rfl ?_
    refine h_skip ?_
    refine q_then ?_
    refine h_seq ?_
    refine h_reg ?_
    refine h_op (r_loadc rfl) ?_
    refine h_op (r_mkI rfl) ?_
    refine h_call ((Code_s g14 batchB (i : Int) e).comes) rfl rfl rfl fun _ => ?_
    refine h_op (r_assign rfl) ?_
    refine h_nil ?_
    refine q_then ?_
    refine h_ret ?_
    exact h_ret1 rfl rfl fun w s => ⟨⟨(z, k'), hz', hk'⟩, rfl, (same (L' := [.zone true z, CN gc k']) w s).res (List.Sublist.refl _) (by simp [Fa.wr])⟩
/-- whether decoded items show claims -/
def accM (n : Nat) (root : B32) (l : List CB) (its0 : List Item) : Bool := decide (claimsR l = none) && match parseM its0 with
  | .ok t => decide (showR n root l t = none)
  | .error _ => false
theorem mvAccepts_s (k : Nat) (hk : k ≤ 100000000) (root : B32) (its0 : List Item) (I : Option Addr) (ic : Nat) [hI : RdZ h I (its its0)] (hic : its0.length ≤ ic) (hil : its0.length ≤ 1000000) : Spec Tryz.prog 46 [.pointer (some ⟨gh, 0, none⟩), .agg root.cells.toArray, .slice A l.length c, .slice I its0.length ic].toArray [HR gh gc n] [.zone true h, CN gc k] (fun u : {u : Zh × Nat // LeZ h u.1 ∧ u.2 ≤ k + l.length + its0.length} => .bool (accM n root l its0)) (fun u => [.zone true u.1.1, CN gc u.1.2]) := by
  have hC := mClaims_s h l A c (by omega) hz _ rfl
  refine spec_of Tryz.func46 rfl (n := 32) rfl rfl ?_
  intro W
  refine h_seq ?_
  refine h_reg ?_
  refine h_opX (x_box rfl) fun g5 => ?_
  refine h_op (r_assign rfl) ?_
  refine h_nil ?_
  refine q_then ?_
  refine h_seq ?_
  refine h_reg ?_
  refine h_op (r_move rfl) ?_
  obtain ⟨r1, hr1⟩ : ∃ r1, claimsR l = r1 := ⟨_, rfl⟩
  rw [hr1] at hC
  rcases r1 with _ | ⟨i, e⟩
  · replace hC : Spec Tryz.prog 56 [.slice A l.length c].toArray [.zone false h] [] (fun g : Nat => .tuple #[.slice (some ⟨g, 0, none⟩) l.length l.length, .nilIface]) (fun g => [.own (.slice (some ⟨g, 0, none⟩) l.length l.length) l.length 35 32 (dgs (keysC l))]) := hC
    refine h_call (hC.comes) rfl rfl rfl fun g13 => ?_
    refine h_freezeO (.slice (some ⟨g13, 0, none⟩) l.length l.length) fun h2 B2 c2 e2 hle2 hlen2 hnil2 hz2 hr2 => ?_
    injection e2 with e2 _ e3
    subst e2 e3
    have hT2 : RdZ h2 (some ⟨1, 0, none⟩) hashT := hT.mono hz2
    have hr2' : RdZ h2 A (cbs l) := hr.mono hz2
    have hI2 : RdZ h2 I (its its0) := hI.mono hz2
    have hM := mCheck_s h2 its0 I ic hic hil
    rcases hp : parseM its0 with e | t
    · have hne := parse_err hp
      rw [checkM_bad hp] at hM
      rw [show accM n root l its0 = false by unfold accM; rw [hp]; exact Bool.and_false _]
      refine h_op (r_move rfl) ?_
      refine h_op (r_extract rfl rfl) ?_
      refine h_op (r_extract rfl rfl) ?_
      refine h_op (r_assign rfl) ?_
      refine h_op (r_assign rfl) ?_
      refine h_nil ?_
      refine q_then ?_
      refine h_seq ?_
      refine h_reg ?_
      refine h_op (r_move rfl) ?_
      refine h_op (r_nilnil rfl) ?_
      refine h_op (r_move rfl) ?_
      refine h_op (r_move rfl) ?_
      refine h_call (hM.comes) rfl rfl rfl fun _ => ?_
      refine h_op (r_bool (r_eql rfl rfl) (decide_eq_false hne)) ?_
      refine h_op (r_pick rfl rfl) ?_
      refine h_op (r_move rfl) ?_
      refine h_opOff ?_
      refine h_opOff ?_
      refine h_opOff ?_
      refine h_opOff ?_
      refine h_opOff ?_
      refine h_opOff ?_
      refine h_opOff ?_
      refine h_op (r_pick rfl rfl) ?_
      refine h_op (r_assign rfl) ?_
      refine h_nil ?_
      refine q_then ?_
      refine h_ret ?_
      exact h_ret1 rfl rfl fun w s => ⟨⟨(h2, k), hz2, by dsimp only; omega⟩, rfl, (same (L' := [.zone true h2, CN gc k]) w s).res (List.Sublist.refl _) (by simp [Fa.wr])⟩
    · rw [checkM_ok hp] at hM
      have hS := show_s n hn h2 gh gc l A c (hz.mono hz2) hvl hll (some ⟨g13, 0, none⟩) l.length (Nat.le_refl _) k hk root hr1 its0 I ic hic hil t hp
      have ha : accM n root l its0 = decide (showR n root l t = none) := by unfold accM; rw [hp, decide_eq_true hr1]; exact Bool.true_and _
      rw [ha]
      generalize showR n root l t = r at *
      refine h_op (r_move rfl) ?_
      refine h_op (r_extract rfl rfl) ?_
      refine h_op (r_extract rfl rfl) ?_
      refine h_op (r_assign rfl) ?_
      refine h_op (r_assign rfl) ?_
      refine h_nil ?_
      refine q_then ?_
      refine h_seq ?_
      refine h_reg ?_
      refine h_op (r_move rfl) ?_
      refine h_op (r_nilnil rfl) ?_
      refine h_op (r_move rfl) ?_
      refine h_op (r_move rfl) ?_
      refine h_call (hM.comes) rfl rfl rfl fun _ => ?_
      refine h_op (r_bool (r_eql rfl rfl) (decide_eq_true rfl)) ?_
      refine h_op (r_pick rfl rfl) ?_
      refine h_op (r_move rfl) ?_
      refine h_op (r_move rfl) ?_
      refine h_op (r_loadr rfl) ?_
      refine h_op (r_move rfl) ?_
      refine h_op (r_move rfl) ?_
      refine h_op (r_move rfl) ?_
      refine h_call (hS.comes) rfl rfl rfl fun ⟨⟨g29, h3, k3⟩, hle3, hk3⟩ => ?_
      dsimp only at hle3 hk3 ⊢
      rcases r with _ | ⟨i9, e9⟩
      · change H _ _ _ _ _ (.zone true h3 :: CN gc k3 :: _) _
        refine h_op (r_nilnil rfl) ?_
        refine h_op (r_pick rfl rfl) ?_
        refine h_op (r_assign rfl) ?_
        refine h_nil ?_
        refine q_then ?_
        refine h_ret ?_
        exact h_ret1 rfl rfl fun w s => ⟨⟨(h3, k3), hz2.trans hle3, by dsimp only; omega⟩, rfl, (same (L' := [.zone true h3, CN gc k3]) w s).res (List.Sublist.refl _) (by simp [Fa.wr])⟩
      · change H _ _ _ _ _ (.zone true h3 :: CN gc k3 :: .blk g29 (fltC batchB (i9 : Int) e9) _ :: _) _
        refine h_op (r_ifnil rfl) ?_
        refine h_op (r_pick rfl rfl) ?_
        refine h_op (r_assign rfl) ?_
        refine h_nil ?_
        refine q_then ?_
        refine h_ret ?_
        exact h_ret1 rfl rfl fun w s => ⟨⟨(h3, k3), hz2.trans hle3, by dsimp only; omega⟩, rfl, (same (L' := [.zone true h3, CN gc k3]) w s).res (List.Sublist.refl _) (by simp [Fa.wr])⟩
  · replace hC : Spec Tryz.prog 56 [.slice A l.length c].toArray [.zone false h] [] (fun g : Nat => .tuple #[.slice none 0 0, .iface 174 (.pointer (some ⟨g, 0, none⟩))]) (fun g => [.blk g (fltC batchB (i : Int) e) 178]) := hC
    rw [show accM n root l its0 = false by unfold accM; rw [hr1, decide_eq_false (by simp)]; rfl]
    refine h_call (hC.comes) rfl rfl rfl fun g13 => ?_
    refine h_op (r_move rfl) ?_
    refine h_op (r_extract rfl rfl) ?_
    refine h_op (r_extract rfl rfl) ?_
    refine h_op (r_assign rfl) ?_
    refine h_op (r_assign rfl) ?_
    refine h_nil ?_
    refine q_then ?_
    refine h_seq ?_
    refine h_reg ?_
    refine h_op (r_move rfl) ?_
    refine h_op (r_ifnil rfl) ?_
    refine h_op (r_move rfl) ?_
    refine h_opOff ?_
    refine h_opOff ?_
    refine h_opOff ?_
    refine h_op (r_pick rfl rfl) ?_
    refine h_op (r_move rfl) ?_
    refine h_opOff ?_
    refine h_opOff ?_
    refine h_opOff ?_
    refine h_opOff ?_
    refine h_opOff ?_
    refine h_opOff ?_
    refine h_opOff ?_
    refine h_op (r_pick rfl rfl) ?_
    refine h_op (r_assign rfl) ?_
    refine h_nil ?_
    refine q_then ?_
    refine h_ret ?_
    exact h_ret1 rfl rfl fun w s => ⟨⟨(h, k), LeZ.refl h, by dsimp only; omega⟩, rfl, (same (L' := [.zone true h, CN gc k]) w s).res (List.Sublist.refl _) (by simp [Fa.wr])⟩
end
end Go.Proofs.YtjhocljhhpkiiaaGreatDoor
/- U114 -/
namespace Go.Proofs.YtjhocljhhpkiiaaGreatDoor
set_option linter.unusedSimpArgs false
set_option linter.unusedVariables false
open Go.RowKit
theorem chk20a : checkM [zItem] = 0 := by decide +kernel
theorem enc20a : encM [zItem] = [1, 2, 0, 0, 0, 1, 0] := by decide +kernel
end Go.Proofs.YtjhocljhhpkiiaaGreatDoor
/- E31 -/
namespace Go.Proofs.YtjhocljhhpkiiaaGreatDoor
set_option linter.unusedSimpArgs false
set_option linter.unusedVariables false
open Go.RowKit
abbrev cb21 (B : Option Addr) (c : Nat) : CB := ⟨⟨⟨B, 32, c⟩, ⟨none, 0, 0⟩, false⟩, kb18, []⟩
theorem claims21 (B : Option Addr) (c : Nat) : claimsR [cb21 B c] = none := rfl
theorem parse21 : parseM [zItem] = .ok (.one zItem) := by kernel_rfl
theorem ends21 (ks : List B32) (h : ks.length = 1) : endsM (.one zItem) ks 0 = (ks.map fun _ => (zItem, 0), true) := by
  unfold endsM
  rfl
theorem dg21 : dgS 256 (.one zItem) = E18 := by
  show (if zItem.kind = 3 then zItem.digest else sumB 256 (preI zItem)) = E18
  rw [if_neg (by decide)]
  rfl
theorem show21 (B : Option Addr) (c : Nat) : showR 256 E18 [cb21 B c] (.one zItem) = none := by
  unfold showR
  rw [ends21 _ (keysC_len _)]
  dsimp only
  rw [if_pos rfl, List.length_map, keysC_len]
  have h0 : firstF (showE 256 ((keysC [cb21 B c]).map fun _ => (zItem, 0)) [cb21 B c]) 1 0 = none := firstF_none _ _ _ fun j _ hj => by
    obtain rfl : j = 0 := by omega
    rfl
  show (match firstF (showE 256 ((keysC [cb21 B c]).map fun _ => (zItem, 0)) [cb21 B c]) 1 0 with | some r => some r | none => if dgS 256 (.one zItem) = E18 then none else some (0, 13)) = none
  rw [h0]
  dsimp only
  rw [if_pos dg21]
theorem mver21 (A B : Option Addr) (c c' : Nat) : mverR 256 ⟨A, 32, c⟩ E18.1 [cb21 B c'] (encM [zItem]) = none := by
  unfold mverR
  dsimp only
  rw [if_pos rfl, claims21]
  dsimp only
  rw [decM_enc [zItem] chk20a (by decide)]
  dsimp only
  rw [parse21]
  dsimp only
  rw [keyOf_val, show21]
theorem mver21n (n : Nat) (A : Option Addr) (c : Nat) (rb bb : List UInt8) : mverR n ⟨A, 32, c⟩ rb [] bb = some (0, 10) := rfl
theorem acc21 (B : Option Addr) (c : Nat) : accM 256 E18 [cb21 B c] [zItem] = true := by
  unfold accM
  rw [claims21, parse21]
  dsimp only
  rw [show21]
  rfl
theorem acc21n (root : B32) : accM 256 root [] [zItem] = false := rfl
end Go.Proofs.YtjhocljhhpkiiaaGreatDoor
/- U86 -/
namespace Go.Proofs.YtjhocljhhpkiiaaGreatDoor
set_option linter.unusedSimpArgs false
set_option linter.unusedVariables false
open Go.RowKit
end Go.Proofs.YtjhocljhhpkiiaaGreatDoor
/- U125 -/
namespace Go.Proofs.YtjhocljhhpkiiaaGreatDoor
set_option linter.unusedSimpArgs false
set_option linter.unusedVariables false
open Go.RowKit
end Go.Proofs.YtjhocljhhpkiiaaGreatDoor
/- E32 -/
namespace Go.Proofs.YtjhocljhhpkiiaaGreatDoor
set_option linter.unusedSimpArgs false
set_option linter.unusedVariables false
open Go.RowKit
/-- claims about a map; those that fl marks are turned into their opposites -/
structure MapCl (m : List En) (ks : List B32) (fl : Nat → Bool) (cl : List CB) : Prop where
  len : cl.length ≤ ks.length
  keys : keysC cl = ks.take cl.length
  at_ : ∀ (j : Nat) (x : CB), cl[j]? = some x → x.c.key.n = 32 ∧ x.c.value.n ≤ 200 ∧ x.vb.length ≤ 200 ∧ x.vb = getV (getE' m (keyOf x.kb)) ∧ x.c.present = ((getE' m (keyOf x.kb)).isSome != fl j)
theorem MapCl.nil (m : List En) (ks : List B32) (fl : Nat → Bool) : MapCl m ks fl [] := ⟨Nat.zero_le _, rfl, fun j x h => by simp at h⟩
theorem MapCl.snoc {m : List En} {ks : List B32} {fl : Nat → Bool} {cl : List CB} (h : MapCl m ks fl cl) {x : CB} {key : B32} (hk : ks[cl.length]? = some key) (hx : keyOf x.kb = key) (h1 : x.c.key.n = 32) (h2 : x.c.value.n ≤ 200) (h2' : x.vb.length ≤ 200) (h3 : x.vb = getV (getE' m key)) (h4 : x.c.present = ((getE' m key).isSome != fl cl.length)) : MapCl m ks fl (cl ++ [x]) := by
  refine ⟨?_, ?_, fun j y hy => ?_⟩
  · rw [List.length_append]
    have := (List.getElem?_eq_some_iff.1 hk).1
    simp; omega
  · rw [List.length_append, List.length_singleton, List.take_add_one, hk, Option.toList_some, ← h.keys]
    unfold keysC
    rw [List.map_append, List.map_cons, List.map_nil, hx]
  · rcases Nat.lt_or_ge j cl.length with hj | hj
    · rw [List.getElem?_append_left hj] at hy
      exact h.at_ j y hy
    · rw [List.getElem?_append_right hj] at hy
      obtain ⟨e1, e2⟩ : j - cl.length = 0 ∧ x = y := by
        rcases hq : j - cl.length with _ | q
        · rw [hq] at hy; exact ⟨rfl, by simpa using hy⟩
        · rw [hq] at hy; simp at hy
      obtain rfl : j = cl.length := by omega
      subst e2
      rw [hx]
      exact ⟨h1, h2, h2', h3, h4⟩
theorem chkK_zero : ∀ (l : List B32), chkK l = 0 → ∀ i, i < l.length → neighE l i = 0
  | [], _, i, hi => by simp at hi
  | [_], _, i, hi => by
    obtain rfl : i = 0 := by simp at hi; omega
    exact if_pos rfl
  | a :: b :: l, h, i, hi => by
    unfold chkK at h
    by_cases h1 : cmpB a b = 0
    · rw [if_pos h1] at h; cases h
    · rw [if_neg h1] at h
      by_cases h2 : 0 < cmpB a b
      · rw [if_pos h2] at h; cases h
      · rw [if_neg h2] at h
        match i, hi with
        | 0, _ => exact if_pos rfl
        | 1, _ =>
          show (if (1 : Nat) = 0 then (0 : Int) else if cmpB a b < 0 then 0 else if a = b then 9 else 8) = 0
          rw [if_neg (by decide), if_pos (by omega)]
        | i + 2, hi =>
          have ih := chkK_zero (b :: l) h (i + 1) (by simp at hi ⊢; omega)
          unfold neighE at ih ⊢
          rw [if_neg (by omega)] at ih ⊢
          simpa using ih
theorem firstF_congr {f g : Nat → Int} : ∀ m i, (∀ j, i ≤ j → j < i + m → f j = g j) → firstF f m i = firstF g m i
  | 0, _, _ => rfl
  | m + 1, i, h => by
    unfold firstF
    rw [h i (Nat.le_refl _) (by omega), firstF_congr m (i + 1) fun j h1 h2 => h j (by omega) (by omega)]
theorem WayTo.unique {key : B32} {t : Tr} {D D' : Nat} (h : WayTo key t D) (h' : WayTo key t D') : D = D' := by
  rcases Nat.lt_trichotomy D D' with hl | hl | hl
  · exact (h.end_ (h'.on D hl)).elim
  · exact hl
  · exact (h'.end_ (h.on D' hl)).elim
theorem mver_map (n : Nat) {m : List En} (hal : Alike m 0) (ks : List B32) (hke : keysE ks = 0) (fl : Nat → Bool) (cl : List CB) (hm : MapCl m ks fl cl) (hlen : cl.length = ks.length) (root : Sl) (hr : root.n = 32) (rb : List UInt8) (hrb : keyOf rb = dgT n (mkT m 0)) (hl : (addT n (mkT m 0) ks 0).length < 4294967296) :
    mverR n root rb cl (encM (addT n (mkT m 0) ks 0)) = firstF (fun j => if fl j then 12 else 0) ks.length 0 := by
  have hks := keysE_ok hke
  have hkc : keysC cl = ks := by rw [hm.keys, hlen, List.take_length]
  have hC : claimsR cl = none := by
    unfold claimsR
    rw [if_neg (by omega), if_neg (by omega), firstF_none _ _ _ (fun j _ hj => ?_)]
    · dsimp only
      rw [hkc]
      refine firstF_none _ _ _ fun j _ hj => chkK_zero ks ?_ j (by omega)
      unfold keysE at hke
      rw [if_neg (by omega), if_neg (by omega)] at hke
      exact hke
    · obtain ⟨h1, h2, -⟩ := hm.at_ j _ (getD_get zCB (by omega))
      unfold claimE
      rw [if_pos h1, if_neg (by omega)]
  have hp := addT_parse n hal ks
  unfold mverR
  rw [if_pos hr, hC]
  dsimp only
  rw [decM_enc _ (checkM_ok hp) hl]
  dsimp only
  rw [hp]
  dsimp only
  have hfit := subT_fits n (mkT m 0) ks 0
  have hmap := endsM_map (subT n (mkT m 0) ks 0) ks 0 hks.2.2 (fun _ _ _ _ i hi => absurd hi (by omega)) hfit
  have hEn0 : endsM (subT n (mkT m 0) ks 0) ks 0 = (ks.map fun k => (itemT n (loc k (mkT m 0) 0).1, (loc k (mkT m 0) 0).2), true) := Prod.ext (by rw [hmap]; exact List.map_congr_left fun k hk => subT_end n k _ ks 0 hk) hfit
  unfold showR
  rw [hkc, hEn0]
  dsimp only
  rw [if_pos rfl, List.length_map, subT_dg, hrb, if_pos rfl]
  have hsh : firstF (showE n (ks.map fun k => (itemT n (loc k (mkT m 0) 0).1, (loc k (mkT m 0) 0).2)) cl) ks.length 0 = firstF (fun j => if fl j then 12 else 0) ks.length 0 := firstF_congr _ _ fun j _ hj => by
    have hj1 : j < ks.length := by omega
    have hj2 : j < cl.length := by omega
    obtain ⟨-, -, -, hv, hpr⟩ := hm.at_ j _ (getD_get zCB hj2)
    have hkj : ks[j]? = some (keyOf (cl.getD j zCB).kb) := by
      have := keysC_get hj2
      rw [hkc] at this
      exact this
    unfold showE
    rw [List.getD_eq_getElem?_getD (l := ks.map _), List.getElem?_map, hkj, Option.map_some, Option.getD_some, hv, hpr]
    generalize keyOf (cl.getD j zCB).kb = key at *
    obtain ⟨D, hw⟩ := wayM (key := key) hal
    obtain ⟨D', hw', hlc⟩ := loc_way hal key
    have hloc : loc key (mkT m 0) 0 = (wayK key (mkT m 0) D, D) := by
      rw [hlc, WayTo.unique hw' hw.way]
    rw [hloc]
    have hs : supP (endPr (itemT n (wayK key (mkT m 0) D), D)) key (valD n ((getE' m key).isSome != fl j) (getV (getE' m key))) ((getE' m key).isSome != fl j) = supP (prfK n key (mkT m 0) D none 0) key (valD n ((getE' m key).isSome != fl j) (getV (getE' m key))) ((getE' m key).isSome != fl j) := by
      unfold supP endPr prfK
      dsimp only
      rw [itemT_kind n hw.way.end_, itemT_leaf n hw.way.end_]
    rw [hs, sup_claim hw, decide_eq_true rfl]
    cases (getE' m key).isSome <;> cases fl j <;> rfl
  rw [hsh]
  cases firstF (fun j => if fl j then 12 else 0) ks.length 0 <;> rfl
theorem mver_true (n : Nat) {m : List En} (hal : Alike m 0) (ks : List B32) (hke : keysE ks = 0) (cl : List CB) (hm : MapCl m ks (fun _ => false) cl) (hlen : cl.length = ks.length) (root : Sl) (hr : root.n = 32) (rb : List UInt8) (hrb : keyOf rb = dgT n (mkT m 0)) (hl : (addT n (mkT m 0) ks 0).length < 4294967296) : mverR n root rb cl (encM (addT n (mkT m 0) ks 0)) = none := by
  rw [mver_map n hal ks hke _ cl hm hlen root hr rb hrb hl]
  exact firstF_none _ _ _ fun _ _ _ => rfl
theorem mver_turned (n : Nat) {m : List En} (hal : Alike m 0) (ks : List B32) (hke : keysE ks = 0) (i : Nat) (hi : i < ks.length) (cl : List CB) (hm : MapCl m ks (fun j => decide (i = j)) cl) (hlen : cl.length = ks.length) (root : Sl) (hr : root.n = 32) (rb : List UInt8) (hrb : keyOf rb = dgT n (mkT m 0)) (hl : (addT n (mkT m 0) ks 0).length < 4294967296) : mverR n root rb cl (encM (addT n (mkT m 0) ks 0)) = some (i, 12) := by
  rw [mver_map n hal ks hke _ cl hm hlen root hr rb hrb hl]
  have h1 : (if decide (i = i) = true then (12 : Int) else 0) = 12 := if_pos (decide_eq_true rfl)
  rw [firstF_some _ i (by rw [h1]; decide) ks.length 0 (Nat.zero_le _) (by omega) fun j _ hj => if_neg (by simp; omega), h1]
end Go.Proofs.YtjhocljhhpkiiaaGreatDoor
/- U100 -/
namespace Go.Proofs.YtjhocljhhpkiiaaGreatDoor
set_option linter.unusedSimpArgs false
set_option linter.unusedVariables false
open Go.RowKit
theorem sl32 {z : Zh} {g : Nat} {x : B32} (hr : RdZ z (some ⟨g, 0, none⟩) x.cells) : SlZ z ⟨some ⟨g, 0, none⟩, 32, 32⟩ x.1 := ⟨x.2.symm, Nat.le_refl _, (fun h => by cases h), hr⟩
end Go.Proofs.YtjhocljhhpkiiaaGreatDoor
/- U128 -/
namespace Go.Proofs.YtjhocljhhpkiiaaGreatDoor
set_option linter.unusedSimpArgs false
set_option linter.unusedVariables false
open Go.RowKit
theorem alive21_s (h : Zh) [hT : RdZ h (some ⟨1, 0, none⟩) hashT] [hE : RdZ h (some ⟨0, 0, none⟩) [rty 90]] : Spec Tryz.prog 48 ([] : List Value).toArray [] [.zone true h] (fun _ : {x : Zh // LeZ h x} => .bool true) (fun x => [.zone true x.1]) := by
  refine spec_of Tryz.func48 rfl (n := 105) rfl rfl ?_
  intro W
  refine h_seq ?_
  refine h_reg ?_
  refine h_op (r_assign rfl) ?_
  refine h_nil ?_
  refine q_then ?_
  refine h_seq ?_
  refine h_reg ?_
  refine h_call ((Hash_s 256 (by decide)).comes) rfl rfl rfl fun ⟨gh, gc⟩ => ?_
  dsimp only
  refine h_op (r_assign rfl) ?_
  refine h_nil ?_
  refine q_then ?_
  refine h_seq ?_
  refine h_seq ?_
  refine h_reg ?_
  refine h_op (r_move rfl) ?_
  refine h_op (r_nilR rfl rfl) ?_
  refine h_nil ?_
  refine q_then ?_
  refine h_condF rfl ?_
  refine h_skip ?_
  refine q_then ?_
  refine h_seq ?_
  refine h_reg ?_
  refine h_call ((rEmpty_s 256 (by decide)).comes) rfl rfl rfl fun _ => ?_
  refine h_opX (x_alloc) fun g2 => ?_
  refine h_opS (s_storer rfl rfl) ?_
  refine h_nil ?_
  refine q_then ?_
  refine h_seq ?_
  refine h_reg ?_
  refine h_opX (x_makeB rfl rfl) fun g16 => ?_
  refine h_op (r_build rfl) ?_
  refine h_opX (x_bsl rfl rfl) fun g18 => ?_
  refine h_op (r_assign rfl) ?_
  refine h_nil ?_
  refine q_then ?_
  refine h_seq ?_
  refine h_reg ?_
  refine h_op (r_build rfl) ?_
  refine h_opX (x_bsl rfl rfl) fun g21 => ?_
  change H _ _ _ _ _ (.own _ _ _ _ (its [zItem]) :: .own _ _ _ _ (cbs [cb21 (some ⟨g16, 0, none⟩) 32]) :: .own (.slice (some ⟨g16, 0, none⟩) 32 32) 32 _ 1 (bc kb18) :: .blk g2 E18.cells _ :: _) _
  refine h_freeze g2 (cs := E18.cells) (T := 42) fun z1 hz1 hr1 => ?_
  refine h_freezeO (.slice (some ⟨g16, 0, none⟩) 32 32) fun z2 B2 c2 e2 hle2 hlen2 hnil2 hz2 hr2 => ?_
  injection e2 with e2 _ e2'
  subst e2 e2'
  refine h_freezeO (.slice (some ⟨g18, 0, none⟩) 1 1) fun z3 B3 c3 e3 hle3 hlen3 hnil3 hz3 hr3 => ?_
  injection e3 with e3 _ e3'
  subst e3 e3'
  refine h_freezeO (.slice (some ⟨g21, 0, none⟩) 1 1) fun z4 B4 c4 e4 hle4 hlen4 hnil4 hz4 hr4 => ?_
  injection e4 with e4 _ e4'
  subst e4 e4'
  have hE1 := mEncode_s z4 [zItem] (some ⟨g21, 0, none⟩) 1 (by decide) (by decide) chk20a
  have hEl : (encM [zItem]).length = 7 := by rw [enc20a]; rfl
  rw [hEl] at hE1
  refine h_call (hE1.comes) rfl rfl rfl fun ⟨A22, c22⟩ => ?_
  dsimp only
  refine h_freezeO (.slice A22 7 c22) fun z5 B5 c5 e5 hle5 hlen5 hnil5 hz5 hr5 => ?_
  injection e5 with e5 _ e5'
  subst e5 e5'
  have hzz := (hz1.trans hz2).trans ((hz3.trans hz4).trans hz5)
  have hT5 : RdZ z5 (some ⟨1, 0, none⟩) hashT := hT.mono hzz
  have hE5 : RdZ z5 (some ⟨0, 0, none⟩) [rty 90] := hE.mono hzz
  have sr : SlZ z5 ⟨some ⟨g2, 0, none⟩, 32, 32⟩ E18.1 := sl32 ((((hr1.mono hz2).mono hz3).mono hz4).mono hz5)
  have sb : SlZ z5 ⟨A22, 7, c22⟩ (encM [zItem]) := ⟨hEl.symm, hle5, hnil5, hr5⟩
  have s0 : ∀ z, SlZ z ⟨none, 0, 0⟩ [] := slz_nil
  have sk : SlZ z5 ⟨some ⟨g16, 0, none⟩, 32, 32⟩ kb18 := ⟨rfl, Nat.le_refl _, (fun h => by cases h), ((hr2.mono hz3).mono hz4).mono hz5⟩
  have scl : ClsZ z5 [cb21 (some ⟨g16, 0, none⟩) 32] := fun x hx => by
    obtain rfl := List.mem_singleton.1 hx
    exact ⟨sk, s0 z5⟩
  have hrl : RdZ z5 (some ⟨g18, 0, none⟩) (cbs [cb21 (some ⟨g16, 0, none⟩) 32]) := (hr3.mono hz4).mono hz5
  have hvl : ∀ x ∈ [cb21 (some ⟨g16, 0, none⟩) 32], x.vb.length ≤ 100000000 := fun x hx => by
    obtain rfl := List.mem_singleton.1 hx
    exact Nat.zero_le _
  have hrn : ∀ z, RdZ z none (cbs []) := fun z => RdZ.nil _ _
  have hcn : ∀ z, ClsZ z [] := fun z x hx => by cases hx
  have hvn : ∀ x ∈ ([] : List CB), x.vb.length ≤ 100000000 := fun x hx => by cases hx
  have hV1 := fun (z : Zh) (_ : RdZ z (some ⟨1, 0, none⟩) hashT) (_ : SlZ z ⟨some ⟨g2, 0, none⟩, 32, 32⟩ E18.1) (_ : SlZ z ⟨A22, 7, c22⟩ (encM [zItem])) k hk => mVerify_s 256 (by decide) z gh gc [] none 0 (hr := hrn z) (hcn z) hvn (by decide) k hk ⟨some ⟨g2, 0, none⟩, 32, 32⟩ ⟨A22, 7, c22⟩ E18.1 (encM [zItem]) (by rw [hEl]; decide)
  have hC1 := fun (z : Zh) (_ : RdZ z (some ⟨1, 0, none⟩) hashT) (_ : RdZ z (some ⟨0, 0, none⟩) [rty 90]) (_ : SlZ z ⟨some ⟨g2, 0, none⟩, 32, 32⟩ E18.1) k hk => mvCheck_s 256 (by decide) z gh gc [] none 0 (hr := hrn z) (hcn z) hvn (by decide) k hk ⟨some ⟨g2, 0, none⟩, 32, 32⟩ ⟨none, 0, 0⟩ E18.1 [] (hB := s0 z) (by decide)
  have hV2 := fun (z : Zh) (_ : RdZ z (some ⟨1, 0, none⟩) hashT) (_ : SlZ z ⟨some ⟨g2, 0, none⟩, 32, 32⟩ E18.1) (_ : SlZ z ⟨A22, 7, c22⟩ (encM [zItem])) (hr : RdZ z (some ⟨g18, 0, none⟩) (cbs [cb21 (some ⟨g16, 0, none⟩) 32])) (hz : ClsZ z [cb21 (some ⟨g16, 0, none⟩) 32]) k hk => mVerify_s 256 (by decide) z gh gc [cb21 (some ⟨g16, 0, none⟩) 32] (some ⟨g18, 0, none⟩) 1 (hr := hr) hz hvl (by show (1 : Nat) ≤ _; decide) k hk ⟨some ⟨g2, 0, none⟩, 32, 32⟩ ⟨A22, 7, c22⟩ E18.1 (encM [zItem]) (by rw [hEl]; decide)
  have hC2 := fun (z : Zh) (_ : RdZ z (some ⟨1, 0, none⟩) hashT) (_ : RdZ z (some ⟨0, 0, none⟩) [rty 90]) (_ : SlZ z ⟨some ⟨g2, 0, none⟩, 32, 32⟩ E18.1) (_ : SlZ z ⟨A22, 7, c22⟩ (encM [zItem])) (hr : RdZ z (some ⟨g18, 0, none⟩) (cbs [cb21 (some ⟨g16, 0, none⟩) 32])) (hz : ClsZ z [cb21 (some ⟨g16, 0, none⟩) 32]) k hk => mvCheck_s 256 (by decide) z gh gc [cb21 (some ⟨g16, 0, none⟩) 32] (some ⟨g18, 0, none⟩) 1 (hr := hr) hz hvl (by show (1 : Nat) ≤ _; decide) k hk ⟨some ⟨g2, 0, none⟩, 32, 32⟩ ⟨A22, 7, c22⟩ E18.1 (encM [zItem]) (by rw [hEl]; decide)
  have hA1 := fun (z : Zh) (_ : RdZ z (some ⟨1, 0, none⟩) hashT) (hr : RdZ z (some ⟨g18, 0, none⟩) (cbs [cb21 (some ⟨g16, 0, none⟩) 32])) (hz : ClsZ z [cb21 (some ⟨g16, 0, none⟩) 32]) I (_ : RdZ z I (its [zItem])) k hk => mvAccepts_s 256 (by decide) z gh gc [cb21 (some ⟨g16, 0, none⟩) 32] (some ⟨g18, 0, none⟩) 1 (hr := hr) hz hvl (by show (1 : Nat) ≤ _; decide) k hk E18 [zItem] I 1 (by show (1 : Nat) ≤ 1; decide) (by show (1 : Nat) ≤ _; decide)
  have hA2 := fun (z : Zh) (_ : RdZ z (some ⟨1, 0, none⟩) hashT) I (_ : RdZ z I (its [zItem])) k hk => mvAccepts_s 256 (by decide) z gh gc [] none 0 (hr := hrn z) (hcn z) hvn (by decide) k hk E18 [zItem] I 1 (by show (1 : Nat) ≤ 1; decide) (by show (1 : Nat) ≤ _; decide)
  have hCl := mClaims_s z5 [cb21 (some ⟨g16, 0, none⟩) 32] (some ⟨g18, 0, none⟩) 1 (by show (1 : Nat) ≤ _; decide) scl none (claims21 _ _)
  replace hCl : Spec Tryz.prog 56 [.slice (some ⟨g18, 0, none⟩) 1 1].toArray [.zone false z5] [] (fun g : Nat => .tuple #[.slice (some ⟨g, 0, none⟩) 1 1, .nilIface]) (fun g => [.own (.slice (some ⟨g, 0, none⟩) 1 1) 1 35 32 (dgs (keysC [cb21 (some ⟨g16, 0, none⟩) 32]))]) := hCl
  have hdl : decLen (encM [zItem]) = 1 := by unfold decLen; rw [decM_enc [zItem] chk20a (by decide)]; rfl
  have hdl0 : decLen [] = 0 := rfl
  simp only [mver21n, mver21, acc21, acc21n, errV, errB, errE, hdl, hdl0, List.length_nil, List.length_singleton] at hV1 hC1 hV2 hC2 hA1 hA2
  refine h_op (r_move rfl) ?_
  refine h_op (r_extract rfl rfl) ?_
  refine h_op (r_extract rfl rfl) ?_
  refine h_op (r_assign rfl) ?_
  refine h_op (r_assign rfl) ?_
  refine h_nil ?_
  refine q_then ?_
  refine h_seq ?_
  refine h_reg ?_
  refine h_op (r_move rfl) ?_
  refine h_op (r_slA rfl) ?_
  refine h_op (r_move rfl) ?_
  refine h_call ((hV1 z5 hT5 sr sb 0 (by decide)).comes) rfl rfl rfl fun ⟨⟨g28, z6, k6⟩, hz6, hk6⟩ => ?_
  dsimp only at hz6 hk6 ⊢
  have hT6 : RdZ z6 (some ⟨1, 0, none⟩) hashT := hT5.mono hz6
  have hE6 : RdZ z6 (some ⟨0, 0, none⟩) [rty 90] := hE5.mono hz6
  have sr6 := sr.mono hz6
  have sb6 := sb.mono hz6
  have scl6 := scl.mono hz6
  have hrl6 : RdZ z6 (some ⟨g18, 0, none⟩) (cbs [cb21 (some ⟨g16, 0, none⟩) 32]) := hrl.mono hz6
  refine h_op (r_assign rfl) ?_
  refine h_nil ?_
  refine q_then ?_
  refine h_seq ?_
  refine h_reg ?_
  refine h_op (r_move rfl) ?_
  refine h_call ((First_s g28 batchB ((0 : Nat) : Int) 10).comes) rfl rfl rfl fun _ => ?_
  refine h_op (r_move rfl) ?_
  refine h_op (r_extract rfl rfl) ?_
  refine h_op (r_extract rfl rfl) ?_
  refine h_op (r_extract rfl rfl) ?_
  refine h_op (r_assign rfl) ?_
  refine h_op (r_assign rfl) ?_
  refine h_op (r_assign rfl) ?_
  refine h_nil ?_
  refine q_then ?_
  refine h_seq ?_
  refine h_reg ?_
  refine h_op (r_move rfl) ?_
  refine h_call (hCl.comes) rfl rfl rfl fun g37 => ?_
  refine h_op (r_move rfl) ?_
  refine h_op (r_extract rfl rfl) ?_
  refine h_op (r_extract rfl rfl) ?_
  refine h_op (r_assign rfl) ?_
  refine h_op (r_assign rfl) ?_
  refine h_nil ?_
  refine q_then ?_
  refine h_seq ?_
  refine h_reg ?_
  refine h_op (r_move rfl) ?_
  refine h_op (r_bool (r_eql rfl rfl) rfl) ?_
  refine h_op (r_move rfl) ?_
  refine h_op (r_move rfl) ?_
  refine h_call ((Code_s g28 batchB ((0 : Nat) : Int) 10).comes) rfl rfl rfl fun _ => ?_
  refine h_op (r_bool (r_eql rfl rfl) rfl) ?_
  refine h_op (r_pick rfl rfl) ?_
  refine h_op (r_move rfl) ?_
  refine h_op (r_move rfl) ?_
  refine h_op (r_bool (r_eqS rfl rfl) (show (batchB.toList == batchB.toList) = true from beq_self_eq_true _)) ?_
  refine h_op (r_pick rfl rfl) ?_
  refine h_op (r_move rfl) ?_
  refine h_op (r_move rfl) ?_
  refine h_op (r_bool (r_eql rfl rfl) rfl) ?_
  refine h_op (r_pick rfl rfl) ?_
  refine h_op (r_move rfl) ?_
  refine h_op (r_move rfl) ?_
  refine h_op (r_pick rfl rfl) ?_
  refine h_op (r_move rfl) ?_
  refine h_op (r_move rfl) ?_
  refine h_op (r_slA rfl) ?_
  refine h_call ((hC1 z6 hT6 hE6 sr6 k6 (by omega)).comes) rfl rfl rfl fun ⟨⟨z7, k7⟩, hz7, hk7⟩ => ?_
  dsimp only at hz7 hk7 ⊢
  have hT7 : RdZ z7 (some ⟨1, 0, none⟩) hashT := hT6.mono hz7
  have hE7 : RdZ z7 (some ⟨0, 0, none⟩) [rty 90] := hE6.mono hz7
  refine h_op (r_bool (r_eql rfl rfl) rfl) ?_
  refine h_op (r_pick rfl rfl) ?_
  refine h_op (r_move rfl) ?_
  refine h_op (r_move rfl) ?_
  refine h_op (r_slA rfl) ?_
  refine h_op (r_move rfl) ?_
  refine h_op (r_move rfl) ?_
  refine h_call ((hC2 z7 hT7 hE7 (sr6.mono hz7) (sb6.mono hz7) (hrl6.mono hz7) (scl6.mono hz7) k7 (by omega)).comes) rfl rfl rfl fun ⟨⟨z8, k8⟩, hz8, hk8⟩ => ?_
  dsimp only at hz8 hk8 ⊢
  have hT8 : RdZ z8 (some ⟨1, 0, none⟩) hashT := hT7.mono hz8
  have hz68 := hz7.trans hz8
  refine h_op (r_bool (r_eql rfl rfl) rfl) ?_
  refine h_op (r_pick rfl rfl) ?_
  refine h_op (r_move rfl) ?_
  refine h_op (r_move rfl) ?_
  refine h_op (r_slA rfl) ?_
  refine h_op (r_move rfl) ?_
  refine h_op (r_move rfl) ?_
  refine h_call ((hV2 z8 hT8 (sr6.mono hz68) (sb6.mono hz68) (hrl6.mono hz68) (scl6.mono hz68) k8 (by omega)).comes) rfl rfl rfl fun ⟨⟨g77, z9, k9⟩, hz9, hk9⟩ => ?_
  dsimp only at hz9 hk9 ⊢
  have hT9 : RdZ z9 (some ⟨1, 0, none⟩) hashT := hT8.mono hz9
  have hr29 : RdZ z9 (some ⟨g2, 0, none⟩) E18.cells := (sr6.mono (hz68.trans hz9)).rd
  refine h_op (r_nilnil rfl) ?_
  refine h_op (r_pick rfl rfl) ?_
  refine h_op (r_move rfl) ?_
  refine h_op (r_move rfl) ?_
  refine h_op (r_len rfl) ?_
  refine h_op (r_bool (r_eql rfl rfl) rfl) ?_
  refine h_op (r_pick rfl rfl) ?_
  refine h_op (r_move rfl) ?_
  refine h_op (r_move rfl) ?_
  refine h_op (r_nilnil rfl) ?_
  refine h_op (r_pick rfl rfl) ?_
  refine h_op (r_move rfl) ?_
  refine h_op (r_move rfl) ?_
  refine h_op (r_loadr rfl) ?_
  refine h_op (r_move rfl) ?_
  refine h_op (r_build rfl) ?_
  refine h_opX (x_bsl rfl rfl) fun g94 => ?_
  change H _ _ _ _ _ (.own (.slice (some ⟨g94, 0, none⟩) 1 1) 1 _ _ (its [zItem]) :: _) _
  refine h_freezeO (.slice (some ⟨g94, 0, none⟩) 1 1) fun z10 B10 c10 e10 hle10 hlen10 hnil10 hz10 hr10 => ?_
  injection e10 with e10 _ e10'
  subst e10 e10'
  have hT10 : RdZ z10 (some ⟨1, 0, none⟩) hashT := hT9.mono hz10
  have hz610 := (hz68.trans hz9).trans hz10
  have hr210 : RdZ z10 (some ⟨g2, 0, none⟩) E18.cells := hr29.mono hz10
  refine h_call ((hA1 z10 hT10 (hrl6.mono hz610) (scl6.mono hz610) (some ⟨g94, 0, none⟩) hr10 k9 (by omega)).comes) rfl rfl rfl fun ⟨⟨z11, k11⟩, hz11, hk11⟩ => ?_
  dsimp only at hz11 hk11 ⊢
  have hr211 : RdZ z11 (some ⟨g2, 0, none⟩) E18.cells := hr210.mono hz11
  refine h_op (r_pick rfl rfl) ?_
  refine h_op (r_move rfl) ?_
  refine h_op (r_move rfl) ?_
  refine h_op (r_loadr rfl) ?_
  refine h_op (r_build rfl) ?_
  refine h_opX (x_bsl rfl rfl) fun g101 => ?_
  change H _ _ _ _ _ (.own (.slice (some ⟨g101, 0, none⟩) 1 1) 1 _ _ (its [zItem]) :: _) _
  refine h_freezeO (.slice (some ⟨g101, 0, none⟩) 1 1) fun z12 B12 c12 e12 hle12 hlen12 hnil12 hz12 hr12 => ?_
  injection e12 with e12 _ e12'
  subst e12 e12'
  have hT12 : RdZ z12 (some ⟨1, 0, none⟩) hashT := (hT10.mono hz11).mono hz12
  refine h_call ((hA2 z12 hT12 (some ⟨g101, 0, none⟩) hr12 k11 (by omega)).comes) rfl rfl rfl fun ⟨⟨z13, k13⟩, hz13, hk13⟩ => ?_
  dsimp only at hz13 hk13 ⊢
  refine h_op (r_not rfl) ?_
  refine h_op (r_pick rfl rfl) ?_
  refine h_op (r_assign rfl) ?_
  refine h_nil ?_
  refine q_then ?_
  refine h_ret ?_
  have hend : LeZ h z13 := ((hzz.trans hz6).trans hz610).trans ((hz11.trans hz12).trans hz13)
  exact h_ret1 rfl rfl fun w s => ⟨⟨z13, hend⟩, rfl, (same (L' := [.zone true z13]) w s).res (List.Sublist.refl _) (by simp [Fa.wr])⟩
end Go.Proofs.YtjhocljhhpkiiaaGreatDoor
/- U132 -/
namespace Go.Proofs.YtjhocljhhpkiiaaGreatDoor
set_option linter.unusedSimpArgs false
set_option linter.unusedVariables false
open Go.RowKit
section
variable (h : Zh) [hT : RdZ h (some ⟨1, 0, none⟩) hashT] [hE : RdZ h (some ⟨0, 0, none⟩) [rty 90]]
theorem MverifyCompletes_s (i : Int) (l : List En) (B : Option Addr) (c : Nat) [hB : RdZ h B (ents l)] (hv : SlsZ h l) (ks : List B32) (K : Option Addr) (kc : Nat) [hK : RdZ h K (dgs ks)] (hkc : ks.length ≤ kc) (hkl : ks.length ≤ 9223372036854775807) : Spec Tryz.prog 13 [.int .i64 i, .slice B l.length c, .slice K ks.length kc].toArray [] [.zone true h] (fun _ : {x : Zh // LeZ h x} => .bool true) (fun x => [.zone true x.1]) := by
  have hk1 := rKeys_s ks K kc hkl
  refine spec_of Tryz.func13 rfl (n := 95) rfl rfl ?_
  intro W
  by_cases hi : 0 ≤ i ∧ i ≤ 256
  · obtain ⟨n, rfl⟩ : ∃ n : Nat, i = (n : Int) := ⟨i.toNat, by omega⟩
    have hn : n ≤ 256 := by omega
    by_cases hf : fewM l = true
    · have hvl0 := hv.few hf
      have hal : Alike (ofM l) 0 := Alike.start (ofM_nodup l)
      have hlm : (ofM l).length ≤ 12 := Nat.le_trans (ofM_len l) (by unfold fewM at hf; rw [Bool.and_eq_true, decide_eq_true_eq] at hf; exact hf.1)
      have hht := mkT_ht (by omega) hal
      have hsz := mkT_sz (by omega) hal
      have hsz2 : (ofM l).length * (256 - 0) ≤ 12 * 256 := Nat.mul_le_mul hlm (by omega)
      have hgs := fun (h' : Zh) (hv' : ValsZ h' (ofM l)) key => getS_ok hv' key
      have hget := fun A c key => Get_s (ofM l) A c key (by omega)
      refine h_seq ?_
      refine h_reg ?_
      refine h_op (r_assign rfl) ?_
      refine h_nil ?_
      refine q_then ?_
      refine h_seq ?_
      refine h_reg ?_
      refine h_op (r_move rfl) ?_
      refine h_op (r_move rfl) ?_
      refine h_call ((Tree_yes n hn l B c hf h hvl0).comes) rfl rfl rfl fun ⟨⟨h1, q1, A1, c1⟩, hle1, ht1⟩ => ?_
      dsimp only at hle1 ht1 ⊢
      refine h_freezeO (.slice A1 (ofM l).length c1) fun h2 B2 c2 e2 hle2 hlen2 hnil2 hz2 hr2 => ?_
      injection e2 with e2 _ e3
      subst e2 e3
      have hT2 : RdZ h2 (some ⟨1, 0, none⟩) hashT := (hT.mono hle1).mono hz2
      have hE2 : RdZ h2 (some ⟨0, 0, none⟩) [rty 90] := (hE.mono hle1).mono hz2
      have ht2 : TrZ n h2 (mkT (ofM l) 0) q1 := ⟨ht1.ok.mono hz2⟩
      have hv2 := ValsZ.few hvl0 (hle1.trans hz2)
      have hRt := fun h' hv' => Root_any n hn h' (d := 0) (by omega) hal (by omega) hv' A1 c1
      refine h_op (r_move rfl) ?_
      refine h_op (r_extract rfl rfl) ?_
      refine h_op (r_extract rfl rfl) ?_
      refine h_op (r_extract rfl rfl) ?_
      refine h_op (r_assign rfl) ?_
      refine h_op (r_assign rfl) ?_
      refine h_op (r_assign rfl) ?_
      refine h_nil ?_
      refine q_then ?_
      refine h_seq ?_
      refine h_reg ?_
      refine h_op (r_move rfl) ?_
      refine h_call ((Hash_s n hn).comes) rfl rfl rfl fun ⟨gh, gc⟩ => ?_
      dsimp only
      by_cases hk20 : ks.length ≤ 20
      · refine h_op (r_assign rfl) ?_
        refine h_nil ?_
        refine q_then ?_
        refine h_seq ?_
        refine h_seq ?_
        refine h_reg ?_
        refine h_op (r_move rfl) ?_
        refine h_op (r_not rfl) ?_
        refine h_op (r_move rfl) ?_
        refine h_op (r_move rfl) ?_
        refine h_op (r_len rfl) ?_
        refine h_op (r_bool (r_gtr rfl rfl) (decide_eq_false (by omega))) ?_
        refine h_op (r_pick rfl rfl) ?_
        refine h_op (r_move rfl) ?_
        refine h_op (r_move rfl) ?_
        by_cases he : keysE ks = 0
        · have hks := keysE_ok he
          have hap := addT_parse n hal ks
          have hal2 := addT_len n (mkT (ofM l) 0) ks 0
          rw [show rootM n (ofM l) 0 = dgT n (mkT (ofM l) 0) from rfl] at hRt
          generalize hT0 : mkT (ofM l) 0 = T at *
          have h0 : 0 < (dgs ks).length := by rw [dgs_len]; omega
          obtain ⟨bK, oK, rfl, -⟩ := hK.at_ 0 _ (List.getElem?_eq_getElem h0)
          have hK2 : RdZ h2 (some ⟨bK, oK, none⟩) (dgs ks) := hK.mono (hle1.trans hz2)
          refine h_call (hk1.comes) rfl rfl rfl fun _ => ?_
          refine h_op (r_bool (r_neq rfl rfl) (decide_eq_false (fun h => h he))) ?_
          refine h_op (r_pick rfl rfl) ?_
          refine h_nil ?_
          refine q_then ?_
          refine h_condF rfl ?_
          refine h_skip ?_
          refine q_then ?_
          refine h_seq ?_
          refine h_reg ?_
          refine h_op (r_move rfl) ?_
          refine h_op (r_move rfl) ?_
          refine h_call ((hRt h2 hv2).comes) rfl rfl rfl fun _ => ?_
          refine h_opX (x_alloc) fun g11 => ?_
          refine h_opS (s_storer rfl rfl) ?_
          refine h_nil ?_
          refine q_then ?_
          refine h_seq ?_
          refine h_reg ?_
          refine h_op (r_assign rfl) ?_
          refine h_nil ?_
          refine q_then ?_
          refine h_seq ?_
          refine h_seq ?_
          refine h_reg ?_
          refine h_op (r_move rfl) ?_
          refine h_op (r_len rfl) ?_
          refine h_op (r_move rfl) ?_
          refine h_nil ?_
          refine q_then ?_
          refine h_block ?_
          refine h_nil_own 25 3 (xs := cbs []) rfl ?_
          refine h_loop (fun (s : List CB × Zh × Option Addr × Nat) => LeZ h2 s.2.1 ∧ MapCl (ofM l) ks (fun _ => false) s.1 ∧ ClsZ s.2.1 s.1) (fun (s : List CB × Zh × Option Addr × Nat) => [(48, .int .i64 (s.1.length : Int)), (47, .int .i64 (ks.length : Int)), (46, .slice (some ⟨bK, oK, none⟩) ks.length kc), (12, .slice s.2.2.1 s.1.length s.2.2.2), (7, .slice A1 (ofM l).length c1), (8, .pointer q1), (10, .pointer (some ⟨gh, 0, none⟩)), (2, .slice (some ⟨bK, oK, none⟩) ks.length kc), (11, .pointer (some ⟨g11, 0, none⟩))]) (fun (s : List CB × Zh × Option Addr × Nat) => [.own (.slice s.2.2.1 s.1.length s.2.2.2) s.1.length 25 3 (cbs s.1), .blk g11 (dgT n T).cells 42, .zone true s.2.1, .blk gh [.pointer (some ⟨gc, 0, none⟩), .int .i64 (n : Int)] 142, CN gc 0]) (fun (s : List CB × Zh × Option Addr × Nat) => ks.length - s.1.length) ([], h2, none, 0) (⟨LeZ.refl h2, MapCl.nil _ _ _, fun x hx => by cases hx⟩) ⟨rfl, rfl, rfl, rfl, rfl, rfl, rfl, rfl, rfl, trivial⟩ (same) ?_
          rintro ⟨cl, z, A12, c12⟩ ⟨hz, hm, hcz⟩
          dsimp only at hz hm hcz ⊢
          have hKz : RdZ z (some ⟨bK, oK, none⟩) (dgs ks) := hK2.mono hz
          have hrz : RdZ z A1 (ents (ofM l)) := hr2.mono hz
          have hcll := hm.len
          refine h_seq ?_
          refine h_reg ?_
          refine h_op (r_lss rfl rfl) ?_
          refine h_nil ?_
          refine q_then ?_
          refine h_seq ?_
          refine h_cond rfl (fun hlt => ?_) (fun hlt => ?_)
          · have hk2 : cl.length < ks.length := by omega
            have hx := getD_get zB32 hk2
            have hd := dgs_at (l := ks) (k := cl.length) hk2
            generalize ks.getD cl.length zB32 = key at *
            obtain ⟨hgv, hgl⟩ := hgs z (hv2.mono hz) key
            have hgf := getS_few hf key
            have hgn := hgv.len
            refine h_skip ?_
            refine q_then ?_
            refine h_seq ?_
            refine h_block ?_
            refine h_seq ?_
            refine h_reg ?_
            refine h_op (r_idx rfl rfl) ?_
            refine h_op (r_nthr rfl (out := key.cells) (B32.cells_length _) hd) ?_
            refine h_opX (x_alloc) fun g14 => ?_
            refine h_opS (s_storer rfl rfl) ?_
            refine h_nil ?_
            refine q_then ?_
            refine h_seq ?_
            refine h_reg ?_
            refine h_op (r_move rfl) ?_
            refine h_op (r_loadr rfl) ?_
            refine h_call ((hget A1 c1 key).comes) rfl rfl rfl fun _ => ?_
            refine h_op (r_move rfl) ?_
            refine h_op (r_extract rfl rfl) ?_
            refine h_op (r_extract rfl rfl) ?_
            refine h_op (r_assign rfl) ?_
            refine h_op (r_assign rfl) ?_
            refine h_nil ?_
            refine q_then ?_
            refine h_reg ?_
            refine h_freeze g14 (cs := key.cells) (T := 35) fun z3 hz3 hr3 => ?_
            refine h_op (r_move rfl) ?_
            refine h_op (r_slA rfl) ?_
            refine h_op (r_move rfl) ?_
            refine h_op (r_move rfl) ?_
            refine h_op (r_build (out := (Claim.cells ⟨⟨some ⟨g14, 0, none⟩, 32, 32⟩, getS (getE' (ofM l) key), (getE' (ofM l) key).isSome⟩)) rfl) ?_
            refine h_opX (x_bsl rfl rfl) fun g63 => ?_
            refine h_opX (x_app rfl rfl (k := 3)) fun ⟨g64, c64⟩ => ?_
            refine h_op (r_assign rfl) ?_
            refine h_nil ?_
            refine q_block ?_
            refine q_then ?_
            refine h_reg ?_
            refine h_op (r_add rfl rfl) ?_
            refine h_op (r_move rfl) ?_
            refine h_nil ?_
            have hs3 : cbs cl ++ Claim.cells ⟨⟨some ⟨g14, 0, none⟩, 32, 32⟩, getS (getE' (ofM l) key), (getE' (ofM l) key).isSome⟩ = cbs (cl ++ [⟨⟨⟨some ⟨g14, 0, none⟩, 32, 32⟩, getS (getE' (ofM l) key), (getE' (ofM l) key).isSome⟩, key.1, getV (getE' (ofM l) key)⟩]) := by unfold cbs; rw [List.flatMap_append]; simp [CB.cells]
            have hcl1 : cl.length + 1 = (cl ++ [(⟨⟨⟨some ⟨g14, 0, none⟩, 32, 32⟩, getS (getE' (ofM l) key), (getE' (ofM l) key).isSome⟩, key.1, getV (getE' (ofM l) key)⟩ : CB)]).length := by simp
            rw [hs3, hcl1]
            exact h_back (cl ++ [⟨⟨⟨some ⟨g14, 0, none⟩, 32, 32⟩, getS (getE' (ofM l) key), (getE' (ofM l) key).isSome⟩, key.1, getV (getE' (ofM l) key)⟩], z3, some ⟨g64, 0, none⟩, c64) (⟨hz.trans hz3, hm.snoc hx (keyOf_val key) rfl (by dsimp only; omega) (by dsimp only; omega) rfl (by dsimp only; simp), fun x hx => (List.mem_append.1 hx).elim (fun h => hcz.mono hz3 x h) fun h => by rw [List.mem_singleton.1 h]; exact ⟨sl32 hr3, hgv.mono hz3⟩⟩) ((by dsimp only; rw [List.length_append, List.length_singleton]; omega)) ⟨aI rfl (by simp), rfl, rfl, rfl, rfl, rfl, rfl, rfl, rfl, trivial⟩ (same)
          · have hcl : cl.length = ks.length := by omega
            refine h_freezeO (.slice A12 cl.length c12) fun z3 B3 c3 e3 hle3 hlen3 hnil3 hz3 hr3 => ?_
            injection e3 with e3 _ e3'
            subst e3 e3'
            have hz23 := hz.trans hz3
            have hT3 : RdZ z3 (some ⟨1, 0, none⟩) hashT := hT2.mono hz23
            have hK3 : RdZ z3 (some ⟨bK, oK, none⟩) (dgs ks) := hK2.mono hz23
            have hPr := mProve_s z3 ks (some ⟨bK, oK, none⟩) kc n hn gh gc 0 (by decide) T q1 ⟨ht2.ok.mono hz23⟩ hkc he (by omega) (by omega)
            refine h_exit ?_
            refine q_thenE ?_
            refine q_thenE ?_
            refine q_blockE ?_
            refine q_then ?_
            refine h_seq ?_
            refine h_reg ?_
            refine h_op (r_move rfl) ?_
            refine h_op (r_move rfl) ?_
            refine h_op (r_move rfl) ?_
            refine h_call (hPr.comes) rfl rfl rfl fun ⟨A70, c70⟩ => ?_
            dsimp only
            refine h_freezeO (.slice A70 (addT n T ks 0).length c70) fun z4 B4 c4 e4 hle4 hlen4 hnil4 hz4 hr4 => ?_
            injection e4 with e4 _ e4'
            subst e4 e4'
            have hEn := mEncode_s z4 (addT n T ks 0) A70 c70 hle4 (by omega) (checkM_ok hap)
            refine h_op (r_move rfl) ?_
            refine h_op (r_extract rfl rfl) ?_
            refine h_op (r_extract rfl rfl) ?_
            refine h_op (r_assign rfl) ?_
            refine h_op (r_assign rfl) ?_
            refine h_nil ?_
            refine q_then ?_
            refine h_seq ?_
            refine h_reg ?_
            refine h_op (r_move rfl) ?_
            refine h_call (hEn.comes) rfl rfl rfl fun ⟨A75, c75⟩ => ?_
            dsimp only
            refine h_freezeO (.slice A75 (encM (addT n T ks 0)).length c75) fun z5 B5 c5 e5 hle5 hlen5 hnil5 hz5 hr5 => ?_
            injection e5 with e5 _ e5'
            subst e5 e5'
            refine h_freeze g11 (cs := (dgT n T).cells) (T := 42) fun z6 hz6 hr6 => ?_
            have hz36 := (hz4.trans hz5).trans hz6
            have hz26 := hz23.trans hz36
            have hT6 : RdZ z6 (some ⟨1, 0, none⟩) hashT := hT2.mono hz26
            have hE6 : RdZ z6 (some ⟨0, 0, none⟩) [rty 90] := hE2.mono hz26
            have sb : SlZ z6 ⟨A75, (encM (addT n T ks 0)).length, c75⟩ (encM (addT n T ks 0)) := ⟨rfl, hle5, hnil5, hr5.mono hz6⟩
            have sr : SlZ z6 ⟨some ⟨g11, 0, none⟩, 32, 32⟩ (dgT n T).1 := sl32 hr6
            have hrc : RdZ z6 A12 (cbs cl) := hr3.mono hz36
            have hcc : ClsZ z6 cl := (hcz.mono hz3).mono hz36
            have hvl : ∀ x ∈ cl, x.vb.length ≤ 100000000 := fun x hx => by
              obtain ⟨j, hj⟩ := List.mem_iff_getElem?.1 hx
              have := (hm.at_ j x hj).2.2.1
              omega
            have hel : (encM (addT n T ks 0)).length ≤ 900000 := by
              have h1 := encM_len (addT n T ks 0)
              have h2 := lenI_le (addT n T ks 0)
              omega
            have hres := mver_true n hal ks he cl (by rw [← hT0] at *; exact hm) hcl ⟨some ⟨g11, 0, none⟩, 32, 32⟩ rfl (dgT n T).1 (by rw [hT0]; exact keyOf_val _) (by rw [hT0]; omega)
            rw [hT0] at hres
            refine h_op (r_move rfl) ?_
            refine h_op (r_extract rfl rfl) ?_
            refine h_op (r_extract rfl rfl) ?_
            refine h_op (r_assign rfl) ?_
            refine h_op (r_assign rfl) ?_
            refine h_nil ?_
            refine q_then ?_
            refine h_seq ?_
            refine h_reg ?_
            refine h_call ((alive21_s z6).comes) rfl rfl rfl fun ⟨z7, hz7⟩ => ?_
            dsimp only
            have hT7 : RdZ z7 (some ⟨1, 0, none⟩) hashT := hT6.mono hz7
            have hE7 : RdZ z7 (some ⟨0, 0, none⟩) [rty 90] := hE6.mono hz7
            have hC := mvCheck_s n hn z7 gh gc cl A12 c12 (hr := hrc.mono hz7) (hcc.mono hz7) hvl (by omega) 0 (by decide) ⟨some ⟨g11, 0, none⟩, 32, 32⟩ ⟨A75, (encM (addT n T ks 0)).length, c75⟩ (dgT n T).1 (encM (addT n T ks 0)) (hRt := sr.mono hz7) (hB := sb.mono hz7) hel
            rw [hres] at hC
            refine h_op (r_move rfl) ?_
            refine h_op (r_move rfl) ?_
            refine h_op (r_bool (r_eql rfl rfl) rfl) ?_
            refine h_op (r_pick rfl rfl) ?_
            refine h_op (r_move rfl) ?_
            refine h_op (r_move rfl) ?_
            refine h_op (r_bool (r_eql rfl rfl) rfl) ?_
            refine h_op (r_pick rfl rfl) ?_
            refine h_op (r_move rfl) ?_
            refine h_op (r_move rfl) ?_
            refine h_op (r_slA rfl) ?_
            refine h_op (r_move rfl) ?_
            refine h_op (r_move rfl) ?_
            refine h_call (hC.comes) rfl rfl rfl fun ⟨⟨z8, k8⟩, hz8, hk8⟩ => ?_
            dsimp only at hz8 hk8 ⊢
            refine h_op (r_bool (r_eql rfl rfl) rfl) ?_
            refine h_op (r_pick rfl rfl) ?_
            refine h_op (r_assign rfl) ?_
            refine h_nil ?_
            refine q_then ?_
            refine h_ret ?_
            exact h_ret1 rfl rfl fun w s => ⟨⟨z8, ((hle1.trans hz2).trans hz26).trans (LeZ.trans hz7 hz8)⟩, rfl, (same (L' := [.zone true z8]) w s).res (List.Sublist.refl _) (by simp [Fa.wr])⟩
        · refine h_call (hk1.comes) rfl rfl rfl fun _ => ?_
          refine h_op (r_bool (r_neq rfl rfl) (decide_eq_true he)) ?_
          refine h_op (r_pick rfl rfl) ?_
          refine h_nil ?_
          refine q_then ?_
          refine h_condT rfl ?_
          refine h_seq ?_
          refine h_reg ?_
          refine h_call ((alive21_s h2).comes) rfl rfl rfl fun ⟨h9, hle9⟩ => ?_
          dsimp only
          refine h_op (r_assign rfl) ?_
          refine h_nil ?_
          refine q_then ?_
          refine h_ret ?_
          refine q_thenR ?_
          exact h_ret1 rfl rfl fun w s => ⟨⟨h9, (hle1.trans hz2).trans hle9⟩, rfl, (same (L' := [.zone true h9]) w s).res (List.Sublist.refl _) (by simp [Fa.wr])⟩
      · refine h_op (r_assign rfl) ?_
        refine h_nil ?_
        refine q_then ?_
        refine h_seq ?_
        refine h_seq ?_
        refine h_reg ?_
        refine h_op (r_move rfl) ?_
        refine h_op (r_not rfl) ?_
        refine h_op (r_move rfl) ?_
        refine h_op (r_move rfl) ?_
        refine h_op (r_len rfl) ?_
        refine h_op (r_bool (r_gtr rfl rfl) (decide_eq_true (by omega))) ?_
        refine h_op (r_pick rfl rfl) ?_
        refine h_op (r_move rfl) ?_
        refine h_opOff ?_
        refine h_opOff ?_
        refine h_opOff ?_
        refine h_op (r_pick rfl rfl) ?_
        refine h_nil ?_
        refine q_then ?_
        refine h_condT rfl ?_
        refine h_seq ?_
        refine h_reg ?_
        refine h_call ((alive21_s h2).comes) rfl rfl rfl fun ⟨h9, hle9⟩ => ?_
        dsimp only
        refine h_op (r_assign rfl) ?_
        refine h_nil ?_
        refine q_then ?_
        refine h_ret ?_
        refine q_thenR ?_
        exact h_ret1 rfl rfl fun w s => ⟨⟨h9, (hle1.trans hz2).trans hle9⟩, rfl, (same (L' := [.zone true h9]) w s).res (List.Sublist.refl _) (by simp [Fa.wr])⟩
    · refine h_seq ?_
      refine h_reg ?_
      refine h_op (r_assign rfl) ?_
      refine h_nil ?_
      refine q_then ?_
      refine h_seq ?_
      refine h_reg ?_
      refine h_op (r_move rfl) ?_
      refine h_op (r_move rfl) ?_
      refine h_call ((Tree_few n hn l B c (by simpa using hf)).comes) rfl rfl rfl fun _ => ?_
      refine h_op (r_move rfl) ?_
      refine h_op (r_extract rfl rfl) ?_
      refine h_op (r_extract rfl rfl) ?_
      refine h_op (r_extract rfl rfl) ?_
      refine h_op (r_assign rfl) ?_
      refine h_op (r_assign rfl) ?_
      refine h_op (r_assign rfl) ?_
      refine h_nil ?_
      refine q_then ?_
      refine h_seq ?_
      refine h_reg ?_
      refine h_op (r_move rfl) ?_
      refine h_call ((Hash_s n hn).comes) rfl rfl rfl fun ⟨gh, gc⟩ => ?_
      dsimp only
      refine h_op (r_assign rfl) ?_
      refine h_nil ?_
      refine q_then ?_
      refine h_seq ?_
      refine h_seq ?_
      refine h_reg ?_
      refine h_op (r_move rfl) ?_
      refine h_op (r_not rfl) ?_
      refine h_op (r_move rfl) ?_
      refine h_opOff ?_
      refine h_opOff ?_
      refine h_opOff ?_
      refine h_op (r_pick rfl rfl) ?_
      refine h_op (r_move rfl) ?_
      refine h_opOff ?_
      refine h_opOff ?_
      refine h_opOff ?_
      refine h_op (r_pick rfl rfl) ?_
      refine h_nil ?_
      refine q_then ?_
      refine h_condT rfl ?_
      refine h_seq ?_
      refine h_reg ?_
      refine h_call ((alive21_s h).comes) rfl rfl rfl fun ⟨h9, hle9⟩ => ?_
      dsimp only
      refine h_op (r_assign rfl) ?_
      refine h_nil ?_
      refine q_then ?_
      refine h_ret ?_
      refine q_thenR ?_
      exact h_ret1 rfl rfl fun w s => ⟨⟨h9, hle9⟩, rfl, (same (L' := [.zone true h9]) w s).res (List.Sublist.refl _) (by simp [Fa.wr])⟩
  · refine h_seq ?_
    refine h_reg ?_
    refine h_op (r_assign rfl) ?_
    refine h_nil ?_
    refine q_then ?_
    refine h_seq ?_
    refine h_reg ?_
    refine h_op (r_move rfl) ?_
    refine h_op (r_move rfl) ?_
    refine h_call ((Tree_bits i hi l B c).comes) rfl rfl rfl fun _ => ?_
    refine h_op (r_move rfl) ?_
    refine h_op (r_extract rfl rfl) ?_
    refine h_op (r_extract rfl rfl) ?_
    refine h_op (r_extract rfl rfl) ?_
    refine h_op (r_assign rfl) ?_
    refine h_op (r_assign rfl) ?_
    refine h_op (r_assign rfl) ?_
    refine h_nil ?_
    refine q_then ?_
    refine h_seq ?_
    refine h_reg ?_
    refine h_op (r_move rfl) ?_
    refine h_call ((Hash_no i hi).comes) rfl rfl rfl fun _ => ?_
    refine h_op (r_assign rfl) ?_
    refine h_nil ?_
    refine q_then ?_
    refine h_seq ?_
    refine h_seq ?_
    refine h_reg ?_
    refine h_op (r_move rfl) ?_
    refine h_op (r_not rfl) ?_
    refine h_op (r_move rfl) ?_
    refine h_opOff ?_
    refine h_opOff ?_
    refine h_opOff ?_
    refine h_op (r_pick rfl rfl) ?_
    refine h_op (r_move rfl) ?_
    refine h_opOff ?_
    refine h_opOff ?_
    refine h_opOff ?_
    refine h_op (r_pick rfl rfl) ?_
    refine h_nil ?_
    refine q_then ?_
    refine h_condT rfl ?_
    refine h_seq ?_
    refine h_reg ?_
    refine h_call ((alive21_s h).comes) rfl rfl rfl fun ⟨h9, hle9⟩ => ?_
    dsimp only
    refine h_op (r_assign rfl) ?_
    refine h_nil ?_
    refine q_then ?_
    refine h_ret ?_
    refine q_thenR ?_
    exact h_ret1 rfl rfl fun w s => ⟨⟨h9, hle9⟩, rfl, (same (L' := [.zone true h9]) w s).res (List.Sublist.refl _) (by simp [Fa.wr])⟩
end
end Go.Proofs.YtjhocljhhpkiiaaGreatDoor
