/- The tree that grows out of a map; put: a key that is put into a tree; put: At, Put, All; Proofs compared, copied, held against a claim; Proofs copied, and held against a claim; A proof's siblings, expanded: the program; fold: the end, Backward; fold.ways: what it yields; fold.Steps, fold.Root; Booleans compared; small laws; Shifts by eight; a slice's first cells as an array; verify: the small steps, supports, leads; codec: Size, Kind, Encode of a proof that is well-formed; codec.Encode of a proof that is well-formed; codec.Decode of the bytes of a proof that is well-formed; codec.Decode of the bytes of a proof that is well-formed; codec.Decode, of all bytes; Interface values held against nil; verify: Verify, Claim, Accepts; The library's comparison of byte slices; A slice cut at its length and its capacity; Calls of the library's entries (reflection), as single operations; errors.As at the errors of this program; fault.Code, First (joined texts: U41 U42 U43 U44 U45 U17 U18 U19 U20 N12 N13 U90 U56 U57 U58 U59 U91 N14 U92 N15 N16 N17 U93) -/
import Derived.Test.YtjhocljhhpkiiaaGreatDoorR8
import Derived.WideLaws
import Derived.Lib.BytesEntry
import Derived.Lib.Bytealg
import Derived.Stop.Asserts
import Derived.LaidEql
set_option linter.all false
/- U41 -/
namespace Go.Proofs.YtjhocljhhpkiiaaGreatDoor
open Go.RowKit
theorem mkT_cost {m : List En} {d : Nat} (hd : d ≤ 256) (ha : Alike m d) : (mkT m d).cost ≤ m.length * (4 * (257 - d)) := by
 refine parts_ind (p := fun m d => (mkT m d).cost ≤ m.length * (4 * (257 - d))) ?_ ?_ ?_ (256 - d) m d (Nat.le_refl _) hd ha
 ·intro d
  rw [mkT_nil]; exact Nat.zero_le _
 ·intro e d h
  rw [mkT_one e h]
  show 2 ≤ 1 * (4 * (257 - d))
  omega
 ·intro m d _ hm hd i1 i2
  rw [mkT_two hm (by omega)]
  have hl := part_len m d
  have e1 := i01 ((mkT (part m d false) (d + 1)).kind = 0)
  have e2 := i01 ((mkT (part m d true) (d + 1)).kind = 0)
  have e3 : 4 * (257 - d) = 4 * (257 - (d + 1)) + 4 := by omega
  have e4 : m.length * (4 * (257 - d)) = (part m d false).length * (4 * (257 - (d + 1))) + (part m d true).length * (4 * (257 - (d + 1))) + m.length * 4 := by
   rw [e3, Nat.mul_add, ← hl, Nat.add_mul]
  rw [e4]
  show _ + _ + _ + _ + 1 ≤ _
  omega
theorem joinT_mk {m : List En} {d : Nat} (hm : 1 < m.length) (hd : d < 256) : joinT (mkT (part m d false) (d + 1)) (mkT (part m d true) (d + 1)) = mkT m d ∧ ∀ k, k + (mkT (part m d false) (d + 1)).cost + (mkT (part m d true) (d + 1)).cost + joinC (mkT (part m d false) (d + 1)) (mkT (part m d true) (d + 1)) = k + (mkT m d).cost := by
 have hl := part_len m d
 have k1 := mkT_kind (part m d false) (d := d + 1) (by omega)
 have k2 := mkT_kind (part m d true) (d := d + 1) (by omega)
 rw [mkT_two hm (by omega)]
 unfold joinT joinC
 rw [if_neg (by omega), if_neg (by omega), if_neg (by omega), if_neg (by omega)]
 refine ⟨rfl, fun k => ?_⟩
 show _ = k + (_ + _ + _ + _ + 1)
 omega
theorem Grow_any (n : Nat) (hn : n ≤ 256) (gh gc : Nat) {m : List En} {d : Nat} (hd : d ≤ 256) (ha : Alike m d) : m.length ≤ 1000000 → ∀ (h : Zh) (k : Nat) (B : Option Addr) (c : Nat), RdZ h (some ⟨1, 0, none⟩) hashT → ValsZ h m → k + (mkT m d).cost ≤ 10000000000 →
  Spec Tryz.prog 65 [.pointer (some ⟨gh, 0, none⟩), .slice B m.length c, .int .i64 (d : Int)].toArray [HR gh gc n, .rd B (ents m)] [.zone true h, CN gc k] (fun x : {x : Zh × Option Addr // LeZ h x.1 ∧ TrZ n x.1 (mkT m d) x.2} => .pointer x.1.2) (fun x => [.zone true x.1.1, CN gc (k + (mkT m d).cost)]) := by
 refine parts_ind (p := fun m d => m.length ≤ 1000000 → ∀ (h : Zh) (k : Nat) (B : Option Addr) (c : Nat), RdZ h (some ⟨1, 0, none⟩) hashT → ValsZ h m → k + (mkT m d).cost ≤ 10000000000 →
  Spec Tryz.prog 65 [.pointer (some ⟨gh, 0, none⟩), .slice B m.length c, .int .i64 (d : Int)].toArray [HR gh gc n, .rd B (ents m)] [.zone true h, CN gc k] (fun x : {x : Zh × Option Addr // LeZ h x.1 ∧ TrZ n x.1 (mkT m d) x.2} => .pointer x.1.2) (fun x => [.zone true x.1.1, CN gc (k + (mkT m d).cost)])) ?_ ?_ ?_ (256 - d) m d (Nat.le_refl _) hd ha
 ·intro d _ h k B c hT _ _
  rw [mkT_nil]
  refine spec_of Tryz.func65 rfl (n := 34) rfl rfl ?_
  intro W
  refine yR ?_
  refine yS rfl ?_
  refine yN ?_
  refine h_seq ?_
  refine yR ?_
  refine yM rfl ?_
  refine h_op (r_len rfl) ?_
  refine yN ?_
  refine h_block ?_
  refine yR ?_
  refine h_op (r_bool (r_eql rfl rfl) (show _ = true by simp)) ?_
  refine yS rfl ?_
  refine yN ?_
  refine h_condT rfl ?_
  refine yR ?_
  refine yS rfl ?_
  refine yN ?_
  refine h_ret ?_
  refine q_blockR ?_
  refine q_thenR ?_
  exact h_ret1 rfl rfl fun w s => ⟨⟨(h, none), LeZ.refl h, ⟨rfl⟩⟩, rfl, (same (L' := [.zone true h, CN gc k]) w s).res (List.Sublist.refl _) (by simp [Fa.wr])⟩
 ·intro e d hd _ h k B c hT hv hk
  rw [mkT_one e hd] at hk ⊢
  obtain ⟨hs, hvl⟩ := hv e (by simp)
  obtain ⟨⟨key, s⟩, b⟩ := e
  dsimp only at hs hvl
  have hk' : k + 2 ≤ 10000000000 := hk
  refine spec_of Tryz.func65 rfl (n := 34) rfl rfl ?_
  intro W
  refine yR ?_
  refine yS rfl ?_
  refine yN ?_
  refine h_seq ?_
  refine yR ?_
  refine yM rfl ?_
  refine h_op (r_len rfl) ?_
  refine yN ?_
  refine h_block ?_
  refine yR ?_
  refine h_op (r_bool (r_eql rfl rfl) (show _ = false by simp)) ?_
  refine yS rfl ?_
  refine yN ?_
  refine h_condF rfl ?_
  refine yR ?_
  refine h_op (r_bool (r_eql rfl rfl) (show _ = true by simp)) ?_
  refine yS rfl ?_
  refine yN ?_
  refine h_condT rfl ?_
  refine h_pure (φ := ∃ b o, B = some ⟨b, o, none⟩) (fun w s' => Rd.some (s'.ok (.rd B (ents [⟨⟨key, s⟩, b⟩])) (by simp)) (by rw [ents_len]; exact Nat.zero_lt_succ _)) ?_
  rintro ⟨bb, o, rfl⟩
  refine yR ?_
  refine yM rfl ?_
  refine yM rfl ?_
  refine h_op (r_idx rfl rfl (hm := by simp)) ?_
  refine h_op (r_nthr rfl (out := Entry.cells ⟨key, s⟩) (Entry.cells_length _) (ents_at0 ⟨⟨key, s⟩, b⟩)) ?_
  refine h_call ((NewLeaf_s n hn gh gc k (by omega) h key s b (by omega)).comes) rfl rfl rfl fun ⟨⟨h1, p1⟩, hle, ht⟩ => ?_
  dsimp only at hle ht ⊢
  refine yS rfl ?_
  refine yN ?_
  refine h_ret ?_
  refine q_blockR ?_
  refine q_thenR ?_
  exact h_ret1 rfl rfl fun w s => ⟨⟨(h1, p1), hle, ht⟩, rfl, (same (L' := [.zone true h1, CN gc (k + 2)]) w s).res (List.Sublist.refl _) (by simp [Fa.wr])⟩
 ·intro m d ha hm hd i1 i2 hl h k B c hT hv hk
  have p1 := part_len m d
  obtain ⟨hj, hcost⟩ := joinT_mk hm hd
  have hck := hcost k
  have c1 := mkT_cnt (show d + 1 ≤ 256 by omega) (ha.part false)
  have c2 := mkT_cnt (show d + 1 ≤ 256 by omega) (ha.part true)
  rw [← hck, ← hj]
  rw [← hck] at hk
  refine spec_of Tryz.func65 rfl (n := 34) rfl rfl ?_
  intro W
  refine yR ?_
  refine yS rfl ?_
  refine yN ?_
  refine h_seq ?_
  refine yR ?_
  refine yM rfl ?_
  refine h_op (r_len rfl) ?_
  refine yN ?_
  refine h_block ?_
  refine yR ?_
  refine h_op (r_eql rfl rfl) ?_
  refine yS rfl ?_
  refine yN ?_
  refine h_no rfl ((by omega)) ?_
  refine yR ?_
  refine h_op (r_eql rfl rfl) ?_
  refine yS rfl ?_
  refine yN ?_
  refine h_no rfl ((by omega)) ?_
  refine h_skip ?_
  refine q_block ?_
  refine q_then ?_
  refine yR ?_
  refine yM rfl ?_
  refine yM rfl ?_
  refine yM rfl ?_
  refine yM rfl ?_
  refine h_call ((Part_s m B c d false hd (by omega)).comes) rfl rfl rfl fun ⟨A22, c22⟩ => ?_
  refine yM rfl ?_
  refine h_op (r_add rfl rfl) ?_
  refine h_call ((i1 (by omega) h k A22 c22 hT (hv.part d false) (by omega)).comes) rfl rfl rfl fun ⟨⟨h1, q1⟩, hle1, ht1⟩ => ?_
  dsimp only at hle1 ht1 ⊢
  refine yM rfl ?_
  refine yM rfl ?_
  refine yM rfl ?_
  refine h_call ((Part_s m B c d true hd (by omega)).comes) rfl rfl rfl fun ⟨A29, c29⟩ => ?_
  refine yM rfl ?_
  refine h_op (r_add rfl rfl) ?_
  refine h_call ((i2 (by omega) h1 (k + (mkT (part m d false) (d + 1)).cost) A29 c29 (hT.mono hle1) ((hv.part d true).mono hle1) (by omega)).comes) rfl rfl rfl fun ⟨⟨h2, q2⟩, hle2, ht2⟩ => ?_
  dsimp only at hle2 ht2 ⊢
  have hT2 : RdZ h2 (some ⟨1, 0, none⟩) hashT := (hT.mono hle1).mono hle2
  refine h_call ((Join_s n hn gh gc (k + (mkT (part m d false) (d + 1)).cost + (mkT (part m d true) (d + 1)).cost) (by omega) h2 (mkT (part m d false) (d + 1)) (mkT (part m d true) (d + 1)) q1 q2 (by omega)).comes) rfl rfl rfl fun ⟨⟨h3, q3⟩, hle3, ht3⟩ => ?_
  dsimp only at hle3 ht3 ⊢
  refine yS rfl ?_
  refine yN ?_
  refine h_ret ?_
  exact h_ret1 rfl rfl fun w s => ⟨⟨(h3, q3), (hle1.trans hle2).trans hle3, ht3⟩, rfl, (same w s).res (List.Sublist.refl _) (by simp [Fa.wr])⟩
theorem ValsZ.of {h : Zh} {l : List En} (x : ValsZ h l) : ValsZ h (ofM l) := fun e he => x e (ofM_mem he)
theorem Tree_yes (n : Nat) (hn : n ≤ 256) (l : List En) (B : Option Addr) (c : Nat) (hf : fewM l = true) (h : Zh) [hT : RdZ h (some ⟨1, 0, none⟩) hashT] [hB : RdZ h B (ents l)] (hv : ValsZ h l) : Spec Tryz.prog 15 [.int .i64 (n : Int), .slice B l.length c].toArray [] [.zone true h] (fun x : {x : Zh × Option Addr × Option Addr × Nat // LeZ h x.1 ∧ TrZ n x.1 (mkT (ofM l) 0) x.2.1} => .tuple #[.slice x.1.2.2.1 (ofM l).length x.1.2.2.2, .pointer x.1.2.1, .bool true]) (fun x => [.own (.slice x.1.2.2.1 (ofM l).length x.1.2.2.2) (ofM l).length 124 33 (ents (ofM l)), .zone true x.1.1]) := by
 have hl : l.length ≤ 12 := by unfold fewM at hf; rw [Bool.and_eq_true, decide_eq_true_eq] at hf; exact hf.1
 have hlm := ofM_len l
 have hal : Alike (ofM l) 0 := Alike.start (ofM_nodup l)
 have hcost := mkT_cost (show 0 ≤ 256 by omega) hal
 have hcost2 : (mkT (ofM l) 0).cost ≤ 12 * (4 * 257) := Nat.le_trans hcost (Nat.mul_le_mul (by omega) (by omega))
 refine spec_of Tryz.func15 rfl (n := 27) rfl rfl ?_
 intro W
 refine yR ?_
 refine yS rfl ?_
 refine yS rfl ?_
 refine yS rfl ?_
 refine yN ?_
 refine h_seq ?_
 refine yR ?_
 refine yM rfl ?_
 refine h_call ((Right_yes n hn).comes) rfl rfl rfl fun _ => ?_
 refine h_op (r_not rfl) ?_
 refine yM rfl ?_
 refine yM rfl ?_
 refine h_call ((Few_s l B c (by omega)).comes) rfl rfl rfl fun _ => ?_
 rw [hf]
 refine h_op (r_not rfl) ?_
 refine h_op (r_pick rfl rfl) ?_
 refine yN ?_
 refine h_condF rfl ?_
 refine h_skip ?_
 refine q_then ?_
 refine yR ?_
 refine yM rfl ?_
 refine h_call ((Hash_s n hn).comes) rfl rfl rfl fun ⟨gh, gc⟩ => ?_
 dsimp only
 refine yS rfl ?_
 refine yN ?_
 refine h_seq ?_
 refine yR ?_
 refine yM rfl ?_
 refine h_op (r_nilR rfl rfl) ?_
 refine yN ?_
 refine h_condF rfl ?_
 refine h_skip ?_
 refine q_then ?_
 refine yR ?_
 refine yM rfl ?_
 refine h_call ((Of_s l B c (by omega)).comes) rfl rfl rfl fun ⟨A22, c22⟩ => ?_
 dsimp only
 refine yS rfl ?_
 refine yN ?_
 refine yR ?_
 refine yM rfl ?_
 refine yM rfl ?_
 refine yM rfl ?_
 refine h_call ((Grow_any n hn gh gc (show 0 ≤ 256 by omega) hal (by omega) h 0 A22 c22 hT hv.of (by omega)).comes) rfl rfl rfl fun ⟨⟨h1, q1⟩, hle1, ht1⟩ => ?_
 dsimp only at hle1 ht1 ⊢
 refine yS rfl ?_
 refine yS rfl ?_
 refine yS rfl ?_
 refine yN ?_
 refine h_ret ?_
 exact h_ret3 rfl rfl rfl rfl fun w s => ⟨⟨(h1, q1, A22, c22), hle1, ht1⟩, rfl, (same (L' := [.own (.slice A22 (ofM l).length c22) (ofM l).length 124 33 (ents (ofM l)), .zone true h1]) w s).res (List.Sublist.refl _) (by simp [Fa.wr])⟩
end Go.Proofs.YtjhocljhhpkiiaaGreatDoor
/- U42 -/
namespace Go.Proofs.YtjhocljhhpkiiaaGreatDoor
open Go.RowKit
end Go.Proofs.YtjhocljhhpkiiaaGreatDoor
/- U43 -/
namespace Go.Proofs.YtjhocljhhpkiiaaGreatDoor
open Go.RowKit
end Go.Proofs.YtjhocljhhpkiiaaGreatDoor
/- U44 -/
namespace Go.Proofs.YtjhocljhhpkiiaaGreatDoor
open Go.RowKit
end Go.Proofs.YtjhocljhhpkiiaaGreatDoor
/- U45 -/
namespace Go.Proofs.YtjhocljhhpkiiaaGreatDoor
open Go.RowKit
def supP (p : Proof) (key val : B32) (present : Bool) : Bool := if present = true then decide (p.kind = 1 ∧ p.leaf = ⟨key, val⟩) else if p.kind = 1 then decide (p.leaf.key ≠ key ∧ p.depth ≤ (common p.leaf.key key : Int)) else decide (p.kind = 0)
theorem Supports_s (p : Proof) (key val : B32) (present : Bool) : Spec Tryz.prog 151 [.agg p.cells.toArray, .agg key.cells.toArray, .agg val.cells.toArray, .bool present].toArray [] [] (fun _ : Unit => .bool (supP p key val present)) (fun _ => []) := by
 unfold supP
 refine spec_of Tryz.func151 rfl (n := 44) rfl rfl ?_
 intro W
 rcases present with _ | _
 ·rw [if_neg (by simp)]
  by_cases h1 : p.kind = 1
  ·rw [if_pos h1]
   by_cases h2 : p.leaf.key = key
   ·rw [decide_eq_false (show ¬ (p.leaf.key ≠ key ∧ p.depth ≤ (common p.leaf.key key : Int)) from fun e => e.1 h2)]
    refine yR ?_
    refine h_opX (x_box rfl) fun g4 => ?_
    refine h_opX (x_box rfl) fun g5 => ?_
    refine h_opX (x_box rfl) fun g6 => ?_
    refine yS rfl ?_
    refine yN ?_
    refine h_seq ?_
    refine h_block ?_
    refine yR ?_
    refine yM rfl ?_
    refine yS rfl ?_
    refine yN ?_
    refine h_condF rfl ?_
    refine yR ?_
    refine h_op (r_field rfl) ?_
    refine h_op (r_loadc rfl) ?_
    refine h_op (r_eql rfl rfl) ?_
    refine yS rfl ?_
    refine yN ?_
    refine h_yes rfl (h1) ?_
    refine h_seq ?_
    refine ha_start [.blk g4 p.cells 54, .blk g5 key.cells 35] [] mixed (same) ?_
    refine ha_takeP 0 rfl (r_field rfl) ?_
    refine ha_takeP 1 rfl (r_field rfl) ?_
    refine ha_take 2 rfl (r_loadr rfl) ?_
    refine ha_take 3 rfl (r_loadr rfl) ?_
    refine ha_takeP 4 rfl (r_bool (r_ner rfl rfl) (decide_eq_false (fun e => e h2))) ?_
    refine ha_takeP 5 rfl (r_move rfl) ?_
    refine ha_off 6 rfl ?_
    refine ha_off 7 rfl ?_
    refine ha_off 8 rfl ?_
    refine ha_off 9 rfl ?_
    refine ha_off 10 rfl ?_
    refine ha_off 11 rfl ?_
    refine ha_off 12 rfl ?_
    refine ha_off 13 rfl ?_
    refine ha_takeP 14 rfl (r_pick rfl rfl) ?_
    refine ha_takeP 15 rfl (r_assign rfl) ?_
    refine ha_done (by kernel_rfl) ?_
    refine q_then ?_
    refine h_ret ?_
    refine q_blockR ?_
    refine q_thenR ?_
    exact h_ret1 rfl rfl fun w s => ⟨(), rfl, s.res (List.nil_sublist _) (by simp)⟩
   ·refine h_seq ?_
    refine h_reg ?_
    refine h_opX (x_box rfl) fun g4 => ?_
    refine h_opX (x_box rfl) fun g5 => ?_
    refine h_opX (x_box rfl) fun g6 => ?_
    refine yS rfl ?_
    refine yN ?_
    refine h_seq ?_
    refine h_block ?_
    refine yR ?_
    refine yM rfl ?_
    refine yS rfl ?_
    refine yN ?_
    refine h_condF rfl ?_
    refine yR ?_
    refine h_op (r_field rfl) ?_
    refine h_op (r_loadc rfl) ?_
    refine h_op (r_eql rfl rfl) ?_
    refine yS rfl ?_
    refine yN ?_
    refine h_yes rfl (h1) ?_
    refine h_seq ?_
    refine ha_start [.blk g4 p.cells 54, .blk g5 key.cells 35] [] mixed (same) ?_
    refine ha_takeP 0 rfl (r_field rfl) ?_
    refine ha_takeP 1 rfl (r_field rfl) ?_
    refine ha_take 2 rfl (r_loadr rfl) ?_
    refine ha_take 3 rfl (r_loadr rfl) ?_
    refine ha_takeP 4 rfl (r_bool (r_ner rfl rfl) (decide_eq_true h2)) ?_
    refine ha_takeP 5 rfl (r_move rfl) ?_
    refine ha_takeP 6 rfl (r_field rfl) ?_
    refine ha_takeP 7 rfl (r_field rfl) ?_
    refine ha_take 8 rfl (r_loadr rfl) ?_
    refine ha_take 9 rfl (r_loadr rfl) ?_
    refine ha_takeP 11 rfl (r_field rfl) ?_
    refine ha_take 12 rfl (r_loadc rfl) ?_
    refine ha_one 10 ?_
    refine ho_C 10 rfl ((Common_s p.leaf.key key).comes) rfl rfl rfl (fun xx => same) fun _ => ?_
    refine ha_takeP 13 rfl (r_geq rfl rfl) ?_
    refine ha_takeP 14 rfl (r_pick rfl rfl) ?_
    refine ha_takeP 15 rfl (r_assign rfl) ?_
    refine ha_done (by kernel_rfl) ?_
    refine q_then ?_
    refine h_ret ?_
    refine q_blockR ?_
    refine q_thenR ?_
    exact h_ret1 rfl rfl fun w s => ⟨(), by simp [h2], s.res (List.nil_sublist _) (by simp)⟩
  ·rw [if_neg h1]
   refine yR ?_
   refine h_opX (x_box rfl) fun g4 => ?_
   refine h_opX (x_box rfl) fun g5 => ?_
   refine h_opX (x_box rfl) fun g6 => ?_
   refine yS rfl ?_
   refine yN ?_
   refine h_seq ?_
   refine h_block ?_
   refine yR ?_
   refine yM rfl ?_
   refine yS rfl ?_
   refine yN ?_
   refine h_condF rfl ?_
   refine yR ?_
   refine h_op (r_field rfl) ?_
   refine h_op (r_loadc rfl) ?_
   refine h_op (r_eql rfl rfl) ?_
   refine yS rfl ?_
   refine yN ?_
   refine h_no rfl (h1) ?_
   refine h_skip ?_
   refine q_block ?_
   refine q_then ?_
   refine yR ?_
   refine h_op (r_field rfl) ?_
   refine h_op (r_loadc rfl) ?_
   refine h_op (r_eql rfl rfl) ?_
   refine yS rfl ?_
   refine yN ?_
   refine h_ret ?_
   exact h_ret1 rfl rfl fun w s => ⟨(), rfl, s.res (List.nil_sublist _) (by simp)⟩
 ·rw [if_pos rfl]
  by_cases h1 : p.kind = 1
  ·refine h_seq ?_
   refine h_reg ?_
   refine h_opX (x_box rfl) fun g4 => ?_
   refine h_opX (x_box rfl) fun g5 => ?_
   refine h_opX (x_box rfl) fun g6 => ?_
   refine yS rfl ?_
   refine yN ?_
   refine h_seq ?_
   refine h_block ?_
   refine yR ?_
   refine yM rfl ?_
   refine yS rfl ?_
   refine yN ?_
   refine h_condT rfl ?_
   refine yR ?_
   refine h_op (r_field rfl) ?_
   refine h_op (r_loadc rfl) ?_
   refine h_op (r_bool (r_eql rfl rfl) (decide_eq_true h1)) ?_
   refine yM rfl ?_
   refine h_op (r_field rfl) ?_
   refine h_op (r_loadr rfl) ?_
   refine h_op (r_loadr rfl) ?_
   refine h_op (r_loadr rfl) ?_
   refine h_op (r_build rfl) ?_
   refine h_op (r_eqr rfl rfl) ?_
   refine h_op (r_pick rfl rfl) ?_
   refine yS rfl ?_
   refine yN ?_
   refine h_ret ?_
   refine q_blockR ?_
   refine q_thenR ?_
   exact h_ret1 rfl rfl fun w s => ⟨(), by simp [h1], s.res (List.nil_sublist _) (by simp)⟩
  ·rw [decide_eq_false (show ¬ (p.kind = 1 ∧ p.leaf = ⟨key, val⟩) from fun e => h1 e.1)]
   refine yR ?_
   refine h_opX (x_box rfl) fun g4 => ?_
   refine h_opX (x_box rfl) fun g5 => ?_
   refine h_opX (x_box rfl) fun g6 => ?_
   refine yS rfl ?_
   refine yN ?_
   refine h_seq ?_
   refine h_block ?_
   refine yR ?_
   refine yM rfl ?_
   refine yS rfl ?_
   refine yN ?_
   refine h_condT rfl ?_
   refine yR ?_
   refine h_op (r_field rfl) ?_
   refine h_op (r_loadc rfl) ?_
   refine h_op (r_bool (r_eql rfl rfl) (decide_eq_false h1)) ?_
   refine yM rfl ?_
   refine h_opOff ?_
   refine h_opOff ?_
   refine h_opOff ?_
   refine h_opOff ?_
   refine h_opOff ?_
   refine h_opOff ?_
   refine h_op (r_pick rfl rfl) ?_
   refine yS rfl ?_
   refine yN ?_
   refine h_ret ?_
   refine q_blockR ?_
   refine q_thenR ?_
   exact h_ret1 rfl rfl fun w s => ⟨(), rfl, s.res (List.nil_sublist _) (by simp)⟩
end Go.Proofs.YtjhocljhhpkiiaaGreatDoor
/- U17 -/
namespace Go.Proofs.YtjhocljhhpkiiaaGreatDoor
open Go.RowKit
theorem ok_depth {p : Proof} (h : checkP p = 0) : 0 ≤ p.depth ∧ p.depth ≤ 256 := by simpa [okJ] using checkP_zero h 1 (by omega)
theorem ok_last {p : Proof} (h : checkP p = 0) : lastI p.bitmap 256 = p.depth - 1 := by simpa [okJ] using checkP_zero h 3 (by omega)
theorem ok_sibs {p : Proof} (h : checkP p = 0) : (depths p.bitmap).length = p.sibs.n := by
 have := checkP_zero h 4 (by omega)
 simp only [okJ, decide_eq_true_eq] at this
 omega
theorem Expand_s (p : Proof) (hc : checkP p = 0) (ss : List B32) (hs : p.sibs.n = ss.length) (n : Nat) (hn : n ≤ 256) (gh gc k : Nat) (hk : k ≤ 1000000000000) (d : Nat) (hd : p.depth = (d : Int)) : Spec Tryz.prog 139 [.pointer (some ⟨gh, 0, none⟩), .agg p.cells.toArray].toArray [.rd (some ⟨gh, 0, none⟩) [.pointer (some ⟨gc, 0, none⟩), .int .i64 (n : Int)], .rd p.sibs.A (dgs ss), .rd (some ⟨1, 0, none⟩) hashT] [.blk gc [.int .i64 (k : Int)] 144] (fun g : Nat => .tuple #[.slice (some ⟨g, 0, none⟩) d d, .int .i64 0]) (fun g => [.own (.slice (some ⟨g, 0, none⟩) d d) d 42 32 (dgs (expL (sumB n preE) p.bitmap ss d)), .blk gc [.int .i64 ((k + 1 : Nat) : Int)] 144]) := by
 have hd2 := ok_depth hc
 have hl := ok_last hc
 have hsb := ok_sibs hc
 have hd256 : d ≤ 256 := by omega
 have hl256 : (depths p.bitmap).length ≤ 256 := dep_len p.bitmap 256
 refine spec_of Tryz.func139 rfl (n := 40) rfl rfl ?_
 intro W
 refine yR ?_
 refine h_opX (x_box rfl) fun g3 => ?_
 refine yS rfl ?_
 refine yS rfl ?_
 refine yN ?_
 refine h_seq ?_
 refine yR ?_
 refine h_op (r_loadr rfl) ?_
 refine h_call ((Check_s p).comes) rfl rfl rfl fun _ => ?_
 rw [hc]
 refine yS rfl ?_
 refine yN ?_
 refine yR ?_
 refine yM rfl ?_
 refine h_op (r_neq rfl rfl) ?_
 refine yN ?_
 refine h_no rfl ((fun h => h rfl)) ?_
 refine h_skip ?_
 refine q_then ?_
 refine h_seq ?_
 refine ha_start [.blk g3 p.cells 54] [] mixed (same) ?_
 refine ha_takeP 0 rfl (r_move rfl) ?_
 refine ha_takeP 3 rfl (r_field rfl) ?_
 refine ha_take 4 rfl (r_int (r_loadc rfl) hd) ?_
 refine ha_one 1 ?_
 refine ho_C 1 rfl ((nilDigest_s n hn gh gc k hk).comes) rfl rfl rfl (fun xx => same) fun _ => ?_
 refine ha_one 2 ?_
 refine ho_X 2 rfl (rk (x_bsl rfl rfl)) (fun _ => same) fun g17 => ?_
 refine ha_one 5 ?_
 refine ho_C 5 rfl ((Repeat_s (sumB n preE) d g17 0 1 hd256).comes) rfl rfl rfl (fun xx => same) fun g20 => ?_
 refine ha_takeP 6 rfl (r_assign rfl) ?_
 refine ha_done (by kernel_rfl) ?_
 refine q_then ?_
 rw [← expJ_0 (sumB n preE) p.bitmap ss d]
 generalize sumB n preE = e at *
 refine h_seq ?_
 refine yR ?_
 refine h_op (r_field rfl) ?_
 refine h_op (r_loadr rfl) ?_
 refine h_call ((List_s p.bitmap).comes) rfl rfl rfl fun ⟨A23, c23⟩ => ?_
 dsimp only
 refine h_op (r_len rfl) ?_
 refine yM rfl ?_
 refine yN ?_
 refine h_block ?_
 refine h_loop (fun (j : Nat) => j ≤ (depths p.bitmap).length) (fun (j : Nat) => [(25, .int .i64 (j : Int)), (24, .int .i64 ((depths p.bitmap).length : Int)), (23, .slice A23 (depths p.bitmap).length c23), (7, .slice (some ⟨g20, 0, none⟩) d d), (3, .pointer (some ⟨g3, 0, none⟩))]) (fun (j : Nat) => [.own (.slice A23 (depths p.bitmap).length c23) (depths p.bitmap).length 3 1 (ic (depths p.bitmap)), .own (.slice (some ⟨g20, 0, none⟩) d d) d 42 32 (dgs (expJ e p.bitmap ss d j)), .blk gc [.int .i64 ((k + 1 : Nat) : Int)] 144, .blk g3 p.cells 54, .rd p.sibs.A (dgs ss)]) (fun (j : Nat) => (depths p.bitmap).length - j) 0 (Nat.zero_le _) ⟨rfl, rfl, rfl, rfl, rfl, trivial⟩ (same) ?_
 intro j hj
 refine yR ?_
 refine h_op (r_lss rfl rfl) ?_
 refine yN ?_
 refine h_seq ?_
 refine h_cond rfl (fun h => ?_) (fun h => ?_)
 ·have hlt : j < (depths p.bitmap).length := by omega
  obtain ⟨i, hi⟩ : ∃ i, (depths p.bitmap)[j]? = some i := ⟨_, List.getElem?_eq_getElem hlt⟩
  obtain ⟨h1, h2, h3⟩ := dep_pos hi
  have hmx := lastI_max p.bitmap 256 i h1 h2
  have hid : i < d := by omega
  have hgi : (depths p.bitmap).getD j 0 = i := by rw [List.getD, hi]; rfl
  have hset := expJ_set e p.bitmap ss d j hi hd256 hid
  have hdl := expJ_len e p.bitmap ss d j
  have hds := dgs_set (expJ e p.bitmap ss d j) i (ss.getD j zB32) (by omega)
  rw [hset] at hds
  have hjs : j < ss.length := by omega
  refine h_pure (φ := (∃ g, A23 = some ⟨g, 0, none⟩) ∧ ∃ b o, p.sibs.A = some ⟨b, o, none⟩) (fun w s => ⟨s.ownSome (N := (depths p.bitmap).length) (c := c23) (by omega), Rd.some (s.ok (.rd p.sibs.A (dgs ss)) (by simp)) (by rw [dgs_len]; omega)⟩) ?_
  rintro ⟨⟨g23, rfl⟩, b, o, hA⟩
  refine h_skip ?_
  refine q_then ?_
  refine h_seq ?_
  refine h_block ?_
  refine yR ?_
  refine yM rfl ?_
  refine h_op (r_idx rfl rfl) ?_
  refine h_op (r_nth rfl (ic_at (by omega))) ?_
  refine yS rfl ?_
  refine yS rfl ?_
  refine yN ?_
  refine h_reg ?_
  rw [hgi]
  refine yM rfl ?_
  refine yM rfl ?_
  refine h_op (r_field rfl) ?_
  refine h_op (r_loadc rfl) ?_
  rw [hA]
  refine yM rfl ?_
  refine h_op (r_idx rfl rfl) ?_
  refine h_op (r_nthr rfl (out := (ss.getD j zB32).cells) (B32.cells_length _) (dgs_at hjs)) ?_
  refine h_op (r_idx rfl rfl) ?_
  refine h_opS (s_setrO rfl rfl (by rw [dgs_len, hdl]; omega) hds) ?_
  refine h_nil ?_
  refine q_block ?_
  refine q_then ?_
  refine h_reg ?_
  refine h_op (r_add rfl rfl) ?_
  refine yM rfl ?_
  refine h_nil ?_
  exact h_back (j + 1) (by omega) (by omega) ⟨rfl, rfl, rfl, rfl, rfl, trivial⟩ (same)
 ·obtain rfl : j = (depths p.bitmap).length := by omega
  rw [expJ_all e p.bitmap ss d _ hd256 (Nat.le_refl _)]
  refine h_exit ?_
  refine q_thenE ?_
  refine q_thenE ?_
  refine q_blockE ?_
  refine q_then ?_
  refine yR ?_
  refine yM rfl ?_
  refine yS rfl ?_
  refine yS rfl ?_
  refine yN ?_
  refine h_ret ?_
  exact h_ret2 rfl rfl rfl fun w s => ⟨g20, rfl, (same w s).res (List.Sublist.refl _) (by simp [Fa.wr])⟩
end Go.Proofs.YtjhocljhhpkiiaaGreatDoor
/- U18 -/
namespace Go.Proofs.YtjhocljhhpkiiaaGreatDoor
open Go.RowKit
def endP (p : Proof) : List UInt8 := if p.kind = 1 then preL p.leaf else preE
theorem endP_len (p : Proof) : (endP p).length ≤ 65 := by
 unfold endP
 split
 ·rw [preL_len]; exact Nat.le_refl _
 ·decide
theorem end_s (p : Proof) : Spec Tryz.prog 191 [.agg p.cells.toArray].toArray [] [] (fun u : Nat × Nat => .slice (some ⟨u.1, 0, none⟩) (endP p).length u.2) (fun u => [.own (.slice (some ⟨u.1, 0, none⟩) (endP p).length u.2) (endP p).length 5 1 (bc (endP p))]) := by
 refine spec_of Tryz.func191 rfl (n := 10) rfl rfl ?_
 intro W
 refine yR ?_
 refine h_opX (x_box rfl) fun g1 => ?_
 refine yS rfl ?_
 refine yN ?_
 refine h_seq ?_
 refine yR ?_
 refine h_op (r_field rfl) ?_
 refine h_op (r_loadc rfl) ?_
 refine h_op (r_eql rfl rfl) ?_
 refine yN ?_
 refine h_cond rfl (fun h => ?_) (fun h => ?_)
 ·rw [show endP p = preL p.leaf from if_pos h]
  refine yR ?_
  refine h_op (r_field rfl) ?_
  refine h_op (r_loadr rfl) ?_
  refine h_call ((pLeaf_s p.leaf).comes) rfl rfl rfl fun ⟨g, c⟩ => ?_
  dsimp only
  refine yS rfl ?_
  refine yN ?_
  refine h_ret ?_
  refine q_thenR ?_
  exact h_ret1 rfl rfl fun w s => ⟨(g, c), rfl, s.res ((List.nil_sublist _).cons_cons _) (by simp [Fa.wr])⟩
 ·rw [show endP p = preE from if_neg h]
  refine h_skip ?_
  refine q_then ?_
  refine yR ?_
  refine h_call (pEmpty_s.comes) rfl rfl rfl fun ⟨g, c⟩ => ?_
  dsimp only
  refine yS rfl ?_
  refine yN ?_
  refine h_ret ?_
  exact h_ret1 rfl rfl fun w s => ⟨(g, c), rfl, s.res ((List.nil_sublist _).cons_cons _) (by simp [Fa.wr])⟩
theorem Backward_s (A : Option Addr) (N c : Nat) : Spec Tryz.prog 192 [.slice A N c].toArray [] [] (fun g : Nat => .func (.func 218) #[] [.pointer (some ⟨g, 0, none⟩)].toArray) (fun g => [.blk g [.slice A N c] 52]) := by
 refine spec_of Tryz.func192 rfl (n := 4) rfl rfl ?_
 intro W
 refine yR ?_
 refine h_opX (x_box1 rfl) fun g1 => ?_
 refine yS rfl ?_
 refine yN ?_
 refine yR ?_
 refine h_op (r_func rfl rfl) ?_
 refine yS rfl ?_
 refine yN ?_
 refine h_ret ?_
 exact h_ret1 rfl rfl fun w s => ⟨g1, rfl, s.res (List.Sublist.refl _) (by simp [Fa.wr])⟩
theorem Backward_it (ds : List B32) (b o c g1 : Nat) (hl : ds.length ≤ 1000000) : IterG Tryz.prog 218 [.pointer (some ⟨g1, 0, none⟩)] [.rd (some ⟨g1, 0, none⟩) [.slice (some ⟨b, o, none⟩) ds.length c], .rd (some ⟨b, o, none⟩) (dgs ds)] [] ds.length (fun k (_ : Unit) => [.int .i64 ((ds.length - 1 - k : Nat) : Int), .agg (ds.getD (ds.length - 1 - k) zB32).cells.toArray]) (fun _ _ => []) [] := by
 refine iter_ofG Tryz.func218 rfl (n := 19) rfl rfl ?_
 intro l J Rm m0 W hJw hRm hy h0
 refine yR ?_
 refine h_op (r_loadc rfl) ?_
 refine h_op (r_len rfl) ?_
 refine h_op (r_sub rfl rfl) ?_
 refine yS rfl ?_
 refine yN ?_
 refine h_block ?_
 refine h_loop (fun (s : Nat × List Fa) => s.1 ≤ ds.length ∧ J s.1 s.2) (fun (s : Nat × List Fa) => [(3, .int .i64 ((ds.length : Int) - 1 - (s.1 : Int))), (0, .func (.yield l) #[] #[]), (1, .pointer (some ⟨g1, 0, none⟩))]) (fun (s : Nat × List Fa) => .rd (some ⟨g1, 0, none⟩) [.slice (some ⟨b, o, none⟩) ds.length c] :: .rd (some ⟨b, o, none⟩) (dgs ds) :: (s.2 ++ Rm)) (fun (s : Nat × List Fa) => ds.length - s.1) (0, m0) ((show 0 ≤ ds.length ∧ J 0 m0 from ⟨by omega, h0⟩)) ⟨aI rfl (by dsimp only; omega), rfl, rfl, trivial⟩ (fun _ s => s) ?_
 rintro ⟨k, mm⟩ ⟨hk, hJ⟩
 dsimp only at hk hJ ⊢
 refine h_seq ?_
 refine yR ?_
 refine yM rfl ?_
 refine h_op (r_geq rfl rfl) ?_
 refine yN ?_
 refine h_cond rfl (fun h => ?_) (fun h => ?_)
 ·have hk2 : k < ds.length := by omega
  refine h_E (E' := [(3, .int .i64 ((ds.length - 1 - k : Nat) : Int)), (0, .func (.yield l) #[] #[]), (1, .pointer (some ⟨g1, 0, none⟩))]) ⟨aI rfl (by omega), rfl, rfl, trivial⟩ ?_
  refine h_skip ?_
  refine q_then ?_
  refine h_seq ?_
  refine h_block ?_
  refine yR ?_
  refine yM rfl ?_
  refine yM rfl ?_
  refine h_op (r_loadc rfl) ?_
  refine yM rfl ?_
  refine h_op (r_idx rfl rfl) ?_
  refine h_op (r_nthr rfl (out := (ds.getD (ds.length - 1 - k) zB32).cells) (B32.cells_length _) (dgs_at (by omega))) ?_
  refine h_yield (hy k () mm hk2 hJ) hRm rfl rfl fun m' hJ' => ?_
  refine h_op (r_not rfl) ?_
  refine yN ?_
  refine h_condF rfl ?_
  refine h_skip ?_
  refine q_block ?_
  refine q_then ?_
  refine h_reg ?_
  refine yM rfl ?_
  refine h_op (r_sub rfl rfl) ?_
  refine yS rfl ?_
  refine h_nil ?_
  exact h_back (k + 1, m') ((show k + 1 ≤ ds.length ∧ J (k + 1) m' from ⟨by omega, hJ'⟩)) ((show ds.length - (k + 1) < ds.length - k by omega)) ⟨aI rfl (by omega), rfl, rfl, trivial⟩ (fun _ s => s)
 ·obtain rfl : k = ds.length := by omega
  refine h_exit ?_
  refine q_thenE ?_
  refine q_thenE ?_
  refine q_blockE ?_
  refine h_end ?_
  exact h_ret0 rfl fun w s => ⟨_, mm, rfl, hJ, s.res (((List.sublist_append_left _ _).cons _).cons _) (hJw _ _ hJ)⟩
theorem ways_s (gh : Value) (p : Proof) (A : Option Addr) (N c : Nat) (key : B32) (hg : gh.cells = #[gh]) : Spec Tryz.prog 140 [gh, .agg p.cells.toArray, .slice A N c, .agg key.cells.toArray].toArray [] [] (fun u : Nat × Nat × Nat × Nat => .func (.func 190) #[] [.pointer (some ⟨u.1, 0, none⟩), .pointer (some ⟨u.2.1, 0, none⟩), .pointer (some ⟨u.2.2.1, 0, none⟩), .pointer (some ⟨u.2.2.2, 0, none⟩)].toArray) (fun u => [.blk u.1 p.cells 54, .blk u.2.1 [gh] 36, .blk u.2.2.1 [.slice A N c] 52, .blk u.2.2.2 key.cells 35]) := by
 refine spec_of Tryz.func140 rfl (n := 10) rfl rfl ?_
 intro W
 refine yR ?_
 refine h_opX (x_box1 rfl hg) fun g4 => ?_
 refine h_opX (x_box rfl) fun g5 => ?_
 refine h_opX (x_box1 rfl) fun g6 => ?_
 refine h_opX (x_box rfl) fun g7 => ?_
 refine yS rfl ?_
 refine yN ?_
 refine yR ?_
 refine h_op (r_func rfl rfl) ?_
 refine yS rfl ?_
 refine yN ?_
 refine h_ret ?_
 exact h_ret1 rfl rfl fun w s => ⟨(g5, g4, g6, g7), rfl, (same w s).res (List.Sublist.refl _) (by simp [Fa.wr])⟩
end Go.Proofs.YtjhocljhhpkiiaaGreatDoor
/- U19 -/
namespace Go.Proofs.YtjhocljhhpkiiaaGreatDoor
open Go.RowKit
def wayP (n : Nat) (key : B32) (ds : List B32) (pre : List UInt8) : Nat → List UInt8
 | 0 => pre
 | k + 1 => if bitAt key (ds.length - 1 - k) then preN (ds.getD (ds.length - 1 - k) zB32) (sumB n (wayP n key ds pre k)) else preN (sumB n (wayP n key ds pre k)) (ds.getD (ds.length - 1 - k) zB32)
theorem wayP_len (n : Nat) (key : B32) (ds : List B32) (pre : List UInt8) (h : pre.length ≤ 65) : ∀ k, (wayP n key ds pre k).length ≤ 65
 | 0 => h
 | k + 1 => by
  rw [wayP]
  split <;> rw [preN_len] <;> exact Nat.le_refl _
theorem Bit_y (b : B32) (i : Nat) (hi : i < 256) (h : bitAt b i = true) : Spec Tryz.prog 147 [.agg b.cells.toArray, .int .i64 (i : Int)].toArray [] [] (fun _ : Unit => .int .i64 1) (fun _ => []) := by
 have := Bit_s b i hi
 rwa [show bitN b i = 1 by unfold bitN; rw [h]; rfl] at this
theorem Bit_n (b : B32) (i : Nat) (hi : i < 256) (h : ¬ bitAt b i = true) : Spec Tryz.prog 147 [.agg b.cells.toArray, .int .i64 (i : Int)].toArray [] [] (fun _ : Unit => .int .i64 0) (fun _ => []) := by
 have := Bit_s b i hi
 rwa [show bitN b i = 0 by unfold bitN; rw [if_neg h]] at this
instance (a b : B32) : RowAt (a.cells ++ b.cells) 0 32 a.cells := ⟨fun j v hv => by rw [Nat.zero_add, List.getElem?_append_left (List.getElem?_eq_some_iff.1 hv).1]; exact hv, B32.cells_length a⟩
instance (a b : B32) : RowAt (a.cells ++ b.cells) 32 32 b.cells := ⟨fun j v hv => by rw [List.getElem?_append_right (by rw [B32.cells_length]; omega), B32.cells_length, Nat.add_sub_cancel_left]; exact hv, B32.cells_length b⟩
class TakeTl (m L : List Fa) (M : outParam (List Fa)) : Prop where
 perm : L.Perm (m ++ M)
instance (m R : List Fa) : TakeTl m (m ++ R) R := ⟨List.Perm.refl _⟩
instance (priority := 100) (m : List Fa) (f : Fa) (L M : List Fa) [h : TakeTl m L M] : TakeTl m (f :: L) (f :: M) := ⟨(h.perm.cons f).trans List.perm_middle.symm⟩
instance (priority := 5) (m L M : List Fa) [h : TakeTl m L M] : Take m L M := ⟨h.perm⟩
class RmOk (Rm : List Fa) : Prop where
 ok : ∀ r ∈ Rm, r.wr = false
instance (Rm : List Fa) [h : RmOk Rm] : Rds Rm Rm := ⟨fun hw r hr => ⟨h.ok r hr, hw.ok r hr, fun k hk => ⟨r, hr, hk⟩⟩⟩
instance (priority := 5) (Rm : List Fa) (f : Fa) (L : List Fa) [RmOk Rm] [h : Rds L Rm] : Rds (f :: L) Rm := ⟨fun hw r hr => by
 obtain ⟨h1, h2, h3⟩ := h.ok hw.tail r hr
 exact ⟨h1, h2, fun k hk => let ⟨g, hg, hgk⟩ := h3 k hk; ⟨g, List.mem_cons_of_mem _ hg, hgk⟩⟩⟩
theorem Sx.mid {A : List Fa} {W w : World} {pre m l R : List Fa} (s : Sx A W w (pre ++ (m ++ (l ++ R)))) : Sx A W w (pre ++ (l ++ (m ++ R))) := s.perm (List.Perm.append_left _ (by
 rw [← List.append_assoc, ← List.append_assoc]
 exact List.Perm.append_right _ List.perm_append_comm))
def wayF (n : Nat) (key : B32) (ds : List B32) (pre : List UInt8) (gc k0 g6 g7 k : Nat) (m : List Fa) (u : Nat × Nat) : List Fa :=
 .blk g6 [.slice (some ⟨u.1, 0, none⟩) (wayP n key ds pre k).length u.2] 23 :: .blk g7 (sumB n (wayP n key ds pre k)).cells 42 :: .own (.slice (some ⟨u.1, 0, none⟩) (wayP n key ds pre k).length u.2) (wayP n key ds pre k).length 5 1 (bc (wayP n key ds pre k)) :: .blk gc [.int .i64 ((k0 + k + 1 : Nat) : Int)] 144 :: m
theorem wayF_wr {n : Nat} {key : B32} {ds : List B32} {pre : List UInt8} {gc k0 g6 g7 k : Nat} {m : List Fa} {u : Nat × Nat} (h : ∀ f ∈ m, f.wr = true) : ∀ f ∈ wayF n key ds pre gc k0 g6 g7 k m u, f.wr = true := by
 intro f hf
 unfold wayF at hf
 simp only [List.mem_cons] at hf
 rcases hf with rfl | rfl | rfl | rfl | hf
 ·rfl
 ·rfl
 ·rfl
 ·rfl
 ·exact h f hf
theorem ways_it (p : Proof) (n : Nat) (hn : n ≤ 256) (key : B32) (ds : List B32) (hds : ds.length ≤ 256) (gh gc k0 b o c a1 a2 a3 a4 : Nat) (hk0 : k0 ≤ 900000000000) : IterG Tryz.prog 190 [.pointer (some ⟨a1, 0, none⟩), .pointer (some ⟨a2, 0, none⟩), .pointer (some ⟨a3, 0, none⟩), .pointer (some ⟨a4, 0, none⟩)] [.rd (some ⟨a1, 0, none⟩) p.cells, .rd (some ⟨a2, 0, none⟩) [.pointer (some ⟨gh, 0, none⟩)], .rd (some ⟨a3, 0, none⟩) [.slice (some ⟨b, o, none⟩) ds.length c], .rd (some ⟨a4, 0, none⟩) key.cells, .rd (some ⟨gh, 0, none⟩) [.pointer (some ⟨gc, 0, none⟩), .int .i64 (n : Int)], .rd (some ⟨b, o, none⟩) (dgs ds), .rd (some ⟨1, 0, none⟩) hashT] [.blk gc [.int .i64 (k0 : Int)] 144] (ds.length + 1)
  (fun k (u : Nat × Nat) => [.slice (some ⟨u.1, 0, none⟩) (wayP n key ds (endP p) k).length u.2, .agg (sumB n (wayP n key ds (endP p) k)).cells.toArray])
  (fun k (u : Nat × Nat) => [.own (.slice (some ⟨u.1, 0, none⟩) (wayP n key ds (endP p) k).length u.2) (wayP n key ds (endP p) k).length 5 1 (bc (wayP n key ds (endP p) k))])
  [.blk gc [.int .i64 ((k0 + ds.length + 1 : Nat) : Int)] 144] := by
 have hel := endP_len p
 have hE := end_s p
 generalize hpre : endP p = pre at *
 have hwl := wayP_len n key ds pre hel
 refine iter_ofG Tryz.func190 rfl (n := 45) rfl rfl ?_
 intro l J Rm m0 W hJw hRm hy h0
 have hRI : RmOk Rm := ⟨hRm⟩
 refine yR ?_
 refine h_opX (x_box1 rfl) fun g5 => ?_
 refine yN ?_
 refine yR ?_
 refine h_op (r_loadr rfl) ?_
 refine h_call (hE.comes) rfl rfl rfl fun ⟨gP, cP⟩ => ?_
 dsimp only
 refine h_opX (x_alloc) fun g6 => ?_
 refine h_opS (s_store rfl rfl rfl) ?_
 refine yN ?_
 refine yR ?_
 refine h_op (r_loadc rfl) ?_
 refine h_op (r_loadc rfl) ?_
 refine h_call ((HSum_s n hn gh gc k0 (by omega) pre (some ⟨gP, 0, none⟩) cP (fun h => by cases h) (by omega)).comes) rfl rfl rfl fun _ => ?_
 refine h_opX (x_alloc) fun g7 => ?_
 refine h_opS (s_storer rfl rfl) ?_
 refine yN ?_
 refine h_seq ?_
 refine yR ?_
 refine h_op (r_loadc rfl) ?_
 refine h_call ((Backward_s (some ⟨b, o, none⟩) ds.length c).comes) rfl rfl rfl fun g17 => ?_
 refine yN ?_
 refine h_block ?_
 change H _ _ _ _ _ (_ :: .blk g7 (sumB n (wayP n key ds pre 0)).cells _ :: .blk gc [.int .i64 ((k0 + 0 + 1 : Nat) : Int)] _ :: .blk g6 [.slice (some ⟨gP, 0, none⟩) (wayP n key ds pre 0).length cP] _ :: .own (.slice (some ⟨gP, 0, none⟩) (wayP n key ds pre 0).length cP) (wayP n key ds pre 0).length _ _ (bc (wayP n key ds pre 0)) :: _) _
 refine h_rangeG (Backward_it ds b o c g17 (by omega)) rfl (fun k mm => ∃ (u : Nat × Nat) (m1 : List Fa), mm = wayF n key ds pre gc k0 g6 g7 k m1 u ∧ J k m1) (.blk g6 [.slice (some ⟨gP, 0, none⟩) (wayP n key ds pre 0).length cP] 23 :: .blk g7 (sumB n (wayP n key ds pre 0)).cells 42 :: .own (.slice (some ⟨gP, 0, none⟩) (wayP n key ds pre 0).length cP) (wayP n key ds pre 0).length 5 1 (bc (wayP n key ds pre 0)) :: .blk gc [.int .i64 ((k0 + 0 + 1 : Nat) : Int)] 144 :: m0) (.rd (some ⟨g5, 0, none⟩) [.func (.yield l) #[] #[]] :: .rd (some ⟨a2, 0, none⟩) [.pointer (some ⟨gh, 0, none⟩)] :: .rd (some ⟨a4, 0, none⟩) key.cells :: .rd (some ⟨gh, 0, none⟩) [.pointer (some ⟨gc, 0, none⟩), .int .i64 (n : Int)] :: .rd (some ⟨1, 0, none⟩) hashT :: Rm) (by rintro k mm ⟨u, m1, rfl, hJ⟩; exact wayF_wr (hJw _ _ hJ)) ⟨(gP, cP), m0, rfl, h0⟩ rfl (fun _ _ => rfl) ?_ ?_
 ·intro ll rr k _ mm W1 hr hrp hkN hJ2
  obtain ⟨⟨g, c'⟩, m1, rfl, hJ⟩ := hJ2
  unfold wayF
  simp only [List.nil_append, List.cons_append]
  refine h_L (fun w s => Sx.mid (pre := [_, _, _, _, _]) (m := m1) (l := [.rd (some ⟨g5, 0, none⟩) [.func (.yield l) #[] #[]], .rd (some ⟨a2, 0, none⟩) [.pointer (some ⟨gh, 0, none⟩)], .rd (some ⟨a4, 0, none⟩) key.cells, .rd (some ⟨gh, 0, none⟩) [.pointer (some ⟨gc, 0, none⟩), .int .i64 (n : Int)], .rd (some ⟨1, 0, none⟩) hashT]) (R := Rm) s) ?_
  simp only [List.nil_append, List.cons_append]
  refine yR ?_
  refine yS rfl ?_
  refine yN ?_
  refine h_reg ?_
  refine h_opX (x_alloc) fun g9 => ?_
  refine h_opS (s_storer rfl rfl) ?_
  refine yN ?_
  refine h_begin hr ?_
  refine h_block ?_
  refine h_seq ?_
  refine yR ?_
  refine h_op (r_loadc rfl) ?_
  refine h_op (r_loadc rfl) ?_
  refine h_op (r_loadr rfl) ?_
  refine h_yield (hy k (g, c') m1 (by omega) hJ) hRm rfl rfl fun m' hJ' => ?_
  refine h_op (r_not rfl) ?_
  refine yN ?_
  refine h_condF rfl ?_
  refine h_skip ?_
  refine q_then ?_
  refine yR ?_
  refine h_op (r_loadr rfl) ?_
  refine h_op (r_loadr rfl) ?_
  refine h_op (r_build rfl) ?_
  refine h_opX (x_alloc) fun g10 => ?_
  refine h_opS (s_storer rfl rfl) ?_
  refine yN ?_
  refine h_seq ?_
  have hwr2 : ∀ (g37 c37 : Nat), ∀ f ∈ (.blk g6 [.slice (some ⟨g37, 0, none⟩) (wayP n key ds pre (k + 1)).length c37] 23 :: .blk g7 (sumB n (wayP n key ds pre (k + 1))).cells 42 :: .own (.slice (some ⟨g37, 0, none⟩) (wayP n key ds pre (k + 1)).length c37) (wayP n key ds pre (k + 1)).length 5 1 (bc (wayP n key ds pre (k + 1))) :: .blk gc [.int .i64 ((k0 + k + 1 + 1 : Nat) : Int)] 144 :: m'), f.wr = true := fun g37 c37 f hf => by
   simp only [List.mem_cons] at hf
   rcases hf with rfl | rfl | rfl | rfl | hf
   ·rfl
   ·rfl
   ·rfl
   ·rfl
   ·exact hJw _ _ hJ' f hf
  by_cases hb : bitAt key (ds.length - 1 - k) = true
  ·have hw1 : wayP n key ds pre (k + 1) = preN (ds.getD (ds.length - 1 - k) zB32) (sumB n (wayP n key ds pre k)) := by rw [wayP, if_pos hb]
   refine ha_start [.rd (some ⟨a4, 0, none⟩) key.cells, .blk g7 (sumB n (wayP n key ds pre k)).cells 42] [] mixed (same) ?_
   refine ha_take 0 rfl (r_loadr rfl) ?_
   refine ha_takeP 1 rfl (r_move rfl) ?_
   refine ha_take 3 rfl (r_loadr rfl) ?_
   refine ha_one 2 ?_
   refine ho_C 2 rfl ((Bit_y key (ds.length - 1 - k) (by omega) hb).comes) rfl rfl rfl (fun xx => same) fun _ => ?_
   refine ha_takeP 4 rfl (r_idxA rfl rfl) ?_
   refine ha_one 5 ?_
   refine ho_SL 5 rfl (s_storer rfl rfl) ?_
   refine q_then ?_
   refine yR ?_
   refine h_op (r_idxA rfl rfl) ?_
   refine h_op (r_loadr rfl) ?_
   refine h_op (r_idxA rfl rfl) ?_
   refine h_op (r_loadr rfl) ?_
   refine h_call ((pNode_s (ds.getD (ds.length - 1 - k) zB32) (sumB n (wayP n key ds pre k))).comes) rfl rfl rfl fun ⟨g37, c37⟩ => ?_
   dsimp only
   rw [← hw1]
   have hl1 := hwl (k + 1)
   refine h_opS (s_store rfl rfl rfl) ?_
   refine yN ?_
   refine h_reg ?_
   refine h_op (r_loadc rfl) ?_
   refine h_op (r_loadc rfl) ?_
   refine h_call ((HSum_s n hn gh gc (k0 + k + 1) (by omega) (wayP n key ds pre (k + 1)) (some ⟨g37, 0, none⟩) c37 (fun h => by cases h) (by omega)).comes) rfl rfl rfl fun _ => ?_
   refine h_opS (s_storer rfl rfl) ?_
   refine h_nil ?_
   refine q_block ?_
   exact h_endround (.blk g6 [.slice (some ⟨g37, 0, none⟩) (wayP n key ds pre (k + 1)).length c37] 23 :: .blk g7 (sumB n (wayP n key ds pre (k + 1))).cells 42 :: .own (.slice (some ⟨g37, 0, none⟩) (wayP n key ds pre (k + 1)).length c37) (wayP n key ds pre (k + 1)).length 5 1 (bc (wayP n key ds pre (k + 1))) :: .blk gc [.int .i64 ((k0 + k + 1 + 1 : Nat) : Int)] 144 :: m') hr hrp ⟨(g37, c37), m', by rw [show k0 + (k + 1) + 1 = k0 + k + 1 + 1 by omega], hJ'⟩ (hwr2 g37 c37)
  ·have hw1 : wayP n key ds pre (k + 1) = preN (sumB n (wayP n key ds pre k)) (ds.getD (ds.length - 1 - k) zB32) := by rw [wayP, if_neg hb]
   refine ha_start [.rd (some ⟨a4, 0, none⟩) key.cells, .blk g7 (sumB n (wayP n key ds pre k)).cells 42] [] mixed (same) ?_
   refine ha_take 0 rfl (r_loadr rfl) ?_
   refine ha_takeP 1 rfl (r_move rfl) ?_
   refine ha_take 3 rfl (r_loadr rfl) ?_
   refine ha_one 2 ?_
   refine ho_C 2 rfl ((Bit_n key (ds.length - 1 - k) (by omega) hb).comes) rfl rfl rfl (fun xx => same) fun _ => ?_
   refine ha_takeP 4 rfl (r_idxA rfl rfl) ?_
   refine ha_one 5 ?_
   refine ho_SL 5 rfl (s_storer rfl rfl) ?_
   refine q_then ?_
   refine yR ?_
   refine h_op (r_idxA rfl rfl) ?_
   refine h_op (r_loadr rfl) ?_
   refine h_op (r_idxA rfl rfl) ?_
   refine h_op (r_loadr rfl) ?_
   refine h_call ((pNode_s (sumB n (wayP n key ds pre k)) (ds.getD (ds.length - 1 - k) zB32)).comes) rfl rfl rfl fun ⟨g37, c37⟩ => ?_
   dsimp only
   rw [← hw1]
   have hl1 := hwl (k + 1)
   refine h_opS (s_store rfl rfl rfl) ?_
   refine yN ?_
   refine h_reg ?_
   refine h_op (r_loadc rfl) ?_
   refine h_op (r_loadc rfl) ?_
   refine h_call ((HSum_s n hn gh gc (k0 + k + 1) (by omega) (wayP n key ds pre (k + 1)) (some ⟨g37, 0, none⟩) c37 (fun h => by cases h) (by omega)).comes) rfl rfl rfl fun _ => ?_
   refine h_opS (s_storer rfl rfl) ?_
   refine h_nil ?_
   refine q_block ?_
   exact h_endround (.blk g6 [.slice (some ⟨g37, 0, none⟩) (wayP n key ds pre (k + 1)).length c37] 23 :: .blk g7 (sumB n (wayP n key ds pre (k + 1))).cells 42 :: .own (.slice (some ⟨g37, 0, none⟩) (wayP n key ds pre (k + 1)).length c37) (wayP n key ds pre (k + 1)).length 5 1 (bc (wayP n key ds pre (k + 1))) :: .blk gc [.int .i64 ((k0 + k + 1 + 1 : Nat) : Int)] 144 :: m') hr hrp ⟨(g37, c37), m', by rw [show k0 + (k + 1) + 1 = k0 + k + 1 + 1 by omega], hJ'⟩ (hwr2 g37 c37)
 ·intro bb mm hJ2
  obtain ⟨⟨g, c'⟩, m1, rfl, hJ⟩ := hJ2
  unfold wayF
  refine q_block ?_
  refine q_then ?_
  simp only [List.nil_append, List.cons_append]
  refine h_L (fun w s => Sx.mid (pre := [_, _, _, _]) (m := m1) (l := [.obj bb (.deferred (some [])), .blk g17 [.slice (some ⟨b, o, none⟩) ds.length c] 52, .blk g5 [.func (.yield l) #[] #[]] 295, .rd (some ⟨a1, 0, none⟩) p.cells, .rd (some ⟨a2, 0, none⟩) [.pointer (some ⟨gh, 0, none⟩)], .rd (some ⟨a3, 0, none⟩) [.slice (some ⟨b, o, none⟩) ds.length c], .rd (some ⟨a4, 0, none⟩) key.cells, .rd (some ⟨gh, 0, none⟩) [.pointer (some ⟨gc, 0, none⟩), .int .i64 (n : Int)], .rd (some ⟨b, o, none⟩) (dgs ds), .rd (some ⟨1, 0, none⟩) hashT]) (R := Rm) s) ?_
  simp only [List.nil_append, List.cons_append]
  refine h_reg ?_
  refine h_op (r_loadc rfl) ?_
  refine h_op (r_loadc rfl) ?_
  refine h_op (r_loadr rfl) ?_
  refine h_yield (hy ds.length (g, c') m1 (by omega) hJ) hRm rfl rfl fun m' hJ' => ?_
  refine h_nil ?_
  refine h_end ?_
  refine h_mark ?_
  exact h_ret0 rfl fun w s => ⟨_, m', rfl, hJ', (same w s).res (List.Sublist.refl _) (by intro f hf; simp only [List.mem_cons, List.cons_append, List.nil_append] at hf; exact hf.elim (fun h => by rw [h]; rfl) (hJw _ _ hJ' f))⟩
end Go.Proofs.YtjhocljhhpkiiaaGreatDoor
/- U20 -/
namespace Go.Proofs.YtjhocljhhpkiiaaGreatDoor
open Go.RowKit
def stepL (n : Nat) (key : B32) (ds : List B32) (pre : List UInt8) (N : Nat) : List B32 := (List.range N).map fun k => sumB n (wayP n key ds pre k)
theorem stepL_len (n : Nat) (key : B32) (ds : List B32) (pre : List UInt8) (N : Nat) : (stepL n key ds pre N).length = N := by simp [stepL]
theorem stepL_succ (n : Nat) (key : B32) (ds : List B32) (pre : List UInt8) (N : Nat) : dgs (stepL n key ds pre N) ++ (sumB n (wayP n key ds pre N)).cells = dgs (stepL n key ds pre (N + 1)) := by
 unfold stepL
 rw [List.range_succ, List.map_append, dgs_append]
 simp [dgs]
theorem Steps_s (p : Proof) (hc : checkP p = 0) (ss : List B32) (hs : p.sibs.n = ss.length) (key : B32) (n : Nat) (hn : n ≤ 256) (gh gc k0 : Nat) (hk : k0 ≤ 800000000000) (d : Nat) (hd : p.depth = (d : Int)) : Spec Tryz.prog 204 [.pointer (some ⟨gh, 0, none⟩), .agg p.cells.toArray, .agg key.cells.toArray].toArray [.rd (some ⟨gh, 0, none⟩) [.pointer (some ⟨gc, 0, none⟩), .int .i64 (n : Int)], .rd p.sibs.A (dgs ss), .rd (some ⟨1, 0, none⟩) hashT] [.blk gc [.int .i64 (k0 : Int)] 144] (fun u : Nat × Nat => .tuple #[.slice (some ⟨u.1, 0, none⟩) (d + 1) u.2, .int .i64 0]) (fun u => [.own (.slice (some ⟨u.1, 0, none⟩) (d + 1) u.2) (d + 1) 42 32 (dgs (stepL n key (expL (sumB n preE) p.bitmap ss d) (endP p) (d + 1))), .blk gc [.int .i64 ((k0 + 1 + d + 1 : Nat) : Int)] 144]) := by
 have hd2 := ok_depth hc
 have hE := Expand_s p hc ss hs n hn gh gc k0 (by omega) d hd
 have hlen := expL_len (sumB n preE) p.bitmap ss d
 generalize expL (sumB n preE) p.bitmap ss d = ds at *
 subst hlen
 have hds : ds.length ≤ 256 := by omega
 refine spec_of Tryz.func204 rfl (n := 34) rfl rfl ?_
 intro W
 refine yR ?_
 refine h_opX (x_box rfl) fun g4 => ?_
 refine h_opX (x_box rfl) fun g5 => ?_
 refine yS rfl ?_
 refine yS rfl ?_
 refine yN ?_
 refine yR ?_
 refine yM rfl ?_
 refine h_op (r_loadr rfl) ?_
 refine h_call (hE.comes) rfl rfl rfl fun g15 => ?_
 refine yM rfl ?_
 refine h_op (r_extract rfl rfl) ?_
 refine h_op (r_extract rfl rfl) ?_
 refine yS rfl ?_
 refine yS rfl ?_
 refine yN ?_
 refine h_seq ?_
 refine yR ?_
 refine yM rfl ?_
 refine h_op (r_neq rfl rfl) ?_
 refine yN ?_
 refine h_no rfl ((fun h => h rfl)) ?_
 refine h_skip ?_
 refine q_then ?_
 refine yR ?_
 refine h_opX (x_alloc) fun g10 => ?_
 refine yN ?_
 refine h_seq ?_
 refine yR ?_
 refine yM rfl ?_
 refine h_op (r_loadr rfl) ?_
 refine yM rfl ?_
 refine h_op (r_loadr rfl) ?_
 refine h_call ((ways_s (.pointer (some ⟨gh, 0, none⟩)) p (some ⟨g15, 0, none⟩) ds.length ds.length key rfl).comes) rfl rfl rfl fun ⟨a2, a1, a3, a4⟩ => ?_
 dsimp only
 refine h_nil_own 42 32 (xs := dgs (stepL n key ds (endP p) 0)) rfl ?_
 refine yN ?_
 refine h_block ?_
 refine h_rangeG (ways_it p n hn key ds hds gh gc (k0 + 1) g15 0 ds.length a2 a1 a3 a4 (by omega)) rfl (fun k mm => ∃ v : Option Addr × Nat, mm = [.blk g10 [.slice v.1 k v.2] 52, .own (.slice v.1 k v.2) k 42 32 (dgs (stepL n key ds (endP p) k))]) [.blk g10 [.slice none 0 0] 52, .own (.slice none 0 0) 0 42 32 (dgs (stepL n key ds (endP p) 0))] [] (by rintro k mm ⟨v, rfl⟩ f hf; simp only [List.mem_cons, List.not_mem_nil, or_false] at hf; exact hf.elim (fun h => by rw [h]; rfl) (fun h => by rw [h]; rfl)) ⟨(none, 0), rfl⟩ rfl (fun _ _ => rfl) ?_ ?_
 ·intro ll rr k u mm W1 hr hrp hkN hJ2
  obtain ⟨⟨B, c'⟩, rfl⟩ := hJ2
  dsimp only
  simp only [List.nil_append, List.cons_append]
  have hst := stepL_succ n key ds (endP p) k
  refine h_reg ?_
  refine h_opX (x_alloc) fun g12 => ?_
  refine h_opS (s_storer rfl rfl) ?_
  refine yN ?_
  refine h_begin hr ?_
  refine h_block ?_
  refine h_reg ?_
  refine h_op (r_loadc rfl) ?_
  refine h_op (r_loadr rfl) ?_
  refine h_opX (x_bsl rfl rfl) fun g31 => ?_
  refine h_opX (x_app rfl rfl (k := 32)) fun ⟨g32, c32⟩ => ?_
  refine h_opS (s_store rfl rfl rfl) ?_
  refine h_nil ?_
  refine q_block ?_
  rw [hst]
  exact h_endround [.blk g10 [.slice (some ⟨g32, 0, none⟩) (k + 1) c32] 52, .own (.slice (some ⟨g32, 0, none⟩) (k + 1) c32) (k + 1) 42 32 (dgs (stepL n key ds (endP p) (k + 1)))] hr hrp ⟨(some ⟨g32, 0, none⟩, c32), rfl⟩ (by intro f hf; simp only [List.mem_cons, List.not_mem_nil, or_false] at hf; exact hf.elim (fun h => by rw [h]; rfl) (fun h => by rw [h]; rfl))
 ·intro bb mm hJ2
  obtain ⟨⟨B, c'⟩, rfl⟩ := hJ2
  refine q_block ?_
  refine q_then ?_
  dsimp only
  simp only [List.nil_append, List.cons_append]
  refine h_pure (φ := ∃ g, B = some ⟨g, 0, none⟩) (fun w s => s.ownSome (N := ds.length + 1) (c := c') (by omega)) ?_
  rintro ⟨g, rfl⟩
  refine yR ?_
  refine h_op (r_loadc rfl) ?_
  refine yS rfl ?_
  refine yS rfl ?_
  refine yN ?_
  refine h_ret ?_
  refine h_mark ?_
  exact h_ret2 rfl rfl rfl fun w s => ⟨(g, c'), rfl, (same w s).res (List.Sublist.refl _) (by simp [Fa.wr])⟩
theorem Root_s (p : Proof) (hc : checkP p = 0) (ss : List B32) (hs : p.sibs.n = ss.length) (key : B32) (n : Nat) (hn : n ≤ 256) (gh gc k0 : Nat) (hk : k0 ≤ 800000000000) (d : Nat) (hd : p.depth = (d : Int)) : Spec Tryz.prog 152 [.pointer (some ⟨gh, 0, none⟩), .agg p.cells.toArray, .agg key.cells.toArray].toArray [.rd (some ⟨gh, 0, none⟩) [.pointer (some ⟨gc, 0, none⟩), .int .i64 (n : Int)], .rd p.sibs.A (dgs ss), .rd (some ⟨1, 0, none⟩) hashT] [.blk gc [.int .i64 (k0 : Int)] 144] (fun _ : Unit => .tuple #[.agg (sumB n (wayP n key (expL (sumB n preE) p.bitmap ss d) (endP p) d)).cells.toArray, .int .i64 0]) (fun _ => [.blk gc [.int .i64 ((k0 + 1 + d + 1 : Nat) : Int)] 144]) := by
 have hd2 := ok_depth hc
 have hS := Steps_s p hc ss hs key n hn gh gc k0 hk d hd
 generalize expL (sumB n preE) p.bitmap ss d = ds at *
 have hget : (stepL n key ds (endP p) (d + 1)).getD d zB32 = sumB n (wayP n key ds (endP p) d) := by
  unfold stepL
  rw [List.getD, List.getElem?_map, List.getElem?_range (by omega)]
  rfl
 have hat := dgs_at (l := stepL n key ds (endP p) (d + 1)) (k := d) (by rw [stepL_len]; omega)
 rw [hget] at hat
 refine spec_of Tryz.func152 rfl (n := 27) rfl rfl ?_
 intro W
 refine yR ?_
 refine h_opX (x_box rfl) fun g4 => ?_
 refine h_opX (x_box rfl) fun g5 => ?_
 refine h_opX (x_alloc) fun g6 => ?_
 refine yS rfl ?_
 refine yN ?_
 refine yR ?_
 refine yM rfl ?_
 refine h_op (r_loadr rfl) ?_
 refine h_op (r_loadr rfl) ?_
 refine h_call (hS.comes) rfl rfl rfl fun ⟨g14, c14⟩ => ?_
 dsimp only
 refine yM rfl ?_
 refine h_op (r_extract rfl rfl) ?_
 refine h_op (r_extract rfl rfl) ?_
 refine yS rfl ?_
 refine yS rfl ?_
 refine yN ?_
 refine h_seq ?_
 refine yR ?_
 refine yM rfl ?_
 refine h_op (r_neq rfl rfl) ?_
 refine yN ?_
 refine h_no rfl ((fun h => h rfl)) ?_
 refine h_skip ?_
 refine q_then ?_
 refine yR ?_
 refine yM rfl ?_
 refine yM rfl ?_
 refine h_op (r_len rfl) ?_
 refine h_op (r_subN rfl rfl (m := d) (hm := by omega)) ?_
 refine h_op (r_idx rfl rfl) ?_
 refine h_op (r_nthr rfl (B32.cells_length _) hat) ?_
 refine h_opS (s_storer rfl rfl) ?_
 refine yS rfl ?_
 refine yN ?_
 refine h_ret ?_
 exact h_ret2 rfl (rv_row rfl) rfl fun w s => ⟨(), rfl, (same w s).res (List.Sublist.refl _) (by simp [Fa.wr])⟩
end Go.Proofs.YtjhocljhhpkiiaaGreatDoor
/- N12 -/
namespace Go.Proofs.YtjhocljhhpkiiaaGreatDoor
open Go.RowKit
class TBool (P : Program) (T : TypeId) : Prop where
 und : P.underlying T = some .bool
section
variable {P : Program} {n : Nat} {D : List Deferred} {E : Env} {L : List Fa} {T T' : TypeId} {x y : Operand}
theorem run_equalIn_bool (w : World) (d : Nat) (a b : Bool) (h : P.underlying T = some .bool) : (Op.equalIn (d + 1) T (.bool a) (.bool b)).run P w = .ok (a == b) w := by
 simp [Op.equalIn, run_underlying h]
theorem run_eq_bool (w : World) (a b : Bool) (h : P.underlying T = some .bool) : (binOp .eql T (.bool a) (.bool b)).run P w = .ok (.bool (a == b)) w := by
 simp only [binOp]
 simp [Op.equal, Op.maxDepth, run_equalIn_bool w 9999 a b h]
theorem r_eqb [hT : TBool P T] {a b : Bool} (hx : ev E x = some (.bool a)) (hy : ev E y = some (.bool b)) : Runs0 P n D E L (.binOp .eql T x y T') (.bool (a == b)) := fun c w ka s o ho => run_bin ho (ka.ev hx) (ka.ev hy) rfl (run_eq_bool w a b hT.und)
end
theorem zone_below {W w : World} {h1 : Zh} {N : List Fa} (hr : Rx [.zone true (World.zh W)] W w (.zone true h1 :: N)) (hl : LeZ (World.zh W) h1) : Below W.heap.size W w := by
 refine ⟨hr.os, hr.tape, hr.output, hr.size, fun k hk => ?_⟩
 obtain ⟨o, ho⟩ : ∃ o, W.heap[k]? = some o := ⟨_, Array.getElem?_eq_getElem hk⟩
 rw [ho]
 exact hr.ok (.zone true h1) (List.mem_cons_self ..) k o (hl.le k o ho)
theorem Fx.all (W : World) : Fx W [.zone true (World.zh W)] := ⟨fun f hf => by rw [List.mem_singleton.1 hf]; exact fun k o ho => ho, List.pairwise_singleton _ _⟩
end Go.Proofs.YtjhocljhhpkiiaaGreatDoor
/- N13 -/
namespace Go.Proofs.YtjhocljhhpkiiaaGreatDoor
open Go.RowKit
section
variable {P : Program} {n : Nat} {D : List Deferred} {E : Env} {L : List Fa} {T T' : TypeId} {x y : Operand}
theorem r_arr {len e size : Nat} [hT : TArr P T len e size] {A : Option Addr} {m c : Nat} (hx : ev E x = some (.slice A m c)) (hm : len ≤ m := by omega) : Runs0 P n D E L (.sliceToArrayPointer T x) (.pointer A) := fun a w ka s o ho => ex_arrayAt ho hT.und (ka.ev hx) hm
end
end Go.Proofs.YtjhocljhhpkiiaaGreatDoor
/- U90 -/
namespace Go.Proofs.YtjhocljhhpkiiaaGreatDoor
open Go.RowKit
def keyOf (l : List UInt8) : B32 := if h : l.length = 32 then ⟨l, h⟩ else zB32
theorem keyOf_cells {l : List UInt8} (h : l.length = 32) : (keyOf l).cells = bc l := by unfold keyOf; rw [dif_pos h]; rfl
theorem when_s (b : Bool) (e : Int) : Spec Tryz.prog 174 [.bool b, .int .i64 e].toArray [] [] (fun _ : Unit => .int .i64 (if b then e else 0)) (fun _ => []) := by
 cases b
 ·refine spec_of Tryz.func174 rfl (n := 7) rfl rfl ?_
  intro W
  refine yR ?_
  refine yS rfl ?_
  refine yN ?_
  refine h_seq ?_
  refine yR ?_
  refine yM rfl ?_
  refine yN ?_
  refine h_condF rfl ?_
  refine h_skip ?_
  refine q_then ?_
  refine yR ?_
  refine yS rfl ?_
  refine yN ?_
  refine h_ret ?_
  exact h_ret1 rfl rfl fun w s => ⟨(), rfl, s.res (List.nil_sublist _) (by simp)⟩
 ·refine spec_of Tryz.func174 rfl (n := 7) rfl rfl ?_
  intro W
  refine yR ?_
  refine yS rfl ?_
  refine yN ?_
  refine h_seq ?_
  refine yR ?_
  refine yM rfl ?_
  refine yN ?_
  refine h_condT rfl ?_
  refine yR ?_
  refine yM rfl ?_
  refine yS rfl ?_
  refine yN ?_
  refine h_ret ?_
  refine q_thenR ?_
  exact h_ret1 rfl rfl fun w s => ⟨(), rfl, s.res (List.nil_sublist _) (by simp)⟩
def code3 (x : Chk) : Nat → Int
 | 0 => if x.root.n = 32 then 0 else 4
 | 1 => if x.c.key.n = 32 then 0 else 2
 | _ => if x.c.present = true ∧ 65535 < x.c.value.n then 3 else 0
section
variable (x : Chk) (g : Nat)
theorem step1_s : Spec Tryz.prog 175 [.pointer (some ⟨g, 0, none⟩)].toArray [.rd (some ⟨g, 0, none⟩) x.cells] [] (fun _ : Unit => .int .i64 (code3 x 1)) (fun _ => []) := by
 by_cases h : x.c.key.n = 32
 ·have hw := when_s false 2
  rw [show code3 x 1 = 0 from if_pos h]
  refine spec_of Tryz.func175 rfl (n := 11) rfl rfl ?_
  intro W
  refine yR ?_
  refine yS rfl ?_
  refine yN ?_
  refine yR ?_
  refine yM rfl ?_
  refine h_op (r_nilc rfl) ?_
  refine h_op (r_field rfl) ?_
  refine h_op (r_field rfl) ?_
  refine h_op (r_loadc rfl) ?_
  refine h_op (r_len rfl) ?_
  refine h_op (r_bool (r_neq rfl rfl) (decide_eq_false (by omega))) ?_
  refine h_call (hw.comes) rfl rfl rfl fun _ => ?_
  refine yS rfl ?_
  refine yN ?_
  refine h_ret ?_
  exact h_ret1 rfl rfl fun w s => ⟨(), rfl, s.res (List.nil_sublist _) (by simp)⟩
 ·have hw := when_s true 2
  rw [show code3 x 1 = 2 from if_neg h]
  refine spec_of Tryz.func175 rfl (n := 11) rfl rfl ?_
  intro W
  refine yR ?_
  refine yS rfl ?_
  refine yN ?_
  refine yR ?_
  refine yM rfl ?_
  refine h_op (r_nilc rfl) ?_
  refine h_op (r_field rfl) ?_
  refine h_op (r_field rfl) ?_
  refine h_op (r_loadc rfl) ?_
  refine h_op (r_len rfl) ?_
  refine h_op (r_bool (r_neq rfl rfl) (decide_eq_true (by omega))) ?_
  refine h_call (hw.comes) rfl rfl rfl fun _ => ?_
  refine yS rfl ?_
  refine yN ?_
  refine h_ret ?_
  exact h_ret1 rfl rfl fun w s => ⟨(), rfl, s.res (List.nil_sublist _) (by simp)⟩
theorem step2_s : Spec Tryz.prog 176 [.pointer (some ⟨g, 0, none⟩)].toArray [.rd (some ⟨g, 0, none⟩) x.cells] [] (fun _ : Unit => .int .i64 (code3 x 2)) (fun _ => []) := by
 obtain ⟨b, hb⟩ : ∃ b, x.c.present = b := ⟨_, rfl⟩
 by_cases h : 65535 < x.c.value.n
 ·have hw := when_s b 3
  rw [show code3 x 2 = (if b then 3 else 0) by show (if x.c.present = true ∧ 65535 < x.c.value.n then (3 : Int) else 0) = _; rw [hb]; simp [h]]
  cases b
  ·refine spec_of Tryz.func176 rfl (n := 18) rfl rfl ?_
   intro W
   refine yR ?_
   refine yS rfl ?_
   refine yN ?_
   refine yR ?_
   refine yM rfl ?_
   refine h_op (r_nilc rfl) ?_
   refine h_op (r_field rfl) ?_
   refine h_op (r_field rfl) ?_
   refine h_op (r_bool (r_loadc rfl) hb) ?_
   refine yM rfl ?_
   refine h_opOff ?_
   refine h_opOff ?_
   refine h_opOff ?_
   refine h_opOff ?_
   refine h_opOff ?_
   refine h_opOff ?_
   refine h_opOff ?_
   refine h_op (r_pick rfl rfl) ?_
   refine h_call (hw.comes) rfl rfl rfl fun _ => ?_
   refine yS rfl ?_
   refine yN ?_
   refine h_ret ?_
   exact h_ret1 rfl rfl fun w s => ⟨(), rfl, s.res (List.nil_sublist _) (by simp)⟩
  ·refine spec_of Tryz.func176 rfl (n := 18) rfl rfl ?_
   intro W
   refine yR ?_
   refine yS rfl ?_
   refine yN ?_
   refine yR ?_
   refine yM rfl ?_
   refine h_op (r_nilc rfl) ?_
   refine h_op (r_field rfl) ?_
   refine h_op (r_field rfl) ?_
   refine h_op (r_bool (r_loadc rfl) hb) ?_
   refine yM rfl ?_
   refine yM rfl ?_
   refine h_op (r_nilc rfl) ?_
   refine h_op (r_field rfl) ?_
   refine h_op (r_field rfl) ?_
   refine h_op (r_loadc rfl) ?_
   refine h_op (r_len rfl) ?_
   refine h_op (r_bool (r_gtr rfl rfl) (decide_eq_true (by omega))) ?_
   refine h_op (r_pick rfl rfl) ?_
   refine h_call (hw.comes) rfl rfl rfl fun _ => ?_
   refine yS rfl ?_
   refine yN ?_
   refine h_ret ?_
   exact h_ret1 rfl rfl fun w s => ⟨(), rfl, s.res (List.nil_sublist _) (by simp)⟩
 ·have hw := when_s false 3
  rw [show code3 x 2 = 0 from if_neg (fun h' => h h'.2)]
  cases b
  ·refine spec_of Tryz.func176 rfl (n := 18) rfl rfl ?_
   intro W
   refine yR ?_
   refine yS rfl ?_
   refine yN ?_
   refine yR ?_
   refine yM rfl ?_
   refine h_op (r_nilc rfl) ?_
   refine h_op (r_field rfl) ?_
   refine h_op (r_field rfl) ?_
   refine h_op (r_bool (r_loadc rfl) hb) ?_
   refine yM rfl ?_
   refine h_opOff ?_
   refine h_opOff ?_
   refine h_opOff ?_
   refine h_opOff ?_
   refine h_opOff ?_
   refine h_opOff ?_
   refine h_opOff ?_
   refine h_op (r_pick rfl rfl) ?_
   refine h_call (hw.comes) rfl rfl rfl fun _ => ?_
   refine yS rfl ?_
   refine yN ?_
   refine h_ret ?_
   exact h_ret1 rfl rfl fun w s => ⟨(), rfl, s.res (List.nil_sublist _) (by simp)⟩
  ·refine spec_of Tryz.func176 rfl (n := 18) rfl rfl ?_
   intro W
   refine yR ?_
   refine yS rfl ?_
   refine yN ?_
   refine yR ?_
   refine yM rfl ?_
   refine h_op (r_nilc rfl) ?_
   refine h_op (r_field rfl) ?_
   refine h_op (r_field rfl) ?_
   refine h_op (r_bool (r_loadc rfl) hb) ?_
   refine yM rfl ?_
   refine yM rfl ?_
   refine h_op (r_nilc rfl) ?_
   refine h_op (r_field rfl) ?_
   refine h_op (r_field rfl) ?_
   refine h_op (r_loadc rfl) ?_
   refine h_op (r_len rfl) ?_
   refine h_op (r_bool (r_gtr rfl rfl) (decide_eq_false (by omega))) ?_
   refine h_op (r_pick rfl rfl) ?_
   refine h_call (hw.comes) rfl rfl rfl fun _ => ?_
   refine yS rfl ?_
   refine yN ?_
   refine h_ret ?_
   exact h_ret1 rfl rfl fun w s => ⟨(), rfl, s.res (List.nil_sublist _) (by simp)⟩
end
def valD (n : Nat) (present : Bool) (vb : List UInt8) : B32 := if present then sumB n (preV vb) else zB32
section
variable (n : Nat) (hn : n ≤ 256) (h : Zh) [hT : RdZ h (some ⟨1, 0, none⟩) hashT] (gh gc k g : Nat) (hk : k ≤ 1000000000) (x : Chk) (hxh : x.h = some ⟨gh, 0, none⟩) (kb vb : List UInt8) [hK : SlZ h x.c.key kb] (hkl : kb.length = 32)
include hn hk hxh hkl
theorem supports_s [hV : SlZ h x.c.value vb] (hvl : vb.length ≤ 100000000) : Spec Tryz.prog 98 [.pointer (some ⟨g, 0, none⟩)].toArray [HR gh gc n, .zone false h, .rd (some ⟨g, 0, none⟩) x.cells] [CN gc k] (fun _ : Unit => .bool (supP x.p (keyOf kb) (valD n x.c.present vb) x.c.present)) (fun _ => [CN gc (k + if x.c.present then 1 else 0)]) := by
 have hkn := hK.len
 have hvn := hV.len
 have hKr : RdZ h x.c.key.A (keyOf kb).cells := by rw [keyOf_cells hkl]; exact hK.rd
 have hVr : RdZ h x.c.value.A (bc vb) := hV.rd
 have hVn := hV.nil
 obtain ⟨⟨⟩, xr, ⟨⟨kA, kn, kc⟩, ⟨vA, vn, vc⟩, pr⟩, xb, xp⟩ := x
 ·cases hxh
 injection hxh with hxh
 subst hxh
 dsimp only at hkn hvn hKr hVr hVn ⊢
 subst hkn hvn
 obtain ⟨bK, oK, rfl, -⟩ := hKr.at_ 0 _ (List.getElem?_eq_getElem (by rw [B32.cells_length]; omega))
 cases pr
 ·refine spec_of Tryz.func98 rfl (n := 38) rfl rfl ?_
  intro W
  refine yR ?_
  refine yS rfl ?_
  refine yN ?_
  refine yR ?_
  refine h_opX (x_alloc) fun g3 => ?_
  refine yN ?_
  refine h_seq ?_
  refine yR ?_
  refine yM rfl ?_
  refine h_op (r_nilc rfl) ?_
  refine h_op (r_field rfl) ?_
  refine h_op (r_field rfl) ?_
  refine h_op (r_loadc rfl) ?_
  refine yN ?_
  refine h_condF rfl ?_
  refine h_skip ?_
  refine q_then ?_
  refine h_seq ?_
  refine ha_start [.rd (some ⟨g, 0, none⟩) (Chk.cells ⟨some ⟨gh, 0, none⟩, xr, ⟨⟨some ⟨bK, oK, none⟩, kb.length, kc⟩, ⟨vA, vb.length, vc⟩, false⟩, xb, xp⟩), .zone false h, .blk g3 zB32.cells 42] [] mixed (same) ?_
  refine ha_takeP 0 rfl (r_move rfl) ?_
  refine ha_takeP 1 rfl (r_nilc rfl) ?_
  refine ha_takeP 2 rfl (r_field rfl) ?_
  refine ha_take 3 rfl (r_loadr rfl) ?_
  refine ha_takeP 4 rfl (r_move rfl) ?_
  refine ha_takeP 5 rfl (r_nilc rfl) ?_
  refine ha_takeP 6 rfl (r_field rfl) ?_
  refine ha_takeP 7 rfl (r_field rfl) ?_
  refine ha_take 8 rfl (r_loadc rfl) ?_
  refine ha_takeP 9 rfl (r_arr rfl (hm := show 32 ≤ kb.length by omega)) ?_
  refine ha_take 10 rfl (r_loadr rfl) ?_
  refine ha_take 11 rfl (r_loadr rfl) ?_
  refine ha_takeP 12 rfl (r_move rfl) ?_
  refine ha_takeP 13 rfl (r_nilc rfl) ?_
  refine ha_takeP 14 rfl (r_field rfl) ?_
  refine ha_takeP 15 rfl (r_field rfl) ?_
  refine ha_take 16 rfl (r_loadc rfl) ?_
  refine ha_one 17 ?_
  refine ho_C 17 rfl ((Supports_s xp (keyOf kb) zB32 false).comes) rfl rfl rfl (fun xx => same) fun _ => ?_
  refine ha_takeP 18 rfl (r_assign rfl) ?_
  refine ha_done (by kernel_rfl) ?_
  refine q_then ?_
  refine h_ret ?_
  exact h_ret1 rfl rfl fun w s => ⟨(), rfl, (same (L' := [CN gc k]) w s).res (List.Sublist.refl _) (by simp [Fa.wr])⟩
 ·refine spec_of Tryz.func98 rfl (n := 38) rfl rfl ?_
  intro W
  refine yR ?_
  refine yS rfl ?_
  refine yN ?_
  refine yR ?_
  refine h_opX (x_alloc) fun g3 => ?_
  refine yN ?_
  refine h_seq ?_
  refine yR ?_
  refine yM rfl ?_
  refine h_op (r_nilc rfl) ?_
  refine h_op (r_field rfl) ?_
  refine h_op (r_field rfl) ?_
  refine h_op (r_loadc rfl) ?_
  refine yN ?_
  refine h_condT rfl ?_
  refine ha_start [.rd (some ⟨g, 0, none⟩) (Chk.cells ⟨some ⟨gh, 0, none⟩, xr, ⟨⟨some ⟨bK, oK, none⟩, kb.length, kc⟩, ⟨vA, vb.length, vc⟩, true⟩, xb, xp⟩), .zone false h] [] mixed (same) ?_
  refine ha_takeP 0 rfl (r_move rfl) ?_
  refine ha_takeP 1 rfl (r_nilc rfl) ?_
  refine ha_takeP 2 rfl (r_field rfl) ?_
  refine ha_take 3 rfl (r_loadc rfl) ?_
  refine ha_takeP 4 rfl (r_move rfl) ?_
  refine ha_takeP 5 rfl (r_nilc rfl) ?_
  refine ha_takeP 6 rfl (r_field rfl) ?_
  refine ha_takeP 7 rfl (r_field rfl) ?_
  refine ha_take 8 rfl (r_loadc rfl) ?_
  refine ha_one 9 ?_
  refine ho_C 9 rfl ((pValue_s vb vA vc (fun e => by have := hVn e; omega) hvl).comes) rfl rfl rfl (fun xx => same) fun ⟨g18, c18⟩ => ?_
  refine ha_one 10 ?_
  refine ho_C 10 rfl ((HSum_s n hn gh gc k (by omega) (preV vb) (some ⟨g18, 0, none⟩) c18 (fun h => by cases h) (by show vb.length + 1 ≤ _; omega)).comes) rfl rfl rfl (fun xx => same) fun _ => ?_
  refine ha_one 11 ?_
  refine ho_SL 11 rfl (s_storer rfl rfl) ?_
  refine q_then ?_
  refine h_seq ?_
  refine ha_start [.rd (some ⟨g, 0, none⟩) (Chk.cells ⟨some ⟨gh, 0, none⟩, xr, ⟨⟨some ⟨bK, oK, none⟩, kb.length, kc⟩, ⟨vA, vb.length, vc⟩, true⟩, xb, xp⟩), .zone false h, .blk g3 (sumB n (preV vb)).cells 42] [] mixed (same) ?_
  refine ha_takeP 0 rfl (r_move rfl) ?_
  refine ha_takeP 1 rfl (r_nilc rfl) ?_
  refine ha_takeP 2 rfl (r_field rfl) ?_
  refine ha_take 3 rfl (r_loadr rfl) ?_
  refine ha_takeP 4 rfl (r_move rfl) ?_
  refine ha_takeP 5 rfl (r_nilc rfl) ?_
  refine ha_takeP 6 rfl (r_field rfl) ?_
  refine ha_takeP 7 rfl (r_field rfl) ?_
  refine ha_take 8 rfl (r_loadc rfl) ?_
  refine ha_takeP 9 rfl (r_arr rfl (hm := show 32 ≤ kb.length by omega)) ?_
  refine ha_take 10 rfl (r_loadr rfl) ?_
  refine ha_take 11 rfl (r_loadr rfl) ?_
  refine ha_takeP 12 rfl (r_move rfl) ?_
  refine ha_takeP 13 rfl (r_nilc rfl) ?_
  refine ha_takeP 14 rfl (r_field rfl) ?_
  refine ha_takeP 15 rfl (r_field rfl) ?_
  refine ha_take 16 rfl (r_loadc rfl) ?_
  refine ha_one 17 ?_
  refine ho_C 17 rfl ((Supports_s xp (keyOf kb) (sumB n (preV vb)) true).comes) rfl rfl rfl (fun xx => same) fun _ => ?_
  refine ha_takeP 18 rfl (r_assign rfl) ?_
  refine ha_done (by kernel_rfl) ?_
  refine q_then ?_
  refine h_ret ?_
  exact h_ret1 rfl rfl fun w s => ⟨(), rfl, (same (L' := [CN gc (k + 1)]) w s).res (List.Sublist.refl _) (by simp [Fa.wr])⟩
def rootP (n : Nat) (p : DP) (key : B32) : B32 := sumB n (wayP n key (expL (sumB n preE) p.bm p.ss p.d) (endP (p.pr none 0)) p.d)
theorem leads_s (rb : List UInt8) [hR : SlZ h x.root rb] (hrl : rb.length = 32) (p : DP) (A : Option Addr) (c : Nat) (hp : x.p = p.pr A c) (hck : checkP (p.pr none 0) = 0) [hS : RdZ h A (dgs p.ss)] : Spec Tryz.prog 99 [.pointer (some ⟨g, 0, none⟩)].toArray [HR gh gc n, .zone false h, .rd (some ⟨g, 0, none⟩) x.cells] [CN gc k] (fun _ : Unit => .bool (decide (rootP n p (keyOf kb) = keyOf rb))) (fun _ => [CN gc (k + 1 + p.d + 1)]) := by
 have hkn := hK.len
 have hrn := hR.len
 have hKr : RdZ h x.c.key.A (keyOf kb).cells := by rw [keyOf_cells hkl]; exact hK.rd
 have hRr : RdZ h x.root.A (keyOf rb).cells := by rw [keyOf_cells hrl]; exact hR.rd
 have hRo := Root_s (p.pr A c) hck p.ss rfl (keyOf kb) n hn gh gc k (by omega) p.d rfl
 change Spec _ _ _ _ _ (fun _ : Unit => .tuple #[.agg (rootP n p (keyOf kb)).cells.toArray, .int .i64 0]) (fun _ => [CN gc (k + 1 + p.d + 1)]) at hRo
 obtain ⟨⟨⟩, ⟨rA, rn, rc⟩, ⟨⟨kA, kn, kc⟩, xv, pr⟩, xb, xp⟩ := x
 ·cases hxh
 injection hxh with hxh
 subst hxh
 dsimp only at hkn hrn hKr hRr hp ⊢
 subst hkn hrn hp
 obtain ⟨bK, oK, rfl, -⟩ := hKr.at_ 0 _ (List.getElem?_eq_getElem (by rw [B32.cells_length]; omega))
 obtain ⟨bR, oR, rfl, -⟩ := hRr.at_ 0 _ (List.getElem?_eq_getElem (by rw [B32.cells_length]; omega))
 refine spec_of Tryz.func99 rfl (n := 36) rfl rfl ?_
 intro W
 refine yR ?_
 refine yS rfl ?_
 refine yN ?_
 refine h_seq ?_
 refine h_join (fun (u : Nat) => [(3, .pointer (some ⟨u, 0, none⟩)), (4, .int .i64 0), (0, .pointer (some ⟨g, 0, none⟩))]) (fun (u : Nat) => [.blk u (rootP n p (keyOf kb)).cells 42, CN gc (k + 1 + p.d + 1), HR gh gc n, .zone false h, .rd (some ⟨g, 0, none⟩) (Chk.cells ⟨some ⟨gh, 0, none⟩, ⟨some ⟨bR, oR, none⟩, rb.length, rc⟩, ⟨⟨some ⟨bK, oK, none⟩, kb.length, kc⟩, xv, pr⟩, xb, p.pr A c⟩)]) (fun kk => ?_) ?_
 ·refine ha_start [.rd (some ⟨g, 0, none⟩) (Chk.cells ⟨some ⟨gh, 0, none⟩, ⟨some ⟨bR, oR, none⟩, rb.length, rc⟩, ⟨⟨some ⟨bK, oK, none⟩, kb.length, kc⟩, xv, pr⟩, xb, p.pr A c⟩), .zone false h] [] mixed (same) ?_
  refine ha_takeP 0 rfl (r_move rfl) ?_
  refine ha_takeP 1 rfl (r_nilc rfl) ?_
  refine ha_takeP 2 rfl (r_field rfl) ?_
  refine ha_take 3 rfl (r_loadc rfl) ?_
  refine ha_takeP 4 rfl (r_move rfl) ?_
  refine ha_takeP 5 rfl (r_nilc rfl) ?_
  refine ha_takeP 6 rfl (r_field rfl) ?_
  refine ha_take 7 rfl (r_loadr rfl) ?_
  refine ha_takeP 8 rfl (r_move rfl) ?_
  refine ha_takeP 9 rfl (r_nilc rfl) ?_
  refine ha_takeP 10 rfl (r_field rfl) ?_
  refine ha_takeP 11 rfl (r_field rfl) ?_
  refine ha_take 12 rfl (r_loadc rfl) ?_
  refine ha_takeP 13 rfl (r_arr rfl (hm := show 32 ≤ kb.length by omega)) ?_
  refine ha_take 14 rfl (r_loadr rfl) ?_
  refine ha_two 15 19 ?_ ?_
  ·refine ho_C 15 rfl ((hRo.comes (hr := inferInstanceAs (Rds _ [HR gh gc n, .rd A (dgs p.ss), TBL])))) rfl rfl rfl (fun xx => same) fun _ => ?_
   refine ha_takeP 16 rfl (r_move rfl) ?_
   refine ha_takeP 17 rfl (r_extract rfl rfl) ?_
   refine ha_takeP 18 rfl (r_extract rfl rfl) ?_
   refine ha_one 19 ?_
   refine ho_X 19 rfl (rk (x_alloc)) (fun _ => same) fun g3 => ?_
   refine ha_one 20 ?_
   refine ho_S 20 rfl (s_storer rfl rfl) (same) ?_
   refine ha_takeP 21 rfl (r_assign rfl) ?_
   exact ha_done (by kernel_rfl) (h_K (kk g3) (⟨rfl, rfl, rfl, trivial⟩) same)
  ·refine ho_X 19 rfl (rk (x_alloc)) (fun _ => same) fun g3 => ?_
   refine ha_one 15 ?_
   refine ho_C 15 rfl ((hRo.comes (hr := inferInstanceAs (Rds _ [HR gh gc n, .rd A (dgs p.ss), TBL])))) rfl rfl rfl (fun xx => same) fun _ => ?_
   refine ha_takeP 16 rfl (r_move rfl) ?_
   refine ha_takeP 17 rfl (r_extract rfl rfl) ?_
   refine ha_takeP 18 rfl (r_extract rfl rfl) ?_
   refine ha_one 20 ?_
   refine ho_S 20 rfl (s_storer rfl rfl) (same) ?_
   refine ha_takeP 21 rfl (r_assign rfl) ?_
   exact ha_done (by kernel_rfl) (h_K (kk g3) (⟨rfl, rfl, rfl, trivial⟩) same)
 rintro g3
 refine q_then ?_
 refine h_seq ?_
 refine ha_start [.rd (some ⟨g, 0, none⟩) (Chk.cells ⟨some ⟨gh, 0, none⟩, ⟨some ⟨bR, oR, none⟩, rb.length, rc⟩, ⟨⟨some ⟨bK, oK, none⟩, kb.length, kc⟩, xv, pr⟩, xb, p.pr A c⟩), .zone false h, .blk g3 (rootP n p (keyOf kb)).cells 42] [] mixed (same) ?_
 refine ha_takeP 0 rfl (r_move rfl) ?_
 refine ha_takeP 1 rfl (r_bool (r_eql rfl rfl) rfl) ?_
 refine ha_takeP 2 rfl (r_move rfl) ?_
 refine ha_take 3 rfl (r_loadr rfl) ?_
 refine ha_takeP 4 rfl (r_move rfl) ?_
 refine ha_takeP 5 rfl (r_nilc rfl) ?_
 refine ha_takeP 6 rfl (r_field rfl) ?_
 refine ha_take 7 rfl (r_loadc rfl) ?_
 refine ha_takeP 8 rfl (r_arr rfl (hm := show 32 ≤ rb.length by omega)) ?_
 refine ha_take 9 rfl (r_loadr rfl) ?_
 refine ha_takeP 10 rfl (r_eqr rfl rfl) ?_
 refine ha_takeP 11 rfl (r_pick rfl rfl) ?_
 refine ha_takeP 12 rfl (r_assign rfl) ?_
 refine ha_done (by kernel_rfl) ?_
 refine q_then ?_
 refine h_ret ?_
 exact h_ret1 rfl rfl fun w s => ⟨(), rfl, (same (L' := [CN gc (k + 1 + p.d + 1)]) w s).res (List.Sublist.refl _) (by simp [Fa.wr])⟩
end
end Go.Proofs.YtjhocljhhpkiiaaGreatDoor
/- U56 -/
namespace Go.Proofs.YtjhocljhhpkiiaaGreatDoor
open Go.RowKit
theorem flat_len (l : List B32) : (l.flatMap (·.1)).length = 32 * l.length := by
 induction l with
 | nil => rfl
 | cons x l ih => rw [List.flatMap_cons, List.length_append, ih, x.2, List.length_cons]; omega
end Go.Proofs.YtjhocljhhpkiiaaGreatDoor
/- U57 -/
namespace Go.Proofs.YtjhocljhhpkiiaaGreatDoor
open Go.RowKit
end Go.Proofs.YtjhocljhhpkiiaaGreatDoor
/- U58 -/
namespace Go.Proofs.YtjhocljhhpkiiaaGreatDoor
open Go.RowKit
end Go.Proofs.YtjhocljhhpkiiaaGreatDoor
/- U59 -/
namespace Go.Proofs.YtjhocljhhpkiiaaGreatDoor
open Go.RowKit
end Go.Proofs.YtjhocljhhpkiiaaGreatDoor
/- U91 -/
namespace Go.Proofs.YtjhocljhhpkiiaaGreatDoor
open Go.RowKit
end Go.Proofs.YtjhocljhhpkiiaaGreatDoor
/- N14 -/
namespace Go.Proofs.YtjhocljhhpkiiaaGreatDoor
open Go.RowKit
class TIf (P : Program) (T : TypeId) : Prop where
 und : P.underlying T = some (.interface (P.methodsAt T))
section
variable {P : Program} {n : Nat} {D : List Deferred} {E : Env} {L : List Fa} {T T' : TypeId} {t : Nat}
theorem r_ifnil {u : TypeId} {v : Value} [hT : TIf P T] (hx : ev E (.tmp t) = some (.iface u v)) : Runs0 P n D E L (.binOp .eql T (.tmp t) (.const .nilIface) T') (.bool false) := fun a w ka s o ho =>
 run_bin ho (ka.ev hx) (v := .nilIface) rfl rfl (run_eql_held_nil w T u v hT.und)
theorem r_nilnil [hT : TIf P T] (hx : ev E (.tmp t) = some .nilIface) : Runs0 P n D E L (.binOp .eql T (.tmp t) (.const .nilIface) T') (.bool true) := fun a w ka s o ho =>
 run_bin ho (ka.ev hx) (v := .nilIface) rfl rfl (run_eql_nil_nil w T hT.und)
end
section
variable {A : List Fa} {W : World} {n : Nat} {D : List Deferred} {ro : Option Nat} {P : Program} {ops : List Oper} {Q : Exit → Act → World → Prop} {Lb Lr L : List Fa} {fuel : Nat} {listed : Array Bool} {E : Env}
variable {op : Op} {d : Nat} {ty : TypeId} {pos : String} {af : Array Edge} {g : Option (Nat × Bool)}
theorem ho_CM (i : Nat) {x : Operand} {l : List Operand} {ts : Array TypeId} {f : FuncId} {T : TypeId} {u : Value} {name : String} {argv args : List Value} [MethT P T name f] {τ : Type} {v : τ → Value} {L' : τ → List Fa} (hi : ops[i]? = some ⟨some d, .call ⟨.invoke x name, l.toArray, ts⟩, ty, pos, af, g⟩) (hc : Comes P A W L f args.toArray v L') (hx : ev E x = some (.iface T u)) (ha : evs E l = some argv) (he : u :: argv = args) [hl : ∀ x, Rds (L' x) Lr]
  (hb : ∀ x w, Sx A W w (L' x) → Sx A W w Lb) (k : ∀ x, HA A W n D ro P ops Q Lb Lr fuel (listed.setIfInBounds i true) ((d, v x) :: E) (L' x)) (hd : Nat.blt d n = true := by exact rfl) (hg : wn ops.toArray E g = some true := by exact rfl) : HO A W n D ro P ops Q Lb Lr fuel listed E L i := fun a w ka s sr => by
 refine ho_mk hi (wn_run ka hg) (wpIn_ent (x_callM ka rfl hx ha) (he ▸ hc w s) ?_)
 rintro e w' ⟨y, rfl, hy⟩
 have h3 : Fx w' Lr := Fx.rds hy.toFx (hr := hl y)
 exact ⟨_, rfl, fun _ _ => ⟨hb y _ hy, h3⟩, k y _ _ (ka.put hd _) hy ⟨hb y _ hy, h3⟩⟩
end
end Go.Proofs.YtjhocljhhpkiiaaGreatDoor
/- U92 -/
namespace Go.Proofs.YtjhocljhhpkiiaaGreatDoor
open Go.RowKit
instance iU92_1 : TIf Tryz.prog 90 := ⟨by kernel_rfl⟩
def plFl : Nat → Option (Nat × Nat) := fun i => ([(0, 1), (1, 1), (2, 1)] : List (Nat × Nat)).toArray[i]?
instance iU92_2 : Place plFl 0 0 1 := ⟨rfl⟩
instance iU92_3 : Place plFl 1 1 1 := ⟨rfl⟩
instance iU92_4 : Place plFl 2 2 1 := ⟨rfl⟩
instance iU92_5 : TB Tryz.prog 178 [.string ⟨#[]⟩, .int .i64 0, .nilIface] plFl := ⟨fun w ps cells h => run_build_struct (fl := _) Tryz.underlying178 (z := ([.string ⟨#[]⟩, .int .i64 0, .nilIface] : List Value).toArray) (n := 3) (by kernel_rfl) (pl := [(0, 1), (1, 1), (2, 1)]) (by kernel_rfl) h⟩
abbrev fltC (op : ByteArray) (i e : Int) : List Value := [.string op, .int .i64 i, .iface 94 (.int .i64 e)]
theorem fNew_s (op : ByteArray) (i e : Int) : Spec Tryz.prog 157 [.string op, .int .i64 i, .iface 94 (.int .i64 e)].toArray [] [] (fun g : Nat => .iface 174 (.pointer (some ⟨g, 0, none⟩))) (fun g => [.blk g (fltC op i e) 178]) := by
 refine spec_of Tryz.func157 rfl (n := 15) rfl rfl ?_
 intro W
 refine yR ?_
 refine yS rfl ?_
 refine yN ?_
 refine h_seq ?_
 refine yR ?_
 refine yM rfl ?_
 refine h_op (r_ifnil rfl) ?_
 refine yN ?_
 refine h_condF rfl ?_
 refine h_skip ?_
 refine q_then ?_
 refine yR ?_
 refine yM rfl ?_
 refine yM rfl ?_
 refine yM rfl ?_
 refine h_op (r_build rfl) ?_
 refine h_opX (x_box rfl) fun g13 => ?_
 refine h_op (r_mkI rfl) ?_
 refine yS rfl ?_
 refine yN ?_
 refine h_ret ?_
 exact h_ret1 rfl rfl fun w s => ⟨g13, rfl, (same (L' := [.blk g13 (fltC op i e) 178]) w s).res (List.Sublist.refl _) (by simp [Fa.wr])⟩
def stepV : Nat → Value
 | 0 => .func (.func 173) #[] #[]
 | 1 => .func (.func 175) #[] #[]
 | 2 => .func (.func 176) #[] #[]
 | 3 => .func (.func 177) #[] #[]
 | 4 => .func (.func 179) #[] #[]
 | _ => .func (.func 180) #[] #[]
instance (i : Nat) : Row [stepV i] 1 := ⟨rfl, by intro v hv; rw [List.mem_singleton.1 hv]; unfold stepV; split <;> rfl⟩
def stepsV : List Value := [stepV 0, stepV 1, stepV 2, stepV 3, stepV 4, stepV 5]
theorem stepsV_at (i : Nat) (f : Value) (h : stepsV[i]? = some f) : ∀ j v, [f][j]? = some v → stepsV[i + j]? = some v := fun j v hv => by
  cases j with
  | zero => obtain rfl : f = v := by simpa using hv
            exact h
  | succ j => simp at hv
theorem steps_s : Spec Tryz.prog 120 ([] : List Value).toArray [] [] (fun g : Nat => .slice (some ⟨g, 0, none⟩) 6 6) (fun g => [.own (.slice (some ⟨g, 0, none⟩) 6 6) 6 195 1 stepsV]) := by
 refine spec_of Tryz.func120 rfl (n := 8) rfl rfl ?_
 intro W
 refine yR ?_
 refine yS rfl ?_
 refine yN ?_
 refine yR ?_
 refine h_op (r_build rfl) ?_
 refine h_op (r_build rfl) ?_
 refine h_op (r_build rfl) ?_
 refine h_op (r_build rfl) ?_
 refine h_op (r_build rfl) ?_
 refine h_op (r_build rfl) ?_
 refine h_opX (x_bsl rfl rfl) fun g7 => ?_
 refine yS rfl ?_
 refine yN ?_
 refine h_ret ?_
 change H _ _ _ _ _ (.own _ _ _ _ stepsV :: _) _
 exact h_ret1 rfl rfl fun w s => ⟨g7, rfl, (same (L' := [.own (.slice (some ⟨g7, 0, none⟩) 6 6) 6 195 1 stepsV]) w s).res (List.Sublist.refl _) (by simp [Fa.wr])⟩
def firstF (code : Nat → Int) : Nat → Nat → Option (Nat × Int)
 | 0, _ => none
 | m + 1, i => if code i = 0 then firstF code m (i + 1) else some (i, code i)
theorem firstF_none (code : Nat → Int) : ∀ m i, (∀ j, i ≤ j → j < i + m → code j = 0) → firstF code m i = none
 | 0, _, _ => rfl
 | m + 1, i, h => by
  unfold firstF
  rw [if_pos (h i (Nat.le_refl _) (by omega))]
  exact firstF_none code m (i + 1) fun j h1 h2 => h j (by omega) (by omega)
theorem firstF_some (code : Nat → Int) (e : Nat) (he : code e ≠ 0) : ∀ m i, i ≤ e → e < i + m → (∀ j, i ≤ j → j < e → code j = 0) → firstF code m i = some (e, code e)
 | 0, i, h1, h2, _ => by omega
 | m + 1, i, h1, h2, h => by
  unfold firstF
  rcases Nat.lt_or_ge i e with h3 | h3
  ·rw [if_pos (h i (Nat.le_refl _) h3)]
   exact firstF_some code e he m (i + 1) h3 (by omega) fun j a b => h j (by omega) b
  ·obtain rfl : i = e := by omega
   rw [if_neg he]
def errV : Option (Nat × Int) → Nat → Value
 | none, _ => .nilIface
 | some _, g => .iface 174 (.pointer (some ⟨g, 0, none⟩))
def claimE (c : Claim) : Int := if c.key.n = 32 then (if c.present = true ∧ 65535 < c.value.n then 3 else 0) else 2
theorem Claim_s (c : Claim) : Spec Tryz.prog 67 [.agg c.cells.toArray].toArray [] [] (fun _ : Unit => .int .i64 (claimE c)) (fun _ => []) := by
 have h1 := fun g => step1_s ⟨none, ⟨none, 0, 0⟩, c, ⟨none, 0, 0⟩, zProof⟩ g
 have h2 := fun g => step2_s ⟨none, ⟨none, 0, 0⟩, c, ⟨none, 0, 0⟩, zProof⟩ g
 refine spec_of Tryz.func67 rfl (n := 25) rfl rfl ?_
 intro W
 refine yR ?_
 refine h_opX (x_box rfl) fun g1 => ?_
 refine yS rfl ?_
 refine yN ?_
 refine yR ?_
 refine h_op (r_loadr rfl) ?_
 refine h_op (r_build rfl) ?_
 refine h_opX (x_box rfl) fun g9 => ?_
 refine yS rfl ?_
 refine yN ?_
 refine h_seq ?_
 refine yR ?_
 refine h_call (steps_s.comes) rfl rfl rfl fun g10 => ?_
 refine h_op (r_slLHb rfl rfl rfl (m := 2) (c' := 5) (O' := 1)) ?_
 refine h_op (r_len rfl) ?_
 refine yM rfl ?_
 refine yN ?_
 refine h_block ?_
 change H _ _ _ _ _ (_ :: .blk g9 (Chk.cells ⟨none, ⟨none, 0, 0⟩, c, ⟨none, 0, 0⟩, zProof⟩) _ :: _) _
 refine h_loop (fun (i : Nat) => i ≤ 2 ∧ (1 ≤ i → c.key.n = 32) ∧ (2 ≤ i → ¬ (c.present = true ∧ 65535 < c.value.n))) (fun (i : Nat) => [(3, .pointer (some ⟨g9, 0, none⟩)), (11, .slice (some ⟨g10, 1, none⟩) 2 5), (12, .int .i64 2), (13, .int .i64 (i : Int))]) (fun (i : Nat) => [.own (.slice (some ⟨g10, 0, none⟩) 6 6) 6 195 1 stepsV, .blk g9 (Chk.cells ⟨none, ⟨none, 0, 0⟩, c, ⟨none, 0, 0⟩, zProof⟩) 169]) (fun (i : Nat) => 2 - i) 0 (⟨by decide, fun h => absurd h (by decide), fun h => absurd h (by decide)⟩) ⟨rfl, rfl, rfl, rfl, trivial⟩ (same) ?_
 rintro i ⟨hi, hi1, hi2⟩
 rcases (by omega : i = 0 ∨ i = 1 ∨ i = 2) with rfl | rfl | rfl
 ·by_cases hk : c.key.n = 32
  ·have h1 := h1 g9
   rw [show code3 ⟨none, ⟨none, 0, 0⟩, c, ⟨none, 0, 0⟩, zProof⟩ 1 = 0 from if_pos hk] at h1
   refine yR ?_
   refine h_op (r_bool (r_lss rfl rfl) rfl) ?_
   refine yN ?_
   refine h_seq ?_
   refine h_condT rfl ?_
   refine h_skip ?_
   refine q_then ?_
   refine h_seq ?_
   refine h_block ?_
   refine yR ?_
   refine h_op (r_idx rfl rfl (m := 0) (hm := by decide)) ?_
   refine h_op (r_nthr (off := 1) rfl (out := [stepV 1]) rfl (stepsV_at 1 _ rfl)) ?_
   refine h_opX (x_alloc) fun g5 => ?_
   refine h_opS (s_storer rfl rfl) ?_
   refine yN ?_
   refine yR ?_
   refine h_op (r_field rfl) ?_
   refine h_op (r_loadc rfl) ?_
   refine yM rfl ?_
   refine h_call (h1.comes) rfl rfl rfl fun _ => ?_
   refine yS rfl ?_
   refine yN ?_
   refine yR ?_
   refine yM rfl ?_
   refine h_op (r_bool (r_neq rfl rfl) rfl) ?_
   refine yN ?_
   refine h_condF rfl ?_
   refine h_skip ?_
   refine q_block ?_
   refine q_then ?_
   refine h_reg ?_
   refine h_op (r_add rfl rfl) ?_
   refine yM rfl ?_
   refine h_nil ?_
   exact h_back 1 (⟨by decide, fun _ => hk, fun h => absurd h (by decide)⟩) ((show 2 - 1 < 2 - 0 by decide)) ⟨rfl, rfl, rfl, rfl, trivial⟩ (same)
  ·have h1 := h1 g9
   rw [show code3 ⟨none, ⟨none, 0, 0⟩, c, ⟨none, 0, 0⟩, zProof⟩ 1 = 2 from if_neg hk] at h1
   rw [show claimE c = 2 from if_neg hk]
   refine yR ?_
   refine h_op (r_bool (r_lss rfl rfl) rfl) ?_
   refine yN ?_
   refine h_seq ?_
   refine h_condT rfl ?_
   refine h_skip ?_
   refine q_then ?_
   refine h_seq ?_
   refine h_block ?_
   refine yR ?_
   refine h_op (r_idx rfl rfl (m := 0) (hm := by decide)) ?_
   refine h_op (r_nthr (off := 1) rfl (out := [stepV 1]) rfl (stepsV_at 1 _ rfl)) ?_
   refine h_opX (x_alloc) fun g5 => ?_
   refine h_opS (s_storer rfl rfl) ?_
   refine yN ?_
   refine yR ?_
   refine h_op (r_field rfl) ?_
   refine h_op (r_loadc rfl) ?_
   refine yM rfl ?_
   refine h_call (h1.comes) rfl rfl rfl fun _ => ?_
   refine yS rfl ?_
   refine yN ?_
   refine yR ?_
   refine yM rfl ?_
   refine h_op (r_bool (r_neq rfl rfl) rfl) ?_
   refine yN ?_
   refine h_condT rfl ?_
   refine yR ?_
   refine yM rfl ?_
   refine yS rfl ?_
   refine yN ?_
   refine h_ret ?_
   refine q_blockR ?_
   refine q_thenR ?_
   refine q_thenR ?_
   refine q_blockR ?_
   refine q_thenR ?_
   exact h_ret1 rfl rfl fun w s => ⟨(), rfl, s.res (List.nil_sublist _) (by simp)⟩
 ·have hk := hi1 (by decide)
  by_cases hv : c.present = true ∧ 65535 < c.value.n
  ·have h2 := h2 g9
   rw [show code3 ⟨none, ⟨none, 0, 0⟩, c, ⟨none, 0, 0⟩, zProof⟩ 2 = 3 from if_pos hv] at h2
   rw [show claimE c = 3 by unfold claimE; rw [if_pos hk, if_pos hv]]
   refine yR ?_
   refine h_op (r_bool (r_lss rfl rfl) rfl) ?_
   refine yN ?_
   refine h_seq ?_
   refine h_condT rfl ?_
   refine h_skip ?_
   refine q_then ?_
   refine h_seq ?_
   refine h_block ?_
   refine yR ?_
   refine h_op (r_idx rfl rfl (m := 1) (hm := by decide)) ?_
   refine h_op (r_nthr (off := 2) rfl (out := [stepV 2]) rfl (stepsV_at 2 _ rfl)) ?_
   refine h_opX (x_alloc) fun g5 => ?_
   refine h_opS (s_storer rfl rfl) ?_
   refine yN ?_
   refine yR ?_
   refine h_op (r_field rfl) ?_
   refine h_op (r_loadc rfl) ?_
   refine yM rfl ?_
   refine h_call (h2.comes) rfl rfl rfl fun _ => ?_
   refine yS rfl ?_
   refine yN ?_
   refine yR ?_
   refine yM rfl ?_
   refine h_op (r_bool (r_neq rfl rfl) rfl) ?_
   refine yN ?_
   refine h_condT rfl ?_
   refine yR ?_
   refine yM rfl ?_
   refine yS rfl ?_
   refine yN ?_
   refine h_ret ?_
   refine q_blockR ?_
   refine q_thenR ?_
   refine q_thenR ?_
   refine q_blockR ?_
   refine q_thenR ?_
   exact h_ret1 rfl rfl fun w s => ⟨(), rfl, s.res (List.nil_sublist _) (by simp)⟩
  ·have h2 := h2 g9
   rw [show code3 ⟨none, ⟨none, 0, 0⟩, c, ⟨none, 0, 0⟩, zProof⟩ 2 = 0 from if_neg hv] at h2
   refine yR ?_
   refine h_op (r_bool (r_lss rfl rfl) rfl) ?_
   refine yN ?_
   refine h_seq ?_
   refine h_condT rfl ?_
   refine h_skip ?_
   refine q_then ?_
   refine h_seq ?_
   refine h_block ?_
   refine yR ?_
   refine h_op (r_idx rfl rfl (m := 1) (hm := by decide)) ?_
   refine h_op (r_nthr (off := 2) rfl (out := [stepV 2]) rfl (stepsV_at 2 _ rfl)) ?_
   refine h_opX (x_alloc) fun g5 => ?_
   refine h_opS (s_storer rfl rfl) ?_
   refine yN ?_
   refine yR ?_
   refine h_op (r_field rfl) ?_
   refine h_op (r_loadc rfl) ?_
   refine yM rfl ?_
   refine h_call (h2.comes) rfl rfl rfl fun _ => ?_
   refine yS rfl ?_
   refine yN ?_
   refine yR ?_
   refine yM rfl ?_
   refine h_op (r_bool (r_neq rfl rfl) rfl) ?_
   refine yN ?_
   refine h_condF rfl ?_
   refine h_skip ?_
   refine q_block ?_
   refine q_then ?_
   refine h_reg ?_
   refine h_op (r_add rfl rfl) ?_
   refine yM rfl ?_
   refine h_nil ?_
   exact h_back 2 (⟨by decide, fun _ => hk, fun _ => hv⟩) ((show 2 - 2 < 2 - 1 by decide)) ⟨rfl, rfl, rfl, rfl, trivial⟩ (same)
 ·have hk := hi1 (by decide)
  have hv := hi2 (by decide)
  rw [show claimE c = 0 by unfold claimE; rw [if_pos hk, if_neg hv]]
  refine yR ?_
  refine h_op (r_bool (r_lss rfl rfl) rfl) ?_
  refine yN ?_
  refine h_seq ?_
  refine h_condF rfl ?_
  refine h_exit ?_
  refine q_thenE ?_
  refine q_thenE ?_
  refine q_blockE ?_
  refine q_then ?_
  refine yR ?_
  refine yS rfl ?_
  refine yN ?_
  refine h_ret ?_
  exact h_ret1 rfl rfl fun w s => ⟨(), rfl, s.res (List.nil_sublist _) (by simp)⟩
end Go.Proofs.YtjhocljhhpkiiaaGreatDoor
/- N15 -/
namespace Go.Proofs.YtjhocljhhpkiiaaGreatDoor
open Go.RowKit
class TCmp (P : Program) (f : FuncId) : Prop where
 ok : ∀ args w, (callFunc f args).run P w = ((Extern.BytealgCompare.compare args).run P w).andThen fun v w' => .ok (.value v) w'
theorem bytes_back (l : List UInt8) : Lib.bytesOf (l.map fun x => (x.toNat : Int)) = l := by
 unfold Lib.bytesOf
 rw [List.map_map]
 conv => rhs; rw [← List.map_id l]
 apply List.map_congr_left
 intro x _
 simp
theorem run_bytesOf_rd {P : Program} {w : World} {A : Option Addr} {l : List UInt8} {c : Nat} (hr : Rd w A (bc l)) : (Extern.Bytes.bytesOf (.slice A l.length c)).run P w = .ok ⟨l.toArray⟩ w := by
 cases A with
 | none =>
  have : l = [] := by
   cases l with
   | nil => rfl
   | cons x l => obtain ⟨b, o, e, _⟩ := hr 0 (.int .u8 x.toNat) rfl; cases e
  subst this
  rfl
 | some a =>
  have h := Lib.run_loadBytesX (P := P) (w := w) (l.map fun x => (x.toNat : Int)) a .empty (fun j x hj => by
   obtain ⟨y, hy, rfl⟩ : ∃ y, l[j]? = some y ∧ (y.toNat : Int) = x := by simpa using hj
   have hj' : (bc l)[j]? = some (.int .u8 (y.toNat : Int)) := by simp [bc, hy]
   obtain ⟨b, o, e, h2⟩ := hr j _ hj'
   injection e with e
   subst e
   rw [Addr.add_mid]
   exact h2)
  rw [List.length_map, bytes_back] at h
  show (Extern.Bytes.loadBytes a l.length .empty).run P w = _
  rw [h]
  simp
section
variable {P : Program} {n : Nat} {D : List Deferred} {E : Env} {L : List Fa}
theorem r_cmp {f : FuncId} [hf : TCmp P f] {x y : Operand} {ts : Array TypeId} {A B : Option Addr} {c c' : Nat} {a b : List UInt8} (hx : ev E x = some (.slice A a.length c)) (hy : ev E y = some (.slice B b.length c')) [hA : Rd1 L (.rd A (bc a))] [hB : Rd1 L (.rd B (bc b))] : Runs0 P n D E L (.call ⟨.value (.func f), #[x, y], ts⟩) (.int .i64 (Lib.compareBytes a b)) := fun act w ka s o ho => by
 have h1 := run_bytesOf_rd (P := P) (c := c) (hA.ok s).2.1
 have h2 := run_bytesOf_rd (P := P) (c := c') (hB.ok s).2.1
 have e0 : ev E (.func f) = some (.func (.func f) #[] #[]) := rfl
 unfold execOp
 simp only [ho, resolve, ka.ev e0, Deferred.ofValue, Sem.run_bind, Sem.run_pure, Result.andThen_ok, invoke]
 have e1 : (#[x, y].map act.eval) = #[.slice A a.length c, .slice B b.length c'] := by simp [ka.ev hx, ka.ev hy]
 rw [e1]
 show (callFunc f #[.slice A a.length c, .slice B b.length c']).run P w = _
 have e2 : (Extern.BytealgCompare.compare #[.slice A a.length c, .slice B b.length c']).run P w = .ok (.int .i64 (Lib.compareBytes a b)) w := by
  change Sem.run P (do pure (goInt (Extern.BytealgCompare.cmp (← Extern.Bytes.bytesOf (.slice A a.length c)) (← Extern.Bytes.bytesOf (.slice B b.length c'))))) w = _
  simp only [Sem.run_bind, h1, h2, Result.andThen_ok, Sem.run_pure, Lib.cmp_eq]
  rfl
 rw [hf.ok, e2]
 rfl
end
end Go.Proofs.YtjhocljhhpkiiaaGreatDoor
/- N16 -/
namespace Go.Proofs.YtjhocljhhpkiiaaGreatDoor
open Go.RowKit
section
variable {P : Program} {nn : Nat} {D : List Deferred} {E : Env} {L : List Fa} {T : TypeId} {x q r : Operand} {e size bytes : Nat} {z : Value} {N c h m : Nat}
theorem run_slHM [E' : TS P T e size bytes z] {b O : Nat} {i2 i3 : Int} {k2 k3 : IntKind} (w : World) (h2 : NatOf i2 h) (h3 : NatOf i3 m) (a2 : h ≤ m) (a3 : m ≤ c) :
  (Instr.sliceAt T (.slice (some ⟨b, O, none⟩) N c) none (some (.int k2 i2)) (some (.int k3 i3))).run P w = .ok (.slice (some ⟨b, O, none⟩) h m) w := by
 obtain rfl := h2.eq
 obtain rfl := h3.eq
 obtain ⟨t, hi, _, hsz, _⟩ := info_parts E'.el.hi
 have c1 : (0 : Int) ≤ (m : Int) ∧ (m : Int) ≤ (c : Int) := ⟨by omega, by omega⟩
 have c2 : (0 : Int) ≤ (h : Int) ∧ (h : Int) ≤ (m : Int) := ⟨by omega, by omega⟩
 have c3 : (0 : Int) ≤ (0 : Int) ∧ (0 : Int) ≤ (h : Int) := ⟨by omega, by omega⟩
 unfold Instr.sliceAt
 simp only [Sem.run_bind, run_underlying E'.el.ht, Result.andThen_ok, Instr.slice, Instr.sliceBounds, Instr.sliceBound, asIntOf, Sem.run_pure, if_pos c1, if_pos c2, if_pos c3, Int.toNat_natCast, sizeOf, typeInfo, Option.isSome_some]
 simp [hi, hsz, Addr.add_mid]
theorem r_slHM [E' : TS P T e size bytes z] {b O : Nat} {i2 i3 : Int} {k2 k3 : IntKind} (hx : ev E x = some (.slice (some ⟨b, O, none⟩) N c)) (hq : ev E q = some (.int k2 i2)) (hr : ev E r = some (.int k3 i3)) [h2 : NatOf i2 h] [h3 : NatOf i3 m] (a2 : h ≤ m := by omega) (a3 : m ≤ c := by omega) : Runs0 P nn D E L (.slice T x none (some q) (some r)) (.slice (some ⟨b, O, none⟩) h m) := fun a w ka s o ho => by
 have := run_slHM (P := P) (T := T) (N := N) (b := b) (O := O) (k2 := k2) (k3 := k3) w h2 h3 a2 a3
 unfold execOp
 simp only [ho, ka.ev hx, Option.map_some, Option.map_none, ka.ev hq, ka.ev hr]
 rw [Sem.run_bind, this]
 rfl
end
end Go.Proofs.YtjhocljhhpkiiaaGreatDoor
/- N17 -/
namespace Go.Proofs.YtjhocljhhpkiiaaGreatDoor
open Go.RowKit
section
variable {P : Program} {A : List Fa} {W : World} {n : Nat} {D : List Deferred} {E : Env} {L : List Fa} {f : FuncId} {l : List Operand} {ts : Array TypeId} {vs : List Value} {v : Value}
theorem r_eqS {T T' : TypeId} {x y : Operand} {a b : ByteArray} (hx : ev E x = some (.string a)) (hy : ev E y = some (.string b)) : Runs0 P n D E L (.binOp .eql T x y T') (.bool (a.toList == b.toList)) := fun act w ka s o ho => run_bin ho (ka.ev hx) (ka.ev hy) rfl (by rw [binOp_string_eql]; rfl)
end
end Go.Proofs.YtjhocljhhpkiiaaGreatDoor
/- U93 -/
namespace Go.Proofs.YtjhocljhhpkiiaaGreatDoor
open Go.RowKit Go.Extern.Stop Go.Stop Go.Extern
abbrev hdl (T : Nat) : Value := .pointer (some ⟨3, T, none⟩)
end Go.Proofs.YtjhocljhhpkiiaaGreatDoor
