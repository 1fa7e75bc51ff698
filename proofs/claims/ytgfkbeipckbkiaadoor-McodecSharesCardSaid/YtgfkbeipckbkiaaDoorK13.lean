/- The tree that grows out of a map; put: a key that is put into a tree; put: At, Put, All; Proofs compared, copied, held against a claim; Proofs copied, and held against a claim; When a proof is well-formed: plain; law15.alive: it is true; law15.alive: it is true; law19.alive: it is true; law20.alive: it is true; multiproofs: the reference's Digest and Preimage; law19: MultiChecks, MultiRoots are true; multiproofs: the reference's some, Prove; The reference's proof of a map: List, Bytes, End, Sibling; The reference's proof of a map; The laws' trees: inputs that they leave out; a key's way; law20: McodecShares is true (joined texts: U41 U42 U43 U44 U45 U26p U46 U47 U81 U114 U68 U82 U78 U49 U50 U51t U88) -/
import Derived.Test.YtgfkbeipckbkiaaDoorK12
set_option linter.all false
/- U41 -/
namespace Go.Proofs.YtgfkbeipckbkiaaDoor
set_option linter.unusedSimpArgs false
set_option linter.unusedVariables false
open Go.RowKit
theorem mkT_cost {m : List En} {d : Nat} (hd : d ≤ 256) (ha : Alike m d) : (mkT m d).cost ≤ m.length * (4 * (257 - d)) := by
  refine parts_ind (p := fun m d => (mkT m d).cost ≤ m.length * (4 * (257 - d))) ?_ ?_ ?_ (256 - d) m d (Nat.le_refl _) hd ha
  · intro d
    rw [mkT_nil]; exact Nat.zero_le _
  · intro e d h
    rw [mkT_one e h]
    show 2 ≤ 1 * (4 * (257 - d))
    omega
  · intro m d _ hm hd i1 i2
    rw [mkT_two hm (by omega)]
    have hl := part_len m d
    have e1 := i01 ((mkT (part m d false) (d + 1)).kind = 0)
    have e2 := i01 ((mkT (part m d true) (d + 1)).kind = 0)
    have e3 : 4 * (257 - d) = 4 * (257 - (d + 1)) + 4 := by omega
    have e4 : m.length * (4 * (257 - d)) = (part m d false).length * (4 * (257 - (d + 1))) + (part m d true).length * (4 * (257 - (d + 1))) + m.length * 4 := by
      rw [e3, Nat.mul_add, ← hl, Nat.add_mul]
    rw [e4]
    show _ + _ + _ + _ + 1 ≤ _
    omega
theorem joinT_mk {m : List En} {d : Nat} (hm : 1 < m.length) (hd : d < 256) : joinT (mkT (part m d false) (d + 1)) (mkT (part m d true) (d + 1)) = mkT m d ∧ ∀ k, k + (mkT (part m d false) (d + 1)).cost + (mkT (part m d true) (d + 1)).cost + joinC (mkT (part m d false) (d + 1)) (mkT (part m d true) (d + 1)) = k + (mkT m d).cost := by
  have hl := part_len m d
  have k1 := mkT_kind (part m d false) (d := d + 1) (by omega)
  have k2 := mkT_kind (part m d true) (d := d + 1) (by omega)
  rw [mkT_two hm (by omega)]
  unfold joinT joinC
  rw [if_neg (by omega), if_neg (by omega), if_neg (by omega), if_neg (by omega)]
  refine ⟨rfl, fun k => ?_⟩
  show _ = k + (_ + _ + _ + _ + 1)
  omega
theorem Grow_any (n : Nat) (hn : n ≤ 256) (gh gc : Nat) {m : List En} {d : Nat} (hd : d ≤ 256) (ha : Alike m d) : m.length ≤ 1000000 → ∀ (h : Zh) (k : Nat) (B : Option Addr) (c : Nat), RdZ h (some ⟨1, 0, none⟩) hashT → ValsZ h m → k + (mkT m d).cost ≤ 10000000000 →
    Spec Tryd.prog 27 [.pointer (some ⟨gh, 0, none⟩), .slice B m.length c, .int .i64 (d : Int)].toArray [HR gh gc n, .rd B (ents m)] [.zone true h, CN gc k] (fun x : {x : Zh × Option Addr // LeZ h x.1 ∧ TrZ n x.1 (mkT m d) x.2} => .pointer x.1.2) (fun x => [.zone true x.1.1, CN gc (k + (mkT m d).cost)]) := by
  refine parts_ind (p := fun m d => m.length ≤ 1000000 → ∀ (h : Zh) (k : Nat) (B : Option Addr) (c : Nat), RdZ h (some ⟨1, 0, none⟩) hashT → ValsZ h m → k + (mkT m d).cost ≤ 10000000000 →
    Spec Tryd.prog 27 [.pointer (some ⟨gh, 0, none⟩), .slice B m.length c, .int .i64 (d : Int)].toArray [HR gh gc n, .rd B (ents m)] [.zone true h, CN gc k] (fun x : {x : Zh × Option Addr // LeZ h x.1 ∧ TrZ n x.1 (mkT m d) x.2} => .pointer x.1.2) (fun x => [.zone true x.1.1, CN gc (k + (mkT m d).cost)])) ?_ ?_ ?_ (256 - d) m d (Nat.le_refl _) hd ha
  · intro d _ h k B c hT _ _
    rw [mkT_nil]
    refine spec_of Tryd.func27 rfl (n := 34) rfl rfl ?_
    intro W
    refine h_seq ?_
    refine h_reg ?_
    refine h_op (r_assign rfl) ?_
    refine h_nil ?_
    refine q_then ?_
    refine h_seq ?_
    refine h_seq ?_
    refine h_reg ?_
    refine h_op (r_move rfl) ?_
    refine h_op (r_len rfl) ?_
    refine h_nil ?_
    refine q_then ?_
    refine h_block ?_
    refine h_seq ?_
    refine h_reg ?_
    refine h_op (r_bool (r_eql rfl rfl) (show _ = true by simp)) ?_
    refine h_op (r_assign rfl) ?_
    refine h_nil ?_
    refine q_then ?_
    refine h_condT rfl ?_
    refine h_seq ?_
    refine h_reg ?_
    refine h_op (r_assign rfl) ?_
    refine h_nil ?_
    refine q_then ?_
    refine h_ret ?_
    refine q_blockR ?_
    refine q_thenR ?_
    exact h_ret1 rfl rfl fun w s => ⟨⟨(h, none), LeZ.refl h, ⟨rfl⟩⟩, rfl, (same (L' := [.zone true h, CN gc k]) w s).res (List.Sublist.refl _) (by simp [Fa.wr])⟩
  · intro e d hd _ h k B c hT hv hk
    rw [mkT_one e hd] at hk ⊢
    obtain ⟨hs, hvl⟩ := hv e (by simp)
    obtain ⟨⟨key, s⟩, b⟩ := e
    dsimp only at hs hvl
    have hk' : k + 2 ≤ 10000000000 := hk
    refine spec_of Tryd.func27 rfl (n := 34) rfl rfl ?_
    intro W
    refine h_seq ?_
    refine h_reg ?_
    refine h_op (r_assign rfl) ?_
    refine h_nil ?_
    refine q_then ?_
    refine h_seq ?_
    refine h_seq ?_
    refine h_reg ?_
    refine h_op (r_move rfl) ?_
    refine h_op (r_len rfl) ?_
    refine h_nil ?_
    refine q_then ?_
    refine h_block ?_
    refine h_seq ?_
    refine h_reg ?_
    refine h_op (r_bool (r_eql rfl rfl) (show _ = false by simp)) ?_
    refine h_op (r_assign rfl) ?_
    refine h_nil ?_
    refine q_then ?_
    refine h_condF rfl ?_
    refine h_seq ?_
    refine h_reg ?_
    refine h_op (r_bool (r_eql rfl rfl) (show _ = true by simp)) ?_
    refine h_op (r_assign rfl) ?_
    refine h_nil ?_
    refine q_then ?_
    refine h_condT rfl ?_
    refine h_pure (φ := ∃ b o, B = some ⟨b, o, none⟩) (fun w s' => Rd.some (s'.ok (.rd B (ents [⟨⟨key, s⟩, b⟩])) (by simp)) (by rw [ents_len]; exact Nat.zero_lt_succ _)) ?_
    rintro ⟨bb, o, rfl⟩
    refine h_seq ?_
    refine h_reg ?_
    refine h_op (r_move rfl) ?_
    refine h_op (r_move rfl) ?_
    refine h_op (r_idx rfl rfl (hm := by simp)) ?_
    refine h_op (r_nthr rfl (out := Entry.cells ⟨key, s⟩) (Entry.cells_length _) (ents_at0 ⟨⟨key, s⟩, b⟩)) ?_
    refine h_call ((NewLeaf_s n hn gh gc k (by omega) h key s b (by omega)).comes) rfl rfl rfl fun ⟨⟨h1, p1⟩, hle, ht⟩ => ?_
    dsimp only at hle ht ⊢
    refine h_op (r_assign rfl) ?_
    refine h_nil ?_
    refine q_then ?_
    refine h_ret ?_
    refine q_blockR ?_
    refine q_thenR ?_
    exact h_ret1 rfl rfl fun w s => ⟨⟨(h1, p1), hle, ht⟩, rfl, (same (L' := [.zone true h1, CN gc (k + 2)]) w s).res (List.Sublist.refl _) (by simp [Fa.wr])⟩
  · intro m d ha hm hd i1 i2 hl h k B c hT hv hk
    have p1 := part_len m d
    obtain ⟨hj, hcost⟩ := joinT_mk hm hd
    have hck := hcost k
    have c1 := mkT_cnt (show d + 1 ≤ 256 by omega) (ha.part false)
    have c2 := mkT_cnt (show d + 1 ≤ 256 by omega) (ha.part true)
    rw [← hck, ← hj]
    rw [← hck] at hk
    refine spec_of Tryd.func27 rfl (n := 34) rfl rfl ?_
    intro W
    refine h_seq ?_
    refine h_reg ?_
    refine h_op (r_assign rfl) ?_
    refine h_nil ?_
    refine q_then ?_
    refine h_seq ?_
    refine h_seq ?_
    refine h_reg ?_
    refine h_op (r_move rfl) ?_
    refine h_op (r_len rfl) ?_
    refine h_nil ?_
    refine q_then ?_
    refine h_block ?_
    refine h_seq ?_
    refine h_reg ?_
    refine h_op (r_eql rfl rfl) ?_
    refine h_op (r_assign rfl) ?_
    refine h_nil ?_
    refine q_then ?_
    refine h_no rfl ((by omega)) ?_
    refine h_seq ?_
    refine h_reg ?_
    refine h_op (r_eql rfl rfl) ?_
    refine h_op (r_assign rfl) ?_
    refine h_nil ?_
    refine q_then ?_
    refine h_no rfl ((by omega)) ?_
    refine h_skip ?_
    refine q_block ?_
    refine q_then ?_
    refine h_seq ?_
    refine h_reg ?_
    refine h_op (r_move rfl) ?_
    refine h_op (r_move rfl) ?_
    refine h_op (r_move rfl) ?_
    refine h_op (r_move rfl) ?_
    refine h_call ((Part_s m B c d false hd (by omega)).comes) rfl rfl rfl fun ⟨A22, c22⟩ => ?_
    refine h_op (r_move rfl) ?_
    refine h_op (r_add rfl rfl) ?_
    refine h_call ((i1 (by omega) h k A22 c22 hT (hv.part d false) (by omega)).comes) rfl rfl rfl fun ⟨⟨h1, q1⟩, hle1, ht1⟩ => ?_
    dsimp only at hle1 ht1 ⊢
    refine h_op (r_move rfl) ?_
    refine h_op (r_move rfl) ?_
    refine h_op (r_move rfl) ?_
    refine h_call ((Part_s m B c d true hd (by omega)).comes) rfl rfl rfl fun ⟨A29, c29⟩ => ?_
    refine h_op (r_move rfl) ?_
    refine h_op (r_add rfl rfl) ?_
    refine h_call ((i2 (by omega) h1 (k + (mkT (part m d false) (d + 1)).cost) A29 c29 (hT.mono hle1) ((hv.part d true).mono hle1) (by omega)).comes) rfl rfl rfl fun ⟨⟨h2, q2⟩, hle2, ht2⟩ => ?_
    dsimp only at hle2 ht2 ⊢
    have hT2 : RdZ h2 (some ⟨1, 0, none⟩) hashT := (hT.mono hle1).mono hle2
    refine h_call ((Join_s n hn gh gc (k + (mkT (part m d false) (d + 1)).cost + (mkT (part m d true) (d + 1)).cost) (by omega) h2 (mkT (part m d false) (d + 1)) (mkT (part m d true) (d + 1)) q1 q2 (by omega)).comes) rfl rfl rfl fun ⟨⟨h3, q3⟩, hle3, ht3⟩ => ?_
    dsimp only at hle3 ht3 ⊢
    refine h_op (r_assign rfl) ?_
    refine h_nil ?_
    refine q_then ?_
    refine h_ret ?_
    exact h_ret1 rfl rfl fun w s => ⟨⟨(h3, q3), (hle1.trans hle2).trans hle3, ht3⟩, rfl, (same w s).res (List.Sublist.refl _) (by simp [Fa.wr])⟩
theorem ValsZ.of {h : Zh} {l : List En} (x : ValsZ h l) : ValsZ h (ofM l) := fun e he => x e (ofM_mem he)
/-- the map of some entries, and its tree -/
theorem Tree_yes (n : Nat) (hn : n ≤ 256) (l : List En) (B : Option Addr) (c : Nat) (hf : fewM l = true) (h : Zh) [hT : RdZ h (some ⟨1, 0, none⟩) hashT] [hB : RdZ h B (ents l)] (hv : ValsZ h l) : Spec Tryd.prog 7 [.int .i64 (n : Int), .slice B l.length c].toArray [] [.zone true h] (fun x : {x : Zh × Option Addr × Option Addr × Nat // LeZ h x.1 ∧ TrZ n x.1 (mkT (ofM l) 0) x.2.1} => .tuple #[.slice x.1.2.2.1 (ofM l).length x.1.2.2.2, .pointer x.1.2.1, .bool true]) (fun x => [.own (.slice x.1.2.2.1 (ofM l).length x.1.2.2.2) (ofM l).length 77 33 (ents (ofM l)), .zone true x.1.1]) := by
  have hl : l.length ≤ 12 := by unfold fewM at hf; rw [Bool.and_eq_true, decide_eq_true_eq] at hf; exact hf.1
  have hlm := ofM_len l
  have hal : Alike (ofM l) 0 := Alike.start (ofM_nodup l)
  have hcost := mkT_cost (show 0 ≤ 256 by omega) hal
  have hcost2 : (mkT (ofM l) 0).cost ≤ 12 * (4 * 257) := Nat.le_trans hcost (Nat.mul_le_mul (by omega) (by omega))
  refine spec_of Tryd.func7 rfl (n := 27) rfl rfl ?_
  intro W
  refine h_seq ?_
  refine h_reg ?_
  refine h_op (r_assign rfl) ?_
  refine h_op (r_assign rfl) ?_
  refine h_op (r_assign rfl) ?_
  refine h_nil ?_
  refine q_then ?_
  refine h_seq ?_
  refine h_seq ?_
  refine h_reg ?_
  refine h_op (r_move rfl) ?_
  refine h_call ((Right_yes n hn).comes) rfl rfl rfl fun _ => ?_
  refine h_op (r_not rfl) ?_
  refine h_op (r_move rfl) ?_
  refine h_op (r_move rfl) ?_
  refine h_call ((Few_s l B c (by omega)).comes) rfl rfl rfl fun _ => ?_
  rw [hf]
  refine h_op (r_not rfl) ?_
  refine h_op (r_pick rfl rfl) ?_
  refine h_nil ?_
  refine q_then ?_
  refine h_condF rfl ?_
  refine h_skip ?_
  refine q_then ?_
  refine h_seq ?_
  refine h_reg ?_
  refine h_op (r_move rfl) ?_
  refine h_call ((Hash_s n hn).comes) rfl rfl rfl fun ⟨gh, gc⟩ => ?_
  dsimp only
  refine h_op (r_assign rfl) ?_
  refine h_nil ?_
  refine q_then ?_
  refine h_seq ?_
  refine h_seq ?_
  refine h_reg ?_
  refine h_op (r_move rfl) ?_
  refine h_op (r_nilR rfl rfl) ?_
  refine h_nil ?_
  refine q_then ?_
  refine h_condF rfl ?_
  refine h_skip ?_
  refine q_then ?_
  refine h_seq ?_
  refine h_reg ?_
  refine h_op (r_move rfl) ?_
  refine h_call ((Of_s l B c (by omega)).comes) rfl rfl rfl fun ⟨A22, c22⟩ => ?_
  dsimp only
  refine h_op (r_assign rfl) ?_
  refine h_nil ?_
  refine q_then ?_
  refine h_seq ?_
  refine h_reg ?_
  refine h_op (r_move rfl) ?_
  refine h_op (r_move rfl) ?_
  refine h_op (r_move rfl) ?_
  refine h_call ((Grow_any n hn gh gc (show 0 ≤ 256 by omega) hal (by omega) h 0 A22 c22 hT hv.of (by omega)).comes) rfl rfl rfl fun ⟨⟨h1, q1⟩, hle1, ht1⟩ => ?_
  dsimp only at hle1 ht1 ⊢
  refine h_op (r_assign rfl) ?_
  refine h_op (r_assign rfl) ?_
  refine h_op (r_assign rfl) ?_
  refine h_nil ?_
  refine q_then ?_
  refine h_ret ?_
  exact h_ret3 rfl rfl rfl rfl fun w s => ⟨⟨(h1, q1, A22, c22), hle1, ht1⟩, rfl, (same (L' := [.own (.slice A22 (ofM l).length c22) (ofM l).length 77 33 (ents (ofM l)), .zone true h1]) w s).res (List.Sublist.refl _) (by simp [Fa.wr])⟩
end Go.Proofs.YtgfkbeipckbkiaaDoor
/- U42 -/
namespace Go.Proofs.YtgfkbeipckbkiaaDoor
set_option linter.unusedSimpArgs false
set_option linter.unusedVariables false
open Go.RowKit
end Go.Proofs.YtgfkbeipckbkiaaDoor
/- U43 -/
namespace Go.Proofs.YtgfkbeipckbkiaaDoor
set_option linter.unusedSimpArgs false
set_option linter.unusedVariables false
open Go.RowKit
end Go.Proofs.YtgfkbeipckbkiaaDoor
/- U44 -/
namespace Go.Proofs.YtgfkbeipckbkiaaDoor
set_option linter.unusedSimpArgs false
set_option linter.unusedVariables false
open Go.RowKit
/-- whether two proofs are the same -/
def eqP (p q : Proof) (ss tt : List B32) : Prop := p.kind = q.kind ∧ p.depth = q.depth ∧ p.leaf = q.leaf ∧ p.bitmap = q.bitmap ∧ ss = tt
instance (p q : Proof) (ss tt : List B32) : Decidable (eqP p q ss tt) := inferInstanceAs (Decidable (_ ∧ _))
end Go.Proofs.YtgfkbeipckbkiaaDoor
/- U45 -/
namespace Go.Proofs.YtgfkbeipckbkiaaDoor
set_option linter.unusedSimpArgs false
set_option linter.unusedVariables false
open Go.RowKit
end Go.Proofs.YtgfkbeipckbkiaaDoor
/- U26p -/
namespace Go.Proofs.YtgfkbeipckbkiaaDoor
set_option linter.unusedSimpArgs false
set_option linter.unusedVariables false
open Go.RowKit
end Go.Proofs.YtgfkbeipckbkiaaDoor
/- U46 -/
namespace Go.Proofs.YtgfkbeipckbkiaaDoor
set_option linter.unusedSimpArgs false
set_option linter.unusedVariables false
open Go.RowKit
def kB (x : UInt8) : B32 := ⟨x :: List.replicate 31 0, rfl⟩
def L15 : List En := [⟨⟨zB32, ⟨none, 0, 0⟩⟩, []⟩, ⟨⟨kB 255, ⟨none, 0, 0⟩⟩, []⟩]
end Go.Proofs.YtgfkbeipckbkiaaDoor
/- U47 -/
namespace Go.Proofs.YtgfkbeipckbkiaaDoor
set_option linter.unusedSimpArgs false
set_option linter.unusedVariables false
open Go.RowKit
theorem fill_kB (x : UInt8) : Instr.fill (plArr 1) zB32.cells.toArray [(0, Value.int .u8 (x.toNat : Int))] = some (kB x).cells.toArray := by kernel_rfl
end Go.Proofs.YtgfkbeipckbkiaaDoor
/- U81 -/
namespace Go.Proofs.YtgfkbeipckbkiaaDoor
set_option linter.unusedSimpArgs false
set_option linter.unusedVariables false
open Go.RowKit
def L1 : List En := [⟨⟨zB32, ⟨none, 0, 0⟩⟩, []⟩]
theorem rd1_pre {L : List Fa} {A : Option Addr} {cs ds : List Value} (h : Rd1 L (.rd A (cs ++ ds))) : Rd1 L (.rd A cs) := ⟨fun hw => by
  obtain ⟨h1, h2, h3⟩ := h.ok hw
  refine ⟨rfl, fun j v hv => h2 j v ?_, fun k hk => h3 k ⟨fun e => hk.1 (List.append_eq_nil_iff.1 e).1, hk.2⟩⟩
  rw [List.getElem?_append_left (List.getElem?_eq_some_iff.1 hv).1]
  exact hv⟩
instance (L : List Fa) (A : Option Addr) [h : Rd1 L (.rd A (ents L15))] : Rd1 L (.rd A (ents L1)) := rd1_pre (ds := ents (L15.drop 1)) h
end Go.Proofs.YtgfkbeipckbkiaaDoor
/- U114 -/
namespace Go.Proofs.YtgfkbeipckbkiaaDoor
set_option linter.unusedSimpArgs false
set_option linter.unusedVariables false
open Go.RowKit
abbrev L20 : List Item := [⟨2, zB32, zLeaf⟩, ⟨3, kB 4, zLeaf⟩, ⟨1, zB32, ⟨kB 128, zB32⟩⟩]
theorem chk20a : checkM [zItem] = 0 := by decide +kernel
theorem chk20 : checkM L20 = 0 := by decide +kernel
theorem enc20a : encM [zItem] = [1, 2, 0, 0, 0, 1, 0] := by decide +kernel
theorem enc20 : (encM L20).length = 105 := by decide +kernel
theorem len20 : 6 + lenI L20 = 105 := by decide +kernel
theorem cnt20 : cntI 3 L20 = 1 := by decide +kernel
theorem alive20_s (h : Zh) : Spec Tryd.prog 10 ([] : List Value).toArray [] [.zone true h] (fun _ : {x : Zh // LeZ h x} => .bool true) (fun x => [.zone true x.1]) := by
  refine spec_of Tryd.func10 rfl (n := 68) rfl rfl ?_
  intro W
  refine h_seq ?_
  refine h_reg ?_
  refine h_op (r_assign rfl) ?_
  refine h_nil ?_
  refine q_then ?_
  refine h_seq ?_
  refine h_reg ?_
  refine h_op (r_build rfl) ?_
  refine h_opX (x_bsl rfl rfl) fun g10 => ?_
  change H _ _ _ _ _ (.own _ _ _ _ (its [zItem]) :: _) _
  refine h_freezeO (.slice (some ⟨g10, 0, none⟩) 1 1) fun h1 B1 c1 e1 hle1 hlen1 hnil1 hz1 hr1 => ?_
  injection e1 with e1 _ e1'
  subst e1 e1'
  have hE1 := mEncode_s h1 [zItem] (some ⟨g10, 0, none⟩) 1 (by decide) (by decide) chk20a
  rw [enc20a] at hE1
  refine h_call (hE1.comes) rfl rfl rfl fun ⟨A11, c11⟩ => ?_
  dsimp only
  refine h_op (r_move rfl) ?_
  refine h_op (r_extract rfl rfl) ?_
  refine h_op (r_extract rfl rfl) ?_
  refine h_op (r_assign rfl) ?_
  refine h_op (r_assign rfl) ?_
  refine h_nil ?_
  refine q_then ?_
  refine h_seq ?_
  refine h_reg ?_
  refine h_op (r_build rfl) ?_
  refine h_op (r_build (out := (kB 4).cells) rfl (hf := ⟨fill_kB 4⟩)) ?_
  refine h_op (r_build rfl) ?_
  refine h_op (r_build (out := (kB 128).cells) rfl (hf := ⟨fill_kB 128⟩)) ?_
  refine h_op (r_build rfl) ?_
  refine h_op (r_build rfl) ?_
  refine h_opX (x_bsl rfl rfl) fun g20 => ?_
  refine h_op (r_assign rfl) ?_
  refine h_nil ?_
  refine q_then ?_
  refine h_seq ?_
  change H _ _ _ _ _ (.own _ _ _ _ (its L20) :: _) _
  refine h_freezeO (.slice (some ⟨g20, 0, none⟩) 3 3) fun h2 B2 c2 e2 hle2 hlen2 hnil2 hz2 hr2 => ?_
  injection e2 with e2 _ e2'
  subst e2 e2'
  have hE2 := mEncode_s h2 L20 (some ⟨g20, 0, none⟩) 3 (by decide) (by decide) chk20
  rw [enc20] at hE2
  refine h_reg ?_
  refine h_op (r_move rfl) ?_
  refine h_call (hE2.comes) rfl rfl rfl fun ⟨A23, c23⟩ => ?_
  dsimp only
  refine h_freezeO (.slice A23 105 c23) fun h3 B3 c3 e3 hle3 hlen3 hnil3 hz3 hr3 => ?_
  injection e3 with e3 _ e3'
  subst e3 e3'
  have hD := mDecode_enc h3 L20 chk20 (by decide) A23 c23 (by rw [enc20]; exact hle3)
  rw [enc20] at hD
  refine h_op (r_move rfl) ?_
  refine h_op (r_extract rfl rfl) ?_
  refine h_op (r_extract rfl rfl) ?_
  refine h_op (r_assign rfl) ?_
  refine h_op (r_assign rfl) ?_
  refine h_nil ?_
  refine q_then ?_
  refine h_seq ?_
  refine h_reg ?_
  refine h_op (r_move rfl) ?_
  refine h_call (hD.comes) rfl rfl rfl fun ⟨⟨h4, A28, c28⟩, hz4, hr4, hle4⟩ => ?_
  dsimp only at hz4 hr4 hle4 ⊢
  have hr24 : RdZ h4 (some ⟨g20, 0, none⟩) (its L20) := (hr2.mono hz3).mono hz4
  have hSz := Size_s h4 L20 (some ⟨g20, 0, none⟩) 3 (by decide) (by decide) chk20
  rw [len20] at hSz
  have hSb := mSiblings_s L20 (some ⟨g20, 0, none⟩) 3 (by decide)
  rw [cnt20] at hSb
  refine h_op (r_move rfl) ?_
  refine h_op (r_extract rfl rfl) ?_
  refine h_op (r_extract rfl rfl) ?_
  refine h_op (r_assign rfl) ?_
  refine h_op (r_assign rfl) ?_
  refine h_nil ?_
  refine q_then ?_
  refine h_seq ?_
  refine h_reg ?_
  refine h_op (r_move rfl) ?_
  refine h_opX (x_bslV (ys := [.int .u8 1, .int .u8 2, .int .u8 0, .int .u8 0, .int .u8 0, .int .u8 1, .int .u8 0]) (bc [1, 2, 0, 0, 0, 1, 0]) rfl rfl (bc_one _)) fun g32 => ?_
  refine h_call ((Same_yes [1, 2, 0, 0, 0, 1, 0] A11 (some ⟨g32, 0, none⟩) c11 7 (by decide)).comes) rfl rfl rfl fun _ => ?_
  refine h_op (r_move rfl) ?_
  refine h_op (r_move rfl) ?_
  refine h_op (r_bool (r_eql rfl rfl) (show _ = true from rfl)) ?_
  refine h_op (r_pick rfl rfl) ?_
  refine h_op (r_move rfl) ?_
  refine h_op (r_move rfl) ?_
  refine h_op (r_len rfl) ?_
  refine h_op (r_bool (r_eql rfl rfl) (show _ = true from rfl)) ?_
  refine h_op (r_pick rfl rfl) ?_
  refine h_op (r_move rfl) ?_
  refine h_op (r_move rfl) ?_
  refine h_op (r_bool (r_eql rfl rfl) (show _ = true from rfl)) ?_
  refine h_op (r_pick rfl rfl) ?_
  refine h_op (r_move rfl) ?_
  refine h_op (r_move rfl) ?_
  refine h_op (r_move rfl) ?_
  refine h_call ((rSame19_yes L20 A28 (some ⟨g20, 0, none⟩) c28 3 (by decide)).comes) rfl rfl rfl fun _ => ?_
  refine h_op (r_pick rfl rfl) ?_
  refine h_op (r_move rfl) ?_
  refine h_op (r_move rfl) ?_
  refine h_op (r_bool (r_eql rfl rfl) (show _ = true from rfl)) ?_
  refine h_op (r_pick rfl rfl) ?_
  refine h_op (r_move rfl) ?_
  refine h_op (r_move rfl) ?_
  refine h_call (hSz.comes) rfl rfl rfl fun _ => ?_
  refine h_op (r_move rfl) ?_
  refine h_op (r_len rfl) ?_
  refine h_op (r_bool (r_eql rfl rfl) (show _ = true from rfl)) ?_
  refine h_op (r_pick rfl rfl) ?_
  refine h_op (r_move rfl) ?_
  refine h_op (r_move rfl) ?_
  refine h_call (hSb.comes) rfl rfl rfl fun _ => ?_
  refine h_op (r_bool (r_eql rfl rfl) (show _ = true from rfl)) ?_
  refine h_op (r_pick rfl rfl) ?_
  refine h_op (r_assign rfl) ?_
  refine h_nil ?_
  refine q_then ?_
  refine h_ret ?_
  exact h_ret1 rfl rfl fun w s => ⟨⟨h4, (hz1.trans hz2).trans (hz3.trans hz4)⟩, rfl, (same (L' := [.zone true h4]) w s).res (List.Sublist.refl _) (by simp [Fa.wr])⟩
end Go.Proofs.YtgfkbeipckbkiaaDoor
/- U68 -/
namespace Go.Proofs.YtgfkbeipckbkiaaDoor
set_option linter.unusedSimpArgs false
set_option linter.unusedVariables false
open Go.RowKit
end Go.Proofs.YtgfkbeipckbkiaaDoor
/- U82 -/
namespace Go.Proofs.YtgfkbeipckbkiaaDoor
set_option linter.unusedSimpArgs false
set_option linter.unusedVariables false
open Go.RowKit
end Go.Proofs.YtgfkbeipckbkiaaDoor
/- U78 -/
namespace Go.Proofs.YtgfkbeipckbkiaaDoor
set_option linter.unusedSimpArgs false
set_option linter.unusedVariables false
open Go.RowKit
theorem any_keysP (p : B32) (d : Nat) : ∀ ks : List B32, (ks.any fun k => decide (d ≤ common k p)) = !(keysP ks p d).isEmpty
  | [] => rfl
  | k :: ks => by
    have ih := any_keysP p d ks
    unfold keysP at ih ⊢
    by_cases h : d ≤ common k p
    · simp [h]
    · rw [List.any_cons, ih, List.filter_cons_of_neg (by simp [h])]
      simp [h]
theorem some_s (ks : List B32) (K : Option Addr) (c : Nat) (p : B32) (d : Nat) (hl : ks.length ≤ 1000000000) : Spec Tryd.prog 36 [.slice K ks.length c, .agg p.cells.toArray, .int .i64 (d : Int)].toArray [.rd K (dgs ks)] [] (fun _ : Unit => .bool (!(keysP ks p d).isEmpty)) (fun _ => []) := by
  rw [← any_keysP]
  refine spec_of Tryd.func36 rfl (n := 22) rfl rfl ?_
  intro W
  refine h_seq ?_
  refine h_reg ?_
  refine h_opX (x_box rfl) fun g4 => ?_
  refine h_op (r_assign rfl) ?_
  refine h_nil ?_
  refine q_then ?_
  refine h_seq ?_
  refine h_seq ?_
  refine h_reg ?_
  refine h_op (r_assign rfl) ?_
  refine h_nil ?_
  refine q_then ?_
  refine h_block ?_
  refine h_loop (fun (k : Nat) => k ≤ ks.length ∧ ((ks.take k).any fun k => decide (d ≤ common k p)) = false) (fun (k : Nat) => [(7, .int .i64 (k : Int)), (0, .slice K ks.length c), (4, .pointer (some ⟨g4, 0, none⟩)), (2, .int .i64 (d : Int))]) (fun (k : Nat) => [.blk g4 p.cells 40, .rd K (dgs ks)]) (fun (k : Nat) => ks.length - k) 0 (⟨Nat.zero_le _, rfl⟩) ⟨rfl, rfl, rfl, rfl, trivial⟩ (same) ?_
  rintro k ⟨hk, he⟩
  refine h_seq ?_
  refine h_seq ?_
  refine h_reg ?_
  refine h_op (r_move rfl) ?_
  refine h_op (r_move rfl) ?_
  refine h_op (r_len rfl) ?_
  refine h_op (r_lss rfl rfl) ?_
  refine h_nil ?_
  refine q_then ?_
  refine h_cond rfl (fun hlt => ?_) (fun hlt => ?_)
  · have hk2 : k < ks.length := by omega
    have hd := dgs_at (l := ks) (k := k) hk2
    have hx : ks[k]? = some (ks.getD k zB32) := by rw [List.getD_eq_getElem?_getD, List.getElem?_eq_getElem hk2]; rfl
    refine h_pure (φ := ∃ b o, K = some ⟨b, o, none⟩) (fun w s => Rd.some (s.ok (.rd K (dgs ks)) (by simp)) (by rw [dgs_len]; omega)) ?_
    rintro ⟨b, o, rfl⟩
    refine h_skip ?_
    refine q_then ?_
    refine h_seq ?_
    refine h_block ?_
    refine h_seq ?_
    refine ha_start [.rd (some ⟨b, o, none⟩) (dgs ks), .blk g4 p.cells 40] [] mixed (same) ?_
    refine ha_takeP 0 rfl (r_move rfl) ?_
    refine ha_takeP 1 rfl (r_move rfl) ?_
    refine ha_takeP 2 rfl (r_idx rfl rfl) ?_
    refine ha_take 3 rfl (r_nthr rfl (out := (ks.getD k zB32).cells) (B32.cells_length _) hd) ?_
    refine ha_take 4 rfl (r_loadr rfl) ?_
    refine ha_takeP 6 rfl (r_move rfl) ?_
    refine ha_one 5 ?_
    refine ho_C 5 rfl ((refCommon_s (ks.getD k zB32) p).comes) rfl rfl rfl (fun xx => same) fun _ => ?_
    refine ha_takeP 7 rfl (r_geq rfl rfl) ?_
    refine ha_done (by kernel_rfl) ?_
    refine q_then ?_
    refine h_cond rfl (fun h3 => ?_) (fun h3 => ?_)
    · have hA : (ks.any fun k => decide (d ≤ common k p)) = true := List.any_eq_true.2 ⟨_, List.mem_of_getElem? hx, by simpa using h3⟩
      rw [hA]
      refine h_seq ?_
      refine h_reg ?_
      refine h_op (r_assign rfl) ?_
      refine h_nil ?_
      refine q_then ?_
      refine h_ret ?_
      refine q_blockR ?_
      refine q_thenR ?_
      refine q_thenR ?_
      refine q_blockR ?_
      refine q_thenR ?_
      exact h_ret1 rfl rfl fun w s => ⟨(), rfl, s.res (List.nil_sublist _) (by simp)⟩
    · refine h_skip ?_
      refine q_block ?_
      refine q_then ?_
      refine h_reg ?_
      refine h_op (r_move rfl) ?_
      refine h_op (r_add rfl rfl) ?_
      refine h_op (r_assign rfl) ?_
      refine h_nil ?_
      exact h_back (k + 1) (⟨by omega, by rw [List.take_add_one, hx, Option.toList_some, List.any_append, he, Bool.false_or, List.any_cons, List.any_nil, Bool.or_false]; exact decide_eq_false (by omega)⟩) ((show ks.length - (k + 1) < ks.length - k by omega)) ⟨rfl, rfl, rfl, rfl, trivial⟩ (same)
  · obtain rfl : k = ks.length := by omega
    rw [List.take_length] at he
    rw [he]
    refine h_exit ?_
    refine q_thenE ?_
    refine q_thenE ?_
    refine q_blockE ?_
    refine q_then ?_
    refine h_seq ?_
    refine h_reg ?_
    refine h_op (r_assign rfl) ?_
    refine h_nil ?_
    refine q_then ?_
    refine h_ret ?_
    exact h_ret1 rfl rfl fun w s => ⟨(), rfl, s.res (List.nil_sublist _) (by simp)⟩
theorem its_one' (l : List Item) : ∀ v ∈ its l, v.oneCell' = true := by
  intro v hv
  unfold its at hv
  obtain ⟨x, _, hx⟩ := List.mem_flatMap.1 hv
  exact Item.cells_one x v hx
theorem addT_le (n : Nat) {m : List En} {d : Nat} (hd : d ≤ 256) (ha : Alike m d) (hm : m.length ≤ 1000) (ks : List B32) : (addT n (mkT m d) ks d).length ≤ 512001 := by
  have h1 := addT_len n (mkT m d) ks d
  have h2 := mkT_sz hd ha
  have h3 : m.length * (256 - d) ≤ 1000 * 256 := Nat.mul_le_mul hm (by omega)
  omega
section
variable (n : Nat) (hn : n ≤ 256) (h : Zh) (ks : List B32) (K : Option Addr) (kc : Nat) (hkl : ks.length ≤ 1000000000)
/-- what a call of the reference's Prove brings -/
def RPrv (m : List En) (d : Nat) : Prop := m.length ≤ 1000 → ValsZ h m → ∀ p : B32, (∀ i, d ≤ i → i < 256 → bitAt p i = false) → ∀ (B : Option Addr) (c : Nat), Spec Tryd.prog 13 [.int .i64 (n : Int), .slice B m.length c, .slice K ks.length kc, .agg p.cells.toArray, .int .i64 (d : Int)].toArray [.rd B (ents m), .zone false h, .rd K (dgs ks)] [] (fun u : Nat × Nat => .slice (some ⟨u.1, 0, none⟩) (addT n (mkT m d) (keysP ks p d) d).length u.2) (fun u => [.own (.slice (some ⟨u.1, 0, none⟩) (addT n (mkT m d) (keysP ks p d) d).length u.2) (addT n (mkT m d) (keysP ks p d) d).length 45 97 (its (addT n (mkT m d) (keysP ks p d) d))])
include hn hkl
omit hn hkl in
theorem rPrv_nil (d : Nat) : RPrv n h ks K kc [] d := by
  intro _ _ p _ B c
  have e : addT n (mkT [] d) (keysP ks p d) d = [⟨0, zB32, zLeaf⟩] := by rw [mkT_nil]; unfold addT; rfl
  rw [e]
  show Spec _ _ _ _ _ (fun u : Nat × Nat => .slice (some ⟨u.1, 0, none⟩) 1 u.2) (fun u => [.own (.slice (some ⟨u.1, 0, none⟩) 1 u.2) 1 45 97 (its [⟨0, zB32, zLeaf⟩])])
  refine spec_of Tryd.func13 rfl (n := 69) rfl rfl ?_
  intro W
  refine h_seq ?_
  refine h_reg ?_
  refine h_opX (x_box rfl) fun g8 => ?_
  refine h_op (r_assign rfl) ?_
  refine h_nil ?_
  refine q_then ?_
  refine h_seq ?_
  refine h_seq ?_
  refine h_reg ?_
  refine h_op (r_move rfl) ?_
  refine h_op (r_len rfl) ?_
  refine h_op (r_bool (r_eql rfl rfl) (show _ = true from rfl)) ?_
  refine h_nil ?_
  refine q_then ?_
  refine h_condT rfl ?_
  refine h_seq ?_
  refine h_reg ?_
  refine h_op (r_build rfl) ?_
  refine h_opX (x_bsl rfl rfl) fun g16 => ?_
  refine h_op (r_assign rfl) ?_
  refine h_nil ?_
  refine q_then ?_
  refine h_ret ?_
  refine q_thenR ?_
  change H _ _ _ _ _ (.own _ _ _ _ (Item.cells ⟨0, zB32, zLeaf⟩) :: _) _
  rw [← its_one ⟨0, zB32, zLeaf⟩]
  exact h_ret1 rfl rfl fun w s => ⟨(g16, 1), rfl, (same w s).res (List.Sublist.refl _) (by simp [Fa.wr])⟩
theorem rPrv_sib (m : List En) (d : Nat) (hd : d ≤ 256) (ha : Alike m d) (hm : m.length ≤ 1000) (hv : ValsZ h m) (h0 : m.length ≠ 0) (p : B32) (hk0 : keysP ks p d = []) (B : Option Addr) (c : Nat) : Spec Tryd.prog 13 [.int .i64 (n : Int), .slice B m.length c, .slice K ks.length kc, .agg p.cells.toArray, .int .i64 (d : Int)].toArray [.rd B (ents m), .zone false h, .rd K (dgs ks)] [] (fun u : Nat × Nat => .slice (some ⟨u.1, 0, none⟩) 1 u.2) (fun u => [.own (.slice (some ⟨u.1, 0, none⟩) 1 u.2) 1 45 97 (its [⟨3, dgT n (mkT m d), zLeaf⟩])]) := by
  have hS := some_s ks K kc p d hkl
  rw [hk0] at hS
  have hR := Root_any n hn h hd ha (by omega) hv B c
  refine spec_of Tryd.func13 rfl (n := 69) rfl rfl ?_
  intro W
  refine h_seq ?_
  refine h_reg ?_
  refine h_opX (x_box rfl) fun g8 => ?_
  refine h_op (r_assign rfl) ?_
  refine h_nil ?_
  refine q_then ?_
  refine h_seq ?_
  refine h_seq ?_
  refine h_reg ?_
  refine h_op (r_move rfl) ?_
  refine h_op (r_len rfl) ?_
  refine h_op (r_eql rfl rfl) ?_
  refine h_nil ?_
  refine q_then ?_
  refine h_no rfl ((by omega)) ?_
  refine h_skip ?_
  refine q_then ?_
  refine h_seq ?_
  refine h_seq ?_
  refine h_reg ?_
  refine h_op (r_move rfl) ?_
  refine h_op (r_loadr rfl) ?_
  refine h_op (r_move rfl) ?_
  refine h_call (hS.comes) rfl rfl rfl fun _ => ?_
  refine h_op (r_not rfl) ?_
  refine h_nil ?_
  refine q_then ?_
  refine h_condT rfl ?_
  refine h_seq ?_
  refine h_reg ?_
  refine h_op (r_move rfl) ?_
  refine h_op (r_move rfl) ?_
  refine h_op (r_move rfl) ?_
  refine h_call (hR.comes) rfl rfl rfl fun _ => ?_
  refine h_op (r_build rfl) ?_
  refine h_opX (x_bsl rfl rfl) fun g27 => ?_
  refine h_op (r_assign rfl) ?_
  refine h_nil ?_
  refine q_then ?_
  refine h_ret ?_
  refine q_thenR ?_
  change H _ _ _ _ _ (.own _ _ _ _ (Item.cells ⟨3, dgT n (mkT m d), zLeaf⟩) :: _) _
  rw [← its_one ⟨3, dgT n (mkT m d), zLeaf⟩]
  exact h_ret1 rfl rfl fun w s => ⟨(g27, 1), rfl, (same w s).res (List.Sublist.refl _) (by simp [Fa.wr])⟩
theorem rPrv_leaf (e : En) (d : Nat) (hv : ValsZ h [e]) (p : B32) (hk0 : keysP ks p d ≠ []) (B : Option Addr) (c : Nat) : Spec Tryd.prog 13 [.int .i64 (n : Int), .slice B [e].length c, .slice K ks.length kc, .agg p.cells.toArray, .int .i64 (d : Int)].toArray [.rd B (ents [e]), .zone false h, .rd K (dgs ks)] [] (fun u : Nat × Nat => .slice (some ⟨u.1, 0, none⟩) 1 u.2) (fun u => [.own (.slice (some ⟨u.1, 0, none⟩) 1 u.2) 1 45 97 (its [⟨1, zB32, leafOf n e.key e.val⟩])]) := by
  have hS := some_s ks K kc p d hkl
  rw [show (!(keysP ks p d).isEmpty) = true by cases hh : keysP ks p d with | nil => exact (hk0 hh).elim | cons => rfl] at hS
  obtain ⟨hs, hvl⟩ := hv e (by simp)
  obtain ⟨⟨key, A, N, cc⟩, b⟩ := e
  obtain rfl : N = b.length := hs.len
  have hA : A = none → b.length = 0 ∧ cc = 0 := hs.nil
  have hrd : RdZ h A (bc b) := hs.rd
  dsimp only at hvl
  refine spec_of Tryd.func13 rfl (n := 69) rfl rfl ?_
  intro W
  refine h_seq ?_
  refine h_reg ?_
  refine h_opX (x_box rfl) fun g8 => ?_
  refine h_op (r_assign rfl) ?_
  refine h_nil ?_
  refine q_then ?_
  refine h_seq ?_
  refine h_seq ?_
  refine h_reg ?_
  refine h_op (r_move rfl) ?_
  refine h_op (r_len rfl) ?_
  refine h_op (r_bool (r_eql rfl rfl) (show _ = false by simp)) ?_
  refine h_nil ?_
  refine q_then ?_
  refine h_condF rfl ?_
  refine h_skip ?_
  refine q_then ?_
  refine h_seq ?_
  refine h_seq ?_
  refine h_reg ?_
  refine h_op (r_move rfl) ?_
  refine h_op (r_loadr rfl) ?_
  refine h_op (r_move rfl) ?_
  refine h_call (hS.comes) rfl rfl rfl fun _ => ?_
  refine h_op (r_not rfl) ?_
  refine h_nil ?_
  refine q_then ?_
  refine h_condF rfl ?_
  refine h_skip ?_
  refine q_then ?_
  refine h_seq ?_
  refine h_seq ?_
  refine h_reg ?_
  refine h_op (r_move rfl) ?_
  refine h_op (r_len rfl) ?_
  refine h_op (r_bool (r_eql rfl rfl) (show _ = true by simp)) ?_
  refine h_nil ?_
  refine q_then ?_
  refine h_condT rfl ?_
  refine h_pure (φ := ∃ b o, B = some ⟨b, o, none⟩) (fun w s => Rd.some (s.ok (.rd B (ents [⟨⟨key, ⟨A, b.length, cc⟩⟩, b⟩])) (by simp)) (by rw [ents_len]; exact Nat.zero_lt_succ _)) ?_
  rintro ⟨bb, o, rfl⟩
  refine h_seq ?_
  refine ha_start [.rd (some ⟨bb, o, none⟩) (ents [⟨⟨key, ⟨A, b.length, cc⟩⟩, b⟩]), .zone false h] [] mixed (same) ?_
  refine ha_takeP 0 rfl (r_move rfl) ?_
  refine ha_takeP 1 rfl (r_move rfl) ?_
  refine ha_takeP 2 rfl (r_idx rfl rfl (hm := by simp)) ?_
  refine ha_takeP 3 rfl (r_field rfl) ?_
  refine ha_take 4 rfl (r_nthr rfl (out := key.cells) (B32.cells_length _) (ents_key0 ⟨⟨key, ⟨A, b.length, cc⟩⟩, b⟩)) ?_
  refine ha_takeP 5 rfl (r_move rfl) ?_
  refine ha_takeP 6 rfl (r_idx rfl rfl (hm := by simp)) ?_
  refine ha_takeP 7 rfl (r_field rfl) ?_
  refine ha_take 8 rfl (r_nth rfl (ents_val0 ⟨⟨key, ⟨A, b.length, cc⟩⟩, b⟩)) ?_
  refine ha_one 9 ?_
  refine ho_C 9 rfl ((rLeafOf_s n hn key b A cc hA (by omega)).comes) rfl rfl rfl (fun xx => same) fun _ => ?_
  refine ha_takeP 10 rfl (r_build rfl) ?_
  refine ha_one 11 ?_
  refine ho_X 11 rfl (rk (x_bsl rfl rfl)) (fun _ => same) fun g42 => ?_
  refine ha_takeP 12 rfl (r_assign rfl) ?_
  refine ha_done (by kernel_rfl) ?_
  refine q_then ?_
  change H _ _ _ _ _ (.own _ _ _ _ (Item.cells ⟨1, zB32, leafOf n key b⟩) :: _) _
  rw [← its_one ⟨1, zB32, leafOf n key b⟩]
  refine h_ret ?_
  refine q_thenR ?_
  exact h_ret1 rfl rfl fun w s => ⟨(g42, 1), rfl, (same w s).res (List.Sublist.refl _) (by simp [Fa.wr])⟩
omit hn in
theorem rPrv_two (m : List En) (d : Nat) (ha : Alike m d) (hm2 : 1 < m.length) (hd : d < 256) (i1 : RPrv n h ks K kc (part m d false) (d + 1)) (i2 : RPrv n h ks K kc (part m d true) (d + 1)) (hm : m.length ≤ 1000) (hv : ValsZ h m) (p : B32) (hp0 : ∀ i, d ≤ i → i < 256 → bitAt p i = false) (hk0 : keysP ks p d ≠ []) (l1 l2 : List Item) (e1 : addT n (mkT (part m d false) (d + 1)) (keysP ks p (d + 1)) (d + 1) = l1) (e2 : addT n (mkT (part m d true) (d + 1)) (keysP ks (flipAt p d) (d + 1)) (d + 1) = l2) (B : Option Addr) (c : Nat) : Spec Tryd.prog 13 [.int .i64 (n : Int), .slice B m.length c, .slice K ks.length kc, .agg p.cells.toArray, .int .i64 (d : Int)].toArray [.rd B (ents m), .zone false h, .rd K (dgs ks)] [] (fun u : Nat × Nat => .slice (some ⟨u.1, 0, none⟩) (innerI :: (l1 ++ l2)).length u.2) (fun u => [.own (.slice (some ⟨u.1, 0, none⟩) (innerI :: (l1 ++ l2)).length u.2) (innerI :: (l1 ++ l2)).length 45 97 (its (innerI :: (l1 ++ l2)))]) := by
  have hS := some_s ks K kc p d hkl
  rw [show (!(keysP ks p d).isEmpty) = true by cases hh : keysP ks p d with | nil => exact (hk0 hh).elim | cons => rfl] at hS
  have p1 := part_le m d false
  have p2 := part_le m d true
  have q1 := addT_le n (by omega) (ha.part false) (by omega) (keysP ks p (d + 1))
  have q2 := addT_le n (by omega) (ha.part true) (by omega) (keysP ks (flipAt p d) (d + 1))
  have h1 := i1 (by omega) (hv.part d false) p (fun i a b => hp0 i (by omega) b)
  have h2 := i2 (by omega) (hv.part d true) (flipAt p d) (fun i a b => by rw [flipAt_bit p d i hd b, if_neg (by omega)]; exact hp0 i (by omega) b)
  rw [e1] at q1 h1
  rw [e2] at q2 h2
  have e3 : innerI :: (l1 ++ l2) = [innerI] ++ l1 ++ l2 := by simp
  rw [e3]
  have hz1 : 1 + l1.length = ([innerI] ++ l1).length := by simp only [List.length_append, List.length_cons, List.length_nil, Nat.zero_add]
  have hz2 : ([innerI] ++ l1).length + l2.length = ([innerI] ++ l1 ++ l2).length := by simp only [List.length_append]
  refine spec_of Tryd.func13 rfl (n := 69) rfl rfl ?_
  intro W
  refine h_seq ?_
  refine h_reg ?_
  refine h_opX (x_box rfl) fun g8 => ?_
  refine h_op (r_assign rfl) ?_
  refine h_nil ?_
  refine q_then ?_
  refine h_seq ?_
  refine h_seq ?_
  refine h_reg ?_
  refine h_op (r_move rfl) ?_
  refine h_op (r_len rfl) ?_
  refine h_op (r_eql rfl rfl) ?_
  refine h_nil ?_
  refine q_then ?_
  refine h_no rfl ((by omega)) ?_
  refine h_skip ?_
  refine q_then ?_
  refine h_seq ?_
  refine h_seq ?_
  refine h_reg ?_
  refine h_op (r_move rfl) ?_
  refine h_op (r_loadr rfl) ?_
  refine h_op (r_move rfl) ?_
  refine h_call (hS.comes) rfl rfl rfl fun _ => ?_
  refine h_op (r_not rfl) ?_
  refine h_nil ?_
  refine q_then ?_
  refine h_condF rfl ?_
  refine h_skip ?_
  refine q_then ?_
  refine h_seq ?_
  refine h_seq ?_
  refine h_reg ?_
  refine h_op (r_move rfl) ?_
  refine h_op (r_len rfl) ?_
  refine h_op (r_eql rfl rfl) ?_
  refine h_nil ?_
  refine q_then ?_
  refine h_no rfl ((by omega)) ?_
  refine h_skip ?_
  refine q_then ?_
  refine h_seq ?_
  refine h_reg ?_
  refine h_op (r_build rfl) ?_
  refine h_opX (x_bsl rfl rfl) fun g44 => ?_
  refine h_op (r_assign rfl) ?_
  refine h_nil ?_
  refine q_then ?_
  refine h_seq ?_
  change H _ _ _ _ _ (.own _ _ _ _ (Item.cells innerI) :: _) _
  rw [← its_one innerI]
  refine ha_start [.blk g8 p.cells 40, .zone false h, .rd K (dgs ks)] [] mixed (same) ?_
  refine ha_takeP 0 rfl (r_move rfl) ?_
  refine ha_takeP 1 rfl (r_move rfl) ?_
  refine ha_takeP 2 rfl (r_move rfl) ?_
  refine ha_takeP 3 rfl (r_move rfl) ?_
  refine ha_takeP 5 rfl (r_move rfl) ?_
  refine ha_take 6 rfl (r_loadr rfl) ?_
  refine ha_takeP 7 rfl (r_move rfl) ?_
  refine ha_takeP 8 rfl (r_add rfl rfl) ?_
  refine ha_one 4 ?_
  refine ho_C 4 rfl ((Part_s m B c d false hd (by omega)).comes) rfl rfl rfl (fun xx => same) fun ⟨A49, c49⟩ => ?_
  refine ha_one 9 ?_
  refine ho_C 9 rfl ((h1 A49 c49).comes) rfl rfl rfl (fun xx => same) fun ⟨g54, c54⟩ => ?_
  refine ha_one 10 ?_
  refine ho_X 10 rfl (rk (x_appA (cs := its l1) rfl rfl (fun h => by cases h) (by rw [its_len]) (its_one' _))) (fun _ => same) fun ⟨A55, c55⟩ => ?_
  refine ha_takeP 11 rfl (r_assign rfl) ?_
  refine ha_done (by kernel_rfl) ?_
  refine q_then ?_
  rw [its_app, hz1]
  refine h_seq ?_
  refine ha_start [.blk g8 p.cells 40, .zone false h, .rd K (dgs ks)] [] mixed (same) ?_
  refine ha_takeP 0 rfl (r_move rfl) ?_
  refine ha_takeP 1 rfl (r_move rfl) ?_
  refine ha_takeP 2 rfl (r_move rfl) ?_
  refine ha_takeP 3 rfl (r_move rfl) ?_
  refine ha_takeP 5 rfl (r_move rfl) ?_
  refine ha_take 6 rfl (r_loadr rfl) ?_
  refine ha_takeP 7 rfl (r_move rfl) ?_
  refine ha_takeP 9 rfl (r_move rfl) ?_
  refine ha_takeP 10 rfl (r_add rfl rfl) ?_
  refine ha_one 4 ?_
  refine ho_C 4 rfl ((Part_s m B c d true hd (by omega)).comes) rfl rfl rfl (fun xx => same) fun ⟨A60, c60⟩ => ?_
  refine ha_one 8 ?_
  refine ho_C 8 rfl ((refFlip_s p d hd).comes) rfl rfl rfl (fun xx => same) fun _ => ?_
  refine ha_one 11 ?_
  refine ho_C 11 rfl ((h2 A60 c60).comes) rfl rfl rfl (fun xx => same) fun ⟨g67, c67⟩ => ?_
  refine ha_one 12 ?_
  refine ho_X 12 rfl (rk (x_appA (cs := its l2) rfl rfl (fun h => by cases h) (by rw [its_len]) (its_one' _))) (fun _ => same) fun ⟨A68, c68⟩ => ?_
  refine ha_takeP 13 rfl (r_assign rfl) ?_
  refine ha_done (by kernel_rfl) ?_
  refine q_then ?_
  rw [its_app, hz2]
  refine h_ret ?_
  refine h_pure (φ := ∃ g, A68 = some ⟨g, 0, none⟩) (fun w s => s.ownSome (N := ([innerI] ++ l1 ++ l2).length) (c := c68) (by simp)) ?_
  rintro ⟨g, rfl⟩
  exact h_ret1 rfl rfl fun w s => ⟨(g, c68), rfl, (same w s).res (List.Sublist.refl _) (by simp [Fa.wr])⟩
theorem rPrv_s {m : List En} {d : Nat} (hd : d ≤ 256) (ha : Alike m d) : RPrv n h ks K kc m d := by
  refine parts_ind (p := fun m d => RPrv n h ks K kc m d) (fun d => rPrv_nil n h ks K kc d) ?_ ?_ (256 - d) m d (Nat.le_refl _) hd ha
  · intro e d hd hl hv p _ B c
    rw [mkT_one e hd]
    by_cases hk : keysP ks p d = []
    · have := rPrv_sib n hn h ks K kc hkl [e] d hd ⟨by simp, by simp⟩ hl hv (by simp) p hk B c
      rw [mkT_one e hd] at this
      rw [hk]
      exact this
    · have := rPrv_leaf n hn h ks K kc hkl e d hv p hk B c
      obtain ⟨x, l, hxl⟩ := List.exists_cons_of_ne_nil hk
      rw [hxl]
      exact this
  · intro m d ha hm2 hd i1 i2 hl hv p hp B c
    by_cases hk : keysP ks p d = []
    · have := rPrv_sib n hn h ks K kc hkl m d (by omega) ha hl hv (by omega) p hk B c
      rw [mkT_two hm2 (by omega)] at this ⊢
      rw [hk]
      exact this
    · have := rPrv_two n h ks K kc hkl m d ha hm2 hd i1 i2 hl hv p hp hk _ _ rfl rfl B c
      have hb : bitAt p d = false := hp d (Nat.le_refl _) hd
      rw [mkT_two hm2 (by omega)]
      have e : addT n (.node (mkT (part m d false) (d + 1)) (mkT (part m d true) (d + 1))) (keysP ks p d) d = innerI :: (addT n (mkT (part m d false) (d + 1)) (keysP ks p (d + 1)) (d + 1) ++ addT n (mkT (part m d true) (d + 1)) (keysP ks (flipAt p d) (d + 1)) (d + 1)) := by
        rw [← keysP_left hd hb, ← keysP_right hd hb]
        obtain ⟨x, l, hxl⟩ := List.exists_cons_of_ne_nil hk
        rw [hxl]
        conv => lhs; unfold addT
      rw [e]
      exact this
end
end Go.Proofs.YtgfkbeipckbkiaaDoor
/- U49 -/
namespace Go.Proofs.YtgfkbeipckbkiaaDoor
set_option linter.unusedSimpArgs false
set_option linter.unusedVariables false
open Go.RowKit
/-! sets of depths -/
/-! the way of a key -/
end Go.Proofs.YtgfkbeipckbkiaaDoor
/- U50 -/
namespace Go.Proofs.YtgfkbeipckbkiaaDoor
set_option linter.unusedSimpArgs false
set_option linter.unusedVariables false
open Go.RowKit
end Go.Proofs.YtgfkbeipckbkiaaDoor
/- U51t -/
namespace Go.Proofs.YtgfkbeipckbkiaaDoor
set_option linter.unusedSimpArgs false
set_option linter.unusedVariables false
open Go.RowKit
instance : TBool Tryd.prog 4 := ⟨Tryd.underlying4⟩
theorem New_no (i : Int) (h : ¬ (0 ≤ i ∧ i ≤ 256)) : Spec Tryd.prog 28 [.int .i64 i].toArray [] [] (fun _ : Unit => .tuple #[.pointer none, .int .i64 4]) (fun _ => []) := by
  refine spec_of Tryd.func28 rfl (n := 15) rfl rfl ?_
  intro W
  by_cases h0 : i < 0
  · refine h_seq ?_
    refine h_reg ?_
    refine h_op (r_assign rfl) ?_
    refine h_op (r_assign rfl) ?_
    refine h_nil ?_
    refine q_then ?_
    refine h_seq ?_
    refine h_seq ?_
    refine h_reg ?_
    refine h_op (r_move rfl) ?_
    refine h_op (r_bool (r_lss rfl rfl) (decide_eq_true h0)) ?_
    refine h_op (r_move rfl) ?_
    refine h_opOff ?_
    refine h_opOff ?_
    refine h_op (r_pick rfl rfl) ?_
    refine h_nil ?_
    refine q_then ?_
    refine h_condT rfl ?_
    refine h_seq ?_
    refine h_reg ?_
    refine h_op (r_assign rfl) ?_
    refine h_op (r_assign rfl) ?_
    refine h_nil ?_
    refine q_then ?_
    refine h_ret ?_
    refine q_thenR ?_
    exact h_ret2 rfl rfl rfl fun w s => ⟨(), rfl, s.res (List.nil_sublist _) (by simp)⟩
  · refine h_seq ?_
    refine h_reg ?_
    refine h_op (r_assign rfl) ?_
    refine h_op (r_assign rfl) ?_
    refine h_nil ?_
    refine q_then ?_
    refine h_seq ?_
    refine h_seq ?_
    refine h_reg ?_
    refine h_op (r_move rfl) ?_
    refine h_op (r_bool (r_lss rfl rfl) (decide_eq_false h0)) ?_
    refine h_op (r_move rfl) ?_
    refine h_op (r_move rfl) ?_
    refine h_op (r_bool (r_gtr rfl rfl) (decide_eq_true (by omega))) ?_
    refine h_op (r_pick rfl rfl) ?_
    refine h_nil ?_
    refine q_then ?_
    refine h_condT rfl ?_
    refine h_seq ?_
    refine h_reg ?_
    refine h_op (r_assign rfl) ?_
    refine h_op (r_assign rfl) ?_
    refine h_nil ?_
    refine q_then ?_
    refine h_ret ?_
    refine q_thenR ?_
    exact h_ret2 rfl rfl rfl fun w s => ⟨(), rfl, s.res (List.nil_sublist _) (by simp)⟩
theorem Hash_no (i : Int) (h : ¬ (0 ≤ i ∧ i ≤ 256)) : Spec Tryd.prog 8 [.int .i64 i].toArray [] [] (fun _ : Unit => .pointer none) (fun _ => []) := by
  refine spec_of Tryd.func8 rfl (n := 13) rfl rfl ?_
  intro W
  refine h_seq ?_
  refine h_reg ?_
  refine h_op (r_assign rfl) ?_
  refine h_nil ?_
  refine q_then ?_
  refine h_seq ?_
  refine h_reg ?_
  refine h_op (r_move rfl) ?_
  refine h_call ((New_no i h).comes) rfl rfl rfl fun _ => ?_
  refine h_op (r_move rfl) ?_
  refine h_op (r_extract rfl rfl) ?_
  refine h_op (r_extract rfl rfl) ?_
  refine h_op (r_assign rfl) ?_
  refine h_op (r_assign rfl) ?_
  refine h_nil ?_
  refine q_then ?_
  refine h_seq ?_
  refine h_seq ?_
  refine h_reg ?_
  refine h_op (r_move rfl) ?_
  refine h_op (r_neq rfl rfl) ?_
  refine h_nil ?_
  refine q_then ?_
  refine h_yes rfl ((by decide)) ?_
  refine h_seq ?_
  refine h_reg ?_
  refine h_op (r_assign rfl) ?_
  refine h_nil ?_
  refine q_then ?_
  refine h_ret ?_
  refine q_thenR ?_
  exact h_ret1 rfl rfl fun w s => ⟨(), rfl, s.res (List.nil_sublist _) (by simp)⟩
theorem Few_long (l : List En) (B : Option Addr) (c : Nat) (hl : 12 < l.length) : Spec Tryd.prog 25 [.slice B l.length c].toArray [.rd B (ents l)] [] (fun _ : Unit => .bool (fewM l)) (fun _ => []) := by
  unfold fewM
  rw [decide_eq_false (by omega), Bool.false_and]
  refine spec_of Tryd.func25 rfl (n := 20) rfl rfl ?_
  intro W
  refine h_seq ?_
  refine h_reg ?_
  refine h_op (r_assign rfl) ?_
  refine h_nil ?_
  refine q_then ?_
  refine h_seq ?_
  refine h_seq ?_
  refine h_reg ?_
  refine h_op (r_move rfl) ?_
  refine h_op (r_len rfl) ?_
  refine h_op (r_gtr rfl rfl) ?_
  refine h_nil ?_
  refine q_then ?_
  refine h_yes rfl ((by omega)) ?_
  refine h_seq ?_
  refine h_reg ?_
  refine h_op (r_assign rfl) ?_
  refine h_nil ?_
  refine q_then ?_
  refine h_ret ?_
  refine q_thenR ?_
  exact h_ret1 rfl rfl fun w s => ⟨(), rfl, s.res (List.nil_sublist _) (by simp)⟩
theorem Few_any (l : List En) (B : Option Addr) (c : Nat) : Spec Tryd.prog 25 [.slice B l.length c].toArray [.rd B (ents l)] [] (fun _ : Unit => .bool (fewM l)) (fun _ => []) := by
  by_cases hl : 12 < l.length
  · exact Few_long l B c hl
  · exact Few_s l B c (by omega)
theorem Tree_bits (i : Int) (hi : ¬ (0 ≤ i ∧ i ≤ 256)) (l : List En) (B : Option Addr) (c : Nat) : Spec Tryd.prog 7 [.int .i64 i, .slice B l.length c].toArray [] [] (fun _ : Unit => .tuple #[.slice none 0 0, .pointer none, .bool false]) (fun _ => []) := by
  refine spec_of Tryd.func7 rfl (n := 27) rfl rfl ?_
  intro W
  refine h_seq ?_
  refine h_reg ?_
  refine h_op (r_assign rfl) ?_
  refine h_op (r_assign rfl) ?_
  refine h_op (r_assign rfl) ?_
  refine h_nil ?_
  refine q_then ?_
  refine h_seq ?_
  refine h_seq ?_
  refine h_reg ?_
  refine h_op (r_move rfl) ?_
  refine h_call ((Right_no i hi).comes) rfl rfl rfl fun _ => ?_
  refine h_op (r_not rfl) ?_
  refine h_op (r_move rfl) ?_
  refine h_opOff ?_
  refine h_opOff ?_
  refine h_opOff ?_
  refine h_op (r_pick rfl rfl) ?_
  refine h_nil ?_
  refine q_then ?_
  refine h_condT rfl ?_
  refine h_seq ?_
  refine h_reg ?_
  refine h_op (r_assign rfl) ?_
  refine h_op (r_assign rfl) ?_
  refine h_op (r_assign rfl) ?_
  refine h_nil ?_
  refine q_then ?_
  refine h_ret ?_
  refine q_thenR ?_
  exact h_ret3 rfl rfl rfl rfl fun w s => ⟨(), rfl, s.res (List.nil_sublist _) (by simp)⟩
theorem Tree_few (n : Nat) (hn : n ≤ 256) (l : List En) (B : Option Addr) (c : Nat) (hf : fewM l = false) : Spec Tryd.prog 7 [.int .i64 (n : Int), .slice B l.length c].toArray [.rd B (ents l)] [] (fun _ : Unit => .tuple #[.slice none 0 0, .pointer none, .bool false]) (fun _ => []) := by
  refine spec_of Tryd.func7 rfl (n := 27) rfl rfl ?_
  intro W
  refine h_seq ?_
  refine h_reg ?_
  refine h_op (r_assign rfl) ?_
  refine h_op (r_assign rfl) ?_
  refine h_op (r_assign rfl) ?_
  refine h_nil ?_
  refine q_then ?_
  refine h_seq ?_
  refine h_seq ?_
  refine h_reg ?_
  refine h_op (r_move rfl) ?_
  refine h_call ((Right_yes n hn).comes) rfl rfl rfl fun _ => ?_
  refine h_op (r_not rfl) ?_
  refine h_op (r_move rfl) ?_
  refine h_op (r_move rfl) ?_
  refine h_call ((Few_any l B c).comes) rfl rfl rfl fun _ => ?_
  rw [hf]
  refine h_op (r_not rfl) ?_
  refine h_op (r_pick rfl rfl) ?_
  refine h_nil ?_
  refine q_then ?_
  refine h_condT rfl ?_
  refine h_seq ?_
  refine h_reg ?_
  refine h_op (r_assign rfl) ?_
  refine h_op (r_assign rfl) ?_
  refine h_op (r_assign rfl) ?_
  refine h_nil ?_
  refine q_then ?_
  refine h_ret ?_
  refine q_thenR ?_
  exact h_ret3 rfl rfl rfl rfl fun w s => ⟨(), rfl, s.res (List.nil_sublist _) (by simp)⟩
/-- entries whose values lie in memory -/
def SlsZ (h : Zh) (l : List En) : Prop := ∀ e ∈ l, SlZ h e.e.value e.val
theorem SlsZ.few {h : Zh} {l : List En} (x : SlsZ h l) (hf : fewM l = true) : ValsZ h l := fun e he => by
  unfold fewM at hf
  rw [Bool.and_eq_true, List.all_eq_true] at hf
  have h1 := of_decide_eq_true (hf.2 e he)
  have h2 := (x e he).len
  exact ⟨x e he, by omega⟩
theorem ValsZ.few {h h' : Zh} {l : List En} (x : ValsZ h l) (hl : LeZ h h') : ValsZ h' (ofM l) := (ValsZ.of x).mono hl
end Go.Proofs.YtgfkbeipckbkiaaDoor
/- U88 -/
namespace Go.Proofs.YtgfkbeipckbkiaaDoor
set_option linter.unusedSimpArgs false
set_option linter.unusedVariables false
open Go.RowKit
section
variable (h : Zh) [hT : RdZ h (some ⟨1, 0, none⟩) hashT]
theorem McodecShares_s (i : Int) (l : List En) (B : Option Addr) (c : Nat) [hB : RdZ h B (ents l)] (hv : SlsZ h l) (ks : List B32) (K : Option Addr) (kc : Nat) [hK : RdZ h K (dgs ks)] (hkc : ks.length ≤ kc) (hkl : ks.length ≤ 9223372036854775807) : Spec Tryd.prog 3 [.int .i64 i, .slice B l.length c, .slice K ks.length kc].toArray [] [.zone true h] (fun _ : {x : Zh // LeZ h x} => .bool true) (fun x => [.zone true x.1]) := by
  have hk1 := rKeys_s ks K kc hkl
  refine spec_of Tryd.func3 rfl (n := 117) rfl rfl ?_
  intro W
  by_cases hi : 0 ≤ i ∧ i ≤ 256
  · obtain ⟨n, rfl⟩ : ∃ n : Nat, i = (n : Int) := ⟨i.toNat, by omega⟩
    have hn : n ≤ 256 := by omega
    by_cases hf : fewM l = true
    · have hvl := hv.few hf
      have hal : Alike (ofM l) 0 := Alike.start (ofM_nodup l)
      have hlm : (ofM l).length ≤ 12 := Nat.le_trans (ofM_len l) (by unfold fewM at hf; rw [Bool.and_eq_true, decide_eq_true_eq] at hf; exact hf.1)
      have hht := mkT_ht (by omega) hal
      have hsz := mkT_sz (by omega) hal
      have hsz2 : (ofM l).length * (256 - 0) ≤ 12 * 256 := Nat.mul_le_mul hlm (by omega)
      refine h_seq ?_
      refine h_reg ?_
      refine h_op (r_assign rfl) ?_
      refine h_nil ?_
      refine q_then ?_
      refine h_seq ?_
      refine h_reg ?_
      refine h_op (r_move rfl) ?_
      refine h_op (r_move rfl) ?_
      refine h_call ((Tree_yes n hn l B c hf h hvl).comes) rfl rfl rfl fun ⟨⟨h1, q1, A1, c1⟩, hle1, ht1⟩ => ?_
      dsimp only at hle1 ht1 ⊢
      refine h_freezeO (.slice A1 (ofM l).length c1) fun h2 B2 c2 e2 hle2 hlen2 hnil2 hz2 hr2 => ?_
      injection e2 with e2 _ e3
      subst e2 e3
      have hT2 : RdZ h2 (some ⟨1, 0, none⟩) hashT := (hT.mono hle1).mono hz2
      have ht2 : TrZ n h2 (mkT (ofM l) 0) q1 := ⟨ht1.ok.mono hz2⟩
      have hv2 := ValsZ.few hvl (hle1.trans hz2)
      refine h_op (r_move rfl) ?_
      refine h_op (r_extract rfl rfl) ?_
      refine h_op (r_extract rfl rfl) ?_
      refine h_op (r_extract rfl rfl) ?_
      refine h_op (r_assign rfl) ?_
      refine h_op (r_assign rfl) ?_
      refine h_op (r_assign rfl) ?_
      refine h_nil ?_
      refine q_then ?_
      refine h_seq ?_
      refine h_reg ?_
      refine h_op (r_move rfl) ?_
      refine h_call ((Hash_s n hn).comes) rfl rfl rfl fun ⟨gh, gc⟩ => ?_
      dsimp only
      by_cases hk30 : ks.length ≤ 30
      · by_cases he : keysE ks = 0
        · rw [he] at hk1
          have hap := addT_parse n hal ks
          have hchk : checkM (addT n (mkT (ofM l) 0) ks 0) = 0 := by unfold checkM; rw [hap]
          have hPr := mProve_s h2 ks K kc n hn gh gc 0 (by decide) (mkT (ofM l) 0) q1 ht2 hkc he (by omega) (by omega)
          have hal2 := addT_len n (mkT (ofM l) 0) ks 0
          have hlv := addT_leaves n (mkT (ofM l) 0) ks 0
          rw [mkT_cnt (by omega) hal] at hlv
          have hR := fun (z : Zh) (a : RdZ z A1 (ents (ofM l))) (b : RdZ z K (dgs ks)) (v : ValsZ z (ofM l)) => rPrv_s n hn z ks K kc (by omega) (d := 0) (by omega) hal (by omega) v zB32 (fun i _ _ => bitAt_zero i) A1 c1
          simp only [keysP_zero] at hR
          generalize addT n (mkT (ofM l) 0) ks 0 = its0 at *
          have hlI : its0.length ≤ 1000000 := by omega
          refine h_op (r_assign rfl) ?_
          refine h_nil ?_
          refine q_then ?_
          refine h_seq ?_
          refine h_seq ?_
          refine h_reg ?_
          refine h_op (r_move rfl) ?_
          refine h_op (r_not rfl) ?_
          refine h_op (r_move rfl) ?_
          refine h_op (r_move rfl) ?_
          refine h_op (r_len rfl) ?_
          refine h_op (r_bool (r_gtr rfl rfl) (decide_eq_false (by omega))) ?_
          refine h_op (r_pick rfl rfl) ?_
          refine h_op (r_move rfl) ?_
          refine h_op (r_move rfl) ?_
          refine h_call (hk1.comes) rfl rfl rfl fun _ => ?_
          refine h_op (r_bool (r_neq rfl rfl) (decide_eq_false (fun h => h rfl))) ?_
          refine h_op (r_pick rfl rfl) ?_
          refine h_nil ?_
          refine q_then ?_
          refine h_condF rfl ?_
          refine h_skip ?_
          refine q_then ?_
          refine h_seq ?_
          refine h_reg ?_
          refine h_op (r_move rfl) ?_
          refine h_op (r_move rfl) ?_
          refine h_op (r_move rfl) ?_
          refine h_call (hPr.comes) rfl rfl rfl fun ⟨A46, c46⟩ => ?_
          dsimp only
          refine h_freezeO (.slice A46 its0.length c46) fun h3 B3 c3 e3 hle3 hlen3 hnil3 hz3 hr3 => ?_
          injection e3 with e3 _ e3'
          subst e3 e3'
          have hT3 : RdZ h3 (some ⟨1, 0, none⟩) hashT := hT2.mono hz3
          have hB3 : RdZ h3 A1 (ents (ofM l)) := hr2.mono hz3
          have hK3 : RdZ h3 K (dgs ks) := ((hK.mono hle1).mono hz2).mono hz3
          have hv3 := hv2.mono hz3
          have hR3 := hR h3 hB3 hK3 hv3
          have hEn := mEncode_s h3 its0 A46 c46 hle3 hlI hchk
          have hel := encM_len its0
          rw [lenI_cnt] at hel
          refine h_op (r_move rfl) ?_
          refine h_op (r_extract rfl rfl) ?_
          refine h_op (r_extract rfl rfl) ?_
          refine h_op (r_assign rfl) ?_
          refine h_op (r_assign rfl) ?_
          refine h_nil ?_
          refine q_then ?_
          refine h_seq ?_
          refine h_reg ?_
          refine h_op (r_move rfl) ?_
          refine h_call (hEn.comes) rfl rfl rfl fun ⟨A51, c51⟩ => ?_
          dsimp only
          generalize encM its0 = E at *
          refine h_op (r_move rfl) ?_
          refine h_op (r_extract rfl rfl) ?_
          refine h_op (r_extract rfl rfl) ?_
          refine h_op (r_assign rfl) ?_
          refine h_op (r_assign rfl) ?_
          refine h_nil ?_
          refine q_then ?_
          refine h_seq ?_
          refine h_reg ?_
          refine h_op (r_move rfl) ?_
          refine h_op (r_move rfl) ?_
          refine h_op (r_move rfl) ?_
          refine h_op (r_build rfl) ?_
          refine h_call (hR3.comes) rfl rfl rfl fun ⟨g58, c58⟩ => ?_
          refine h_op (r_assign rfl) ?_
          refine h_nil ?_
          refine q_then ?_
          refine h_seq ?_
          refine h_reg ?_
          refine h_op (r_assign rfl) ?_
          refine h_op (r_assign rfl) ?_
          refine h_nil ?_
          refine q_then ?_
          refine h_seq ?_
          refine h_seq ?_
          refine h_reg ?_
          refine h_op (r_move rfl) ?_
          refine h_op (r_len rfl) ?_
          refine h_op (r_move rfl) ?_
          refine h_nil ?_
          refine q_then ?_
          refine h_block ?_
          refine h_loop (fun (k : Nat) => k ≤ its0.length) (fun (k : Nat) => [(61, .int .i64 (k : Int)), (60, .int .i64 (its0.length : Int)), (59, .slice (some ⟨g58, 0, none⟩) its0.length c58), (16, .int .i64 ((cntI 1 (its0.take k) : Nat) : Int)), (17, .int .i64 ((cntI 3 (its0.take k) : Nat) : Int)), (11, .slice A46 its0.length c46), (12, .int .i64 0), (13, .slice A51 E.length c51), (14, .int .i64 0), (15, .slice (some ⟨g58, 0, none⟩) its0.length c58), (7, .slice A1 (ofM l).length c1), (2, .slice K ks.length kc)]) (fun (k : Nat) => [.own (.slice (some ⟨g58, 0, none⟩) its0.length c58) its0.length 45 97 (its its0), .zone true h3]) (fun (k : Nat) => its0.length - k) 0 (Nat.zero_le _) ⟨rfl, rfl, rfl, rfl, rfl, rfl, rfl, rfl, rfl, rfl, rfl, rfl, trivial⟩ (same) ?_
          rintro k hk
          have hc1 := cntI_le 1 (its0.take k)
          have hc3 := cntI_le 3 (its0.take k)
          have htk : (its0.take k).length ≤ its0.length := by rw [List.length_take]; omega
          refine h_seq ?_
          refine h_reg ?_
          refine h_op (r_lss rfl rfl) ?_
          refine h_nil ?_
          refine q_then ?_
          refine h_seq ?_
          refine h_cond rfl (fun hlt => ?_) (fun hlt => ?_)
          · have hk2 : k < its0.length := by omega
            obtain ⟨x, hx⟩ : ∃ x, its0[k]? = some x := ⟨_, List.getElem?_eq_getElem hk2⟩
            have hat := its_at hx
            have hn1 := cntI_snoc (k := 1) hx
            have hn3 := cntI_snoc (k := 3) hx
            by_cases h1 : x.kind = 1
            · rw [if_pos h1] at hn1
              rw [if_neg (by omega)] at hn3
              refine h_skip ?_
              refine q_then ?_
              refine h_seq ?_
              refine h_block ?_
              refine h_seq ?_
              refine h_reg ?_
              refine h_op (r_idx rfl rfl) ?_
              refine h_op (r_nthr rfl (out := x.cells) (Item.cells_length x) hat) ?_
              refine h_opX (x_alloc) fun g19 => ?_
              refine h_opS (s_storer rfl rfl) ?_
              refine h_nil ?_
              refine q_then ?_
              refine h_seq ?_
              refine h_reg ?_
              refine h_op (r_field rfl) ?_
              refine h_op (r_loadc rfl) ?_
              refine h_nil ?_
              refine q_then ?_
              refine h_block ?_
              refine h_seq ?_
              refine h_reg ?_
              refine h_op (r_eql rfl rfl) ?_
              refine h_op (r_assign rfl) ?_
              refine h_nil ?_
              refine q_then ?_
              refine h_yes rfl (h1) ?_
              refine h_reg ?_
              refine h_op (r_move rfl) ?_
              refine h_op (r_add rfl rfl) ?_
              refine h_op (r_assign rfl) ?_
              refine h_nil ?_
              refine q_block ?_
              refine q_block ?_
              refine q_then ?_
              refine h_reg ?_
              refine h_op (r_add rfl rfl) ?_
              refine h_op (r_move rfl) ?_
              refine h_nil ?_
              exact h_back (k + 1) (hk2) (by omega) ⟨rfl, rfl, rfl, by rw [hn1]; rfl, by rw [hn3]; rfl, rfl, rfl, rfl, rfl, rfl, rfl, rfl, trivial⟩ (same)
            · rw [if_neg h1] at hn1
              by_cases h3 : x.kind = 3
              · rw [if_pos h3] at hn3
                refine h_skip ?_
                refine q_then ?_
                refine h_seq ?_
                refine h_block ?_
                refine h_seq ?_
                refine h_reg ?_
                refine h_op (r_idx rfl rfl) ?_
                refine h_op (r_nthr rfl (out := x.cells) (Item.cells_length x) hat) ?_
                refine h_opX (x_alloc) fun g19 => ?_
                refine h_opS (s_storer rfl rfl) ?_
                refine h_nil ?_
                refine q_then ?_
                refine h_seq ?_
                refine h_reg ?_
                refine h_op (r_field rfl) ?_
                refine h_op (r_loadc rfl) ?_
                refine h_nil ?_
                refine q_then ?_
                refine h_block ?_
                refine h_seq ?_
                refine h_reg ?_
                refine h_op (r_eql rfl rfl) ?_
                refine h_op (r_assign rfl) ?_
                refine h_nil ?_
                refine q_then ?_
                refine h_no rfl (h1) ?_
                refine h_seq ?_
                refine h_reg ?_
                refine h_op (r_eql rfl rfl) ?_
                refine h_op (r_assign rfl) ?_
                refine h_nil ?_
                refine q_then ?_
                refine h_yes rfl (h3) ?_
                refine h_reg ?_
                refine h_op (r_move rfl) ?_
                refine h_op (r_add rfl rfl) ?_
                refine h_op (r_assign rfl) ?_
                refine h_nil ?_
                refine q_block ?_
                refine q_block ?_
                refine q_then ?_
                refine h_reg ?_
                refine h_op (r_add rfl rfl) ?_
                refine h_op (r_move rfl) ?_
                refine h_nil ?_
                exact h_back (k + 1) (hk2) (by omega) ⟨rfl, rfl, rfl, by rw [hn1]; rfl, by rw [hn3]; rfl, rfl, rfl, rfl, rfl, rfl, rfl, rfl, trivial⟩ (same)
              · rw [if_neg h3] at hn3
                refine h_skip ?_
                refine q_then ?_
                refine h_seq ?_
                refine h_block ?_
                refine h_seq ?_
                refine h_reg ?_
                refine h_op (r_idx rfl rfl) ?_
                refine h_op (r_nthr rfl (out := x.cells) (Item.cells_length x) hat) ?_
                refine h_opX (x_alloc) fun g19 => ?_
                refine h_opS (s_storer rfl rfl) ?_
                refine h_nil ?_
                refine q_then ?_
                refine h_seq ?_
                refine h_reg ?_
                refine h_op (r_field rfl) ?_
                refine h_op (r_loadc rfl) ?_
                refine h_nil ?_
                refine q_then ?_
                refine h_block ?_
                refine h_seq ?_
                refine h_reg ?_
                refine h_op (r_eql rfl rfl) ?_
                refine h_op (r_assign rfl) ?_
                refine h_nil ?_
                refine q_then ?_
                refine h_no rfl (h1) ?_
                refine h_seq ?_
                refine h_reg ?_
                refine h_op (r_eql rfl rfl) ?_
                refine h_op (r_assign rfl) ?_
                refine h_nil ?_
                refine q_then ?_
                refine h_no rfl (h3) ?_
                refine h_skip ?_
                refine q_block ?_
                refine q_block ?_
                refine q_then ?_
                refine h_reg ?_
                refine h_op (r_add rfl rfl) ?_
                refine h_op (r_move rfl) ?_
                refine h_nil ?_
                exact h_back (k + 1) (hk2) (by omega) ⟨rfl, rfl, rfl, by rw [hn1]; rfl, by rw [hn3]; rfl, rfl, rfl, rfl, rfl, rfl, rfl, rfl, trivial⟩ (same)
          · obtain rfl : k = its0.length := by omega
            rw [List.take_length] at hc1 hc3 ⊢
            have hSb := mSiblings_s its0 A46 c46 hlI
            generalize cntI 1 its0 = n1 at *
            generalize cntI 3 its0 = n3 at *
            refine h_exit ?_
            refine q_thenE ?_
            refine q_thenE ?_
            refine q_blockE ?_
            refine q_then ?_
            refine h_seq ?_
            refine h_reg ?_
            refine h_call ((alive20_s h3).comes) rfl rfl rfl fun ⟨h4, hle4⟩ => ?_
            dsimp only
            have hr4 : RdZ h4 A46 (its its0) := hr3.mono hle4
            refine h_op (r_move rfl) ?_
            refine h_op (r_move rfl) ?_
            refine h_op (r_bool (r_eql rfl rfl) (show _ = true from rfl)) ?_
            refine h_op (r_pick rfl rfl) ?_
            refine h_op (r_move rfl) ?_
            refine h_op (r_move rfl) ?_
            refine h_op (r_bool (r_eql rfl rfl) (show _ = true from rfl)) ?_
            refine h_op (r_pick rfl rfl) ?_
            refine h_op (r_move rfl) ?_
            refine h_op (r_move rfl) ?_
            refine h_op (r_len rfl) ?_
            refine h_op (r_move rfl) ?_
            refine h_op (r_len rfl) ?_
            refine h_op (r_add rfl rfl) ?_
            refine h_op (r_move rfl) ?_
            refine h_op (r_mul rfl rfl) ?_
            refine h_op (r_add rfl rfl) ?_
            refine h_op (r_move rfl) ?_
            refine h_op (r_mul rfl rfl) ?_
            refine h_op (r_add rfl rfl) ?_
            refine h_op (r_bool (r_eql rfl rfl) (decide_eq_true (by omega))) ?_
            refine h_op (r_pick rfl rfl) ?_
            refine h_op (r_move rfl) ?_
            refine h_op (r_move rfl) ?_
            refine h_call (hSb.comes) rfl rfl rfl fun _ => ?_
            refine h_op (r_move rfl) ?_
            refine h_op (r_bool (r_eql rfl rfl) (decide_eq_true rfl)) ?_
            refine h_op (r_pick rfl rfl) ?_
            refine h_op (r_move rfl) ?_
            refine h_op (r_move rfl) ?_
            refine h_op (r_move rfl) ?_
            refine h_op (r_len rfl) ?_
            refine h_op (r_bool (r_leq rfl rfl) (decide_eq_true (by omega))) ?_
            refine h_op (r_pick rfl rfl) ?_
            refine h_op (r_move rfl) ?_
            refine h_op (r_move rfl) ?_
            refine h_op (r_move rfl) ?_
            refine h_op (r_len rfl) ?_
            refine h_op (r_bool (r_leq rfl rfl) (decide_eq_true (by omega))) ?_
            refine h_op (r_pick rfl rfl) ?_
            refine h_op (r_assign rfl) ?_
            refine h_nil ?_
            refine q_then ?_
            refine h_ret ?_
            exact h_ret1 rfl rfl fun w s => ⟨⟨h4, ((hle1.trans hz2).trans hz3).trans hle4⟩, rfl, (same (L' := [.zone true h4]) w s).res (List.Sublist.refl _) (by simp [Fa.wr])⟩
        · refine h_op (r_assign rfl) ?_
          refine h_nil ?_
          refine q_then ?_
          refine h_seq ?_
          refine h_seq ?_
          refine h_reg ?_
          refine h_op (r_move rfl) ?_
          refine h_op (r_not rfl) ?_
          refine h_op (r_move rfl) ?_
          refine h_op (r_move rfl) ?_
          refine h_op (r_len rfl) ?_
          refine h_op (r_bool (r_gtr rfl rfl) (decide_eq_false (by omega))) ?_
          refine h_op (r_pick rfl rfl) ?_
          refine h_op (r_move rfl) ?_
          refine h_op (r_move rfl) ?_
          refine h_call (hk1.comes) rfl rfl rfl fun _ => ?_
          refine h_op (r_bool (r_neq rfl rfl) (decide_eq_true he)) ?_
          refine h_op (r_pick rfl rfl) ?_
          refine h_nil ?_
          refine q_then ?_
          refine h_condT rfl ?_
          refine h_seq ?_
          refine h_reg ?_
          refine h_call ((alive20_s h2).comes) rfl rfl rfl fun ⟨h3, hle3⟩ => ?_
          dsimp only
          refine h_op (r_assign rfl) ?_
          refine h_nil ?_
          refine q_then ?_
          refine h_ret ?_
          refine q_thenR ?_
          exact h_ret1 rfl rfl fun w s => ⟨⟨h3, (hle1.trans hz2).trans hle3⟩, rfl, (same (L' := [.zone true h3]) w s).res (List.Sublist.refl _) (by simp [Fa.wr])⟩
      · refine h_op (r_assign rfl) ?_
        refine h_nil ?_
        refine q_then ?_
        refine h_seq ?_
        refine h_seq ?_
        refine h_reg ?_
        refine h_op (r_move rfl) ?_
        refine h_op (r_not rfl) ?_
        refine h_op (r_move rfl) ?_
        refine h_op (r_move rfl) ?_
        refine h_op (r_len rfl) ?_
        refine h_op (r_bool (r_gtr rfl rfl) (decide_eq_true (by omega))) ?_
        refine h_op (r_pick rfl rfl) ?_
        refine h_op (r_move rfl) ?_
        refine h_opOff ?_
        refine h_opOff ?_
        refine h_opOff ?_
        refine h_op (r_pick rfl rfl) ?_
        refine h_nil ?_
        refine q_then ?_
        refine h_condT rfl ?_
        refine h_seq ?_
        refine h_reg ?_
        refine h_call ((alive20_s h2).comes) rfl rfl rfl fun ⟨h3, hle3⟩ => ?_
        dsimp only
        refine h_op (r_assign rfl) ?_
        refine h_nil ?_
        refine q_then ?_
        refine h_ret ?_
        refine q_thenR ?_
        exact h_ret1 rfl rfl fun w s => ⟨⟨h3, (hle1.trans hz2).trans hle3⟩, rfl, (same (L' := [.zone true h3]) w s).res (List.Sublist.refl _) (by simp [Fa.wr])⟩
    · refine h_seq ?_
      refine h_reg ?_
      refine h_op (r_assign rfl) ?_
      refine h_nil ?_
      refine q_then ?_
      refine h_seq ?_
      refine h_reg ?_
      refine h_op (r_move rfl) ?_
      refine h_op (r_move rfl) ?_
      refine h_call ((Tree_few n hn l B c (by simpa using hf)).comes) rfl rfl rfl fun _ => ?_
      refine h_op (r_move rfl) ?_
      refine h_op (r_extract rfl rfl) ?_
      refine h_op (r_extract rfl rfl) ?_
      refine h_op (r_extract rfl rfl) ?_
      refine h_op (r_assign rfl) ?_
      refine h_op (r_assign rfl) ?_
      refine h_op (r_assign rfl) ?_
      refine h_nil ?_
      refine q_then ?_
      refine h_seq ?_
      refine h_reg ?_
      refine h_op (r_move rfl) ?_
      refine h_call ((Hash_s n hn).comes) rfl rfl rfl fun ⟨gh, gc⟩ => ?_
      dsimp only
      refine h_op (r_assign rfl) ?_
      refine h_nil ?_
      refine q_then ?_
      refine h_seq ?_
      refine h_seq ?_
      refine h_reg ?_
      refine h_op (r_move rfl) ?_
      refine h_op (r_not rfl) ?_
      refine h_op (r_move rfl) ?_
      refine h_opOff ?_
      refine h_opOff ?_
      refine h_opOff ?_
      refine h_op (r_pick rfl rfl) ?_
      refine h_op (r_move rfl) ?_
      refine h_opOff ?_
      refine h_opOff ?_
      refine h_opOff ?_
      refine h_op (r_pick rfl rfl) ?_
      refine h_nil ?_
      refine q_then ?_
      refine h_condT rfl ?_
      refine h_seq ?_
      refine h_reg ?_
      refine h_call ((alive20_s h).comes) rfl rfl rfl fun ⟨h1, hle1⟩ => ?_
      dsimp only
      refine h_op (r_assign rfl) ?_
      refine h_nil ?_
      refine q_then ?_
      refine h_ret ?_
      refine q_thenR ?_
      exact h_ret1 rfl rfl fun w s => ⟨⟨h1, hle1⟩, rfl, (same (L' := [.zone true h1]) w s).res (List.Sublist.refl _) (by simp [Fa.wr])⟩
  · refine h_seq ?_
    refine h_reg ?_
    refine h_op (r_assign rfl) ?_
    refine h_nil ?_
    refine q_then ?_
    refine h_seq ?_
    refine h_reg ?_
    refine h_op (r_move rfl) ?_
    refine h_op (r_move rfl) ?_
    refine h_call ((Tree_bits i hi l B c).comes) rfl rfl rfl fun _ => ?_
    refine h_op (r_move rfl) ?_
    refine h_op (r_extract rfl rfl) ?_
    refine h_op (r_extract rfl rfl) ?_
    refine h_op (r_extract rfl rfl) ?_
    refine h_op (r_assign rfl) ?_
    refine h_op (r_assign rfl) ?_
    refine h_op (r_assign rfl) ?_
    refine h_nil ?_
    refine q_then ?_
    refine h_seq ?_
    refine h_reg ?_
    refine h_op (r_move rfl) ?_
    refine h_call ((Hash_no i hi).comes) rfl rfl rfl fun _ => ?_
    refine h_op (r_assign rfl) ?_
    refine h_nil ?_
    refine q_then ?_
    refine h_seq ?_
    refine h_seq ?_
    refine h_reg ?_
    refine h_op (r_move rfl) ?_
    refine h_op (r_not rfl) ?_
    refine h_op (r_move rfl) ?_
    refine h_opOff ?_
    refine h_opOff ?_
    refine h_opOff ?_
    refine h_op (r_pick rfl rfl) ?_
    refine h_op (r_move rfl) ?_
    refine h_opOff ?_
    refine h_opOff ?_
    refine h_opOff ?_
    refine h_op (r_pick rfl rfl) ?_
    refine h_nil ?_
    refine q_then ?_
    refine h_condT rfl ?_
    refine h_seq ?_
    refine h_reg ?_
    refine h_call ((alive20_s h).comes) rfl rfl rfl fun ⟨h1, hle1⟩ => ?_
    dsimp only
    refine h_op (r_assign rfl) ?_
    refine h_nil ?_
    refine q_then ?_
    refine h_ret ?_
    refine q_thenR ?_
    exact h_ret1 rfl rfl fun w s => ⟨⟨h1, hle1⟩, rfl, (same (L' := [.zone true h1]) w s).res (List.Sublist.refl _) (by simp [Fa.wr])⟩
end
end Go.Proofs.YtgfkbeipckbkiaaDoor
