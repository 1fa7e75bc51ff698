/- mverify: Claims; The zero proof is well-formed; law16.alive: it is true; law16: FoldLeads is true; A proof's bytes, decoded; a claim against a map's proof: plain; The bytes of a multiproof decode to it: plain; The ends of keys, read: where what stands; What mverify computes: plain; mverify: show; mverify: show, all of it; multi.add, the cases of one item; multi.add: all trees; multi.Prove; multiproofs: the reference's Same; law19.Few; law15.alive: it is true; law19.alive: it is true; law19: MultiChecks, MultiRoots are true; mverify: Verify, Check, Accepts; law20.alive: it is true; The example of chapter 21: plain; law19: MultiLeads is true; The reference: claims' form, keys; slices.Equal of keys; A map's multiproof, against claims about the map: plain; multiproofs: the reference's Fits; The reference: the last steps of mverify; extract.Batch; The example of chapter 22: plain; The reference: decoding of multiproofs, all bytes; The reference's check of many claims; law21.few (joined texts: U120 U26z U27 U55 E25 E28 E22 E30 U122 U123 U72 U73 U74 U79 U47 U81 U82 U124 U114 E31 U86 U125 E32 U77 U126 U145 E35 U121 U127) -/
import Derived.Test.YtjhocljhhpkiiaaGreatDoorP15
set_option linter.all false
/- U120 -/
namespace Go.Proofs.YtjhocljhhpkiiaaGreatDoor
set_option linter.unusedSimpArgs false
set_option linter.unusedVariables false
open Go.RowKit
/-- the keys that are written, of the first k claims -/
def keysI (l : List CB) (k : Nat) : List B32 := (keysC l).take k ++ List.replicate (l.length - k) zB32
theorem keysI_len {l : List CB} {k : Nat} (h : k ≤ l.length) : (keysI l k).length = l.length := by
  unfold keysI
  rw [List.length_append, List.length_take, keysC_len, List.length_replicate]
  omega
theorem keysI_zero (l : List CB) : List.replicate l.length zB32 = keysI l 0 := by unfold keysI; simp
theorem keysI_all (l : List CB) : keysI l l.length = keysC l := by
  unfold keysI
  rw [Nat.sub_self, List.replicate_zero, List.append_nil, List.take_of_length_le (by rw [keysC_len]; exact Nat.le_refl _)]
theorem keysC_get {l : List CB} {k : Nat} (h : k < l.length) : (keysC l)[k]? = some (keyOf (l.getD k zCB).kb) := by
  unfold keysC
  rw [List.getElem?_map, getD_get zCB h]
  rfl
theorem keysI_set {l : List CB} {k : Nat} (h : k < l.length) : (keysI l k).set k (keyOf (l.getD k zCB).kb) = keysI l (k + 1) := by
  unfold keysI
  have h1 : ((keysC l).take k).length = k := by rw [List.length_take, keysC_len]; omega
  rw [List.set_append_right _ _ (by omega), h1, Nat.sub_self, show l.length - k = (l.length - (k + 1)) + 1 by omega, List.replicate_succ, List.set_cons_zero, List.take_add_one, keysC_get h]
  simp
def claimsV (n : Nat) : Option (Nat × Int) → Nat → Value
  | none, g => .tuple #[.slice (some ⟨g, 0, none⟩) n n, .nilIface]
  | some _, g => .tuple #[.slice none 0 0, .iface 174 (.pointer (some ⟨g, 0, none⟩))]
def claimsN (l : List CB) : Option (Nat × Int) → Nat → List Fa
  | none, g => [.own (.slice (some ⟨g, 0, none⟩) l.length l.length) l.length 35 32 (dgs (keysC l))]
  | some (i, e), g => [.blk g (fltC batchB (i : Int) e) 178]
section
variable (h : Zh) (l : List CB) (A : Option Addr) (c : Nat) [hr : RdZ h A (cbs l)] (hl : l.length ≤ 1000000000)
include hl
omit hr in
theorem Claims_early (e : Int) (hE : (l.length = 0 ∧ e = 10) ∨ (65535 < l.length ∧ e = 11)) : Spec Tryz.prog 56 [.slice A l.length c].toArray [.zone false h] [] (fun g : Nat => .tuple #[.slice none 0 0, .iface 174 (.pointer (some ⟨g, 0, none⟩))]) (fun g => [.blk g (fltC batchB 0 e) 178]) := by
  refine spec_of Tryz.func56 rfl (n := 49) rfl rfl ?_
  intro W
  rcases hE with ⟨h0, rfl⟩ | ⟨h0, rfl⟩
  · refine h_seq ?_
    refine h_reg ?_
    refine h_op (r_assign rfl) ?_
    refine h_op (r_assign rfl) ?_
    refine h_nil ?_
    refine q_then ?_
    refine h_seq ?_
    refine h_block ?_
    refine h_seq ?_
    refine h_reg ?_
    refine h_op (r_move rfl) ?_
    refine h_op (r_len rfl) ?_
    refine h_op (r_eql rfl rfl) ?_
    refine h_op (r_assign rfl) ?_
    refine h_nil ?_
    refine q_then ?_
    refine h_yes rfl ((show ((l.length : Nat) : Int) = 0 by omega)) ?_
    refine h_seq ?_
    refine h_reg ?_
    refine h_call ((mFail_s 0 10 (by decide)).comes) rfl rfl rfl fun g13 => ?_
    refine h_op (r_assign rfl) ?_
    refine h_op (r_assign rfl) ?_
    refine h_nil ?_
    refine q_then ?_
    refine h_ret ?_
    refine q_blockR ?_
    refine q_thenR ?_
    exact h_ret2 rfl rfl rfl fun w s => ⟨g13, rfl, (same (L' := [.blk g13 (fltC batchB 0 10) 178]) w s).res (List.Sublist.refl _) (by simp [Fa.wr])⟩
  · refine h_seq ?_
    refine h_reg ?_
    refine h_op (r_assign rfl) ?_
    refine h_op (r_assign rfl) ?_
    refine h_nil ?_
    refine q_then ?_
    refine h_seq ?_
    refine h_block ?_
    refine h_seq ?_
    refine h_reg ?_
    refine h_op (r_move rfl) ?_
    refine h_op (r_len rfl) ?_
    refine h_op (r_eql rfl rfl) ?_
    refine h_op (r_assign rfl) ?_
    refine h_nil ?_
    refine q_then ?_
    refine h_no rfl ((show ¬ ((l.length : Nat) : Int) = 0 by omega)) ?_
    refine h_seq ?_
    refine h_reg ?_
    refine h_op (r_move rfl) ?_
    refine h_op (r_len rfl) ?_
    refine h_op (r_gtr rfl rfl) ?_
    refine h_op (r_assign rfl) ?_
    refine h_nil ?_
    refine q_then ?_
    refine h_yes rfl ((show (65535 : Int) < ((l.length : Nat) : Int) by omega)) ?_
    refine h_seq ?_
    refine h_reg ?_
    refine h_call ((mFail_s 0 11 (by decide)).comes) rfl rfl rfl fun g18 => ?_
    refine h_op (r_assign rfl) ?_
    refine h_op (r_assign rfl) ?_
    refine h_nil ?_
    refine q_then ?_
    refine h_ret ?_
    refine q_blockR ?_
    refine q_thenR ?_
    exact h_ret2 rfl rfl rfl fun w s => ⟨g18, rfl, (same (L' := [.blk g18 (fltC batchB 0 11) 178]) w s).res (List.Sublist.refl _) (by simp [Fa.wr])⟩
theorem mClaims_s (hz : ClsZ h l) (r : Option (Nat × Int)) (hR : claimsR l = r) : Spec Tryz.prog 56 [.slice A l.length c].toArray [.zone false h] [] (fun g : Nat => claimsV l.length r g) (fun g => claimsN l r g) := by
  by_cases h0 : l.length = 0
  · obtain rfl : some (0, 10) = r := by rw [← hR]; unfold claimsR; rw [if_pos h0]
    exact Claims_early h l A c hl 10 (.inl ⟨h0, rfl⟩)
  by_cases h1 : 65535 < l.length
  · obtain rfl : some (0, 11) = r := by rw [← hR]; unfold claimsR; rw [if_neg h0, if_pos h1]
    exact Claims_early h l A c hl 11 (.inr ⟨h1, rfl⟩)
  have hR2 : (match firstF (fun i => claimE (l.getD i zCB).c) l.length 0 with | some r => some r | none => firstF (neighE (keysC l)) l.length 0) = r := by
    rw [← hR]
    unfold claimsR
    rw [if_neg h0, if_neg h1]
    rcases firstF (fun i => claimE (l.getD i zCB).c) l.length 0 with _ | _ <;> rfl
  have hF1 := first1_s h l A c hl _ rfl
  have hF2 := fun (B : Option Addr) (g : Nat) => first2_s (keysC l) B l.length g (by rw [keysC_len]; exact hl) _ rfl
  rw [keysC_len] at hF2
  have hok : firstF (fun i => claimE (l.getD i zCB).c) l.length 0 = none → ∀ i, i < l.length → (l.getD i zCB).kb.length = 32 := fun hn i hi => by
    have h1 := firstF_zero _ _ _ hn i (Nat.zero_le _) (by omega)
    have h2 := (hz.get hi).1.len
    unfold claimE at h1
    split at h1
    · omega
    · cases h1
  generalize firstF (fun i => claimE (l.getD i zCB).c) l.length 0 = r1 at *
  rcases r1 with _ | ⟨i1, e1⟩
  · replace hok := hok rfl
    replace hF1 : Spec Tryz.prog 107 [.slice A l.length c, .func (.func 108) #[] #[]].toArray [.zone false h] [] (fun g : Nat => .nilIface) (fun g => []) := hF1
    replace hR2 : firstF (neighE (keysC l)) l.length 0 = r := hR2
    rw [hR2] at hF2
    refine spec_of Tryz.func56 rfl (n := 49) rfl rfl ?_
    intro W
    refine h_seq ?_
    refine h_reg ?_
    refine h_op (r_assign rfl) ?_
    refine h_op (r_assign rfl) ?_
    refine h_nil ?_
    refine q_then ?_
    refine h_seq ?_
    refine h_block ?_
    refine h_seq ?_
    refine h_reg ?_
    refine h_op (r_move rfl) ?_
    refine h_op (r_len rfl) ?_
    refine h_op (r_eql rfl rfl) ?_
    refine h_op (r_assign rfl) ?_
    refine h_nil ?_
    refine q_then ?_
    refine h_no rfl ((show ¬ ((l.length : Nat) : Int) = 0 by omega)) ?_
    refine h_seq ?_
    refine h_reg ?_
    refine h_op (r_move rfl) ?_
    refine h_op (r_len rfl) ?_
    refine h_op (r_gtr rfl rfl) ?_
    refine h_op (r_assign rfl) ?_
    refine h_nil ?_
    refine q_then ?_
    refine h_no rfl ((show ¬ (65535 : Int) < ((l.length : Nat) : Int) by omega)) ?_
    refine h_skip ?_
    refine q_block ?_
    refine q_then ?_
    refine h_seq ?_
    refine h_seq ?_
    refine h_reg ?_
    refine h_op (r_move rfl) ?_
    refine h_call (hF1.comes) rfl rfl rfl fun _ => ?_
    refine h_op (r_assign rfl) ?_
    refine h_nil ?_
    refine q_then ?_
    refine h_seq ?_
    refine h_reg ?_
    refine h_op (r_move rfl) ?_
    refine h_op (r_nilnn rfl) ?_
    refine h_nil ?_
    refine q_then ?_
    refine h_condF rfl ?_
    refine h_skip ?_
    refine q_then ?_
    refine h_seq ?_
    refine h_reg ?_
    refine h_op (r_move rfl) ?_
    refine h_op (r_len rfl) ?_
    refine h_opX (x_make rfl rfl) fun g26 => ?_
    refine h_opX (x_alloc) fun g5 => ?_
    refine h_opS (s_store rfl rfl rfl) ?_
    refine h_nil ?_
    refine q_then ?_
    refine h_seq ?_
    refine h_seq ?_
    refine h_reg ?_
    refine h_op (r_move rfl) ?_
    refine h_op (r_len rfl) ?_
    refine h_op (r_move rfl) ?_
    refine h_nil ?_
    refine q_then ?_
    refine h_block ?_
    rw [made_dgs, keysI_zero]
    refine h_loop (fun (k : Nat) => k ≤ l.length) (fun (k : Nat) => [(29, .int .i64 (k : Int)), (28, .int .i64 (l.length : Int)), (27, .slice A l.length c), (5, .pointer (some ⟨g5, 0, none⟩))]) (fun (k : Nat) => [.own (.slice (some ⟨g26, 0, none⟩) l.length l.length) l.length 35 32 (dgs (keysI l k)), .blk g5 [.slice (some ⟨g26, 0, none⟩) l.length l.length] 104, .zone false h]) (fun (k : Nat) => l.length - k) 0 ((show 0 ≤ _ from Nat.zero_le _)) ⟨rfl, rfl, rfl, rfl, trivial⟩ (same) ?_
    rintro k hk
    refine h_seq ?_
    refine h_reg ?_
    refine h_op (r_lss rfl rfl) ?_
    refine h_nil ?_
    refine q_then ?_
    refine h_seq ?_
    refine h_cond rfl (fun hlt => ?_) (fun hlt => ?_)
    · have hk2 : k < l.length := by omega
      have hx := getD_get zCB hk2
      have hkl := hok k hk2
      have hsk := (hz.get hk2).1
      have hset := dgs_set (keysI l k) k (keyOf (l.getD k zCB).kb) (by rw [keysI_len (by omega)]; exact hk2)
      rw [keysI_set hk2] at hset
      obtain ⟨b, o, rfl, -⟩ := hr.at_ (k * 3) _ (cbs_at hx 0 _ rfl)
      generalize l.getD k zCB = x at *
      have hkn := hsk.len
      obtain ⟨bK, oK, hKA, -⟩ := hsk.rd.at_ 0 _ (List.getElem?_eq_getElem (by rw [bc_length]; omega))
      have hKr : RdZ h (some ⟨bK, oK, none⟩) (keyOf x.kb).cells := by rw [keyOf_cells hkl, ← hKA]; exact hsk.rd
      refine h_skip ?_
      refine q_then ?_
      refine h_seq ?_
      refine h_block ?_
      refine h_seq ?_
      refine h_reg ?_
      refine h_op (r_move rfl) ?_
      refine h_op (r_idx rfl rfl) ?_
      refine h_op (r_nthr rfl (out := x.c.cells) (Claim.cells_length _) (cbs_at hx)) ?_
      refine h_opX (x_alloc) fun g7 => ?_
      refine h_op (r_assign rfl) ?_
      refine h_opS (s_storer rfl rfl) ?_
      refine h_nil ?_
      refine q_then ?_
      refine ha_start [.blk g5 [.slice (some ⟨g26, 0, none⟩) l.length l.length] 104, .blk g7 x.c.cells 25, .zone false h] [] mixed (same) ?_
      refine ha_take 0 rfl (r_loadc rfl) ?_
      refine ha_takeP 1 rfl (r_move rfl) ?_
      refine ha_takeP 2 rfl (r_field rfl) ?_
      refine ha_take 3 rfl (r_as (r_loadc rfl) (show _ = Value.slice (some ⟨bK, oK, none⟩) x.c.key.n x.c.key.c by rw [hKA])) ?_
      refine ha_takeP 4 rfl (r_arr rfl (hm := show 32 ≤ x.c.key.n by omega)) ?_
      refine ha_take 5 rfl (r_loadr rfl) ?_
      refine ha_takeP 6 rfl (r_idx rfl rfl) ?_
      refine ha_one 7 ?_
      refine ho_SL 7 rfl (s_setrO rfl rfl (by rw [dgs_len, keysI_len (by omega)]; omega) hset) ?_
      refine q_block ?_
      refine q_then ?_
      refine h_reg ?_
      refine h_op (r_add rfl rfl) ?_
      refine h_op (r_move rfl) ?_
      refine h_nil ?_
      exact h_back (k + 1) ((show k + 1 ≤ _ from hk2)) ((show l.length - (k + 1) < l.length - k by omega)) ⟨rfl, rfl, rfl, rfl, trivial⟩ (same)
    · obtain rfl : k = l.length := by omega
      rw [keysI_all]
      rcases r with _ | ⟨i2, e2⟩
      · replace hF2 : ∀ (B : Option Addr) (g : Nat), Spec Tryz.prog 109 [.slice B l.length l.length, .func (.func 110) #[] #[.pointer (some ⟨g, 0, none⟩)]].toArray [.rd (some ⟨g, 0, none⟩) [.slice B l.length l.length], .rd B (dgs (keysC l))] [] (fun g : Nat => .nilIface) (fun g => []) := hF2
        refine h_exit ?_
        refine q_thenE ?_
        refine q_thenE ?_
        refine q_blockE ?_
        refine q_then ?_
        refine h_seq ?_
        refine h_reg ?_
        refine h_op (r_loadc rfl) ?_
        refine h_op (r_func rfl rfl) ?_
        refine h_call ((hF2 (some ⟨g26, 0, none⟩) g5).comes) rfl rfl rfl fun _ => ?_
        refine h_op (r_assign rfl) ?_
        refine h_nil ?_
        refine q_then ?_
        refine h_seq ?_
        refine h_seq ?_
        refine h_reg ?_
        refine h_op (r_move rfl) ?_
        refine h_op (r_nilnn rfl) ?_
        refine h_nil ?_
        refine q_then ?_
        refine h_condF rfl ?_
        refine h_skip ?_
        refine q_then ?_
        refine h_seq ?_
        refine h_reg ?_
        refine h_op (r_loadc rfl) ?_
        refine h_op (r_assign rfl) ?_
        refine h_op (r_assign rfl) ?_
        refine h_nil ?_
        refine q_then ?_
        refine h_ret ?_
        exact h_ret2 rfl rfl rfl fun w s => ⟨g26, rfl, (same (L' := [.own (.slice (some ⟨g26, 0, none⟩) l.length l.length) l.length 35 32 (dgs (keysC l))]) w s).res (List.Sublist.refl _) (by simp [Fa.wr, claimsN])⟩
      · replace hF2 : ∀ (B : Option Addr) (g : Nat), Spec Tryz.prog 109 [.slice B l.length l.length, .func (.func 110) #[] #[.pointer (some ⟨g, 0, none⟩)]].toArray [.rd (some ⟨g, 0, none⟩) [.slice B l.length l.length], .rd B (dgs (keysC l))] [] (fun g : Nat => .iface 174 (.pointer (some ⟨g, 0, none⟩))) (fun g => [.blk g (fltC batchB (i2 : Int) e2) 178]) := hF2
        refine h_exit ?_
        refine q_thenE ?_
        refine q_thenE ?_
        refine q_blockE ?_
        refine q_then ?_
        refine h_seq ?_
        refine h_reg ?_
        refine h_op (r_loadc rfl) ?_
        refine h_op (r_func rfl rfl) ?_
        refine h_call ((hF2 (some ⟨g26, 0, none⟩) g5).comes) rfl rfl rfl fun g44 => ?_
        refine h_op (r_assign rfl) ?_
        refine h_nil ?_
        refine q_then ?_
        refine h_seq ?_
        refine h_seq ?_
        refine h_reg ?_
        refine h_op (r_move rfl) ?_
        refine h_op (r_ifnn rfl) ?_
        refine h_nil ?_
        refine q_then ?_
        refine h_condT rfl ?_
        refine h_seq ?_
        refine h_reg ?_
        refine h_op (r_move rfl) ?_
        refine h_op (r_assign rfl) ?_
        refine h_op (r_assign rfl) ?_
        refine h_nil ?_
        refine q_then ?_
        refine h_ret ?_
        refine q_thenR ?_
        exact h_ret2 rfl rfl rfl fun w s => ⟨g44, rfl, (same (L' := [.blk g44 (fltC batchB (i2 : Int) e2) 178]) w s).res (List.Sublist.refl _) (by simp [Fa.wr, claimsN])⟩
  · replace hF1 : Spec Tryz.prog 107 [.slice A l.length c, .func (.func 108) #[] #[]].toArray [.zone false h] [] (fun g : Nat => .iface 174 (.pointer (some ⟨g, 0, none⟩))) (fun g => [.blk g (fltC batchB (i1 : Int) e1) 178]) := hF1
    obtain rfl : some (i1, e1) = r := hR2
    refine spec_of Tryz.func56 rfl (n := 49) rfl rfl ?_
    intro W
    refine h_seq ?_
    refine h_reg ?_
    refine h_op (r_assign rfl) ?_
    refine h_op (r_assign rfl) ?_
    refine h_nil ?_
    refine q_then ?_
    refine h_seq ?_
    refine h_block ?_
    refine h_seq ?_
    refine h_reg ?_
    refine h_op (r_move rfl) ?_
    refine h_op (r_len rfl) ?_
    refine h_op (r_eql rfl rfl) ?_
    refine h_op (r_assign rfl) ?_
    refine h_nil ?_
    refine q_then ?_
    refine h_no rfl ((show ¬ ((l.length : Nat) : Int) = 0 by omega)) ?_
    refine h_seq ?_
    refine h_reg ?_
    refine h_op (r_move rfl) ?_
    refine h_op (r_len rfl) ?_
    refine h_op (r_gtr rfl rfl) ?_
    refine h_op (r_assign rfl) ?_
    refine h_nil ?_
    refine q_then ?_
    refine h_no rfl ((show ¬ (65535 : Int) < ((l.length : Nat) : Int) by omega)) ?_
    refine h_skip ?_
    refine q_block ?_
    refine q_then ?_
    refine h_seq ?_
    refine h_seq ?_
    refine h_reg ?_
    refine h_op (r_move rfl) ?_
    refine h_call (hF1.comes) rfl rfl rfl fun g20 => ?_
    refine h_op (r_assign rfl) ?_
    refine h_nil ?_
    refine q_then ?_
    refine h_seq ?_
    refine h_reg ?_
    refine h_op (r_move rfl) ?_
    refine h_op (r_ifnn rfl) ?_
    refine h_nil ?_
    refine q_then ?_
    refine h_condT rfl ?_
    refine h_seq ?_
    refine h_reg ?_
    refine h_op (r_move rfl) ?_
    refine h_op (r_assign rfl) ?_
    refine h_op (r_assign rfl) ?_
    refine h_nil ?_
    refine q_then ?_
    refine h_ret ?_
    refine q_thenR ?_
    exact h_ret2 rfl rfl rfl fun w s => ⟨g20, rfl, (same (L' := [.blk g20 (fltC batchB (i1 : Int) e1) 178]) w s).res (List.Sublist.refl _) (by simp [Fa.wr, claimsN])⟩
end
end Go.Proofs.YtjhocljhhpkiiaaGreatDoor
/- U26z -/
namespace Go.Proofs.YtjhocljhhpkiiaaGreatDoor
set_option linter.unusedSimpArgs false
set_option linter.unusedVariables false
open Go.RowKit
end Go.Proofs.YtjhocljhhpkiiaaGreatDoor
/- U27 -/
namespace Go.Proofs.YtjhocljhhpkiiaaGreatDoor
set_option linter.unusedSimpArgs false
set_option linter.unusedVariables false
open Go.RowKit
end Go.Proofs.YtjhocljhhpkiiaaGreatDoor
/- U55 -/
namespace Go.Proofs.YtjhocljhhpkiiaaGreatDoor
set_option linter.unusedSimpArgs false
set_option linter.unusedVariables false
open Go.RowKit
end Go.Proofs.YtjhocljhhpkiiaaGreatDoor
/- E25 -/
namespace Go.Proofs.YtjhocljhhpkiiaaGreatDoor
set_option linter.unusedSimpArgs false
set_option linter.unusedVariables false
open Go.RowKit
end Go.Proofs.YtjhocljhhpkiiaaGreatDoor
/- E28 -/
namespace Go.Proofs.YtjhocljhhpkiiaaGreatDoor
set_option linter.unusedSimpArgs false
set_option linter.unusedVariables false
open Go.RowKit
end Go.Proofs.YtjhocljhhpkiiaaGreatDoor
/- E22 -/
namespace Go.Proofs.YtjhocljhhpkiiaaGreatDoor
set_option linter.unusedSimpArgs false
set_option linter.unusedVariables false
open Go.RowKit
theorem endC_at {l : List (Item × Nat)} {k : Nat} {x : Item × Nat} (h : l[k]? = some x) : ∀ j v, (End.cells ⟨x.1, (x.2 : Int)⟩)[j]? = some v → (endC l)[k * 98 + j]? = some v := by
  intro j v hv
  have hj : j < 98 := by have := (List.getElem?_eq_some_iff.1 hv).1; rw [End.cells_length] at this; exact this
  obtain ⟨h1, h2⟩ := List.getElem?_eq_some_iff.1 h
  have e : endC l = endC (l.take k) ++ (End.cells ⟨x.1, (x.2 : Int)⟩ ++ endC (l.drop (k + 1))) := by
    conv => lhs; rw [← List.take_append_drop k l, List.drop_eq_getElem_cons h1, h2]
    unfold endC
    rw [List.flatMap_append, List.flatMap_cons]
  rw [e, List.getElem?_append_right (by rw [endC_len, List.length_take]; omega), endC_len, List.length_take, Nat.min_eq_left (by omega), Nat.add_sub_cancel_left, List.getElem?_append_left (by rw [End.cells_length]; exact hj)]
  exact hv
theorem loc_way {m : List En} (h : Alike m 0) (key : B32) : ∃ D, WayTo key (mkT m 0) D ∧ loc key (mkT m 0) 0 = (wayK key (mkT m 0) D, D) := by
  obtain ⟨D, h1, h2, _, _, h5⟩ := wayTo_mkT (key := key) h
  refine ⟨D, h1, ?_⟩
  have := loc_mkT (k := key) h 256 0 (by omega) (by omega)
  rw [show atM key m 0 = m from rfl, h2] at this
  rw [this, h5 D (Nat.le_refl _)]
end Go.Proofs.YtjhocljhhpkiiaaGreatDoor
/- E30 -/
namespace Go.Proofs.YtjhocljhhpkiiaaGreatDoor
set_option linter.unusedSimpArgs false
set_option linter.unusedVariables false
open Go.RowKit
/-- a way's end, as a proof -/
def endPr (x : Item × Nat) : Proof := ⟨x.1.kind, (x.2 : Int), x.1.leaf, zB32, ⟨none, 0, 0⟩⟩
def showE (n : Nat) (es : List (Item × Nat)) (l : List CB) (i : Nat) : Int :=
  if supP (endPr (es.getD i (zItem, 0))) (keyOf (l.getD i zCB).kb) (valD n (l.getD i zCB).c.present (l.getD i zCB).vb) (l.getD i zCB).c.present then 0 else 12
/-- the first of the last three steps that fails, or nothing -/
def showR (n : Nat) (root : B32) (l : List CB) (t : Sub) : Option (Nat × Int) :=
  if (endsM t (keysC l) 0).2 then
    match firstF (showE n (endsM t (keysC l) 0).1 l) (endsM t (keysC l) 0).1.length 0 with
    | some r => some r
    | none => if dgS n t = root then none else some (0, 13)
  else some (0, 12)
end Go.Proofs.YtjhocljhhpkiiaaGreatDoor
/- U122 -/
namespace Go.Proofs.YtjhocljhhpkiiaaGreatDoor
set_option linter.unusedSimpArgs false
set_option linter.unusedVariables false
open Go.RowKit
theorem keysC_getD {l : List CB} {k : Nat} (h : k < l.length) : (keysC l).getD k zB32 = keyOf (l.getD k zCB).kb := by
  rw [List.getD_eq_getElem?_getD, keysC_get h]; rfl
section
variable (n : Nat) (hn : n ≤ 256) (h : Zh) [hT : RdZ h (some ⟨1, 0, none⟩) hashT] (gh gc : Nat) (l : List CB) (A : Option Addr) (c : Nat) [hr : RdZ h A (cbs l)] (hz : ClsZ h l) (hvl : ∀ x ∈ l, x.vb.length ≤ 100000000) (hll : l.length ≤ 100000) (K : Option Addr) (kc : Nat) [hK : RdZ h K (dgs (keysC l))] (gl ph pk : Nat)
include hn hz hvl hll
omit hll in
theorem show1_s (k : Nat) (hk : k ≤ 1000000000) (i : Nat) (hi : i < l.length) (x : Item × Nat) (b : Bool) (hb : supP (endPr x) (keyOf (l.getD i zCB).kb) (valD n (l.getD i zCB).c.present (l.getD i zCB).vb) (l.getD i zCB).c.present = b) : Spec Tryz.prog 155 [.int .i64 (i : Int), .agg (End.cells ⟨x.1, (x.2 : Int)⟩).toArray, .pointer (some ⟨gl, 0, none⟩), .pointer (some ⟨ph, 0, none⟩), .pointer (some ⟨pk, 0, none⟩)].toArray [HR gh gc n, .zone false h, .rd (some ⟨gl, 0, none⟩) [.slice A l.length c], .rd (some ⟨ph, 0, none⟩) [.pointer (some ⟨gh, 0, none⟩)], .rd (some ⟨pk, 0, none⟩) [.slice K l.length kc]] [CN gc k] (fun _ : Unit => .int .i64 (if b then 0 else 12)) (fun _ => [CN gc (k + if (l.getD i zCB).c.present then 1 else 0)]) := by
  have hx := getD_get zCB hi
  have hvz := (hz.get hi).2
  have hvb := hvl _ (List.mem_of_getElem? hx)
  have hd := dgs_at (l := keysC l) (k := i) (by rw [keysC_len]; exact hi)
  rw [keysC_getD hi] at hd
  generalize l.getD i zCB = y at *
  have hvn := hvz.len
  have hVr : RdZ h y.c.value.A (bc y.vb) := hvz.rd
  have hVn := hvz.nil
  obtain ⟨bA, oA, rfl, -⟩ := hr.at_ (i * 3) _ (cbs_at hx 0 _ rfl)
  obtain ⟨bK, oK, rfl, -⟩ := hK.at_ (i * 32 + 0) _ (hd 0 _ (List.getElem?_eq_getElem (by rw [B32.cells_length]; decide)))
  have e1 := cbs_at hx 1 _ rfl
  have e2 := cbs_at hx 2 _ rfl
  obtain ⟨⟨ks, ⟨vA, vn, vc⟩, pr⟩, kb, vb⟩ := y
  dsimp only at hvn hVr hVn hvb hb hd e1 e2 ⊢
  subst hvn
  have hS := fun v => Supports_s (endPr x) (keyOf kb) v pr
  cases pr
  · refine spec_of Tryz.func155 rfl (n := 45) rfl rfl ?_
    intro W
    refine h_seq ?_
    refine h_reg ?_
    refine h_opX (x_box rfl) fun g6 => ?_
    refine h_op (r_assign rfl) ?_
    refine h_nil ?_
    refine q_then ?_
    refine h_seq ?_
    refine h_reg ?_
    refine h_opX (x_alloc) fun g8 => ?_
    refine h_nil ?_
    refine q_then ?_
    refine h_seq ?_
    refine h_seq ?_
    refine h_reg ?_
    refine h_op (r_loadc rfl) ?_
    refine h_op (r_move rfl) ?_
    refine h_op (r_idx rfl rfl) ?_
    refine h_op (r_field rfl (O' := oA + (i * 3 + 2)) (by omega)) ?_
    refine h_op (r_nth rfl e2) ?_
    refine h_nil ?_
    refine q_then ?_
    refine h_condF rfl ?_
    refine h_skip ?_
    refine q_then ?_
    refine h_seq ?_
    refine h_reg ?_
    refine h_op (r_field rfl) ?_
    refine h_op (r_field rfl) ?_
    refine h_op (r_loadc rfl) ?_
    refine h_op (r_field rfl) ?_
    refine h_op (r_loadc rfl) ?_
    refine h_op (r_field rfl) ?_
    refine h_op (r_field rfl) ?_
    refine h_op (r_loadr rfl) ?_
    refine h_op (r_build rfl) ?_
    refine h_opX (x_alloc) fun g9 => ?_
    refine h_opS (s_storer rfl rfl) ?_
    refine h_nil ?_
    refine q_then ?_
    refine h_seq ?_
    refine h_seq ?_
    change H _ _ _ _ _ (.blk g9 (endPr x).cells _ :: _) _
    have hS := hS zB32
    rw [show supP (endPr x) (keyOf kb) zB32 false = b from hb] at hS
    refine ha_start [.blk g9 (endPr x).cells 54, .blk g8 zB32.cells 42, .zone false h, .rd (some ⟨gl, 0, none⟩) [.slice (some ⟨bA, oA, none⟩) l.length c], .rd (some ⟨pk, 0, none⟩) [.slice (some ⟨bK, oK, none⟩) l.length kc]] [] mixed (same) ?_
    refine ha_take 0 rfl (r_loadr rfl) ?_
    refine ha_take 1 rfl (r_loadc rfl) ?_
    refine ha_takeP 2 rfl (r_move rfl) ?_
    refine ha_takeP 3 rfl (r_idx rfl rfl) ?_
    refine ha_take 4 rfl (r_nthr rfl (out := (keyOf kb).cells) (B32.cells_length _) hd) ?_
    refine ha_take 5 rfl (r_loadr rfl) ?_
    refine ha_take 6 rfl (r_loadc rfl) ?_
    refine ha_takeP 7 rfl (r_move rfl) ?_
    refine ha_takeP 8 rfl (r_idx rfl rfl) ?_
    refine ha_takeP 9 rfl (r_field rfl (O' := oA + (i * 3 + 2)) (by omega)) ?_
    refine ha_take 10 rfl (r_nth rfl e2) ?_
    refine ha_one 11 ?_
    refine ho_C 11 rfl (hS.comes) rfl rfl rfl (fun xx => same) fun _ => ?_
    refine ha_takeP 12 rfl (r_not rfl) ?_
    refine ha_done (by kernel_rfl) ?_
    refine q_then ?_
    cases b
    · refine h_condT rfl ?_
      refine h_seq ?_
      refine h_reg ?_
      refine h_op (r_assign rfl) ?_
      refine h_nil ?_
      refine q_then ?_
      refine h_ret ?_
      refine q_thenR ?_
      exact h_ret1 rfl rfl fun w s => ⟨(), rfl, (same (L' := [CN gc k]) w s).res (List.Sublist.refl _) (by simp [Fa.wr])⟩
    · refine h_condF rfl ?_
      refine h_skip ?_
      refine q_then ?_
      refine h_seq ?_
      refine h_reg ?_
      refine h_op (r_assign rfl) ?_
      refine h_nil ?_
      refine q_then ?_
      refine h_ret ?_
      exact h_ret1 rfl rfl fun w s => ⟨(), rfl, (same (L' := [CN gc k]) w s).res (List.Sublist.refl _) (by simp [Fa.wr])⟩
  · refine spec_of Tryz.func155 rfl (n := 45) rfl rfl ?_
    intro W
    refine h_seq ?_
    refine h_reg ?_
    refine h_opX (x_box rfl) fun g6 => ?_
    refine h_op (r_assign rfl) ?_
    refine h_nil ?_
    refine q_then ?_
    refine h_seq ?_
    refine h_reg ?_
    refine h_opX (x_alloc) fun g8 => ?_
    refine h_nil ?_
    refine q_then ?_
    refine h_seq ?_
    refine h_seq ?_
    refine h_reg ?_
    refine h_op (r_loadc rfl) ?_
    refine h_op (r_move rfl) ?_
    refine h_op (r_idx rfl rfl) ?_
    refine h_op (r_field rfl (O' := oA + (i * 3 + 2)) (by omega)) ?_
    refine h_op (r_nth rfl e2) ?_
    refine h_nil ?_
    refine q_then ?_
    refine h_condT rfl ?_
    refine ha_start [.zone false h, .rd (some ⟨gl, 0, none⟩) [.slice (some ⟨bA, oA, none⟩) l.length c], .rd (some ⟨ph, 0, none⟩) [.pointer (some ⟨gh, 0, none⟩)]] [] mixed (same) ?_
    refine ha_take 0 rfl (r_loadc rfl) ?_
    refine ha_take 1 rfl (r_loadc rfl) ?_
    refine ha_takeP 2 rfl (r_move rfl) ?_
    refine ha_takeP 3 rfl (r_idx rfl rfl) ?_
    refine ha_takeP 4 rfl (r_field rfl (O' := oA + (i * 3 + 1)) (by omega)) ?_
    refine ha_take 5 rfl (r_nth rfl e1) ?_
    refine ha_one 6 ?_
    refine ho_C 6 rfl ((pValue_s vb vA vc (fun e => by have := hVn e; omega) hvb).comes) rfl rfl rfl (fun xx => same) fun ⟨g21, c21⟩ => ?_
    refine ha_one 7 ?_
    refine ho_C 7 rfl ((HSum_s n hn gh gc k (by omega) (preV vb) (some ⟨g21, 0, none⟩) c21 (fun h => by cases h) (by show vb.length + 1 ≤ _; omega)).comes) rfl rfl rfl (fun xx => same) fun _ => ?_
    refine ha_one 8 ?_
    refine ho_SL 8 rfl (s_storer rfl rfl) ?_
    refine q_then ?_
    refine h_seq ?_
    refine h_reg ?_
    refine h_op (r_field rfl) ?_
    refine h_op (r_field rfl) ?_
    refine h_op (r_loadc rfl) ?_
    refine h_op (r_field rfl) ?_
    refine h_op (r_loadc rfl) ?_
    refine h_op (r_field rfl) ?_
    refine h_op (r_field rfl) ?_
    refine h_op (r_loadr rfl) ?_
    refine h_op (r_build rfl) ?_
    refine h_opX (x_alloc) fun g9 => ?_
    refine h_opS (s_storer rfl rfl) ?_
    refine h_nil ?_
    refine q_then ?_
    refine h_seq ?_
    refine h_seq ?_
    change H _ _ _ _ _ (.blk g9 (endPr x).cells _ :: _) _
    have hS := hS (sumB n (preV vb))
    rw [show supP (endPr x) (keyOf kb) (sumB n (preV vb)) true = b from hb] at hS
    refine ha_start [.blk g9 (endPr x).cells 54, .blk g8 (sumB n (preV vb)).cells 42, .zone false h, .rd (some ⟨gl, 0, none⟩) [.slice (some ⟨bA, oA, none⟩) l.length c], .rd (some ⟨pk, 0, none⟩) [.slice (some ⟨bK, oK, none⟩) l.length kc]] [] mixed (same) ?_
    refine ha_take 0 rfl (r_loadr rfl) ?_
    refine ha_take 1 rfl (r_loadc rfl) ?_
    refine ha_takeP 2 rfl (r_move rfl) ?_
    refine ha_takeP 3 rfl (r_idx rfl rfl) ?_
    refine ha_take 4 rfl (r_nthr rfl (out := (keyOf kb).cells) (B32.cells_length _) hd) ?_
    refine ha_take 5 rfl (r_loadr rfl) ?_
    refine ha_take 6 rfl (r_loadc rfl) ?_
    refine ha_takeP 7 rfl (r_move rfl) ?_
    refine ha_takeP 8 rfl (r_idx rfl rfl) ?_
    refine ha_takeP 9 rfl (r_field rfl (O' := oA + (i * 3 + 2)) (by omega)) ?_
    refine ha_take 10 rfl (r_nth rfl e2) ?_
    refine ha_one 11 ?_
    refine ho_C 11 rfl (hS.comes) rfl rfl rfl (fun xx => same) fun _ => ?_
    refine ha_takeP 12 rfl (r_not rfl) ?_
    refine ha_done (by kernel_rfl) ?_
    refine q_then ?_
    cases b
    · refine h_condT rfl ?_
      refine h_seq ?_
      refine h_reg ?_
      refine h_op (r_assign rfl) ?_
      refine h_nil ?_
      refine q_then ?_
      refine h_ret ?_
      refine q_thenR ?_
      exact h_ret1 rfl rfl fun w s => ⟨(), rfl, (same (L' := [CN gc (k + 1)]) w s).res (List.Sublist.refl _) (by simp [Fa.wr])⟩
    · refine h_condF rfl ?_
      refine h_skip ?_
      refine q_then ?_
      refine h_seq ?_
      refine h_reg ?_
      refine h_op (r_assign rfl) ?_
      refine h_nil ?_
      refine q_then ?_
      refine h_ret ?_
      exact h_ret1 rfl rfl fun w s => ⟨(), rfl, (same (L' := [CN gc (k + 1)]) w s).res (List.Sublist.refl _) (by simp [Fa.wr])⟩
theorem first3_s (k : Nat) (hk : k ≤ 100000000) (es : List (Item × Nat)) (E : Option Addr) (ec : Nat) [hE : RdZ h E (endC es)] (hel : es.length ≤ l.length) (r : Option (Nat × Int)) (hR : firstF (showE n es l) es.length 0 = r) : Spec Tryz.prog 154 [.slice E es.length ec, .func (.func 155) #[] #[.pointer (some ⟨gl, 0, none⟩), .pointer (some ⟨ph, 0, none⟩), .pointer (some ⟨pk, 0, none⟩)]].toArray [HR gh gc n, .zone false h, .rd (some ⟨gl, 0, none⟩) [.slice A l.length c], .rd (some ⟨ph, 0, none⟩) [.pointer (some ⟨gh, 0, none⟩)], .rd (some ⟨pk, 0, none⟩) [.slice K l.length kc]] [CN gc k] (fun u : {u : Nat × Nat // u.2 ≤ k + es.length} => errV r u.1.1) (fun u => CN gc u.1.2 :: errB r u.1.1) := by
  refine spec_of Tryz.func154 rfl (n := 25) rfl rfl ?_
  intro W
  refine h_seq ?_
  refine h_reg ?_
  refine h_op (r_assign rfl) ?_
  refine h_nil ?_
  refine q_then ?_
  refine h_seq ?_
  refine h_seq ?_
  refine h_reg ?_
  refine h_op (r_move rfl) ?_
  refine h_op (r_len rfl) ?_
  refine h_op (r_move rfl) ?_
  refine h_nil ?_
  refine q_then ?_
  refine h_block ?_
  refine h_loop (fun (s : Nat × Nat) => s.1 ≤ es.length ∧ s.2 ≤ k + s.1 ∧ ∀ j, j < s.1 → showE n es l j = 0) (fun (s : Nat × Nat) => [(10, .int .i64 (s.1 : Int)), (9, .int .i64 (es.length : Int)), (8, .slice E es.length ec), (1, .func (.func 155) #[] #[.pointer (some ⟨gl, 0, none⟩), .pointer (some ⟨ph, 0, none⟩), .pointer (some ⟨pk, 0, none⟩)])]) (fun (s : Nat × Nat) => [CN gc s.2, HR gh gc n, .zone false h, .rd (some ⟨gl, 0, none⟩) [.slice A l.length c], .rd (some ⟨ph, 0, none⟩) [.pointer (some ⟨gh, 0, none⟩)], .rd (some ⟨pk, 0, none⟩) [.slice K l.length kc]]) (fun (s : Nat × Nat) => es.length - s.1) (0, k) (⟨Nat.zero_le _, Nat.le_refl _, fun j hj => absurd hj (Nat.not_lt_zero _)⟩) ⟨rfl, rfl, rfl, rfl, trivial⟩ (same) ?_
  rintro ⟨i, k'⟩ ⟨hi, hk', hz'⟩
  dsimp only at hi hk' hz' ⊢
  refine h_seq ?_
  refine h_reg ?_
  refine h_op (r_lss rfl rfl) ?_
  refine h_nil ?_
  refine q_then ?_
  refine h_seq ?_
  refine h_cond rfl (fun hlt => ?_) (fun hlt => ?_)
  · have hi2 : i < es.length := by omega
    have hx := getD_get (zItem, 0) hi2
    have hz0 : ∀ j, 0 ≤ j → j < i → showE n es l j = 0 := fun j _ hj => hz' j hj
    have hs := show1_s n hn h gh gc l A c hz hvl K kc gl ph pk k' (by omega) i (by omega) (es.getD i (zItem, 0)) _ rfl
    change Spec _ _ _ _ _ (fun _ : Unit => .int .i64 (showE n es l i)) _ at hs
    obtain ⟨b, o, rfl, -⟩ := hE.at_ (i * 98) _ (endC_at hx 0 _ rfl)
    obtain ⟨p, hp, hpe⟩ : ∃ p, p ≤ 1 ∧ (if (l.getD i zCB).c.present = true then 1 else 0) = p := ⟨_, by split <;> omega, rfl⟩
    rw [hpe] at hs
    refine h_skip ?_
    refine q_then ?_
    refine h_seq ?_
    refine h_block ?_
    refine h_seq ?_
    refine h_reg ?_
    refine h_op (r_move rfl) ?_
    refine h_op (r_idx rfl rfl) ?_
    refine h_op (r_nthr rfl (out := End.cells ⟨(es.getD i (zItem, 0)).1, ((es.getD i (zItem, 0)).2 : Int)⟩) (End.cells_length _) (endC_at hx)) ?_
    refine h_opX (x_alloc) fun g6 => ?_
    refine h_op (r_assign rfl) ?_
    refine h_opS (s_storer rfl rfl) ?_
    refine h_nil ?_
    refine q_then ?_
    refine h_seq ?_
    refine h_reg ?_
    refine h_op (r_move rfl) ?_
    refine h_op (r_move rfl) ?_
    refine h_op (r_move rfl) ?_
    refine h_op (r_loadr rfl) ?_
    refine h_call (hs.comes) rfl rfl rfl fun _ => ?_
    by_cases h0 : showE n es l i = 0
    · rw [h0]
      refine h_call ((mFail_no (i : Int)).comes) rfl rfl rfl fun _ => ?_
      refine h_op (r_assign rfl) ?_
      refine h_nil ?_
      refine q_then ?_
      refine h_seq ?_
      refine h_reg ?_
      refine h_op (r_move rfl) ?_
      refine h_op (r_nilnn rfl) ?_
      refine h_nil ?_
      refine q_then ?_
      refine h_condF rfl ?_
      refine h_skip ?_
      refine q_block ?_
      refine q_then ?_
      refine h_reg ?_
      refine h_op (r_add rfl rfl) ?_
      refine h_op (r_move rfl) ?_
      refine h_nil ?_
      exact h_back (i + 1, k' + p) (⟨hi2, by dsimp only; omega, fun j hj => (Nat.lt_or_ge j i).elim (hz' j) fun h8 => by (obtain rfl : j = i := by (dsimp only at hj; omega)); exact h0⟩) ((show es.length - (i + 1) < es.length - i by omega)) ⟨rfl, rfl, rfl, rfl, trivial⟩ (same)
    · obtain rfl : some (i, showE n es l i) = r := by rw [← hR, firstF_some (showE n es l) i h0 es.length 0 (Nat.zero_le _) (by omega) hz0]
      refine h_call ((mFail_s (i : Int) (showE n es l i) h0).comes) rfl rfl rfl fun g20 => ?_
      refine h_op (r_assign rfl) ?_
      refine h_nil ?_
      refine q_then ?_
      refine h_seq ?_
      refine h_reg ?_
      refine h_op (r_move rfl) ?_
      refine h_op (r_ifnn rfl) ?_
      refine h_nil ?_
      refine q_then ?_
      refine h_condT rfl ?_
      refine h_seq ?_
      refine h_reg ?_
      refine h_op (r_move rfl) ?_
      refine h_op (r_assign rfl) ?_
      refine h_nil ?_
      refine q_then ?_
      refine h_ret ?_
      refine q_blockR ?_
      refine q_thenR ?_
      refine q_thenR ?_
      refine q_blockR ?_
      refine q_thenR ?_
      exact h_ret1 rfl rfl fun w s => ⟨⟨(g20, k' + p), by dsimp only; omega⟩, rfl, (same (L' := [CN gc (k' + p), .blk g20 (fltC batchB (i : Int) (showE n es l i)) 178]) w s).res (List.Sublist.refl _) (by simp [Fa.wr, errB])⟩
  · obtain rfl : i = es.length := by omega
    obtain rfl : none = r := by rw [← hR, firstF_none _ _ _ (fun j _ hj => hz' j (by omega))]
    refine h_exit ?_
    refine q_thenE ?_
    refine q_thenE ?_
    refine q_blockE ?_
    refine q_then ?_
    refine h_seq ?_
    refine h_reg ?_
    refine h_op (r_assign rfl) ?_
    refine h_nil ?_
    refine q_then ?_
    refine h_ret ?_
    exact h_ret1 rfl rfl fun w s => ⟨⟨(0, k'), hk'⟩, rfl, (same (L' := [CN gc k']) w s).res (List.Sublist.refl _) (by simp [Fa.wr, errB])⟩
end
end Go.Proofs.YtjhocljhhpkiiaaGreatDoor
/- U123 -/
namespace Go.Proofs.YtjhocljhhpkiiaaGreatDoor
set_option linter.unusedSimpArgs false
set_option linter.unusedVariables false
open Go.RowKit
theorem parse_cost {l : List Item} {t : Sub} (h : parseM l = .ok t) : t.cost ≤ l.length := by
  have h2 := readM_cost 256 l t [] (parse_ok h).1
  simpa using h2
section
variable (n : Nat) (hn : n ≤ 256) (h : Zh) [hT : RdZ h (some ⟨1, 0, none⟩) hashT] (gh gc : Nat) (l : List CB) (A : Option Addr) (c : Nat) [hr : RdZ h A (cbs l)] (hz : ClsZ h l) (hvl : ∀ x ∈ l, x.vb.length ≤ 100000000) (hll : l.length ≤ 100000) (K : Option Addr) (kc : Nat) [hK : RdZ h K (dgs (keysC l))] (hkc : l.length ≤ kc)
include hn hz hvl hll hkc
theorem show_s (k : Nat) (hk : k ≤ 100000000) (root : B32) (hC : claimsR l = none) (its0 : List Item) (I : Option Addr) (ic : Nat) [hI : RdZ h I (its its0)] (hic : its0.length ≤ ic) (hil : its0.length ≤ 1000000) (t : Sub) (hp : parseM its0 = .ok t) : Spec Tryz.prog 101 [.pointer (some ⟨gh, 0, none⟩), .agg root.cells.toArray, .slice A l.length c, .slice K l.length kc, .slice I its0.length ic].toArray [HR gh gc n] [.zone true h, CN gc k] (fun u : {u : Nat × Zh × Nat // LeZ h u.2.1 ∧ u.2.2 ≤ k + l.length + its0.length} => errV (showR n root l t) u.1.1) (fun u => .zone true u.1.2.1 :: CN gc u.1.2.2 :: errB (showR n root l t) u.1.1) := by
  have hke := (claimsR_ok hC).1
  have hkl := keysC_len l
  obtain ⟨es, b, hE⟩ : ∃ es b, endsM t (keysC l) 0 = (es, b) := ⟨_, _, rfl⟩
  have hel : es.length ≤ l.length := by
    have h1 := endsM_len t (keysC l) 0
    rw [hE, hkl] at h1
    exact h1
  have hEn := Ends_s h its0 I ic hic hil (keysC l) K kc t hp (by omega) (by omega) hke es b hE
  rw [hkl] at hEn
  have hcost := parse_cost hp
  obtain ⟨r, hR⟩ : ∃ r, showR n root l t = r := ⟨_, rfl⟩
  rw [hR]
  unfold showR at hR
  rw [hE] at hR
  dsimp only at hR
  cases b
  · obtain rfl : some (0, 12) = r := hR
    replace hEn : Spec Tryz.prog 153 [.slice I its0.length ic, .slice K l.length kc].toArray [.zone false h] [] (fun u : Option Addr × Nat => .tuple #[.slice none 0 0, .int .i64 12]) (fun u => []) := hEn
    refine spec_of Tryz.func101 rfl (n := 46) rfl rfl ?_
    intro W
    refine h_seq ?_
    refine h_reg ?_
    refine h_opX (x_box1 rfl) fun g5 => ?_
    refine h_opX (x_box rfl) fun g6 => ?_
    refine h_opX (x_box1 rfl) fun g7 => ?_
    refine h_opX (x_box1 rfl) fun g8 => ?_
    refine h_op (r_assign rfl) ?_
    refine h_nil ?_
    refine q_then ?_
    refine h_seq ?_
    refine h_reg ?_
    refine h_op (r_move rfl) ?_
    refine h_op (r_loadc rfl) ?_
    refine h_call (hEn.comes) rfl rfl rfl fun _ => ?_
    refine h_op (r_move rfl) ?_
    refine h_op (r_extract rfl rfl) ?_
    refine h_op (r_extract rfl rfl) ?_
    refine h_op (r_assign rfl) ?_
    refine h_op (r_assign rfl) ?_
    refine h_nil ?_
    refine q_then ?_
    refine h_seq ?_
    refine h_seq ?_
    refine h_reg ?_
    refine h_op (r_move rfl) ?_
    refine h_op (r_neq rfl rfl) ?_
    refine h_nil ?_
    refine q_then ?_
    refine h_yes rfl ((show ¬ (12 : Int) = 0 by decide)) ?_
    refine h_seq ?_
    refine h_reg ?_
    refine h_op (r_move rfl) ?_
    refine h_call ((mFail_s 0 12 (by decide)).comes) rfl rfl rfl fun g25 => ?_
    refine h_op (r_assign rfl) ?_
    refine h_nil ?_
    refine q_then ?_
    refine h_ret ?_
    refine q_thenR ?_
    exact h_ret1 rfl rfl fun w s => ⟨⟨(g25, h, k), LeZ.refl h, by dsimp only; omega⟩, rfl, (same (L' := [.zone true h, CN gc k, .blk g25 (fltC batchB 0 12) 178]) w s).res (List.Sublist.refl _) (by simp [Fa.wr, errB])⟩
  · rw [if_pos rfl] at hR
    replace hEn : Spec Tryz.prog 153 [.slice I its0.length ic, .slice K l.length kc].toArray [.zone false h] [] (fun u : Option Addr × Nat => .tuple #[.slice u.1 es.length u.2, .int .i64 0]) (fun u => [.own (.slice u.1 es.length u.2) es.length 250 98 (endC es)]) := hEn
    refine spec_of Tryz.func101 rfl (n := 46) rfl rfl ?_
    intro W
    refine h_seq ?_
    refine h_reg ?_
    refine h_opX (x_box1 rfl) fun g5 => ?_
    refine h_opX (x_box rfl) fun g6 => ?_
    refine h_opX (x_box1 rfl) fun g7 => ?_
    refine h_opX (x_box1 rfl) fun g8 => ?_
    refine h_op (r_assign rfl) ?_
    refine h_nil ?_
    refine q_then ?_
    refine h_seq ?_
    refine h_reg ?_
    refine h_op (r_move rfl) ?_
    refine h_op (r_loadc rfl) ?_
    refine h_call (hEn.comes) rfl rfl rfl fun ⟨A19, c19⟩ => ?_
    dsimp only
    refine h_freezeO (.slice A19 es.length c19) fun h2 B2 c2 e2 hle2 hlen2 hnil2 hz2 hr2 => ?_
    injection e2 with e2 _ e3
    subst e2 e3
    have hT2 : RdZ h2 (some ⟨1, 0, none⟩) hashT := hT.mono hz2
    have hr2' : RdZ h2 A (cbs l) := hr.mono hz2
    have hK2 : RdZ h2 K (dgs (keysC l)) := hK.mono hz2
    have hI2 : RdZ h2 I (its its0) := hI.mono hz2
    refine h_op (r_move rfl) ?_
    refine h_op (r_extract rfl rfl) ?_
    refine h_op (r_extract rfl rfl) ?_
    refine h_op (r_assign rfl) ?_
    refine h_op (r_assign rfl) ?_
    refine h_nil ?_
    refine q_then ?_
    refine h_seq ?_
    refine h_seq ?_
    refine h_reg ?_
    refine h_op (r_move rfl) ?_
    refine h_op (r_neq rfl rfl) ?_
    refine h_nil ?_
    refine q_then ?_
    refine h_no rfl ((fun h => h rfl)) ?_
    have hF := first3_s n hn h2 gh gc l A c (hz.mono hz2) hvl hll K kc g7 g5 g8 k hk es A19 c19 hel _ rfl
    obtain ⟨f, hf⟩ : ∃ f, firstF (showE n es l) es.length 0 = f := ⟨_, rfl⟩
    rw [hf] at hF hR
    rcases f with _ | ⟨i, e⟩
    · replace hF : Spec Tryz.prog 154 [.slice A19 es.length c19, .func (.func 155) #[] #[.pointer (some ⟨g7, 0, none⟩), .pointer (some ⟨g5, 0, none⟩), .pointer (some ⟨g8, 0, none⟩)]].toArray [HR gh gc n, .zone false h2, .rd (some ⟨g7, 0, none⟩) [.slice A l.length c], .rd (some ⟨g5, 0, none⟩) [.pointer (some ⟨gh, 0, none⟩)], .rd (some ⟨g8, 0, none⟩) [.slice K l.length kc]] [CN gc k] (fun u : {u : Nat × Nat // u.2 ≤ k + es.length} => .nilIface) (fun u => [CN gc u.1.2]) := hF
      refine h_skip ?_
      refine q_then ?_
      refine h_seq ?_
      refine h_reg ?_
      refine h_op (r_move rfl) ?_
      refine h_op (r_func rfl rfl) ?_
      refine h_call (hF.comes) rfl rfl rfl fun ⟨⟨g28, k1⟩, hk1⟩ => ?_
      dsimp only at hk1 ⊢
      have hRo := mRoot_s h2 n hn gh gc k1 (by omega) its0 I ic hic hil t hp
      refine h_op (r_assign rfl) ?_
      refine h_nil ?_
      refine q_then ?_
      refine h_seq ?_
      refine h_seq ?_
      refine h_reg ?_
      refine h_op (r_move rfl) ?_
      refine h_op (r_nilnn rfl) ?_
      refine h_nil ?_
      refine q_then ?_
      refine h_condF rfl ?_
      refine h_skip ?_
      refine q_then ?_
      refine h_seq ?_
      refine h_seq ?_
      refine h_reg ?_
      refine h_op (r_loadc rfl) ?_
      refine h_op (r_move rfl) ?_
      refine h_call (hRo.comes) rfl rfl rfl fun _ => ?_
      by_cases hd : dgS n t = root
      · obtain rfl : none = r := by rw [← hR]; dsimp only; rw [if_pos hd]
        refine h_op (r_move rfl) ?_
        refine h_op (r_extract rfl rfl) ?_
        refine h_op (r_extract rfl rfl) ?_
        refine h_opX (x_alloc) fun g14 => ?_
        refine h_opS (s_storer rfl rfl) ?_
        refine h_op (r_assign rfl) ?_
        refine h_nil ?_
        refine q_then ?_
        refine h_seq ?_
        refine h_reg ?_
        refine h_op (r_move rfl) ?_
        refine h_op (r_bool (r_neq rfl rfl) (decide_eq_false (fun h => h rfl))) ?_
        refine h_op (r_move rfl) ?_
        refine h_op (r_loadr rfl) ?_
        refine h_op (r_loadr rfl) ?_
        refine h_op (r_bool (r_ner rfl rfl) (decide_eq_false (fun h => h hd))) ?_
        refine h_op (r_pick rfl rfl) ?_
        refine h_nil ?_
        refine q_then ?_
        refine h_condF rfl ?_
        refine h_skip ?_
        refine q_then ?_
        refine h_seq ?_
        refine h_reg ?_
        refine h_op (r_assign rfl) ?_
        refine h_nil ?_
        refine q_then ?_
        refine h_ret ?_
        exact h_ret1 rfl rfl fun w s => ⟨⟨(0, h2, k1 + t.cost), hz2, by dsimp only; omega⟩, rfl, (same (L' := [.zone true h2, CN gc (k1 + t.cost)]) w s).res (List.Sublist.refl _) (by simp [Fa.wr, errB])⟩
      · obtain rfl : some (0, 13) = r := by rw [← hR]; dsimp only; rw [if_neg hd]
        refine h_op (r_move rfl) ?_
        refine h_op (r_extract rfl rfl) ?_
        refine h_op (r_extract rfl rfl) ?_
        refine h_opX (x_alloc) fun g14 => ?_
        refine h_opS (s_storer rfl rfl) ?_
        refine h_op (r_assign rfl) ?_
        refine h_nil ?_
        refine q_then ?_
        refine h_seq ?_
        refine h_reg ?_
        refine h_op (r_move rfl) ?_
        refine h_op (r_bool (r_neq rfl rfl) (decide_eq_false (fun h => h rfl))) ?_
        refine h_op (r_move rfl) ?_
        refine h_op (r_loadr rfl) ?_
        refine h_op (r_loadr rfl) ?_
        refine h_op (r_bool (r_ner rfl rfl) (decide_eq_true hd)) ?_
        refine h_op (r_pick rfl rfl) ?_
        refine h_nil ?_
        refine q_then ?_
        refine h_condT rfl ?_
        refine h_seq ?_
        refine h_reg ?_
        refine h_call ((mFail_s 0 13 (by decide)).comes) rfl rfl rfl fun g45 => ?_
        refine h_op (r_assign rfl) ?_
        refine h_nil ?_
        refine q_then ?_
        refine h_ret ?_
        refine q_thenR ?_
        exact h_ret1 rfl rfl fun w s => ⟨⟨(g45, h2, k1 + t.cost), hz2, by dsimp only; omega⟩, rfl, (same (L' := [.zone true h2, CN gc (k1 + t.cost), .blk g45 (fltC batchB 0 13) 178]) w s).res (List.Sublist.refl _) (by simp [Fa.wr, errB])⟩
    · obtain rfl : some (i, e) = r := hR
      replace hF : Spec Tryz.prog 154 [.slice A19 es.length c19, .func (.func 155) #[] #[.pointer (some ⟨g7, 0, none⟩), .pointer (some ⟨g5, 0, none⟩), .pointer (some ⟨g8, 0, none⟩)]].toArray [HR gh gc n, .zone false h2, .rd (some ⟨g7, 0, none⟩) [.slice A l.length c], .rd (some ⟨g5, 0, none⟩) [.pointer (some ⟨gh, 0, none⟩)], .rd (some ⟨g8, 0, none⟩) [.slice K l.length kc]] [CN gc k] (fun u : {u : Nat × Nat // u.2 ≤ k + es.length} => .iface 174 (.pointer (some ⟨u.1.1, 0, none⟩))) (fun u => [CN gc u.1.2, .blk u.1.1 (fltC batchB (i : Int) e) 178]) := hF
      refine h_skip ?_
      refine q_then ?_
      refine h_seq ?_
      refine h_reg ?_
      refine h_op (r_move rfl) ?_
      refine h_op (r_func rfl rfl) ?_
      refine h_call (hF.comes) rfl rfl rfl fun ⟨⟨g28, k1⟩, hk1⟩ => ?_
      dsimp only at hk1 ⊢
      refine h_op (r_assign rfl) ?_
      refine h_nil ?_
      refine q_then ?_
      refine h_seq ?_
      refine h_seq ?_
      refine h_reg ?_
      refine h_op (r_move rfl) ?_
      refine h_op (r_ifnn rfl) ?_
      refine h_nil ?_
      refine q_then ?_
      refine h_condT rfl ?_
      refine h_seq ?_
      refine h_reg ?_
      refine h_op (r_move rfl) ?_
      refine h_op (r_assign rfl) ?_
      refine h_nil ?_
      refine q_then ?_
      refine h_ret ?_
      refine q_thenR ?_
      exact h_ret1 rfl rfl fun w s => ⟨⟨(g28, h2, k1), hz2, by dsimp only; omega⟩, rfl, (same (L' := [.zone true h2, CN gc k1, .blk g28 (fltC batchB (i : Int) e) 178]) w s).res (List.Sublist.refl _) (by simp [Fa.wr, errB])⟩
end
end Go.Proofs.YtjhocljhhpkiiaaGreatDoor
/- U72 -/
namespace Go.Proofs.YtjhocljhhpkiiaaGreatDoor
set_option linter.unusedSimpArgs false
set_option linter.unusedVariables false
open Go.RowKit
end Go.Proofs.YtjhocljhhpkiiaaGreatDoor
/- U73 -/
namespace Go.Proofs.YtjhocljhhpkiiaaGreatDoor
set_option linter.unusedSimpArgs false
set_option linter.unusedVariables false
open Go.RowKit
end Go.Proofs.YtjhocljhhpkiiaaGreatDoor
/- U74 -/
namespace Go.Proofs.YtjhocljhhpkiiaaGreatDoor
set_option linter.unusedSimpArgs false
set_option linter.unusedVariables false
open Go.RowKit
end Go.Proofs.YtjhocljhhpkiiaaGreatDoor
/- U79 -/
namespace Go.Proofs.YtjhocljhhpkiiaaGreatDoor
set_option linter.unusedSimpArgs false
set_option linter.unusedVariables false
open Go.RowKit
end Go.Proofs.YtjhocljhhpkiiaaGreatDoor
/- U47 -/
namespace Go.Proofs.YtjhocljhhpkiiaaGreatDoor
set_option linter.unusedSimpArgs false
set_option linter.unusedVariables false
open Go.RowKit
theorem fill_kB (x : UInt8) : Instr.fill (plArr 1) zB32.cells.toArray [(0, Value.int .u8 (x.toNat : Int))] = some (kB x).cells.toArray := by kernel_rfl
end Go.Proofs.YtjhocljhhpkiiaaGreatDoor
/- U81 -/
namespace Go.Proofs.YtjhocljhhpkiiaaGreatDoor
set_option linter.unusedSimpArgs false
set_option linter.unusedVariables false
open Go.RowKit
def L1 : List En := [⟨⟨zB32, ⟨none, 0, 0⟩⟩, []⟩]
end Go.Proofs.YtjhocljhhpkiiaaGreatDoor
/- U82 -/
namespace Go.Proofs.YtjhocljhhpkiiaaGreatDoor
set_option linter.unusedSimpArgs false
set_option linter.unusedVariables false
open Go.RowKit
theorem checkM_ok {l : List Item} {t : Sub} (h : parseM l = .ok t) : checkM l = 0 := by unfold checkM; rw [h]
theorem checkM_bad {l : List Item} {e : Int} (h : parseM l = .error e) : checkM l = e := by unfold checkM; rw [h]
theorem parse_err {l : List Item} {e : Int} (h : parseM l = .error e) : e ≠ 0 := by
  unfold parseM at h
  split at h
  · split at h
    · split at h
      · cases h
      · injection h with h; omega
    · injection h with h; omega
  · injection h with h; omega
end Go.Proofs.YtjhocljhhpkiiaaGreatDoor
/- U124 -/
namespace Go.Proofs.YtjhocljhhpkiiaaGreatDoor
set_option linter.unusedSimpArgs false
set_option linter.unusedVariables false
open Go.RowKit
section
variable (n : Nat) (hn : n ≤ 256) (h : Zh) [hT : RdZ h (some ⟨1, 0, none⟩) hashT] (gh gc : Nat) (l : List CB) (A : Option Addr) (c : Nat) [hr : RdZ h A (cbs l)] (hz : ClsZ h l) (hvl : ∀ x ∈ l, x.vb.length ≤ 100000000) (hll : l.length ≤ 100000)
include hn hz hvl hll
/-- whether decoded items show claims -/
def accM (n : Nat) (root : B32) (l : List CB) (its0 : List Item) : Bool := decide (claimsR l = none) && match parseM its0 with
  | .ok t => decide (showR n root l t = none)
  | .error _ => false
theorem mvAccepts_s (k : Nat) (hk : k ≤ 100000000) (root : B32) (its0 : List Item) (I : Option Addr) (ic : Nat) [hI : RdZ h I (its its0)] (hic : its0.length ≤ ic) (hil : its0.length ≤ 1000000) : Spec Tryz.prog 46 [.pointer (some ⟨gh, 0, none⟩), .agg root.cells.toArray, .slice A l.length c, .slice I its0.length ic].toArray [HR gh gc n] [.zone true h, CN gc k] (fun u : {u : Zh × Nat // LeZ h u.1 ∧ u.2 ≤ k + l.length + its0.length} => .bool (accM n root l its0)) (fun u => [.zone true u.1.1, CN gc u.1.2]) := by
  have hC := mClaims_s h l A c (by omega) hz _ rfl
  refine spec_of Tryz.func46 rfl (n := 32) rfl rfl ?_
  intro W
  refine h_seq ?_
  refine h_reg ?_
  refine h_opX (x_box rfl) fun g5 => ?_
  refine h_op (r_assign rfl) ?_
  refine h_nil ?_
  refine q_then ?_
  refine h_seq ?_
  refine h_reg ?_
  refine h_op (r_move rfl) ?_
  obtain ⟨r1, hr1⟩ : ∃ r1, claimsR l = r1 := ⟨_, rfl⟩
  rw [hr1] at hC
  rcases r1 with _ | ⟨i, e⟩
  · replace hC : Spec Tryz.prog 56 [.slice A l.length c].toArray [.zone false h] [] (fun g : Nat => .tuple #[.slice (some ⟨g, 0, none⟩) l.length l.length, .nilIface]) (fun g => [.own (.slice (some ⟨g, 0, none⟩) l.length l.length) l.length 35 32 (dgs (keysC l))]) := hC
    refine h_call (hC.comes) rfl rfl rfl fun g13 => ?_
    refine h_freezeO (.slice (some ⟨g13, 0, none⟩) l.length l.length) fun h2 B2 c2 e2 hle2 hlen2 hnil2 hz2 hr2 => ?_
    injection e2 with e2 _ e3
    subst e2 e3
    have hT2 : RdZ h2 (some ⟨1, 0, none⟩) hashT := hT.mono hz2
    have hr2' : RdZ h2 A (cbs l) := hr.mono hz2
    have hI2 : RdZ h2 I (its its0) := hI.mono hz2
    have hM := mCheck_s h2 its0 I ic hic hil
    rcases hp : parseM its0 with e | t
    · have hne := parse_err hp
      rw [checkM_bad hp] at hM
      rw [show accM n root l its0 = false by unfold accM; rw [hp]; exact Bool.and_false _]
      refine h_op (r_move rfl) ?_
      refine h_op (r_extract rfl rfl) ?_
      refine h_op (r_extract rfl rfl) ?_
      refine h_op (r_assign rfl) ?_
      refine h_op (r_assign rfl) ?_
      refine h_nil ?_
      refine q_then ?_
      refine h_seq ?_
      refine h_reg ?_
      refine h_op (r_move rfl) ?_
      refine h_op (r_nilnil rfl) ?_
      refine h_op (r_move rfl) ?_
      refine h_op (r_move rfl) ?_
      refine h_call (hM.comes) rfl rfl rfl fun _ => ?_
      refine h_op (r_bool (r_eql rfl rfl) (decide_eq_false hne)) ?_
      refine h_op (r_pick rfl rfl) ?_
      refine h_op (r_move rfl) ?_
      refine h_opOff ?_
      refine h_opOff ?_
      refine h_opOff ?_
      refine h_opOff ?_
      refine h_opOff ?_
      refine h_opOff ?_
      refine h_opOff ?_
      refine h_op (r_pick rfl rfl) ?_
      refine h_op (r_assign rfl) ?_
      refine h_nil ?_
      refine q_then ?_
      refine h_ret ?_
      exact h_ret1 rfl rfl fun w s => ⟨⟨(h2, k), hz2, by dsimp only; omega⟩, rfl, (same (L' := [.zone true h2, CN gc k]) w s).res (List.Sublist.refl _) (by simp [Fa.wr])⟩
    · rw [checkM_ok hp] at hM
      have hS := show_s n hn h2 gh gc l A c (hz.mono hz2) hvl hll (some ⟨g13, 0, none⟩) l.length (Nat.le_refl _) k hk root hr1 its0 I ic hic hil t hp
      have ha : accM n root l its0 = decide (showR n root l t = none) := by unfold accM; rw [hp, decide_eq_true hr1]; exact Bool.true_and _
      rw [ha]
      generalize showR n root l t = r at *
      refine h_op (r_move rfl) ?_
      refine h_op (r_extract rfl rfl) ?_
      refine h_op (r_extract rfl rfl) ?_
      refine h_op (r_assign rfl) ?_
      refine h_op (r_assign rfl) ?_
      refine h_nil ?_
      refine q_then ?_
      refine h_seq ?_
      refine h_reg ?_
      refine h_op (r_move rfl) ?_
      refine h_op (r_nilnil rfl) ?_
      refine h_op (r_move rfl) ?_
      refine h_op (r_move rfl) ?_
      refine h_call (hM.comes) rfl rfl rfl fun _ => ?_
      refine h_op (r_bool (r_eql rfl rfl) (decide_eq_true rfl)) ?_
      refine h_op (r_pick rfl rfl) ?_
      refine h_op (r_move rfl) ?_
      refine h_op (r_move rfl) ?_
      refine h_op (r_loadr rfl) ?_
      refine h_op (r_move rfl) ?_
      refine h_op (r_move rfl) ?_
      refine h_op (r_move rfl) ?_
      refine h_call (hS.comes) rfl rfl rfl fun ⟨⟨g29, h3, k3⟩, hle3, hk3⟩ => ?_
      dsimp only at hle3 hk3 ⊢
      rcases r with _ | ⟨i9, e9⟩
      · change H _ _ _ _ _ (.zone true h3 :: CN gc k3 :: _) _
        refine h_op (r_nilnil rfl) ?_
        refine h_op (r_pick rfl rfl) ?_
        refine h_op (r_assign rfl) ?_
        refine h_nil ?_
        refine q_then ?_
        refine h_ret ?_
        exact h_ret1 rfl rfl fun w s => ⟨⟨(h3, k3), hz2.trans hle3, by dsimp only; omega⟩, rfl, (same (L' := [.zone true h3, CN gc k3]) w s).res (List.Sublist.refl _) (by simp [Fa.wr])⟩
      · change H _ _ _ _ _ (.zone true h3 :: CN gc k3 :: .blk g29 (fltC batchB (i9 : Int) e9) _ :: _) _
        refine h_op (r_ifnil rfl) ?_
        refine h_op (r_pick rfl rfl) ?_
        refine h_op (r_assign rfl) ?_
        refine h_nil ?_
        refine q_then ?_
        refine h_ret ?_
        exact h_ret1 rfl rfl fun w s => ⟨⟨(h3, k3), hz2.trans hle3, by dsimp only; omega⟩, rfl, (same (L' := [.zone true h3, CN gc k3]) w s).res (List.Sublist.refl _) (by simp [Fa.wr])⟩
  · replace hC : Spec Tryz.prog 56 [.slice A l.length c].toArray [.zone false h] [] (fun g : Nat => .tuple #[.slice none 0 0, .iface 174 (.pointer (some ⟨g, 0, none⟩))]) (fun g => [.blk g (fltC batchB (i : Int) e) 178]) := hC
    rw [show accM n root l its0 = false by unfold accM; rw [hr1, decide_eq_false (by simp)]; rfl]
    refine h_call (hC.comes) rfl rfl rfl fun g13 => ?_
    refine h_op (r_move rfl) ?_
    refine h_op (r_extract rfl rfl) ?_
    refine h_op (r_extract rfl rfl) ?_
    refine h_op (r_assign rfl) ?_
    refine h_op (r_assign rfl) ?_
    refine h_nil ?_
    refine q_then ?_
    refine h_seq ?_
    refine h_reg ?_
    refine h_op (r_move rfl) ?_
    refine h_op (r_ifnil rfl) ?_
    refine h_op (r_move rfl) ?_
    refine h_opOff ?_
    refine h_opOff ?_
    refine h_opOff ?_
    refine h_op (r_pick rfl rfl) ?_
    refine h_op (r_move rfl) ?_
    refine h_opOff ?_
    refine h_opOff ?_
    refine h_opOff ?_
    refine h_opOff ?_
    refine h_opOff ?_
    refine h_opOff ?_
    refine h_opOff ?_
    refine h_op (r_pick rfl rfl) ?_
    refine h_op (r_assign rfl) ?_
    refine h_nil ?_
    refine q_then ?_
    refine h_ret ?_
    exact h_ret1 rfl rfl fun w s => ⟨⟨(h, k), LeZ.refl h, by dsimp only; omega⟩, rfl, (same (L' := [.zone true h, CN gc k]) w s).res (List.Sublist.refl _) (by simp [Fa.wr])⟩
end
end Go.Proofs.YtjhocljhhpkiiaaGreatDoor
/- U114 -/
namespace Go.Proofs.YtjhocljhhpkiiaaGreatDoor
set_option linter.unusedSimpArgs false
set_option linter.unusedVariables false
open Go.RowKit
end Go.Proofs.YtjhocljhhpkiiaaGreatDoor
/- E31 -/
namespace Go.Proofs.YtjhocljhhpkiiaaGreatDoor
set_option linter.unusedSimpArgs false
set_option linter.unusedVariables false
open Go.RowKit
abbrev cb21 (B : Option Addr) (c : Nat) : CB := ⟨⟨⟨B, 32, c⟩, ⟨none, 0, 0⟩, false⟩, kb18, []⟩
theorem claims21 (B : Option Addr) (c : Nat) : claimsR [cb21 B c] = none := rfl
theorem parse21 : parseM [zItem] = .ok (.one zItem) := by kernel_rfl
theorem ends21 (ks : List B32) (h : ks.length = 1) : endsM (.one zItem) ks 0 = (ks.map fun _ => (zItem, 0), true) := by
  unfold endsM
  rfl
end Go.Proofs.YtjhocljhhpkiiaaGreatDoor
/- U86 -/
namespace Go.Proofs.YtjhocljhhpkiiaaGreatDoor
set_option linter.unusedSimpArgs false
set_option linter.unusedVariables false
open Go.RowKit
end Go.Proofs.YtjhocljhhpkiiaaGreatDoor
/- U125 -/
namespace Go.Proofs.YtjhocljhhpkiiaaGreatDoor
set_option linter.unusedSimpArgs false
set_option linter.unusedVariables false
open Go.RowKit
end Go.Proofs.YtjhocljhhpkiiaaGreatDoor
/- E32 -/
namespace Go.Proofs.YtjhocljhhpkiiaaGreatDoor
set_option linter.unusedSimpArgs false
set_option linter.unusedVariables false
open Go.RowKit
/-- claims about a map; those that fl marks are turned into their opposites -/
structure MapCl (m : List En) (ks : List B32) (fl : Nat → Bool) (cl : List CB) : Prop where
  len : cl.length ≤ ks.length
  keys : keysC cl = ks.take cl.length
  at_ : ∀ (j : Nat) (x : CB), cl[j]? = some x → x.c.key.n = 32 ∧ x.c.value.n ≤ 200 ∧ x.vb.length ≤ 200 ∧ x.vb = getV (getE' m (keyOf x.kb)) ∧ x.c.present = ((getE' m (keyOf x.kb)).isSome != fl j)
theorem MapCl.nil (m : List En) (ks : List B32) (fl : Nat → Bool) : MapCl m ks fl [] := ⟨Nat.zero_le _, rfl, fun j x h => by simp at h⟩
theorem MapCl.snoc {m : List En} {ks : List B32} {fl : Nat → Bool} {cl : List CB} (h : MapCl m ks fl cl) {x : CB} {key : B32} (hk : ks[cl.length]? = some key) (hx : keyOf x.kb = key) (h1 : x.c.key.n = 32) (h2 : x.c.value.n ≤ 200) (h2' : x.vb.length ≤ 200) (h3 : x.vb = getV (getE' m key)) (h4 : x.c.present = ((getE' m key).isSome != fl cl.length)) : MapCl m ks fl (cl ++ [x]) := by
  refine ⟨?_, ?_, fun j y hy => ?_⟩
  · rw [List.length_append]
    have := (List.getElem?_eq_some_iff.1 hk).1
    simp; omega
  · rw [List.length_append, List.length_singleton, List.take_add_one, hk, Option.toList_some, ← h.keys]
    unfold keysC
    rw [List.map_append, List.map_cons, List.map_nil, hx]
  · rcases Nat.lt_or_ge j cl.length with hj | hj
    · rw [List.getElem?_append_left hj] at hy
      exact h.at_ j y hy
    · rw [List.getElem?_append_right hj] at hy
      obtain ⟨e1, e2⟩ : j - cl.length = 0 ∧ x = y := by
        rcases hq : j - cl.length with _ | q
        · rw [hq] at hy; exact ⟨rfl, by simpa using hy⟩
        · rw [hq] at hy; simp at hy
      obtain rfl : j = cl.length := by omega
      subst e2
      rw [hx]
      exact ⟨h1, h2, h2', h3, h4⟩
theorem WayTo.unique {key : B32} {t : Tr} {D D' : Nat} (h : WayTo key t D) (h' : WayTo key t D') : D = D' := by
  rcases Nat.lt_trichotomy D D' with hl | hl | hl
  · exact (h.end_ (h'.on D hl)).elim
  · exact hl
  · exact (h'.end_ (h.on D' hl)).elim
end Go.Proofs.YtjhocljhhpkiiaaGreatDoor
/- U77 -/
namespace Go.Proofs.YtjhocljhhpkiiaaGreatDoor
set_option linter.unusedSimpArgs false
set_option linter.unusedVariables false
open Go.RowKit
end Go.Proofs.YtjhocljhhpkiiaaGreatDoor
/- U126 -/
namespace Go.Proofs.YtjhocljhhpkiiaaGreatDoor
set_option linter.unusedSimpArgs false
set_option linter.unusedVariables false
open Go.RowKit
theorem keysC_mem32 {l : List CB} (h : claimsR l = none) {h' : Zh} (hz : ClsZ h' l) : ∀ i, i < l.length → (l.getD i zCB).kb.length = 32 := fun i hi => by
  have h1 := (claimsR_ok h).2 i hi
  have h2 := (hz.get hi).1.len
  unfold claimE at h1
  split at h1
  · omega
  · cases h1
end Go.Proofs.YtjhocljhhpkiiaaGreatDoor
/- U145 -/
namespace Go.Proofs.YtjhocljhhpkiiaaGreatDoor
set_option linter.unusedSimpArgs false
set_option linter.unusedVariables false
open Go.RowKit
/-- how deep the way of a key goes -/
def depK (key : B32) (m : List En) : Nat := (loc key (mkT m 0) 0).2
theorem wayM_dep {m : List En} (hal : Alike m 0) (key : B32) : WayM key m (depK key m) := by
  obtain ⟨D, w⟩ := wayM (key := key) hal
  obtain ⟨D', hw', hlc⟩ := loc_way hal key
  have e : depK key m = D := by unfold depK; rw [hlc]; exact WayTo.unique hw' w.way
  rw [e]
  exact w
def pairF (n : Nat) (m : List En) (x : CB) (ls : List (List UInt8)) : List UInt8 × List UInt8 := findP (wayPre n (keyOf x.kb) (mkT m 0) (depK (keyOf x.kb) m + 1)) ls (preV (getV (getE' m (keyOf x.kb)))) (preV x.vb)
/-- what Batch returns -/
def batchR (n : Nat) (m : List En) (l : List CB) (its0 : List Item) : Option (List UInt8 × List UInt8) :=
  if accM n (dgT n (mkT m 0)) l its0 then
    match parseM its0, l.find? fun x => !trueC m x.c x.kb x.vb with
    | .ok t, some x => some (pairF n m x (t.pres n (keyOf x.kb) 0))
    | _, _ => none
  else none
theorem accM_ok {n : Nat} {root : B32} {l : List CB} {its0 : List Item} (h : accM n root l its0 = true) : claimsR l = none ∧ ∃ t, parseM its0 = .ok t ∧ showR n root l t = none := by
  unfold accM at h
  rw [Bool.and_eq_true, decide_eq_true_eq] at h
  refine ⟨h.1, ?_⟩
  rcases hp : parseM its0 with e | t
  · rw [hp] at h; cases h.2
  · rw [hp] at h
    exact ⟨t, rfl, of_decide_eq_true h.2⟩
theorem showR_fits {n : Nat} {root : B32} {l : List CB} {t : Sub} (h : showR n root l t = none) : (endsM t (keysC l) 0).2 = true := by
  unfold showR at h
  split at h
  · assumption
  · cases h
theorem show_kind {n : Nat} {root : B32} {l : List CB} {t : Sub} {its0 : List Item} (hp : parseM its0 = .ok t) (h : showR n root l t = none) {i : Nat} (hi : i < l.length) : (t.endI (keyOf (l.getD i zCB).kb) 0).1.kind ≠ 3 := by
  have h1 := (fits_iff t (keysC l) 0 0 (parse_flat hp).2.1).1 (showR_fits h)
  exact h1.1 _ (List.mem_of_getElem? (keysC_get hi))
theorem find_first {α : Type} {p : α → Bool} : ∀ {l : List α} {i : Nat} {x : α}, l[i]? = some x → p x = true → (∀ j, j < i → ∀ y, l[j]? = some y → p y = false) → l.find? p = some x
  | [], _, _, h, _, _ => by simp at h
  | a :: l, 0, x, h, hp, _ => by
    obtain rfl : a = x := by simpa using h
    rw [List.find?_cons, hp]
  | a :: l, i + 1, x, h, hp, hn => by
    rw [List.find?_cons, hn 0 (by omega) a rfl]
    exact find_first (by simpa using h) hp fun j hj y hy => hn (j + 1) (by omega) y (by simpa using hy)
section
variable (n : Nat) (hn : n ≤ 256) (h : Zh) [hT : RdZ h (some ⟨1, 0, none⟩) hashT] (gh gc k : Nat) (hk : k ≤ 1000000000) (m : List En) (hal : Alike m 0) (p : Option Addr) [ht : TrZ n h (mkT m 0) p] (hvl : ∀ e ∈ m, e.val.length ≤ 100000000) (its0 : List Item) (I : Option Addr) (ic : Nat) [hI : RdZ h I (its its0)] (hic : its0.length ≤ ic) (hil : its0.length ≤ 100000) (t : Sub) (hp : parseM its0 = .ok t)
omit hT hI in
include ht in
theorem search_no (hal : Alike m 0) (hvl : ∀ e ∈ m, e.val.length ≤ 100000000) (c : Claim) (kb vb : List UInt8) [hK : SlZ h c.key kb] [hV : SlZ h c.value vb] (htr : trueC m c kb vb = true) (q4 q5 q7 q8 q9 q10 : Nat) : Spec Tryz.prog 90 [.agg c.cells.toArray, .pointer (some ⟨q5, 0, none⟩), .pointer (some ⟨q4, 0, none⟩), .pointer (some ⟨q7, 0, none⟩), .pointer (some ⟨q8, 0, none⟩), .pointer (some ⟨q9, 0, none⟩), .pointer (some ⟨q10, 0, none⟩)].toArray [.rd (some ⟨q5, 0, none⟩) [.pointer p], .zone false h] [] (fun _ : Unit => .bool false) (fun _ => []) := by
  have hTr := xTrue_s n h m hal p c kb vb (fun e he => by have := hvl e he; omega)
  rw [htr] at hTr
  refine spec_of Tryz.func90 rfl (n := 35) rfl rfl ?_
  intro W
  refine h_seq ?_
  refine h_reg ?_
  refine h_opX (x_box rfl) fun g7 => ?_
  refine h_op (r_assign rfl) ?_
  refine h_nil ?_
  refine q_then ?_
  refine h_seq ?_
  refine h_seq ?_
  refine h_reg ?_
  refine h_op (r_loadc rfl) ?_
  refine h_op (r_loadr rfl) ?_
  refine h_call (hTr.comes) rfl rfl rfl fun _ => ?_
  refine h_nil ?_
  refine q_then ?_
  refine h_condT rfl ?_
  refine h_seq ?_
  refine h_reg ?_
  refine h_op (r_assign rfl) ?_
  refine h_nil ?_
  refine q_then ?_
  refine h_ret ?_
  refine q_thenR ?_
  exact h_ret1 rfl rfl fun w s => ⟨(), rfl, s.res (List.nil_sublist _) (by simp)⟩
include hn hk hal hvl hic hil hp
theorem search_yes (c : Claim) (kb vb : List UInt8) [hK : SlZ h c.key kb] [hV : SlZ h c.value vb] (hk32 : kb.length = 32) (hvb : vb.length ≤ 100000000) (htr : trueC m c kb vb = false) (h3 : (t.endI (keyOf kb) 0).1.kind ≠ 3) (q4 q5 q7 q8 q9 q10 : Nat) (D : Nat) (w : WayM (keyOf kb) m D) (x y : List UInt8) (hxy : findP (wayPre n (keyOf kb) (mkT m 0) (D + 1)) (t.pres n (keyOf kb) 0) (preV (getV (getE' m (keyOf kb)))) (preV vb) = (x, y)) : Spec Tryz.prog 90 [.agg c.cells.toArray, .pointer (some ⟨q5, 0, none⟩), .pointer (some ⟨q4, 0, none⟩), .pointer (some ⟨q7, 0, none⟩), .pointer (some ⟨q8, 0, none⟩), .pointer (some ⟨q9, 0, none⟩), .pointer (some ⟨q10, 0, none⟩)].toArray [HR gh gc n, .rd (some ⟨q4, 0, none⟩) [.pointer (some ⟨gh, 0, none⟩)], .rd (some ⟨q5, 0, none⟩) [.pointer p], .rd (some ⟨q7, 0, none⟩) [.slice I its0.length ic]] [.zone true h, CN gc k, .blk q8 [.slice none 0 0] 23, .blk q9 [.slice none 0 0] 23, .blk q10 [.bool false] 4] (fun u : {u : Zh × (Option Addr × Nat) × (Option Addr × Nat) × Nat // LeZ h u.1 ∧ PZ u.1 u.2.1.1 u.2.1.2 x ∧ PZ u.1 u.2.2.1.1 u.2.2.1.2 y ∧ u.2.2.2 ≤ k + 300000000} => .bool true) (fun u => [.zone true u.1.1, CN gc u.1.2.2.2, .blk q8 [.slice u.1.2.1.1 x.length u.1.2.1.2] 23, .blk q9 [.slice u.1.2.2.1.1 y.length u.1.2.2.1.2] 23, .blk q10 [.bool true] 4]) := by
  have hTr := xTrue_s n h m hal p c kb vb (fun e he => by have := hvl e he; omega)
  rw [htr] at hTr
  have hkn := hK.len
  have hP := mPre_k h n hn gh gc k hk its0 I ic hic (by omega) (keyOf kb) t hp false (by simpa using h3)
  replace hP : Spec Tryz.prog 91 [.pointer (some ⟨gh, 0, none⟩), .slice I its0.length ic, .agg (keyOf kb).cells.toArray].toArray [HR gh gc n] [.zone true h, CN gc k] (fun u : {x : Zh × Nat × Nat × List Seg × Nat // LeZ h x.1 ∧ (false = false → SegsZ x.1 x.2.2.2.1 (t.pres n (keyOf kb) 0)) ∧ x.2.2.2.2 ≤ k + 256000000} => .tuple #[.slice (some ⟨u.1.2.1, 0, none⟩) (t.pres n (keyOf kb) 0).length u.1.2.2.1, .int .i64 0]) (fun u => [.zone true u.1.1, CN gc u.1.2.2.2.2, .own (.slice (some ⟨u.1.2.1, 0, none⟩) (t.pres n (keyOf kb) 0).length u.1.2.2.1) (t.pres n (keyOf kb) 0).length 23 1 (svs u.1.2.2.2.1)]) := hP
  have hpl : (t.pres n (keyOf kb) 0).length ≤ 257 := by
    have h1 := pres_len n (keyOf kb) t 0 0
    have h2 := way_depth (keyOf kb) t 0 0
    have h4 := (parse_flat hp).2.2
    omega
  have hKr : RdZ h c.key.A (keyOf kb).cells := by rw [keyOf_cells hk32]; exact hK.rd
  obtain ⟨bK, oK, hKA, -⟩ := hKr.at_ 0 _ (List.getElem?_eq_getElem (by rw [B32.cells_length]; decide))
  rw [hKA] at hKr
  have hCo := fun z (hTz : RdZ z (some ⟨1, 0, none⟩) hashT) (htz : TrZ n z (mkT m 0) p) (hKz : SlZ z c.key kb) (hVz : SlZ z c.value vb) k0 hk0 ys Y cy (hY : RdZ z Y (svs ys)) hys hyl => xCompare_s n hn z gh gc k0 hk0 m p c kb vb hk32 hvb hvl D w ys (t.pres n (keyOf kb) 0) Y cy (hY := hY) hys hyl x y hxy
  generalize t.pres n (keyOf kb) 0 = pl at *
  refine spec_of Tryz.func90 rfl (n := 35) rfl rfl ?_
  intro W
  refine h_seq ?_
  refine h_reg ?_
  refine h_opX (x_box rfl) fun g7 => ?_
  refine h_op (r_assign rfl) ?_
  refine h_nil ?_
  refine q_then ?_
  refine h_seq ?_
  refine h_seq ?_
  refine h_reg ?_
  refine h_op (r_loadc rfl) ?_
  refine h_op (r_loadr rfl) ?_
  refine h_call (hTr.comes) rfl rfl rfl fun _ => ?_
  refine h_nil ?_
  refine q_then ?_
  refine h_condF rfl ?_
  refine h_skip ?_
  refine q_then ?_
  refine h_seq ?_
  refine ha_start [.zone false h, .blk g7 c.cells 25, .rd (some ⟨q4, 0, none⟩) [.pointer (some ⟨gh, 0, none⟩)], .rd (some ⟨q7, 0, none⟩) [.slice I its0.length ic]] [] mixed (zbL (LeZ.refl h)) ?_
  refine ha_take 0 rfl (r_loadc rfl) ?_
  refine ha_take 1 rfl (r_loadc rfl) ?_
  refine ha_takeP 2 rfl (r_field rfl) ?_
  refine ha_take 3 rfl (r_as (r_loadc rfl) (show _ = Value.slice (some ⟨bK, oK, none⟩) c.key.n c.key.c by rw [hKA])) ?_
  refine ha_takeP 4 rfl (r_arr rfl (hm := show 32 ≤ c.key.n by omega)) ?_
  refine ha_take 5 rfl (r_loadr rfl) ?_
  refine ha_one 6 ?_
  refine ho_C 6 rfl (hP.comes) rfl rfl rfl (fun xx => zbL xx.2.1) fun ⟨⟨z1, g21, c21, ys, k1⟩, hz1, hys, hk1⟩ => ?_
  refine ha_takeP 7 rfl (r_move rfl) ?_
  refine ha_takeP 8 rfl (r_extract rfl rfl) ?_
  refine ha_takeP 9 rfl (r_extract rfl rfl) ?_
  refine ha_takeP 10 rfl (r_assign rfl) ?_
  refine ha_takeP 11 rfl (r_assign rfl) ?_
  refine ha_done (by kernel_rfl) ?_
  refine q_then ?_
  dsimp only at hz1 hys hk1 ⊢
  replace hys := hys rfl
  refine h_freezeO (.slice (some ⟨g21, 0, none⟩) pl.length c21) fun z2 B2 c2 e2 hle2 hlen2 hnil2 hz2 hyr => ?_
  injection e2 with e2 _ e3
  subst e2 e3
  have hyl := hys.len
  have hz12 := hz1.trans hz2
  have hCo := hCo z2 (hT.mono hz12) ⟨ht.ok.mono hz12⟩ (hK.mono hz12) (hV.mono hz12) k1 (by omega) ys (some ⟨g21, 0, none⟩) c21 hyr (hys.mono hz2) (by omega)
  rw [hyl] at hCo
  refine h_seq ?_
  refine h_seq ?_
  refine h_reg ?_
  refine h_op (r_move rfl) ?_
  refine h_op (r_eql rfl rfl) ?_
  refine h_nil ?_
  refine q_then ?_
  refine h_condT rfl ?_
  refine h_reg ?_
  refine h_op (r_loadc rfl) ?_
  refine h_op (r_loadc rfl) ?_
  refine h_op (r_loadr rfl) ?_
  refine h_op (r_move rfl) ?_
  refine h_call (hCo.comes) rfl rfl rfl fun ⟨⟨z3, X, Y, k3⟩, hz3, hX, hY, hk3⟩ => ?_
  dsimp only at hz3 hX hY hk3 ⊢
  refine h_op (r_move rfl) ?_
  refine h_op (r_extract rfl rfl) ?_
  refine h_op (r_extract rfl rfl) ?_
  refine h_op (r_extract rfl rfl) ?_
  refine h_opS (s_store rfl rfl rfl) ?_
  refine h_opS (s_store rfl rfl rfl) ?_
  refine h_opS (s_store rfl rfl rfl) ?_
  refine h_nil ?_
  refine q_then ?_
  refine h_seq ?_
  refine h_reg ?_
  refine h_op (r_assign rfl) ?_
  refine h_nil ?_
  refine q_then ?_
  refine h_ret ?_
  exact h_ret1 rfl rfl fun w s => ⟨⟨(z3, X, Y, k3), hz12.trans hz3, hX, hY, by dsimp only; omega⟩, rfl, (same (L' := [.zone true z3, CN gc k3, .blk q8 [.slice X.1 x.length X.2] 23, .blk q9 [.slice Y.1 y.length Y.2] 23, .blk q10 [.bool true] 4]) w s).res (List.Sublist.refl _) (by simp [Fa.wr])⟩
end
section
variable (n : Nat) (hn : n ≤ 256) (h : Zh) [hT : RdZ h (some ⟨1, 0, none⟩) hashT] (gh gc k : Nat) (hk : k ≤ 1000000) (m : List En) (hal : Alike m 0) (p : Option Addr) [ht : TrZ n h (mkT m 0) p] (hvl : ∀ e ∈ m, e.val.length ≤ 100000000) (its0 : List Item) (I : Option Addr) (ic : Nat) [hI : RdZ h I (its its0)] (hic : its0.length ≤ ic) (hil : its0.length ≤ 100000) (l : List CB) (A : Option Addr) (c : Nat) [hr : RdZ h A (cbs l)] (hz : ClsZ h l) (hcv : ∀ x ∈ l, x.vb.length ≤ 100000000) (hll : l.length ≤ 100000)
include hn hk hal hvl hic hil hz hcv hll
theorem xBatch_s (o : Option (List UInt8 × List UInt8)) (ho : batchR n m l its0 = o) : Spec Tryz.prog 38 [.pointer (some ⟨gh, 0, none⟩), .pointer p, .slice A l.length c, .slice I its0.length ic].toArray [HR gh gc n] [.zone true h, CN gc k] (fun u : {u : Zh × (Option Addr × Nat) × (Option Addr × Nat) × Nat // LeZ h u.1 ∧ (∀ x y, o = some (x, y) → PZ u.1 u.2.1.1 u.2.1.2 x ∧ PZ u.1 u.2.2.1.1 u.2.2.1.2 y) ∧ u.2.2.2 ≤ k + 300300000} => outV o u.1.2.1 u.1.2.2.1) (fun u => [.zone true u.1.1, CN gc u.1.2.2.2]) := by
  have hDg := Digest_s n hn gh gc k (by omega) h (mkT m 0) p
  obtain ⟨k1, hk1⟩ : ∃ k1, k + (if (mkT m 0).kind = 0 then 1 else 0) = k1 := ⟨_, rfl⟩
  have hk1b : k1 ≤ k + 1 := by rw [← hk1]; split <;> omega
  rw [hk1] at hDg
  have hA := mvAccepts_s n hn h gh gc l A c hz hcv hll k1 (by omega) (dgT n (mkT m 0)) its0 I ic hic (by omega)
  unfold batchR at ho
  obtain ⟨a, ha⟩ : ∃ a, accM n (dgT n (mkT m 0)) l its0 = a := ⟨_, rfl⟩
  rw [ha] at ho hA
  cases a
  · obtain rfl : none = o := ho
    refine spec_of Tryz.func38 rfl (n := 36) rfl rfl ?_
    intro W
    refine h_seq ?_
    refine h_reg ?_
    refine h_opX (x_box1 rfl) fun g4 => ?_
    refine h_opX (x_box1 rfl) fun g5 => ?_
    refine h_opX (x_box1 rfl) fun g7 => ?_
    refine h_opX (x_alloc) fun g8 => ?_
    refine h_opX (x_alloc) fun g9 => ?_
    refine h_opX (x_alloc) fun g10 => ?_
    refine h_nil ?_
    refine q_then ?_
    refine h_seq ?_
    refine h_seq ?_
    refine ha_start [.blk g4 [.pointer (some ⟨gh, 0, none⟩)] 36, .blk g5 [.pointer p] 26, .blk g7 [.slice I its0.length ic] 68] [] mixed (same) ?_
    refine ha_take 0 rfl (r_loadc rfl) ?_
    refine ha_take 1 rfl (r_loadc rfl) ?_
    refine ha_take 2 rfl (r_loadc rfl) ?_
    refine ha_takeP 4 rfl (r_move rfl) ?_
    refine ha_take 5 rfl (r_loadc rfl) ?_
    refine ha_one 3 ?_
    refine ho_C 3 rfl (hDg.comes) rfl rfl rfl (fun xx => same) fun _ => ?_
    refine ha_one 6 ?_
    refine ho_C 6 rfl (hA.comes) rfl rfl rfl (fun xx => same) fun ⟨⟨z1, k2⟩, hz1, hk2⟩ => ?_
    refine ha_takeP 7 rfl (r_not rfl) ?_
    refine ha_done (by kernel_rfl) ?_
    refine q_then ?_
    refine h_condT rfl ?_
    refine h_seq ?_
    refine h_reg ?_
    refine h_opS (s_store rfl rfl rfl) ?_
    refine h_opS (s_store rfl rfl rfl) ?_
    refine h_opS (s_store rfl rfl rfl) ?_
    refine h_nil ?_
    refine q_then ?_
    refine h_ret ?_
    refine q_thenR ?_
    exact h_ret3 rfl (rv_cell rfl) (rv_cell rfl) (rv_cell rfl) fun w s => ⟨⟨(z1, (none, 0), (none, 0), k2), hz1, (fun x y h => by cases h), by dsimp only at hk2 ⊢; omega⟩, rfl, (same (L' := [.zone true z1, CN gc k2]) w s).res (List.Sublist.refl _) (by simp [Fa.wr])⟩
  · obtain ⟨hcl, t, hp, hsh⟩ := accM_ok ha
    rw [if_pos rfl, hp] at ho
    have hok := keysC_mem32 hcl hz
    have hk3 := fun i (hi : i < l.length) => show_kind hp hsh hi
    refine spec_of Tryz.func38 rfl (n := 36) rfl rfl ?_
    intro W
    refine h_seq ?_
    refine h_reg ?_
    refine h_opX (x_box1 rfl) fun g4 => ?_
    refine h_opX (x_box1 rfl) fun g5 => ?_
    refine h_opX (x_box1 rfl) fun g7 => ?_
    refine h_opX (x_alloc) fun g8 => ?_
    refine h_opX (x_alloc) fun g9 => ?_
    refine h_opX (x_alloc) fun g10 => ?_
    refine h_nil ?_
    refine q_then ?_
    refine h_seq ?_
    refine h_seq ?_
    refine ha_start [.blk g4 [.pointer (some ⟨gh, 0, none⟩)] 36, .blk g5 [.pointer p] 26, .blk g7 [.slice I its0.length ic] 68] [] mixed (same) ?_
    refine ha_take 0 rfl (r_loadc rfl) ?_
    refine ha_take 1 rfl (r_loadc rfl) ?_
    refine ha_take 2 rfl (r_loadc rfl) ?_
    refine ha_takeP 4 rfl (r_move rfl) ?_
    refine ha_take 5 rfl (r_loadc rfl) ?_
    refine ha_one 3 ?_
    refine ho_C 3 rfl (hDg.comes) rfl rfl rfl (fun xx => same) fun _ => ?_
    refine ha_one 6 ?_
    refine ho_C 6 rfl (hA.comes) rfl rfl rfl (fun xx => same) fun ⟨⟨z1, k2⟩, hz1, hk2⟩ => ?_
    refine ha_takeP 7 rfl (r_not rfl) ?_
    refine ha_done (by kernel_rfl) ?_
    refine q_then ?_
    dsimp only at hz1 hk2 ⊢
    have hr1 : RdZ z1 A (cbs l) := hr.mono hz1
    have hcz := hz.mono hz1
    have ht1 : TrZ n z1 (mkT m 0) p := ⟨ht.ok.mono hz1⟩
    have hT1 : RdZ z1 (some ⟨1, 0, none⟩) hashT := hT.mono hz1
    have hI1 : RdZ z1 I (its its0) := hI.mono hz1
    refine h_condF rfl ?_
    refine h_skip ?_
    refine q_then ?_
    refine h_seq ?_
    refine h_reg ?_
    refine h_op (r_func rfl rfl) ?_
    refine h_op (r_assign rfl) ?_
    refine h_nil ?_
    refine q_then ?_
    refine h_seq ?_
    refine h_seq ?_
    refine h_reg ?_
    refine h_op (r_move rfl) ?_
    refine h_op (r_len rfl) ?_
    refine h_op (r_move rfl) ?_
    refine h_nil ?_
    refine q_then ?_
    refine h_block ?_
    refine h_loop (fun (i : Nat) => i ≤ l.length ∧ ∀ j, j < i → trueC m (l.getD j zCB).c (l.getD j zCB).kb (l.getD j zCB).vb = true) (fun (i : Nat) => [(25, .int .i64 (i : Int)), (24, .int .i64 (l.length : Int)), (23, .slice A l.length c), (11, .func (.func 90) #[] #[.pointer (some ⟨g5, 0, none⟩), .pointer (some ⟨g4, 0, none⟩), .pointer (some ⟨g7, 0, none⟩), .pointer (some ⟨g8, 0, none⟩), .pointer (some ⟨g9, 0, none⟩), .pointer (some ⟨g10, 0, none⟩)]), (8, .pointer (some ⟨g8, 0, none⟩)), (9, .pointer (some ⟨g9, 0, none⟩)), (10, .pointer (some ⟨g10, 0, none⟩))]) (fun (i : Nat) => [.zone true z1, CN gc k2, .blk g8 [.slice none 0 0] 23, .blk g9 [.slice none 0 0] 23, .blk g10 [.bool false] 4, .blk g4 [.pointer (some ⟨gh, 0, none⟩)] 36, .blk g5 [.pointer p] 26, .blk g7 [.slice I its0.length ic] 68, HR gh gc n]) (fun (i : Nat) => l.length - i) 0 (⟨Nat.zero_le _, fun j hj => absurd hj (Nat.not_lt_zero _)⟩) ⟨rfl, rfl, rfl, rfl, rfl, rfl, rfl, trivial⟩ (same) ?_
    rintro i ⟨hi, hti⟩
    refine h_seq ?_
    refine h_reg ?_
    refine h_op (r_lss rfl rfl) ?_
    refine h_nil ?_
    refine q_then ?_
    refine h_seq ?_
    refine h_cond rfl (fun hlt => ?_) (fun hlt => ?_)
    · have hi2 : i < l.length := by omega
      have hx := getD_get zCB hi2
      have hxl := hok i hi2
      have hx3 := hk3 i hi2
      obtain ⟨hKx, hVx⟩ := hcz.get hi2
      have hvx := hcv _ (List.mem_of_getElem? hx)
      obtain ⟨b, o', rfl, -⟩ := hr.at_ (i * 3) _ (cbs_at hx 0 _ rfl)
      by_cases htx : trueC m (l.getD i zCB).c (l.getD i zCB).kb (l.getD i zCB).vb = true
      · have hS := search_no n z1 m p hal hvl (l.getD i zCB).c (l.getD i zCB).kb (l.getD i zCB).vb htx g4 g5 g7 g8 g9 g10
        refine h_skip ?_
        refine q_then ?_
        refine h_seq ?_
        refine h_block ?_
        refine h_seq ?_
        refine h_reg ?_
        refine h_op (r_idx rfl rfl) ?_
        refine h_op (r_nthr rfl (out := (l.getD i zCB).c.cells) (Claim.cells_length _) (cbs_at hx)) ?_
        refine h_opX (x_alloc) fun g13 => ?_
        refine h_opS (s_storer rfl rfl) ?_
        refine h_nil ?_
        refine q_then ?_
        refine h_seq ?_
        refine h_reg ?_
        refine h_op (r_move rfl) ?_
        refine h_op (r_loadr rfl) ?_
        refine h_call (hS.comes) rfl rfl rfl fun _ => ?_
        refine h_nil ?_
        refine q_then ?_
        refine h_condF rfl ?_
        refine h_skip ?_
        refine q_block ?_
        refine q_then ?_
        refine h_reg ?_
        refine h_op (r_add rfl rfl) ?_
        refine h_op (r_move rfl) ?_
        refine h_nil ?_
        exact h_back (i + 1) (⟨hi2, fun j hj => (Nat.lt_or_ge j i).elim (hti j) fun h8 => by (obtain rfl : j = i := by omega); exact htx⟩) ((show l.length - (i + 1) < l.length - i by omega)) ⟨rfl, rfl, rfl, rfl, rfl, rfl, rfl, trivial⟩ (same)
      · have hfd : (l.find? fun x => !trueC m x.c x.kb x.vb) = some (l.getD i zCB) := by
          refine find_first (i := i) hx (by simpa using htx) fun j hj y hy => ?_
          have := hti j hj
          rw [List.getD_eq_getElem?_getD, hy] at this
          simpa using this
        rw [hfd] at ho
        replace ho : some (pairF n m (l.getD i zCB) (t.pres n (keyOf (l.getD i zCB).kb) 0)) = o := ho
        obtain ⟨⟨x, y⟩, hxy⟩ : ∃ xy, pairF n m (l.getD i zCB) (t.pres n (keyOf (l.getD i zCB).kb) 0) = xy := ⟨_, rfl⟩
        rw [hxy] at ho
        obtain rfl : some (x, y) = o := ho
        unfold pairF at hxy
        have hS := search_yes n hn z1 gh gc k2 (by omega) m hal p hvl its0 I ic hic hil t hp (l.getD i zCB).c (l.getD i zCB).kb (l.getD i zCB).vb hxl hvx (by simpa using htx) hx3 g4 g5 g7 g8 g9 g10 (depK (keyOf (l.getD i zCB).kb) m) (wayM_dep hal _) x y hxy
        refine h_skip ?_
        refine q_then ?_
        refine h_seq ?_
        refine h_block ?_
        refine h_seq ?_
        refine h_reg ?_
        refine h_op (r_idx rfl rfl) ?_
        refine h_op (r_nthr rfl (out := (l.getD i zCB).c.cells) (Claim.cells_length _) (cbs_at hx)) ?_
        refine h_opX (x_alloc) fun g13 => ?_
        refine h_opS (s_storer rfl rfl) ?_
        refine h_nil ?_
        refine q_then ?_
        refine h_seq ?_
        refine h_reg ?_
        refine h_op (r_move rfl) ?_
        refine h_op (r_loadr rfl) ?_
        refine h_call (hS.comes) rfl rfl rfl fun ⟨⟨z2, X, Y, k3⟩, hz2, hX, hY, hk3'⟩ => ?_
        dsimp only at hz2 hX hY hk3' ⊢
        refine h_nil ?_
        refine q_then ?_
        refine h_condT rfl ?_
        refine h_exit ?_
        refine q_blockN (by decide) ?_
        refine q_thenE ?_
        refine q_thenE ?_
        refine q_blockE ?_
        refine q_then ?_
        refine h_seq ?_
        refine ha_start [.blk g8 [.slice X.1 x.length X.2] 23, .blk g9 [.slice Y.1 y.length Y.2] 23, .blk g10 [.bool true] 4] [] mixed (same) ?_
        refine ha_take 0 rfl (r_loadc rfl) ?_
        refine ha_take 1 rfl (r_loadc rfl) ?_
        refine ha_take 2 rfl (r_loadc rfl) ?_
        refine ha_one 3 ?_
        refine ho_S 3 rfl (s_store rfl rfl rfl) (same) ?_
        refine ha_one 4 ?_
        refine ho_S 4 rfl (s_store rfl rfl rfl) (same) ?_
        refine ha_one 5 ?_
        refine ho_SL 5 rfl (s_store rfl rfl rfl) ?_
        refine q_then ?_
        refine h_ret ?_
        exact h_ret3 rfl (rv_cell rfl) (rv_cell rfl) (rv_cell rfl) fun w s => ⟨⟨(z2, X, Y, k3), hz1.trans hz2, (fun x' y' e => by injection e with e; injection e with e1 e2; subst e1 e2; exact ⟨hX, hY⟩), by dsimp only; omega⟩, rfl, (same (L' := [.zone true z2, CN gc k3]) w s).res (List.Sublist.refl _) (by simp [Fa.wr])⟩
    · obtain rfl : i = l.length := by omega
      have hfd : (l.find? fun x => !trueC m x.c x.kb x.vb) = none := by
        rw [List.find?_eq_none]
        intro x hx
        obtain ⟨j, hj⟩ := List.mem_iff_getElem?.1 hx
        have := hti j (List.getElem?_eq_some_iff.1 hj).1
        rw [List.getD_eq_getElem?_getD, hj] at this
        simpa using this
      rw [hfd] at ho
      obtain rfl : none = o := ho
      refine h_exit ?_
      refine q_thenE ?_
      refine q_thenE ?_
      refine q_blockE ?_
      refine q_then ?_
      refine h_seq ?_
      refine ha_start [.blk g8 [.slice none 0 0] 23, .blk g9 [.slice none 0 0] 23, .blk g10 [.bool false] 4] [] mixed (same) ?_
      refine ha_take 0 rfl (r_loadc rfl) ?_
      refine ha_take 1 rfl (r_loadc rfl) ?_
      refine ha_take 2 rfl (r_loadc rfl) ?_
      refine ha_one 3 ?_
      refine ho_S 3 rfl (s_store rfl rfl rfl) (same) ?_
      refine ha_one 4 ?_
      refine ho_S 4 rfl (s_store rfl rfl rfl) (same) ?_
      refine ha_one 5 ?_
      refine ho_SL 5 rfl (s_store rfl rfl rfl) ?_
      refine q_then ?_
      refine h_ret ?_
      exact h_ret3 rfl (rv_cell rfl) (rv_cell rfl) (rv_cell rfl) fun w s => ⟨⟨(z1, (none, 0), (none, 0), k2), hz1, (fun x y h => by cases h), by dsimp only; omega⟩, rfl, (same (L' := [.zone true z1, CN gc k2]) w s).res (List.Sublist.refl _) (by simp [Fa.wr])⟩
end
end Go.Proofs.YtjhocljhhpkiiaaGreatDoor
/- E35 -/
namespace Go.Proofs.YtjhocljhhpkiiaaGreatDoor
set_option linter.unusedSimpArgs false
set_option linter.unusedVariables false
open Go.RowKit
theorem sum0 (l : List UInt8) : sumB 0 l = zB32 := bits_zero _ fun i hi => by
  show bitAt (cutB (sha l) 0) i = false
  rw [cutB_bit _ _ _ hi, decide_eq_false (Nat.not_lt_zero i)]
  rfl
theorem dgT0 (t : Tr) : dgT 0 t = zB32 := by cases t <;> exact sum0 _
abbrev L22 (A : Option Addr) (c : Nat) : List En := [⟨⟨zB32, ⟨A, 1, c⟩⟩, [7]⟩]
theorem mkT22 (A : Option Addr) (c : Nat) : mkT (L22 A c) 0 = .leaf zB32 [7] := mkT_one _ (by decide)
theorem alike22 (A : Option Addr) (c : Nat) : Alike (L22 A c) 0 := Alike.start (by simp)
theorem dep22 (A : Option Addr) (c : Nat) (key : B32) : depK key (L22 A c) = 0 := by unfold depK; rw [mkT22]; rfl
theorem way22 (A : Option Addr) (c : Nat) (key : B32) : WayM key (L22 A c) 0 := by
  have := wayM_dep (alike22 A c) key
  rwa [dep22] at this
theorem kb18_key : keyOf kb18 = zB32 := keyOf_val zB32
theorem get22 (A : Option Addr) (c : Nat) : getE' (L22 A c) zB32 = some ⟨⟨zB32, ⟨A, 1, c⟩⟩, [7]⟩ := by
  unfold getE'
  rw [List.find?_cons]
  have : decide ((⟨⟨zB32, ⟨A, 1, c⟩⟩, [7]⟩ : En).key = zB32) = true := decide_eq_true rfl
  rw [this]
theorem pre22 (A : Option Addr) (c : Nat) (key : B32) : wayPre 0 key (mkT (L22 A c) 0) (0 + 1) = [preL zLeaf] := by
  rw [mkT22]
  show [preT 0 (.leaf zB32 [7])] = _
  show [preL ⟨zB32, sumB 0 (preV [7])⟩] = _
  rw [sum0]
  rfl
theorem find22 (a b : List UInt8) : findP [preL zLeaf] [[3]] a b = (preL zLeaf, [3]) := by
  unfold findP
  have h : difI [preL zLeaf] [[3]] = 0 := by
    unfold difI
    rw [if_neg (by intro h; have := congrArg List.length h; rw [preL_len] at this; simp at this)]
  rw [h]
  rfl
theorem true22 (A B : Option Addr) (c c' : Nat) : trueC (L22 A c) ⟨⟨B, 32, c'⟩, ⟨none, 0, 0⟩, false⟩ kb18 [] = false := by
  unfold trueC
  rw [kb18_key, get22]
  exact Bool.and_false _
theorem true22b (A B C : Option Addr) (c c' c2 : Nat) : trueC (L22 A c) ⟨⟨B, 32, c'⟩, ⟨C, 1, c2⟩, true⟩ kb18 [7] = true := by
  unfold trueC
  rw [kb18_key, get22]
  have h : claimE ⟨⟨B, 32, c'⟩, ⟨C, 1, c2⟩, true⟩ = 0 := by
    unfold claimE
    rw [if_pos rfl, if_neg (fun h => absurd h.2 (by show ¬ 65535 < 1; decide))]
  rw [decide_eq_true h]
  rfl
theorem single22 (A B : Option Addr) (c c' : Nat) : singleR 0 (L22 A c) 0 ⟨⟨B, 32, c'⟩, ⟨none, 0, 0⟩, false⟩ kb18 [] zProof [] = some (preL zLeaf, [3]) := by
  unfold singleR
  have ha : accV 0 (dgT 0 (mkT (L22 A c) 0)) ⟨⟨B, 32, c'⟩, ⟨none, 0, 0⟩, false⟩ kb18 [] zProof [] = true := by
    unfold accV
    rw [dgT0, show rootP 0 (dpOf zProof []) (keyOf kb18) = zB32 from sum0 _, decide_eq_true (show claimE ⟨⟨B, 32, c'⟩, ⟨none, 0, 0⟩, false⟩ = 0 by unfold claimE; rw [if_pos rfl, if_neg (by simp)]), decide_eq_true (show checkP zProof = 0 from check18), decide_eq_true rfl]
    rfl
  rw [ha, true22, kb18_key, pre22]
  rw [show prePl 0 zB32 zProof [] = [[3]] from rfl, find22]
  rfl
theorem show21g (n : Nat) (B : Option Addr) (c : Nat) : showR n (dgS n (.one zItem)) [cb21 B c] (.one zItem) = none := by
  unfold showR
  rw [ends21 _ (keysC_len _)]
  dsimp only
  rw [if_pos rfl, List.length_map, keysC_len]
  have h0 : firstF (showE n ((keysC [cb21 B c]).map fun _ => (zItem, 0)) [cb21 B c]) 1 0 = none := firstF_none _ _ _ fun j _ hj => by
    obtain rfl : j = 0 := by omega
    rfl
  show (match firstF (showE n ((keysC [cb21 B c]).map fun _ => (zItem, 0)) [cb21 B c]) 1 0 with | some r => some r | none => if dgS n (.one zItem) = dgS n (.one zItem) then none else some (0, 13)) = none
  rw [h0]
  dsimp only
  rw [if_pos rfl]
theorem batch22 (A B : Option Addr) (c c' : Nat) : batchR 0 (L22 A c) [cb21 B c'] [zItem] = some (preL zLeaf, [3]) := by
  unfold batchR
  have hd : dgS 0 (.one zItem) = zB32 := by
    show (if zItem.kind = 3 then zItem.digest else sumB 0 (preI zItem)) = zB32
    rw [if_neg (by decide), sum0]
  have ha : accM 0 (dgT 0 (mkT (L22 A c) 0)) [cb21 B c'] [zItem] = true := by
    unfold accM
    rw [claims21, parse21, dgT0, ← hd]
    dsimp only
    rw [show21g]
    rfl
  have hf : [cb21 B c'].find? (fun x => !trueC (L22 A c) x.c x.kb x.vb) = some (cb21 B c') := by
    rw [List.find?_cons]
    have : (!trueC (L22 A c) (cb21 B c').c (cb21 B c').kb (cb21 B c').vb) = true := by
      show (!trueC (L22 A c) ⟨⟨B, 32, c'⟩, ⟨none, 0, 0⟩, false⟩ kb18 []) = true
      rw [true22]; rfl
    rw [this]
  rw [ha, if_pos rfl, parse21, hf]
  show some (pairF 0 (L22 A c) (cb21 B c') ((Sub.one zItem).pres 0 (keyOf kb18) 0)) = _
  unfold pairF
  show some (findP (wayPre 0 (keyOf kb18) (mkT (L22 A c) 0) (depK (keyOf kb18) (L22 A c) + 1)) [preI zItem] _ _) = _
  rw [dep22, pre22, show preI zItem = [3] from rfl, find22]
theorem col22 : (!decide (preL zLeaf = [3]) && decide (sumB 0 (preL zLeaf) = sumB 0 [3])) = true := by
  rw [sum0, sum0, decide_eq_true rfl, decide_eq_false (by intro h; have := congrArg List.length h; rw [preL_len] at this; simp at this)]
  rfl
end Go.Proofs.YtjhocljhhpkiiaaGreatDoor
/- U121 -/
namespace Go.Proofs.YtjhocljhhpkiiaaGreatDoor
set_option linter.unusedSimpArgs false
set_option linter.unusedVariables false
open Go.RowKit
end Go.Proofs.YtjhocljhhpkiiaaGreatDoor
/- U127 -/
namespace Go.Proofs.YtjhocljhhpkiiaaGreatDoor
set_option linter.unusedSimpArgs false
set_option linter.unusedVariables false
open Go.RowKit
end Go.Proofs.YtjhocljhhpkiiaaGreatDoor
