/- multiproofs: the reference's Fits; The reference: the last steps of mverify; extract.Batch; The example of chapter 22: plain; The reference: decoding of multiproofs, all bytes; The reference's check of many claims; law21.few; The reference of extract: True, Way, Find; law22.collide, few (joined texts: U77 U126 U145 E35 U121 U127 U146) -/
import Derived.Test.YtjhocljhhpkiiaaGreatDoorF14
set_option linter.all false
/- U77 -/
namespace Go.Proofs.YtjhocljhhpkiiaaGreatDoor
open Go.RowKit
def bl (l : List Bool) : List Value := l.map Value.bool
theorem bl_len (l : List Bool) : (bl l).length = l.length := by simp [bl]
theorem bl_set (l : List Bool) (i : Nat) (b : Bool) : (bl l).set i (.bool b) = bl (l.set i b) := by unfold bl; rw [List.map_set]
theorem bl_at {l : List Bool} {i : Nat} {b : Bool} (h : l[i]? = some b) : (bl l)[i]? = some (.bool b) := by unfold bl; rw [List.getElem?_map, h]; rfl
def seenW (N : Nat) (t : Sub) (ks : List B32) (w : List Nat) : List Bool := (List.range N).map fun p => decide ((∃ k ∈ ks, p ∈ t.way k 0 0) ∨ p ∈ w)
theorem seenW_len (N : Nat) (t : Sub) (ks : List B32) (w : List Nat) : (seenW N t ks w).length = N := by simp [seenW]
theorem seenW_get {N : Nat} {t : Sub} {ks : List B32} {w : List Nat} {p : Nat} (h : p < N) : (seenW N t ks w)[p]? = some (decide ((∃ k ∈ ks, p ∈ t.way k 0 0) ∨ p ∈ w)) := by
 unfold seenW
 rw [List.getElem?_map, List.getElem?_range h]
 rfl
theorem seenW_set {N : Nat} {t : Sub} {ks : List B32} {w : List Nat} {p : Nat} (hp : p < N) : (seenW N t ks w).set p true = seenW N t ks (w ++ [p]) := by
 apply List.ext_getElem?
 intro i
 rcases Nat.lt_or_ge i N with h | h
 ·rw [seenW_get h, List.getElem?_set, seenW_len]
  by_cases e : p = i
  ·subst e
   rw [if_pos rfl, if_pos hp]
   simp
  ·rw [if_neg e, seenW_get h]
   have e' : ¬ i = p := fun h => e h.symm
   simp [e']
 ·rw [List.getElem?_eq_none (by rw [List.length_set, seenW_len]; exact h), List.getElem?_eq_none (by rw [seenW_len]; exact h)]
theorem seenW_next (N : Nat) (t : Sub) {ks : List B32} {k : Nat} {x : B32} (h : ks[k]? = some x) : seenW N t (ks.take k) (t.way x 0 0) = seenW N t (ks.take (k + 1)) [] := by
 unfold seenW
 refine List.map_congr_left fun p _ => decide_eq_decide.2 ?_
 rw [List.take_add_one, h, Option.toList_some]
 constructor
 ·rintro (⟨k', h1, h2⟩ | h1)
  ·exact .inl ⟨k', List.mem_append_left _ h1, h2⟩
  ·exact .inl ⟨x, List.mem_append_right _ (List.mem_singleton.2 rfl), h1⟩
 ·rintro (⟨k', h1, h2⟩ | h1)
  ·rcases List.mem_append.1 h1 with h1 | h1
   ·exact .inl ⟨k', h1, h2⟩
   ·obtain rfl := List.mem_singleton.1 h1
    exact .inr h2
  ·cases h1
theorem take_get {l : List Nat} {j w : Nat} (h : l[j]? = some w) : l.take (j + 1) = l.take j ++ [w] := by rw [List.take_add_one, h]; rfl
theorem made_bl (N : Nat) (t : Sub) : (madeCells (Value.bool false).cells (N * 1)).toList = bl (seenW N t [] []) := by
 unfold bl seenW
 apply List.ext_getElem?
 intro i
 rw [Nat.mul_one]
 rcases Nat.lt_or_ge i N with h | h
 ·rw [List.getElem?_map, List.getElem?_map, List.getElem?_range h]
  simp [madeCells, h, Value.cells, Nat.mod_one]
 ·rw [List.getElem?_eq_none (by simpa [madeCells] using h), List.getElem?_eq_none (by simpa using h)]
theorem Fits_s (l : List Item) (A : Option Addr) (c : Nat) (hl : l.length ≤ 1000000) (t : Sub) (hp : parseM l = .ok t) (ks : List B32) (K : Option Addr) (kc : Nat) (hks : ks.length ≤ 1000000) (b : Bool) (hb : (endsM t ks 0).2 = b) : Spec Tryz.prog 94 [.slice A l.length c, .slice K ks.length kc].toArray [.rd A (its l), .rd K (dgs ks)] [] (fun _ : Unit => .bool b) (fun _ => []) := by
 have hst := At.start hp
 have hfl := (parse_flat hp).1
 have hfi := fits_iff t ks 0 0 hst.ok
 rw [hb] at hfi
 unfold fitsR at hfi
 rw [← hfl] at hfi
 refine spec_of Tryz.func94 rfl (n := 67) rfl rfl ?_
 intro W
 refine h_pure (φ := ∃ b o, A = some ⟨b, o, none⟩) (fun w s => Rd.some (s.ok (.rd A (its l)) (by simp)) (by rw [its_len]; have := hst.lt; omega)) ?_
 rintro ⟨bA, oA, rfl⟩
 refine yR ?_
 refine yS rfl ?_
 refine yN ?_
 refine yR ?_
 refine yM rfl ?_
 refine h_op (r_len rfl) ?_
 refine h_opX (x_make rfl rfl) fun g12 => ?_
 refine yS rfl ?_
 refine yN ?_
 refine h_seq ?_
 refine yR ?_
 refine yS rfl ?_
 refine yN ?_
 refine h_block ?_
 rw [made_bl l.length t]
 change H _ _ _ _ _ (.own _ _ _ _ (bl (seenW l.length t (ks.take 0) [])) :: _) _
 refine h_loop (fun (k : Nat) => k ≤ ks.length ∧ ∀ x ∈ ks.take k, (t.endI x 0).1.kind ≠ 3) (fun (k : Nat) => [(0, .slice (some ⟨bA, oA, none⟩) l.length c), (1, .slice K ks.length kc), (5, .slice (some ⟨g12, 0, none⟩) l.length l.length), (6, .int .i64 (k : Int))]) (fun (k : Nat) => [.own (.slice (some ⟨g12, 0, none⟩) l.length l.length) l.length 4 1 (bl (seenW l.length t (ks.take k) [])), .rd (some ⟨bA, oA, none⟩) (its l), .rd K (dgs ks)]) (fun (k : Nat) => ks.length - k) 0 (⟨Nat.zero_le _, by simp⟩) ⟨rfl, rfl, rfl, rfl, trivial⟩ (same) ?_
 rintro k ⟨hk, hall⟩
 refine h_seq ?_
 refine yR ?_
 refine yM rfl ?_
 refine yM rfl ?_
 refine h_op (r_len rfl) ?_
 refine h_op (r_lss rfl rfl) ?_
 refine yN ?_
 refine h_cond rfl (fun hlt => ?_) (fun hlt => ?_)
 ·have hk2 : k < ks.length := by omega
  have hd := dgs_at (l := ks) (k := k) hk2
  have hx : ks[k]? = some (ks.getD k zB32) := by rw [List.getD_eq_getElem?_getD, List.getElem?_eq_getElem hk2]; rfl
  generalize ks.getD k zB32 = key at *
  obtain ⟨wl, w1, w2, w3⟩ := way_last key hst
  have hwp := way_pos key t 0 0
  have hwd := way_depth key t 0 0
  have hht := hst.ht
  have hki := its_kind w2
  have hg : (t.way key 0 0).getD ((t.way key 0 0).length - 1) 0 = wl := by rw [List.getD_eq_getElem?_getD, w1]; rfl
  refine h_pure (φ := ∃ b o, K = some ⟨b, o, none⟩) (fun w s => Rd.some (s.ok (.rd K (dgs ks)) (by simp)) (by rw [dgs_len]; omega)) ?_
  rintro ⟨bK, oK, rfl⟩
  refine h_skip ?_
  refine q_then ?_
  refine h_seq ?_
  refine h_block ?_
  refine yR ?_
  refine yM rfl ?_
  refine yM rfl ?_
  refine yM rfl ?_
  refine h_op (r_idx rfl rfl) ?_
  refine h_op (r_nthr rfl (out := key.cells) (B32.cells_length _) hd) ?_
  refine h_call ((Way_s l (some ⟨bA, oA, none⟩) c hl t hp key).comes) rfl rfl rfl fun ⟨g24, c24⟩ => ?_
  refine yS rfl ?_
  refine yN ?_
  refine h_seq ?_
  refine yR ?_
  refine yM rfl ?_
  refine yM rfl ?_
  refine yM rfl ?_
  refine h_op (r_len rfl) ?_
  refine h_op (r_subN rfl rfl (m := (t.way key 0 0).length - 1) (hm := by omega)) ?_
  refine h_op (r_idx rfl rfl) ?_
  refine h_op (r_int (r_nth rfl (ic_at (by omega))) (show _ = ((wl : Nat) : Int) by rw [hg])) ?_
  refine h_op (r_idx rfl rfl) ?_
  refine h_op (r_field rfl) ?_
  refine h_op (r_nth rfl hki) ?_
  refine h_op (r_eql rfl rfl) ?_
  refine yN ?_
  refine h_cond rfl (fun h3 => ?_) (fun h3 => ?_)
  ·have hbf : b = false := by
    cases hbb : b
    ·rfl
    ·exact ((hfi.1 hbb).1 key (List.mem_of_getElem? hx) h3).elim
   rw [hbf]
   refine yR ?_
   refine yS rfl ?_
   refine yN ?_
   refine h_ret ?_
   refine q_thenR ?_
   refine q_blockR ?_
   refine q_thenR ?_
   refine q_thenR ?_
   refine q_blockR ?_
   refine q_thenR ?_
   exact h_ret1 rfl rfl fun w s => ⟨(), rfl, s.res (List.nil_sublist _) (by simp)⟩
  ·refine h_skip ?_
   refine q_then ?_
   refine yR ?_
   refine yS rfl ?_
   refine yN ?_
   refine h_block ?_
   change H _ _ _ _ _ (_ :: .own _ _ _ _ (bl (seenW l.length t (ks.take k) ((t.way key 0 0).take 0))) :: _) _
   refine h_loop (fun (j : Nat) => j ≤ (t.way key 0 0).length) (fun (j : Nat) => [(0, .slice (some ⟨bA, oA, none⟩) l.length c), (1, .slice (some ⟨bK, oK, none⟩) ks.length kc), (5, .slice (some ⟨g12, 0, none⟩) l.length l.length), (6, .int .i64 (k : Int)), (7, .slice (some ⟨g24, 0, none⟩) (t.way key 0 0).length c24), (8, .int .i64 (j : Int))]) (fun (j : Nat) => [.own (.slice (some ⟨g12, 0, none⟩) l.length l.length) l.length 4 1 (bl (seenW l.length t (ks.take k) ((t.way key 0 0).take j))), .own (.slice (some ⟨g24, 0, none⟩) (t.way key 0 0).length c24) (t.way key 0 0).length 3 1 (ic (t.way key 0 0)), .rd (some ⟨bA, oA, none⟩) (its l), .rd (some ⟨bK, oK, none⟩) (dgs ks)]) (fun (j : Nat) => (t.way key 0 0).length - j) 0 ((show 0 ≤ _ from Nat.zero_le _)) ⟨rfl, rfl, rfl, rfl, rfl, rfl, trivial⟩ (same) ?_
   rintro j hj
   refine h_seq ?_
   refine yR ?_
   refine yM rfl ?_
   refine yM rfl ?_
   refine h_op (r_len rfl) ?_
   refine h_op (r_lss rfl rfl) ?_
   refine yN ?_
   refine h_cond rfl (fun hlj => ?_) (fun hlj => ?_)
   ·obtain ⟨p, hpj⟩ : ∃ p, (t.way key 0 0)[j]? = some p := ⟨_, List.getElem?_eq_getElem (by omega)⟩
    have hpl : p < l.length := by
     have := way_rng (List.mem_of_getElem? hpj)
     rw [hfl, Sub.flat_len]; omega
    have hgp : (t.way key 0 0).getD j 0 = p := by rw [List.getD_eq_getElem?_getD, hpj]; rfl
    have hset := (bl_set (seenW l.length t (ks.take k) ((t.way key 0 0).take j)) p true).trans (by rw [seenW_set hpl, ← take_get hpj])
    refine h_skip ?_
    refine q_then ?_
    refine h_seq ?_
    refine h_block ?_
    refine h_reg ?_
    refine yM rfl ?_
    refine yM rfl ?_
    refine yM rfl ?_
    refine h_op (r_idx rfl rfl) ?_
    refine h_op (r_int (r_nth rfl (ic_at (by omega))) (show _ = ((p : Nat) : Int) by rw [hgp])) ?_
    refine h_op (r_idx rfl rfl (hm := hpl)) ?_
    refine h_opS (s_setO rfl rfl rfl (by rw [bl_len, seenW_len]; omega) hset) ?_
    refine h_nil ?_
    refine q_block ?_
    refine q_then ?_
    refine h_reg ?_
    refine yM rfl ?_
    refine h_op (r_add rfl rfl) ?_
    refine yS rfl ?_
    refine h_nil ?_
    exact h_back (j + 1) ((show j + 1 ≤ _ by omega)) ((show (t.way key 0 0).length - (j + 1) < (t.way key 0 0).length - j by omega)) ⟨rfl, rfl, rfl, rfl, rfl, rfl, trivial⟩ (same)
   ·obtain rfl : j = (t.way key 0 0).length := by omega
    rw [List.take_length, seenW_next l.length t hx]
    refine h_exit ?_
    refine q_thenE ?_
    refine q_thenE ?_
    refine q_blockE ?_
    refine q_block ?_
    refine q_then ?_
    refine h_reg ?_
    refine yM rfl ?_
    refine h_op (r_add rfl rfl) ?_
    refine yS rfl ?_
    refine h_nil ?_
    exact h_back (k + 1) (⟨by omega, fun x hxm => by rw [List.take_add_one, hx, Option.toList_some] at hxm; exact (List.mem_append.1 hxm).elim (hall x) (fun h1 => by rw [List.mem_singleton.1 h1]; exact h3)⟩) ((show ks.length - (k + 1) < ks.length - k by omega)) ⟨rfl, rfl, rfl, rfl, trivial⟩ (same)
 ·obtain rfl : k = ks.length := by omega
  rw [List.take_length] at hall ⊢
  refine h_exit ?_
  refine q_thenE ?_
  refine q_thenE ?_
  refine q_blockE ?_
  refine q_then ?_
  refine h_seq ?_
  refine yR ?_
  refine yS rfl ?_
  refine yN ?_
  refine h_block ?_
  refine h_loop (fun (i : Nat) => i ≤ l.length ∧ ∀ j x, j < i → l[j]? = some x → x.kind = 2 → ∃ k ∈ ks, j ∈ t.way k 0 0) (fun (i : Nat) => [(0, .slice (some ⟨bA, oA, none⟩) l.length c), (5, .slice (some ⟨g12, 0, none⟩) l.length l.length), (9, .int .i64 (i : Int))]) (fun (i : Nat) => [.own (.slice (some ⟨g12, 0, none⟩) l.length l.length) l.length 4 1 (bl (seenW l.length t ks [])), .rd (some ⟨bA, oA, none⟩) (its l)]) (fun (i : Nat) => l.length - i) 0 (⟨Nat.zero_le _, fun j x h => absurd h (by omega)⟩) ⟨rfl, rfl, rfl, trivial⟩ (same) ?_
  rintro i ⟨hi, hin⟩
  refine h_seq ?_
  refine yR ?_
  refine yM rfl ?_
  refine yM rfl ?_
  refine h_op (r_len rfl) ?_
  refine h_op (r_lss rfl rfl) ?_
  refine yN ?_
  refine h_cond rfl (fun hli => ?_) (fun hli => ?_)
  ·obtain ⟨x, hx⟩ : ∃ x, l[i]? = some x := ⟨_, List.getElem?_eq_getElem (by omega)⟩
   have hki := its_kind hx
   have hsg := bl_at (seenW_get (N := l.length) (t := t) (ks := ks) (w := []) (p := i) (by omega))
   by_cases h2 : x.kind = 2
   ·by_cases h3 : (∃ k ∈ ks, i ∈ t.way k 0 0) ∨ i ∈ ([] : List Nat)
    ·rw [decide_eq_true h3] at hsg
     refine h_skip ?_
     refine q_then ?_
     refine h_seq ?_
     refine h_block ?_
     refine yR ?_
     refine yM rfl ?_
     refine yM rfl ?_
     refine h_op (r_idx rfl rfl) ?_
     refine h_op (r_field rfl) ?_
     refine h_op (r_nth rfl hki) ?_
     refine h_op (r_bool (r_eql rfl rfl) (decide_eq_true h2)) ?_
     refine yM rfl ?_
     refine yM rfl ?_
     refine yM rfl ?_
     refine h_op (r_idx rfl rfl) ?_
     refine h_op (r_nth rfl hsg) ?_
     refine h_op (r_not rfl) ?_
     refine h_op (r_pick rfl rfl) ?_
     refine yN ?_
     refine h_condF rfl ?_
     refine h_skip ?_
     refine q_block ?_
     refine q_then ?_
     refine h_reg ?_
     refine yM rfl ?_
     refine h_op (r_add rfl rfl) ?_
     refine yS rfl ?_
     refine h_nil ?_
     exact h_back (i + 1) (⟨by omega, fun j y h4 h5 h6 => (Nat.lt_or_ge j i).elim (fun h7 => hin j y h7 h5 h6) fun h7 => by (obtain rfl : j = i := (by omega)); exact h3.elim id (fun h => (List.not_mem_nil h).elim)⟩) ((show l.length - (i + 1) < l.length - i by omega)) ⟨rfl, rfl, rfl, trivial⟩ (same)
    ·rw [decide_eq_false h3] at hsg
     have hbf : b = false := by
      cases hbb : b
      ·rfl
      ·obtain ⟨k, h4, h5⟩ := (hfi.1 hbb).2 i x hx h2
       rw [Nat.zero_add] at h5
       exact (h3 (.inl ⟨k, h4, h5⟩)).elim
     rw [hbf]
     refine h_skip ?_
     refine q_then ?_
     refine h_seq ?_
     refine h_block ?_
     refine yR ?_
     refine yM rfl ?_
     refine yM rfl ?_
     refine h_op (r_idx rfl rfl) ?_
     refine h_op (r_field rfl) ?_
     refine h_op (r_nth rfl hki) ?_
     refine h_op (r_bool (r_eql rfl rfl) (decide_eq_true h2)) ?_
     refine yM rfl ?_
     refine yM rfl ?_
     refine yM rfl ?_
     refine h_op (r_idx rfl rfl) ?_
     refine h_op (r_nth rfl hsg) ?_
     refine h_op (r_not rfl) ?_
     refine h_op (r_pick rfl rfl) ?_
     refine yN ?_
     refine h_condT rfl ?_
     refine yR ?_
     refine yS rfl ?_
     refine yN ?_
     refine h_ret ?_
     refine q_blockR ?_
     refine q_thenR ?_
     refine q_thenR ?_
     refine q_blockR ?_
     refine q_thenR ?_
     exact h_ret1 rfl rfl fun w s => ⟨(), rfl, s.res (List.nil_sublist _) (by simp)⟩
   ·refine h_skip ?_
    refine q_then ?_
    refine h_seq ?_
    refine h_block ?_
    refine yR ?_
    refine yM rfl ?_
    refine yM rfl ?_
    refine h_op (r_idx rfl rfl) ?_
    refine h_op (r_field rfl) ?_
    refine h_op (r_nth rfl hki) ?_
    refine h_op (r_bool (r_eql rfl rfl) (decide_eq_false h2)) ?_
    refine yM rfl ?_
    refine h_opOff ?_
    refine h_opOff ?_
    refine h_opOff ?_
    refine h_opOff ?_
    refine h_opOff ?_
    refine h_op (r_pick rfl rfl) ?_
    refine yN ?_
    refine h_condF rfl ?_
    refine h_skip ?_
    refine q_block ?_
    refine q_then ?_
    refine h_reg ?_
    refine yM rfl ?_
    refine h_op (r_add rfl rfl) ?_
    refine yS rfl ?_
    refine h_nil ?_
    exact h_back (i + 1) (⟨by omega, fun j y h4 h5 h6 => (Nat.lt_or_ge j i).elim (fun h7 => hin j y h7 h5 h6) fun h7 => by (obtain rfl : j = i := (by omega)); exact (h2 (by rw [hx] at h5; injection h5 with h5; rw [h5]; exact h6)).elim⟩) ((show l.length - (i + 1) < l.length - i by omega)) ⟨rfl, rfl, rfl, trivial⟩ (same)
  ·obtain rfl : i = l.length := by omega
   have hbt : b = true := hfi.2 ⟨hall, fun j x h4 h5 => by rw [Nat.zero_add]; exact hin j x (List.getElem?_eq_some_iff.1 h4).1 h4 h5⟩
   rw [hbt]
   refine h_exit ?_
   refine q_thenE ?_
   refine q_thenE ?_
   refine q_blockE ?_
   refine q_then ?_
   refine yR ?_
   refine yS rfl ?_
   refine yN ?_
   refine h_ret ?_
   exact h_ret1 rfl rfl fun w s => ⟨(), rfl, s.res (List.nil_sublist _) (by simp)⟩
end Go.Proofs.YtjhocljhhpkiiaaGreatDoor
/- U126 -/
namespace Go.Proofs.YtjhocljhhpkiiaaGreatDoor
open Go.RowKit
theorem keysC_mem32 {l : List CB} (h : claimsR l = none) {h' : Zh} (hz : ClsZ h' l) : ∀ i, i < l.length → (l.getD i zCB).kb.length = 32 := fun i hi => by
 have h1 := (claimsR_ok h).2 i hi
 have h2 := (hz.get hi).1.len
 unfold claimE at h1
 split at h1
 ·omega
 ·cases h1
section
variable (n : Nat) (hn : n ≤ 256) (h : Zh) (l : List CB) (A : Option Addr) (c : Nat) [hr : RdZ h A (cbs l)] (hz : ClsZ h l) (hvl : ∀ x ∈ l, x.vb.length ≤ 100000000)
include hn hz hvl
theorem rLast21_s (root : B32) (hC : claimsR l = none) (its0 : List Item) (I : Option Addr) (ic' : Nat) [hI : RdZ h I (its its0)] (hil : its0.length ≤ 1000000) (t : Sub) (hp : parseM its0 = .ok t) (r : Option (Nat × Int)) (hR : showR n root l t = r) : Spec Tryz.prog 41 [.int .i64 (n : Int), .agg root.cells.toArray, .slice A l.length c, .slice I its0.length ic'].toArray [.zone false h] [] (fun _ : Unit => .tuple #[.int .i64 (scOf r).1, .int .i64 (scOf r).2]) (fun _ => []) := by
 have hok := keysC_mem32 hC hz
 have hke := keysE_ok (claimsR_ok hC).1
 have hkl := keysC_len l
 have hKs := rKeys21_s h l A c (by omega) hz hok
 obtain ⟨b, hb⟩ : ∃ b, (endsM t (keysC l) 0).2 = b := ⟨_, rfl⟩
 have hF := fun K kc => Fits_s its0 I ic' hil t hp (keysC l) K kc (by omega) b hb
 rw [hkl] at hF
 have hst := At.start hp
 unfold showR at hR
 rw [hb] at hR
 cases b
 ·obtain rfl : some (0, 12) = r := hR
  refine spec_of Tryz.func41 rfl (n := 87) rfl rfl ?_
  intro W
  refine yR ?_
  refine h_opX (x_box rfl) fun g5 => ?_
  refine yS rfl ?_
  refine yS rfl ?_
  refine yN ?_
  refine yR ?_
  refine yM rfl ?_
  refine h_call (hKs.comes) rfl rfl rfl fun ⟨A17, c17⟩ => ?_
  dsimp only
  refine yS rfl ?_
  refine yN ?_
  refine h_seq ?_
  refine yR ?_
  refine yM rfl ?_
  refine yM rfl ?_
  refine h_call ((hF A17 c17).comes) rfl rfl rfl fun _ => ?_
  refine h_op (r_not rfl) ?_
  refine yN ?_
  refine h_condT rfl ?_
  refine yR ?_
  refine yS rfl ?_
  refine yS rfl ?_
  refine yN ?_
  refine h_ret ?_
  refine q_thenR ?_
  exact h_ret2 rfl rfl rfl fun w s => ⟨(), rfl, s.res (List.nil_sublist _) (by simp)⟩
 ·rw [if_pos rfl] at hR
  have hmap := endsM_map t (keysC l) 0 hke.2.2 (fun _ _ _ _ i hi => absurd hi (by omega)) hb
  rw [hmap, List.length_map, hkl] at hR
  have hsh : ∀ i, i < l.length → showE n ((keysC l).map fun k => t.endI k 0) l i = if supP (endPr (t.endI (keyOf (l.getD i zCB).kb) 0)) (keyOf (l.getD i zCB).kb) (valD n (l.getD i zCB).c.present (l.getD i zCB).vb) (l.getD i zCB).c.present then 0 else 12 := fun i hi => by
   unfold showE
   rw [List.getD_eq_getElem?_getD (l := (keysC l).map _), List.getElem?_map, keysC_get hi]
   rfl
  have hpos : l.length ≠ 0 := by have := hke.1; omega
  generalize hes : ((keysC l).map fun k => t.endI k 0) = es at *
  refine spec_of Tryz.func41 rfl (n := 87) rfl rfl ?_
  intro W
  refine yR ?_
  refine h_opX (x_box rfl) fun g5 => ?_
  refine yS rfl ?_
  refine yS rfl ?_
  refine yN ?_
  refine yR ?_
  refine yM rfl ?_
  refine h_call (hKs.comes) rfl rfl rfl fun ⟨A17, c17⟩ => ?_
  dsimp only
  refine yS rfl ?_
  refine yN ?_
  refine h_seq ?_
  refine yR ?_
  refine yM rfl ?_
  refine yM rfl ?_
  refine h_call ((hF A17 c17).comes) rfl rfl rfl fun _ => ?_
  refine h_pure (φ := ∃ g, A17 = some ⟨g, 0, none⟩) (fun w s => s.ownSome (N := l.length) (c := c17) (by omega)) ?_
  rintro ⟨g17, rfl⟩
  obtain ⟨bI, oI, rfl, -⟩ : ∃ b o, I = some ⟨b, o, none⟩ ∧ True := by
   obtain ⟨b, o, e, -⟩ := hI.at_ 0 _ (List.getElem?_eq_getElem (by rw [its_len]; have := hst.lt; omega))
   exact ⟨b, o, e, trivial⟩
  refine h_op (r_not rfl) ?_
  refine yN ?_
  refine h_condF rfl ?_
  refine h_skip ?_
  refine q_then ?_
  refine h_seq ?_
  refine yR ?_
  refine yS rfl ?_
  refine yN ?_
  refine h_block ?_
  refine h_loop (fun (i : Nat) => i ≤ l.length ∧ ∀ j, j < i → showE n es l j = 0) (fun (i : Nat) => [(11, .int .i64 (i : Int)), (10, .slice (some ⟨g17, 0, none⟩) l.length c17), (2, .slice A l.length c), (3, .slice (some ⟨bI, oI, none⟩) its0.length ic'), (0, .int .i64 (n : Int)), (5, .pointer (some ⟨g5, 0, none⟩))]) (fun (i : Nat) => [.own (.slice (some ⟨g17, 0, none⟩) l.length c17) l.length 35 32 (dgs (keysC l)), .blk g5 root.cells 42, .zone false h]) (fun (i : Nat) => l.length - i) 0 (⟨Nat.zero_le _, fun j hj => absurd hj (Nat.not_lt_zero _)⟩) ⟨rfl, rfl, rfl, rfl, rfl, rfl, trivial⟩ (same) ?_
  rintro i ⟨hi, hzi⟩
  refine h_seq ?_
  refine yR ?_
  refine yM rfl ?_
  refine yM rfl ?_
  refine h_op (r_len rfl) ?_
  refine h_op (r_lss rfl rfl) ?_
  refine yN ?_
  refine h_cond rfl (fun hlt => ?_) (fun hlt => ?_)
  ·have hi2 : i < l.length := by omega
   have hx := getD_get zCB hi2
   have hz0 : ∀ j, 0 ≤ j → j < i → showE n es l j = 0 := fun j _ hj => hzi j hj
   have hshi := hsh i hi2
   have hvz := (hz.get hi2).2
   have hvb := hvl _ (List.mem_of_getElem? hx)
   have hd := dgs_at (l := keysC l) (k := i) (by rw [hkl]; exact hi2)
   rw [List.getD_eq_getElem?_getD, keysC_get hi2, Option.getD_some] at hd
   obtain ⟨bA, oA, rfl, -⟩ := hr.at_ (i * 3) _ (cbs_at hx 0 _ rfl)
   generalize l.getD i zCB = y at *
   have hvn := hvz.len
   have hVr : RdZ h y.c.value.A (bc y.vb) := hvz.rd
   have hVn := hvz.nil
   have e1 := cbs_at hx 1 _ rfl
   have e2 := cbs_at hx 2 _ rfl
   obtain ⟨⟨ks, ⟨vA, vn, vc⟩, pr⟩, kb, vb⟩ := y
   dsimp only at hvn hVr hVn hvb hd e1 e2 hshi
   subst hvn
   generalize keyOf kb = key at *
   obtain ⟨wl, w1, w2, w3⟩ := way_last key hst
   have hwp := way_pos key t 0 0
   have hwd := way_depth key t 0 0
   have hht := hst.ht
   have hg : (t.way key 0 0).getD ((t.way key 0 0).length - 1) 0 = wl := by rw [List.getD_eq_getElem?_getD, w1]; rfl
   have hWy := Way_s its0 (some ⟨bI, oI, none⟩) ic' hil t hp key
   obtain ⟨s, hs⟩ : ∃ s, supP (endPr (t.endI key 0)) key (valD n pr vb) pr = s := ⟨_, rfl⟩
   rw [hs] at hshi
   have hSu := rSupports_s (endPr (t.endI key 0)) key (valD n pr vb) pr
   rw [hs] at hSu
   have hLf := rLeafOf_s n hn key vb vA vc (fun e => by have := hVn e; omega) hvb
   refine h_skip ?_
   refine q_then ?_
   refine h_seq ?_
   refine h_block ?_
   refine yR ?_
   refine yM rfl ?_
   refine yM rfl ?_
   refine yM rfl ?_
   refine h_op (r_idx rfl rfl) ?_
   refine h_op (r_nthr rfl (out := key.cells) (B32.cells_length _) hd) ?_
   refine h_call (hWy.comes) rfl rfl rfl fun ⟨g33, c33⟩ => ?_
   dsimp only
   refine yS rfl ?_
   refine yN ?_
   refine yR ?_
   refine yM rfl ?_
   refine yM rfl ?_
   refine yM rfl ?_
   refine h_op (r_len rfl) ?_
   refine h_op (r_subN rfl rfl (m := (t.way key 0 0).length - 1) (hm := by omega)) ?_
   refine h_op (r_idx rfl rfl) ?_
   refine h_op (r_int (r_nth rfl (ic_at (by omega))) (show _ = ((wl : Nat) : Int) by rw [hg])) ?_
   refine h_op (r_idx rfl rfl) ?_
   refine h_op (r_nthr rfl (out := (t.endI key 0).1.cells) (Item.cells_length _) (its_at w2)) ?_
   refine h_opX (x_alloc) fun g13 => ?_
   refine h_opS (s_storer rfl rfl) ?_
   refine yN ?_
   refine yR ?_
   refine h_op (r_field rfl) ?_
   refine h_op (r_loadc rfl) ?_
   refine yM rfl ?_
   refine h_op (r_len rfl) ?_
   refine h_op (r_int (r_sub rfl rfl) (show _ = (((t.endI key 0).2 : Nat) : Int) by omega)) ?_
   refine h_op (r_field rfl) ?_
   refine h_op (r_loadr rfl) ?_
   refine h_op (r_build rfl) ?_
   refine h_opX (x_alloc) fun g14 => ?_
   refine h_opS (s_storer rfl rfl) ?_
   refine yN ?_
   refine yR ?_
   refine h_opX (x_alloc) fun g15 => ?_
   refine yN ?_
   refine h_seq ?_
   refine yR ?_
   change H _ _ _ _ _ (_ :: .blk g14 (endPr (t.endI key 0)).cells _ :: _) _
   cases pr
   ·refine yM rfl ?_
    refine yM rfl ?_
    refine h_op (r_idx rfl rfl) ?_
    refine h_op (r_field rfl (O' := oA + (i * 3 + 2)) (by omega)) ?_
    refine h_op (r_nth rfl e2) ?_
    refine yN ?_
    refine h_condF rfl ?_
    refine h_skip ?_
    refine q_then ?_
    refine h_seq ?_
    change Spec _ _ ([.agg (endPr (t.endI key 0)).cells.toArray, .agg key.cells.toArray, .agg zB32.cells.toArray, .bool false] : List Value).toArray _ _ _ _ at hSu
    refine ha_start [.blk g15 zB32.cells 42, .blk g14 (endPr (t.endI key 0)).cells 54, .own (.slice (some ⟨g17, 0, none⟩) l.length c17) l.length 35 32 (dgs (keysC l)), .zone false h] [] mixed (same) ?_
    refine ha_take 0 rfl (r_loadr rfl) ?_
    refine ha_takeP 1 rfl (r_move rfl) ?_
    refine ha_takeP 2 rfl (r_move rfl) ?_
    refine ha_takeP 3 rfl (r_idx rfl rfl) ?_
    refine ha_take 4 rfl (r_nthr rfl (out := key.cells) (B32.cells_length _) hd) ?_
    refine ha_take 5 rfl (r_loadr rfl) ?_
    refine ha_takeP 6 rfl (r_move rfl) ?_
    refine ha_takeP 7 rfl (r_move rfl) ?_
    refine ha_takeP 8 rfl (r_idx rfl rfl) ?_
    refine ha_takeP 9 rfl (r_field rfl (O' := oA + (i * 3 + 2)) (by omega)) ?_
    refine ha_take 10 rfl (r_nth rfl e2) ?_
    refine ha_one 11 ?_
    refine ho_C 11 rfl (hSu.comes) rfl rfl rfl (fun xx => same) fun _ => ?_
    refine ha_takeP 12 rfl (r_not rfl) ?_
    refine ha_done (by kernel_rfl) ?_
    refine q_then ?_
    cases s
    ·rw [firstF_some (showE n es l) i (by rw [hshi]; decide) l.length 0 (Nat.zero_le _) (by omega) hz0, hshi] at hR
     subst hR
     refine h_condT rfl ?_
     refine yR ?_
     refine yM rfl ?_
     refine yS rfl ?_
     refine yS rfl ?_
     refine yN ?_
     refine h_ret ?_
     refine q_blockR ?_
     refine q_thenR ?_
     refine q_thenR ?_
     refine q_blockR ?_
     refine q_thenR ?_
     exact h_ret2 rfl rfl rfl fun w s => ⟨(), rfl, s.res (List.nil_sublist _) (by simp)⟩
    ·refine h_condF rfl ?_
     refine h_skip ?_
     refine q_block ?_
     refine q_then ?_
     refine h_reg ?_
     refine yM rfl ?_
     refine h_op (r_add rfl rfl) ?_
     refine yS rfl ?_
     refine h_nil ?_
     exact h_back (i + 1) (⟨hi2, fun j hj => (Nat.lt_or_ge j i).elim (hzi j) fun h8 => by (obtain rfl : j = i := by omega); exact hshi⟩) ((show l.length - (i + 1) < l.length - i by omega)) ⟨rfl, rfl, rfl, rfl, rfl, rfl, trivial⟩ (same)
   ·refine yM rfl ?_
    refine yM rfl ?_
    refine h_op (r_idx rfl rfl) ?_
    refine h_op (r_field rfl (O' := oA + (i * 3 + 2)) (by omega)) ?_
    refine h_op (r_nth rfl e2) ?_
    refine yN ?_
    refine h_condT rfl ?_
    refine ha_start [.own (.slice (some ⟨g17, 0, none⟩) l.length c17) l.length 35 32 (dgs (keysC l)), .zone false h] [] mixed (same) ?_
    refine ha_takeP 0 rfl (r_move rfl) ?_
    refine ha_takeP 1 rfl (r_move rfl) ?_
    refine ha_takeP 2 rfl (r_move rfl) ?_
    refine ha_takeP 3 rfl (r_idx rfl rfl) ?_
    refine ha_take 4 rfl (r_nthr rfl (out := key.cells) (B32.cells_length _) hd) ?_
    refine ha_takeP 5 rfl (r_move rfl) ?_
    refine ha_takeP 6 rfl (r_move rfl) ?_
    refine ha_takeP 7 rfl (r_idx rfl rfl) ?_
    refine ha_takeP 8 rfl (r_field rfl (O' := oA + (i * 3 + 1)) (by omega)) ?_
    refine ha_take 9 rfl (r_nth rfl e1) ?_
    refine ha_one 10 ?_
    refine ho_C 10 rfl (hLf.comes) rfl rfl rfl (fun xx => same) fun _ => ?_
    refine ha_takeP 11 rfl (r_fldr rfl) ?_
    refine ha_one 12 ?_
    refine ho_SL 12 rfl (s_storer rfl rfl) ?_
    refine q_then ?_
    refine h_seq ?_
    change Spec _ _ ([.agg (endPr (t.endI key 0)).cells.toArray, .agg key.cells.toArray, .agg (leafOf n key vb).value.cells.toArray, .bool true] : List Value).toArray _ _ _ _ at hSu
    refine ha_start [.blk g15 (leafOf n key vb).value.cells 42, .blk g14 (endPr (t.endI key 0)).cells 54, .own (.slice (some ⟨g17, 0, none⟩) l.length c17) l.length 35 32 (dgs (keysC l)), .zone false h] [] mixed (same) ?_
    refine ha_take 0 rfl (r_loadr rfl) ?_
    refine ha_takeP 1 rfl (r_move rfl) ?_
    refine ha_takeP 2 rfl (r_move rfl) ?_
    refine ha_takeP 3 rfl (r_idx rfl rfl) ?_
    refine ha_take 4 rfl (r_nthr rfl (out := key.cells) (B32.cells_length _) hd) ?_
    refine ha_take 5 rfl (r_loadr rfl) ?_
    refine ha_takeP 6 rfl (r_move rfl) ?_
    refine ha_takeP 7 rfl (r_move rfl) ?_
    refine ha_takeP 8 rfl (r_idx rfl rfl) ?_
    refine ha_takeP 9 rfl (r_field rfl (O' := oA + (i * 3 + 2)) (by omega)) ?_
    refine ha_take 10 rfl (r_nth rfl e2) ?_
    refine ha_one 11 ?_
    refine ho_C 11 rfl (hSu.comes) rfl rfl rfl (fun xx => same) fun _ => ?_
    refine ha_takeP 12 rfl (r_not rfl) ?_
    refine ha_done (by kernel_rfl) ?_
    refine q_then ?_
    cases s
    ·rw [firstF_some (showE n es l) i (by rw [hshi]; decide) l.length 0 (Nat.zero_le _) (by omega) hz0, hshi] at hR
     subst hR
     refine h_condT rfl ?_
     refine yR ?_
     refine yM rfl ?_
     refine yS rfl ?_
     refine yS rfl ?_
     refine yN ?_
     refine h_ret ?_
     refine q_blockR ?_
     refine q_thenR ?_
     refine q_thenR ?_
     refine q_blockR ?_
     refine q_thenR ?_
     exact h_ret2 rfl rfl rfl fun w s => ⟨(), rfl, s.res (List.nil_sublist _) (by simp)⟩
    ·refine h_condF rfl ?_
     refine h_skip ?_
     refine q_block ?_
     refine q_then ?_
     refine h_reg ?_
     refine yM rfl ?_
     refine h_op (r_add rfl rfl) ?_
     refine yS rfl ?_
     refine h_nil ?_
     exact h_back (i + 1) (⟨hi2, fun j hj => (Nat.lt_or_ge j i).elim (hzi j) fun h8 => by (obtain rfl : j = i := by omega); exact hshi⟩) ((show l.length - (i + 1) < l.length - i by omega)) ⟨rfl, rfl, rfl, rfl, rfl, rfl, trivial⟩ (same)
  ·obtain rfl : i = l.length := by omega
   rw [firstF_none (showE n es l) _ _ (fun j _ hj => hzi j (by omega))] at hR
   dsimp only at hR
   have hD := rDig_s n hn its0 (some ⟨bI, oI, none⟩) ic' hil (parse_ok hp).2.1 t 256 (by omega) 0 [] (parse_ok hp).1
   unfold RDig at hD
   by_cases hd : dgS n t = root
   ·rw [if_pos hd] at hR
    subst hR
    refine h_exit ?_
    refine q_thenE ?_
    refine q_thenE ?_
    refine q_blockE ?_
    refine q_then ?_
    refine h_seq ?_
    refine h_seq ?_
    refine ha_start [.blk g5 root.cells 42] [] mixed (same) ?_
    refine ha_takeP 0 rfl (r_move rfl) ?_
    refine ha_takeP 1 rfl (r_move rfl) ?_
    refine ha_take 3 rfl (r_loadr rfl) ?_
    refine ha_one 2 ?_
    refine ho_C 2 rfl (hD.comes) rfl rfl rfl (fun xx => same) fun _ => ?_
    refine ha_takeP 4 rfl (r_bool (r_ner rfl rfl) (decide_eq_false (fun h => h hd))) ?_
    refine ha_done (by kernel_rfl) ?_
    refine q_then ?_
    refine h_condF rfl ?_
    refine h_skip ?_
    refine q_then ?_
    refine yR ?_
    refine yS rfl ?_
    refine yS rfl ?_
    refine yN ?_
    refine h_ret ?_
    exact h_ret2 rfl rfl rfl fun w s => ⟨(), rfl, s.res (List.nil_sublist _) (by simp)⟩
   ·rw [if_neg hd] at hR
    subst hR
    refine h_exit ?_
    refine q_thenE ?_
    refine q_thenE ?_
    refine q_blockE ?_
    refine q_then ?_
    refine h_seq ?_
    refine h_seq ?_
    refine ha_start [.blk g5 root.cells 42] [] mixed (same) ?_
    refine ha_takeP 0 rfl (r_move rfl) ?_
    refine ha_takeP 1 rfl (r_move rfl) ?_
    refine ha_take 3 rfl (r_loadr rfl) ?_
    refine ha_one 2 ?_
    refine ho_C 2 rfl (hD.comes) rfl rfl rfl (fun xx => same) fun _ => ?_
    refine ha_takeP 4 rfl (r_bool (r_ner rfl rfl) (decide_eq_true hd)) ?_
    refine ha_done (by kernel_rfl) ?_
    refine q_then ?_
    refine h_condT rfl ?_
    refine yR ?_
    refine yS rfl ?_
    refine yS rfl ?_
    refine yN ?_
    refine h_ret ?_
    refine q_thenR ?_
    exact h_ret2 rfl rfl rfl fun w s => ⟨(), rfl, s.res (List.nil_sublist _) (by simp)⟩
end
end Go.Proofs.YtjhocljhhpkiiaaGreatDoor
/- U145 -/
namespace Go.Proofs.YtjhocljhhpkiiaaGreatDoor
open Go.RowKit
def depK (key : B32) (m : List En) : Nat := (loc key (mkT m 0) 0).2
theorem wayM_dep {m : List En} (hal : Alike m 0) (key : B32) : WayM key m (depK key m) := by
 obtain ⟨D, w⟩ := wayM (key := key) hal
 obtain ⟨D', hw', hlc⟩ := loc_way hal key
 have e : depK key m = D := by unfold depK; rw [hlc]; exact WayTo.unique hw' w.way
 rw [e]
 exact w
def pairF (n : Nat) (m : List En) (x : CB) (ls : List (List UInt8)) : List UInt8 × List UInt8 := findP (wayPre n (keyOf x.kb) (mkT m 0) (depK (keyOf x.kb) m + 1)) ls (preV (getV (getE' m (keyOf x.kb)))) (preV x.vb)
def batchR (n : Nat) (m : List En) (l : List CB) (its0 : List Item) : Option (List UInt8 × List UInt8) :=
 if accM n (dgT n (mkT m 0)) l its0 then
  match parseM its0, l.find? fun x => !trueC m x.c x.kb x.vb with
  | .ok t, some x => some (pairF n m x (t.pres n (keyOf x.kb) 0))
  | _, _ => none
 else none
theorem accM_ok {n : Nat} {root : B32} {l : List CB} {its0 : List Item} (h : accM n root l its0 = true) : claimsR l = none ∧ ∃ t, parseM its0 = .ok t ∧ showR n root l t = none := by
 unfold accM at h
 rw [Bool.and_eq_true, decide_eq_true_eq] at h
 refine ⟨h.1, ?_⟩
 rcases hp : parseM its0 with e | t
 ·rw [hp] at h; cases h.2
 ·rw [hp] at h
  exact ⟨t, rfl, of_decide_eq_true h.2⟩
theorem showR_fits {n : Nat} {root : B32} {l : List CB} {t : Sub} (h : showR n root l t = none) : (endsM t (keysC l) 0).2 = true := by
 unfold showR at h
 split at h
 ·assumption
 ·cases h
theorem show_kind {n : Nat} {root : B32} {l : List CB} {t : Sub} {its0 : List Item} (hp : parseM its0 = .ok t) (h : showR n root l t = none) {i : Nat} (hi : i < l.length) : (t.endI (keyOf (l.getD i zCB).kb) 0).1.kind ≠ 3 := by
 have h1 := (fits_iff t (keysC l) 0 0 (parse_flat hp).2.1).1 (showR_fits h)
 exact h1.1 _ (List.mem_of_getElem? (keysC_get hi))
theorem find_first {α : Type} {p : α → Bool} : ∀ {l : List α} {i : Nat} {x : α}, l[i]? = some x → p x = true → (∀ j, j < i → ∀ y, l[j]? = some y → p y = false) → l.find? p = some x
 | [], _, _, h, _, _ => by simp at h
 | a :: l, 0, x, h, hp, _ => by
  obtain rfl : a = x := by simpa using h
  rw [List.find?_cons, hp]
 | a :: l, i + 1, x, h, hp, hn => by
  rw [List.find?_cons, hn 0 (by omega) a rfl]
  exact find_first (by simpa using h) hp fun j hj y hy => hn (j + 1) (by omega) y (by simpa using hy)
section
variable (n : Nat) (hn : n ≤ 256) (h : Zh) [hT : RdZ h (some ⟨1, 0, none⟩) hashT] (gh gc k : Nat) (hk : k ≤ 1000000000) (m : List En) (hal : Alike m 0) (p : Option Addr) [ht : TrZ n h (mkT m 0) p] (hvl : ∀ e ∈ m, e.val.length ≤ 100000000) (its0 : List Item) (I : Option Addr) (ic : Nat) [hI : RdZ h I (its its0)] (hic : its0.length ≤ ic) (hil : its0.length ≤ 100000) (t : Sub) (hp : parseM its0 = .ok t)
omit hT hI in
include ht in
theorem search_no (hal : Alike m 0) (hvl : ∀ e ∈ m, e.val.length ≤ 100000000) (c : Claim) (kb vb : List UInt8) [hK : SlZ h c.key kb] [hV : SlZ h c.value vb] (htr : trueC m c kb vb = true) (q4 q5 q7 q8 q9 q10 : Nat) : Spec Tryz.prog 90 [.agg c.cells.toArray, .pointer (some ⟨q5, 0, none⟩), .pointer (some ⟨q4, 0, none⟩), .pointer (some ⟨q7, 0, none⟩), .pointer (some ⟨q8, 0, none⟩), .pointer (some ⟨q9, 0, none⟩), .pointer (some ⟨q10, 0, none⟩)].toArray [.rd (some ⟨q5, 0, none⟩) [.pointer p], .zone false h] [] (fun _ : Unit => .bool false) (fun _ => []) := by
 have hTr := xTrue_s n h m hal p c kb vb (fun e he => by have := hvl e he; omega)
 rw [htr] at hTr
 refine spec_of Tryz.func90 rfl (n := 35) rfl rfl ?_
 intro W
 refine yR ?_
 refine h_opX (x_box rfl) fun g7 => ?_
 refine yS rfl ?_
 refine yN ?_
 refine h_seq ?_
 refine yR ?_
 refine h_op (r_loadc rfl) ?_
 refine h_op (r_loadr rfl) ?_
 refine h_call (hTr.comes) rfl rfl rfl fun _ => ?_
 refine yN ?_
 refine h_condT rfl ?_
 refine yR ?_
 refine yS rfl ?_
 refine yN ?_
 refine h_ret ?_
 refine q_thenR ?_
 exact h_ret1 rfl rfl fun w s => ⟨(), rfl, s.res (List.nil_sublist _) (by simp)⟩
include hn hk hal hvl hic hil hp
theorem search_yes (c : Claim) (kb vb : List UInt8) [hK : SlZ h c.key kb] [hV : SlZ h c.value vb] (hk32 : kb.length = 32) (hvb : vb.length ≤ 100000000) (htr : trueC m c kb vb = false) (h3 : (t.endI (keyOf kb) 0).1.kind ≠ 3) (q4 q5 q7 q8 q9 q10 : Nat) (D : Nat) (w : WayM (keyOf kb) m D) (x y : List UInt8) (hxy : findP (wayPre n (keyOf kb) (mkT m 0) (D + 1)) (t.pres n (keyOf kb) 0) (preV (getV (getE' m (keyOf kb)))) (preV vb) = (x, y)) : Spec Tryz.prog 90 [.agg c.cells.toArray, .pointer (some ⟨q5, 0, none⟩), .pointer (some ⟨q4, 0, none⟩), .pointer (some ⟨q7, 0, none⟩), .pointer (some ⟨q8, 0, none⟩), .pointer (some ⟨q9, 0, none⟩), .pointer (some ⟨q10, 0, none⟩)].toArray [HR gh gc n, .rd (some ⟨q4, 0, none⟩) [.pointer (some ⟨gh, 0, none⟩)], .rd (some ⟨q5, 0, none⟩) [.pointer p], .rd (some ⟨q7, 0, none⟩) [.slice I its0.length ic]] [.zone true h, CN gc k, .blk q8 [.slice none 0 0] 23, .blk q9 [.slice none 0 0] 23, .blk q10 [.bool false] 4] (fun u : {u : Zh × (Option Addr × Nat) × (Option Addr × Nat) × Nat // LeZ h u.1 ∧ PZ u.1 u.2.1.1 u.2.1.2 x ∧ PZ u.1 u.2.2.1.1 u.2.2.1.2 y ∧ u.2.2.2 ≤ k + 300000000} => .bool true) (fun u => [.zone true u.1.1, CN gc u.1.2.2.2, .blk q8 [.slice u.1.2.1.1 x.length u.1.2.1.2] 23, .blk q9 [.slice u.1.2.2.1.1 y.length u.1.2.2.1.2] 23, .blk q10 [.bool true] 4]) := by
 have hTr := xTrue_s n h m hal p c kb vb (fun e he => by have := hvl e he; omega)
 rw [htr] at hTr
 have hkn := hK.len
 have hP := mPre_k h n hn gh gc k hk its0 I ic hic (by omega) (keyOf kb) t hp false (by simpa using h3)
 replace hP : Spec Tryz.prog 91 [.pointer (some ⟨gh, 0, none⟩), .slice I its0.length ic, .agg (keyOf kb).cells.toArray].toArray [HR gh gc n] [.zone true h, CN gc k] (fun u : {x : Zh × Nat × Nat × List Seg × Nat // LeZ h x.1 ∧ (false = false → SegsZ x.1 x.2.2.2.1 (t.pres n (keyOf kb) 0)) ∧ x.2.2.2.2 ≤ k + 256000000} => .tuple #[.slice (some ⟨u.1.2.1, 0, none⟩) (t.pres n (keyOf kb) 0).length u.1.2.2.1, .int .i64 0]) (fun u => [.zone true u.1.1, CN gc u.1.2.2.2.2, .own (.slice (some ⟨u.1.2.1, 0, none⟩) (t.pres n (keyOf kb) 0).length u.1.2.2.1) (t.pres n (keyOf kb) 0).length 23 1 (svs u.1.2.2.2.1)]) := hP
 have hpl : (t.pres n (keyOf kb) 0).length ≤ 257 := by
  have h1 := pres_len n (keyOf kb) t 0 0
  have h2 := way_depth (keyOf kb) t 0 0
  have h4 := (parse_flat hp).2.2
  omega
 have hKr : RdZ h c.key.A (keyOf kb).cells := by rw [keyOf_cells hk32]; exact hK.rd
 obtain ⟨bK, oK, hKA, -⟩ := hKr.at_ 0 _ (List.getElem?_eq_getElem (by rw [B32.cells_length]; decide))
 rw [hKA] at hKr
 have hCo := fun z (hTz : RdZ z (some ⟨1, 0, none⟩) hashT) (htz : TrZ n z (mkT m 0) p) (hKz : SlZ z c.key kb) (hVz : SlZ z c.value vb) k0 hk0 ys Y cy (hY : RdZ z Y (svs ys)) hys hyl => xCompare_s n hn z gh gc k0 hk0 m p c kb vb hk32 hvb hvl D w ys (t.pres n (keyOf kb) 0) Y cy (hY := hY) hys hyl x y hxy
 generalize t.pres n (keyOf kb) 0 = pl at *
 refine spec_of Tryz.func90 rfl (n := 35) rfl rfl ?_
 intro W
 refine yR ?_
 refine h_opX (x_box rfl) fun g7 => ?_
 refine yS rfl ?_
 refine yN ?_
 refine h_seq ?_
 refine yR ?_
 refine h_op (r_loadc rfl) ?_
 refine h_op (r_loadr rfl) ?_
 refine h_call (hTr.comes) rfl rfl rfl fun _ => ?_
 refine yN ?_
 refine h_condF rfl ?_
 refine h_skip ?_
 refine q_then ?_
 refine h_seq ?_
 refine ha_start [.zone false h, .blk g7 c.cells 25, .rd (some ⟨q4, 0, none⟩) [.pointer (some ⟨gh, 0, none⟩)], .rd (some ⟨q7, 0, none⟩) [.slice I its0.length ic]] [] mixed (zbL (LeZ.refl h)) ?_
 refine ha_take 0 rfl (r_loadc rfl) ?_
 refine ha_take 1 rfl (r_loadc rfl) ?_
 refine ha_takeP 2 rfl (r_field rfl) ?_
 refine ha_take 3 rfl (r_as (r_loadc rfl) (show _ = Value.slice (some ⟨bK, oK, none⟩) c.key.n c.key.c by rw [hKA])) ?_
 refine ha_takeP 4 rfl (r_arr rfl (hm := show 32 ≤ c.key.n by omega)) ?_
 refine ha_take 5 rfl (r_loadr rfl) ?_
 refine ha_one 6 ?_
 refine ho_C 6 rfl (hP.comes) rfl rfl rfl (fun xx => zbL xx.2.1) fun ⟨⟨z1, g21, c21, ys, k1⟩, hz1, hys, hk1⟩ => ?_
 refine ha_takeP 7 rfl (r_move rfl) ?_
 refine ha_takeP 8 rfl (r_extract rfl rfl) ?_
 refine ha_takeP 9 rfl (r_extract rfl rfl) ?_
 refine ha_takeP 10 rfl (r_assign rfl) ?_
 refine ha_takeP 11 rfl (r_assign rfl) ?_
 refine ha_done (by kernel_rfl) ?_
 refine q_then ?_
 dsimp only at hz1 hys hk1 ⊢
 replace hys := hys rfl
 refine h_freezeO (.slice (some ⟨g21, 0, none⟩) pl.length c21) fun z2 B2 c2 e2 hle2 hlen2 hnil2 hz2 hyr => ?_
 injection e2 with e2 _ e3
 subst e2 e3
 have hyl := hys.len
 have hz12 := hz1.trans hz2
 have hCo := hCo z2 (hT.mono hz12) ⟨ht.ok.mono hz12⟩ (hK.mono hz12) (hV.mono hz12) k1 (by omega) ys (some ⟨g21, 0, none⟩) c21 hyr (hys.mono hz2) (by omega)
 rw [hyl] at hCo
 refine h_seq ?_
 refine yR ?_
 refine yM rfl ?_
 refine h_op (r_eql rfl rfl) ?_
 refine yN ?_
 refine h_condT rfl ?_
 refine h_reg ?_
 refine h_op (r_loadc rfl) ?_
 refine h_op (r_loadc rfl) ?_
 refine h_op (r_loadr rfl) ?_
 refine yM rfl ?_
 refine h_call (hCo.comes) rfl rfl rfl fun ⟨⟨z3, X, Y, k3⟩, hz3, hX, hY, hk3⟩ => ?_
 dsimp only at hz3 hX hY hk3 ⊢
 refine yM rfl ?_
 refine h_op (r_extract rfl rfl) ?_
 refine h_op (r_extract rfl rfl) ?_
 refine h_op (r_extract rfl rfl) ?_
 refine h_opS (s_store rfl rfl rfl) ?_
 refine h_opS (s_store rfl rfl rfl) ?_
 refine h_opS (s_store rfl rfl rfl) ?_
 refine yN ?_
 refine yR ?_
 refine yS rfl ?_
 refine yN ?_
 refine h_ret ?_
 exact h_ret1 rfl rfl fun w s => ⟨⟨(z3, X, Y, k3), hz12.trans hz3, hX, hY, by dsimp only; omega⟩, rfl, (same (L' := [.zone true z3, CN gc k3, .blk q8 [.slice X.1 x.length X.2] 23, .blk q9 [.slice Y.1 y.length Y.2] 23, .blk q10 [.bool true] 4]) w s).res (List.Sublist.refl _) (by simp [Fa.wr])⟩
end
section
variable (n : Nat) (hn : n ≤ 256) (h : Zh) [hT : RdZ h (some ⟨1, 0, none⟩) hashT] (gh gc k : Nat) (hk : k ≤ 1000000) (m : List En) (hal : Alike m 0) (p : Option Addr) [ht : TrZ n h (mkT m 0) p] (hvl : ∀ e ∈ m, e.val.length ≤ 100000000) (its0 : List Item) (I : Option Addr) (ic : Nat) [hI : RdZ h I (its its0)] (hic : its0.length ≤ ic) (hil : its0.length ≤ 100000) (l : List CB) (A : Option Addr) (c : Nat) [hr : RdZ h A (cbs l)] (hz : ClsZ h l) (hcv : ∀ x ∈ l, x.vb.length ≤ 100000000) (hll : l.length ≤ 100000)
include hn hk hal hvl hic hil hz hcv hll
theorem xBatch_s (o : Option (List UInt8 × List UInt8)) (ho : batchR n m l its0 = o) : Spec Tryz.prog 38 [.pointer (some ⟨gh, 0, none⟩), .pointer p, .slice A l.length c, .slice I its0.length ic].toArray [HR gh gc n] [.zone true h, CN gc k] (fun u : {u : Zh × (Option Addr × Nat) × (Option Addr × Nat) × Nat // LeZ h u.1 ∧ (∀ x y, o = some (x, y) → PZ u.1 u.2.1.1 u.2.1.2 x ∧ PZ u.1 u.2.2.1.1 u.2.2.1.2 y) ∧ u.2.2.2 ≤ k + 300300000} => outV o u.1.2.1 u.1.2.2.1) (fun u => [.zone true u.1.1, CN gc u.1.2.2.2]) := by
 have hDg := Digest_s n hn gh gc k (by omega) h (mkT m 0) p
 obtain ⟨k1, hk1⟩ : ∃ k1, k + (if (mkT m 0).kind = 0 then 1 else 0) = k1 := ⟨_, rfl⟩
 have hk1b : k1 ≤ k + 1 := by rw [← hk1]; split <;> omega
 rw [hk1] at hDg
 have hA := mvAccepts_s n hn h gh gc l A c hz hcv hll k1 (by omega) (dgT n (mkT m 0)) its0 I ic hic (by omega)
 unfold batchR at ho
 obtain ⟨a, ha⟩ : ∃ a, accM n (dgT n (mkT m 0)) l its0 = a := ⟨_, rfl⟩
 rw [ha] at ho hA
 cases a
 ·obtain rfl : none = o := ho
  refine spec_of Tryz.func38 rfl (n := 36) rfl rfl ?_
  intro W
  refine yR ?_
  refine h_opX (x_box1 rfl) fun g4 => ?_
  refine h_opX (x_box1 rfl) fun g5 => ?_
  refine h_opX (x_box1 rfl) fun g7 => ?_
  refine h_opX (x_alloc) fun g8 => ?_
  refine h_opX (x_alloc) fun g9 => ?_
  refine h_opX (x_alloc) fun g10 => ?_
  refine yN ?_
  refine h_seq ?_
  refine h_seq ?_
  refine ha_start [.blk g4 [.pointer (some ⟨gh, 0, none⟩)] 36, .blk g5 [.pointer p] 26, .blk g7 [.slice I its0.length ic] 68] [] mixed (same) ?_
  refine ha_take 0 rfl (r_loadc rfl) ?_
  refine ha_take 1 rfl (r_loadc rfl) ?_
  refine ha_take 2 rfl (r_loadc rfl) ?_
  refine ha_takeP 4 rfl (r_move rfl) ?_
  refine ha_take 5 rfl (r_loadc rfl) ?_
  refine ha_one 3 ?_
  refine ho_C 3 rfl (hDg.comes) rfl rfl rfl (fun xx => same) fun _ => ?_
  refine ha_one 6 ?_
  refine ho_C 6 rfl (hA.comes) rfl rfl rfl (fun xx => same) fun ⟨⟨z1, k2⟩, hz1, hk2⟩ => ?_
  refine ha_takeP 7 rfl (r_not rfl) ?_
  refine ha_done (by kernel_rfl) ?_
  refine q_then ?_
  refine h_condT rfl ?_
  refine yR ?_
  refine h_opS (s_store rfl rfl rfl) ?_
  refine h_opS (s_store rfl rfl rfl) ?_
  refine h_opS (s_store rfl rfl rfl) ?_
  refine yN ?_
  refine h_ret ?_
  refine q_thenR ?_
  exact h_ret3 rfl (rv_cell rfl) (rv_cell rfl) (rv_cell rfl) fun w s => ⟨⟨(z1, (none, 0), (none, 0), k2), hz1, (fun x y h => by cases h), by dsimp only at hk2 ⊢; omega⟩, rfl, (same (L' := [.zone true z1, CN gc k2]) w s).res (List.Sublist.refl _) (by simp [Fa.wr])⟩
 ·obtain ⟨hcl, t, hp, hsh⟩ := accM_ok ha
  rw [if_pos rfl, hp] at ho
  have hok := keysC_mem32 hcl hz
  have hk3 := fun i (hi : i < l.length) => show_kind hp hsh hi
  refine spec_of Tryz.func38 rfl (n := 36) rfl rfl ?_
  intro W
  refine yR ?_
  refine h_opX (x_box1 rfl) fun g4 => ?_
  refine h_opX (x_box1 rfl) fun g5 => ?_
  refine h_opX (x_box1 rfl) fun g7 => ?_
  refine h_opX (x_alloc) fun g8 => ?_
  refine h_opX (x_alloc) fun g9 => ?_
  refine h_opX (x_alloc) fun g10 => ?_
  refine yN ?_
  refine h_seq ?_
  refine h_seq ?_
  refine ha_start [.blk g4 [.pointer (some ⟨gh, 0, none⟩)] 36, .blk g5 [.pointer p] 26, .blk g7 [.slice I its0.length ic] 68] [] mixed (same) ?_
  refine ha_take 0 rfl (r_loadc rfl) ?_
  refine ha_take 1 rfl (r_loadc rfl) ?_
  refine ha_take 2 rfl (r_loadc rfl) ?_
  refine ha_takeP 4 rfl (r_move rfl) ?_
  refine ha_take 5 rfl (r_loadc rfl) ?_
  refine ha_one 3 ?_
  refine ho_C 3 rfl (hDg.comes) rfl rfl rfl (fun xx => same) fun _ => ?_
  refine ha_one 6 ?_
  refine ho_C 6 rfl (hA.comes) rfl rfl rfl (fun xx => same) fun ⟨⟨z1, k2⟩, hz1, hk2⟩ => ?_
  refine ha_takeP 7 rfl (r_not rfl) ?_
  refine ha_done (by kernel_rfl) ?_
  refine q_then ?_
  dsimp only at hz1 hk2 ⊢
  have hr1 : RdZ z1 A (cbs l) := hr.mono hz1
  have hcz := hz.mono hz1
  have ht1 : TrZ n z1 (mkT m 0) p := ⟨ht.ok.mono hz1⟩
  have hT1 : RdZ z1 (some ⟨1, 0, none⟩) hashT := hT.mono hz1
  have hI1 : RdZ z1 I (its its0) := hI.mono hz1
  refine h_condF rfl ?_
  refine h_skip ?_
  refine q_then ?_
  refine yR ?_
  refine h_op (r_func rfl rfl) ?_
  refine yS rfl ?_
  refine yN ?_
  refine h_seq ?_
  refine yR ?_
  refine yM rfl ?_
  refine h_op (r_len rfl) ?_
  refine yM rfl ?_
  refine yN ?_
  refine h_block ?_
  refine h_loop (fun (i : Nat) => i ≤ l.length ∧ ∀ j, j < i → trueC m (l.getD j zCB).c (l.getD j zCB).kb (l.getD j zCB).vb = true) (fun (i : Nat) => [(25, .int .i64 (i : Int)), (24, .int .i64 (l.length : Int)), (23, .slice A l.length c), (11, .func (.func 90) #[] #[.pointer (some ⟨g5, 0, none⟩), .pointer (some ⟨g4, 0, none⟩), .pointer (some ⟨g7, 0, none⟩), .pointer (some ⟨g8, 0, none⟩), .pointer (some ⟨g9, 0, none⟩), .pointer (some ⟨g10, 0, none⟩)]), (8, .pointer (some ⟨g8, 0, none⟩)), (9, .pointer (some ⟨g9, 0, none⟩)), (10, .pointer (some ⟨g10, 0, none⟩))]) (fun (i : Nat) => [.zone true z1, CN gc k2, .blk g8 [.slice none 0 0] 23, .blk g9 [.slice none 0 0] 23, .blk g10 [.bool false] 4, .blk g4 [.pointer (some ⟨gh, 0, none⟩)] 36, .blk g5 [.pointer p] 26, .blk g7 [.slice I its0.length ic] 68, HR gh gc n]) (fun (i : Nat) => l.length - i) 0 (⟨Nat.zero_le _, fun j hj => absurd hj (Nat.not_lt_zero _)⟩) ⟨rfl, rfl, rfl, rfl, rfl, rfl, rfl, trivial⟩ (same) ?_
  rintro i ⟨hi, hti⟩
  refine yR ?_
  refine h_op (r_lss rfl rfl) ?_
  refine yN ?_
  refine h_seq ?_
  refine h_cond rfl (fun hlt => ?_) (fun hlt => ?_)
  ·have hi2 : i < l.length := by omega
   have hx := getD_get zCB hi2
   have hxl := hok i hi2
   have hx3 := hk3 i hi2
   obtain ⟨hKx, hVx⟩ := hcz.get hi2
   have hvx := hcv _ (List.mem_of_getElem? hx)
   obtain ⟨b, o', rfl, -⟩ := hr.at_ (i * 3) _ (cbs_at hx 0 _ rfl)
   by_cases htx : trueC m (l.getD i zCB).c (l.getD i zCB).kb (l.getD i zCB).vb = true
   ·have hS := search_no n z1 m p hal hvl (l.getD i zCB).c (l.getD i zCB).kb (l.getD i zCB).vb htx g4 g5 g7 g8 g9 g10
    refine h_skip ?_
    refine q_then ?_
    refine h_seq ?_
    refine h_block ?_
    refine yR ?_
    refine h_op (r_idx rfl rfl) ?_
    refine h_op (r_nthr rfl (out := (l.getD i zCB).c.cells) (Claim.cells_length _) (cbs_at hx)) ?_
    refine h_opX (x_alloc) fun g13 => ?_
    refine h_opS (s_storer rfl rfl) ?_
    refine yN ?_
    refine yR ?_
    refine yM rfl ?_
    refine h_op (r_loadr rfl) ?_
    refine h_call (hS.comes) rfl rfl rfl fun _ => ?_
    refine yN ?_
    refine h_condF rfl ?_
    refine h_skip ?_
    refine q_block ?_
    refine q_then ?_
    refine h_reg ?_
    refine h_op (r_add rfl rfl) ?_
    refine yM rfl ?_
    refine h_nil ?_
    exact h_back (i + 1) (⟨hi2, fun j hj => (Nat.lt_or_ge j i).elim (hti j) fun h8 => by (obtain rfl : j = i := by omega); exact htx⟩) ((show l.length - (i + 1) < l.length - i by omega)) ⟨rfl, rfl, rfl, rfl, rfl, rfl, rfl, trivial⟩ (same)
   ·have hfd : (l.find? fun x => !trueC m x.c x.kb x.vb) = some (l.getD i zCB) := by
     refine find_first (i := i) hx (by simpa using htx) fun j hj y hy => ?_
     have := hti j hj
     rw [List.getD_eq_getElem?_getD, hy] at this
     simpa using this
    rw [hfd] at ho
    replace ho : some (pairF n m (l.getD i zCB) (t.pres n (keyOf (l.getD i zCB).kb) 0)) = o := ho
    obtain ⟨⟨x, y⟩, hxy⟩ : ∃ xy, pairF n m (l.getD i zCB) (t.pres n (keyOf (l.getD i zCB).kb) 0) = xy := ⟨_, rfl⟩
    rw [hxy] at ho
    obtain rfl : some (x, y) = o := ho
    unfold pairF at hxy
    have hS := search_yes n hn z1 gh gc k2 (by omega) m hal p hvl its0 I ic hic hil t hp (l.getD i zCB).c (l.getD i zCB).kb (l.getD i zCB).vb hxl hvx (by simpa using htx) hx3 g4 g5 g7 g8 g9 g10 (depK (keyOf (l.getD i zCB).kb) m) (wayM_dep hal _) x y hxy
    refine h_skip ?_
    refine q_then ?_
    refine h_seq ?_
    refine h_block ?_
    refine yR ?_
    refine h_op (r_idx rfl rfl) ?_
    refine h_op (r_nthr rfl (out := (l.getD i zCB).c.cells) (Claim.cells_length _) (cbs_at hx)) ?_
    refine h_opX (x_alloc) fun g13 => ?_
    refine h_opS (s_storer rfl rfl) ?_
    refine yN ?_
    refine yR ?_
    refine yM rfl ?_
    refine h_op (r_loadr rfl) ?_
    refine h_call (hS.comes) rfl rfl rfl fun ⟨⟨z2, X, Y, k3⟩, hz2, hX, hY, hk3'⟩ => ?_
    dsimp only at hz2 hX hY hk3' ⊢
    refine yN ?_
    refine h_condT rfl ?_
    refine h_exit ?_
    refine q_blockN (by decide) ?_
    refine q_thenE ?_
    refine q_thenE ?_
    refine q_blockE ?_
    refine q_then ?_
    refine h_seq ?_
    refine ha_start [.blk g8 [.slice X.1 x.length X.2] 23, .blk g9 [.slice Y.1 y.length Y.2] 23, .blk g10 [.bool true] 4] [] mixed (same) ?_
    refine ha_take 0 rfl (r_loadc rfl) ?_
    refine ha_take 1 rfl (r_loadc rfl) ?_
    refine ha_take 2 rfl (r_loadc rfl) ?_
    refine ha_one 3 ?_
    refine ho_S 3 rfl (s_store rfl rfl rfl) (same) ?_
    refine ha_one 4 ?_
    refine ho_S 4 rfl (s_store rfl rfl rfl) (same) ?_
    refine ha_one 5 ?_
    refine ho_SL 5 rfl (s_store rfl rfl rfl) ?_
    refine q_then ?_
    refine h_ret ?_
    exact h_ret3 rfl (rv_cell rfl) (rv_cell rfl) (rv_cell rfl) fun w s => ⟨⟨(z2, X, Y, k3), hz1.trans hz2, (fun x' y' e => by injection e with e; injection e with e1 e2; subst e1 e2; exact ⟨hX, hY⟩), by dsimp only; omega⟩, rfl, (same (L' := [.zone true z2, CN gc k3]) w s).res (List.Sublist.refl _) (by simp [Fa.wr])⟩
  ·obtain rfl : i = l.length := by omega
   have hfd : (l.find? fun x => !trueC m x.c x.kb x.vb) = none := by
    rw [List.find?_eq_none]
    intro x hx
    obtain ⟨j, hj⟩ := List.mem_iff_getElem?.1 hx
    have := hti j (List.getElem?_eq_some_iff.1 hj).1
    rw [List.getD_eq_getElem?_getD, hj] at this
    simpa using this
   rw [hfd] at ho
   obtain rfl : none = o := ho
   refine h_exit ?_
   refine q_thenE ?_
   refine q_thenE ?_
   refine q_blockE ?_
   refine q_then ?_
   refine h_seq ?_
   refine ha_start [.blk g8 [.slice none 0 0] 23, .blk g9 [.slice none 0 0] 23, .blk g10 [.bool false] 4] [] mixed (same) ?_
   refine ha_take 0 rfl (r_loadc rfl) ?_
   refine ha_take 1 rfl (r_loadc rfl) ?_
   refine ha_take 2 rfl (r_loadc rfl) ?_
   refine ha_one 3 ?_
   refine ho_S 3 rfl (s_store rfl rfl rfl) (same) ?_
   refine ha_one 4 ?_
   refine ho_S 4 rfl (s_store rfl rfl rfl) (same) ?_
   refine ha_one 5 ?_
   refine ho_SL 5 rfl (s_store rfl rfl rfl) ?_
   refine q_then ?_
   refine h_ret ?_
   exact h_ret3 rfl (rv_cell rfl) (rv_cell rfl) (rv_cell rfl) fun w s => ⟨⟨(z1, (none, 0), (none, 0), k2), hz1, (fun x y h => by cases h), by dsimp only; omega⟩, rfl, (same (L' := [.zone true z1, CN gc k2]) w s).res (List.Sublist.refl _) (by simp [Fa.wr])⟩
end
end Go.Proofs.YtjhocljhhpkiiaaGreatDoor
/- E35 -/
namespace Go.Proofs.YtjhocljhhpkiiaaGreatDoor
open Go.RowKit
theorem sum0 (l : List UInt8) : sumB 0 l = zB32 := bits_zero _ fun i hi => by
 show bitAt (cutB (sha l) 0) i = false
 rw [cutB_bit _ _ _ hi, decide_eq_false (Nat.not_lt_zero i)]
 rfl
theorem dgT0 (t : Tr) : dgT 0 t = zB32 := by cases t <;> exact sum0 _
abbrev L22 (A : Option Addr) (c : Nat) : List En := [⟨⟨zB32, ⟨A, 1, c⟩⟩, [7]⟩]
theorem mkT22 (A : Option Addr) (c : Nat) : mkT (L22 A c) 0 = .leaf zB32 [7] := mkT_one _ (by decide)
theorem alike22 (A : Option Addr) (c : Nat) : Alike (L22 A c) 0 := Alike.start (by simp)
theorem dep22 (A : Option Addr) (c : Nat) (key : B32) : depK key (L22 A c) = 0 := by unfold depK; rw [mkT22]; rfl
theorem way22 (A : Option Addr) (c : Nat) (key : B32) : WayM key (L22 A c) 0 := by
 have := wayM_dep (alike22 A c) key
 rwa [dep22] at this
theorem kb18_key : keyOf kb18 = zB32 := keyOf_val zB32
theorem get22 (A : Option Addr) (c : Nat) : getE' (L22 A c) zB32 = some ⟨⟨zB32, ⟨A, 1, c⟩⟩, [7]⟩ := by
 unfold getE'
 rw [List.find?_cons]
 have : decide ((⟨⟨zB32, ⟨A, 1, c⟩⟩, [7]⟩ : En).key = zB32) = true := decide_eq_true rfl
 rw [this]
theorem pre22 (A : Option Addr) (c : Nat) (key : B32) : wayPre 0 key (mkT (L22 A c) 0) (0 + 1) = [preL zLeaf] := by
 rw [mkT22]
 show [preT 0 (.leaf zB32 [7])] = _
 show [preL ⟨zB32, sumB 0 (preV [7])⟩] = _
 rw [sum0]
 rfl
theorem find22 (a b : List UInt8) : findP [preL zLeaf] [[3]] a b = (preL zLeaf, [3]) := by
 unfold findP
 have h : difI [preL zLeaf] [[3]] = 0 := by
  unfold difI
  rw [if_neg (by intro h; have := congrArg List.length h; rw [preL_len] at this; simp at this)]
 rw [h]
 rfl
theorem true22 (A B : Option Addr) (c c' : Nat) : trueC (L22 A c) ⟨⟨B, 32, c'⟩, ⟨none, 0, 0⟩, false⟩ kb18 [] = false := by
 unfold trueC
 rw [kb18_key, get22]
 exact Bool.and_false _
theorem true22b (A B C : Option Addr) (c c' c2 : Nat) : trueC (L22 A c) ⟨⟨B, 32, c'⟩, ⟨C, 1, c2⟩, true⟩ kb18 [7] = true := by
 unfold trueC
 rw [kb18_key, get22]
 have h : claimE ⟨⟨B, 32, c'⟩, ⟨C, 1, c2⟩, true⟩ = 0 := by
  unfold claimE
  rw [if_pos rfl, if_neg (fun h => absurd h.2 (by show ¬ 65535 < 1; decide))]
 rw [decide_eq_true h]
 rfl
theorem single22 (A B : Option Addr) (c c' : Nat) : singleR 0 (L22 A c) 0 ⟨⟨B, 32, c'⟩, ⟨none, 0, 0⟩, false⟩ kb18 [] zProof [] = some (preL zLeaf, [3]) := by
 unfold singleR
 have ha : accV 0 (dgT 0 (mkT (L22 A c) 0)) ⟨⟨B, 32, c'⟩, ⟨none, 0, 0⟩, false⟩ kb18 [] zProof [] = true := by
  unfold accV
  rw [dgT0, show rootP 0 (dpOf zProof []) (keyOf kb18) = zB32 from sum0 _, decide_eq_true (show claimE ⟨⟨B, 32, c'⟩, ⟨none, 0, 0⟩, false⟩ = 0 by unfold claimE; rw [if_pos rfl, if_neg (by simp)]), decide_eq_true (show checkP zProof = 0 from check18), decide_eq_true rfl]
  rfl
 rw [ha, true22, kb18_key, pre22]
 rw [show prePl 0 zB32 zProof [] = [[3]] from rfl, find22]
 rfl
theorem show21g (n : Nat) (B : Option Addr) (c : Nat) : showR n (dgS n (.one zItem)) [cb21 B c] (.one zItem) = none := by
 unfold showR
 rw [ends21 _ (keysC_len _)]
 dsimp only
 rw [if_pos rfl, List.length_map, keysC_len]
 have h0 : firstF (showE n ((keysC [cb21 B c]).map fun _ => (zItem, 0)) [cb21 B c]) 1 0 = none := firstF_none _ _ _ fun j _ hj => by
  obtain rfl : j = 0 := by omega
  rfl
 show (match firstF (showE n ((keysC [cb21 B c]).map fun _ => (zItem, 0)) [cb21 B c]) 1 0 with | some r => some r | none => if dgS n (.one zItem) = dgS n (.one zItem) then none else some (0, 13)) = none
 rw [h0]
 dsimp only
 rw [if_pos rfl]
theorem batch22 (A B : Option Addr) (c c' : Nat) : batchR 0 (L22 A c) [cb21 B c'] [zItem] = some (preL zLeaf, [3]) := by
 unfold batchR
 have hd : dgS 0 (.one zItem) = zB32 := by
  show (if zItem.kind = 3 then zItem.digest else sumB 0 (preI zItem)) = zB32
  rw [if_neg (by decide), sum0]
 have ha : accM 0 (dgT 0 (mkT (L22 A c) 0)) [cb21 B c'] [zItem] = true := by
  unfold accM
  rw [claims21, parse21, dgT0, ← hd]
  dsimp only
  rw [show21g]
  rfl
 have hf : [cb21 B c'].find? (fun x => !trueC (L22 A c) x.c x.kb x.vb) = some (cb21 B c') := by
  rw [List.find?_cons]
  have : (!trueC (L22 A c) (cb21 B c').c (cb21 B c').kb (cb21 B c').vb) = true := by
   show (!trueC (L22 A c) ⟨⟨B, 32, c'⟩, ⟨none, 0, 0⟩, false⟩ kb18 []) = true
   rw [true22]; rfl
  rw [this]
 rw [ha, if_pos rfl, parse21, hf]
 show some (pairF 0 (L22 A c) (cb21 B c') ((Sub.one zItem).pres 0 (keyOf kb18) 0)) = _
 unfold pairF
 show some (findP (wayPre 0 (keyOf kb18) (mkT (L22 A c) 0) (depK (keyOf kb18) (L22 A c) + 1)) [preI zItem] _ _) = _
 rw [dep22, pre22, show preI zItem = [3] from rfl, find22]
theorem col22 : (!decide (preL zLeaf = [3]) && decide (sumB 0 (preL zLeaf) = sumB 0 [3])) = true := by
 rw [sum0, sum0, decide_eq_true rfl, decide_eq_false (by intro h; have := congrArg List.length h; rw [preL_len] at this; simp at this)]
 rfl
end Go.Proofs.YtjhocljhhpkiiaaGreatDoor
/- U121 -/
namespace Go.Proofs.YtjhocljhhpkiiaaGreatDoor
open Go.RowKit
end Go.Proofs.YtjhocljhhpkiiaaGreatDoor
/- U127 -/
namespace Go.Proofs.YtjhocljhhpkiiaaGreatDoor
open Go.RowKit
theorem firstF_nz (code : Nat → Int) : ∀ m i j e, firstF code m i = some (j, e) → e ≠ 0
 | 0, _, _, _, h => by cases h
 | m + 1, i, j, e, h => by
  unfold firstF at h
  split at h
  ·exact firstF_nz code m (i + 1) j e h
  ·injection h with h
   injection h with h1 h2
   rw [← h2]; assumption
theorem claimsR_nz {l : List CB} {i : Nat} {e : Int} (h : claimsR l = some (i, e)) : e ≠ 0 := by
 unfold claimsR at h
 split at h
 ·injection h with h; injection h with _ h2; omega
 ·split at h
  ·injection h with h; injection h with _ h2; omega
  ·rcases h9 : firstF (fun i => claimE (l.getD i zCB).c) l.length 0 with _ | r9
   ·rw [h9] at h
    exact firstF_nz _ _ _ _ _ h
   ·rw [h9] at h
    injection h with h
    rw [h] at h9
    exact firstF_nz _ _ _ _ _ h9
theorem showR_nz {n : Nat} {root : B32} {l : List CB} {t : Sub} {i : Nat} {e : Int} (h : showR n root l t = some (i, e)) : e ≠ 0 := by
 unfold showR at h
 split at h
 ·rcases h9 : firstF (showE n (endsM t (keysC l) 0).1 l) (endsM t (keysC l) 0).1.length 0 with _ | r9
  ·rw [h9] at h
   dsimp only at h
   split at h
   ·cases h
   ·injection h with h; injection h with _ h2; omega
  ·rw [h9] at h
   injection h with h
   rw [h] at h9
   exact firstF_nz _ _ _ _ _ h9
 ·injection h with h; injection h with _ h2; omega
def shC (x : CB) : Bool := decide (x.c.key.n ≤ 100 ∧ x.c.value.n ≤ 70000)
def fewC (l : List CB) : Bool := decide (l.length ≤ 20) && l.all shC
theorem fewC_ok {h : Zh} {l : List CB} (hz : ClsZ h l) (hf : fewC l = true) : l.length ≤ 20 ∧ ∀ x ∈ l, x.vb.length ≤ 100000000 := by
 unfold fewC at hf
 rw [Bool.and_eq_true, decide_eq_true_eq] at hf
 refine ⟨hf.1, fun x hx => ?_⟩
 have h1 := List.all_eq_true.1 hf.2 x hx
 unfold shC at h1
 rw [decide_eq_true_eq] at h1
 have h2 := (hz x hx).2.len
 omega
end Go.Proofs.YtjhocljhhpkiiaaGreatDoor
/- U146 -/
namespace Go.Proofs.YtjhocljhhpkiiaaGreatDoor
open Go.RowKit
section
variable (h : Zh) (m : List En) (B : Option Addr) (cB : Nat) [hB : RdZ h B (ents m)] (hv : ValsZ h m) (hm : m.length ≤ 1000000) (c : Claim) (kb vb : List UInt8) [hK : SlZ h c.key kb] [hV : SlZ h c.value vb]
include hv hm
theorem rTrue22_s : Spec Tryz.prog 19 [.slice B m.length cB, .agg c.cells.toArray].toArray [.zone false h] [] (fun _ : Unit => .bool (trueC m c kb vb)) (fun _ => []) := by
 have hC := rClaim18_s c
 have hkn := hK.len
 have hvn := hV.len
 have hVr : RdZ h c.value.A (bc vb) := hV.rd
 have hKr : RdZ h c.key.A (bc kb) := hK.rd
 by_cases h1 : claimE c = 0
 ·have hk32 : kb.length = 32 := by
   unfold claimE at h1
   split at h1
   ·omega
   ·cases h1
  have hG := Get_s m B cB (keyOf kb) (by omega)
  obtain ⟨hgv, hgl⟩ := getS_ok hv (keyOf kb)
  rw [h1] at hC
  have ht : trueC m c kb vb = ((getE' m (keyOf kb)).isSome == c.present && (!(getE' m (keyOf kb)).isSome || decide (getV (getE' m (keyOf kb)) = vb))) := by unfold trueC; rw [decide_eq_true h1]; exact Bool.true_and _
  rw [ht]
  obtain ⟨⟨kA, kn, kc⟩, ⟨vA, vn, vc⟩, pr⟩ := c
  dsimp only at hkn hvn hKr hVr ⊢
  subst hkn hvn
  generalize getE' m (keyOf kb) = g at *
  have hgn := hgv.len
  have hgr : RdZ h (getS g).A (bc (getV g)) := hgv.rd
  generalize getS g = s at *
  generalize getV g = v at *
  obtain ⟨sA, sn, sc⟩ := s
  dsimp only at hgn hgr hG
  subst hgn
  have hS := rSame_s v vb sA vA sc vc (by omega)
  cases hg : g.isSome
  ·rw [hg] at hG
   cases pr
   ·refine spec_of Tryz.func19 rfl (n := 38) rfl rfl ?_
    intro W
    refine yR ?_
    refine h_opX (x_box rfl) fun g3 => ?_
    refine yS rfl ?_
    refine yN ?_
    refine yR ?_
    refine h_op (r_loadr rfl) ?_
    refine h_call (hC.comes) rfl rfl rfl fun _ => ?_
    refine yM rfl ?_
    refine h_op (r_extract rfl rfl) ?_
    refine h_op (r_extract rfl rfl) ?_
    refine yS rfl ?_
    refine yS rfl ?_
    refine yN ?_
    refine h_seq ?_
    refine yR ?_
    refine yM rfl ?_
    refine h_op (r_neq rfl rfl) ?_
    refine yN ?_
    refine h_no rfl ((fun h => h rfl)) ?_
    refine h_skip ?_
    refine q_then ?_
    refine yR ?_
    refine yM rfl ?_
    refine h_op (r_field rfl) ?_
    refine h_op (r_loadc rfl) ?_
    refine h_call ((rOf_s kb kA kc hk32).comes) rfl rfl rfl fun _ => ?_
    refine h_call (hG.comes) rfl rfl rfl fun _ => ?_
    refine yM rfl ?_
    refine h_op (r_extract rfl rfl) ?_
    refine h_op (r_extract rfl rfl) ?_
    refine yS rfl ?_
    refine yS rfl ?_
    refine yN ?_
    refine yR ?_
    refine yM rfl ?_
    refine h_op (r_field rfl) ?_
    refine h_op (r_loadc rfl) ?_
    refine h_op (r_bool (r_eqb rfl rfl) (show _ = true from rfl)) ?_
    refine yM rfl ?_
    refine yM rfl ?_
    refine h_op (r_not rfl) ?_
    refine yM rfl ?_
    refine h_opOff ?_
    refine h_opOff ?_
    refine h_opOff ?_
    refine h_opOff ?_
    refine h_op (r_pick rfl rfl) ?_
    refine h_op (r_pick rfl rfl) ?_
    refine yS rfl ?_
    refine yN ?_
    refine h_ret ?_
    exact h_ret1 rfl rfl fun w s => ⟨(), rfl, s.res (List.nil_sublist _) (by simp)⟩
   ·refine spec_of Tryz.func19 rfl (n := 38) rfl rfl ?_
    intro W
    refine yR ?_
    refine h_opX (x_box rfl) fun g3 => ?_
    refine yS rfl ?_
    refine yN ?_
    refine yR ?_
    refine h_op (r_loadr rfl) ?_
    refine h_call (hC.comes) rfl rfl rfl fun _ => ?_
    refine yM rfl ?_
    refine h_op (r_extract rfl rfl) ?_
    refine h_op (r_extract rfl rfl) ?_
    refine yS rfl ?_
    refine yS rfl ?_
    refine yN ?_
    refine h_seq ?_
    refine yR ?_
    refine yM rfl ?_
    refine h_op (r_neq rfl rfl) ?_
    refine yN ?_
    refine h_no rfl ((fun h => h rfl)) ?_
    refine h_skip ?_
    refine q_then ?_
    refine yR ?_
    refine yM rfl ?_
    refine h_op (r_field rfl) ?_
    refine h_op (r_loadc rfl) ?_
    refine h_call ((rOf_s kb kA kc hk32).comes) rfl rfl rfl fun _ => ?_
    refine h_call (hG.comes) rfl rfl rfl fun _ => ?_
    refine yM rfl ?_
    refine h_op (r_extract rfl rfl) ?_
    refine h_op (r_extract rfl rfl) ?_
    refine yS rfl ?_
    refine yS rfl ?_
    refine yN ?_
    refine yR ?_
    refine yM rfl ?_
    refine h_op (r_field rfl) ?_
    refine h_op (r_loadc rfl) ?_
    refine h_op (r_bool (r_eqb rfl rfl) (show _ = false from rfl)) ?_
    refine yM rfl ?_
    refine h_opOff ?_
    refine h_opOff ?_
    refine h_opOff ?_
    refine h_opOff ?_
    refine h_opOff ?_
    refine h_opOff ?_
    refine h_opOff ?_
    refine h_opOff ?_
    refine h_op (r_pick rfl rfl) ?_
    refine yS rfl ?_
    refine yN ?_
    refine h_ret ?_
    exact h_ret1 rfl rfl fun w s => ⟨(), rfl, s.res (List.nil_sublist _) (by simp)⟩
  ·rw [hg] at hG
   cases pr
   ·refine spec_of Tryz.func19 rfl (n := 38) rfl rfl ?_
    intro W
    refine yR ?_
    refine h_opX (x_box rfl) fun g3 => ?_
    refine yS rfl ?_
    refine yN ?_
    refine yR ?_
    refine h_op (r_loadr rfl) ?_
    refine h_call (hC.comes) rfl rfl rfl fun _ => ?_
    refine yM rfl ?_
    refine h_op (r_extract rfl rfl) ?_
    refine h_op (r_extract rfl rfl) ?_
    refine yS rfl ?_
    refine yS rfl ?_
    refine yN ?_
    refine h_seq ?_
    refine yR ?_
    refine yM rfl ?_
    refine h_op (r_neq rfl rfl) ?_
    refine yN ?_
    refine h_no rfl ((fun h => h rfl)) ?_
    refine h_skip ?_
    refine q_then ?_
    refine yR ?_
    refine yM rfl ?_
    refine h_op (r_field rfl) ?_
    refine h_op (r_loadc rfl) ?_
    refine h_call ((rOf_s kb kA kc hk32).comes) rfl rfl rfl fun _ => ?_
    refine h_call (hG.comes) rfl rfl rfl fun _ => ?_
    refine yM rfl ?_
    refine h_op (r_extract rfl rfl) ?_
    refine h_op (r_extract rfl rfl) ?_
    refine yS rfl ?_
    refine yS rfl ?_
    refine yN ?_
    refine yR ?_
    refine yM rfl ?_
    refine h_op (r_field rfl) ?_
    refine h_op (r_loadc rfl) ?_
    refine h_op (r_bool (r_eqb rfl rfl) (show _ = false from rfl)) ?_
    refine yM rfl ?_
    refine h_opOff ?_
    refine h_opOff ?_
    refine h_opOff ?_
    refine h_opOff ?_
    refine h_opOff ?_
    refine h_opOff ?_
    refine h_opOff ?_
    refine h_opOff ?_
    refine h_op (r_pick rfl rfl) ?_
    refine yS rfl ?_
    refine yN ?_
    refine h_ret ?_
    exact h_ret1 rfl rfl fun w s => ⟨(), rfl, s.res (List.nil_sublist _) (by simp)⟩
   ·refine spec_of Tryz.func19 rfl (n := 38) rfl rfl ?_
    intro W
    refine yR ?_
    refine h_opX (x_box rfl) fun g3 => ?_
    refine yS rfl ?_
    refine yN ?_
    refine yR ?_
    refine h_op (r_loadr rfl) ?_
    refine h_call (hC.comes) rfl rfl rfl fun _ => ?_
    refine yM rfl ?_
    refine h_op (r_extract rfl rfl) ?_
    refine h_op (r_extract rfl rfl) ?_
    refine yS rfl ?_
    refine yS rfl ?_
    refine yN ?_
    refine h_seq ?_
    refine yR ?_
    refine yM rfl ?_
    refine h_op (r_neq rfl rfl) ?_
    refine yN ?_
    refine h_no rfl ((fun h => h rfl)) ?_
    refine h_skip ?_
    refine q_then ?_
    refine yR ?_
    refine yM rfl ?_
    refine h_op (r_field rfl) ?_
    refine h_op (r_loadc rfl) ?_
    refine h_call ((rOf_s kb kA kc hk32).comes) rfl rfl rfl fun _ => ?_
    refine h_call (hG.comes) rfl rfl rfl fun _ => ?_
    refine yM rfl ?_
    refine h_op (r_extract rfl rfl) ?_
    refine h_op (r_extract rfl rfl) ?_
    refine yS rfl ?_
    refine yS rfl ?_
    refine yN ?_
    refine yR ?_
    refine yM rfl ?_
    refine h_op (r_field rfl) ?_
    refine h_op (r_loadc rfl) ?_
    refine h_op (r_bool (r_eqb rfl rfl) (show _ = true from rfl)) ?_
    refine yM rfl ?_
    refine yM rfl ?_
    refine h_op (r_not rfl) ?_
    refine yM rfl ?_
    refine yM rfl ?_
    refine h_op (r_field rfl) ?_
    refine h_op (r_loadc rfl) ?_
    refine h_call (hS.comes) rfl rfl rfl fun _ => ?_
    refine h_op (r_pick rfl rfl) ?_
    refine h_op (r_pick rfl rfl) ?_
    refine yS rfl ?_
    refine yN ?_
    refine h_ret ?_
    exact h_ret1 rfl rfl fun w s => ⟨(), rfl, s.res (List.nil_sublist _) (by simp)⟩
 ·rw [show trueC m c kb vb = false by unfold trueC; rw [decide_eq_false h1]; rfl]
  refine spec_of Tryz.func19 rfl (n := 38) rfl rfl ?_
  intro W
  refine yR ?_
  refine h_opX (x_box rfl) fun g3 => ?_
  refine yS rfl ?_
  refine yN ?_
  refine yR ?_
  refine h_op (r_loadr rfl) ?_
  refine h_call (hC.comes) rfl rfl rfl fun _ => ?_
  refine yM rfl ?_
  refine h_op (r_extract rfl rfl) ?_
  refine h_op (r_extract rfl rfl) ?_
  refine yS rfl ?_
  refine yS rfl ?_
  refine yN ?_
  refine h_seq ?_
  refine yR ?_
  refine yM rfl ?_
  refine h_op (r_neq rfl rfl) ?_
  refine yN ?_
  refine h_yes rfl (h1) ?_
  refine yR ?_
  refine yS rfl ?_
  refine yN ?_
  refine h_ret ?_
  refine q_thenR ?_
  exact h_ret1 rfl rfl fun w s => ⟨(), rfl, s.res (List.nil_sublist _) (by simp)⟩
end
theorem rWay22_s (n : Nat) (hn : n ≤ 256) (h : Zh) (m : List En) (B : Option Addr) (cB : Nat) [hB : RdZ h B (ents m)] (hv : ValsZ h m) (hal : Alike m 0) (hm : m.length ≤ 1000000) (key : B32) (D : Nat) (w : WayM key m D) : Spec Tryz.prog 22 [.int .i64 (n : Int), .slice B m.length cB, .agg key.cells.toArray].toArray [] [.zone true h] (fun u : {u : Zh × Option Addr × Nat × List Seg // LeZ h u.1 ∧ SegsZ u.1 u.2.2.2 (wayPre n key (mkT m 0) (D + 1))} => .slice u.1.2.1 (D + 1) u.1.2.2.1) (fun u => [.zone true u.1.1, .own (.slice u.1.2.1 (D + 1) u.1.2.2.1) (D + 1) 23 1 (svs u.1.2.2.2)]) := by
 have hD := w.way.le
 refine spec_of Tryz.func22 rfl (n := 63) rfl rfl ?_
 intro W
 refine yR ?_
 refine h_opX (x_box rfl) fun g5 => ?_
 refine yS rfl ?_
 refine yN ?_
 refine yR ?_
 refine yS rfl ?_
 refine yN ?_
 refine h_seq ?_
 refine yR ?_
 refine yS rfl ?_
 refine yN ?_
 refine h_block ?_
 refine h_nil_own 23 1 (xs := svs ([] : List Seg)) rfl ?_
 refine h_loop (fun (s : Nat × Zh × (Option Addr × Nat) × List Seg × Option Addr × Nat) => (s.1 ≤ D ∧ LeZ h s.2.1) ∧ RdZ s.2.1 s.2.2.1.1 (ents (atM key m s.1)) ∧ SegsZ s.2.1 s.2.2.2.1 (wayPre n key (mkT m 0) s.1)) (fun (s : Nat × Zh × (Option Addr × Nat) × List Seg × Option Addr × Nat) => [(8, .int .i64 (s.1 : Int)), (1, .slice s.2.2.1.1 (atM key m s.1).length s.2.2.1.2), (7, .slice s.2.2.2.2.1 s.1 s.2.2.2.2.2), (0, .int .i64 (n : Int)), (5, .pointer (some ⟨g5, 0, none⟩))]) (fun (s : Nat × Zh × (Option Addr × Nat) × List Seg × Option Addr × Nat) => [.zone true s.2.1, .own (.slice s.2.2.2.2.1 s.1 s.2.2.2.2.2) s.1 23 1 (svs s.2.2.2.1), .blk g5 key.cells 35]) (fun (s : Nat × Zh × (Option Addr × Nat) × List Seg × Option Addr × Nat) => D + 1 - s.1) (0, h, (B, cB), [], none, 0) (⟨⟨Nat.zero_le _, LeZ.refl h⟩, hB, ⟨rfl, fun x hx => by cases hx⟩⟩) ⟨rfl, rfl, rfl, rfl, rfl, trivial⟩ (same) ?_
 rintro ⟨i, z, ⟨Bi, ci⟩, xs, X, cx⟩ ⟨⟨hi, hz⟩, hBi, hsx⟩
 dsimp only at hi hz hBi hsx ⊢
 have hxl := hsx.len
 rw [wayPre_len] at hxl
 have hon := w.on i hi
 have hvi := (atM_vals (key := key) hv i).mono hz
 have hli := atM_le key m i
 have hali := atM_alike (k := key) hal i
 by_cases hiD : i < D
 ·have hmore := w.more i hiD
  have hai : ∀ b, Alike (part (atM key m i) i b) (i + 1) := fun b => hali.part b
  have hpl := fun b => part_le (atM key m i) i b
  have hpre : preT n (wayK key (mkT m 0) i) = preN (rootM n (part (atM key m i) i false) (i + 1)) (rootM n (part (atM key m i) i true) (i + 1)) := by rw [hon, mkT_two hmore (by omega)]; rfl
  have hnext : part (atM key m i) i (bitAt key i) = atM key m (i + 1) := rfl
  have hP0 := Part_s (atM key m i) Bi ci i false (by omega) (by omega)
  have hP1 := Part_s (atM key m i) Bi ci i true (by omega) (by omega)
  have hPK := PartK_s key (atM key m i) Bi ci i (by omega) (by omega)
  rw [hnext] at hPK
  refine h_seq ?_
  refine yR ?_
  refine yM rfl ?_
  refine h_op (r_len rfl) ?_
  refine h_op (r_gtr rfl rfl) ?_
  refine yN ?_
  refine h_yes rfl ((show (1 : Int) < (((atM key m i).length : Nat) : Int) by omega)) ?_
  refine h_skip ?_
  refine q_then ?_
  refine h_seq ?_
  refine h_block ?_
  refine yR ?_
  refine yM rfl ?_
  refine yM rfl ?_
  refine h_call (hP0.comes) rfl rfl rfl fun ⟨A18, c18⟩ => ?_
  dsimp only
  refine h_freezeO (.slice A18 (part (atM key m i) i false).length c18) fun z1 B1 c1 e1 hle1 hlen1 hnil1 hz1 hr1 => ?_
  injection e1 with e1 _ e1'
  subst e1 e1'
  have hBi1 : RdZ z1 Bi (ents (atM key m i)) := hBi.mono hz1
  refine yS rfl ?_
  refine yN ?_
  refine yR ?_
  refine yM rfl ?_
  refine yM rfl ?_
  refine h_call (hP1.comes) rfl rfl rfl fun ⟨A21, c21⟩ => ?_
  dsimp only
  refine h_freezeO (.slice A21 (part (atM key m i) i true).length c21) fun z2 B2 c2 e2 hle2 hlen2 hnil2 hz2 hr2 => ?_
  injection e2 with e2 _ e2'
  subst e2 e2'
  have hr12 : RdZ z2 A18 (ents (part (atM key m i) i false)) := hr1.mono hz2
  have hBi2 : RdZ z2 Bi (ents (atM key m i)) := hBi1.mono hz2
  have hvi2 := hvi.mono (hz1.trans hz2)
  refine yS rfl ?_
  refine yN ?_
  refine yR ?_
  refine yM rfl ?_
  refine yM rfl ?_
  refine yM rfl ?_
  refine yM rfl ?_
  refine h_op (r_int (r_add rfl rfl) (show _ = ((i + 1 : Nat) : Int) by omega)) ?_
  refine h_call ((Root_any n hn z2 (by omega) (hai false) (by have := hpl false; omega) (hvi2.part i false) A18 c18).comes) rfl rfl rfl fun _ => ?_
  refine yM rfl ?_
  refine yM rfl ?_
  refine yM rfl ?_
  refine h_op (r_int (r_add rfl rfl) (show _ = ((i + 1 : Nat) : Int) by omega)) ?_
  refine h_call ((Root_any n hn z2 (by omega) (hai true) (by have := hpl true; omega) (hvi2.part i true) A21 c21).comes) rfl rfl rfl fun _ => ?_
  refine h_call ((rNode_s _ _).comes) rfl rfl rfl fun ⟨g33, c33⟩ => ?_
  dsimp only
  rw [← hpre]
  refine h_opX (x_bsl rfl rfl) fun g34 => ?_
  refine h_opX (x_app rfl rfl (k := 1)) fun ⟨g35, c35⟩ => ?_
  refine yS rfl ?_
  refine yN ?_
  dsimp only
  change H _ _ _ _ _ (.own _ _ _ _ (svs xs ++ [sv (some ⟨g33, 0, none⟩, c33, preT n (wayK key (mkT m 0) i))]) :: _) _
  rw [svs_app1]
  refine h_freezeO (.slice (some ⟨g33, 0, none⟩) (preT n (wayK key (mkT m 0) i)).length c33) fun z3 B3 c3 e3 hle3 hlen3 hnil3 hz3 hr3 => ?_
  injection e3 with e3 _ e3'
  subst e3 e3'
  have hz13 := (hz1.trans hz2).trans hz3
  have hsn := (hsx.mono (hz1.trans hz2)).snoc hz3 (c := c33) hr3
  rw [← wayPre_succ] at hsn
  have hBi3 : RdZ z3 Bi (ents (atM key m i)) := hBi2.mono hz3
  refine h_reg ?_
  refine yM rfl ?_
  refine yM rfl ?_
  refine h_op (r_loadr rfl) ?_
  refine yM rfl ?_
  refine h_call ((refBit_s key i (by omega)).comes) rfl rfl rfl fun _ => ?_
  refine h_call (hPK.comes) rfl rfl rfl fun ⟨A41, c41⟩ => ?_
  dsimp only
  refine h_freezeO (.slice A41 (atM key m (i + 1)).length c41) fun z4 B4 c4 e4 hle4 hlen4 hnil4 hz4 hr4 => ?_
  injection e4 with e4 _ e4'
  subst e4 e4'
  refine yS rfl ?_
  refine h_nil ?_
  refine q_block ?_
  refine q_then ?_
  refine h_reg ?_
  refine yM rfl ?_
  refine h_op (r_add rfl rfl) ?_
  refine yS rfl ?_
  refine h_nil ?_
  exact h_back (i + 1, z4, (A41, c41), xs ++ [((some ⟨g33, 0, none⟩, c33, preT n (wayK key (mkT m 0) i)) : Seg)], some ⟨g35, 0, none⟩, c35) (⟨⟨by dsimp only; omega, hz.trans (hz13.trans hz4)⟩, hr4, hsn.mono hz4⟩) ((show D + 1 - (i + 1) < D + 1 - i by omega)) ⟨rfl, rfl, rfl, rfl, rfl, trivial⟩ (same)
 ·obtain rfl : i = D := by omega
  have hlast := w.last
  refine h_seq ?_
  refine yR ?_
  refine yM rfl ?_
  refine h_op (r_len rfl) ?_
  refine h_op (r_gtr rfl rfl) ?_
  refine yN ?_
  refine h_no rfl ((show ¬ (1 : Int) < (((atM key m i).length : Nat) : Int) by omega)) ?_
  have hsucc := wayPre_succ n key (mkT m 0) i
  rw [hon] at hsucc
  generalize atM key m i = q at *
  rcases q with _ | ⟨e, _ | ⟨f, q⟩⟩
  ·rw [mkT_nil] at hsucc
   refine h_exit ?_
   refine q_thenE ?_
   refine q_thenE ?_
   refine q_blockE ?_
   refine q_then ?_
   refine h_seq ?_
   refine yR ?_
   refine yM rfl ?_
   refine h_op (r_len rfl) ?_
   refine h_op (r_eql rfl rfl) ?_
   refine yN ?_
   refine h_condT rfl ?_
   refine yR ?_
   refine yM rfl ?_
   refine h_opX (x_bslV (ys := [.int .u8 3]) (bc preE) rfl rfl (bc_one _)) fun g46 => ?_
   refine h_opX (x_bsl rfl rfl) fun g47 => ?_
   refine h_opX (x_app rfl rfl (k := 1)) fun ⟨g48, c48⟩ => ?_
   refine yS rfl ?_
   refine yN ?_
   refine h_ret ?_
   refine q_thenR ?_
   dsimp only
   change H _ _ _ _ _ (.own _ _ _ _ (svs xs ++ [sv (some ⟨g46, 0, none⟩, 1, preE)]) :: _) _
   rw [svs_app1]
   refine h_freezeO (.slice (some ⟨g46, 0, none⟩) 1 1) fun z3 B3 c3 e3 hle3 hlen3 hnil3 hz3 hr3 => ?_
   injection e3 with e3 _ e3'
   subst e3 e3'
   have hsn := hsx.snoc hz3 (c := 1) hr3
   rw [show wayPre n key (mkT m 0) i ++ [preE] = wayPre n key (mkT m 0) (i + 1) from hsucc.symm] at hsn
   exact h_ret1 rfl rfl fun w s => ⟨⟨(z3, some ⟨g48, 0, none⟩, c48, xs ++ [((some ⟨g46, 0, none⟩, 1, preE) : Seg)]), hz.trans hz3, hsn⟩, rfl, (same (L' := [.zone true z3, .own (.slice (some ⟨g48, 0, none⟩) (i + 1) c48) (i + 1) 23 1 (svs (xs ++ [((some ⟨g46, 0, none⟩, 1, preE) : Seg)]))]) w s).res (List.Sublist.refl _) (by simp [Fa.wr])⟩
  ·rw [mkT_one e hD] at hsucc
   obtain ⟨hs, hvl⟩ := hvi e (by simp)
   obtain ⟨⟨key', A, N, cc⟩, b⟩ := e
   obtain rfl : N = b.length := hs.len
   have hA : A = none → b.length = 0 ∧ cc = 0 := hs.nil
   have hrd : RdZ z A (bc b) := hs.rd
   dsimp only at hvl
   have h0 : 0 < (ents [⟨⟨key', ⟨A, b.length, cc⟩⟩, b⟩]).length := by rw [ents_len]; exact Nat.zero_lt_succ _
   obtain ⟨bb, o, rfl, -⟩ := hBi.at_ 0 _ (List.getElem?_eq_getElem h0)
   refine h_exit ?_
   refine q_thenE ?_
   refine q_thenE ?_
   refine q_blockE ?_
   refine q_then ?_
   refine h_seq ?_
   refine yR ?_
   refine yM rfl ?_
   refine h_op (r_len rfl) ?_
   refine h_op (r_eql rfl rfl) ?_
   refine yN ?_
   refine h_condF rfl ?_
   refine h_skip ?_
   refine q_then ?_
   refine h_seq ?_
   refine ha_start [.zone true z] [] mixed (same) ?_
   refine ha_takeP 0 rfl (r_move rfl) ?_
   refine ha_takeP 1 rfl (r_move rfl) ?_
   refine ha_takeP 2 rfl (r_move rfl) ?_
   refine ha_takeP 3 rfl (r_idx rfl rfl (hm := by simp)) ?_
   refine ha_takeP 4 rfl (r_field rfl) ?_
   refine ha_take 5 rfl (r_nthr rfl (out := key'.cells) (B32.cells_length _) (ents_key0 ⟨⟨key', ⟨A, b.length, cc⟩⟩, b⟩)) ?_
   refine ha_takeP 6 rfl (r_move rfl) ?_
   refine ha_takeP 7 rfl (r_idx rfl rfl (hm := by simp)) ?_
   refine ha_takeP 8 rfl (r_field rfl) ?_
   refine ha_take 9 rfl (r_nth rfl (ents_val0 ⟨⟨key', ⟨A, b.length, cc⟩⟩, b⟩)) ?_
   refine ha_one 10 ?_
   refine ho_C 10 rfl ((rLeafOf_s n hn key' b A cc hA (by omega)).comes) rfl rfl rfl (fun xx => same) fun _ => ?_
   refine ha_one 11 ?_
   refine ho_C 11 rfl ((rLeaf_s (leafOf n key' b)).comes) rfl rfl rfl (fun xx => same) fun ⟨g60, c60⟩ => ?_
   refine ha_one 12 ?_
   refine ho_X 12 rfl (rk (x_bsl rfl rfl)) (fun _ => same) fun g61 => ?_
   refine ha_one 13 ?_
   refine ho_X 13 rfl (rk (x_app rfl rfl (k := 1))) (fun _ => same) fun ⟨g62, c62⟩ => ?_
   refine ha_takeP 14 rfl (r_assign rfl) ?_
   refine ha_done (by kernel_rfl) ?_
   refine q_then ?_
   refine h_ret ?_
   dsimp only
   change H _ _ _ _ _ (.own _ _ _ _ (svs xs ++ [sv (some ⟨g60, 0, none⟩, c60, preL (leafOf n key' b))]) :: _) _
   rw [svs_app1]
   refine h_freezeO (.slice (some ⟨g60, 0, none⟩) (preL (leafOf n key' b)).length c60) fun z3 B3 c3 e3 hle3 hlen3 hnil3 hz3 hr3 => ?_
   injection e3 with e3 _ e3'
   subst e3 e3'
   have hsn := hsx.snoc hz3 (c := c60) hr3
   rw [show wayPre n key (mkT m 0) i ++ [preL (leafOf n key' b)] = wayPre n key (mkT m 0) (i + 1) from hsucc.symm] at hsn
   exact h_ret1 rfl rfl fun w s => ⟨⟨(z3, some ⟨g62, 0, none⟩, c62, xs ++ [((some ⟨g60, 0, none⟩, c60, preL (leafOf n key' b)) : Seg)]), hz.trans hz3, hsn⟩, rfl, (same (L' := [.zone true z3, .own (.slice (some ⟨g62, 0, none⟩) (i + 1) c62) (i + 1) 23 1 (svs (xs ++ [((some ⟨g60, 0, none⟩, c60, preL (leafOf n key' b)) : Seg)]))]) w s).res (List.Sublist.refl _) (by simp [Fa.wr])⟩
  ·exact absurd hlast (by simp)
end Go.Proofs.YtjhocljhhpkiiaaGreatDoor
