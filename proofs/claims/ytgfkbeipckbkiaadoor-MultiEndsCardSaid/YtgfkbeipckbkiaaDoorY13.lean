/- multiproofs: the reference's Fits; law19: MultiEnds is true (joined texts: U77 U83) -/
import Derived.Test.YtgfkbeipckbkiaaDoorY12
set_option linter.all false
/- U77 -/
namespace Go.Proofs.YtgfkbeipckbkiaaDoor
set_option linter.unusedSimpArgs false
set_option linter.unusedVariables false
open Go.RowKit
def bl (l : List Bool) : List Value := l.map Value.bool
theorem bl_len (l : List Bool) : (bl l).length = l.length := by simp [bl]
theorem bl_set (l : List Bool) (i : Nat) (b : Bool) : (bl l).set i (.bool b) = bl (l.set i b) := by unfold bl; rw [List.map_set]
theorem bl_at {l : List Bool} {i : Nat} {b : Bool} (h : l[i]? = some b) : (bl l)[i]? = some (.bool b) := by unfold bl; rw [List.getElem?_map, h]; rfl
/-- the items on the ways of keys, and on the first part of one more way -/
def seenW (N : Nat) (t : Sub) (ks : List B32) (w : List Nat) : List Bool := (List.range N).map fun p => decide ((∃ k ∈ ks, p ∈ t.way k 0 0) ∨ p ∈ w)
theorem seenW_len (N : Nat) (t : Sub) (ks : List B32) (w : List Nat) : (seenW N t ks w).length = N := by simp [seenW]
theorem seenW_get {N : Nat} {t : Sub} {ks : List B32} {w : List Nat} {p : Nat} (h : p < N) : (seenW N t ks w)[p]? = some (decide ((∃ k ∈ ks, p ∈ t.way k 0 0) ∨ p ∈ w)) := by
  unfold seenW
  rw [List.getElem?_map, List.getElem?_range h]
  rfl
theorem seenW_set {N : Nat} {t : Sub} {ks : List B32} {w : List Nat} {p : Nat} (hp : p < N) : (seenW N t ks w).set p true = seenW N t ks (w ++ [p]) := by
  apply List.ext_getElem?
  intro i
  rcases Nat.lt_or_ge i N with h | h
  · rw [seenW_get h, List.getElem?_set, seenW_len]
    by_cases e : p = i
    · subst e
      rw [if_pos rfl, if_pos hp]
      simp
    · rw [if_neg e, seenW_get h]
      have e' : ¬ i = p := fun h => e h.symm
      simp [e']
  · rw [List.getElem?_eq_none (by rw [List.length_set, seenW_len]; exact h), List.getElem?_eq_none (by rw [seenW_len]; exact h)]
theorem seenW_next (N : Nat) (t : Sub) {ks : List B32} {k : Nat} {x : B32} (h : ks[k]? = some x) : seenW N t (ks.take k) (t.way x 0 0) = seenW N t (ks.take (k + 1)) [] := by
  unfold seenW
  refine List.map_congr_left fun p _ => decide_eq_decide.2 ?_
  rw [List.take_add_one, h, Option.toList_some]
  constructor
  · rintro (⟨k', h1, h2⟩ | h1)
    · exact .inl ⟨k', List.mem_append_left _ h1, h2⟩
    · exact .inl ⟨x, List.mem_append_right _ (List.mem_singleton.2 rfl), h1⟩
  · rintro (⟨k', h1, h2⟩ | h1)
    · rcases List.mem_append.1 h1 with h1 | h1
      · exact .inl ⟨k', h1, h2⟩
      · obtain rfl := List.mem_singleton.1 h1
        exact .inr h2
    · cases h1
theorem take_get {l : List Nat} {j w : Nat} (h : l[j]? = some w) : l.take (j + 1) = l.take j ++ [w] := by rw [List.take_add_one, h]; rfl
theorem made_bl (N : Nat) (t : Sub) : (madeCells (Value.bool false).cells (N * 1)).toList = bl (seenW N t [] []) := by
  unfold bl seenW
  apply List.ext_getElem?
  intro i
  rw [Nat.mul_one]
  rcases Nat.lt_or_ge i N with h | h
  · rw [List.getElem?_map, List.getElem?_map, List.getElem?_range h]
    simp [madeCells, h, Value.cells, Nat.mod_one]
  · rw [List.getElem?_eq_none (by simpa [madeCells] using h), List.getElem?_eq_none (by simpa using h)]
theorem Fits_s (l : List Item) (A : Option Addr) (c : Nat) (hl : l.length ≤ 1000000) (t : Sub) (hp : parseM l = .ok t) (ks : List B32) (K : Option Addr) (kc : Nat) (hks : ks.length ≤ 1000000) (b : Bool) (hb : (endsM t ks 0).2 = b) : Spec Tryd.prog 23 [.slice A l.length c, .slice K ks.length kc].toArray [.rd A (its l), .rd K (dgs ks)] [] (fun _ : Unit => .bool b) (fun _ => []) := by
  have hst := At.start hp
  have hfl := (parse_flat hp).1
  have hfi := fits_iff t ks 0 0 hst.ok
  rw [hb] at hfi
  unfold fitsR at hfi
  rw [← hfl] at hfi
  refine spec_of Tryd.func23 rfl (n := 67) rfl rfl ?_
  intro W
  refine h_pure (φ := ∃ b o, A = some ⟨b, o, none⟩) (fun w s => Rd.some (s.ok (.rd A (its l)) (by simp)) (by rw [its_len]; have := hst.lt; omega)) ?_
  rintro ⟨bA, oA, rfl⟩
  refine h_seq ?_
  refine h_reg ?_
  refine h_op (r_assign rfl) ?_
  refine h_nil ?_
  refine q_then ?_
  refine h_seq ?_
  refine h_reg ?_
  refine h_op (r_move rfl) ?_
  refine h_op (r_len rfl) ?_
  refine h_opX (x_make rfl rfl) fun g12 => ?_
  refine h_op (r_assign rfl) ?_
  refine h_nil ?_
  refine q_then ?_
  refine h_seq ?_
  refine h_seq ?_
  refine h_reg ?_
  refine h_op (r_assign rfl) ?_
  refine h_nil ?_
  refine q_then ?_
  refine h_block ?_
  rw [made_bl l.length t]
  change H _ _ _ _ _ (.own _ _ _ _ (bl (seenW l.length t (ks.take 0) [])) :: _) _
  refine h_loop (fun (k : Nat) => k ≤ ks.length ∧ ∀ x ∈ ks.take k, (t.endI x 0).1.kind ≠ 3) (fun (k : Nat) => [(0, .slice (some ⟨bA, oA, none⟩) l.length c), (1, .slice K ks.length kc), (5, .slice (some ⟨g12, 0, none⟩) l.length l.length), (6, .int .i64 (k : Int))]) (fun (k : Nat) => [.own (.slice (some ⟨g12, 0, none⟩) l.length l.length) l.length 4 1 (bl (seenW l.length t (ks.take k) [])), .rd (some ⟨bA, oA, none⟩) (its l), .rd K (dgs ks)]) (fun (k : Nat) => ks.length - k) 0 (⟨Nat.zero_le _, by simp⟩) ⟨rfl, rfl, rfl, rfl, trivial⟩ (same) ?_
  rintro k ⟨hk, hall⟩
  refine h_seq ?_
  refine h_seq ?_
  refine h_reg ?_
  refine h_op (r_move rfl) ?_
  refine h_op (r_move rfl) ?_
  refine h_op (r_len rfl) ?_
  refine h_op (r_lss rfl rfl) ?_
  refine h_nil ?_
  refine q_then ?_
  refine h_cond rfl (fun hlt => ?_) (fun hlt => ?_)
  · have hk2 : k < ks.length := by omega
    have hd := dgs_at (l := ks) (k := k) hk2
    have hx : ks[k]? = some (ks.getD k zB32) := by rw [List.getD_eq_getElem?_getD, List.getElem?_eq_getElem hk2]; rfl
    generalize ks.getD k zB32 = key at *
    obtain ⟨wl, w1, w2, w3⟩ := way_last key hst
    have hwp := way_pos key t 0 0
    have hwd := way_depth key t 0 0
    have hht := hst.ht
    have hki := its_kind w2
    have hg : (t.way key 0 0).getD ((t.way key 0 0).length - 1) 0 = wl := by rw [List.getD_eq_getElem?_getD, w1]; rfl
    refine h_pure (φ := ∃ b o, K = some ⟨b, o, none⟩) (fun w s => Rd.some (s.ok (.rd K (dgs ks)) (by simp)) (by rw [dgs_len]; omega)) ?_
    rintro ⟨bK, oK, rfl⟩
    refine h_skip ?_
    refine q_then ?_
    refine h_seq ?_
    refine h_block ?_
    refine h_seq ?_
    refine h_reg ?_
    refine h_op (r_move rfl) ?_
    refine h_op (r_move rfl) ?_
    refine h_op (r_move rfl) ?_
    refine h_op (r_idx rfl rfl) ?_
    refine h_op (r_nthr rfl (out := key.cells) (B32.cells_length _) hd) ?_
    refine h_call ((Way_s l (some ⟨bA, oA, none⟩) c hl t hp key).comes) rfl rfl rfl fun ⟨g24, c24⟩ => ?_
    refine h_op (r_assign rfl) ?_
    refine h_nil ?_
    refine q_then ?_
    refine h_seq ?_
    refine h_seq ?_
    refine h_reg ?_
    refine h_op (r_move rfl) ?_
    refine h_op (r_move rfl) ?_
    refine h_op (r_move rfl) ?_
    refine h_op (r_len rfl) ?_
    refine h_op (r_subN rfl rfl (m := (t.way key 0 0).length - 1) (hm := by omega)) ?_
    refine h_op (r_idx rfl rfl) ?_
    refine h_op (r_int (r_nth rfl (ic_at (by omega))) (show _ = ((wl : Nat) : Int) by rw [hg])) ?_
    refine h_op (r_idx rfl rfl) ?_
    refine h_op (r_field rfl) ?_
    refine h_op (r_nth rfl hki) ?_
    refine h_op (r_eql rfl rfl) ?_
    refine h_nil ?_
    refine q_then ?_
    refine h_cond rfl (fun h3 => ?_) (fun h3 => ?_)
    · have hbf : b = false := by
        cases hbb : b
        · rfl
        · exact ((hfi.1 hbb).1 key (List.mem_of_getElem? hx) h3).elim
      rw [hbf]
      refine h_seq ?_
      refine h_reg ?_
      refine h_op (r_assign rfl) ?_
      refine h_nil ?_
      refine q_then ?_
      refine h_ret ?_
      refine q_thenR ?_
      refine q_blockR ?_
      refine q_thenR ?_
      refine q_thenR ?_
      refine q_blockR ?_
      refine q_thenR ?_
      exact h_ret1 rfl rfl fun w s => ⟨(), rfl, s.res (List.nil_sublist _) (by simp)⟩
    · refine h_skip ?_
      refine q_then ?_
      refine h_seq ?_
      refine h_reg ?_
      refine h_op (r_assign rfl) ?_
      refine h_nil ?_
      refine q_then ?_
      refine h_block ?_
      change H _ _ _ _ _ (_ :: .own _ _ _ _ (bl (seenW l.length t (ks.take k) ((t.way key 0 0).take 0))) :: _) _
      refine h_loop (fun (j : Nat) => j ≤ (t.way key 0 0).length) (fun (j : Nat) => [(0, .slice (some ⟨bA, oA, none⟩) l.length c), (1, .slice (some ⟨bK, oK, none⟩) ks.length kc), (5, .slice (some ⟨g12, 0, none⟩) l.length l.length), (6, .int .i64 (k : Int)), (7, .slice (some ⟨g24, 0, none⟩) (t.way key 0 0).length c24), (8, .int .i64 (j : Int))]) (fun (j : Nat) => [.own (.slice (some ⟨g12, 0, none⟩) l.length l.length) l.length 4 1 (bl (seenW l.length t (ks.take k) ((t.way key 0 0).take j))), .own (.slice (some ⟨g24, 0, none⟩) (t.way key 0 0).length c24) (t.way key 0 0).length 3 1 (ic (t.way key 0 0)), .rd (some ⟨bA, oA, none⟩) (its l), .rd (some ⟨bK, oK, none⟩) (dgs ks)]) (fun (j : Nat) => (t.way key 0 0).length - j) 0 ((show 0 ≤ _ from Nat.zero_le _)) ⟨rfl, rfl, rfl, rfl, rfl, rfl, trivial⟩ (same) ?_
      rintro j hj
      refine h_seq ?_
      refine h_seq ?_
      refine h_reg ?_
      refine h_op (r_move rfl) ?_
      refine h_op (r_move rfl) ?_
      refine h_op (r_len rfl) ?_
      refine h_op (r_lss rfl rfl) ?_
      refine h_nil ?_
      refine q_then ?_
      refine h_cond rfl (fun hlj => ?_) (fun hlj => ?_)
      · obtain ⟨p, hpj⟩ : ∃ p, (t.way key 0 0)[j]? = some p := ⟨_, List.getElem?_eq_getElem (by omega)⟩
        have hpl : p < l.length := by
          have := way_rng (List.mem_of_getElem? hpj)
          rw [hfl, Sub.flat_len]; omega
        have hgp : (t.way key 0 0).getD j 0 = p := by rw [List.getD_eq_getElem?_getD, hpj]; rfl
        have hset := (bl_set (seenW l.length t (ks.take k) ((t.way key 0 0).take j)) p true).trans (by rw [seenW_set hpl, ← take_get hpj])
        refine h_skip ?_
        refine q_then ?_
        refine h_seq ?_
        refine h_block ?_
        refine h_reg ?_
        refine h_op (r_move rfl) ?_
        refine h_op (r_move rfl) ?_
        refine h_op (r_move rfl) ?_
        refine h_op (r_idx rfl rfl) ?_
        refine h_op (r_int (r_nth rfl (ic_at (by omega))) (show _ = ((p : Nat) : Int) by rw [hgp])) ?_
        refine h_op (r_idx rfl rfl (hm := hpl)) ?_
        refine h_opS (s_setO rfl rfl rfl (by rw [bl_len, seenW_len]; omega) hset) ?_
        refine h_nil ?_
        refine q_block ?_
        refine q_then ?_
        refine h_reg ?_
        refine h_op (r_move rfl) ?_
        refine h_op (r_add rfl rfl) ?_
        refine h_op (r_assign rfl) ?_
        refine h_nil ?_
        exact h_back (j + 1) ((show j + 1 ≤ _ by omega)) ((show (t.way key 0 0).length - (j + 1) < (t.way key 0 0).length - j by omega)) ⟨rfl, rfl, rfl, rfl, rfl, rfl, trivial⟩ (same)
      · obtain rfl : j = (t.way key 0 0).length := by omega
        rw [List.take_length, seenW_next l.length t hx]
        refine h_exit ?_
        refine q_thenE ?_
        refine q_thenE ?_
        refine q_blockE ?_
        refine q_block ?_
        refine q_then ?_
        refine h_reg ?_
        refine h_op (r_move rfl) ?_
        refine h_op (r_add rfl rfl) ?_
        refine h_op (r_assign rfl) ?_
        refine h_nil ?_
        exact h_back (k + 1) (⟨by omega, fun x hxm => by rw [List.take_add_one, hx, Option.toList_some] at hxm; exact (List.mem_append.1 hxm).elim (hall x) (fun h1 => by rw [List.mem_singleton.1 h1]; exact h3)⟩) ((show ks.length - (k + 1) < ks.length - k by omega)) ⟨rfl, rfl, rfl, rfl, trivial⟩ (same)
  · obtain rfl : k = ks.length := by omega
    rw [List.take_length] at hall ⊢
    refine h_exit ?_
    refine q_thenE ?_
    refine q_thenE ?_
    refine q_blockE ?_
    refine q_then ?_
    refine h_seq ?_
    refine h_seq ?_
    refine h_reg ?_
    refine h_op (r_assign rfl) ?_
    refine h_nil ?_
    refine q_then ?_
    refine h_block ?_
    refine h_loop (fun (i : Nat) => i ≤ l.length ∧ ∀ j x, j < i → l[j]? = some x → x.kind = 2 → ∃ k ∈ ks, j ∈ t.way k 0 0) (fun (i : Nat) => [(0, .slice (some ⟨bA, oA, none⟩) l.length c), (5, .slice (some ⟨g12, 0, none⟩) l.length l.length), (9, .int .i64 (i : Int))]) (fun (i : Nat) => [.own (.slice (some ⟨g12, 0, none⟩) l.length l.length) l.length 4 1 (bl (seenW l.length t ks [])), .rd (some ⟨bA, oA, none⟩) (its l)]) (fun (i : Nat) => l.length - i) 0 (⟨Nat.zero_le _, fun j x h => absurd h (by omega)⟩) ⟨rfl, rfl, rfl, trivial⟩ (same) ?_
    rintro i ⟨hi, hin⟩
    refine h_seq ?_
    refine h_seq ?_
    refine h_reg ?_
    refine h_op (r_move rfl) ?_
    refine h_op (r_move rfl) ?_
    refine h_op (r_len rfl) ?_
    refine h_op (r_lss rfl rfl) ?_
    refine h_nil ?_
    refine q_then ?_
    refine h_cond rfl (fun hli => ?_) (fun hli => ?_)
    · obtain ⟨x, hx⟩ : ∃ x, l[i]? = some x := ⟨_, List.getElem?_eq_getElem (by omega)⟩
      have hki := its_kind hx
      have hsg := bl_at (seenW_get (N := l.length) (t := t) (ks := ks) (w := []) (p := i) (by omega))
      by_cases h2 : x.kind = 2
      · by_cases h3 : (∃ k ∈ ks, i ∈ t.way k 0 0) ∨ i ∈ ([] : List Nat)
        · rw [decide_eq_true h3] at hsg
          refine h_skip ?_
          refine q_then ?_
          refine h_seq ?_
          refine h_block ?_
          refine h_seq ?_
          refine h_reg ?_
          refine h_op (r_move rfl) ?_
          refine h_op (r_move rfl) ?_
          refine h_op (r_idx rfl rfl) ?_
          refine h_op (r_field rfl) ?_
          refine h_op (r_nth rfl hki) ?_
          refine h_op (r_bool (r_eql rfl rfl) (decide_eq_true h2)) ?_
          refine h_op (r_move rfl) ?_
          refine h_op (r_move rfl) ?_
          refine h_op (r_move rfl) ?_
          refine h_op (r_idx rfl rfl) ?_
          refine h_op (r_nth rfl hsg) ?_
          refine h_op (r_not rfl) ?_
          refine h_op (r_pick rfl rfl) ?_
          refine h_nil ?_
          refine q_then ?_
          refine h_condF rfl ?_
          refine h_skip ?_
          refine q_block ?_
          refine q_then ?_
          refine h_reg ?_
          refine h_op (r_move rfl) ?_
          refine h_op (r_add rfl rfl) ?_
          refine h_op (r_assign rfl) ?_
          refine h_nil ?_
          exact h_back (i + 1) (⟨by omega, fun j y h4 h5 h6 => (Nat.lt_or_ge j i).elim (fun h7 => hin j y h7 h5 h6) fun h7 => by (obtain rfl : j = i := (by omega)); exact h3.elim id (fun h => (List.not_mem_nil h).elim)⟩) ((show l.length - (i + 1) < l.length - i by omega)) ⟨rfl, rfl, rfl, trivial⟩ (same)
        · rw [decide_eq_false h3] at hsg
          have hbf : b = false := by
            cases hbb : b
            · rfl
            · obtain ⟨k, h4, h5⟩ := (hfi.1 hbb).2 i x hx h2
              rw [Nat.zero_add] at h5
              exact (h3 (.inl ⟨k, h4, h5⟩)).elim
          rw [hbf]
          refine h_skip ?_
          refine q_then ?_
          refine h_seq ?_
          refine h_block ?_
          refine h_seq ?_
          refine h_reg ?_
          refine h_op (r_move rfl) ?_
          refine h_op (r_move rfl) ?_
          refine h_op (r_idx rfl rfl) ?_
          refine h_op (r_field rfl) ?_
          refine h_op (r_nth rfl hki) ?_
          refine h_op (r_bool (r_eql rfl rfl) (decide_eq_true h2)) ?_
          refine h_op (r_move rfl) ?_
          refine h_op (r_move rfl) ?_
          refine h_op (r_move rfl) ?_
          refine h_op (r_idx rfl rfl) ?_
          refine h_op (r_nth rfl hsg) ?_
          refine h_op (r_not rfl) ?_
          refine h_op (r_pick rfl rfl) ?_
          refine h_nil ?_
          refine q_then ?_
          refine h_condT rfl ?_
          refine h_seq ?_
          refine h_reg ?_
          refine h_op (r_assign rfl) ?_
          refine h_nil ?_
          refine q_then ?_
          refine h_ret ?_
          refine q_blockR ?_
          refine q_thenR ?_
          refine q_thenR ?_
          refine q_blockR ?_
          refine q_thenR ?_
          exact h_ret1 rfl rfl fun w s => ⟨(), rfl, s.res (List.nil_sublist _) (by simp)⟩
      · refine h_skip ?_
        refine q_then ?_
        refine h_seq ?_
        refine h_block ?_
        refine h_seq ?_
        refine h_reg ?_
        refine h_op (r_move rfl) ?_
        refine h_op (r_move rfl) ?_
        refine h_op (r_idx rfl rfl) ?_
        refine h_op (r_field rfl) ?_
        refine h_op (r_nth rfl hki) ?_
        refine h_op (r_bool (r_eql rfl rfl) (decide_eq_false h2)) ?_
        refine h_op (r_move rfl) ?_
        refine h_opOff ?_
        refine h_opOff ?_
        refine h_opOff ?_
        refine h_opOff ?_
        refine h_opOff ?_
        refine h_op (r_pick rfl rfl) ?_
        refine h_nil ?_
        refine q_then ?_
        refine h_condF rfl ?_
        refine h_skip ?_
        refine q_block ?_
        refine q_then ?_
        refine h_reg ?_
        refine h_op (r_move rfl) ?_
        refine h_op (r_add rfl rfl) ?_
        refine h_op (r_assign rfl) ?_
        refine h_nil ?_
        exact h_back (i + 1) (⟨by omega, fun j y h4 h5 h6 => (Nat.lt_or_ge j i).elim (fun h7 => hin j y h7 h5 h6) fun h7 => by (obtain rfl : j = i := (by omega)); exact (h2 (by rw [hx] at h5; injection h5 with h5; rw [h5]; exact h6)).elim⟩) ((show l.length - (i + 1) < l.length - i by omega)) ⟨rfl, rfl, rfl, trivial⟩ (same)
    · obtain rfl : i = l.length := by omega
      have hbt : b = true := hfi.2 ⟨hall, fun j x h4 h5 => by rw [Nat.zero_add]; exact hin j x (List.getElem?_eq_some_iff.1 h4).1 h4 h5⟩
      rw [hbt]
      refine h_exit ?_
      refine q_thenE ?_
      refine q_thenE ?_
      refine q_blockE ?_
      refine q_then ?_
      refine h_seq ?_
      refine h_reg ?_
      refine h_op (r_assign rfl) ?_
      refine h_nil ?_
      refine q_then ?_
      refine h_ret ?_
      exact h_ret1 rfl rfl fun w s => ⟨(), rfl, s.res (List.nil_sublist _) (by simp)⟩
end Go.Proofs.YtgfkbeipckbkiaaDoor
/- U83 -/
namespace Go.Proofs.YtgfkbeipckbkiaaDoor
set_option linter.unusedSimpArgs false
set_option linter.unusedVariables false
open Go.RowKit
section
variable (h : Zh) [hT : RdZ h (some ⟨1, 0, none⟩) hashT] (l : List Item) (A : Option Addr) (c : Nat) [hr : RdZ h A (its l)] (hc : l.length ≤ c)
include hc
theorem MultiEnds_s (ks : List B32) (K : Option Addr) (kc : Nat) [hK : RdZ h K (dgs ks)] (hkc : ks.length ≤ kc) (hkl : ks.length ≤ 9223372036854775807) : Spec Tryd.prog 6 [.slice A l.length c, .slice K ks.length kc].toArray [] [.zone true h] (fun _ : {x : Zh // LeZ h x} => .bool true) (fun x => [.zone true x.1]) := by
  have hF := Few19_s l A c
  have hC := rCheck19_s l A c
  have hk1 := rKeys_s ks K kc hkl
  refine spec_of Tryd.func6 rfl (n := 100) rfl rfl ?_
  intro W
  by_cases hl : l.length ≤ 1200
  · rw [if_pos hl] at hF
    have hC := hC (by omega)
    by_cases hk30 : ks.length ≤ 30
    · refine h_seq ?_
      refine h_reg ?_
      refine h_op (r_assign rfl) ?_
      refine h_nil ?_
      refine q_then ?_
      refine h_seq ?_
      refine h_seq ?_
      refine h_reg ?_
      refine h_op (r_move rfl) ?_
      refine h_call (hF.comes) rfl rfl rfl fun _ => ?_
      refine h_op (r_bool (r_eql rfl rfl) rfl) ?_
      refine h_op (r_move rfl) ?_
      refine h_op (r_move rfl) ?_
      refine h_op (r_len rfl) ?_
      refine h_op (r_bool (r_gtr rfl rfl) (decide_eq_false (by omega))) ?_
      refine h_op (r_pick rfl rfl) ?_
      refine h_nil ?_
      refine q_then ?_
      refine h_condF rfl ?_
      refine h_skip ?_
      refine q_then ?_
      refine h_seq ?_
      refine h_reg ?_
      refine h_op (r_move rfl) ?_
      refine h_op (r_move rfl) ?_
      rcases hp : parseM l with e | t
      · have he := parse_err hp
        rw [checkM_bad hp] at hC
        refine h_call ((Ends_form h l A c hc (by omega) ks K kc e hp he).comes) rfl rfl rfl fun _ => ?_
        refine h_op (r_move rfl) ?_
        refine h_op (r_extract rfl rfl) ?_
        refine h_op (r_extract rfl rfl) ?_
        refine h_op (r_assign rfl) ?_
        refine h_op (r_assign rfl) ?_
        refine h_nil ?_
        refine q_then ?_
        refine h_seq ?_
        refine h_reg ?_
        refine h_op (r_move rfl) ?_
        refine h_call (hC.comes) rfl rfl rfl fun _ => ?_
        refine h_op (r_assign rfl) ?_
        refine h_nil ?_
        refine q_then ?_
        refine h_seq ?_
        refine h_seq ?_
        refine h_reg ?_
        refine h_op (r_move rfl) ?_
        refine h_op (r_eql rfl rfl) ?_
        refine h_nil ?_
        refine q_then ?_
        refine h_no rfl (he) ?_
        refine h_skip ?_
        refine q_then ?_
        refine h_seq ?_
        refine h_seq ?_
        refine h_reg ?_
        refine h_op (r_move rfl) ?_
        refine h_op (r_bool (r_eql rfl rfl) (decide_eq_false he)) ?_
        refine h_op (r_move rfl) ?_
        refine h_opOff ?_
        refine h_opOff ?_
        refine h_opOff ?_
        refine h_opOff ?_
        refine h_op (r_pick rfl rfl) ?_
        refine h_nil ?_
        refine q_then ?_
        refine h_condF rfl ?_
        refine h_skip ?_
        refine q_then ?_
        refine h_seq ?_
        refine h_seq ?_
        refine h_reg ?_
        refine h_op (r_move rfl) ?_
        refine h_op (r_neq rfl rfl) ?_
        refine h_nil ?_
        refine q_then ?_
        refine h_yes rfl (he) ?_
        refine h_seq ?_
        refine h_reg ?_
        refine h_call ((alive19_s h).comes) rfl rfl rfl fun ⟨h1, hle1⟩ => ?_
        dsimp only
        refine h_op (r_move rfl) ?_
        refine h_op (r_move rfl) ?_
        refine h_op (r_len rfl) ?_
        refine h_op (r_bool (r_eql rfl rfl) rfl) ?_
        refine h_op (r_pick rfl rfl) ?_
        refine h_op (r_move rfl) ?_
        refine h_op (r_move rfl) ?_
        refine h_op (r_move rfl) ?_
        refine h_op (r_bool (r_eql rfl rfl) (decide_eq_true rfl)) ?_
        refine h_op (r_pick rfl rfl) ?_
        refine h_op (r_assign rfl) ?_
        refine h_nil ?_
        refine q_then ?_
        refine h_ret ?_
        refine q_thenR ?_
        exact h_ret1 rfl rfl fun w s => ⟨⟨h1, hle1⟩, rfl, (same (L' := [.zone true h1]) w s).res (List.Sublist.refl _) (by simp [Fa.wr])⟩
      · have hst := At.start hp
        have hht := hst.ht
        have hok := (parse_ok hp).2.1
        have h0 : 0 < (its l).length := by rw [its_len]; have := hst.lt; omega
        obtain ⟨bA, oA, rfl, -⟩ := hr.at_ 0 _ (List.getElem?_eq_getElem h0)
        rw [checkM_ok hp] at hC
        by_cases he : keysE ks = 0
        · rw [he] at hk1
          have hks := keysE_ok he
          have h1 : 0 < (dgs ks).length := by rw [dgs_len]; omega
          obtain ⟨bK, oK, rfl, -⟩ := hK.at_ 0 _ (List.getElem?_eq_getElem h1)
          have hFt := Fits_s l (some ⟨bA, oA, none⟩) c (by omega) t hp ks (some ⟨bK, oK, none⟩) kc (by omega)
          rcases hE : endsM t ks 0 with ⟨es, b⟩
          have hEs := Ends_s h l (some ⟨bA, oA, none⟩) c hc (by omega) ks (some ⟨bK, oK, none⟩) kc t hp hkc (by omega) he es b hE
          cases b
          · have hFt := hFt false (by rw [hE])
            simp only [Bool.false_eq_true, ↓reduceIte] at hEs
            refine h_call (hEs.comes) rfl rfl rfl fun ⟨A23, c23⟩ => ?_
            refine h_op (r_move rfl) ?_
            refine h_op (r_extract rfl rfl) ?_
            refine h_op (r_extract rfl rfl) ?_
            refine h_op (r_assign rfl) ?_
            refine h_op (r_assign rfl) ?_
            refine h_nil ?_
            refine q_then ?_
            refine h_seq ?_
            refine h_reg ?_
            refine h_op (r_move rfl) ?_
            refine h_call (hC.comes) rfl rfl rfl fun _ => ?_
            refine h_op (r_assign rfl) ?_
            refine h_nil ?_
            refine q_then ?_
            refine h_seq ?_
            refine h_seq ?_
            refine h_reg ?_
            refine h_op (r_move rfl) ?_
            refine h_op (r_eql rfl rfl) ?_
            refine h_nil ?_
            refine q_then ?_
            refine h_yes rfl (rfl) ?_
            refine h_reg ?_
            refine h_op (r_move rfl) ?_
            refine h_call (hk1.comes) rfl rfl rfl fun _ => ?_
            refine h_op (r_assign rfl) ?_
            refine h_nil ?_
            refine q_then ?_
            refine h_seq ?_
            refine h_seq ?_
            refine h_reg ?_
            refine h_op (r_move rfl) ?_
            refine h_op (r_bool (r_eql rfl rfl) rfl) ?_
            refine h_op (r_move rfl) ?_
            refine h_op (r_move rfl) ?_
            refine h_op (r_move rfl) ?_
            refine h_call (hFt.comes) rfl rfl rfl fun _ => ?_
            refine h_op (r_not rfl) ?_
            refine h_op (r_pick rfl rfl) ?_
            refine h_nil ?_
            refine q_then ?_
            refine h_condT rfl ?_
            refine h_reg ?_
            refine h_op (r_assign rfl) ?_
            refine h_nil ?_
            refine q_then ?_
            refine h_seq ?_
            refine h_seq ?_
            refine h_reg ?_
            refine h_op (r_move rfl) ?_
            refine h_op (r_neq rfl rfl) ?_
            refine h_nil ?_
            refine q_then ?_
            refine h_yes rfl ((show ¬ (12 : Int) = 0 by decide)) ?_
            refine h_seq ?_
            refine h_reg ?_
            refine h_call ((alive19_s h).comes) rfl rfl rfl fun ⟨h1, hle1⟩ => ?_
            dsimp only
            refine h_op (r_move rfl) ?_
            refine h_op (r_move rfl) ?_
            refine h_op (r_len rfl) ?_
            refine h_op (r_bool (r_eql rfl rfl) rfl) ?_
            refine h_op (r_pick rfl rfl) ?_
            refine h_op (r_move rfl) ?_
            refine h_op (r_move rfl) ?_
            refine h_op (r_move rfl) ?_
            refine h_op (r_bool (r_eql rfl rfl) (decide_eq_true rfl)) ?_
            refine h_op (r_pick rfl rfl) ?_
            refine h_op (r_assign rfl) ?_
            refine h_nil ?_
            refine q_then ?_
            refine h_ret ?_
            refine q_thenR ?_
            exact h_ret1 rfl rfl fun w s => ⟨⟨h1, hle1⟩, rfl, (same (L' := [.zone true h1]) w s).res (List.Sublist.refl _) (by simp [Fa.wr])⟩
          · have hFt := hFt true (by rw [hE])
            simp only [↓reduceIte] at hEs
            have hmp := endsM_map t ks 0 hks.2.2 (fun _ _ _ _ i hi => absurd hi (by omega)) (by rw [hE])
            rw [hE] at hmp
            dsimp only at hmp
            have hel : es.length = ks.length := by rw [hmp, List.length_map]
            refine h_call (hEs.comes) rfl rfl rfl fun ⟨A23, c23⟩ => ?_
            dsimp only
            refine h_pure (φ := ∃ g, A23 = some ⟨g, 0, none⟩) (fun w s => s.ownSome (N := es.length) (c := c23) (by omega)) ?_
            rintro ⟨g23, rfl⟩
            refine h_op (r_move rfl) ?_
            refine h_op (r_extract rfl rfl) ?_
            refine h_op (r_extract rfl rfl) ?_
            refine h_op (r_assign rfl) ?_
            refine h_op (r_assign rfl) ?_
            refine h_nil ?_
            refine q_then ?_
            refine h_seq ?_
            refine h_reg ?_
            refine h_op (r_move rfl) ?_
            refine h_call (hC.comes) rfl rfl rfl fun _ => ?_
            refine h_op (r_assign rfl) ?_
            refine h_nil ?_
            refine q_then ?_
            refine h_seq ?_
            refine h_seq ?_
            refine h_reg ?_
            refine h_op (r_move rfl) ?_
            refine h_op (r_eql rfl rfl) ?_
            refine h_nil ?_
            refine q_then ?_
            refine h_yes rfl (rfl) ?_
            refine h_reg ?_
            refine h_op (r_move rfl) ?_
            refine h_call (hk1.comes) rfl rfl rfl fun _ => ?_
            refine h_op (r_assign rfl) ?_
            refine h_nil ?_
            refine q_then ?_
            refine h_seq ?_
            refine h_seq ?_
            refine h_reg ?_
            refine h_op (r_move rfl) ?_
            refine h_op (r_bool (r_eql rfl rfl) rfl) ?_
            refine h_op (r_move rfl) ?_
            refine h_op (r_move rfl) ?_
            refine h_op (r_move rfl) ?_
            refine h_call (hFt.comes) rfl rfl rfl fun _ => ?_
            refine h_op (r_not rfl) ?_
            refine h_op (r_pick rfl rfl) ?_
            refine h_nil ?_
            refine q_then ?_
            refine h_condF rfl ?_
            refine h_skip ?_
            refine q_then ?_
            refine h_seq ?_
            refine h_seq ?_
            refine h_reg ?_
            refine h_op (r_move rfl) ?_
            refine h_op (r_neq rfl rfl) ?_
            refine h_nil ?_
            refine q_then ?_
            refine h_no rfl ((fun h => h rfl)) ?_
            refine h_skip ?_
            refine q_then ?_
            refine h_seq ?_
            refine h_seq ?_
            refine h_reg ?_
            refine h_op (r_move rfl) ?_
            refine h_op (r_bool (r_neq rfl rfl) rfl) ?_
            refine h_op (r_move rfl) ?_
            refine h_op (r_move rfl) ?_
            refine h_op (r_len rfl) ?_
            refine h_op (r_move rfl) ?_
            refine h_op (r_len rfl) ?_
            refine h_op (r_bool (r_neq rfl rfl) (decide_eq_false (by omega))) ?_
            refine h_op (r_pick rfl rfl) ?_
            refine h_nil ?_
            refine q_then ?_
            refine h_condF rfl ?_
            refine h_skip ?_
            refine q_then ?_
            refine h_seq ?_
            refine h_seq ?_
            refine h_reg ?_
            refine h_op (r_move rfl) ?_
            refine h_op (r_len rfl) ?_
            refine h_op (r_move rfl) ?_
            refine h_nil ?_
            refine q_then ?_
            refine h_block ?_
            refine h_loop (fun (k : Nat) => k ≤ ks.length) (fun (k : Nat) => [(64, .int .i64 (k : Int)), (63, .int .i64 (ks.length : Int)), (62, .slice (some ⟨bK, oK, none⟩) ks.length kc), (5, .slice (some ⟨g23, 0, none⟩) es.length c23), (0, .slice (some ⟨bA, oA, none⟩) l.length c)]) (fun (k : Nat) => [.own (.slice (some ⟨g23, 0, none⟩) es.length c23) es.length 62 98 (endC es), .zone true h]) (fun (k : Nat) => ks.length - k) 0 ((show 0 ≤ _ from Nat.zero_le _)) ⟨rfl, rfl, rfl, rfl, rfl, trivial⟩ (same) ?_
            rintro k hk
            refine h_seq ?_
            refine h_reg ?_
            refine h_op (r_lss rfl rfl) ?_
            refine h_nil ?_
            refine q_then ?_
            refine h_seq ?_
            refine h_cond rfl (fun hlt => ?_) (fun hlt => ?_)
            · have hk2 : k < ks.length := by omega
              have hd := dgs_at (l := ks) (k := k) hk2
              have hx : ks[k]? = some (ks.getD k zB32) := by rw [List.getD_eq_getElem?_getD, List.getElem?_eq_getElem hk2]; rfl
              generalize ks.getD k zB32 = key at *
              have hxe : es[k]? = some (t.endI key 0) := by rw [hmp, List.getElem?_map, hx]; rfl
              obtain ⟨wl, w1, w2, w3⟩ := way_last key hst
              have hwp := way_pos key t 0 0
              have hwd := way_depth key t 0 0
              have hg : (t.way key 0 0).getD ((t.way key 0 0).length - 1) 0 = wl := by rw [List.getD_eq_getElem?_getD, w1]; rfl
              have edp := endC_dep hxe
              have eit := endC_item hxe
              have hti := its_item w2
              refine h_skip ?_
              refine q_then ?_
              refine h_seq ?_
              refine h_block ?_
              refine h_seq ?_
              refine h_reg ?_
              refine h_op (r_move rfl) ?_
              refine h_op (r_idx rfl rfl) ?_
              refine h_op (r_nthr rfl (out := key.cells) (B32.cells_length _) hd) ?_
              refine h_opX (x_alloc) fun g9 => ?_
              refine h_op (r_assign rfl) ?_
              refine h_opS (s_storer rfl rfl) ?_
              refine h_nil ?_
              refine q_then ?_
              refine h_seq ?_
              refine h_reg ?_
              refine h_op (r_move rfl) ?_
              refine h_op (r_loadr rfl) ?_
              refine h_call ((Way_s l (some ⟨bA, oA, none⟩) c (by omega) t hp key).comes) rfl rfl rfl fun ⟨g71, c71⟩ => ?_
              refine h_op (r_assign rfl) ?_
              refine h_nil ?_
              refine q_then ?_
              refine h_seq ?_
              refine ha_start [.own (.slice (some ⟨g23, 0, none⟩) es.length c23) es.length 62 98 (endC es), .own (.slice (some ⟨g71, 0, none⟩) (t.way key 0 0).length c71) (t.way key 0 0).length 3 1 (ic (t.way key 0 0)), .zone true h] [] mixed (same) ?_
              refine ha_takeP 0 rfl (r_move rfl) ?_
              refine ha_takeP 1 rfl (r_move rfl) ?_
              refine ha_takeP 2 rfl (r_idx rfl rfl) ?_
              refine ha_takeP 3 rfl (r_field rfl) ?_
              refine ha_take 4 rfl (r_nth rfl edp) ?_
              refine ha_takeP 5 rfl (r_move rfl) ?_
              refine ha_takeP 6 rfl (r_len rfl) ?_
              refine ha_takeP 7 rfl (r_subN rfl rfl (m := (t.way key 0 0).length - 1) (hm := by omega)) ?_
              refine ha_takeP 8 rfl (r_bool (r_neq rfl rfl) (decide_eq_false (by omega))) ?_
              refine ha_takeP 9 rfl (r_move rfl) ?_
              refine ha_takeP 10 rfl (r_move rfl) ?_
              refine ha_takeP 11 rfl (r_move rfl) ?_
              refine ha_takeP 12 rfl (r_idx rfl rfl) ?_
              refine ha_takeP 13 rfl (r_field rfl) ?_
              refine ha_take 14 rfl (r_nthr rfl (out := (t.endI key 0).1.cells) (Item.cells_length _) eit) ?_
              refine ha_takeP 15 rfl (r_move rfl) ?_
              refine ha_takeP 16 rfl (r_move rfl) ?_
              refine ha_takeP 17 rfl (r_move rfl) ?_
              refine ha_takeP 18 rfl (r_len rfl) ?_
              refine ha_takeP 19 rfl (r_subN rfl rfl (m := (t.way key 0 0).length - 1) (hm := by omega)) ?_
              refine ha_takeP 20 rfl (r_idx rfl rfl) ?_
              refine ha_take 21 rfl (r_int (r_nth rfl (ic_at (by omega))) (show _ = ((wl : Nat) : Int) by rw [hg])) ?_
              refine ha_takeP 22 rfl (r_idx rfl rfl) ?_
              refine ha_take 23 rfl (r_nthr rfl (out := (t.endI key 0).1.cells) (Item.cells_length _) hti) ?_
              refine ha_takeP 24 rfl (r_bool (r_ner rfl rfl) (decide_eq_false (fun h => h rfl))) ?_
              refine ha_takeP 25 rfl (r_pick rfl rfl) ?_
              refine ha_done (by kernel_rfl) ?_
              refine q_then ?_
              refine h_condF rfl ?_
              refine h_skip ?_
              refine q_block ?_
              refine q_then ?_
              refine h_reg ?_
              refine h_op (r_add rfl rfl) ?_
              refine h_op (r_move rfl) ?_
              refine h_nil ?_
              exact h_back (k + 1) ((show k + 1 ≤ _ by omega)) ((show ks.length - (k + 1) < ks.length - k by omega)) ⟨rfl, rfl, rfl, rfl, rfl, trivial⟩ (same)
            · refine h_exit ?_
              refine q_thenE ?_
              refine q_thenE ?_
              refine q_blockE ?_
              refine q_then ?_
              refine h_seq ?_
              refine h_reg ?_
              refine h_call ((alive19_s h).comes) rfl rfl rfl fun ⟨h1, hle1⟩ => ?_
              refine h_op (r_assign rfl) ?_
              refine h_nil ?_
              refine q_then ?_
              refine h_ret ?_
              exact h_ret1 rfl rfl fun w s => ⟨⟨h1, hle1⟩, rfl, (same (L' := [.zone true h1]) w s).res (List.Sublist.refl _) (by simp [Fa.wr])⟩
        · refine h_call ((Ends_keys h l (some ⟨bA, oA, none⟩) c hc (by omega) ks K kc t hp (by omega) he).comes) rfl rfl rfl fun _ => ?_
          refine h_op (r_move rfl) ?_
          refine h_op (r_extract rfl rfl) ?_
          refine h_op (r_extract rfl rfl) ?_
          refine h_op (r_assign rfl) ?_
          refine h_op (r_assign rfl) ?_
          refine h_nil ?_
          refine q_then ?_
          refine h_seq ?_
          refine h_reg ?_
          refine h_op (r_move rfl) ?_
          refine h_call (hC.comes) rfl rfl rfl fun _ => ?_
          refine h_op (r_assign rfl) ?_
          refine h_nil ?_
          refine q_then ?_
          refine h_seq ?_
          refine h_seq ?_
          refine h_reg ?_
          refine h_op (r_move rfl) ?_
          refine h_op (r_eql rfl rfl) ?_
          refine h_nil ?_
          refine q_then ?_
          refine h_yes rfl (rfl) ?_
          refine h_reg ?_
          refine h_op (r_move rfl) ?_
          refine h_call (hk1.comes) rfl rfl rfl fun _ => ?_
          refine h_op (r_assign rfl) ?_
          refine h_nil ?_
          refine q_then ?_
          refine h_seq ?_
          refine h_seq ?_
          refine h_reg ?_
          refine h_op (r_move rfl) ?_
          refine h_op (r_bool (r_eql rfl rfl) (decide_eq_false he)) ?_
          refine h_op (r_move rfl) ?_
          refine h_opOff ?_
          refine h_opOff ?_
          refine h_opOff ?_
          refine h_opOff ?_
          refine h_op (r_pick rfl rfl) ?_
          refine h_nil ?_
          refine q_then ?_
          refine h_condF rfl ?_
          refine h_skip ?_
          refine q_then ?_
          refine h_seq ?_
          refine h_seq ?_
          refine h_reg ?_
          refine h_op (r_move rfl) ?_
          refine h_op (r_neq rfl rfl) ?_
          refine h_nil ?_
          refine q_then ?_
          refine h_yes rfl (he) ?_
          refine h_seq ?_
          refine h_reg ?_
          refine h_call ((alive19_s h).comes) rfl rfl rfl fun ⟨h1, hle1⟩ => ?_
          dsimp only
          refine h_op (r_move rfl) ?_
          refine h_op (r_move rfl) ?_
          refine h_op (r_len rfl) ?_
          refine h_op (r_bool (r_eql rfl rfl) rfl) ?_
          refine h_op (r_pick rfl rfl) ?_
          refine h_op (r_move rfl) ?_
          refine h_op (r_move rfl) ?_
          refine h_op (r_move rfl) ?_
          refine h_op (r_bool (r_eql rfl rfl) (decide_eq_true rfl)) ?_
          refine h_op (r_pick rfl rfl) ?_
          refine h_op (r_assign rfl) ?_
          refine h_nil ?_
          refine q_then ?_
          refine h_ret ?_
          refine q_thenR ?_
          exact h_ret1 rfl rfl fun w s => ⟨⟨h1, hle1⟩, rfl, (same (L' := [.zone true h1]) w s).res (List.Sublist.refl _) (by simp [Fa.wr])⟩
    · refine h_seq ?_
      refine h_reg ?_
      refine h_op (r_assign rfl) ?_
      refine h_nil ?_
      refine q_then ?_
      refine h_seq ?_
      refine h_seq ?_
      refine h_reg ?_
      refine h_op (r_move rfl) ?_
      refine h_call (hF.comes) rfl rfl rfl fun _ => ?_
      refine h_op (r_bool (r_eql rfl rfl) rfl) ?_
      refine h_op (r_move rfl) ?_
      refine h_op (r_move rfl) ?_
      refine h_op (r_len rfl) ?_
      refine h_op (r_bool (r_gtr rfl rfl) (decide_eq_true (by omega))) ?_
      refine h_op (r_pick rfl rfl) ?_
      refine h_nil ?_
      refine q_then ?_
      refine h_condT rfl ?_
      refine h_seq ?_
      refine h_reg ?_
      refine h_call ((alive19_s h).comes) rfl rfl rfl fun ⟨h1, hle1⟩ => ?_
      refine h_op (r_assign rfl) ?_
      refine h_nil ?_
      refine q_then ?_
      refine h_ret ?_
      refine q_thenR ?_
      exact h_ret1 rfl rfl fun w s => ⟨⟨h1, hle1⟩, rfl, (same (L' := [.zone true h1]) w s).res (List.Sublist.refl _) (by simp [Fa.wr])⟩
  · rw [if_neg hl] at hF
    refine h_seq ?_
    refine h_reg ?_
    refine h_op (r_assign rfl) ?_
    refine h_nil ?_
    refine q_then ?_
    refine h_seq ?_
    refine h_seq ?_
    refine h_reg ?_
    refine h_op (r_move rfl) ?_
    refine h_call (hF.comes) rfl rfl rfl fun _ => ?_
    refine h_op (r_bool (r_eql rfl rfl) rfl) ?_
    refine h_op (r_move rfl) ?_
    refine h_opOff ?_
    refine h_opOff ?_
    refine h_opOff ?_
    refine h_op (r_pick rfl rfl) ?_
    refine h_nil ?_
    refine q_then ?_
    refine h_condT rfl ?_
    refine h_seq ?_
    refine h_reg ?_
    refine h_call ((alive19_s h).comes) rfl rfl rfl fun ⟨h1, hle1⟩ => ?_
    refine h_op (r_assign rfl) ?_
    refine h_nil ?_
    refine q_then ?_
    refine h_ret ?_
    refine q_thenR ?_
    exact h_ret1 rfl rfl fun w s => ⟨⟨h1, hle1⟩, rfl, (same (L' := [.zone true h1]) w s).res (List.Sublist.refl _) (by simp [Fa.wr])⟩
end
end Go.Proofs.YtgfkbeipckbkiaaDoor
