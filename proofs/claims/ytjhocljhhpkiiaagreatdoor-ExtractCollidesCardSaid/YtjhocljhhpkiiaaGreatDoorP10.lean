/- The reference's maps: Put, Of, Few, Root; The reference's maps: Few, Root; the tree that grows out of a map; The tree that grows out of a map; put: a key that is put into a tree; put: At, Put, All; Proofs compared, copied, held against a claim; Proofs copied, and held against a claim; A proof's siblings, expanded: the program; fold: the end, Backward; fold.ways: what it yields (joined texts: U39 U40 U41 U42 U43 U44 U45 U17 U18 U19) -/
import Derived.Test.YtjhocljhhpkiiaaGreatDoorP9
set_option linter.all false
/- U39 -/
namespace Go.Proofs.YtjhocljhhpkiiaaGreatDoor
set_option linter.unusedSimpArgs false
set_option linter.unusedVariables false
open Go.RowKit
/-- what Put has written behind k entries of the rest -/
def putK (e : En) (r : List En) (k : Nat) (done : Bool) : List En := if done then insE e (r.take k) else r.take k
theorem putK_len (e : En) (r : List En) (k : Nat) (done : Bool) : (putK e r k done).length ≤ r.length + 1 := by
  unfold putK
  split
  · rw [insE_len, List.length_take]; omega
  · rw [List.length_take]; omega
/-- whether it is done -/
def doneK (e : En) (r : List En) (k : Nat) (done : Bool) : Prop := if done = true then ∃ f ∈ r.take k, cmpB e.key f.key < 0 else ∀ f ∈ r.take k, ¬ cmpB e.key f.key < 0
theorem take_snocE {α : Type} {l : List α} {k : Nat} {x : α} (h : l[k]? = some x) : l.take (k + 1) = l.take k ++ [x] := by rw [List.take_add_one, h]; rfl
theorem putK_done {e x : En} {r : List En} {k : Nat} (h : r[k]? = some x) (hd : doneK e r k true) : putK e r (k + 1) true = putK e r k true ++ [x] ∧ doneK e r (k + 1) true := by
  unfold doneK at hd ⊢
  rw [if_pos rfl] at hd ⊢
  unfold putK
  rw [if_pos rfl, if_pos rfl, take_snocE h, insE_snoc_in hd]
  obtain ⟨f, hf, h2⟩ := hd
  exact ⟨rfl, f, List.mem_append_left _ hf, h2⟩
theorem putK_now {e x : En} {r : List En} {k : Nat} (h : r[k]? = some x) (hd : doneK e r k false) (hc : cmpB e.key x.key < 0) : putK e r (k + 1) true = putK e r k false ++ [e] ++ [x] ∧ doneK e r (k + 1) true := by
  unfold doneK at hd ⊢
  rw [if_neg (by simp)] at hd
  rw [if_pos rfl]
  unfold putK
  rw [if_pos rfl, if_neg (by simp), take_snocE h, insE_snoc_now hd hc]
  exact ⟨by simp, x, by simp, hc⟩
theorem putK_not {e x : En} {r : List En} {k : Nat} (h : r[k]? = some x) (hd : doneK e r k false) (hc : ¬ cmpB e.key x.key < 0) : putK e r (k + 1) false = putK e r k false ++ [x] ∧ doneK e r (k + 1) false := by
  unfold doneK at hd ⊢
  rw [if_neg (by simp)] at hd ⊢
  unfold putK
  rw [if_neg (by simp), if_neg (by simp), take_snocE h]
  refine ⟨rfl, fun f hf => ?_⟩
  rcases List.mem_append.1 hf with hf | hf
  · exact hd f hf
  · rw [List.mem_singleton.1 hf]; exact hc
theorem putK_end {e : En} {r : List En} {done : Bool} (hd : doneK e r r.length done) : insE e r = if done then putK e r r.length true else putK e r r.length false ++ [e] := by
  unfold doneK at hd
  unfold putK
  cases done
  · rw [if_neg (by simp), List.take_length] at hd
    rw [insE_none hd]; simp
  · simp
theorem remK_len (m : List En) (key : B32) : (remK m key).length ≤ m.length := List.length_filter_le _ _
theorem Put_s (m : List En) (B : Option Addr) (c : Nat) (e : En) (hm : m.length ≤ 10000000) : Spec Tryz.prog 116 [.slice B m.length c, .agg e.key.cells.toArray, .slice e.e.value.A e.e.value.n e.e.value.c].toArray [.rd B (ents m)] [] (fun u : Option Addr × Nat => .slice u.1 (putM m e).length u.2) (fun u => [.own (.slice u.1 (putM m e).length u.2) (putM m e).length 124 33 (ents (putM m e))]) := by
  have hrl := remK_len m e.key
  unfold putM
  refine spec_of Tryz.func116 rfl (n := 54) rfl rfl ?_
  intro W
  refine h_seq ?_
  refine h_reg ?_
  refine h_opX (x_box rfl) fun g4 => ?_
  refine h_op (r_assign rfl) ?_
  refine h_nil ?_
  refine q_then ?_
  refine h_seq ?_
  refine h_reg ?_
  refine h_op (r_assign rfl) ?_
  refine h_nil ?_
  refine q_then ?_
  refine h_seq ?_
  refine h_reg ?_
  refine h_op (r_assign rfl) ?_
  refine h_nil ?_
  refine q_then ?_
  refine h_seq ?_
  refine h_reg ?_
  refine h_op (r_move rfl) ?_
  refine h_op (r_loadr rfl) ?_
  refine h_call ((Remove_s m B c e.key (by omega)).comes) rfl rfl rfl fun ⟨A13, c13⟩ => ?_
  dsimp only
  have hR : Spec Tryz.prog 92 [.agg e.key.cells.toArray, .agg e.key.cells.toArray].toArray [] [] (fun _ : Unit => .int .i64 (cmpB e.key e.key)) (fun _ => []) := Compare_s e.key e.key
  clear hR
  generalize remK m e.key = r at *
  refine h_pure (φ := ∀ i, i < r.length → ∃ g, A13 = some ⟨g, 0, none⟩) (fun w s i hi => s.ownSome (N := r.length) (c := c13) (by omega)) fun hA13 => ?_
  refine h_op (r_assign rfl) ?_
  refine h_nil ?_
  refine q_then ?_
  refine h_seq ?_
  refine h_seq ?_
  refine h_reg ?_
  refine h_op (r_assign rfl) ?_
  refine h_nil ?_
  refine q_then ?_
  refine h_block ?_
  refine h_nil_own 124 33 (xs := ents (putK e r 0 false)) rfl ?_
  change H _ _ _ _ _ (.own (.slice none (putK e r 0 false).length 0) (putK e r 0 false).length _ _ _ :: _) _
  refine h_loop (fun (s : Nat × Bool × Option Addr × Nat) => s.1 ≤ r.length ∧ doneK e r s.1 s.2.1) (fun (s : Nat × Bool × Option Addr × Nat) => [(10, .int .i64 (s.1 : Int)), (8, .bool s.2.1), (7, .slice s.2.2.1 (putK e r s.1 s.2.1).length s.2.2.2), (9, .slice A13 r.length c13), (4, .pointer (some ⟨g4, 0, none⟩)), (2, .slice e.e.value.A e.e.value.n e.e.value.c)]) (fun (s : Nat × Bool × Option Addr × Nat) => [.own (.slice s.2.2.1 (putK e r s.1 s.2.1).length s.2.2.2) (putK e r s.1 s.2.1).length 124 33 (ents (putK e r s.1 s.2.1)), .own (.slice A13 r.length c13) r.length 124 33 (ents r), .blk g4 e.key.cells 35]) (fun (s : Nat × Bool × Option Addr × Nat) => r.length - s.1) (0, false, none, 0) ((show 0 ≤ r.length ∧ doneK e r 0 false from ⟨Nat.zero_le _, by unfold doneK; rw [if_neg (by simp)]; intro f hf; simp at hf⟩)) ⟨rfl, rfl, rfl, rfl, rfl, rfl, trivial⟩ (same) ?_
  rintro ⟨k, done, A, c'⟩ ⟨hk, hd⟩
  dsimp only at hk hd ⊢
  have hlen := putK_len e r k done
  refine h_seq ?_
  refine h_seq ?_
  refine h_reg ?_
  refine h_op (r_move rfl) ?_
  refine h_op (r_move rfl) ?_
  refine h_op (r_len rfl) ?_
  refine h_op (r_lss rfl rfl) ?_
  refine h_nil ?_
  refine q_then ?_
  refine h_cond rfl (fun h => ?_) (fun h => ?_)
  · obtain ⟨x, hx⟩ := getE (l := r) (k := k) (by omega)
    obtain ⟨g, rfl⟩ := hA13 k (by omega)
    rcases done with _ | _
    · by_cases hc : cmpB e.key x.key < 0
      · obtain ⟨hp, hd2⟩ := putK_now hx hd hc
        have hl : (putK e r k false).length + 1 + 1 = (putK e r (k + 1) true).length := by rw [hp]; simp
        refine h_skip ?_
        refine q_then ?_
        refine h_seq ?_
        refine h_block ?_
        refine h_seq ?_
        refine h_seq ?_
        refine ha_start [.blk g4 e.key.cells 35, .own (.slice (some ⟨g, 0, none⟩) r.length c13) r.length 124 33 (ents r)] [] mixed (same) ?_
        refine ha_takeP 0 rfl (r_move rfl) ?_
        refine ha_takeP 1 rfl (r_not rfl) ?_
        refine ha_takeP 2 rfl (r_move rfl) ?_
        refine ha_take 3 rfl (r_loadr rfl) ?_
        refine ha_takeP 4 rfl (r_move rfl) ?_
        refine ha_takeP 5 rfl (r_move rfl) ?_
        refine ha_takeP 6 rfl (r_idx rfl rfl) ?_
        refine ha_takeP 7 rfl (r_field rfl) ?_
        refine ha_take 8 rfl (r_nthr rfl (out := x.key.cells) (B32.cells_length _) (ents_key hx)) ?_
        refine ha_one 9 ?_
        refine ho_C 9 rfl ((Compare_s e.key x.key).comes) rfl rfl rfl (fun xx => same) fun _ => ?_
        refine ha_takeP 10 rfl (r_bool (r_lss rfl rfl) (decide_eq_true hc)) ?_
        refine ha_takeP 11 rfl (r_pick rfl rfl) ?_
        refine ha_done (by kernel_rfl) ?_
        refine q_then ?_
        refine h_condT rfl ?_
        refine h_seq ?_
        refine h_reg ?_
        refine h_op (r_move rfl) ?_
        refine h_op (r_loadr rfl) ?_
        refine h_op (r_move rfl) ?_
        refine h_op (r_build rfl) ?_
        refine h_opX (x_bsl rfl rfl) fun g36 => ?_
        refine h_opX (x_app rfl rfl (k := 33)) fun ⟨g37, c37⟩ => ?_
        refine h_op (r_assign rfl) ?_
        refine h_nil ?_
        refine q_then ?_
        refine h_reg ?_
        refine h_op (r_assign rfl) ?_
        refine h_nil ?_
        refine q_then ?_
        refine h_reg ?_
        refine h_op (r_move rfl) ?_
        refine h_op (r_move rfl) ?_
        refine h_op (r_move rfl) ?_
        refine h_op (r_idx rfl rfl) ?_
        refine h_op (r_nthr rfl (out := x.e.cells) (Entry.cells_length _) (ents_at hx)) ?_
        refine h_opX (x_bsl rfl rfl) fun g43 => ?_
        refine h_opX (x_app rfl rfl (k := 33)) fun ⟨g44, c44⟩ => ?_
        refine h_op (r_assign rfl) ?_
        refine h_nil ?_
        refine q_block ?_
        refine q_then ?_
        refine h_reg ?_
        refine h_op (r_move rfl) ?_
        refine h_op (r_add rfl rfl) ?_
        refine h_op (r_assign rfl) ?_
        refine h_nil ?_
        rw [show Entry.cells _ = e.e.cells from rfl, ents_snoc, ents_snoc, ← hp, hl]
        exact h_back (k + 1, true, some ⟨g44, 0, none⟩, c44) ((show k + 1 ≤ r.length ∧ doneK e r (k + 1) true from ⟨by omega, hd2⟩)) ((show r.length - (k + 1) < r.length - k by omega)) ⟨rfl, rfl, rfl, rfl, rfl, rfl, trivial⟩ (same)
      · obtain ⟨hp, hd2⟩ := putK_not hx hd hc
        have hl : (putK e r k false).length + 1 = (putK e r (k + 1) false).length := by rw [hp]; simp
        refine h_skip ?_
        refine q_then ?_
        refine h_seq ?_
        refine h_block ?_
        refine h_seq ?_
        refine h_seq ?_
        refine ha_start [.blk g4 e.key.cells 35, .own (.slice (some ⟨g, 0, none⟩) r.length c13) r.length 124 33 (ents r)] [] mixed (same) ?_
        refine ha_takeP 0 rfl (r_move rfl) ?_
        refine ha_takeP 1 rfl (r_not rfl) ?_
        refine ha_takeP 2 rfl (r_move rfl) ?_
        refine ha_take 3 rfl (r_loadr rfl) ?_
        refine ha_takeP 4 rfl (r_move rfl) ?_
        refine ha_takeP 5 rfl (r_move rfl) ?_
        refine ha_takeP 6 rfl (r_idx rfl rfl) ?_
        refine ha_takeP 7 rfl (r_field rfl) ?_
        refine ha_take 8 rfl (r_nthr rfl (out := x.key.cells) (B32.cells_length _) (ents_key hx)) ?_
        refine ha_one 9 ?_
        refine ho_C 9 rfl ((Compare_s e.key x.key).comes) rfl rfl rfl (fun xx => same) fun _ => ?_
        refine ha_takeP 10 rfl (r_bool (r_lss rfl rfl) (decide_eq_false hc)) ?_
        refine ha_takeP 11 rfl (r_pick rfl rfl) ?_
        refine ha_done (by kernel_rfl) ?_
        refine q_then ?_
        refine h_condF rfl ?_
        refine h_skip ?_
        refine q_then ?_
        refine h_reg ?_
        refine h_op (r_move rfl) ?_
        refine h_op (r_move rfl) ?_
        refine h_op (r_move rfl) ?_
        refine h_op (r_idx rfl rfl) ?_
        refine h_op (r_nthr rfl (out := x.e.cells) (Entry.cells_length _) (ents_at hx)) ?_
        refine h_opX (x_bsl rfl rfl) fun g43 => ?_
        refine h_opX (x_app rfl rfl (k := 33)) fun ⟨g44, c44⟩ => ?_
        refine h_op (r_assign rfl) ?_
        refine h_nil ?_
        refine q_block ?_
        refine q_then ?_
        refine h_reg ?_
        refine h_op (r_move rfl) ?_
        refine h_op (r_add rfl rfl) ?_
        refine h_op (r_assign rfl) ?_
        refine h_nil ?_
        rw [ents_snoc, ← hp, hl]
        exact h_back (k + 1, false, some ⟨g44, 0, none⟩, c44) ((show k + 1 ≤ r.length ∧ doneK e r (k + 1) false from ⟨by omega, hd2⟩)) ((show r.length - (k + 1) < r.length - k by omega)) ⟨rfl, rfl, rfl, rfl, rfl, rfl, trivial⟩ (same)
    · obtain ⟨hp, hd2⟩ := putK_done hx hd
      have hl : (putK e r k true).length + 1 = (putK e r (k + 1) true).length := by rw [hp]; simp
      refine h_skip ?_
      refine q_then ?_
      refine h_seq ?_
      refine h_block ?_
      refine h_seq ?_
      refine h_seq ?_
      refine ha_start [.blk g4 e.key.cells 35, .own (.slice (some ⟨g, 0, none⟩) r.length c13) r.length 124 33 (ents r)] [] mixed (same) ?_
      refine ha_takeP 0 rfl (r_move rfl) ?_
      refine ha_takeP 1 rfl (r_not rfl) ?_
      refine ha_takeP 2 rfl (r_move rfl) ?_
      refine ha_off 3 rfl ?_
      refine ha_off 4 rfl ?_
      refine ha_off 5 rfl ?_
      refine ha_off 6 rfl ?_
      refine ha_off 7 rfl ?_
      refine ha_off 8 rfl ?_
      refine ha_off 9 rfl ?_
      refine ha_off 10 rfl ?_
      refine ha_takeP 11 rfl (r_pick rfl rfl) ?_
      refine ha_done (by kernel_rfl) ?_
      refine q_then ?_
      refine h_condF rfl ?_
      refine h_skip ?_
      refine q_then ?_
      refine h_reg ?_
      refine h_op (r_move rfl) ?_
      refine h_op (r_move rfl) ?_
      refine h_op (r_move rfl) ?_
      refine h_op (r_idx rfl rfl) ?_
      refine h_op (r_nthr rfl (out := x.e.cells) (Entry.cells_length _) (ents_at hx)) ?_
      refine h_opX (x_bsl rfl rfl) fun g43 => ?_
      refine h_opX (x_app rfl rfl (k := 33)) fun ⟨g44, c44⟩ => ?_
      refine h_op (r_assign rfl) ?_
      refine h_nil ?_
      refine q_block ?_
      refine q_then ?_
      refine h_reg ?_
      refine h_op (r_move rfl) ?_
      refine h_op (r_add rfl rfl) ?_
      refine h_op (r_assign rfl) ?_
      refine h_nil ?_
      rw [ents_snoc, ← hp, hl]
      exact h_back (k + 1, true, some ⟨g44, 0, none⟩, c44) ((show k + 1 ≤ r.length ∧ doneK e r (k + 1) true from ⟨by omega, hd2⟩)) ((show r.length - (k + 1) < r.length - k by omega)) ⟨rfl, rfl, rfl, rfl, rfl, rfl, trivial⟩ (same)
  · obtain rfl : k = r.length := by omega
    have hp := putK_end hd
    rcases done with _ | _
    · rw [if_neg (by simp)] at hp
      have hl : (putK e r r.length false).length + 1 = (insE e r).length := by rw [hp]; simp
      refine h_exit ?_
      refine q_thenE ?_
      refine q_thenE ?_
      refine q_blockE ?_
      refine q_then ?_
      refine h_seq ?_
      refine h_seq ?_
      refine h_reg ?_
      refine h_op (r_move rfl) ?_
      refine h_op (r_not rfl) ?_
      refine h_nil ?_
      refine q_then ?_
      refine h_condT rfl ?_
      refine h_reg ?_
      refine h_op (r_move rfl) ?_
      refine h_op (r_loadr rfl) ?_
      refine h_op (r_move rfl) ?_
      refine h_op (r_build rfl) ?_
      refine h_opX (x_bsl rfl rfl) fun g51 => ?_
      refine h_opX (x_app rfl rfl (k := 33)) fun ⟨g52, c52⟩ => ?_
      refine h_op (r_assign rfl) ?_
      refine h_nil ?_
      refine q_then ?_
      refine h_seq ?_
      refine h_reg ?_
      refine h_op (r_move rfl) ?_
      refine h_op (r_assign rfl) ?_
      refine h_nil ?_
      refine q_then ?_
      refine h_ret ?_
      rw [show Entry.cells _ = e.e.cells from rfl, ents_snoc, ← hp, hl]
      exact h_ret1 rfl rfl fun w s => ⟨(some ⟨g52, 0, none⟩, c52), rfl, (same w s).res (List.Sublist.refl _) (by simp [Fa.wr])⟩
    · rw [if_pos rfl] at hp
      rw [hp]
      refine h_exit ?_
      refine q_thenE ?_
      refine q_thenE ?_
      refine q_blockE ?_
      refine q_then ?_
      refine h_seq ?_
      refine h_seq ?_
      refine h_reg ?_
      refine h_op (r_move rfl) ?_
      refine h_op (r_not rfl) ?_
      refine h_nil ?_
      refine q_then ?_
      refine h_condF rfl ?_
      refine h_skip ?_
      refine q_then ?_
      refine h_seq ?_
      refine h_reg ?_
      refine h_op (r_move rfl) ?_
      refine h_op (r_assign rfl) ?_
      refine h_nil ?_
      refine q_then ?_
      refine h_ret ?_
      exact h_ret1 rfl rfl fun w s => ⟨(A, c'), rfl, (same w s).res (List.Sublist.refl _) (by simp [Fa.wr])⟩
theorem Of_s (l : List En) (B : Option Addr) (c : Nat) (hm : l.length ≤ 1000000) : Spec Tryz.prog 64 [.slice B l.length c].toArray [.rd B (ents l)] [] (fun u : Option Addr × Nat => .slice u.1 (ofM l).length u.2) (fun u => [.own (.slice u.1 (ofM l).length u.2) (ofM l).length 124 33 (ents (ofM l))]) := by
  refine spec_of Tryz.func64 rfl (n := 24) rfl rfl ?_
  intro W
  refine h_seq ?_
  refine h_reg ?_
  refine h_op (r_assign rfl) ?_
  refine h_nil ?_
  refine q_then ?_
  refine h_seq ?_
  refine h_reg ?_
  refine h_op (r_assign rfl) ?_
  refine h_nil ?_
  refine q_then ?_
  refine h_seq ?_
  refine h_seq ?_
  refine h_reg ?_
  refine h_op (r_assign rfl) ?_
  refine h_nil ?_
  refine q_then ?_
  refine h_block ?_
  refine h_nil_own 124 33 (xs := ents (ofM (l.take 0))) rfl ?_
  change H _ _ _ _ _ (.own (.slice none (ofM (l.take 0)).length 0) (ofM (l.take 0)).length _ _ _ :: _) _
  refine h_loop (fun (s : Nat × Option Addr × Nat) => s.1 ≤ l.length) (fun (s : Nat × Option Addr × Nat) => [(4, .int .i64 (s.1 : Int)), (3, .slice s.2.1 (ofM (l.take s.1)).length s.2.2), (0, .slice B l.length c)]) (fun (s : Nat × Option Addr × Nat) => [.own (.slice s.2.1 (ofM (l.take s.1)).length s.2.2) (ofM (l.take s.1)).length 124 33 (ents (ofM (l.take s.1))), .rd B (ents l)]) (fun (s : Nat × Option Addr × Nat) => l.length - s.1) (0, none, 0) ((show 0 ≤ l.length from Nat.zero_le _)) ⟨rfl, rfl, rfl, trivial⟩ (same) ?_
  rintro ⟨k, A, c'⟩ hk
  dsimp only at hk ⊢
  have hlen : (ofM (l.take k)).length ≤ l.length := Nat.le_trans (ofM_len _) (by rw [List.length_take]; omega)
  refine h_seq ?_
  refine h_seq ?_
  refine h_reg ?_
  refine h_op (r_move rfl) ?_
  refine h_op (r_move rfl) ?_
  refine h_op (r_len rfl) ?_
  refine h_op (r_lss rfl rfl) ?_
  refine h_nil ?_
  refine q_then ?_
  refine h_cond rfl (fun h => ?_) (fun h => ?_)
  · obtain ⟨x, hx⟩ := getE (l := l) (k := k) (by omega)
    refine h_pure (φ := ∃ b o, B = some ⟨b, o, none⟩) (fun w s => Rd.some (s.ok (.rd B (ents l)) (by simp)) (by rw [ents_len]; omega)) ?_
    rintro ⟨bb, o, rfl⟩
    refine h_skip ?_
    refine q_then ?_
    refine h_seq ?_
    refine h_block ?_
    refine ha_start [.rd (some ⟨bb, o, none⟩) (ents l)] [] mixed (same) ?_
    refine ha_takeP 0 rfl (r_move rfl) ?_
    refine ha_takeP 1 rfl (r_move rfl) ?_
    refine ha_takeP 2 rfl (r_move rfl) ?_
    refine ha_takeP 3 rfl (r_idx rfl rfl) ?_
    refine ha_takeP 4 rfl (r_field rfl) ?_
    refine ha_take 5 rfl (r_nthr rfl (out := x.key.cells) (B32.cells_length _) (ents_key hx)) ?_
    refine ha_takeP 6 rfl (r_move rfl) ?_
    refine ha_takeP 7 rfl (r_move rfl) ?_
    refine ha_takeP 8 rfl (r_idx rfl rfl) ?_
    refine ha_takeP 9 rfl (r_field rfl (O' := o + (k * 33 + 32)) (by omega)) ?_
    refine ha_take 10 rfl (r_nth rfl (ents_val hx)) ?_
    refine ha_one 11 ?_
    refine ho_C 11 rfl ((Put_s (ofM (l.take k)) A c' x (by omega)).comes) rfl rfl rfl (fun xx => same) fun ⟨A22, c22⟩ => ?_
    refine ha_takeP 12 rfl (r_assign rfl) ?_
    refine ha_done (by kernel_rfl) ?_
    refine q_block ?_
    refine q_then ?_
    dsimp only
    rw [← ofM_snoc l k x hx]
    refine h_reg ?_
    refine h_op (r_move rfl) ?_
    refine h_op (r_add rfl rfl) ?_
    refine h_op (r_assign rfl) ?_
    refine h_nil ?_
    exact h_back (k + 1, A22, c22) ((show k + 1 ≤ l.length by omega)) ((show l.length - (k + 1) < l.length - k by omega)) ⟨rfl, rfl, rfl, trivial⟩ (same)
  · obtain rfl : k = l.length := by omega
    rw [List.take_length]
    refine h_exit ?_
    refine q_thenE ?_
    refine q_thenE ?_
    refine q_blockE ?_
    refine q_then ?_
    refine h_seq ?_
    refine h_reg ?_
    refine h_op (r_move rfl) ?_
    refine h_op (r_assign rfl) ?_
    refine h_nil ?_
    refine q_then ?_
    refine h_ret ?_
    exact h_ret1 rfl rfl fun w s => ⟨(A, c'), rfl, (same w s).res (List.Sublist.refl _) (by simp [Fa.wr])⟩
end Go.Proofs.YtjhocljhhpkiiaaGreatDoor
/- U40 -/
namespace Go.Proofs.YtjhocljhhpkiiaaGreatDoor
set_option linter.unusedSimpArgs false
set_option linter.unusedVariables false
open Go.RowKit
def fewM (l : List En) : Bool := decide (l.length ≤ 12) && l.all fun e => decide (e.e.value.n ≤ 200)
theorem Few_s (l : List En) (B : Option Addr) (c : Nat) (hm : l.length ≤ 1000000000000000) : Spec Tryz.prog 63 [.slice B l.length c].toArray [.rd B (ents l)] [] (fun _ : Unit => .bool (fewM l)) (fun _ => []) := by
  unfold fewM
  refine spec_of Tryz.func63 rfl (n := 20) rfl rfl ?_
  intro W
  by_cases h12 : 12 < l.length
  · rw [decide_eq_false (by omega), Bool.false_and]
    refine h_seq ?_
    refine h_reg ?_
    refine h_op (r_assign rfl) ?_
    refine h_nil ?_
    refine q_then ?_
    refine h_seq ?_
    refine h_seq ?_
    refine h_reg ?_
    refine h_op (r_move rfl) ?_
    refine h_op (r_len rfl) ?_
    refine h_op (r_gtr rfl rfl) ?_
    refine h_nil ?_
    refine q_then ?_
    refine h_yes rfl ((by omega)) ?_
    refine h_seq ?_
    refine h_reg ?_
    refine h_op (r_assign rfl) ?_
    refine h_nil ?_
    refine q_then ?_
    refine h_ret ?_
    refine q_thenR ?_
    exact h_ret1 rfl rfl fun w s => ⟨(), rfl, s.res (List.nil_sublist _) (by simp)⟩
  · rw [decide_eq_true (by omega), Bool.true_and]
    refine h_seq ?_
    refine h_reg ?_
    refine h_op (r_assign rfl) ?_
    refine h_nil ?_
    refine q_then ?_
    refine h_seq ?_
    refine h_seq ?_
    refine h_reg ?_
    refine h_op (r_move rfl) ?_
    refine h_op (r_len rfl) ?_
    refine h_op (r_gtr rfl rfl) ?_
    refine h_nil ?_
    refine q_then ?_
    refine h_no rfl ((by omega)) ?_
    refine h_skip ?_
    refine q_then ?_
    refine h_seq ?_
    refine h_seq ?_
    refine h_reg ?_
    refine h_op (r_assign rfl) ?_
    refine h_nil ?_
    refine q_then ?_
    refine h_block ?_
    refine h_loop (fun (k : Nat) => k ≤ l.length ∧ ∀ e ∈ l.take k, e.e.value.n ≤ 200) (fun (k : Nat) => [(3, .int .i64 (k : Int)), (0, .slice B l.length c)]) (fun (k : Nat) => [.rd B (ents l)]) (fun (k : Nat) => l.length - k) 0 (⟨Nat.zero_le _, fun e he => by simp at he⟩) ⟨rfl, rfl, trivial⟩ (same) ?_
    rintro k ⟨hk, ha⟩
    refine h_seq ?_
    refine h_seq ?_
    refine h_reg ?_
    refine h_op (r_move rfl) ?_
    refine h_op (r_move rfl) ?_
    refine h_op (r_len rfl) ?_
    refine h_op (r_lss rfl rfl) ?_
    refine h_nil ?_
    refine q_then ?_
    refine h_cond rfl (fun h => ?_) (fun h => ?_)
    · obtain ⟨e, he⟩ := getE (l := l) (k := k) (by omega)
      refine h_pure (φ := ∃ b o, B = some ⟨b, o, none⟩) (fun w s => Rd.some (s.ok (.rd B (ents l)) (by simp)) (by rw [ents_len]; omega)) ?_
      rintro ⟨b, o, rfl⟩
      refine h_skip ?_
      refine q_then ?_
      refine h_seq ?_
      refine h_block ?_
      refine h_seq ?_
      refine h_reg ?_
      refine h_op (r_move rfl) ?_
      refine h_op (r_move rfl) ?_
      refine h_op (r_idx rfl rfl) ?_
      refine h_op (r_field rfl (O' := o + (k * 33 + 32)) (by omega)) ?_
      refine h_op (r_nth rfl (ents_val he)) ?_
      refine h_op (r_len rfl) ?_
      refine h_op (r_gtr rfl rfl) ?_
      refine h_nil ?_
      refine q_then ?_
      refine h_cond rfl (fun h2 => ?_) (fun h2 => ?_)
      · have : (l.all fun e => decide (e.e.value.n ≤ 200)) = false := by
          rw [List.all_eq_false]
          exact ⟨e, List.mem_of_getElem? he, by simp; omega⟩
        rw [this]
        refine h_seq ?_
        refine h_reg ?_
        refine h_op (r_assign rfl) ?_
        refine h_nil ?_
        refine q_then ?_
        refine h_ret ?_
        refine q_blockR ?_
        refine q_thenR ?_
        refine q_thenR ?_
        refine q_blockR ?_
        refine q_thenR ?_
        exact h_ret1 rfl rfl fun w s => ⟨(), rfl, s.res (List.nil_sublist _) (by simp)⟩
      · have ha2 : ∀ f ∈ l.take (k + 1), f.e.value.n ≤ 200 := fun f hf => by
          rw [take_snocE he] at hf
          rcases List.mem_append.1 hf with hf | hf
          · exact ha f hf
          · rw [List.mem_singleton.1 hf]; omega
        refine h_skip ?_
        refine q_block ?_
        refine q_then ?_
        refine h_reg ?_
        refine h_op (r_move rfl) ?_
        refine h_op (r_add rfl rfl) ?_
        refine h_op (r_assign rfl) ?_
        refine h_nil ?_
        exact h_back (k + 1) (⟨by omega, ha2⟩) (by omega) ⟨rfl, rfl, trivial⟩ (same)
    · obtain rfl : k = l.length := by omega
      rw [List.take_length] at ha
      have : (l.all fun e => decide (e.e.value.n ≤ 200)) = true := List.all_eq_true.2 fun e he => decide_eq_true (ha e he)
      rw [this]
      refine h_exit ?_
      refine q_thenE ?_
      refine q_thenE ?_
      refine q_blockE ?_
      refine q_then ?_
      refine h_seq ?_
      refine h_reg ?_
      refine h_op (r_assign rfl) ?_
      refine h_nil ?_
      refine q_then ?_
      refine h_ret ?_
      exact h_ret1 rfl rfl fun w s => ⟨(), rfl, s.res (List.nil_sublist _) (by simp)⟩
theorem rValue_s (l : List UInt8) (B : Option Addr) (c : Nat) (hB : B = none → l.length = 0 ∧ c = 0) (hl : l.length ≤ 100000000) : Spec Tryz.prog 88 [.slice B l.length c].toArray [.rd B (bc l)] [] (fun u : Nat × Nat => .slice (some ⟨u.1, 0, none⟩) (preV l).length u.2) (fun u => [.own (.slice (some ⟨u.1, 0, none⟩) (preV l).length u.2) (preV l).length 5 1 (bc (preV l))]) := by
  have e : [(2 : UInt8)] ++ l = preV l := rfl
  refine spec_of Tryz.func88 rfl (n := 6) rfl rfl ?_
  intro W
  refine h_seq ?_
  refine h_reg ?_
  refine h_op (r_assign rfl) ?_
  refine h_nil ?_
  refine q_then ?_
  refine h_seq ?_
  refine h_reg ?_
  refine h_opX (x_bslV (ys := [.int .u8 2]) (bc [2]) rfl rfl (bc_one _)) fun g3 => ?_
  refine h_op (r_move rfl) ?_
  refine h_opX (x_appAB rfl rfl hB rfl (N' := (preV l).length) (hN := Nat.add_comm _ _)) fun ⟨A5, c5⟩ => ?_
  refine h_pure (φ := ∃ g, A5 = some ⟨g, 0, none⟩) (fun w s => s.ownSome (N := (preV l).length) (c := c5) (Nat.succ_pos _)) ?_
  rintro ⟨g, rfl⟩
  rw [e]
  refine h_op (r_assign rfl) ?_
  refine h_nil ?_
  refine q_then ?_
  refine h_ret ?_
  exact h_ret1 rfl rfl fun w s => ⟨(g, c5), rfl, (same w s).res (List.Sublist.refl _) (by simp [Fa.wr])⟩
theorem rLeafOf_s (n : Nat) (hn : n ≤ 256) (key : B32) (l : List UInt8) (B : Option Addr) (c : Nat) (hB : B = none → l.length = 0 ∧ c = 0) (hl : l.length ≤ 100000000) : Spec Tryz.prog 77 [.int .i64 (n : Int), .agg key.cells.toArray, .slice B l.length c].toArray [.rd B (bc l)] [] (fun _ : Unit => .agg (leafOf n key l).cells.toArray) (fun _ => []) := by
  have hpl : (preV l).length = l.length + 1 := rfl
  refine spec_of Tryz.func77 rfl (n := 13) rfl rfl ?_
  intro W
  refine h_seq ?_
  refine h_reg ?_
  refine h_opX (x_box rfl) fun g4 => ?_
  refine h_opX (x_alloc) fun g6 => ?_
  refine h_nil ?_
  refine q_then ?_
  refine h_seq ?_
  refine ha_start [.blk g4 key.cells 35] [] mixed (same) ?_
  refine ha_take 0 rfl (r_loadr rfl) ?_
  refine ha_takeP 1 rfl (r_move rfl) ?_
  refine ha_takeP 2 rfl (r_move rfl) ?_
  refine ha_one 3 ?_
  refine ho_C 3 rfl ((rValue_s l B c hB hl).comes) rfl rfl rfl (fun xx => same) fun ⟨g10, c10⟩ => ?_
  refine ha_one 4 ?_
  refine ho_C 4 rfl ((refSum5_s n hn (preV l) (some ⟨g10, 0, none⟩) c10 (fun h => by cases h) (by omega)).comes) rfl rfl rfl (fun xx => same) fun _ => ?_
  refine ha_takeP 5 rfl (r_build rfl) ?_
  refine ha_one 6 ?_
  refine ho_SL 6 rfl (s_storer rfl rfl) ?_
  refine q_then ?_
  refine h_ret ?_
  exact h_ret1 rfl (rv_row rfl) fun w s => ⟨(), rfl, s.res (List.nil_sublist _) (by simp)⟩
theorem ents_key0 (e : En) : ∀ j v, e.key.cells[j]? = some v → (ents [e])[0 + j]? = some v := fun j v hv => by have := ents_key (l := [e]) (k := 0) rfl j v hv; rwa [Nat.zero_mul] at this
theorem ents_at0 (e : En) : ∀ j v, e.e.cells[j]? = some v → (ents [e])[0 + j]? = some v := fun j v hv => by have := ents_at (l := [e]) (k := 0) rfl j v hv; rwa [Nat.zero_mul] at this
theorem ents_val0 (e : En) : (ents [e])[32]? = some (.slice e.e.value.A e.e.value.n e.e.value.c) := by have := ents_val (l := [e]) (k := 0) rfl; rwa [Nat.zero_mul, Nat.zero_add] at this
/-- each value of the entries is held -/
def ValsZ (h : Zh) (m : List En) : Prop := ∀ e ∈ m, SlZ h e.e.value e.val ∧ e.val.length ≤ 10000000
theorem ValsZ.part {h : Zh} {m : List En} (x : ValsZ h m) (d : Nat) (b : Bool) : ValsZ h (part m d b) := fun e he => x e (part_mem.1 he).1
theorem ValsZ.mono {h h' : Zh} (hl : LeZ h h') {m : List En} (x : ValsZ h m) : ValsZ h' m := fun e he => ⟨(x e he).1.mono hl, (x e he).2⟩
theorem Root_any (n : Nat) (hn : n ≤ 256) (h : Zh) {m : List En} {d : Nat} (hd : d ≤ 256) (ha : Alike m d) : m.length ≤ 1000000 → ValsZ h m → ∀ (B : Option Addr) (c : Nat), Spec Tryz.prog 25 [.int .i64 (n : Int), .slice B m.length c, .int .i64 (d : Int)].toArray [.rd B (ents m), .zone false h] [] (fun _ : Unit => .agg (rootM n m d).cells.toArray) (fun _ => []) := by
  refine parts_ind (p := fun m d => m.length ≤ 1000000 → ValsZ h m → ∀ (B : Option Addr) (c : Nat), Spec Tryz.prog 25 [.int .i64 (n : Int), .slice B m.length c, .int .i64 (d : Int)].toArray [.rd B (ents m), .zone false h] [] (fun _ : Unit => .agg (rootM n m d).cells.toArray) (fun _ => [])) ?_ ?_ ?_ (256 - d) m d (Nat.le_refl _) hd ha
  · intro d _ _ B c
    rw [rootM_nil]
    refine spec_of Tryz.func25 rfl (n := 49) rfl rfl ?_
    intro W
    refine h_seq ?_
    refine h_reg ?_
    refine h_opX (x_alloc) fun g6 => ?_
    refine h_nil ?_
    refine q_then ?_
    refine h_seq ?_
    refine h_seq ?_
    refine h_reg ?_
    refine h_op (r_move rfl) ?_
    refine h_op (r_len rfl) ?_
    refine h_op (r_bool (r_eql rfl rfl) (show _ = true by simp)) ?_
    refine h_nil ?_
    refine q_then ?_
    refine h_condT rfl ?_
    refine h_seq ?_
    refine h_reg ?_
    refine h_op (r_move rfl) ?_
    refine h_call ((rEmpty_s n hn).comes) rfl rfl rfl fun _ => ?_
    refine h_opS (s_storer rfl rfl) ?_
    refine h_nil ?_
    refine q_then ?_
    refine h_ret ?_
    refine q_thenR ?_
    exact h_ret1 rfl (rv_row rfl) fun w s => ⟨(), rfl, s.res (List.nil_sublist _) (by simp)⟩
  · intro e d hd _ hv B c
    rw [rootM_one n e hd]
    obtain ⟨hs, hvl⟩ := hv e (by simp)
    obtain ⟨⟨key, A, N, cc⟩, b⟩ := e
    obtain rfl : N = b.length := hs.len
    have hA : A = none → b.length = 0 ∧ cc = 0 := hs.nil
    have hrd : RdZ h A (bc b) := hs.rd
    dsimp only at hvl
    refine spec_of Tryz.func25 rfl (n := 49) rfl rfl ?_
    intro W
    refine h_seq ?_
    refine h_reg ?_
    refine h_opX (x_alloc) fun g6 => ?_
    refine h_nil ?_
    refine q_then ?_
    refine h_seq ?_
    refine h_seq ?_
    refine h_reg ?_
    refine h_op (r_move rfl) ?_
    refine h_op (r_len rfl) ?_
    refine h_op (r_bool (r_eql rfl rfl) (show _ = false by simp)) ?_
    refine h_nil ?_
    refine q_then ?_
    refine h_condF rfl ?_
    refine h_skip ?_
    refine q_then ?_
    refine h_seq ?_
    refine h_seq ?_
    refine h_reg ?_
    refine h_op (r_move rfl) ?_
    refine h_op (r_len rfl) ?_
    refine h_op (r_bool (r_eql rfl rfl) (show _ = true by simp)) ?_
    refine h_nil ?_
    refine q_then ?_
    refine h_condT rfl ?_
    refine h_pure (φ := ∃ b o, B = some ⟨b, o, none⟩) (fun w s => Rd.some (s.ok (.rd B (ents [⟨⟨key, ⟨A, b.length, cc⟩⟩, b⟩])) (by simp)) (by rw [ents_len]; exact Nat.zero_lt_succ _)) ?_
    rintro ⟨bb, o, rfl⟩
    refine h_seq ?_
    refine ha_start [.rd (some ⟨bb, o, none⟩) (ents [⟨⟨key, ⟨A, b.length, cc⟩⟩, b⟩])] [] mixed (same) ?_
    refine ha_takeP 0 rfl (r_move rfl) ?_
    refine ha_takeP 1 rfl (r_move rfl) ?_
    refine ha_takeP 2 rfl (r_move rfl) ?_
    refine ha_takeP 3 rfl (r_idx rfl rfl (hm := by simp)) ?_
    refine ha_takeP 4 rfl (r_field rfl) ?_
    refine ha_take 5 rfl (r_nthr rfl (out := key.cells) (B32.cells_length _) (ents_key0 ⟨⟨key, ⟨A, b.length, cc⟩⟩, b⟩)) ?_
    refine ha_takeP 6 rfl (r_move rfl) ?_
    refine ha_takeP 7 rfl (r_idx rfl rfl (hm := by simp)) ?_
    refine ha_takeP 8 rfl (r_field rfl) ?_
    refine ha_take 9 rfl (r_nth rfl (ents_val0 ⟨⟨key, ⟨A, b.length, cc⟩⟩, b⟩)) ?_
    refine ha_one 10 ?_
    refine ho_C 10 rfl ((rLeafOf_s n hn key b A cc hA (by omega)).comes) rfl rfl rfl (fun xx => same) fun _ => ?_
    refine ha_one 11 ?_
    refine ho_C 11 rfl ((rLeaf_s (leafOf n key b)).comes) rfl rfl rfl (fun xx => same) fun ⟨g28, c28⟩ => ?_
    refine ha_one 12 ?_
    refine ho_C 12 rfl ((refSum5_s n hn (preL (leafOf n key b)) (some ⟨g28, 0, none⟩) c28 (fun h => by cases h) (by rw [preL_len]; decide)).comes) rfl rfl rfl (fun xx => same) fun _ => ?_
    refine ha_one 13 ?_
    refine ho_SL 13 rfl (s_storer rfl rfl) ?_
    refine q_then ?_
    refine h_ret ?_
    refine q_thenR ?_
    exact h_ret1 rfl (rv_row rfl) fun w s => ⟨(), rfl, s.res (List.nil_sublist _) (by simp)⟩
  · intro m d ha hm hd i1 i2 hl hv B c
    have p1 := part_le m d false
    have p2 := part_le m d true
    rw [rootM_two n hm (by omega)]
    refine spec_of Tryz.func25 rfl (n := 49) rfl rfl ?_
    intro W
    refine h_seq ?_
    refine h_reg ?_
    refine h_opX (x_alloc) fun g6 => ?_
    refine h_nil ?_
    refine q_then ?_
    refine h_seq ?_
    refine h_seq ?_
    refine h_reg ?_
    refine h_op (r_move rfl) ?_
    refine h_op (r_len rfl) ?_
    refine h_op (r_eql rfl rfl) ?_
    refine h_nil ?_
    refine q_then ?_
    refine h_no rfl ((by omega)) ?_
    refine h_skip ?_
    refine q_then ?_
    refine h_seq ?_
    refine h_seq ?_
    refine h_reg ?_
    refine h_op (r_move rfl) ?_
    refine h_op (r_len rfl) ?_
    refine h_op (r_eql rfl rfl) ?_
    refine h_nil ?_
    refine q_then ?_
    refine h_no rfl ((by omega)) ?_
    refine h_skip ?_
    refine q_then ?_
    refine h_seq ?_
    refine h_reg ?_
    refine h_op (r_move rfl) ?_
    refine h_op (r_move rfl) ?_
    refine h_op (r_move rfl) ?_
    refine h_call ((Part_s m B c d false hd (by omega)).comes) rfl rfl rfl fun ⟨A33, c33⟩ => ?_
    refine h_op (r_move rfl) ?_
    refine h_op (r_add rfl rfl) ?_
    refine h_call ((i1 (by omega) (hv.part d false) A33 c33).comes) rfl rfl rfl fun _ => ?_
    refine h_opX (x_alloc) fun g7 => ?_
    refine h_opS (s_storer rfl rfl) ?_
    refine h_nil ?_
    refine q_then ?_
    refine h_seq ?_
    refine h_reg ?_
    refine h_op (r_move rfl) ?_
    refine h_op (r_move rfl) ?_
    refine h_op (r_move rfl) ?_
    refine h_call ((Part_s m B c d true hd (by omega)).comes) rfl rfl rfl fun ⟨A40, c40⟩ => ?_
    refine h_op (r_move rfl) ?_
    refine h_op (r_add rfl rfl) ?_
    refine h_call ((i2 (by omega) (hv.part d true) A40 c40).comes) rfl rfl rfl fun _ => ?_
    refine h_opX (x_alloc) fun g8 => ?_
    refine h_opS (s_storer rfl rfl) ?_
    refine h_nil ?_
    refine q_then ?_
    refine h_seq ?_
    refine h_reg ?_
    refine h_op (r_move rfl) ?_
    refine h_op (r_loadr rfl) ?_
    refine h_op (r_loadr rfl) ?_
    refine h_call ((rNode_s (rootM n (part m d false) (d + 1)) (rootM n (part m d true) (d + 1))).comes) rfl rfl rfl fun ⟨g47, c47⟩ => ?_
    refine h_call ((refSum5_s n hn (preN (rootM n (part m d false) (d + 1)) (rootM n (part m d true) (d + 1))) (some ⟨g47, 0, none⟩) c47 (fun h => by cases h) (by rw [preN_len]; decide)).comes) rfl rfl rfl fun _ => ?_
    refine h_opS (s_storer rfl rfl) ?_
    refine h_nil ?_
    refine q_then ?_
    refine h_ret ?_
    exact h_ret1 rfl (rv_row rfl) fun w s => ⟨(), rfl, s.res (List.nil_sublist _) (by simp)⟩
end Go.Proofs.YtjhocljhhpkiiaaGreatDoor
/- U41 -/
namespace Go.Proofs.YtjhocljhhpkiiaaGreatDoor
set_option linter.unusedSimpArgs false
set_option linter.unusedVariables false
open Go.RowKit
theorem mkT_cost {m : List En} {d : Nat} (hd : d ≤ 256) (ha : Alike m d) : (mkT m d).cost ≤ m.length * (4 * (257 - d)) := by
  refine parts_ind (p := fun m d => (mkT m d).cost ≤ m.length * (4 * (257 - d))) ?_ ?_ ?_ (256 - d) m d (Nat.le_refl _) hd ha
  · intro d
    rw [mkT_nil]; exact Nat.zero_le _
  · intro e d h
    rw [mkT_one e h]
    show 2 ≤ 1 * (4 * (257 - d))
    omega
  · intro m d _ hm hd i1 i2
    rw [mkT_two hm (by omega)]
    have hl := part_len m d
    have e1 := i01 ((mkT (part m d false) (d + 1)).kind = 0)
    have e2 := i01 ((mkT (part m d true) (d + 1)).kind = 0)
    have e3 : 4 * (257 - d) = 4 * (257 - (d + 1)) + 4 := by omega
    have e4 : m.length * (4 * (257 - d)) = (part m d false).length * (4 * (257 - (d + 1))) + (part m d true).length * (4 * (257 - (d + 1))) + m.length * 4 := by
      rw [e3, Nat.mul_add, ← hl, Nat.add_mul]
    rw [e4]
    show _ + _ + _ + _ + 1 ≤ _
    omega
theorem joinT_mk {m : List En} {d : Nat} (hm : 1 < m.length) (hd : d < 256) : joinT (mkT (part m d false) (d + 1)) (mkT (part m d true) (d + 1)) = mkT m d ∧ ∀ k, k + (mkT (part m d false) (d + 1)).cost + (mkT (part m d true) (d + 1)).cost + joinC (mkT (part m d false) (d + 1)) (mkT (part m d true) (d + 1)) = k + (mkT m d).cost := by
  have hl := part_len m d
  have k1 := mkT_kind (part m d false) (d := d + 1) (by omega)
  have k2 := mkT_kind (part m d true) (d := d + 1) (by omega)
  rw [mkT_two hm (by omega)]
  unfold joinT joinC
  rw [if_neg (by omega), if_neg (by omega), if_neg (by omega), if_neg (by omega)]
  refine ⟨rfl, fun k => ?_⟩
  show _ = k + (_ + _ + _ + _ + 1)
  omega
theorem Grow_any (n : Nat) (hn : n ≤ 256) (gh gc : Nat) {m : List En} {d : Nat} (hd : d ≤ 256) (ha : Alike m d) : m.length ≤ 1000000 → ∀ (h : Zh) (k : Nat) (B : Option Addr) (c : Nat), RdZ h (some ⟨1, 0, none⟩) hashT → ValsZ h m → k + (mkT m d).cost ≤ 10000000000 →
    Spec Tryz.prog 65 [.pointer (some ⟨gh, 0, none⟩), .slice B m.length c, .int .i64 (d : Int)].toArray [HR gh gc n, .rd B (ents m)] [.zone true h, CN gc k] (fun x : {x : Zh × Option Addr // LeZ h x.1 ∧ TrZ n x.1 (mkT m d) x.2} => .pointer x.1.2) (fun x => [.zone true x.1.1, CN gc (k + (mkT m d).cost)]) := by
  refine parts_ind (p := fun m d => m.length ≤ 1000000 → ∀ (h : Zh) (k : Nat) (B : Option Addr) (c : Nat), RdZ h (some ⟨1, 0, none⟩) hashT → ValsZ h m → k + (mkT m d).cost ≤ 10000000000 →
    Spec Tryz.prog 65 [.pointer (some ⟨gh, 0, none⟩), .slice B m.length c, .int .i64 (d : Int)].toArray [HR gh gc n, .rd B (ents m)] [.zone true h, CN gc k] (fun x : {x : Zh × Option Addr // LeZ h x.1 ∧ TrZ n x.1 (mkT m d) x.2} => .pointer x.1.2) (fun x => [.zone true x.1.1, CN gc (k + (mkT m d).cost)])) ?_ ?_ ?_ (256 - d) m d (Nat.le_refl _) hd ha
  · intro d _ h k B c hT _ _
    rw [mkT_nil]
    refine spec_of Tryz.func65 rfl (n := 34) rfl rfl ?_
    intro W
    refine h_seq ?_
    refine h_reg ?_
    refine h_op (r_assign rfl) ?_
    refine h_nil ?_
    refine q_then ?_
    refine h_seq ?_
    refine h_seq ?_
    refine h_reg ?_
    refine h_op (r_move rfl) ?_
    refine h_op (r_len rfl) ?_
    refine h_nil ?_
    refine q_then ?_
    refine h_block ?_
    refine h_seq ?_
    refine h_reg ?_
    refine h_op (r_bool (r_eql rfl rfl) (show _ = true by simp)) ?_
    refine h_op (r_assign rfl) ?_
    refine h_nil ?_
    refine q_then ?_
    refine h_condT rfl ?_
    refine h_seq ?_
    refine h_reg ?_
    refine h_op (r_assign rfl) ?_
    refine h_nil ?_
    refine q_then ?_
    refine h_ret ?_
    refine q_blockR ?_
    refine q_thenR ?_
    exact h_ret1 rfl rfl fun w s => ⟨⟨(h, none), LeZ.refl h, ⟨rfl⟩⟩, rfl, (same (L' := [.zone true h, CN gc k]) w s).res (List.Sublist.refl _) (by simp [Fa.wr])⟩
  · intro e d hd _ h k B c hT hv hk
    rw [mkT_one e hd] at hk ⊢
    obtain ⟨hs, hvl⟩ := hv e (by simp)
    obtain ⟨⟨key, s⟩, b⟩ := e
    dsimp only at hs hvl
    have hk' : k + 2 ≤ 10000000000 := hk
    refine spec_of Tryz.func65 rfl (n := 34) rfl rfl ?_
    intro W
    refine h_seq ?_
    refine h_reg ?_
    refine h_op (r_assign rfl) ?_
    refine h_nil ?_
    refine q_then ?_
    refine h_seq ?_
    refine h_seq ?_
    refine h_reg ?_
    refine h_op (r_move rfl) ?_
    refine h_op (r_len rfl) ?_
    refine h_nil ?_
    refine q_then ?_
    refine h_block ?_
    refine h_seq ?_
    refine h_reg ?_
    refine h_op (r_bool (r_eql rfl rfl) (show _ = false by simp)) ?_
    refine h_op (r_assign rfl) ?_
    refine h_nil ?_
    refine q_then ?_
    refine h_condF rfl ?_
    refine h_seq ?_
    refine h_reg ?_
    refine h_op (r_bool (r_eql rfl rfl) (show _ = true by simp)) ?_
    refine h_op (r_assign rfl) ?_
    refine h_nil ?_
    refine q_then ?_
    refine h_condT rfl ?_
    refine h_pure (φ := ∃ b o, B = some ⟨b, o, none⟩) (fun w s' => Rd.some (s'.ok (.rd B (ents [⟨⟨key, s⟩, b⟩])) (by simp)) (by rw [ents_len]; exact Nat.zero_lt_succ _)) ?_
    rintro ⟨bb, o, rfl⟩
    refine h_seq ?_
    refine h_reg ?_
    refine h_op (r_move rfl) ?_
    refine h_op (r_move rfl) ?_
    refine h_op (r_idx rfl rfl (hm := by simp)) ?_
    refine h_op (r_nthr rfl (out := Entry.cells ⟨key, s⟩) (Entry.cells_length _) (ents_at0 ⟨⟨key, s⟩, b⟩)) ?_
    refine h_call ((NewLeaf_s n hn gh gc k (by omega) h key s b (by omega)).comes) rfl rfl rfl fun ⟨⟨h1, p1⟩, hle, ht⟩ => ?_
    dsimp only at hle ht ⊢
    refine h_op (r_assign rfl) ?_
    refine h_nil ?_
    refine q_then ?_
    refine h_ret ?_
    refine q_blockR ?_
    refine q_thenR ?_
    exact h_ret1 rfl rfl fun w s => ⟨⟨(h1, p1), hle, ht⟩, rfl, (same (L' := [.zone true h1, CN gc (k + 2)]) w s).res (List.Sublist.refl _) (by simp [Fa.wr])⟩
  · intro m d ha hm hd i1 i2 hl h k B c hT hv hk
    have p1 := part_len m d
    obtain ⟨hj, hcost⟩ := joinT_mk hm hd
    have hck := hcost k
    have c1 := mkT_cnt (show d + 1 ≤ 256 by omega) (ha.part false)
    have c2 := mkT_cnt (show d + 1 ≤ 256 by omega) (ha.part true)
    rw [← hck, ← hj]
    rw [← hck] at hk
    refine spec_of Tryz.func65 rfl (n := 34) rfl rfl ?_
    intro W
    refine h_seq ?_
    refine h_reg ?_
    refine h_op (r_assign rfl) ?_
    refine h_nil ?_
    refine q_then ?_
    refine h_seq ?_
    refine h_seq ?_
    refine h_reg ?_
    refine h_op (r_move rfl) ?_
    refine h_op (r_len rfl) ?_
    refine h_nil ?_
    refine q_then ?_
    refine h_block ?_
    refine h_seq ?_
    refine h_reg ?_
    refine h_op (r_eql rfl rfl) ?_
    refine h_op (r_assign rfl) ?_
    refine h_nil ?_
    refine q_then ?_
    refine h_no rfl ((by omega)) ?_
    refine h_seq ?_
    refine h_reg ?_
    refine h_op (r_eql rfl rfl) ?_
    refine h_op (r_assign rfl) ?_
    refine h_nil ?_
    refine q_then ?_
    refine h_no rfl ((by omega)) ?_
    refine h_skip ?_
    refine q_block ?_
    refine q_then ?_
    refine h_seq ?_
    refine h_reg ?_
    refine h_op (r_move rfl) ?_
    refine h_op (r_move rfl) ?_
    refine h_op (r_move rfl) ?_
    refine h_op (r_move rfl) ?_
    refine h_call ((Part_s m B c d false hd (by omega)).comes) rfl rfl rfl fun ⟨A22, c22⟩ => ?_
    refine h_op (r_move rfl) ?_
    refine h_op (r_add rfl rfl) ?_
    refine h_call ((i1 (by omega) h k A22 c22 hT (hv.part d false) (by omega)).comes) rfl rfl rfl fun ⟨⟨h1, q1⟩, hle1, ht1⟩ => ?_
    dsimp only at hle1 ht1 ⊢
    refine h_op (r_move rfl) ?_
    refine h_op (r_move rfl) ?_
    refine h_op (r_move rfl) ?_
    refine h_call ((Part_s m B c d true hd (by omega)).comes) rfl rfl rfl fun ⟨A29, c29⟩ => ?_
    refine h_op (r_move rfl) ?_
    refine h_op (r_add rfl rfl) ?_
    refine h_call ((i2 (by omega) h1 (k + (mkT (part m d false) (d + 1)).cost) A29 c29 (hT.mono hle1) ((hv.part d true).mono hle1) (by omega)).comes) rfl rfl rfl fun ⟨⟨h2, q2⟩, hle2, ht2⟩ => ?_
    dsimp only at hle2 ht2 ⊢
    have hT2 : RdZ h2 (some ⟨1, 0, none⟩) hashT := (hT.mono hle1).mono hle2
    refine h_call ((Join_s n hn gh gc (k + (mkT (part m d false) (d + 1)).cost + (mkT (part m d true) (d + 1)).cost) (by omega) h2 (mkT (part m d false) (d + 1)) (mkT (part m d true) (d + 1)) q1 q2 (by omega)).comes) rfl rfl rfl fun ⟨⟨h3, q3⟩, hle3, ht3⟩ => ?_
    dsimp only at hle3 ht3 ⊢
    refine h_op (r_assign rfl) ?_
    refine h_nil ?_
    refine q_then ?_
    refine h_ret ?_
    exact h_ret1 rfl rfl fun w s => ⟨⟨(h3, q3), (hle1.trans hle2).trans hle3, ht3⟩, rfl, (same w s).res (List.Sublist.refl _) (by simp [Fa.wr])⟩
theorem ValsZ.of {h : Zh} {l : List En} (x : ValsZ h l) : ValsZ h (ofM l) := fun e he => x e (ofM_mem he)
/-- the map of some entries, and its tree -/
theorem Tree_yes (n : Nat) (hn : n ≤ 256) (l : List En) (B : Option Addr) (c : Nat) (hf : fewM l = true) (h : Zh) [hT : RdZ h (some ⟨1, 0, none⟩) hashT] [hB : RdZ h B (ents l)] (hv : ValsZ h l) : Spec Tryz.prog 15 [.int .i64 (n : Int), .slice B l.length c].toArray [] [.zone true h] (fun x : {x : Zh × Option Addr × Option Addr × Nat // LeZ h x.1 ∧ TrZ n x.1 (mkT (ofM l) 0) x.2.1} => .tuple #[.slice x.1.2.2.1 (ofM l).length x.1.2.2.2, .pointer x.1.2.1, .bool true]) (fun x => [.own (.slice x.1.2.2.1 (ofM l).length x.1.2.2.2) (ofM l).length 124 33 (ents (ofM l)), .zone true x.1.1]) := by
  have hl : l.length ≤ 12 := by unfold fewM at hf; rw [Bool.and_eq_true, decide_eq_true_eq] at hf; exact hf.1
  have hlm := ofM_len l
  have hal : Alike (ofM l) 0 := Alike.start (ofM_nodup l)
  have hcost := mkT_cost (show 0 ≤ 256 by omega) hal
  have hcost2 : (mkT (ofM l) 0).cost ≤ 12 * (4 * 257) := Nat.le_trans hcost (Nat.mul_le_mul (by omega) (by omega))
  refine spec_of Tryz.func15 rfl (n := 27) rfl rfl ?_
  intro W
  refine h_seq ?_
  refine h_reg ?_
  refine h_op (r_assign rfl) ?_
  refine h_op (r_assign rfl) ?_
  refine h_op (r_assign rfl) ?_
  refine h_nil ?_
  refine q_then ?_
  refine h_seq ?_
  refine h_seq ?_
  refine h_reg ?_
  refine h_op (r_move rfl) ?_
  refine h_call ((Right_yes n hn).comes) rfl rfl rfl fun _ => ?_
  refine h_op (r_not rfl) ?_
  refine h_op (r_move rfl) ?_
  refine h_op (r_move rfl) ?_
  refine h_call ((Few_s l B c (by omega)).comes) rfl rfl rfl fun _ => ?_
  rw [hf]
  refine h_op (r_not rfl) ?_
  refine h_op (r_pick rfl rfl) ?_
  refine h_nil ?_
  refine q_then ?_
  refine h_condF rfl ?_
  refine h_skip ?_
  refine q_then ?_
  refine h_seq ?_
  refine h_reg ?_
  refine h_op (r_move rfl) ?_
  refine h_call ((Hash_s n hn).comes) rfl rfl rfl fun ⟨gh, gc⟩ => ?_
  dsimp only
  refine h_op (r_assign rfl) ?_
  refine h_nil ?_
  refine q_then ?_
  refine h_seq ?_
  refine h_seq ?_
  refine h_reg ?_
  refine h_op (r_move rfl) ?_
  refine h_op (r_nilR rfl rfl) ?_
  refine h_nil ?_
  refine q_then ?_
  refine h_condF rfl ?_
  refine h_skip ?_
  refine q_then ?_
  refine h_seq ?_
  refine h_reg ?_
  refine h_op (r_move rfl) ?_
  refine h_call ((Of_s l B c (by omega)).comes) rfl rfl rfl fun ⟨A22, c22⟩ => ?_
  dsimp only
  refine h_op (r_assign rfl) ?_
  refine h_nil ?_
  refine q_then ?_
  refine h_seq ?_
  refine h_reg ?_
  refine h_op (r_move rfl) ?_
  refine h_op (r_move rfl) ?_
  refine h_op (r_move rfl) ?_
  refine h_call ((Grow_any n hn gh gc (show 0 ≤ 256 by omega) hal (by omega) h 0 A22 c22 hT hv.of (by omega)).comes) rfl rfl rfl fun ⟨⟨h1, q1⟩, hle1, ht1⟩ => ?_
  dsimp only at hle1 ht1 ⊢
  refine h_op (r_assign rfl) ?_
  refine h_op (r_assign rfl) ?_
  refine h_op (r_assign rfl) ?_
  refine h_nil ?_
  refine q_then ?_
  refine h_ret ?_
  exact h_ret3 rfl rfl rfl rfl fun w s => ⟨⟨(h1, q1, A22, c22), hle1, ht1⟩, rfl, (same (L' := [.own (.slice A22 (ofM l).length c22) (ofM l).length 124 33 (ents (ofM l)), .zone true h1]) w s).res (List.Sublist.refl _) (by simp [Fa.wr])⟩
end Go.Proofs.YtjhocljhhpkiiaaGreatDoor
/- U42 -/
namespace Go.Proofs.YtjhocljhhpkiiaaGreatDoor
set_option linter.unusedSimpArgs false
set_option linter.unusedVariables false
open Go.RowKit
end Go.Proofs.YtjhocljhhpkiiaaGreatDoor
/- U43 -/
namespace Go.Proofs.YtjhocljhhpkiiaaGreatDoor
set_option linter.unusedSimpArgs false
set_option linter.unusedVariables false
open Go.RowKit
end Go.Proofs.YtjhocljhhpkiiaaGreatDoor
/- U44 -/
namespace Go.Proofs.YtjhocljhhpkiiaaGreatDoor
set_option linter.unusedSimpArgs false
set_option linter.unusedVariables false
open Go.RowKit
end Go.Proofs.YtjhocljhhpkiiaaGreatDoor
/- U45 -/
namespace Go.Proofs.YtjhocljhhpkiiaaGreatDoor
set_option linter.unusedSimpArgs false
set_option linter.unusedVariables false
open Go.RowKit
/-- whether a proof's end fits a claim -/
def supP (p : Proof) (key val : B32) (present : Bool) : Bool := if present = true then decide (p.kind = 1 ∧ p.leaf = ⟨key, val⟩) else if p.kind = 1 then decide (p.leaf.key ≠ key ∧ p.depth ≤ (common p.leaf.key key : Int)) else decide (p.kind = 0)
theorem Supports_s (p : Proof) (key val : B32) (present : Bool) : Spec Tryz.prog 151 [.agg p.cells.toArray, .agg key.cells.toArray, .agg val.cells.toArray, .bool present].toArray [] [] (fun _ : Unit => .bool (supP p key val present)) (fun _ => []) := by
  unfold supP
  refine spec_of Tryz.func151 rfl (n := 44) rfl rfl ?_
  intro W
  rcases present with _ | _
  · rw [if_neg (by simp)]
    by_cases h1 : p.kind = 1
    · rw [if_pos h1]
      by_cases h2 : p.leaf.key = key
      · rw [decide_eq_false (show ¬ (p.leaf.key ≠ key ∧ p.depth ≤ (common p.leaf.key key : Int)) from fun e => e.1 h2)]
        refine h_seq ?_
        refine h_reg ?_
        refine h_opX (x_box rfl) fun g4 => ?_
        refine h_opX (x_box rfl) fun g5 => ?_
        refine h_opX (x_box rfl) fun g6 => ?_
        refine h_op (r_assign rfl) ?_
        refine h_nil ?_
        refine q_then ?_
        refine h_seq ?_
        refine h_block ?_
        refine h_seq ?_
        refine h_reg ?_
        refine h_op (r_move rfl) ?_
        refine h_op (r_assign rfl) ?_
        refine h_nil ?_
        refine q_then ?_
        refine h_condF rfl ?_
        refine h_seq ?_
        refine h_reg ?_
        refine h_op (r_field rfl) ?_
        refine h_op (r_loadc rfl) ?_
        refine h_op (r_eql rfl rfl) ?_
        refine h_op (r_assign rfl) ?_
        refine h_nil ?_
        refine q_then ?_
        refine h_yes rfl (h1) ?_
        refine h_seq ?_
        refine ha_start [.blk g4 p.cells 54, .blk g5 key.cells 35] [] mixed (same) ?_
        refine ha_takeP 0 rfl (r_field rfl) ?_
        refine ha_takeP 1 rfl (r_field rfl) ?_
        refine ha_take 2 rfl (r_loadr rfl) ?_
        refine ha_take 3 rfl (r_loadr rfl) ?_
        refine ha_takeP 4 rfl (r_bool (r_ner rfl rfl) (decide_eq_false (fun e => e h2))) ?_
        refine ha_takeP 5 rfl (r_move rfl) ?_
        refine ha_off 6 rfl ?_
        refine ha_off 7 rfl ?_
        refine ha_off 8 rfl ?_
        refine ha_off 9 rfl ?_
        refine ha_off 10 rfl ?_
        refine ha_off 11 rfl ?_
        refine ha_off 12 rfl ?_
        refine ha_off 13 rfl ?_
        refine ha_takeP 14 rfl (r_pick rfl rfl) ?_
        refine ha_takeP 15 rfl (r_assign rfl) ?_
        refine ha_done (by kernel_rfl) ?_
        refine q_then ?_
        refine h_ret ?_
        refine q_blockR ?_
        refine q_thenR ?_
        exact h_ret1 rfl rfl fun w s => ⟨(), rfl, s.res (List.nil_sublist _) (by simp)⟩
      · refine h_seq ?_
        refine h_reg ?_
        refine h_opX (x_box rfl) fun g4 => ?_
        refine h_opX (x_box rfl) fun g5 => ?_
        refine h_opX (x_box rfl) fun g6 => ?_
        refine h_op (r_assign rfl) ?_
        refine h_nil ?_
        refine q_then ?_
        refine h_seq ?_
        refine h_block ?_
        refine h_seq ?_
        refine h_reg ?_
        refine h_op (r_move rfl) ?_
        refine h_op (r_assign rfl) ?_
        refine h_nil ?_
        refine q_then ?_
        refine h_condF rfl ?_
        refine h_seq ?_
        refine h_reg ?_
        refine h_op (r_field rfl) ?_
        refine h_op (r_loadc rfl) ?_
        refine h_op (r_eql rfl rfl) ?_
        refine h_op (r_assign rfl) ?_
        refine h_nil ?_
        refine q_then ?_
        refine h_yes rfl (h1) ?_
        refine h_seq ?_
        refine ha_start [.blk g4 p.cells 54, .blk g5 key.cells 35] [] mixed (same) ?_
        refine ha_takeP 0 rfl (r_field rfl) ?_
        refine ha_takeP 1 rfl (r_field rfl) ?_
        refine ha_take 2 rfl (r_loadr rfl) ?_
        refine ha_take 3 rfl (r_loadr rfl) ?_
        refine ha_takeP 4 rfl (r_bool (r_ner rfl rfl) (decide_eq_true h2)) ?_
        refine ha_takeP 5 rfl (r_move rfl) ?_
        refine ha_takeP 6 rfl (r_field rfl) ?_
        refine ha_takeP 7 rfl (r_field rfl) ?_
        refine ha_take 8 rfl (r_loadr rfl) ?_
        refine ha_take 9 rfl (r_loadr rfl) ?_
        refine ha_takeP 11 rfl (r_field rfl) ?_
        refine ha_take 12 rfl (r_loadc rfl) ?_
        refine ha_one 10 ?_
        refine ho_C 10 rfl ((Common_s p.leaf.key key).comes) rfl rfl rfl (fun xx => same) fun _ => ?_
        refine ha_takeP 13 rfl (r_geq rfl rfl) ?_
        refine ha_takeP 14 rfl (r_pick rfl rfl) ?_
        refine ha_takeP 15 rfl (r_assign rfl) ?_
        refine ha_done (by kernel_rfl) ?_
        refine q_then ?_
        refine h_ret ?_
        refine q_blockR ?_
        refine q_thenR ?_
        exact h_ret1 rfl rfl fun w s => ⟨(), by simp [h2], s.res (List.nil_sublist _) (by simp)⟩
    · rw [if_neg h1]
      refine h_seq ?_
      refine h_reg ?_
      refine h_opX (x_box rfl) fun g4 => ?_
      refine h_opX (x_box rfl) fun g5 => ?_
      refine h_opX (x_box rfl) fun g6 => ?_
      refine h_op (r_assign rfl) ?_
      refine h_nil ?_
      refine q_then ?_
      refine h_seq ?_
      refine h_block ?_
      refine h_seq ?_
      refine h_reg ?_
      refine h_op (r_move rfl) ?_
      refine h_op (r_assign rfl) ?_
      refine h_nil ?_
      refine q_then ?_
      refine h_condF rfl ?_
      refine h_seq ?_
      refine h_reg ?_
      refine h_op (r_field rfl) ?_
      refine h_op (r_loadc rfl) ?_
      refine h_op (r_eql rfl rfl) ?_
      refine h_op (r_assign rfl) ?_
      refine h_nil ?_
      refine q_then ?_
      refine h_no rfl (h1) ?_
      refine h_skip ?_
      refine q_block ?_
      refine q_then ?_
      refine h_seq ?_
      refine h_reg ?_
      refine h_op (r_field rfl) ?_
      refine h_op (r_loadc rfl) ?_
      refine h_op (r_eql rfl rfl) ?_
      refine h_op (r_assign rfl) ?_
      refine h_nil ?_
      refine q_then ?_
      refine h_ret ?_
      exact h_ret1 rfl rfl fun w s => ⟨(), rfl, s.res (List.nil_sublist _) (by simp)⟩
  · rw [if_pos rfl]
    by_cases h1 : p.kind = 1
    · refine h_seq ?_
      refine h_reg ?_
      refine h_opX (x_box rfl) fun g4 => ?_
      refine h_opX (x_box rfl) fun g5 => ?_
      refine h_opX (x_box rfl) fun g6 => ?_
      refine h_op (r_assign rfl) ?_
      refine h_nil ?_
      refine q_then ?_
      refine h_seq ?_
      refine h_block ?_
      refine h_seq ?_
      refine h_reg ?_
      refine h_op (r_move rfl) ?_
      refine h_op (r_assign rfl) ?_
      refine h_nil ?_
      refine q_then ?_
      refine h_condT rfl ?_
      refine h_seq ?_
      refine h_reg ?_
      refine h_op (r_field rfl) ?_
      refine h_op (r_loadc rfl) ?_
      refine h_op (r_bool (r_eql rfl rfl) (decide_eq_true h1)) ?_
      refine h_op (r_move rfl) ?_
      refine h_op (r_field rfl) ?_
      refine h_op (r_loadr rfl) ?_
      refine h_op (r_loadr rfl) ?_
      refine h_op (r_loadr rfl) ?_
      refine h_op (r_build rfl) ?_
      refine h_op (r_eqr rfl rfl) ?_
      refine h_op (r_pick rfl rfl) ?_
      refine h_op (r_assign rfl) ?_
      refine h_nil ?_
      refine q_then ?_
      refine h_ret ?_
      refine q_blockR ?_
      refine q_thenR ?_
      exact h_ret1 rfl rfl fun w s => ⟨(), by simp [h1], s.res (List.nil_sublist _) (by simp)⟩
    · rw [decide_eq_false (show ¬ (p.kind = 1 ∧ p.leaf = ⟨key, val⟩) from fun e => h1 e.1)]
      refine h_seq ?_
      refine h_reg ?_
      refine h_opX (x_box rfl) fun g4 => ?_
      refine h_opX (x_box rfl) fun g5 => ?_
      refine h_opX (x_box rfl) fun g6 => ?_
      refine h_op (r_assign rfl) ?_
      refine h_nil ?_
      refine q_then ?_
      refine h_seq ?_
      refine h_block ?_
      refine h_seq ?_
      refine h_reg ?_
      refine h_op (r_move rfl) ?_
      refine h_op (r_assign rfl) ?_
      refine h_nil ?_
      refine q_then ?_
      refine h_condT rfl ?_
      refine h_seq ?_
      refine h_reg ?_
      refine h_op (r_field rfl) ?_
      refine h_op (r_loadc rfl) ?_
      refine h_op (r_bool (r_eql rfl rfl) (decide_eq_false h1)) ?_
      refine h_op (r_move rfl) ?_
      refine h_opOff ?_
      refine h_opOff ?_
      refine h_opOff ?_
      refine h_opOff ?_
      refine h_opOff ?_
      refine h_opOff ?_
      refine h_op (r_pick rfl rfl) ?_
      refine h_op (r_assign rfl) ?_
      refine h_nil ?_
      refine q_then ?_
      refine h_ret ?_
      refine q_blockR ?_
      refine q_thenR ?_
      exact h_ret1 rfl rfl fun w s => ⟨(), rfl, s.res (List.nil_sublist _) (by simp)⟩
end Go.Proofs.YtjhocljhhpkiiaaGreatDoor
/- U17 -/
namespace Go.Proofs.YtjhocljhhpkiiaaGreatDoor
set_option linter.unusedSimpArgs false
set_option linter.unusedVariables false
open Go.RowKit
theorem ok_depth {p : Proof} (h : checkP p = 0) : 0 ≤ p.depth ∧ p.depth ≤ 256 := by simpa [okJ] using checkP_zero h 1 (by omega)
theorem ok_last {p : Proof} (h : checkP p = 0) : lastI p.bitmap 256 = p.depth - 1 := by simpa [okJ] using checkP_zero h 3 (by omega)
theorem ok_sibs {p : Proof} (h : checkP p = 0) : (depths p.bitmap).length = p.sibs.n := by
  have := checkP_zero h 4 (by omega)
  simp only [okJ, decide_eq_true_eq] at this
  omega
theorem Expand_s (p : Proof) (hc : checkP p = 0) (ss : List B32) (hs : p.sibs.n = ss.length) (n : Nat) (hn : n ≤ 256) (gh gc k : Nat) (hk : k ≤ 1000000000000) (d : Nat) (hd : p.depth = (d : Int)) : Spec Tryz.prog 139 [.pointer (some ⟨gh, 0, none⟩), .agg p.cells.toArray].toArray [.rd (some ⟨gh, 0, none⟩) [.pointer (some ⟨gc, 0, none⟩), .int .i64 (n : Int)], .rd p.sibs.A (dgs ss), .rd (some ⟨1, 0, none⟩) hashT] [.blk gc [.int .i64 (k : Int)] 144] (fun g : Nat => .tuple #[.slice (some ⟨g, 0, none⟩) d d, .int .i64 0]) (fun g => [.own (.slice (some ⟨g, 0, none⟩) d d) d 42 32 (dgs (expL (sumB n preE) p.bitmap ss d)), .blk gc [.int .i64 ((k + 1 : Nat) : Int)] 144]) := by
  have hd2 := ok_depth hc
  have hl := ok_last hc
  have hsb := ok_sibs hc
  have hd256 : d ≤ 256 := by omega
  have hl256 : (depths p.bitmap).length ≤ 256 := dep_len p.bitmap 256
  refine spec_of Tryz.func139 rfl (n := 40) rfl rfl ?_
  intro W
  refine h_seq ?_
  refine h_reg ?_
  refine h_opX (x_box rfl) fun g3 => ?_
  refine h_op (r_assign rfl) ?_
  refine h_op (r_assign rfl) ?_
  refine h_nil ?_
  refine q_then ?_
  refine h_seq ?_
  refine h_seq ?_
  refine h_reg ?_
  refine h_op (r_loadr rfl) ?_
  refine h_call ((Check_s p).comes) rfl rfl rfl fun _ => ?_
  rw [hc]
  refine h_op (r_assign rfl) ?_
  refine h_nil ?_
  refine q_then ?_
  refine h_seq ?_
  refine h_reg ?_
  refine h_op (r_move rfl) ?_
  refine h_op (r_neq rfl rfl) ?_
  refine h_nil ?_
  refine q_then ?_
  refine h_no rfl ((fun h => h rfl)) ?_
  refine h_skip ?_
  refine q_then ?_
  refine h_seq ?_
  refine ha_start [.blk g3 p.cells 54] [] mixed (same) ?_
  refine ha_takeP 0 rfl (r_move rfl) ?_
  refine ha_takeP 3 rfl (r_field rfl) ?_
  refine ha_take 4 rfl (r_int (r_loadc rfl) hd) ?_
  refine ha_one 1 ?_
  refine ho_C 1 rfl ((nilDigest_s n hn gh gc k hk).comes) rfl rfl rfl (fun xx => same) fun _ => ?_
  refine ha_one 2 ?_
  refine ho_X 2 rfl (rk (x_bsl rfl rfl)) (fun _ => same) fun g17 => ?_
  refine ha_one 5 ?_
  refine ho_C 5 rfl ((Repeat_s (sumB n preE) d g17 0 1 hd256).comes) rfl rfl rfl (fun xx => same) fun g20 => ?_
  refine ha_takeP 6 rfl (r_assign rfl) ?_
  refine ha_done (by kernel_rfl) ?_
  refine q_then ?_
  rw [← expJ_0 (sumB n preE) p.bitmap ss d]
  generalize sumB n preE = e at *
  refine h_seq ?_
  refine h_seq ?_
  refine h_reg ?_
  refine h_op (r_field rfl) ?_
  refine h_op (r_loadr rfl) ?_
  refine h_call ((List_s p.bitmap).comes) rfl rfl rfl fun ⟨A23, c23⟩ => ?_
  dsimp only
  refine h_op (r_len rfl) ?_
  refine h_op (r_move rfl) ?_
  refine h_nil ?_
  refine q_then ?_
  refine h_block ?_
  refine h_loop (fun (j : Nat) => j ≤ (depths p.bitmap).length) (fun (j : Nat) => [(25, .int .i64 (j : Int)), (24, .int .i64 ((depths p.bitmap).length : Int)), (23, .slice A23 (depths p.bitmap).length c23), (7, .slice (some ⟨g20, 0, none⟩) d d), (3, .pointer (some ⟨g3, 0, none⟩))]) (fun (j : Nat) => [.own (.slice A23 (depths p.bitmap).length c23) (depths p.bitmap).length 3 1 (ic (depths p.bitmap)), .own (.slice (some ⟨g20, 0, none⟩) d d) d 42 32 (dgs (expJ e p.bitmap ss d j)), .blk gc [.int .i64 ((k + 1 : Nat) : Int)] 144, .blk g3 p.cells 54, .rd p.sibs.A (dgs ss)]) (fun (j : Nat) => (depths p.bitmap).length - j) 0 (Nat.zero_le _) ⟨rfl, rfl, rfl, rfl, rfl, trivial⟩ (same) ?_
  intro j hj
  refine h_seq ?_
  refine h_reg ?_
  refine h_op (r_lss rfl rfl) ?_
  refine h_nil ?_
  refine q_then ?_
  refine h_seq ?_
  refine h_cond rfl (fun h => ?_) (fun h => ?_)
  · have hlt : j < (depths p.bitmap).length := by omega
    obtain ⟨i, hi⟩ : ∃ i, (depths p.bitmap)[j]? = some i := ⟨_, List.getElem?_eq_getElem hlt⟩
    obtain ⟨h1, h2, h3⟩ := dep_pos hi
    have hmx := lastI_max p.bitmap 256 i h1 h2
    have hid : i < d := by omega
    have hgi : (depths p.bitmap).getD j 0 = i := by rw [List.getD, hi]; rfl
    have hset := expJ_set e p.bitmap ss d j hi hd256 hid
    have hdl := expJ_len e p.bitmap ss d j
    have hds := dgs_set (expJ e p.bitmap ss d j) i (ss.getD j zB32) (by omega)
    rw [hset] at hds
    have hjs : j < ss.length := by omega
    refine h_pure (φ := (∃ g, A23 = some ⟨g, 0, none⟩) ∧ ∃ b o, p.sibs.A = some ⟨b, o, none⟩) (fun w s => ⟨s.ownSome (N := (depths p.bitmap).length) (c := c23) (by omega), Rd.some (s.ok (.rd p.sibs.A (dgs ss)) (by simp)) (by rw [dgs_len]; omega)⟩) ?_
    rintro ⟨⟨g23, rfl⟩, b, o, hA⟩
    refine h_skip ?_
    refine q_then ?_
    refine h_seq ?_
    refine h_block ?_
    refine h_seq ?_
    refine h_reg ?_
    refine h_op (r_move rfl) ?_
    refine h_op (r_idx rfl rfl) ?_
    refine h_op (r_nth rfl (ic_at (by omega))) ?_
    refine h_op (r_assign rfl) ?_
    refine h_op (r_assign rfl) ?_
    refine h_nil ?_
    refine q_then ?_
    refine h_reg ?_
    rw [hgi]
    refine h_op (r_move rfl) ?_
    refine h_op (r_move rfl) ?_
    refine h_op (r_field rfl) ?_
    refine h_op (r_loadc rfl) ?_
    rw [hA]
    refine h_op (r_move rfl) ?_
    refine h_op (r_idx rfl rfl) ?_
    refine h_op (r_nthr rfl (out := (ss.getD j zB32).cells) (B32.cells_length _) (dgs_at hjs)) ?_
    refine h_op (r_idx rfl rfl) ?_
    refine h_opS (s_setrO rfl rfl (by rw [dgs_len, hdl]; omega) hds) ?_
    refine h_nil ?_
    refine q_block ?_
    refine q_then ?_
    refine h_reg ?_
    refine h_op (r_add rfl rfl) ?_
    refine h_op (r_move rfl) ?_
    refine h_nil ?_
    exact h_back (j + 1) (by omega) (by omega) ⟨rfl, rfl, rfl, rfl, rfl, trivial⟩ (same)
  · obtain rfl : j = (depths p.bitmap).length := by omega
    rw [expJ_all e p.bitmap ss d _ hd256 (Nat.le_refl _)]
    refine h_exit ?_
    refine q_thenE ?_
    refine q_thenE ?_
    refine q_blockE ?_
    refine q_then ?_
    refine h_seq ?_
    refine h_reg ?_
    refine h_op (r_move rfl) ?_
    refine h_op (r_assign rfl) ?_
    refine h_op (r_assign rfl) ?_
    refine h_nil ?_
    refine q_then ?_
    refine h_ret ?_
    exact h_ret2 rfl rfl rfl fun w s => ⟨g20, rfl, (same w s).res (List.Sublist.refl _) (by simp [Fa.wr])⟩
end Go.Proofs.YtjhocljhhpkiiaaGreatDoor
/- U18 -/
namespace Go.Proofs.YtjhocljhhpkiiaaGreatDoor
set_option linter.unusedSimpArgs false
set_option linter.unusedVariables false
open Go.RowKit
def endP (p : Proof) : List UInt8 := if p.kind = 1 then preL p.leaf else preE
theorem endP_len (p : Proof) : (endP p).length ≤ 65 := by
  unfold endP
  split
  · rw [preL_len]; exact Nat.le_refl _
  · decide
theorem end_s (p : Proof) : Spec Tryz.prog 191 [.agg p.cells.toArray].toArray [] [] (fun u : Nat × Nat => .slice (some ⟨u.1, 0, none⟩) (endP p).length u.2) (fun u => [.own (.slice (some ⟨u.1, 0, none⟩) (endP p).length u.2) (endP p).length 5 1 (bc (endP p))]) := by
  refine spec_of Tryz.func191 rfl (n := 10) rfl rfl ?_
  intro W
  refine h_seq ?_
  refine h_reg ?_
  refine h_opX (x_box rfl) fun g1 => ?_
  refine h_op (r_assign rfl) ?_
  refine h_nil ?_
  refine q_then ?_
  refine h_seq ?_
  refine h_seq ?_
  refine h_reg ?_
  refine h_op (r_field rfl) ?_
  refine h_op (r_loadc rfl) ?_
  refine h_op (r_eql rfl rfl) ?_
  refine h_nil ?_
  refine q_then ?_
  refine h_cond rfl (fun h => ?_) (fun h => ?_)
  · rw [show endP p = preL p.leaf from if_pos h]
    refine h_seq ?_
    refine h_reg ?_
    refine h_op (r_field rfl) ?_
    refine h_op (r_loadr rfl) ?_
    refine h_call ((pLeaf_s p.leaf).comes) rfl rfl rfl fun ⟨g, c⟩ => ?_
    dsimp only
    refine h_op (r_assign rfl) ?_
    refine h_nil ?_
    refine q_then ?_
    refine h_ret ?_
    refine q_thenR ?_
    exact h_ret1 rfl rfl fun w s => ⟨(g, c), rfl, s.res ((List.nil_sublist _).cons_cons _) (by simp [Fa.wr])⟩
  · rw [show endP p = preE from if_neg h]
    refine h_skip ?_
    refine q_then ?_
    refine h_seq ?_
    refine h_reg ?_
    refine h_call (pEmpty_s.comes) rfl rfl rfl fun ⟨g, c⟩ => ?_
    dsimp only
    refine h_op (r_assign rfl) ?_
    refine h_nil ?_
    refine q_then ?_
    refine h_ret ?_
    exact h_ret1 rfl rfl fun w s => ⟨(g, c), rfl, s.res ((List.nil_sublist _).cons_cons _) (by simp [Fa.wr])⟩
theorem Backward_s (A : Option Addr) (N c : Nat) : Spec Tryz.prog 192 [.slice A N c].toArray [] [] (fun g : Nat => .func (.func 218) #[] [.pointer (some ⟨g, 0, none⟩)].toArray) (fun g => [.blk g [.slice A N c] 52]) := by
  refine spec_of Tryz.func192 rfl (n := 4) rfl rfl ?_
  intro W
  refine h_seq ?_
  refine h_reg ?_
  refine h_opX (x_box1 rfl) fun g1 => ?_
  refine h_op (r_assign rfl) ?_
  refine h_nil ?_
  refine q_then ?_
  refine h_seq ?_
  refine h_reg ?_
  refine h_op (r_func rfl rfl) ?_
  refine h_op (r_assign rfl) ?_
  refine h_nil ?_
  refine q_then ?_
  refine h_ret ?_
  exact h_ret1 rfl rfl fun w s => ⟨g1, rfl, s.res (List.Sublist.refl _) (by simp [Fa.wr])⟩
theorem Backward_it (ds : List B32) (b o c g1 : Nat) (hl : ds.length ≤ 1000000) : IterG Tryz.prog 218 [.pointer (some ⟨g1, 0, none⟩)] [.rd (some ⟨g1, 0, none⟩) [.slice (some ⟨b, o, none⟩) ds.length c], .rd (some ⟨b, o, none⟩) (dgs ds)] [] ds.length (fun k (_ : Unit) => [.int .i64 ((ds.length - 1 - k : Nat) : Int), .agg (ds.getD (ds.length - 1 - k) zB32).cells.toArray]) (fun _ _ => []) [] := by
  refine iter_ofG Tryz.func218 rfl (n := 19) rfl rfl ?_
  intro l J Rm m0 W hJw hRm hy h0
  refine h_seq ?_
  refine h_reg ?_
  refine h_op (r_loadc rfl) ?_
  refine h_op (r_len rfl) ?_
  refine h_op (r_sub rfl rfl) ?_
  refine h_op (r_assign rfl) ?_
  refine h_nil ?_
  refine q_then ?_
  refine h_block ?_
  refine h_loop (fun (s : Nat × List Fa) => s.1 ≤ ds.length ∧ J s.1 s.2) (fun (s : Nat × List Fa) => [(3, .int .i64 ((ds.length : Int) - 1 - (s.1 : Int))), (0, .func (.yield l) #[] #[]), (1, .pointer (some ⟨g1, 0, none⟩))]) (fun (s : Nat × List Fa) => .rd (some ⟨g1, 0, none⟩) [.slice (some ⟨b, o, none⟩) ds.length c] :: .rd (some ⟨b, o, none⟩) (dgs ds) :: (s.2 ++ Rm)) (fun (s : Nat × List Fa) => ds.length - s.1) (0, m0) ((show 0 ≤ ds.length ∧ J 0 m0 from ⟨by omega, h0⟩)) ⟨aI rfl (by dsimp only; omega), rfl, rfl, trivial⟩ (fun _ s => s) ?_
  rintro ⟨k, mm⟩ ⟨hk, hJ⟩
  dsimp only at hk hJ ⊢
  refine h_seq ?_
  refine h_seq ?_
  refine h_reg ?_
  refine h_op (r_move rfl) ?_
  refine h_op (r_geq rfl rfl) ?_
  refine h_nil ?_
  refine q_then ?_
  refine h_cond rfl (fun h => ?_) (fun h => ?_)
  · have hk2 : k < ds.length := by omega
    refine h_E (E' := [(3, .int .i64 ((ds.length - 1 - k : Nat) : Int)), (0, .func (.yield l) #[] #[]), (1, .pointer (some ⟨g1, 0, none⟩))]) ⟨aI rfl (by omega), rfl, rfl, trivial⟩ ?_
    refine h_skip ?_
    refine q_then ?_
    refine h_seq ?_
    refine h_block ?_
    refine h_seq ?_
    refine h_reg ?_
    refine h_op (r_move rfl) ?_
    refine h_op (r_move rfl) ?_
    refine h_op (r_loadc rfl) ?_
    refine h_op (r_move rfl) ?_
    refine h_op (r_idx rfl rfl) ?_
    refine h_op (r_nthr rfl (out := (ds.getD (ds.length - 1 - k) zB32).cells) (B32.cells_length _) (dgs_at (by omega))) ?_
    refine h_yield (hy k () mm hk2 hJ) hRm rfl rfl fun m' hJ' => ?_
    refine h_op (r_not rfl) ?_
    refine h_nil ?_
    refine q_then ?_
    refine h_condF rfl ?_
    refine h_skip ?_
    refine q_block ?_
    refine q_then ?_
    refine h_reg ?_
    refine h_op (r_move rfl) ?_
    refine h_op (r_sub rfl rfl) ?_
    refine h_op (r_assign rfl) ?_
    refine h_nil ?_
    exact h_back (k + 1, m') ((show k + 1 ≤ ds.length ∧ J (k + 1) m' from ⟨by omega, hJ'⟩)) ((show ds.length - (k + 1) < ds.length - k by omega)) ⟨aI rfl (by omega), rfl, rfl, trivial⟩ (fun _ s => s)
  · obtain rfl : k = ds.length := by omega
    refine h_exit ?_
    refine q_thenE ?_
    refine q_thenE ?_
    refine q_blockE ?_
    refine h_end ?_
    exact h_ret0 rfl fun w s => ⟨_, mm, rfl, hJ, s.res (((List.sublist_append_left _ _).cons _).cons _) (hJw _ _ hJ)⟩
theorem ways_s (gh : Value) (p : Proof) (A : Option Addr) (N c : Nat) (key : B32) (hg : gh.cells = #[gh]) : Spec Tryz.prog 140 [gh, .agg p.cells.toArray, .slice A N c, .agg key.cells.toArray].toArray [] [] (fun u : Nat × Nat × Nat × Nat => .func (.func 190) #[] [.pointer (some ⟨u.1, 0, none⟩), .pointer (some ⟨u.2.1, 0, none⟩), .pointer (some ⟨u.2.2.1, 0, none⟩), .pointer (some ⟨u.2.2.2, 0, none⟩)].toArray) (fun u => [.blk u.1 p.cells 54, .blk u.2.1 [gh] 36, .blk u.2.2.1 [.slice A N c] 52, .blk u.2.2.2 key.cells 35]) := by
  refine spec_of Tryz.func140 rfl (n := 10) rfl rfl ?_
  intro W
  refine h_seq ?_
  refine h_reg ?_
  refine h_opX (x_box1 rfl hg) fun g4 => ?_
  refine h_opX (x_box rfl) fun g5 => ?_
  refine h_opX (x_box1 rfl) fun g6 => ?_
  refine h_opX (x_box rfl) fun g7 => ?_
  refine h_op (r_assign rfl) ?_
  refine h_nil ?_
  refine q_then ?_
  refine h_seq ?_
  refine h_reg ?_
  refine h_op (r_func rfl rfl) ?_
  refine h_op (r_assign rfl) ?_
  refine h_nil ?_
  refine q_then ?_
  refine h_ret ?_
  exact h_ret1 rfl rfl fun w s => ⟨(g5, g4, g6, g7), rfl, (same w s).res (List.Sublist.refl _) (by simp [Fa.wr])⟩
end Go.Proofs.YtjhocljhhpkiiaaGreatDoor
/- U19 -/
namespace Go.Proofs.YtjhocljhhpkiiaaGreatDoor
set_option linter.unusedSimpArgs false
set_option linter.unusedVariables false
open Go.RowKit
/-- the preimages along the way, from the end on -/
def wayP (n : Nat) (key : B32) (ds : List B32) (pre : List UInt8) : Nat → List UInt8
  | 0 => pre
  | k + 1 => if bitAt key (ds.length - 1 - k) then preN (ds.getD (ds.length - 1 - k) zB32) (sumB n (wayP n key ds pre k)) else preN (sumB n (wayP n key ds pre k)) (ds.getD (ds.length - 1 - k) zB32)
theorem wayP_len (n : Nat) (key : B32) (ds : List B32) (pre : List UInt8) (h : pre.length ≤ 65) : ∀ k, (wayP n key ds pre k).length ≤ 65
  | 0 => h
  | k + 1 => by
    rw [wayP]
    split <;> rw [preN_len] <;> exact Nat.le_refl _
theorem Bit_y (b : B32) (i : Nat) (hi : i < 256) (h : bitAt b i = true) : Spec Tryz.prog 147 [.agg b.cells.toArray, .int .i64 (i : Int)].toArray [] [] (fun _ : Unit => .int .i64 1) (fun _ => []) := by
  have := Bit_s b i hi
  rwa [show bitN b i = 1 by unfold bitN; rw [h]; rfl] at this
theorem Bit_n (b : B32) (i : Nat) (hi : i < 256) (h : ¬ bitAt b i = true) : Spec Tryz.prog 147 [.agg b.cells.toArray, .int .i64 (i : Int)].toArray [] [] (fun _ : Unit => .int .i64 0) (fun _ => []) := by
  have := Bit_s b i hi
  rwa [show bitN b i = 0 by unfold bitN; rw [if_neg h]] at this
instance (a b : B32) : RowAt (a.cells ++ b.cells) 0 32 a.cells := ⟨fun j v hv => by rw [Nat.zero_add, List.getElem?_append_left (List.getElem?_eq_some_iff.1 hv).1]; exact hv, B32.cells_length a⟩
instance (a b : B32) : RowAt (a.cells ++ b.cells) 32 32 b.cells := ⟨fun j v hv => by rw [List.getElem?_append_right (by rw [B32.cells_length]; omega), B32.cells_length, Nat.add_sub_cancel_left]; exact hv, B32.cells_length b⟩
/-! tails -/
class TakeTl (m L : List Fa) (M : outParam (List Fa)) : Prop where
  perm : L.Perm (m ++ M)
instance (m R : List Fa) : TakeTl m (m ++ R) R := ⟨List.Perm.refl _⟩
instance (priority := 100) (m : List Fa) (f : Fa) (L M : List Fa) [h : TakeTl m L M] : TakeTl m (f :: L) (f :: M) := ⟨(h.perm.cons f).trans List.perm_middle.symm⟩
instance (priority := 5) (m L M : List Fa) [h : TakeTl m L M] : Take m L M := ⟨h.perm⟩
class RmOk (Rm : List Fa) : Prop where
  ok : ∀ r ∈ Rm, r.wr = false
instance (Rm : List Fa) [h : RmOk Rm] : Rds Rm Rm := ⟨fun hw r hr => ⟨h.ok r hr, hw.ok r hr, fun k hk => ⟨r, hr, hk⟩⟩⟩
instance (priority := 5) (Rm : List Fa) (f : Fa) (L : List Fa) [RmOk Rm] [h : Rds L Rm] : Rds (f :: L) Rm := ⟨fun hw r hr => by
  obtain ⟨h1, h2, h3⟩ := h.ok hw.tail r hr
  exact ⟨h1, h2, fun k hk => let ⟨g, hg, hgk⟩ := h3 k hk; ⟨g, List.mem_cons_of_mem _ hg, hgk⟩⟩⟩
theorem Sx.mid {A : List Fa} {W w : World} {pre m l R : List Fa} (s : Sx A W w (pre ++ (m ++ (l ++ R)))) : Sx A W w (pre ++ (l ++ (m ++ R))) := s.perm (List.Perm.append_left _ (by
  rw [← List.append_assoc, ← List.append_assoc]
  exact List.Perm.append_right _ List.perm_append_comm))
/-- what the walk has at round k -/
def wayF (n : Nat) (key : B32) (ds : List B32) (pre : List UInt8) (gc k0 g6 g7 k : Nat) (m : List Fa) (u : Nat × Nat) : List Fa :=
  .blk g6 [.slice (some ⟨u.1, 0, none⟩) (wayP n key ds pre k).length u.2] 23 :: .blk g7 (sumB n (wayP n key ds pre k)).cells 42 :: .own (.slice (some ⟨u.1, 0, none⟩) (wayP n key ds pre k).length u.2) (wayP n key ds pre k).length 5 1 (bc (wayP n key ds pre k)) :: .blk gc [.int .i64 ((k0 + k + 1 : Nat) : Int)] 144 :: m
theorem wayF_wr {n : Nat} {key : B32} {ds : List B32} {pre : List UInt8} {gc k0 g6 g7 k : Nat} {m : List Fa} {u : Nat × Nat} (h : ∀ f ∈ m, f.wr = true) : ∀ f ∈ wayF n key ds pre gc k0 g6 g7 k m u, f.wr = true := by
  intro f hf
  unfold wayF at hf
  simp only [List.mem_cons] at hf
  rcases hf with rfl | rfl | rfl | rfl | hf
  · rfl
  · rfl
  · rfl
  · rfl
  · exact h f hf
theorem ways_it (p : Proof) (n : Nat) (hn : n ≤ 256) (key : B32) (ds : List B32) (hds : ds.length ≤ 256) (gh gc k0 b o c a1 a2 a3 a4 : Nat) (hk0 : k0 ≤ 900000000000) : IterG Tryz.prog 190 [.pointer (some ⟨a1, 0, none⟩), .pointer (some ⟨a2, 0, none⟩), .pointer (some ⟨a3, 0, none⟩), .pointer (some ⟨a4, 0, none⟩)] [.rd (some ⟨a1, 0, none⟩) p.cells, .rd (some ⟨a2, 0, none⟩) [.pointer (some ⟨gh, 0, none⟩)], .rd (some ⟨a3, 0, none⟩) [.slice (some ⟨b, o, none⟩) ds.length c], .rd (some ⟨a4, 0, none⟩) key.cells, .rd (some ⟨gh, 0, none⟩) [.pointer (some ⟨gc, 0, none⟩), .int .i64 (n : Int)], .rd (some ⟨b, o, none⟩) (dgs ds), .rd (some ⟨1, 0, none⟩) hashT] [.blk gc [.int .i64 (k0 : Int)] 144] (ds.length + 1)
    (fun k (u : Nat × Nat) => [.slice (some ⟨u.1, 0, none⟩) (wayP n key ds (endP p) k).length u.2, .agg (sumB n (wayP n key ds (endP p) k)).cells.toArray])
    (fun k (u : Nat × Nat) => [.own (.slice (some ⟨u.1, 0, none⟩) (wayP n key ds (endP p) k).length u.2) (wayP n key ds (endP p) k).length 5 1 (bc (wayP n key ds (endP p) k))])
    [.blk gc [.int .i64 ((k0 + ds.length + 1 : Nat) : Int)] 144] := by
  have hel := endP_len p
  have hE := end_s p
  generalize hpre : endP p = pre at *
  have hwl := wayP_len n key ds pre hel
  refine iter_ofG Tryz.func190 rfl (n := 45) rfl rfl ?_
  intro l J Rm m0 W hJw hRm hy h0
  have hRI : RmOk Rm := ⟨hRm⟩
  refine h_seq ?_
  refine h_reg ?_
  refine h_opX (x_box1 rfl) fun g5 => ?_
  refine h_nil ?_
  refine q_then ?_
  refine h_seq ?_
  refine h_reg ?_
  refine h_op (r_loadr rfl) ?_
  refine h_call (hE.comes) rfl rfl rfl fun ⟨gP, cP⟩ => ?_
  dsimp only
  refine h_opX (x_alloc) fun g6 => ?_
  refine h_opS (s_store rfl rfl rfl) ?_
  refine h_nil ?_
  refine q_then ?_
  refine h_seq ?_
  refine h_reg ?_
  refine h_op (r_loadc rfl) ?_
  refine h_op (r_loadc rfl) ?_
  refine h_call ((HSum_s n hn gh gc k0 (by omega) pre (some ⟨gP, 0, none⟩) cP (fun h => by cases h) (by omega)).comes) rfl rfl rfl fun _ => ?_
  refine h_opX (x_alloc) fun g7 => ?_
  refine h_opS (s_storer rfl rfl) ?_
  refine h_nil ?_
  refine q_then ?_
  refine h_seq ?_
  refine h_seq ?_
  refine h_reg ?_
  refine h_op (r_loadc rfl) ?_
  refine h_call ((Backward_s (some ⟨b, o, none⟩) ds.length c).comes) rfl rfl rfl fun g17 => ?_
  refine h_nil ?_
  refine q_then ?_
  refine h_block ?_
  change H _ _ _ _ _ (_ :: .blk g7 (sumB n (wayP n key ds pre 0)).cells _ :: .blk gc [.int .i64 ((k0 + 0 + 1 : Nat) : Int)] _ :: .blk g6 [.slice (some ⟨gP, 0, none⟩) (wayP n key ds pre 0).length cP] _ :: .own (.slice (some ⟨gP, 0, none⟩) (wayP n key ds pre 0).length cP) (wayP n key ds pre 0).length _ _ (bc (wayP n key ds pre 0)) :: _) _
  refine h_rangeG (Backward_it ds b o c g17 (by omega)) rfl (fun k mm => ∃ (u : Nat × Nat) (m1 : List Fa), mm = wayF n key ds pre gc k0 g6 g7 k m1 u ∧ J k m1) (.blk g6 [.slice (some ⟨gP, 0, none⟩) (wayP n key ds pre 0).length cP] 23 :: .blk g7 (sumB n (wayP n key ds pre 0)).cells 42 :: .own (.slice (some ⟨gP, 0, none⟩) (wayP n key ds pre 0).length cP) (wayP n key ds pre 0).length 5 1 (bc (wayP n key ds pre 0)) :: .blk gc [.int .i64 ((k0 + 0 + 1 : Nat) : Int)] 144 :: m0) (.rd (some ⟨g5, 0, none⟩) [.func (.yield l) #[] #[]] :: .rd (some ⟨a2, 0, none⟩) [.pointer (some ⟨gh, 0, none⟩)] :: .rd (some ⟨a4, 0, none⟩) key.cells :: .rd (some ⟨gh, 0, none⟩) [.pointer (some ⟨gc, 0, none⟩), .int .i64 (n : Int)] :: .rd (some ⟨1, 0, none⟩) hashT :: Rm) (by rintro k mm ⟨u, m1, rfl, hJ⟩; exact wayF_wr (hJw _ _ hJ)) ⟨(gP, cP), m0, rfl, h0⟩ rfl (fun _ _ => rfl) ?_ ?_
  · intro ll rr k _ mm W1 hr hrp hkN hJ2
    obtain ⟨⟨g, c'⟩, m1, rfl, hJ⟩ := hJ2
    unfold wayF
    simp only [List.nil_append, List.cons_append]
    refine h_L (fun w s => Sx.mid (pre := [_, _, _, _, _]) (m := m1) (l := [.rd (some ⟨g5, 0, none⟩) [.func (.yield l) #[] #[]], .rd (some ⟨a2, 0, none⟩) [.pointer (some ⟨gh, 0, none⟩)], .rd (some ⟨a4, 0, none⟩) key.cells, .rd (some ⟨gh, 0, none⟩) [.pointer (some ⟨gc, 0, none⟩), .int .i64 (n : Int)], .rd (some ⟨1, 0, none⟩) hashT]) (R := Rm) s) ?_
    simp only [List.nil_append, List.cons_append]
    refine h_seq ?_
    refine h_reg ?_
    refine h_op (r_assign rfl) ?_
    refine h_nil ?_
    refine q_then ?_
    refine h_reg ?_
    refine h_opX (x_alloc) fun g9 => ?_
    refine h_opS (s_storer rfl rfl) ?_
    refine h_nil ?_
    refine q_then ?_
    refine h_begin hr ?_
    refine h_block ?_
    refine h_seq ?_
    refine h_seq ?_
    refine h_reg ?_
    refine h_op (r_loadc rfl) ?_
    refine h_op (r_loadc rfl) ?_
    refine h_op (r_loadr rfl) ?_
    refine h_yield (hy k (g, c') m1 (by omega) hJ) hRm rfl rfl fun m' hJ' => ?_
    refine h_op (r_not rfl) ?_
    refine h_nil ?_
    refine q_then ?_
    refine h_condF rfl ?_
    refine h_skip ?_
    refine q_then ?_
    refine h_seq ?_
    refine h_reg ?_
    refine h_op (r_loadr rfl) ?_
    refine h_op (r_loadr rfl) ?_
    refine h_op (r_build rfl) ?_
    refine h_opX (x_alloc) fun g10 => ?_
    refine h_opS (s_storer rfl rfl) ?_
    refine h_nil ?_
    refine q_then ?_
    refine h_seq ?_
    have hwr2 : ∀ (g37 c37 : Nat), ∀ f ∈ (.blk g6 [.slice (some ⟨g37, 0, none⟩) (wayP n key ds pre (k + 1)).length c37] 23 :: .blk g7 (sumB n (wayP n key ds pre (k + 1))).cells 42 :: .own (.slice (some ⟨g37, 0, none⟩) (wayP n key ds pre (k + 1)).length c37) (wayP n key ds pre (k + 1)).length 5 1 (bc (wayP n key ds pre (k + 1))) :: .blk gc [.int .i64 ((k0 + k + 1 + 1 : Nat) : Int)] 144 :: m'), f.wr = true := fun g37 c37 f hf => by
      simp only [List.mem_cons] at hf
      rcases hf with rfl | rfl | rfl | rfl | hf
      · rfl
      · rfl
      · rfl
      · rfl
      · exact hJw _ _ hJ' f hf
    by_cases hb : bitAt key (ds.length - 1 - k) = true
    · have hw1 : wayP n key ds pre (k + 1) = preN (ds.getD (ds.length - 1 - k) zB32) (sumB n (wayP n key ds pre k)) := by rw [wayP, if_pos hb]
      refine ha_start [.rd (some ⟨a4, 0, none⟩) key.cells, .blk g7 (sumB n (wayP n key ds pre k)).cells 42] [] mixed (same) ?_
      refine ha_take 0 rfl (r_loadr rfl) ?_
      refine ha_takeP 1 rfl (r_move rfl) ?_
      refine ha_take 3 rfl (r_loadr rfl) ?_
      refine ha_one 2 ?_
      refine ho_C 2 rfl ((Bit_y key (ds.length - 1 - k) (by omega) hb).comes) rfl rfl rfl (fun xx => same) fun _ => ?_
      refine ha_takeP 4 rfl (r_idxA rfl rfl) ?_
      refine ha_one 5 ?_
      refine ho_SL 5 rfl (s_storer rfl rfl) ?_
      refine q_then ?_
      refine h_seq ?_
      refine h_reg ?_
      refine h_op (r_idxA rfl rfl) ?_
      refine h_op (r_loadr rfl) ?_
      refine h_op (r_idxA rfl rfl) ?_
      refine h_op (r_loadr rfl) ?_
      refine h_call ((pNode_s (ds.getD (ds.length - 1 - k) zB32) (sumB n (wayP n key ds pre k))).comes) rfl rfl rfl fun ⟨g37, c37⟩ => ?_
      dsimp only
      rw [← hw1]
      have hl1 := hwl (k + 1)
      refine h_opS (s_store rfl rfl rfl) ?_
      refine h_nil ?_
      refine q_then ?_
      refine h_reg ?_
      refine h_op (r_loadc rfl) ?_
      refine h_op (r_loadc rfl) ?_
      refine h_call ((HSum_s n hn gh gc (k0 + k + 1) (by omega) (wayP n key ds pre (k + 1)) (some ⟨g37, 0, none⟩) c37 (fun h => by cases h) (by omega)).comes) rfl rfl rfl fun _ => ?_
      refine h_opS (s_storer rfl rfl) ?_
      refine h_nil ?_
      refine q_block ?_
      exact h_endround (.blk g6 [.slice (some ⟨g37, 0, none⟩) (wayP n key ds pre (k + 1)).length c37] 23 :: .blk g7 (sumB n (wayP n key ds pre (k + 1))).cells 42 :: .own (.slice (some ⟨g37, 0, none⟩) (wayP n key ds pre (k + 1)).length c37) (wayP n key ds pre (k + 1)).length 5 1 (bc (wayP n key ds pre (k + 1))) :: .blk gc [.int .i64 ((k0 + k + 1 + 1 : Nat) : Int)] 144 :: m') hr hrp ⟨(g37, c37), m', by rw [show k0 + (k + 1) + 1 = k0 + k + 1 + 1 by omega], hJ'⟩ (hwr2 g37 c37)
    · have hw1 : wayP n key ds pre (k + 1) = preN (sumB n (wayP n key ds pre k)) (ds.getD (ds.length - 1 - k) zB32) := by rw [wayP, if_neg hb]
      refine ha_start [.rd (some ⟨a4, 0, none⟩) key.cells, .blk g7 (sumB n (wayP n key ds pre k)).cells 42] [] mixed (same) ?_
      refine ha_take 0 rfl (r_loadr rfl) ?_
      refine ha_takeP 1 rfl (r_move rfl) ?_
      refine ha_take 3 rfl (r_loadr rfl) ?_
      refine ha_one 2 ?_
      refine ho_C 2 rfl ((Bit_n key (ds.length - 1 - k) (by omega) hb).comes) rfl rfl rfl (fun xx => same) fun _ => ?_
      refine ha_takeP 4 rfl (r_idxA rfl rfl) ?_
      refine ha_one 5 ?_
      refine ho_SL 5 rfl (s_storer rfl rfl) ?_
      refine q_then ?_
      refine h_seq ?_
      refine h_reg ?_
      refine h_op (r_idxA rfl rfl) ?_
      refine h_op (r_loadr rfl) ?_
      refine h_op (r_idxA rfl rfl) ?_
      refine h_op (r_loadr rfl) ?_
      refine h_call ((pNode_s (sumB n (wayP n key ds pre k)) (ds.getD (ds.length - 1 - k) zB32)).comes) rfl rfl rfl fun ⟨g37, c37⟩ => ?_
      dsimp only
      rw [← hw1]
      have hl1 := hwl (k + 1)
      refine h_opS (s_store rfl rfl rfl) ?_
      refine h_nil ?_
      refine q_then ?_
      refine h_reg ?_
      refine h_op (r_loadc rfl) ?_
      refine h_op (r_loadc rfl) ?_
      refine h_call ((HSum_s n hn gh gc (k0 + k + 1) (by omega) (wayP n key ds pre (k + 1)) (some ⟨g37, 0, none⟩) c37 (fun h => by cases h) (by omega)).comes) rfl rfl rfl fun _ => ?_
      refine h_opS (s_storer rfl rfl) ?_
      refine h_nil ?_
      refine q_block ?_
      exact h_endround (.blk g6 [.slice (some ⟨g37, 0, none⟩) (wayP n key ds pre (k + 1)).length c37] 23 :: .blk g7 (sumB n (wayP n key ds pre (k + 1))).cells 42 :: .own (.slice (some ⟨g37, 0, none⟩) (wayP n key ds pre (k + 1)).length c37) (wayP n key ds pre (k + 1)).length 5 1 (bc (wayP n key ds pre (k + 1))) :: .blk gc [.int .i64 ((k0 + k + 1 + 1 : Nat) : Int)] 144 :: m') hr hrp ⟨(g37, c37), m', by rw [show k0 + (k + 1) + 1 = k0 + k + 1 + 1 by omega], hJ'⟩ (hwr2 g37 c37)
  · intro bb mm hJ2
    obtain ⟨⟨g, c'⟩, m1, rfl, hJ⟩ := hJ2
    unfold wayF
    refine q_block ?_
    refine q_then ?_
    simp only [List.nil_append, List.cons_append]
    refine h_L (fun w s => Sx.mid (pre := [_, _, _, _]) (m := m1) (l := [.obj bb (.deferred (some [])), .blk g17 [.slice (some ⟨b, o, none⟩) ds.length c] 52, .blk g5 [.func (.yield l) #[] #[]] 295, .rd (some ⟨a1, 0, none⟩) p.cells, .rd (some ⟨a2, 0, none⟩) [.pointer (some ⟨gh, 0, none⟩)], .rd (some ⟨a3, 0, none⟩) [.slice (some ⟨b, o, none⟩) ds.length c], .rd (some ⟨a4, 0, none⟩) key.cells, .rd (some ⟨gh, 0, none⟩) [.pointer (some ⟨gc, 0, none⟩), .int .i64 (n : Int)], .rd (some ⟨b, o, none⟩) (dgs ds), .rd (some ⟨1, 0, none⟩) hashT]) (R := Rm) s) ?_
    simp only [List.nil_append, List.cons_append]
    refine h_reg ?_
    refine h_op (r_loadc rfl) ?_
    refine h_op (r_loadc rfl) ?_
    refine h_op (r_loadr rfl) ?_
    refine h_yield (hy ds.length (g, c') m1 (by omega) hJ) hRm rfl rfl fun m' hJ' => ?_
    refine h_nil ?_
    refine h_end ?_
    refine h_mark ?_
    exact h_ret0 rfl fun w s => ⟨_, m', rfl, hJ', (same w s).res (List.Sublist.refl _) (by intro f hf; simp only [List.mem_cons, List.cons_append, List.nil_append] at hf; exact hf.elim (fun h => by rw [h]; rfl) (hJw _ _ hJ' f))⟩
end Go.Proofs.YtjhocljhhpkiiaaGreatDoor
