/- The reference's maps: Few, Root; the tree that grows out of a map; The tree that grows out of a map; put: a key that is put into a tree; put: At, Put, All; Proofs compared, copied, held against a claim; Proofs copied, and held against a claim; When a proof is well-formed: plain; A proof's siblings, expanded: the program; law15.alive: it is true; law15.alive: it is true (joined texts: U40 U41 U42 U43 U44 U45 U26p U17 U46 U47) -/
import Derived.Test.YtgfkbeipckbkiaaDoorZ14
set_option linter.all false
/- U40 -/
namespace Go.Proofs.YtgfkbeipckbkiaaDoor
set_option linter.unusedSimpArgs false
set_option linter.unusedVariables false
open Go.RowKit
def fewM (l : List En) : Bool := decide (l.length ≤ 12) && l.all fun e => decide (e.e.value.n ≤ 200)
theorem Few_s (l : List En) (B : Option Addr) (c : Nat) (hm : l.length ≤ 1000000000000000) : Spec Tryd.prog 25 [.slice B l.length c].toArray [.rd B (ents l)] [] (fun _ : Unit => .bool (fewM l)) (fun _ => []) := by
  unfold fewM
  refine spec_of Tryd.func25 rfl (n := 20) rfl rfl ?_
  intro W
  by_cases h12 : 12 < l.length
  · rw [decide_eq_false (by omega), Bool.false_and]
    refine h_seq ?_
    refine h_reg ?_
    refine h_op (r_assign rfl) ?_
    refine h_nil ?_
    refine q_then ?_
    refine h_seq ?_
    refine h_seq ?_
    refine h_reg ?_
    refine h_op (r_move rfl) ?_
    refine h_op (r_len rfl) ?_
    refine h_op (r_gtr rfl rfl) ?_
    refine h_nil ?_
    refine q_then ?_
    refine h_yes rfl ((by omega)) ?_
    refine h_seq ?_
    refine h_reg ?_
    refine h_op (r_assign rfl) ?_
    refine h_nil ?_
    refine q_then ?_
    refine h_ret ?_
    refine q_thenR ?_
    exact h_ret1 rfl rfl fun w s => ⟨(), rfl, s.res (List.nil_sublist _) (by simp)⟩
  · rw [decide_eq_true (by omega), Bool.true_and]
    refine h_seq ?_
    refine h_reg ?_
    refine h_op (r_assign rfl) ?_
    refine h_nil ?_
    refine q_then ?_
    refine h_seq ?_
    refine h_seq ?_
    refine h_reg ?_
    refine h_op (r_move rfl) ?_
    refine h_op (r_len rfl) ?_
    refine h_op (r_gtr rfl rfl) ?_
    refine h_nil ?_
    refine q_then ?_
    refine h_no rfl ((by omega)) ?_
    refine h_skip ?_
    refine q_then ?_
    refine h_seq ?_
    refine h_seq ?_
    refine h_reg ?_
    refine h_op (r_assign rfl) ?_
    refine h_nil ?_
    refine q_then ?_
    refine h_block ?_
    refine h_loop (fun (k : Nat) => k ≤ l.length ∧ ∀ e ∈ l.take k, e.e.value.n ≤ 200) (fun (k : Nat) => [(3, .int .i64 (k : Int)), (0, .slice B l.length c)]) (fun (k : Nat) => [.rd B (ents l)]) (fun (k : Nat) => l.length - k) 0 (⟨Nat.zero_le _, fun e he => by simp at he⟩) ⟨rfl, rfl, trivial⟩ (same) ?_
    rintro k ⟨hk, ha⟩
    refine h_seq ?_
    refine h_seq ?_
    refine h_reg ?_
    refine h_op (r_move rfl) ?_
    refine h_op (r_move rfl) ?_
    refine h_op (r_len rfl) ?_
    refine h_op (r_lss rfl rfl) ?_
    refine h_nil ?_
    refine q_then ?_
    refine h_cond rfl (fun h => ?_) (fun h => ?_)
    · obtain ⟨e, he⟩ := getE (l := l) (k := k) (by omega)
      refine h_pure (φ := ∃ b o, B = some ⟨b, o, none⟩) (fun w s => Rd.some (s.ok (.rd B (ents l)) (by simp)) (by rw [ents_len]; omega)) ?_
      rintro ⟨b, o, rfl⟩
      refine h_skip ?_
      refine q_then ?_
      refine h_seq ?_
      refine h_block ?_
      refine h_seq ?_
      refine h_reg ?_
      refine h_op (r_move rfl) ?_
      refine h_op (r_move rfl) ?_
      refine h_op (r_idx rfl rfl) ?_
      refine h_op (r_field rfl (O' := o + (k * 33 + 32)) (by omega)) ?_
      refine h_op (r_nth rfl (ents_val he)) ?_
      refine h_op (r_len rfl) ?_
      refine h_op (r_gtr rfl rfl) ?_
      refine h_nil ?_
      refine q_then ?_
      refine h_cond rfl (fun h2 => ?_) (fun h2 => ?_)
      · have : (l.all fun e => decide (e.e.value.n ≤ 200)) = false := by
          rw [List.all_eq_false]
          exact ⟨e, List.mem_of_getElem? he, by simp; omega⟩
        rw [this]
        refine h_seq ?_
        refine h_reg ?_
        refine h_op (r_assign rfl) ?_
        refine h_nil ?_
        refine q_then ?_
        refine h_ret ?_
        refine q_blockR ?_
        refine q_thenR ?_
        refine q_thenR ?_
        refine q_blockR ?_
        refine q_thenR ?_
        exact h_ret1 rfl rfl fun w s => ⟨(), rfl, s.res (List.nil_sublist _) (by simp)⟩
      · have ha2 : ∀ f ∈ l.take (k + 1), f.e.value.n ≤ 200 := fun f hf => by
          rw [take_snocE he] at hf
          rcases List.mem_append.1 hf with hf | hf
          · exact ha f hf
          · rw [List.mem_singleton.1 hf]; omega
        refine h_skip ?_
        refine q_block ?_
        refine q_then ?_
        refine h_reg ?_
        refine h_op (r_move rfl) ?_
        refine h_op (r_add rfl rfl) ?_
        refine h_op (r_assign rfl) ?_
        refine h_nil ?_
        exact h_back (k + 1) (⟨by omega, ha2⟩) (by omega) ⟨rfl, rfl, trivial⟩ (same)
    · obtain rfl : k = l.length := by omega
      rw [List.take_length] at ha
      have : (l.all fun e => decide (e.e.value.n ≤ 200)) = true := List.all_eq_true.2 fun e he => decide_eq_true (ha e he)
      rw [this]
      refine h_exit ?_
      refine q_thenE ?_
      refine q_thenE ?_
      refine q_blockE ?_
      refine q_then ?_
      refine h_seq ?_
      refine h_reg ?_
      refine h_op (r_assign rfl) ?_
      refine h_nil ?_
      refine q_then ?_
      refine h_ret ?_
      exact h_ret1 rfl rfl fun w s => ⟨(), rfl, s.res (List.nil_sublist _) (by simp)⟩
theorem rValue_s (l : List UInt8) (B : Option Addr) (c : Nat) (hB : B = none → l.length = 0 ∧ c = 0) (hl : l.length ≤ 100000000) : Spec Tryd.prog 64 [.slice B l.length c].toArray [.rd B (bc l)] [] (fun u : Nat × Nat => .slice (some ⟨u.1, 0, none⟩) (preV l).length u.2) (fun u => [.own (.slice (some ⟨u.1, 0, none⟩) (preV l).length u.2) (preV l).length 5 1 (bc (preV l))]) := by
  have e : [(2 : UInt8)] ++ l = preV l := rfl
  refine spec_of Tryd.func64 rfl (n := 6) rfl rfl ?_
  intro W
  refine h_seq ?_
  refine h_reg ?_
  refine h_op (r_assign rfl) ?_
  refine h_nil ?_
  refine q_then ?_
  refine h_seq ?_
  refine h_reg ?_
  refine h_opX (x_bslV (ys := [.int .u8 2]) (bc [2]) rfl rfl (bc_one _)) fun g3 => ?_
  refine h_op (r_move rfl) ?_
  refine h_opX (x_appAB rfl rfl hB rfl (N' := (preV l).length) (hN := Nat.add_comm _ _)) fun ⟨A5, c5⟩ => ?_
  refine h_pure (φ := ∃ g, A5 = some ⟨g, 0, none⟩) (fun w s => s.ownSome (N := (preV l).length) (c := c5) (Nat.succ_pos _)) ?_
  rintro ⟨g, rfl⟩
  rw [e]
  refine h_op (r_assign rfl) ?_
  refine h_nil ?_
  refine q_then ?_
  refine h_ret ?_
  exact h_ret1 rfl rfl fun w s => ⟨(g, c5), rfl, (same w s).res (List.Sublist.refl _) (by simp [Fa.wr])⟩
theorem rLeafOf_s (n : Nat) (hn : n ≤ 256) (key : B32) (l : List UInt8) (B : Option Addr) (c : Nat) (hB : B = none → l.length = 0 ∧ c = 0) (hl : l.length ≤ 100000000) : Spec Tryd.prog 38 [.int .i64 (n : Int), .agg key.cells.toArray, .slice B l.length c].toArray [.rd B (bc l)] [] (fun _ : Unit => .agg (leafOf n key l).cells.toArray) (fun _ => []) := by
  have hpl : (preV l).length = l.length + 1 := rfl
  refine spec_of Tryd.func38 rfl (n := 13) rfl rfl ?_
  intro W
  refine h_seq ?_
  refine h_reg ?_
  refine h_opX (x_box rfl) fun g4 => ?_
  refine h_opX (x_alloc) fun g6 => ?_
  refine h_nil ?_
  refine q_then ?_
  refine h_seq ?_
  refine ha_start [.blk g4 key.cells 40] [] mixed (same) ?_
  refine ha_take 0 rfl (r_loadr rfl) ?_
  refine ha_takeP 1 rfl (r_move rfl) ?_
  refine ha_takeP 2 rfl (r_move rfl) ?_
  refine ha_one 3 ?_
  refine ho_C 3 rfl ((rValue_s l B c hB hl).comes) rfl rfl rfl (fun _ => same) fun ⟨g10, c10⟩ => ?_
  refine ha_one 4 ?_
  refine ho_C 4 rfl ((refSum5_s n hn (preV l) (some ⟨g10, 0, none⟩) c10 (fun h => by cases h) (by omega)).comes) rfl rfl rfl (fun _ => same) fun _ => ?_
  refine ha_takeP 5 rfl (r_build rfl) ?_
  refine ha_one 6 ?_
  refine ho_SL 6 rfl (s_storer rfl rfl) ?_
  refine q_then ?_
  refine h_ret ?_
  exact h_ret1 rfl (rv_row rfl) fun w s => ⟨(), rfl, s.res (List.nil_sublist _) (by simp)⟩
theorem ents_key0 (e : En) : ∀ j v, e.key.cells[j]? = some v → (ents [e])[0 + j]? = some v := fun j v hv => by have := ents_key (l := [e]) (k := 0) rfl j v hv; rwa [Nat.zero_mul] at this
theorem ents_at0 (e : En) : ∀ j v, e.e.cells[j]? = some v → (ents [e])[0 + j]? = some v := fun j v hv => by have := ents_at (l := [e]) (k := 0) rfl j v hv; rwa [Nat.zero_mul] at this
theorem ents_val0 (e : En) : (ents [e])[32]? = some (.slice e.e.value.A e.e.value.n e.e.value.c) := by have := ents_val (l := [e]) (k := 0) rfl; rwa [Nat.zero_mul, Nat.zero_add] at this
/-- each value of the entries is held -/
def ValsZ (h : Zh) (m : List En) : Prop := ∀ e ∈ m, SlZ h e.e.value e.val ∧ e.val.length ≤ 10000000
theorem ValsZ.part {h : Zh} {m : List En} (x : ValsZ h m) (d : Nat) (b : Bool) : ValsZ h (part m d b) := fun e he => x e (part_mem.1 he).1
theorem ValsZ.mono {h h' : Zh} (hl : LeZ h h') {m : List En} (x : ValsZ h m) : ValsZ h' m := fun e he => ⟨(x e he).1.mono hl, (x e he).2⟩
theorem Root_any (n : Nat) (hn : n ≤ 256) (h : Zh) {m : List En} {d : Nat} (hd : d ≤ 256) (ha : Alike m d) : m.length ≤ 1000000 → ValsZ h m → ∀ (B : Option Addr) (c : Nat), Spec Tryd.prog 37 [.int .i64 (n : Int), .slice B m.length c, .int .i64 (d : Int)].toArray [.rd B (ents m), .zone false h] [] (fun _ : Unit => .agg (rootM n m d).cells.toArray) (fun _ => []) := by
  refine parts_ind (p := fun m d => m.length ≤ 1000000 → ValsZ h m → ∀ (B : Option Addr) (c : Nat), Spec Tryd.prog 37 [.int .i64 (n : Int), .slice B m.length c, .int .i64 (d : Int)].toArray [.rd B (ents m), .zone false h] [] (fun _ : Unit => .agg (rootM n m d).cells.toArray) (fun _ => [])) ?_ ?_ ?_ (256 - d) m d (Nat.le_refl _) hd ha
  · intro d _ _ B c
    rw [rootM_nil]
    refine spec_of Tryd.func37 rfl (n := 49) rfl rfl ?_
    intro W
    refine h_seq ?_
    refine h_reg ?_
    refine h_opX (x_alloc) fun g6 => ?_
    refine h_nil ?_
    refine q_then ?_
    refine h_seq ?_
    refine h_seq ?_
    refine h_reg ?_
    refine h_op (r_move rfl) ?_
    refine h_op (r_len rfl) ?_
    refine h_op (r_bool (r_eql rfl rfl) (show _ = true by simp)) ?_
    refine h_nil ?_
    refine q_then ?_
    refine h_condT rfl ?_
    refine h_seq ?_
    refine h_reg ?_
    refine h_op (r_move rfl) ?_
    refine h_call ((rEmpty_s n hn).comes) rfl rfl rfl fun _ => ?_
    refine h_opS (s_storer rfl rfl) ?_
    refine h_nil ?_
    refine q_then ?_
    refine h_ret ?_
    refine q_thenR ?_
    exact h_ret1 rfl (rv_row rfl) fun w s => ⟨(), rfl, s.res (List.nil_sublist _) (by simp)⟩
  · intro e d hd _ hv B c
    rw [rootM_one n e hd]
    obtain ⟨hs, hvl⟩ := hv e (by simp)
    obtain ⟨⟨key, A, N, cc⟩, b⟩ := e
    obtain rfl : N = b.length := hs.len
    have hA : A = none → b.length = 0 ∧ cc = 0 := hs.nil
    have hrd : RdZ h A (bc b) := hs.rd
    dsimp only at hvl
    refine spec_of Tryd.func37 rfl (n := 49) rfl rfl ?_
    intro W
    refine h_seq ?_
    refine h_reg ?_
    refine h_opX (x_alloc) fun g6 => ?_
    refine h_nil ?_
    refine q_then ?_
    refine h_seq ?_
    refine h_seq ?_
    refine h_reg ?_
    refine h_op (r_move rfl) ?_
    refine h_op (r_len rfl) ?_
    refine h_op (r_bool (r_eql rfl rfl) (show _ = false by simp)) ?_
    refine h_nil ?_
    refine q_then ?_
    refine h_condF rfl ?_
    refine h_skip ?_
    refine q_then ?_
    refine h_seq ?_
    refine h_seq ?_
    refine h_reg ?_
    refine h_op (r_move rfl) ?_
    refine h_op (r_len rfl) ?_
    refine h_op (r_bool (r_eql rfl rfl) (show _ = true by simp)) ?_
    refine h_nil ?_
    refine q_then ?_
    refine h_condT rfl ?_
    refine h_pure (φ := ∃ b o, B = some ⟨b, o, none⟩) (fun w s => Rd.some (s.ok (.rd B (ents [⟨⟨key, ⟨A, b.length, cc⟩⟩, b⟩])) (by simp)) (by rw [ents_len]; exact Nat.zero_lt_succ _)) ?_
    rintro ⟨bb, o, rfl⟩
    refine h_seq ?_
    refine ha_start [.rd (some ⟨bb, o, none⟩) (ents [⟨⟨key, ⟨A, b.length, cc⟩⟩, b⟩])] [] mixed (same) ?_
    refine ha_takeP 0 rfl (r_move rfl) ?_
    refine ha_takeP 1 rfl (r_move rfl) ?_
    refine ha_takeP 2 rfl (r_move rfl) ?_
    refine ha_takeP 3 rfl (r_idx rfl rfl (hm := by simp)) ?_
    refine ha_takeP 4 rfl (r_field rfl) ?_
    refine ha_take 5 rfl (r_nthr rfl (out := key.cells) (B32.cells_length _) (ents_key0 ⟨⟨key, ⟨A, b.length, cc⟩⟩, b⟩)) ?_
    refine ha_takeP 6 rfl (r_move rfl) ?_
    refine ha_takeP 7 rfl (r_idx rfl rfl (hm := by simp)) ?_
    refine ha_takeP 8 rfl (r_field rfl) ?_
    refine ha_take 9 rfl (r_nth rfl (ents_val0 ⟨⟨key, ⟨A, b.length, cc⟩⟩, b⟩)) ?_
    refine ha_one 10 ?_
    refine ho_C 10 rfl ((rLeafOf_s n hn key b A cc hA (by omega)).comes) rfl rfl rfl (fun _ => same) fun _ => ?_
    refine ha_one 11 ?_
    refine ho_C 11 rfl ((rLeaf_s (leafOf n key b)).comes) rfl rfl rfl (fun _ => same) fun ⟨g28, c28⟩ => ?_
    refine ha_one 12 ?_
    refine ho_C 12 rfl ((refSum5_s n hn (preL (leafOf n key b)) (some ⟨g28, 0, none⟩) c28 (fun h => by cases h) (by rw [preL_len]; decide)).comes) rfl rfl rfl (fun _ => same) fun _ => ?_
    refine ha_one 13 ?_
    refine ho_SL 13 rfl (s_storer rfl rfl) ?_
    refine q_then ?_
    refine h_ret ?_
    refine q_thenR ?_
    exact h_ret1 rfl (rv_row rfl) fun w s => ⟨(), rfl, s.res (List.nil_sublist _) (by simp)⟩
  · intro m d ha hm hd i1 i2 hl hv B c
    have p1 := part_le m d false
    have p2 := part_le m d true
    rw [rootM_two n hm (by omega)]
    refine spec_of Tryd.func37 rfl (n := 49) rfl rfl ?_
    intro W
    refine h_seq ?_
    refine h_reg ?_
    refine h_opX (x_alloc) fun g6 => ?_
    refine h_nil ?_
    refine q_then ?_
    refine h_seq ?_
    refine h_seq ?_
    refine h_reg ?_
    refine h_op (r_move rfl) ?_
    refine h_op (r_len rfl) ?_
    refine h_op (r_eql rfl rfl) ?_
    refine h_nil ?_
    refine q_then ?_
    refine h_no rfl ((by omega)) ?_
    refine h_skip ?_
    refine q_then ?_
    refine h_seq ?_
    refine h_seq ?_
    refine h_reg ?_
    refine h_op (r_move rfl) ?_
    refine h_op (r_len rfl) ?_
    refine h_op (r_eql rfl rfl) ?_
    refine h_nil ?_
    refine q_then ?_
    refine h_no rfl ((by omega)) ?_
    refine h_skip ?_
    refine q_then ?_
    refine h_seq ?_
    refine h_reg ?_
    refine h_op (r_move rfl) ?_
    refine h_op (r_move rfl) ?_
    refine h_op (r_move rfl) ?_
    refine h_call ((Part_s m B c d false hd (by omega)).comes) rfl rfl rfl fun ⟨A33, c33⟩ => ?_
    refine h_op (r_move rfl) ?_
    refine h_op (r_add rfl rfl) ?_
    refine h_call ((i1 (by omega) (hv.part d false) A33 c33).comes) rfl rfl rfl fun _ => ?_
    refine h_opX (x_alloc) fun g7 => ?_
    refine h_opS (s_storer rfl rfl) ?_
    refine h_nil ?_
    refine q_then ?_
    refine h_seq ?_
    refine h_reg ?_
    refine h_op (r_move rfl) ?_
    refine h_op (r_move rfl) ?_
    refine h_op (r_move rfl) ?_
    refine h_call ((Part_s m B c d true hd (by omega)).comes) rfl rfl rfl fun ⟨A40, c40⟩ => ?_
    refine h_op (r_move rfl) ?_
    refine h_op (r_add rfl rfl) ?_
    refine h_call ((i2 (by omega) (hv.part d true) A40 c40).comes) rfl rfl rfl fun _ => ?_
    refine h_opX (x_alloc) fun g8 => ?_
    refine h_opS (s_storer rfl rfl) ?_
    refine h_nil ?_
    refine q_then ?_
    refine h_seq ?_
    refine h_reg ?_
    refine h_op (r_move rfl) ?_
    refine h_op (r_loadr rfl) ?_
    refine h_op (r_loadr rfl) ?_
    refine h_call ((rNode_s (rootM n (part m d false) (d + 1)) (rootM n (part m d true) (d + 1))).comes) rfl rfl rfl fun ⟨g47, c47⟩ => ?_
    refine h_call ((refSum5_s n hn (preN (rootM n (part m d false) (d + 1)) (rootM n (part m d true) (d + 1))) (some ⟨g47, 0, none⟩) c47 (fun h => by cases h) (by rw [preN_len]; decide)).comes) rfl rfl rfl fun _ => ?_
    refine h_opS (s_storer rfl rfl) ?_
    refine h_nil ?_
    refine q_then ?_
    refine h_ret ?_
    exact h_ret1 rfl (rv_row rfl) fun w s => ⟨(), rfl, s.res (List.nil_sublist _) (by simp)⟩
end Go.Proofs.YtgfkbeipckbkiaaDoor
/- U41 -/
namespace Go.Proofs.YtgfkbeipckbkiaaDoor
set_option linter.unusedSimpArgs false
set_option linter.unusedVariables false
open Go.RowKit
theorem mkT_cost {m : List En} {d : Nat} (hd : d ≤ 256) (ha : Alike m d) : (mkT m d).cost ≤ m.length * (4 * (257 - d)) := by
  refine parts_ind (p := fun m d => (mkT m d).cost ≤ m.length * (4 * (257 - d))) ?_ ?_ ?_ (256 - d) m d (Nat.le_refl _) hd ha
  · intro d
    rw [mkT_nil]; exact Nat.zero_le _
  · intro e d h
    rw [mkT_one e h]
    show 2 ≤ 1 * (4 * (257 - d))
    omega
  · intro m d _ hm hd i1 i2
    rw [mkT_two hm (by omega)]
    have hl := part_len m d
    have e1 := i01 ((mkT (part m d false) (d + 1)).kind = 0)
    have e2 := i01 ((mkT (part m d true) (d + 1)).kind = 0)
    have e3 : 4 * (257 - d) = 4 * (257 - (d + 1)) + 4 := by omega
    have e4 : m.length * (4 * (257 - d)) = (part m d false).length * (4 * (257 - (d + 1))) + (part m d true).length * (4 * (257 - (d + 1))) + m.length * 4 := by
      rw [e3, Nat.mul_add, ← hl, Nat.add_mul]
    rw [e4]
    show _ + _ + _ + _ + 1 ≤ _
    omega
theorem joinT_mk {m : List En} {d : Nat} (hm : 1 < m.length) (hd : d < 256) : joinT (mkT (part m d false) (d + 1)) (mkT (part m d true) (d + 1)) = mkT m d ∧ ∀ k, k + (mkT (part m d false) (d + 1)).cost + (mkT (part m d true) (d + 1)).cost + joinC (mkT (part m d false) (d + 1)) (mkT (part m d true) (d + 1)) = k + (mkT m d).cost := by
  have hl := part_len m d
  have k1 := mkT_kind (part m d false) (d := d + 1) (by omega)
  have k2 := mkT_kind (part m d true) (d := d + 1) (by omega)
  rw [mkT_two hm (by omega)]
  unfold joinT joinC
  rw [if_neg (by omega), if_neg (by omega), if_neg (by omega), if_neg (by omega)]
  refine ⟨rfl, fun k => ?_⟩
  show _ = k + (_ + _ + _ + _ + 1)
  omega
theorem Grow_any (n : Nat) (hn : n ≤ 256) (gh gc : Nat) {m : List En} {d : Nat} (hd : d ≤ 256) (ha : Alike m d) : m.length ≤ 1000000 → ∀ (h : Zh) (k : Nat) (B : Option Addr) (c : Nat), RdZ h (some ⟨1, 0, none⟩) hashT → ValsZ h m → k + (mkT m d).cost ≤ 10000000000 →
    Spec Tryd.prog 27 [.pointer (some ⟨gh, 0, none⟩), .slice B m.length c, .int .i64 (d : Int)].toArray [HR gh gc n, .rd B (ents m)] [.zone true h, CN gc k] (fun x : {x : Zh × Option Addr // LeZ h x.1 ∧ TrZ n x.1 (mkT m d) x.2} => .pointer x.1.2) (fun x => [.zone true x.1.1, CN gc (k + (mkT m d).cost)]) := by
  refine parts_ind (p := fun m d => m.length ≤ 1000000 → ∀ (h : Zh) (k : Nat) (B : Option Addr) (c : Nat), RdZ h (some ⟨1, 0, none⟩) hashT → ValsZ h m → k + (mkT m d).cost ≤ 10000000000 →
    Spec Tryd.prog 27 [.pointer (some ⟨gh, 0, none⟩), .slice B m.length c, .int .i64 (d : Int)].toArray [HR gh gc n, .rd B (ents m)] [.zone true h, CN gc k] (fun x : {x : Zh × Option Addr // LeZ h x.1 ∧ TrZ n x.1 (mkT m d) x.2} => .pointer x.1.2) (fun x => [.zone true x.1.1, CN gc (k + (mkT m d).cost)])) ?_ ?_ ?_ (256 - d) m d (Nat.le_refl _) hd ha
  · intro d _ h k B c hT _ _
    rw [mkT_nil]
    refine spec_of Tryd.func27 rfl (n := 34) rfl rfl ?_
    intro W
    refine h_seq ?_
    refine h_reg ?_
    refine h_op (r_assign rfl) ?_
    refine h_nil ?_
    refine q_then ?_
    refine h_seq ?_
    refine h_seq ?_
    refine h_reg ?_
    refine h_op (r_move rfl) ?_
    refine h_op (r_len rfl) ?_
    refine h_nil ?_
    refine q_then ?_
    refine h_block ?_
    refine h_seq ?_
    refine h_reg ?_
    refine h_op (r_bool (r_eql rfl rfl) (show _ = true by simp)) ?_
    refine h_op (r_assign rfl) ?_
    refine h_nil ?_
    refine q_then ?_
    refine h_condT rfl ?_
    refine h_seq ?_
    refine h_reg ?_
    refine h_op (r_assign rfl) ?_
    refine h_nil ?_
    refine q_then ?_
    refine h_ret ?_
    refine q_blockR ?_
    refine q_thenR ?_
    exact h_ret1 rfl rfl fun w s => ⟨⟨(h, none), LeZ.refl h, ⟨rfl⟩⟩, rfl, (same (L' := [.zone true h, CN gc k]) w s).res (List.Sublist.refl _) (by simp [Fa.wr])⟩
  · intro e d hd _ h k B c hT hv hk
    rw [mkT_one e hd] at hk ⊢
    obtain ⟨hs, hvl⟩ := hv e (by simp)
    obtain ⟨⟨key, s⟩, b⟩ := e
    dsimp only at hs hvl
    have hk' : k + 2 ≤ 10000000000 := hk
    refine spec_of Tryd.func27 rfl (n := 34) rfl rfl ?_
    intro W
    refine h_seq ?_
    refine h_reg ?_
    refine h_op (r_assign rfl) ?_
    refine h_nil ?_
    refine q_then ?_
    refine h_seq ?_
    refine h_seq ?_
    refine h_reg ?_
    refine h_op (r_move rfl) ?_
    refine h_op (r_len rfl) ?_
    refine h_nil ?_
    refine q_then ?_
    refine h_block ?_
    refine h_seq ?_
    refine h_reg ?_
    refine h_op (r_bool (r_eql rfl rfl) (show _ = false by simp)) ?_
    refine h_op (r_assign rfl) ?_
    refine h_nil ?_
    refine q_then ?_
    refine h_condF rfl ?_
    refine h_seq ?_
    refine h_reg ?_
    refine h_op (r_bool (r_eql rfl rfl) (show _ = true by simp)) ?_
    refine h_op (r_assign rfl) ?_
    refine h_nil ?_
    refine q_then ?_
    refine h_condT rfl ?_
    refine h_pure (φ := ∃ b o, B = some ⟨b, o, none⟩) (fun w s' => Rd.some (s'.ok (.rd B (ents [⟨⟨key, s⟩, b⟩])) (by simp)) (by rw [ents_len]; exact Nat.zero_lt_succ _)) ?_
    rintro ⟨bb, o, rfl⟩
    refine h_seq ?_
    refine h_reg ?_
    refine h_op (r_move rfl) ?_
    refine h_op (r_move rfl) ?_
    refine h_op (r_idx rfl rfl (hm := by simp)) ?_
    refine h_op (r_nthr rfl (out := Entry.cells ⟨key, s⟩) (Entry.cells_length _) (ents_at0 ⟨⟨key, s⟩, b⟩)) ?_
    refine h_call ((NewLeaf_s n hn gh gc k (by omega) h key s b (by omega)).comes) rfl rfl rfl fun ⟨⟨h1, p1⟩, hle, ht⟩ => ?_
    dsimp only at hle ht ⊢
    refine h_op (r_assign rfl) ?_
    refine h_nil ?_
    refine q_then ?_
    refine h_ret ?_
    refine q_blockR ?_
    refine q_thenR ?_
    exact h_ret1 rfl rfl fun w s => ⟨⟨(h1, p1), hle, ht⟩, rfl, (same (L' := [.zone true h1, CN gc (k + 2)]) w s).res (List.Sublist.refl _) (by simp [Fa.wr])⟩
  · intro m d ha hm hd i1 i2 hl h k B c hT hv hk
    have p1 := part_len m d
    obtain ⟨hj, hcost⟩ := joinT_mk hm hd
    have hck := hcost k
    have c1 := mkT_cnt (show d + 1 ≤ 256 by omega) (ha.part false)
    have c2 := mkT_cnt (show d + 1 ≤ 256 by omega) (ha.part true)
    rw [← hck, ← hj]
    rw [← hck] at hk
    refine spec_of Tryd.func27 rfl (n := 34) rfl rfl ?_
    intro W
    refine h_seq ?_
    refine h_reg ?_
    refine h_op (r_assign rfl) ?_
    refine h_nil ?_
    refine q_then ?_
    refine h_seq ?_
    refine h_seq ?_
    refine h_reg ?_
    refine h_op (r_move rfl) ?_
    refine h_op (r_len rfl) ?_
    refine h_nil ?_
    refine q_then ?_
    refine h_block ?_
    refine h_seq ?_
    refine h_reg ?_
    refine h_op (r_eql rfl rfl) ?_
    refine h_op (r_assign rfl) ?_
    refine h_nil ?_
    refine q_then ?_
    refine h_no rfl ((by omega)) ?_
    refine h_seq ?_
    refine h_reg ?_
    refine h_op (r_eql rfl rfl) ?_
    refine h_op (r_assign rfl) ?_
    refine h_nil ?_
    refine q_then ?_
    refine h_no rfl ((by omega)) ?_
    refine h_skip ?_
    refine q_block ?_
    refine q_then ?_
    refine h_seq ?_
    refine h_reg ?_
    refine h_op (r_move rfl) ?_
    refine h_op (r_move rfl) ?_
    refine h_op (r_move rfl) ?_
    refine h_op (r_move rfl) ?_
    refine h_call ((Part_s m B c d false hd (by omega)).comes) rfl rfl rfl fun ⟨A22, c22⟩ => ?_
    refine h_op (r_move rfl) ?_
    refine h_op (r_add rfl rfl) ?_
    refine h_call ((i1 (by omega) h k A22 c22 hT (hv.part d false) (by omega)).comes) rfl rfl rfl fun ⟨⟨h1, q1⟩, hle1, ht1⟩ => ?_
    dsimp only at hle1 ht1 ⊢
    refine h_op (r_move rfl) ?_
    refine h_op (r_move rfl) ?_
    refine h_op (r_move rfl) ?_
    refine h_call ((Part_s m B c d true hd (by omega)).comes) rfl rfl rfl fun ⟨A29, c29⟩ => ?_
    refine h_op (r_move rfl) ?_
    refine h_op (r_add rfl rfl) ?_
    refine h_call ((i2 (by omega) h1 (k + (mkT (part m d false) (d + 1)).cost) A29 c29 (hT.mono hle1) ((hv.part d true).mono hle1) (by omega)).comes) rfl rfl rfl fun ⟨⟨h2, q2⟩, hle2, ht2⟩ => ?_
    dsimp only at hle2 ht2 ⊢
    have hT2 : RdZ h2 (some ⟨1, 0, none⟩) hashT := (hT.mono hle1).mono hle2
    refine h_call ((Join_s n hn gh gc (k + (mkT (part m d false) (d + 1)).cost + (mkT (part m d true) (d + 1)).cost) (by omega) h2 (mkT (part m d false) (d + 1)) (mkT (part m d true) (d + 1)) q1 q2 (by omega)).comes) rfl rfl rfl fun ⟨⟨h3, q3⟩, hle3, ht3⟩ => ?_
    dsimp only at hle3 ht3 ⊢
    refine h_op (r_assign rfl) ?_
    refine h_nil ?_
    refine q_then ?_
    refine h_ret ?_
    exact h_ret1 rfl rfl fun w s => ⟨⟨(h3, q3), (hle1.trans hle2).trans hle3, ht3⟩, rfl, (same w s).res (List.Sublist.refl _) (by simp [Fa.wr])⟩
theorem ValsZ.of {h : Zh} {l : List En} (x : ValsZ h l) : ValsZ h (ofM l) := fun e he => x e (ofM_mem he)
/-- the map of some entries, and its tree -/
theorem Tree_yes (n : Nat) (hn : n ≤ 256) (l : List En) (B : Option Addr) (c : Nat) (hf : fewM l = true) (h : Zh) [hT : RdZ h (some ⟨1, 0, none⟩) hashT] [hB : RdZ h B (ents l)] (hv : ValsZ h l) : Spec Tryd.prog 7 [.int .i64 (n : Int), .slice B l.length c].toArray [] [.zone true h] (fun x : {x : Zh × Option Addr × Option Addr × Nat // LeZ h x.1 ∧ TrZ n x.1 (mkT (ofM l) 0) x.2.1} => .tuple #[.slice x.1.2.2.1 (ofM l).length x.1.2.2.2, .pointer x.1.2.1, .bool true]) (fun x => [.own (.slice x.1.2.2.1 (ofM l).length x.1.2.2.2) (ofM l).length 77 33 (ents (ofM l)), .zone true x.1.1]) := by
  have hl : l.length ≤ 12 := by unfold fewM at hf; rw [Bool.and_eq_true, decide_eq_true_eq] at hf; exact hf.1
  have hlm := ofM_len l
  have hal : Alike (ofM l) 0 := Alike.start (ofM_nodup l)
  have hcost := mkT_cost (show 0 ≤ 256 by omega) hal
  have hcost2 : (mkT (ofM l) 0).cost ≤ 12 * (4 * 257) := Nat.le_trans hcost (Nat.mul_le_mul (by omega) (by omega))
  refine spec_of Tryd.func7 rfl (n := 27) rfl rfl ?_
  intro W
  refine h_seq ?_
  refine h_reg ?_
  refine h_op (r_assign rfl) ?_
  refine h_op (r_assign rfl) ?_
  refine h_op (r_assign rfl) ?_
  refine h_nil ?_
  refine q_then ?_
  refine h_seq ?_
  refine h_seq ?_
  refine h_reg ?_
  refine h_op (r_move rfl) ?_
  refine h_call ((Right_yes n hn).comes) rfl rfl rfl fun _ => ?_
  refine h_op (r_not rfl) ?_
  refine h_op (r_move rfl) ?_
  refine h_op (r_move rfl) ?_
  refine h_call ((Few_s l B c (by omega)).comes) rfl rfl rfl fun _ => ?_
  rw [hf]
  refine h_op (r_not rfl) ?_
  refine h_op (r_pick rfl rfl) ?_
  refine h_nil ?_
  refine q_then ?_
  refine h_condF rfl ?_
  refine h_skip ?_
  refine q_then ?_
  refine h_seq ?_
  refine h_reg ?_
  refine h_op (r_move rfl) ?_
  refine h_call ((Hash_s n hn).comes) rfl rfl rfl fun ⟨gh, gc⟩ => ?_
  dsimp only
  refine h_op (r_assign rfl) ?_
  refine h_nil ?_
  refine q_then ?_
  refine h_seq ?_
  refine h_seq ?_
  refine h_reg ?_
  refine h_op (r_move rfl) ?_
  refine h_op (r_nilR rfl rfl) ?_
  refine h_nil ?_
  refine q_then ?_
  refine h_condF rfl ?_
  refine h_skip ?_
  refine q_then ?_
  refine h_seq ?_
  refine h_reg ?_
  refine h_op (r_move rfl) ?_
  refine h_call ((Of_s l B c (by omega)).comes) rfl rfl rfl fun ⟨A22, c22⟩ => ?_
  dsimp only
  refine h_op (r_assign rfl) ?_
  refine h_nil ?_
  refine q_then ?_
  refine h_seq ?_
  refine h_reg ?_
  refine h_op (r_move rfl) ?_
  refine h_op (r_move rfl) ?_
  refine h_op (r_move rfl) ?_
  refine h_call ((Grow_any n hn gh gc (show 0 ≤ 256 by omega) hal (by omega) h 0 A22 c22 hT hv.of (by omega)).comes) rfl rfl rfl fun ⟨⟨h1, q1⟩, hle1, ht1⟩ => ?_
  dsimp only at hle1 ht1 ⊢
  refine h_op (r_assign rfl) ?_
  refine h_op (r_assign rfl) ?_
  refine h_op (r_assign rfl) ?_
  refine h_nil ?_
  refine q_then ?_
  refine h_ret ?_
  exact h_ret3 rfl rfl rfl rfl fun w s => ⟨⟨(h1, q1, A22, c22), hle1, ht1⟩, rfl, (same (L' := [.own (.slice A22 (ofM l).length c22) (ofM l).length 77 33 (ents (ofM l)), .zone true h1]) w s).res (List.Sublist.refl _) (by simp [Fa.wr])⟩
end Go.Proofs.YtgfkbeipckbkiaaDoor
/- U42 -/
namespace Go.Proofs.YtgfkbeipckbkiaaDoor
set_option linter.unusedSimpArgs false
set_option linter.unusedVariables false
open Go.RowKit
/-- a subtree on the way of a key, joined with the one beside it -/
def jnK (key : B32) (d : Nat) (x y : Tr) : Tr := if bitAt key d then joinT y x else joinT x y
def jnC (key : B32) (d : Nat) (x y : Tr) : Nat := if bitAt key d then joinC y x else joinC x y
theorem jnC_le (key : B32) (d : Nat) (x y : Tr) : jnC key d x y ≤ 3 := by
  unfold jnC
  split <;> exact joinC_le _ _
theorem joinT_cnt (l r : Tr) : (joinT l r).cnt = l.cnt + r.cnt := by
  have key : ∀ t : Tr, t.kind = 0 → t.cnt = 0 := fun t ht => by cases t <;> first | rfl | cases ht
  unfold joinT
  split
  · rename_i h; rw [key l h.1]; omega
  · split
    · rename_i h; rw [key r h.1]; omega
    · rfl
theorem jnK_cnt (key : B32) (d : Nat) (x y : Tr) : (jnK key d x y).cnt = x.cnt + y.cnt := by
  unfold jnK
  split
  · rw [joinT_cnt]; omega
  · rw [joinT_cnt]
theorem pjoin_s (n : Nat) (hn : n ≤ 256) (gh gc k : Nat) (hk : k ≤ 100000000000) (h : Zh) [hT : RdZ h (some ⟨1, 0, none⟩) hashT] (x y : Tr) (p q : Option Addr) [hx : TrZ n h x p] [hy : TrZ n h y q] (key : B32) (d : Nat) (hd : d < 256) (hct : x.cnt + y.cnt ≤ 1000000000000) :
    Spec Tryd.prog 99 [.pointer (some ⟨gh, 0, none⟩), .pointer p, .pointer q, .agg key.cells.toArray, .int .i64 (d : Int)].toArray [HR gh gc n] [.zone true h, CN gc k] (fun u : {u : Zh × Option Addr // LeZ h u.1 ∧ TrZ n u.1 (jnK key d x y) u.2} => .pointer u.1.2) (fun u => [.zone true u.1.1, CN gc (k + jnC key d x y)]) := by
  unfold jnK jnC
  refine spec_of Tryd.func99 rfl (n := 23) rfl rfl ?_
  intro W
  refine h_seq ?_
  refine h_reg ?_
  refine h_opX (x_box rfl) fun g8 => ?_
  refine h_op (r_assign rfl) ?_
  refine h_nil ?_
  refine q_then ?_
  refine h_seq ?_
  refine h_seq ?_
  refine h_reg ?_
  refine h_op (r_loadr rfl) ?_
  refine h_op (r_move rfl) ?_
  refine h_call ((Bit_s key d hd).comes) rfl rfl rfl fun _ => ?_
  refine h_op (r_bool (r_eql rfl rfl) (show _ = !bitAt key d by unfold bitN; cases bitAt key d <;> rfl)) ?_
  refine h_nil ?_
  refine q_then ?_
  cases hb : bitAt key d
  · rw [if_neg (by simp), if_neg (by simp)]
    refine h_condT rfl ?_
    refine h_seq ?_
    refine h_reg ?_
    refine h_op (r_move rfl) ?_
    refine h_op (r_move rfl) ?_
    refine h_op (r_move rfl) ?_
    refine h_call ((Join_s n hn gh gc k hk h x y p q hct).comes) rfl rfl rfl fun ⟨⟨h1, r⟩, hle, ht⟩ => ?_
    dsimp only at hle ht ⊢
    refine h_op (r_assign rfl) ?_
    refine h_nil ?_
    refine q_then ?_
    refine h_ret ?_
    refine q_thenR ?_
    exact h_ret1 rfl rfl fun w s => ⟨⟨(h1, r), hle, ht⟩, rfl, (same w s).res (List.Sublist.refl _) (by simp [Fa.wr])⟩
  · rw [if_pos rfl, if_pos rfl]
    refine h_condF rfl ?_
    refine h_skip ?_
    refine q_then ?_
    refine h_seq ?_
    refine h_reg ?_
    refine h_op (r_move rfl) ?_
    refine h_op (r_move rfl) ?_
    refine h_op (r_move rfl) ?_
    refine h_call ((Join_s n hn gh gc k hk h y x q p (by omega)).comes) rfl rfl rfl fun ⟨⟨h1, r⟩, hle, ht⟩ => ?_
    dsimp only at hle ht ⊢
    refine h_op (r_assign rfl) ?_
    refine h_nil ?_
    refine q_then ?_
    refine h_ret ?_
    exact h_ret1 rfl rfl fun w s => ⟨⟨(h1, r), hle, ht⟩, rfl, (same w s).res (List.Sublist.refl _) (by simp [Fa.wr])⟩
/-- joined with nothing, from a depth up to another -/
def upN (key : B32) (d : Nat) : Nat → Tr → Tr
  | 0, t => t
  | j + 1, t => upN key d j (jnK key (d + j) t .nil)
def keyT : Tr → B32
  | .leaf k _ => k
  | _ => zB32
/-- two leaves, at a depth -/
def pairT (a b : Tr) (d : Nat) : Tr := upN (keyT a) d (common (keyT a) (keyT b) - d) (jnK (keyT a) (common (keyT a) (keyT b)) a b)
theorem leafT_key (n : Nat) (t : Tr) : (leafT n t).key = keyT t := by cases t <;> rfl
theorem Pair_s (n : Nat) (hn : n ≤ 256) (gh gc k : Nat) (hk : k ≤ 10000000000) (h : Zh) [hT : RdZ h (some ⟨1, 0, none⟩) hashT] (a b : Tr) (p q : Option Addr) [ha : TrZ n h a p] [hb : TrZ n h b q] (d : Nat) (hd : d ≤ 256) (hc : common (keyT a) (keyT b) < 256) (hdc : d ≤ common (keyT a) (keyT b)) (hct : a.cnt + b.cnt ≤ 1000000000) :
    Spec Tryd.prog 100 [.pointer (some ⟨gh, 0, none⟩), .pointer p, .pointer q, .int .i64 (d : Int)].toArray [HR gh gc n] [.zone true h, CN gc k] (fun u : {u : Zh × Option Addr × Nat // LeZ h u.1 ∧ TrZ n u.1 (pairT a b d) u.2.1 ∧ u.2.2 ≤ k + 771} => .pointer u.1.2.1) (fun u => [.zone true u.1.1, CN gc u.1.2.2]) := by
  unfold pairT
  refine spec_of Tryd.func100 rfl (n := 40) rfl rfl ?_
  intro W
  refine h_seq ?_
  refine h_reg ?_
  refine h_op (r_assign rfl) ?_
  refine h_nil ?_
  refine q_then ?_
  refine h_seq ?_
  refine h_reg ?_
  refine h_op (r_move rfl) ?_
  refine h_call ((Leaf_s n h a p).comes) rfl rfl rfl fun _ => ?_
  refine h_op (r_as (r_fldr rfl) (show _ = Value.agg (keyT a).cells.toArray by rw [← leafT_key n a])) ?_
  refine h_opX (x_alloc) fun g9 => ?_
  refine h_opS (s_storer rfl rfl) ?_
  refine h_nil ?_
  refine q_then ?_
  refine h_seq ?_
  refine ha_start [.blk g9 (keyT a).cells 40] [] mixed (same) ?_
  refine ha_take 0 rfl (r_loadr rfl) ?_
  refine ha_takeP 1 rfl (r_move rfl) ?_
  refine ha_one 2 ?_
  refine ho_C 2 rfl ((Leaf_s n h b q).comes) rfl rfl rfl (fun _ => same) fun _ => ?_
  refine ha_takeP 3 rfl (r_as (r_fldr rfl) (show _ = Value.agg (keyT b).cells.toArray by rw [← leafT_key n b])) ?_
  refine ha_one 4 ?_
  refine ho_C 4 rfl ((Common_s (keyT a) (keyT b)).comes) rfl rfl rfl (fun _ => same) fun _ => ?_
  refine ha_takeP 5 rfl (r_assign rfl) ?_
  refine ha_done (by kernel_rfl) ?_
  refine q_then ?_
  generalize common (keyT a) (keyT b) = c at *
  generalize keyT a = key at *
  refine h_seq ?_
  refine h_reg ?_
  refine h_op (r_move rfl) ?_
  refine h_op (r_move rfl) ?_
  refine h_op (r_move rfl) ?_
  refine h_op (r_loadr rfl) ?_
  refine h_op (r_move rfl) ?_
  refine h_call ((pjoin_s n hn gh gc k (by omega) h a b p q key c hc (by omega)).comes) rfl rfl rfl fun ⟨⟨h1, q1⟩, hle1, ht1⟩ => ?_
  dsimp only at hle1 ht1 ⊢
  have hc1 := jnC_le key c a b
  have hn1 := jnK_cnt key c a b
  generalize jnK key c a b = t1 at *
  have hk1 : k + jnC key c a b ≤ k + 3 := by omega
  generalize k + jnC key c a b = k1 at *
  refine h_op (r_assign rfl) ?_
  refine h_nil ?_
  refine q_then ?_
  refine h_seq ?_
  refine h_seq ?_
  refine h_reg ?_
  refine h_op (r_move rfl) ?_
  refine h_op (r_sub rfl rfl) ?_
  refine h_op (r_assign rfl) ?_
  refine h_nil ?_
  refine q_then ?_
  refine h_block ?_
  obtain ⟨J, rfl⟩ : ∃ J, c = d + J := ⟨c - d, by omega⟩
  rw [show d + J - d = J by omega]
  refine h_loop (fun (s : Nat × Zh × Option Addr × Tr × Nat) => s.1 ≤ J ∧ LeZ h1 s.2.1 ∧ TrZ n s.2.1 s.2.2.2.1 s.2.2.1 ∧ upN key d s.1 s.2.2.2.1 = upN key d J t1 ∧ s.2.2.2.1.cnt ≤ 1000000000 ∧ s.2.2.2.2 ≤ k + 3 + 3 * (J - s.1)) (fun (s : Nat × Zh × Option Addr × Tr × Nat) => [(12, .int .i64 ((d + s.1 : Nat) - 1 : Int)), (11, .pointer s.2.2.1), (9, .pointer (some ⟨g9, 0, none⟩)), (3, .int .i64 (d : Int)), (0, .pointer (some ⟨gh, 0, none⟩))]) (fun (s : Nat × Zh × Option Addr × Tr × Nat) => [.zone true s.2.1, CN gc s.2.2.2.2, .blk g9 key.cells 40, HR gh gc n]) (fun (s : Nat × Zh × Option Addr × Tr × Nat) => s.1) (J, h1, q1, t1, k1) (⟨Nat.le_refl _, LeZ.refl h1, ht1, rfl, by dsimp only; omega, by dsimp only; omega⟩) ⟨rfl, rfl, rfl, rfl, rfl, trivial⟩ (same) ?_
  rintro ⟨j, h2, q2, t2, k2⟩ ⟨hj, hle2, ht2, hup, hcn, hk2⟩
  dsimp only at hj hle2 ht2 hup hcn hk2 ⊢
  refine h_seq ?_
  refine h_seq ?_
  refine h_reg ?_
  refine h_op (r_move rfl) ?_
  refine h_op (r_move rfl) ?_
  refine h_op (r_geq rfl rfl) ?_
  refine h_nil ?_
  refine q_then ?_
  refine h_cond rfl (fun hlt => ?_) (fun hlt => ?_)
  · obtain ⟨i, rfl⟩ : ∃ i, j = i + 1 := ⟨j - 1, by omega⟩
    have hT2 : RdZ h2 (some ⟨1, 0, none⟩) hashT := (hT.mono hle1).mono hle2
    refine h_E (E' := [(12, .int .i64 ((d + i : Nat) : Int)), (11, .pointer q2), (9, .pointer (some ⟨g9, 0, none⟩)), (3, .int .i64 (d : Int)), (0, .pointer (some ⟨gh, 0, none⟩))]) ⟨aI rfl (by omega), rfl, rfl, rfl, rfl, trivial⟩ ?_
    have hn3 := jnK_cnt key (d + i) t2 .nil
    have hc3 := jnC_le key (d + i) t2 .nil
    have hz : Tr.nil.cnt = 0 := rfl
    refine h_skip ?_
    refine q_then ?_
    refine h_seq ?_
    refine h_block ?_
    refine h_reg ?_
    refine h_op (r_move rfl) ?_
    refine h_op (r_move rfl) ?_
    refine h_op (r_loadr rfl) ?_
    refine h_op (r_move rfl) ?_
    refine h_call ((pjoin_s n hn gh gc k2 (by omega) h2 t2 .nil q2 none key (d + i) (by omega) (by omega)).comes) rfl rfl rfl fun ⟨⟨h3, q3⟩, hle3, ht3⟩ => ?_
    dsimp only at hle3 ht3 ⊢
    refine h_op (r_assign rfl) ?_
    refine h_nil ?_
    refine q_block ?_
    refine q_then ?_
    refine h_reg ?_
    refine h_op (r_move rfl) ?_
    refine h_op (r_sub rfl rfl) ?_
    refine h_op (r_assign rfl) ?_
    refine h_nil ?_
    exact h_back (i, h3, q3, jnK key (d + i) t2 .nil, k2 + jnC key (d + i) t2 .nil) (⟨by dsimp only; omega, hle2.trans hle3, ht3, hup, by dsimp only; omega, by dsimp only; omega⟩) ((show i < i + 1 by omega)) ⟨aI rfl (by omega), rfl, rfl, rfl, rfl, trivial⟩ (same)
  · obtain rfl : j = 0 := by omega
    have hup' : t2 = upN key d J t1 := hup
    rw [← hup']
    refine h_exit ?_
    refine q_thenE ?_
    refine q_thenE ?_
    refine q_blockE ?_
    refine q_then ?_
    refine h_seq ?_
    refine h_reg ?_
    refine h_op (r_move rfl) ?_
    refine h_op (r_assign rfl) ?_
    refine h_nil ?_
    refine q_then ?_
    refine h_ret ?_
    exact h_ret1 rfl rfl fun w s => ⟨⟨(h2, q2, k2), hle1.trans hle2, ht2, by dsimp only; omega⟩, rfl, (same (L' := [.zone true h2, CN gc k2]) w s).res (List.Sublist.refl _) (by simp [Fa.wr])⟩
theorem BackwardP_s (A : Option Addr) (N c : Nat) : Spec Tryd.prog 98 [.slice A N c].toArray [] [] (fun g : Nat => .func (.func 107) #[] [.pointer (some ⟨g, 0, none⟩)].toArray) (fun g => [.blk g [.slice A N c] 151]) := by
  refine spec_of Tryd.func98 rfl (n := 4) rfl rfl ?_
  intro W
  refine h_seq ?_
  refine h_reg ?_
  refine h_opX (x_box1 rfl) fun g1 => ?_
  refine h_op (r_assign rfl) ?_
  refine h_nil ?_
  refine q_then ?_
  refine h_seq ?_
  refine h_reg ?_
  refine h_op (r_func rfl rfl) ?_
  refine h_op (r_assign rfl) ?_
  refine h_nil ?_
  refine q_then ?_
  refine h_ret ?_
  exact h_ret1 rfl rfl fun w s => ⟨g1, rfl, s.res (List.Sublist.refl _) (by simp [Fa.wr])⟩
theorem BackwardP_it (ps : List (Option Addr)) (A : Option Addr) (c g1 : Nat) (hA : ∀ i, i < ps.length → ∃ g, A = some ⟨g, 0, none⟩) (hl : ps.length ≤ 1000000) : IterG Tryd.prog 107 [.pointer (some ⟨g1, 0, none⟩)] [.rd (some ⟨g1, 0, none⟩) [.slice A ps.length c], .rd A (ptrs ps)] [] ps.length (fun k (_ : Unit) => [.int .i64 ((ps.length - 1 - k : Nat) : Int), .pointer (ps.getD (ps.length - 1 - k) none)]) (fun _ _ => []) [] := by
  refine iter_ofG Tryd.func107 rfl (n := 19) rfl rfl ?_
  intro l J Rm m0 W hJw hRm hy h0
  refine h_seq ?_
  refine h_reg ?_
  refine h_op (r_loadc rfl) ?_
  refine h_op (r_len rfl) ?_
  refine h_op (r_sub rfl rfl) ?_
  refine h_op (r_assign rfl) ?_
  refine h_nil ?_
  refine q_then ?_
  refine h_block ?_
  refine h_loop (fun (s : Nat × List Fa) => s.1 ≤ ps.length ∧ J s.1 s.2) (fun (s : Nat × List Fa) => [(3, .int .i64 ((ps.length : Int) - 1 - (s.1 : Int))), (0, .func (.yield l) #[] #[]), (1, .pointer (some ⟨g1, 0, none⟩))]) (fun (s : Nat × List Fa) => .rd (some ⟨g1, 0, none⟩) [.slice A ps.length c] :: .rd A (ptrs ps) :: (s.2 ++ Rm)) (fun (s : Nat × List Fa) => ps.length - s.1) (0, m0) ((show 0 ≤ ps.length ∧ J 0 m0 from ⟨by omega, h0⟩)) ⟨aI rfl (by dsimp only; omega), rfl, rfl, trivial⟩ (fun _ s => s) ?_
  rintro ⟨k, mm⟩ ⟨hk, hJ⟩
  dsimp only at hk hJ ⊢
  refine h_seq ?_
  refine h_seq ?_
  refine h_reg ?_
  refine h_op (r_move rfl) ?_
  refine h_op (r_geq rfl rfl) ?_
  refine h_nil ?_
  refine q_then ?_
  refine h_cond rfl (fun h => ?_) (fun h => ?_)
  · have hk2 : k < ps.length := by omega
    obtain ⟨g, rfl⟩ := hA k hk2
    have hget : ps[ps.length - 1 - k]? = some (ps.getD (ps.length - 1 - k) none) := by rw [List.getD_eq_getElem?_getD, List.getElem?_eq_getElem (by omega), Option.getD_some]
    refine h_E (E' := [(3, .int .i64 ((ps.length - 1 - k : Nat) : Int)), (0, .func (.yield l) #[] #[]), (1, .pointer (some ⟨g1, 0, none⟩))]) ⟨aI rfl (by omega), rfl, rfl, trivial⟩ ?_
    refine h_skip ?_
    refine q_then ?_
    refine h_seq ?_
    refine h_block ?_
    refine h_seq ?_
    refine h_reg ?_
    refine h_op (r_move rfl) ?_
    refine h_op (r_move rfl) ?_
    refine h_op (r_loadc rfl) ?_
    refine h_op (r_move rfl) ?_
    refine h_op (r_idx rfl rfl) ?_
    refine h_op (r_nth rfl (ptrs_get hget)) ?_
    refine h_yield (hy k () mm hk2 hJ) hRm rfl rfl fun m' hJ' => ?_
    refine h_op (r_not rfl) ?_
    refine h_nil ?_
    refine q_then ?_
    refine h_condF rfl ?_
    refine h_skip ?_
    refine q_block ?_
    refine q_then ?_
    refine h_reg ?_
    refine h_op (r_move rfl) ?_
    refine h_op (r_sub rfl rfl) ?_
    refine h_op (r_assign rfl) ?_
    refine h_nil ?_
    exact h_back (k + 1, m') ((show k + 1 ≤ ps.length ∧ J (k + 1) m' from ⟨by omega, hJ'⟩)) ((show ps.length - (k + 1) < ps.length - k by omega)) ⟨aI rfl (by omega), rfl, rfl, trivial⟩ (fun _ s => s)
  · obtain rfl : k = ps.length := by omega
    refine h_exit ?_
    refine q_thenE ?_
    refine q_thenE ?_
    refine q_blockE ?_
    refine h_end ?_
    exact h_ret0 rfl fun w s => ⟨_, mm, rfl, hJ, s.res (((List.sublist_append_left _ _).cons _).cons _) (hJw _ _ hJ)⟩
/-- up the way of a key -/
def upD (key : B32) (t : Tr) : Nat → Tr → Tr
  | 0, x => x
  | D + 1, x => upD key t D (jnK key D x (sibK key t D))
/-- the tree with another value of a key -/
def putT (key : B32) (v : List UInt8) (t : Tr) (D : Nat) : Tr :=
  upD key t D (match wayK key t D with
    | .leaf k' v' => if k' = key then .leaf key v else pairT (.leaf k' v') (.leaf key v) D
    | _ => .leaf key v)
theorem wayK_cnt (key : B32) (t : Tr) : ∀ i, (wayK key t i).cnt ≤ t.cnt
  | 0 => Nat.le_refl _
  | i + 1 => by
    refine Nat.le_trans ?_ (wayK_cnt key t i)
    show ((wayK key t i).sub _).cnt ≤ _
    generalize wayK key t i = x
    cases x <;> cases bitAt key i <;> simp [Tr.sub, Tr.cnt]
/-- how much the counts of the way's siblings come to -/
theorem sib_cnt (key : B32) (t : Tr) (i : Nat) : (wayK key t (i + 1)).cnt + (sibK key t i).cnt ≤ (wayK key t i).cnt := by
  show ((wayK key t i).sub _).cnt + ((wayK key t i).sub _).cnt ≤ _
  generalize wayK key t i = x
  cases x <;> cases bitAt key i <;> simp [Tr.sub, Tr.cnt] <;> omega
theorem up_s (n : Nat) (hn : n ≤ 256) (gh gc k : Nat) (hk : k ≤ 1000000000) (h h0 : Zh) [hle0 : LeZ h0 h] [hT : RdZ h (some ⟨1, 0, none⟩) hashT] (t : Tr) (p : Option Addr) [ht : TrZ n h0 t p] (key : B32) (sl : Sl) (D : Nat) (hD : WayTo key t D) (x : Tr) (q : Option Addr) [hx : TrZ n h x q] (hct : x.cnt ≤ 1000000 ∧ t.cnt ≤ 1000000) (A : Option Addr) (c g9 g4 g6 g7 : Nat) (hA : ∀ i, i < D → ∃ g, A = some ⟨g, 0, none⟩) :
    Spec Tryd.prog 97 [.pointer q, .pointer (some ⟨g9, 0, none⟩), .pointer (some ⟨g4, 0, none⟩), .pointer (some ⟨g6, 0, none⟩), .pointer (some ⟨g7, 0, none⟩)].toArray [.rd (some ⟨g9, 0, none⟩) [.slice A D c], .rd A (ptrs (sibL h0 key p D)), .rd (some ⟨g4, 0, none⟩) [.pointer (some ⟨gh, 0, none⟩)], .rd (some ⟨g6, 0, none⟩) (Entry.cells ⟨key, sl⟩), .rd (some ⟨g7, 0, none⟩) [.int .i64 0], HR gh gc n] [.zone true h, CN gc k]
      (fun u : {u : Zh × Option Addr × Nat // LeZ h u.1 ∧ TrZ n u.1 (upD key t D x) u.2.1 ∧ u.2.2 ≤ k + 768} => .pointer u.1.2.1) (fun u => [.zone true u.1.1, CN gc u.1.2.2]) := by
  have hle := hD.le
  have hsl := sibL_len h0 key p D
  refine spec_of Tryd.func97 rfl (n := 23) rfl rfl ?_
  intro W
  refine h_seq ?_
  refine h_reg ?_
  refine h_opX (x_box1 rfl) fun g5 => ?_
  refine h_op (r_assign rfl) ?_
  refine h_nil ?_
  refine q_then ?_
  refine h_seq ?_
  refine h_seq ?_
  refine h_reg ?_
  refine h_op (r_loadc rfl) ?_
  refine h_call ((BackwardP_s A D c).comes) rfl rfl rfl fun g10 => ?_
  refine h_nil ?_
  refine q_then ?_
  refine h_block ?_
  have hit := BackwardP_it (sibL h0 key p D) A c g10 (by rw [hsl]; exact hA) (by omega)
  rw [hsl] at hit
  refine h_rangeG hit rfl (fun k' mm => ∃ (h1 : Zh) (q1 : Option Addr) (y : Tr) (kk : Nat), mm = [.zone true h1, CN gc kk, .blk g5 [.pointer q1] 24] ∧ LeZ h h1 ∧ TrZ n h1 y q1 ∧ upD key t (D - k') y = upD key t D x ∧ kk ≤ k + 3 * k' ∧ y.cnt ≤ 1000000 * (k' + 1)) [.zone true h, CN gc k, .blk g5 [.pointer q] 24] [.rd (some ⟨g4, 0, none⟩) [.pointer (some ⟨gh, 0, none⟩)], .rd (some ⟨g6, 0, none⟩) (Entry.cells ⟨key, sl⟩), .rd (some ⟨g7, 0, none⟩) [.int .i64 0], HR gh gc n] (by rintro k' mm ⟨h1, q1, y, kk, rfl, _⟩ f hf; simp only [List.mem_cons, List.not_mem_nil, or_false] at hf; rcases hf with rfl | rfl | rfl <;> rfl) ⟨h, q, x, k, rfl, LeZ.refl h, hx, rfl, by omega, by omega⟩ rfl (fun _ _ => rfl) ?_ ?_
  · intro ll rr k' _ mm W1 hr hrp hkN hJ2
    obtain ⟨h1, q1, y, kk, rfl, hle1, hy1, hup, hkk, hcy⟩ := hJ2
    simp only [List.nil_append, List.cons_append]
    have hT1 : RdZ h1 (some ⟨1, 0, none⟩) hashT := hT.mono hle1
    have hle01 : LeZ h0 h1 := hle0.trans hle1
    obtain ⟨i, hi⟩ : ∃ i, D - k' = i + 1 := ⟨D - k' - 1, by omega⟩
    have hi2 : D - 1 - k' = i := by omega
    have hg : (sibL h0 key p D).getD i none = sibQ h0 key p i := by rw [List.getD_eq_getElem?_getD, sibL_at h0 key p (by omega), Option.getD_some]
    rw [hi2, hg]
    rw [hi, upD] at hup
    have hs1 := sib_cnt key t i
    have hs2 := wayK_cnt key t i
    have hn1 := jnK_cnt key i y (sibK key t i)
    have hc1 := jnC_le key i y (sibK key t i)
    have hsz : TrZ n h1 (sibK key t i) (sibQ h0 key p i) := ⟨((wayK_ok ht.ok key i).sub _).mono hle01⟩
    refine h_seq ?_
    refine h_reg ?_
    refine h_op (r_assign rfl) ?_
    refine h_nil ?_
    refine q_then ?_
    refine h_reg ?_
    refine h_op (r_assign rfl) ?_
    refine h_nil ?_
    refine q_then ?_
    refine h_begin hr ?_
    refine h_block ?_
    refine h_reg ?_
    refine h_op (r_loadc rfl) ?_
    refine h_op (r_loadc rfl) ?_
    refine h_op (r_move rfl) ?_
    refine h_op (r_field rfl) ?_
    refine h_op (r_loadr rfl) ?_
    refine h_op (r_loadc rfl) ?_
    refine h_op (r_move rfl) ?_
    refine h_op (r_int (r_add rfl rfl) (show _ = (i : Int) by omega)) ?_
    refine h_call ((pjoin_s n hn gh gc kk (by omega) h1 y (sibK key t i) q1 (sibQ h0 key p i) key i (by omega) (by omega)).comes) rfl rfl rfl fun ⟨⟨h2, q2⟩, hle2, ht2⟩ => ?_
    dsimp only at hle2 ht2 ⊢
    refine h_opS (s_store rfl rfl rfl) ?_
    refine h_nil ?_
    refine q_block ?_
    exact h_endround [.zone true h2, CN gc (kk + jnC key i y (sibK key t i)), .blk g5 [.pointer q2] 24] hr hrp ⟨h2, q2, jnK key i y (sibK key t i), _, rfl, hle1.trans hle2, ht2, by rw [show D - (k' + 1) = i by omega]; exact hup, by omega, by omega⟩ (by intro f hf; simp only [List.mem_cons, List.not_mem_nil, or_false] at hf; rcases hf with rfl | rfl | rfl <;> rfl)
  · intro bb mm hJ2
    obtain ⟨h1, q1, y, kk, rfl, hle1, hy1, hup, hkk, hcy⟩ := hJ2
    rw [Nat.sub_self] at hup
    refine q_block ?_
    refine q_then ?_
    simp only [List.nil_append, List.cons_append]
    refine h_seq ?_
    refine h_reg ?_
    refine h_op (r_loadc rfl) ?_
    refine h_op (r_assign rfl) ?_
    refine h_nil ?_
    refine q_then ?_
    refine h_ret ?_
    refine h_mark ?_
    have hup' : y = upD key t D x := hup
    exact h_ret1 rfl rfl fun w s => ⟨⟨(h1, q1, kk), hle1, by rw [← hup']; exact hy1, by dsimp only; omega⟩, rfl, (same (L' := [.zone true h1, CN gc kk]) w s).res (List.Sublist.refl _) (by simp [Fa.wr])⟩
end Go.Proofs.YtgfkbeipckbkiaaDoor
/- U43 -/
namespace Go.Proofs.YtgfkbeipckbkiaaDoor
set_option linter.unusedSimpArgs false
set_option linter.unusedVariables false
open Go.RowKit
theorem common_lt {a b : B32} (h : a ≠ b) : common a b < 256 := by
  rcases Nat.lt_or_ge (common a b) 256 with h1 | h1
  · exact h1
  · refine (h ?_).elim
    apply bits_ext
    intro i hi
    unfold common at h1
    cases hf : (List.range 256).find? (fun i => bitAt a i ^^ bitAt b i) with
    | none =>
      have := List.find?_eq_none.1 hf i (by simpa using hi)
      simpa using this
    | some m =>
      rw [hf] at h1
      have := List.mem_range.1 (List.mem_of_find?_eq_some hf)
      simp at h1
      omega
/-- what the end of a way says of another key -/
def EndOk (key : B32) (t : Tr) (D : Nat) : Prop := ∀ k' v', wayK key t D = .leaf k' v' → k' ≠ key → D ≤ common k' key
theorem upN_cnt (key : B32) (d : Nat) : ∀ (j : Nat) (x : Tr), (upN key d j x).cnt = x.cnt
  | 0, _ => rfl
  | j + 1, x => by rw [upN, upN_cnt key d j, jnK_cnt]; rfl
theorem leafT_ne (n : Nat) (t : Tr) (h : t.kind ≠ 1) : leafT n t = zLeaf := by cases t <;> first | rfl | exact (h rfl).elim
theorem PAt_s (n : Nat) (hn : n ≤ 256) (gh gc k : Nat) (hk : k ≤ 100000000) (h : Zh) [hT : RdZ h (some ⟨1, 0, none⟩) hashT] (t : Tr) (p : Option Addr) [ht : TrZ n h t p] (key : B32) (s : Sl) (b : List UInt8) [hs : SlZ h s b] (hb : b.length ≤ 100000000) (D : Nat) (hD : WayTo key t D) (hE : EndOk key t D) (hct : t.cnt ≤ 100000) :
    Spec Tryd.prog 85 [.pointer (some ⟨gh, 0, none⟩), .pointer p, .agg (Entry.cells ⟨key, s⟩).toArray, .int .i64 0].toArray [HR gh gc n] [.zone true h, CN gc k]
      (fun u : {u : Zh × Option Addr × Nat // LeZ h u.1 ∧ TrZ n u.1 (putT key b t D) u.2.1 ∧ u.2.2 ≤ k + 1600} => .pointer u.1.2.1) (fun u => [.zone true u.1.1, CN gc u.1.2.2]) := by
  have hle := hD.le
  have hwc := wayK_cnt key t D
  refine spec_of Tryd.func85 rfl (n := 59) rfl rfl ?_
  intro W
  refine h_seq ?_
  refine h_reg ?_
  refine h_opX (x_box1 rfl) fun g4 => ?_
  refine h_opX (x_box rfl) fun g6 => ?_
  refine h_opX (x_box1 rfl) fun g7 => ?_
  refine h_op (r_assign rfl) ?_
  refine h_nil ?_
  refine q_then ?_
  refine h_seq ?_
  refine h_reg ?_
  refine h_opX (x_alloc) fun g9 => ?_
  refine h_nil ?_
  refine q_then ?_
  refine h_seq ?_
  refine h_reg ?_
  refine h_op (r_loadc rfl) ?_
  refine h_op (r_assign rfl) ?_
  refine h_nil ?_
  refine q_then ?_
  refine h_seq ?_
  refine h_block ?_
  refine h_nil_own 24 1 (xs := ptrs (sibL h key p 0)) rfl ?_
  refine h_loop (fun (s' : Nat × Option Addr × Nat) => s'.1 ≤ D) (fun (s' : Nat × Option Addr × Nat) => [(10, .int .i64 (s'.1 : Int)), (1, .pointer (wayQ h key p s'.1)), (9, .pointer (some ⟨g9, 0, none⟩)), (4, .pointer (some ⟨g4, 0, none⟩)), (6, .pointer (some ⟨g6, 0, none⟩)), (7, .pointer (some ⟨g7, 0, none⟩))]) (fun (s' : Nat × Option Addr × Nat) => [.own (.slice s'.2.1 s'.1 s'.2.2) s'.1 24 1 (ptrs (sibL h key p s'.1)), .blk g9 [.slice s'.2.1 s'.1 s'.2.2] 151, .blk g6 (Entry.cells ⟨key, s⟩) 77, .blk g4 [.pointer (some ⟨gh, 0, none⟩)] 27, .blk g7 [.int .i64 0] 3, .zone true h, CN gc k, HR gh gc n]) (fun (s' : Nat × Option Addr × Nat) => D + 1 - s'.1) (0, none, 0) ((show 0 ≤ D from Nat.zero_le _)) ⟨rfl, rfl, rfl, rfl, rfl, rfl, trivial⟩ (same) ?_
  rintro ⟨i, A, c⟩ hi
  dsimp only at hi ⊢
  refine h_seq ?_
  refine h_seq ?_
  refine h_reg ?_
  refine h_op (r_move rfl) ?_
  refine h_call ((Kind_s n h (wayK key t i) (wayQ h key p i)).comes) rfl rfl rfl fun _ => ?_
  refine h_op (r_eql rfl rfl) ?_
  refine h_nil ?_
  refine q_then ?_
  by_cases hk2 : (wayK key t i).kind = 2
  · have hiD : i < D := by
      rcases Nat.lt_or_ge i D with h1 | h1
      · exact h1
      · obtain rfl : i = D := by omega
        exact (hD.end_ hk2).elim
    refine h_yes rfl ((by omega)) ?_
    refine h_skip ?_
    refine q_then ?_
    refine h_seq ?_
    refine h_block ?_
    refine h_seq ?_
    refine h_reg ?_
    refine h_op (r_field rfl) ?_
    refine h_op (r_loadr rfl) ?_
    refine h_op (r_move rfl) ?_
    refine h_call ((Bit_s key i (by omega)).comes) rfl rfl rfl fun _ => ?_
    refine h_op (r_assign rfl) ?_
    refine h_nil ?_
    refine q_then ?_
    refine h_seq ?_
    refine ha_start [.blk g9 [.slice A i c] 151] [] mixed (same) ?_
    refine ha_take 0 rfl (r_loadc rfl) ?_
    refine ha_takeP 1 rfl (r_move rfl) ?_
    refine ha_takeP 2 rfl (r_move rfl) ?_
    refine ha_takeP 3 rfl (r_sub rfl rfl (by have := bitN_le key i; omega)) ?_
    refine ha_one 4 ?_
    refine ho_C 4 rfl ((Child_s n h (wayK key t i) (wayQ h key p i) _ (!bitAt key i) (bitN_not key i)).comes) rfl rfl rfl (fun _ => same) fun _ => ?_
    refine ha_one 5 ?_
    refine ho_X 5 rfl (rk (x_bsl rfl rfl)) (fun _ => same) fun g29 => ?_
    refine ha_one 6 ?_
    refine ho_X 6 rfl (rk (x_app rfl rfl)) (fun _ => same) fun ⟨g30, c30⟩ => ?_
    refine ha_one 7 ?_
    refine ho_SL 7 rfl (s_store rfl rfl rfl) ?_
    refine q_then ?_
    have e := sibL_succ h key p i
    unfold sibQ at e
    rw [e]
    refine h_reg ?_
    refine h_op (r_move rfl) ?_
    refine h_op (r_move rfl) ?_
    refine h_call ((Child_s n h (wayK key t i) (wayQ h key p i) _ (bitAt key i) (bitN_zero key i)).comes) rfl rfl rfl fun _ => ?_
    refine h_op (r_assign rfl) ?_
    refine h_nil ?_
    refine q_block ?_
    refine q_then ?_
    refine h_reg ?_
    refine h_op (r_move rfl) ?_
    refine h_op (r_add rfl rfl) ?_
    refine h_op (r_assign rfl) ?_
    refine h_nil ?_
    exact h_back (i + 1, some ⟨g30, 0, none⟩, c30) ((show i + 1 ≤ D by omega)) ((show D + 1 - (i + 1) < D + 1 - i by omega)) ⟨rfl, rfl, rfl, rfl, rfl, rfl, trivial⟩ (same)
  · have hiD : i = D := by
      rcases Nat.lt_or_ge i D with h1 | h1
      · exact (hk2 (hD.on i h1)).elim
      · omega
    subst hiD
    refine h_no rfl ((by omega)) ?_
    refine h_pure (φ := ∀ j, j < i → ∃ g, A = some ⟨g, 0, none⟩) (fun w s' j hj => s'.ownSome (N := i) (c := c) (by omega)) fun hA => ?_
    refine h_exit ?_
    refine q_thenE ?_
    refine q_thenE ?_
    refine q_blockE ?_
    refine q_then ?_
    refine h_seq ?_
    refine h_reg ?_
    refine h_op (r_func rfl rfl) ?_
    refine h_op (r_assign rfl) ?_
    refine h_nil ?_
    refine q_then ?_
    refine h_seq ?_
    refine h_reg ?_
    refine h_op (r_loadc rfl) ?_
    refine h_op (r_loadr rfl) ?_
    refine h_call ((NewLeaf_s n hn gh gc k (by omega) h key s b (by omega)).comes) rfl rfl rfl fun ⟨⟨h1, p1⟩, hle1, ht1⟩ => ?_
    dsimp only at hle1 ht1 ⊢
    have hT1 : RdZ h1 (some ⟨1, 0, none⟩) hashT := hT.mono hle1
    have hlc : (Tr.leaf key b).cnt = 1 := rfl
    by_cases h0 : (wayK key t i).kind = 0
    · have hput : putT key b t i = upD key t i (.leaf key b) := by
        unfold putT
        cases hw : wayK key t i <;> rw [hw] at h0 <;> first | rfl | cases h0
      rw [hput]
      refine h_op (r_assign rfl) ?_
      refine h_nil ?_
      refine q_then ?_
      refine h_seq ?_
      refine h_seq ?_
      refine ha_start [.blk g6 (Entry.cells ⟨key, s⟩) 77] [] mixed (same) ?_
      refine ha_takeP 0 rfl (r_move rfl) ?_
      refine ha_one 1 ?_
      refine ho_C 1 rfl ((Kind_s n h1 (wayK key t i) (wayQ h key p i)).comes) rfl rfl rfl (fun _ => same) fun _ => ?_
      refine ha_takeP 2 rfl (r_bool (r_eql rfl rfl) (decide_eq_true (by omega))) ?_
      refine ha_takeP 3 rfl (r_move rfl) ?_
      refine ha_off 4 rfl ?_
      refine ha_off 5 rfl ?_
      refine ha_off 6 rfl ?_
      refine ha_off 7 rfl ?_
      refine ha_off 8 rfl ?_
      refine ha_off 9 rfl ?_
      refine ha_takeP 10 rfl (r_pick rfl rfl) ?_
      refine ha_done (by kernel_rfl) ?_
      refine q_then ?_
      refine h_condT rfl ?_
      refine h_seq ?_
      refine h_reg ?_
      refine h_op (r_move rfl) ?_
      refine h_op (r_move rfl) ?_
      refine h_call ((up_s n hn gh gc (k + 2) (by omega) h1 h t p key s i hD (.leaf key b) p1 ⟨by omega, by omega⟩ A c g9 g4 g6 g7 hA).comes) rfl rfl rfl fun ⟨⟨h2, q2, k2⟩, hle2, ht2, hk2'⟩ => ?_
      dsimp only at hle2 ht2 hk2' ⊢
      refine h_op (r_assign rfl) ?_
      refine h_nil ?_
      refine q_then ?_
      refine h_ret ?_
      refine q_thenR ?_
      exact h_ret1 rfl rfl fun w s' => ⟨⟨(h2, q2, k2), hle1.trans hle2, ht2, by dsimp only; omega⟩, rfl, (same (L' := [.zone true h2, CN gc k2]) w s').res (List.Sublist.refl _) (by simp [Fa.wr])⟩
    · obtain ⟨k', v', hw⟩ : ∃ k' v', wayK key t i = .leaf k' v' := by
        cases hw : wayK key t i with
        | nil => rw [hw] at h0; exact (h0 rfl).elim
        | leaf k' v' => exact ⟨k', v', rfl⟩
        | node l r => rw [hw] at hk2; exact (hk2 rfl).elim
      have hlf : leafT n (wayK key t i) = leafOf n k' v' := by rw [hw]; rfl
      by_cases heq : k' = key
      · have hput : putT key b t i = upD key t i (.leaf key b) := by
          unfold putT
          rw [hw]
          simp only [if_pos heq]
        rw [hput]
        refine h_op (r_assign rfl) ?_
        refine h_nil ?_
        refine q_then ?_
        refine h_seq ?_
        refine h_seq ?_
        refine ha_start [.blk g6 (Entry.cells ⟨key, s⟩) 77] [] mixed (same) ?_
        refine ha_takeP 0 rfl (r_move rfl) ?_
        refine ha_one 1 ?_
        refine ho_C 1 rfl ((Kind_s n h1 (wayK key t i) (wayQ h key p i)).comes) rfl rfl rfl (fun _ => same) fun _ => ?_
        refine ha_takeP 2 rfl (r_bool (r_eql rfl rfl) (decide_eq_false (by omega))) ?_
        refine ha_takeP 3 rfl (r_move rfl) ?_
        refine ha_takeP 4 rfl (r_move rfl) ?_
        refine ha_takeP 7 rfl (r_field rfl) ?_
        refine ha_take 8 rfl (r_loadr rfl) ?_
        refine ha_one 5 ?_
        refine ho_C 5 rfl ((Leaf_s n h1 (wayK key t i) (wayQ h key p i)).comes) rfl rfl rfl (fun _ => same) fun _ => ?_
        refine ha_takeP 6 rfl (r_as (r_fldr rfl) (show _ = Value.agg k'.cells.toArray by rw [hlf]; rfl)) ?_
        refine ha_takeP 9 rfl (r_bool (r_eqr rfl rfl) (decide_eq_true heq)) ?_
        refine ha_takeP 10 rfl (r_pick rfl rfl) ?_
        refine ha_done (by kernel_rfl) ?_
        refine q_then ?_
        refine h_condT rfl ?_
        refine h_seq ?_
        refine h_reg ?_
        refine h_op (r_move rfl) ?_
        refine h_op (r_move rfl) ?_
        refine h_call ((up_s n hn gh gc (k + 2) (by omega) h1 h t p key s i hD (.leaf key b) p1 ⟨by omega, by omega⟩ A c g9 g4 g6 g7 hA).comes) rfl rfl rfl fun ⟨⟨h2, q2, k2⟩, hle2, ht2, hk2'⟩ => ?_
        dsimp only at hle2 ht2 hk2' ⊢
        refine h_op (r_assign rfl) ?_
        refine h_nil ?_
        refine q_then ?_
        refine h_ret ?_
        refine q_thenR ?_
        exact h_ret1 rfl rfl fun w s' => ⟨⟨(h2, q2, k2), hle1.trans hle2, ht2, by dsimp only; omega⟩, rfl, (same (L' := [.zone true h2, CN gc k2]) w s').res (List.Sublist.refl _) (by simp [Fa.wr])⟩
      · have hput : putT key b t i = upD key t i (pairT (wayK key t i) (.leaf key b) i) := by
          unfold putT
          rw [hw]
          simp only [if_neg heq]
        have hkt : keyT (wayK key t i) = k' := by rw [hw]; rfl
        have hcm : common (keyT (wayK key t i)) (keyT (.leaf key b)) = common k' key := by rw [hkt]; rfl
        have hcl := common_lt heq
        have hcd := hE k' v' hw heq
        have hpc : (pairT (wayK key t i) (.leaf key b) i).cnt ≤ 1000000 := by
          unfold pairT
          rw [upN_cnt, jnK_cnt]
          omega
        rw [hput]
        refine h_op (r_assign rfl) ?_
        refine h_nil ?_
        refine q_then ?_
        refine h_seq ?_
        refine h_seq ?_
        refine ha_start [.blk g6 (Entry.cells ⟨key, s⟩) 77] [] mixed (same) ?_
        refine ha_takeP 0 rfl (r_move rfl) ?_
        refine ha_one 1 ?_
        refine ho_C 1 rfl ((Kind_s n h1 (wayK key t i) (wayQ h key p i)).comes) rfl rfl rfl (fun _ => same) fun _ => ?_
        refine ha_takeP 2 rfl (r_bool (r_eql rfl rfl) (decide_eq_false (by omega))) ?_
        refine ha_takeP 3 rfl (r_move rfl) ?_
        refine ha_takeP 4 rfl (r_move rfl) ?_
        refine ha_takeP 7 rfl (r_field rfl) ?_
        refine ha_take 8 rfl (r_loadr rfl) ?_
        refine ha_one 5 ?_
        refine ho_C 5 rfl ((Leaf_s n h1 (wayK key t i) (wayQ h key p i)).comes) rfl rfl rfl (fun _ => same) fun _ => ?_
        refine ha_takeP 6 rfl (r_as (r_fldr rfl) (show _ = Value.agg k'.cells.toArray by rw [hlf]; rfl)) ?_
        refine ha_takeP 9 rfl (r_bool (r_eqr rfl rfl) (decide_eq_false heq)) ?_
        refine ha_takeP 10 rfl (r_pick rfl rfl) ?_
        refine ha_done (by kernel_rfl) ?_
        refine q_then ?_
        refine h_condF rfl ?_
        refine h_skip ?_
        refine q_then ?_
        refine h_seq ?_
        refine h_reg ?_
        refine h_op (r_move rfl) ?_
        refine h_op (r_loadc rfl) ?_
        refine h_op (r_move rfl) ?_
        refine h_op (r_move rfl) ?_
        refine h_op (r_move rfl) ?_
        refine h_call ((Pair_s n hn gh gc (k + 2) (by omega) h1 (wayK key t i) (.leaf key b) (wayQ h key p i) p1 i (by omega) (by omega) (by omega) (by omega)).comes) rfl rfl rfl fun ⟨⟨h2, q2, k2⟩, hle2, ht2, hk2'⟩ => ?_
        dsimp only at hle2 ht2 hk2' ⊢
        have hT2 : RdZ h2 (some ⟨1, 0, none⟩) hashT := hT1.mono hle2
        have hl02 : LeZ h h2 := hle1.trans hle2
        refine h_call ((up_s n hn gh gc k2 (by omega) h2 h t p key s i hD (pairT (wayK key t i) (.leaf key b) i) q2 ⟨hpc, by omega⟩ A c g9 g4 g6 g7 hA).comes) rfl rfl rfl fun ⟨⟨h3, q3, k3⟩, hle3, ht3, hk3'⟩ => ?_
        dsimp only at hle3 ht3 hk3' ⊢
        refine h_op (r_assign rfl) ?_
        refine h_nil ?_
        refine q_then ?_
        refine h_ret ?_
        exact h_ret1 rfl rfl fun w s' => ⟨⟨(h3, q3, k3), hl02.trans hle3, ht3, by dsimp only; omega⟩, rfl, (same (L' := [.zone true h3, CN gc k3]) w s').res (List.Sublist.refl _) (by simp [Fa.wr])⟩
theorem PPut_s (n : Nat) (hn : n ≤ 256) (gh gc k : Nat) (hk : k ≤ 100000000) (h : Zh) [hT : RdZ h (some ⟨1, 0, none⟩) hashT] (t : Tr) (p : Option Addr) [ht : TrZ n h t p] (key : B32) (s : Sl) (b : List UInt8) [hs : SlZ h s b] (hb : b.length ≤ 100000000) (D : Nat) (hD : WayTo key t D) (hE : EndOk key t D) (hct : t.cnt ≤ 100000) :
    Spec Tryd.prog 66 [.pointer (some ⟨gh, 0, none⟩), .pointer p, .agg (Entry.cells ⟨key, s⟩).toArray].toArray [HR gh gc n] [.zone true h, CN gc k]
      (fun u : {u : Zh × Option Addr × Nat // LeZ h u.1 ∧ TrZ n u.1 (putT key b t D) u.2.1 ∧ u.2.2 ≤ k + 1600} => .pointer u.1.2.1) (fun u => [.zone true u.1.1, CN gc u.1.2.2]) := by
  refine spec_of Tryd.func66 rfl (n := 11) rfl rfl ?_
  intro W
  refine h_seq ?_
  refine h_reg ?_
  refine h_opX (x_box rfl) fun g5 => ?_
  refine h_op (r_assign rfl) ?_
  refine h_nil ?_
  refine q_then ?_
  refine h_seq ?_
  refine h_reg ?_
  refine h_op (r_move rfl) ?_
  refine h_op (r_move rfl) ?_
  refine h_op (r_loadr rfl) ?_
  refine h_call ((PAt_s n hn gh gc k hk h t p key s b hb D hD hE hct).comes) rfl rfl rfl fun ⟨⟨h1, q1, k1⟩, hle1, ht1, hk1⟩ => ?_
  dsimp only at hle1 ht1 hk1 ⊢
  refine h_op (r_assign rfl) ?_
  refine h_nil ?_
  refine q_then ?_
  refine h_ret ?_
  exact h_ret1 rfl rfl fun w s => ⟨⟨(h1, q1, k1), hle1, ht1, hk1⟩, rfl, (same (L' := [.zone true h1, CN gc k1]) w s).res (List.Sublist.refl _) (by simp [Fa.wr])⟩
/-- trees that keys are put into, one after the other -/
def Puts (l : List En) (ts : Nat → Tr) : Prop := ∀ i e, l[i]? = some e → (ts i).cnt ≤ 100000 ∧ ∃ D, WayTo e.key (ts i) D ∧ EndOk e.key (ts i) D ∧ ts (i + 1) = putT e.key e.val (ts i) D
def b16 (i : Nat) : Nat := 1600 * i
theorem PAll_s (n : Nat) (hn : n ≤ 256) (gh gc k : Nat) (h : Zh) [hT : RdZ h (some ⟨1, 0, none⟩) hashT] (l : List En) (hk : k + 1600 * l.length ≤ 100000000) (hv : ValsZ h l) (ts : Nat → Tr) (hts : Puts l ts) (p : Option Addr) [ht : TrZ n h (ts 0) p] (B : Option Addr) (c : Nat) :
    Spec Tryd.prog 41 [.pointer (some ⟨gh, 0, none⟩), .pointer p, .slice B l.length c].toArray [HR gh gc n, .rd B (ents l)] [.zone true h, CN gc k]
      (fun u : {u : Zh × Option Addr × Nat // LeZ h u.1 ∧ TrZ n u.1 (ts l.length) u.2.1 ∧ u.2.2 ≤ k + 1600 * l.length} => .pointer u.1.2.1) (fun u => [.zone true u.1.1, CN gc u.1.2.2]) := by
  refine spec_of Tryd.func41 rfl (n := 21) rfl rfl ?_
  intro W
  refine h_seq ?_
  refine h_reg ?_
  refine h_op (r_assign rfl) ?_
  refine h_nil ?_
  refine q_then ?_
  refine h_seq ?_
  refine h_seq ?_
  refine h_reg ?_
  refine h_op (r_move rfl) ?_
  refine h_op (r_len rfl) ?_
  refine h_op (r_move rfl) ?_
  refine h_nil ?_
  refine q_then ?_
  refine h_block ?_
  refine h_loop (fun (s : Nat × Zh × Option Addr × Nat) => s.1 ≤ l.length ∧ LeZ h s.2.1 ∧ TrZ n s.2.1 (ts s.1) s.2.2.1 ∧ s.2.2.2 ≤ k + b16 s.1) (fun (s : Nat × Zh × Option Addr × Nat) => [(11, .int .i64 (s.1 : Int)), (10, .int .i64 (l.length : Int)), (9, .slice B l.length c), (1, .pointer s.2.2.1), (0, .pointer (some ⟨gh, 0, none⟩))]) (fun (s : Nat × Zh × Option Addr × Nat) => [.zone true s.2.1, CN gc s.2.2.2, HR gh gc n, .rd B (ents l)]) (fun (s : Nat × Zh × Option Addr × Nat) => l.length - s.1) (0, h, p, k) (⟨Nat.zero_le _, LeZ.refl h, ht, Nat.le_add_right _ _⟩) ⟨rfl, rfl, rfl, rfl, rfl, trivial⟩ (same) ?_
  rintro ⟨i, h1, q, kk⟩ ⟨hi, hle1, ht1, hkk⟩
  dsimp only at hi hle1 ht1 hkk ⊢
  have hb1 : b16 i = 1600 * i := rfl
  have hb2 : b16 (i + 1) = 1600 * (i + 1) := by unfold b16; omega
  refine h_seq ?_
  refine h_reg ?_
  refine h_op (r_lss rfl rfl) ?_
  refine h_nil ?_
  refine q_then ?_
  refine h_seq ?_
  refine h_cond rfl (fun hlt => ?_) (fun hlt => ?_)
  · obtain ⟨e, he⟩ := getE (l := l) (k := i) (by omega)
    refine h_pure (φ := ∃ b o, B = some ⟨b, o, none⟩) (fun w s => Rd.some (s.ok (.rd B (ents l)) (by simp)) (by rw [ents_len]; omega)) ?_
    rintro ⟨bb, o, rfl⟩
    obtain ⟨hcn, D, hD, hE, hput⟩ := hts i e he
    obtain ⟨hs, hvl⟩ := (hv e (List.mem_of_getElem? he))
    obtain ⟨⟨key, sl⟩, b⟩ := e
    dsimp only at hs hvl hput
    have hT1 : RdZ h1 (some ⟨1, 0, none⟩) hashT := hT.mono hle1
    have hs1 : SlZ h1 sl b := hs.mono hle1
    refine h_skip ?_
    refine q_then ?_
    refine h_seq ?_
    refine h_block ?_
    refine h_seq ?_
    refine h_reg ?_
    refine h_op (r_idx rfl rfl) ?_
    refine h_op (r_nthr rfl (out := Entry.cells ⟨key, sl⟩) (Entry.cells_length _) (ents_at he)) ?_
    refine h_opX (x_alloc) fun g8 => ?_
    refine h_opS (s_storer rfl rfl) ?_
    refine h_nil ?_
    refine q_then ?_
    refine h_reg ?_
    refine h_op (r_move rfl) ?_
    refine h_op (r_move rfl) ?_
    refine h_op (r_loadr rfl) ?_
    refine h_call ((PPut_s n hn gh gc kk (by omega) h1 (ts i) q key sl b (by omega) D hD hE hcn).comes) rfl rfl rfl fun ⟨⟨h2, q2, k2⟩, hle2, ht2, hk2⟩ => ?_
    dsimp only at hle2 ht2 hk2 ⊢
    rw [← hput] at ht2
    refine h_op (r_assign rfl) ?_
    refine h_nil ?_
    refine q_block ?_
    refine q_then ?_
    refine h_reg ?_
    refine h_op (r_add rfl rfl) ?_
    refine h_op (r_move rfl) ?_
    refine h_nil ?_
    have hk3 : k2 ≤ k + b16 (i + 1) := by omega
    have hi3 : i + 1 ≤ l.length := by omega
    exact h_back (i + 1, h2, q2, k2) (⟨hi3, hle1.trans hle2, ht2, hk3⟩) ((show l.length - (i + 1) < l.length - i by omega)) ⟨rfl, rfl, rfl, rfl, rfl, trivial⟩ (same)
  · obtain rfl : i = l.length := by omega
    refine h_exit ?_
    refine q_thenE ?_
    refine q_thenE ?_
    refine q_blockE ?_
    refine q_then ?_
    refine h_seq ?_
    refine h_reg ?_
    refine h_op (r_move rfl) ?_
    refine h_op (r_assign rfl) ?_
    refine h_nil ?_
    refine q_then ?_
    refine h_ret ?_
    exact h_ret1 rfl rfl fun w s => ⟨⟨(h1, q, kk), hle1, ht1, by dsimp only; omega⟩, rfl, (same (L' := [.zone true h1, CN gc kk]) w s).res (List.Sublist.refl _) (by simp [Fa.wr])⟩
end Go.Proofs.YtgfkbeipckbkiaaDoor
/- U44 -/
namespace Go.Proofs.YtgfkbeipckbkiaaDoor
set_option linter.unusedSimpArgs false
set_option linter.unusedVariables false
open Go.RowKit
/-- whether two proofs are the same -/
def eqP (p q : Proof) (ss tt : List B32) : Prop := p.kind = q.kind ∧ p.depth = q.depth ∧ p.leaf = q.leaf ∧ p.bitmap = q.bitmap ∧ ss = tt
instance (p q : Proof) (ss tt : List B32) : Decidable (eqP p q ss tt) := inferInstanceAs (Decidable (_ ∧ _))
end Go.Proofs.YtgfkbeipckbkiaaDoor
/- U45 -/
namespace Go.Proofs.YtgfkbeipckbkiaaDoor
set_option linter.unusedSimpArgs false
set_option linter.unusedVariables false
open Go.RowKit
/-- whether a proof's end fits a claim -/
def supP (p : Proof) (key val : B32) (present : Bool) : Bool := if present = true then decide (p.kind = 1 ∧ p.leaf = ⟨key, val⟩) else if p.kind = 1 then decide (p.leaf.key ≠ key ∧ p.depth ≤ (common p.leaf.key key : Int)) else decide (p.kind = 0)
end Go.Proofs.YtgfkbeipckbkiaaDoor
/- U26p -/
namespace Go.Proofs.YtgfkbeipckbkiaaDoor
set_option linter.unusedSimpArgs false
set_option linter.unusedVariables false
open Go.RowKit
theorem checkP_5 {p : Proof} (h0 : okJ p 0 = true) {j : Nat} (hj : 1 ≤ j ∧ j < 5) (h : okJ p j = false) : checkP p = 5 := by
  unfold checkP
  rw [h0, if_neg (by simp)]
  rcases (show j = 1 ∨ j = 2 ∨ j = 3 ∨ j = 4 by omega) with rfl | rfl | rfl | rfl
  · rw [if_pos h]
  · by_cases h1 : okJ p 1 = false
    · rw [if_pos h1]
    · rw [if_neg h1, if_pos h]
  · by_cases h1 : okJ p 1 = false
    · rw [if_pos h1]
    · by_cases h2 : okJ p 2 = false
      · rw [if_neg h1, if_pos h2]
      · rw [if_neg h1, if_neg h2, if_pos h]
  · by_cases h1 : okJ p 1 = false
    · rw [if_pos h1]
    · by_cases h2 : okJ p 2 = false
      · rw [if_neg h1, if_pos h2]
      · by_cases h3 : okJ p 3 = false
        · rw [if_neg h1, if_neg h2, if_pos h3]
        · rw [if_neg h1, if_neg h2, if_neg h3, if_pos h]
theorem checkP_ok {p : Proof} (h0 : okJ p 0 = true) (h1 : okJ p 1 = true) (h2 : okJ p 2 = true) (h3 : okJ p 3 = true) (h4 : okJ p 4 = true) : checkP p = 0 := by
  unfold checkP
  rw [h0, if_neg (by simp), h1, if_neg (by simp), h2, if_neg (by simp), h3, if_neg (by simp), h4, if_neg (by simp)]
theorem lastI_pos {b : B32} (h : 0 < (depths b).length) : lastI b 256 = (((depths b).getD ((depths b).length - 1) 0 : Nat) : Int) := by
  rw [lastI_depths, List.getLast?_eq_getElem?, List.getD]
  cases hx : (depths b)[(depths b).length - 1]? with
  | none => rw [List.getElem?_eq_none_iff] at hx; omega
  | some i => rfl
theorem lastI_nil {b : B32} (h : (depths b).length = 0) : lastI b 256 = -1 := by
  rw [lastI_depths, List.eq_nil_of_length_eq_zero h]
  rfl
end Go.Proofs.YtgfkbeipckbkiaaDoor
/- U17 -/
namespace Go.Proofs.YtgfkbeipckbkiaaDoor
set_option linter.unusedSimpArgs false
set_option linter.unusedVariables false
open Go.RowKit
theorem ok_depth {p : Proof} (h : checkP p = 0) : 0 ≤ p.depth ∧ p.depth ≤ 256 := by simpa [okJ] using checkP_zero h 1 (by omega)
theorem ok_last {p : Proof} (h : checkP p = 0) : lastI p.bitmap 256 = p.depth - 1 := by simpa [okJ] using checkP_zero h 3 (by omega)
theorem ok_sibs {p : Proof} (h : checkP p = 0) : (depths p.bitmap).length = p.sibs.n := by
  have := checkP_zero h 4 (by omega)
  simp only [okJ, decide_eq_true_eq] at this
  omega
end Go.Proofs.YtgfkbeipckbkiaaDoor
/- U46 -/
namespace Go.Proofs.YtgfkbeipckbkiaaDoor
set_option linter.unusedSimpArgs false
set_option linter.unusedVariables false
open Go.RowKit
/-- the deepest subtree beside the way is not empty -/
def LastOk (key : B32) (t : Tr) (D : Nat) : Prop := ∀ i, D = i + 1 → (sibK key t i).kind ≠ 0
theorem prf_depths {key : B32} {t : Tr} {D : Nat} (hD : D ≤ 256) : depths (dset (dsK key t D)) = dsK key t D :=
  dset_depths ((List.pairwise_lt_range).filter _) fun i hi => by have := dsK_lt hi; omega
theorem prf_ok (n : Nat) {key : B32} {t : Tr} {D : Nat} (hD : WayTo key t D) (hL : LastOk key t D) (A : Option Addr) (c : Nat) : checkP (prfK n key t D A c) = 0 := by
  have hle := hD.le
  have hdep := prf_depths (key := key) (t := t) hle
  have hk : (wayK key t D).kind = 0 ∨ (wayK key t D).kind = 1 := by
    have := hD.end_
    generalize wayK key t D = x at *
    cases x with
    | nil => exact .inl rfl
    | leaf k v => exact .inr rfl
    | node l r => exact (this rfl).elim
  refine checkP_ok ?_ ?_ ?_ ?_ ?_
  · show (decide (((wayK key t D).kind : Int) = 0) || decide (((wayK key t D).kind : Int) = 1)) = true
    rcases hk with h | h <;> rw [h] <;> rfl
  · show (decide (0 ≤ (D : Int)) && decide ((D : Int) ≤ 256)) = true
    simp; omega
  · show (decide (((wayK key t D).kind : Int) = 1) || decide (leafT n (wayK key t D) = zLeaf)) = true
    rcases hk with h | h
    · rw [leafT_ne n _ (by omega)]; simp
    · rw [h]; rfl
  · show decide (lastI (dset (dsK key t D)) 256 = (D : Int) - 1) = true
    refine decide_eq_true ?_
    rcases D with _ | i
    · rw [lastI_nil (by rw [hdep]; rfl)]; rfl
    · have h1 := dsK_yes (hL i rfl)
      rw [lastI_pos (by rw [hdep, h1]; simp), hdep, h1]
      simp
  · show decide (((depths (dset (dsK key t D))).length : Int) = ((dsK key t D).length : Int)) = true
    rw [hdep]; simp
theorem rsK_len (n : Nat) (key : B32) (t : Tr) (D : Nat) : (rsK n key t D).length = (dsK key t D).length := by unfold rsK; rw [List.length_map]
def kB (x : UInt8) : B32 := ⟨x :: List.replicate 31 0, rfl⟩
def T15 : Tr := .node (.leaf zB32 []) (.leaf (kB 255) [])
def L15 : List En := [⟨⟨zB32, ⟨none, 0, 0⟩⟩, []⟩, ⟨⟨kB 255, ⟨none, 0, 0⟩⟩, []⟩]
def ts15 : Nat → Tr
  | 0 => .nil
  | 1 => .leaf zB32 []
  | _ => T15
theorem slz_nil (h : Zh) : SlZ h ⟨none, 0, 0⟩ [] := ⟨rfl, Nat.le_refl _, fun _ => ⟨rfl, rfl⟩, RdZ.nil _ _⟩
theorem puts15 : Puts L15 ts15 := by
  intro i e he
  match i, he with
  | 0, he =>
    obtain rfl : _ = e := Option.some.inj he
    exact ⟨by decide, 0, ⟨by omega, (by intro h; cases h), (fun i hi => by omega)⟩, (fun k' v' h => by cases h), rfl⟩
  | 1, he =>
    obtain rfl : _ = e := Option.some.inj he
    refine ⟨by decide, 0, ⟨by omega, (by intro h; cases h), (fun i hi => by omega)⟩, fun k' v' _ _ => Nat.zero_le _, ?_⟩
    have h1 : ¬ zB32 = kB 255 := by decide
    have h2 : common zB32 (kB 255) = 0 := by decide +kernel
    have h3 : bitAt zB32 0 = false := by decide +kernel
    show T15 = upD (kB 255) _ 0 (if zB32 = kB 255 then _ else pairT (.leaf zB32 []) (.leaf (kB 255) []) 0)
    rw [if_neg h1]
    show T15 = pairT (.leaf zB32 []) (.leaf (kB 255) []) 0
    unfold pairT
    show T15 = upN zB32 0 (common zB32 (kB 255) - 0) (jnK zB32 (common zB32 (kB 255)) _ _)
    rw [h2]
    show T15 = jnK zB32 0 _ _
    unfold jnK
    rw [h3, if_neg (by simp)]
    rfl
  | i + 2, he => cases he
theorem vals15 (h : Zh) : ValsZ h L15 := by
  intro e he
  simp only [L15, List.mem_cons, List.not_mem_nil, or_false] at he
  rcases he with rfl | rfl
  · exact ⟨slz_nil h, by decide⟩
  · exact ⟨slz_nil h, by decide⟩
theorem b128 : bitAt (kB 128) 0 = true := by decide +kernel
theorem way15 : WayTo (kB 128) T15 1 := by
  have e : wayK (kB 128) T15 1 = .leaf (kB 255) [] := by
    show T15.sub (bitAt (kB 128) 0) = _
    rw [b128]; rfl
  refine ⟨by omega, by rw [e]; decide, fun i hi => ?_⟩
  obtain rfl : i = 0 := by omega
  rfl
theorem last15 : LastOk (kB 128) T15 1 := by
  intro i hi
  obtain rfl : i = 0 := by omega
  show (T15.sub (!bitAt (kB 128) 0)).kind ≠ 0
  rw [b128]; decide
theorem prf15 (A : Option Addr) (c : Nat) : prfK 256 (kB 128) T15 1 A c = ⟨1, 1, leafOf 256 (kB 255) [], dset [0], ⟨A, 1, c⟩⟩ := by
  have e : wayK (kB 128) T15 1 = .leaf (kB 255) [] := by
    show T15.sub (bitAt (kB 128) 0) = _
    rw [b128]; rfl
  have e2 : dsK (kB 128) T15 1 = [0] := by rw [dsK_yes (last15 0 rfl)]; rfl
  unfold prfK
  rw [e, e2]
  rfl
theorem z7 : prfK 256 (kB 7) .nil 0 none 0 = zProof := by
  unfold prfK
  show (⟨0, 0, zLeaf, dset [], ⟨none, 0, 0⟩⟩ : Proof) = zProof
  rw [dset_nil]; rfl
end Go.Proofs.YtgfkbeipckbkiaaDoor
/- U47 -/
namespace Go.Proofs.YtgfkbeipckbkiaaDoor
set_option linter.unusedSimpArgs false
set_option linter.unusedVariables false
open Go.RowKit
abbrev P7 (A : Option Addr) (c : Nat) : Proof := ⟨0, 0, zLeaf, zB32, ⟨A, 0, c⟩⟩
abbrev Q15 (A : Option Addr) (c : Nat) : Proof := ⟨1, 1, leafOf 256 (kB 255) [], dset [0], ⟨A, 1, c⟩⟩
def R15 : List B32 := [dgT 256 (.leaf zB32 [])]
theorem prf7 (A : Option Addr) (c : Nat) : prfK 256 (kB 7) .nil 0 A c = P7 A c := by
  unfold prfK P7
  show (⟨0, 0, zLeaf, dset [], ⟨A, 0, c⟩⟩ : Proof) = _
  rw [dset_nil]
theorem ds7 : dsK (kB 7) .nil 0 = [] := rfl
theorem rs7 : rsK 256 (kB 7) .nil 0 = [] := rfl
theorem prf15' (A : Option Addr) (c : Nat) : prfK 256 (kB 128) T15 1 A c = Q15 A c := prf15 A c
theorem ds15 : dsK (kB 128) T15 1 = [0] := by rw [dsK_yes (last15 0 rfl)]; rfl
theorem rs15 : rsK 256 (kB 128) T15 1 = R15 := by
  unfold rsK
  rw [ds15]
  show [dgT 256 (T15.sub (!bitAt (kB 128) 0))] = R15
  rw [b128]; rfl
theorem fill_kB (x : UInt8) : Instr.fill (plArr 1) zB32.cells.toArray [(0, Value.int .u8 (x.toNat : Int))] = some (kB x).cells.toArray := by kernel_rfl
theorem ok15 (A : Option Addr) (c : Nat) : checkP (Q15 A c) = 0 := by
  have := prf_ok 256 way15 last15 A c
  rw [prf15] at this
  exact this
theorem sup15a (A : Option Addr) (c : Nat) : supP (Q15 A c) (kB 128) zB32 false = true := by
  have h1 : common (kB 255) (kB 128) = 1 := by decide +kernel
  have h2 : kB 255 ≠ kB 128 := by decide
  unfold supP
  rw [if_neg (by simp), if_pos (show (Q15 A c).kind = 1 from rfl)]
  refine decide_eq_true ⟨h2, ?_⟩
  show (1 : Int) ≤ (common (kB 255) (kB 128) : Nat)
  rw [h1]; decide
theorem sup15b (A : Option Addr) (c : Nat) : supP (Q15 A c) (kB 255) zB32 false = false := by
  unfold supP
  rw [if_neg (by simp), if_pos (show (Q15 A c).kind = 1 from rfl)]
  exact decide_eq_false fun e => e.1 rfl
end Go.Proofs.YtgfkbeipckbkiaaDoor
