/- The reference's maps: Few, Root; the tree that grows out of a map; The tree that grows out of a map; put: a key that is put into a tree; put: At, Put, All; Proofs compared, copied, held against a claim; Proofs copied, and held against a claim; A proof's siblings, expanded: the program; fold: the end, Backward; fold.ways: what it yields; fold.Steps, fold.Root; Booleans compared; small laws; Shifts by eight; a slice's first cells as an array; verify: the small steps, supports, leads; codec: Size, Kind, Encode of a proof that is well-formed; codec.Encode of a proof that is well-formed; codec.Decode of the bytes of a proof that is well-formed; codec.Decode of the bytes of a proof that is well-formed; codec.Decode, of all bytes; Interface values held against nil; verify: Verify, Claim, Accepts; The library's comparison of byte slices; A slice cut at its length and its capacity; Calls of the library's entries (reflection), as single operations; errors.As at the errors of this program; fault.Code, First; errors.As at the errors of this program; fault.Code, First; verify.Check (joined texts: U40 U41 U42 U43 U44 U45 U17 U18 U19 U20 N12 N13 U90 U56 U57 U58 U59 U91 N14 U92 N15 N16 N17 U93 U94) -/
import Derived.Test.YtjhocljhhpkiiaaGreatDoorH10
import Derived.WideLaws
import Derived.Lib.BytesEntry
import Derived.Lib.Bytealg
import Derived.Stop.Asserts
import Derived.LaidEql
set_option linter.all false
/- U40 -/
namespace Go.Proofs.YtjhocljhhpkiiaaGreatDoor
set_option linter.unusedSimpArgs false
set_option linter.unusedVariables false
open Go.RowKit
def fewM (l : List En) : Bool := decide (l.length ≤ 12) && l.all fun e => decide (e.e.value.n ≤ 200)
theorem Few_s (l : List En) (B : Option Addr) (c : Nat) (hm : l.length ≤ 1000000000000000) : Spec Tryz.prog 63 [.slice B l.length c].toArray [.rd B (ents l)] [] (fun _ : Unit => .bool (fewM l)) (fun _ => []) := by
  unfold fewM
  refine spec_of Tryz.func63 rfl (n := 20) rfl rfl ?_
  intro W
  by_cases h12 : 12 < l.length
  · rw [decide_eq_false (by omega), Bool.false_and]
    refine h_seq ?_
    refine h_reg ?_
    refine h_op (r_assign rfl) ?_
    refine h_nil ?_
    refine q_then ?_
    refine h_seq ?_
    refine h_seq ?_
    refine h_reg ?_
    refine h_op (r_move rfl) ?_
    refine h_op (r_len rfl) ?_
    refine h_op (r_gtr rfl rfl) ?_
    refine h_nil ?_
    refine q_then ?_
    refine h_yes rfl ((by omega)) ?_
    refine h_seq ?_
    refine h_reg ?_
    refine h_op (r_assign rfl) ?_
    refine h_nil ?_
    refine q_then ?_
    refine h_ret ?_
    refine q_thenR ?_
    exact h_ret1 rfl rfl fun w s => ⟨(), rfl, s.res (List.nil_sublist _) (by simp)⟩
  · rw [decide_eq_true (by omega), Bool.true_and]
    refine h_seq ?_
    refine h_reg ?_
    refine h_op (r_assign rfl) ?_
    refine h_nil ?_
    refine q_then ?_
    refine h_seq ?_
    refine h_seq ?_
    refine h_reg ?_
    refine h_op (r_move rfl) ?_
    refine h_op (r_len rfl) ?_
    refine h_op (r_gtr rfl rfl) ?_
    refine h_nil ?_
    refine q_then ?_
    refine h_no rfl ((by omega)) ?_
    refine h_skip ?_
    refine q_then ?_
    refine h_seq ?_
    refine h_seq ?_
    refine h_reg ?_
    refine h_op (r_assign rfl) ?_
    refine h_nil ?_
    refine q_then ?_
    refine h_block ?_
    refine h_loop (fun (k : Nat) => k ≤ l.length ∧ ∀ e ∈ l.take k, e.e.value.n ≤ 200) (fun (k : Nat) => [(3, .int .i64 (k : Int)), (0, .slice B l.length c)]) (fun (k : Nat) => [.rd B (ents l)]) (fun (k : Nat) => l.length - k) 0 (⟨Nat.zero_le _, fun e he => by simp at he⟩) ⟨rfl, rfl, trivial⟩ (same) ?_
    rintro k ⟨hk, ha⟩
    refine h_seq ?_
    refine h_seq ?_
    refine h_reg ?_
    refine h_op (r_move rfl) ?_
    refine h_op (r_move rfl) ?_
    refine h_op (r_len rfl) ?_
    refine h_op (r_lss rfl rfl) ?_
    refine h_nil ?_
    refine q_then ?_
    refine h_cond rfl (fun h => ?_) (fun h => ?_)
    · obtain ⟨e, he⟩ := getE (l := l) (k := k) (by omega)
      refine h_pure (φ := ∃ b o, B = some ⟨b, o, none⟩) (fun w s => Rd.some (s.ok (.rd B (ents l)) (by simp)) (by rw [ents_len]; omega)) ?_
      rintro ⟨b, o, rfl⟩
      refine h_skip ?_
      refine q_then ?_
      refine h_seq ?_
      refine h_block ?_
      refine h_seq ?_
      refine h_reg ?_
      refine h_op (r_move rfl) ?_
      refine h_op (r_move rfl) ?_
      refine h_op (r_idx rfl rfl) ?_
      refine h_op (r_field rfl (O' := o + (k * 33 + 32)) (by omega)) ?_
      refine h_op (r_nth rfl (ents_val he)) ?_
      refine h_op (r_len rfl) ?_
      refine h_op (r_gtr rfl rfl) ?_
      refine h_nil ?_
      refine q_then ?_
      refine h_cond rfl (fun h2 => ?_) (fun h2 => ?_)
      · have : (l.all fun e => decide (e.e.value.n ≤ 200)) = false := by
          rw [List.all_eq_false]
          exact ⟨e, List.mem_of_getElem? he, by simp; omega⟩
        rw [this]
        refine h_seq ?_
        refine h_reg ?_
        refine h_op (r_assign rfl) ?_
        refine h_nil ?_
        refine q_then ?_
        refine h_ret ?_
        refine q_blockR ?_
        refine q_thenR ?_
        refine q_thenR ?_
        refine q_blockR ?_
        refine q_thenR ?_
        exact h_ret1 rfl rfl fun w s => ⟨(), rfl, s.res (List.nil_sublist _) (by simp)⟩
      · have ha2 : ∀ f ∈ l.take (k + 1), f.e.value.n ≤ 200 := fun f hf => by
          rw [take_snocE he] at hf
          rcases List.mem_append.1 hf with hf | hf
          · exact ha f hf
          · rw [List.mem_singleton.1 hf]; omega
        refine h_skip ?_
        refine q_block ?_
        refine q_then ?_
        refine h_reg ?_
        refine h_op (r_move rfl) ?_
        refine h_op (r_add rfl rfl) ?_
        refine h_op (r_assign rfl) ?_
        refine h_nil ?_
        exact h_back (k + 1) (⟨by omega, ha2⟩) (by omega) ⟨rfl, rfl, trivial⟩ (same)
    · obtain rfl : k = l.length := by omega
      rw [List.take_length] at ha
      have : (l.all fun e => decide (e.e.value.n ≤ 200)) = true := List.all_eq_true.2 fun e he => decide_eq_true (ha e he)
      rw [this]
      refine h_exit ?_
      refine q_thenE ?_
      refine q_thenE ?_
      refine q_blockE ?_
      refine q_then ?_
      refine h_seq ?_
      refine h_reg ?_
      refine h_op (r_assign rfl) ?_
      refine h_nil ?_
      refine q_then ?_
      refine h_ret ?_
      exact h_ret1 rfl rfl fun w s => ⟨(), rfl, s.res (List.nil_sublist _) (by simp)⟩
theorem rValue_s (l : List UInt8) (B : Option Addr) (c : Nat) (hB : B = none → l.length = 0 ∧ c = 0) (hl : l.length ≤ 100000000) : Spec Tryz.prog 88 [.slice B l.length c].toArray [.rd B (bc l)] [] (fun u : Nat × Nat => .slice (some ⟨u.1, 0, none⟩) (preV l).length u.2) (fun u => [.own (.slice (some ⟨u.1, 0, none⟩) (preV l).length u.2) (preV l).length 5 1 (bc (preV l))]) := by
  have e : [(2 : UInt8)] ++ l = preV l := rfl
  refine spec_of Tryz.func88 rfl (n := 6) rfl rfl ?_
  intro W
  refine h_seq ?_
  refine h_reg ?_
  refine h_op (r_assign rfl) ?_
  refine h_nil ?_
  refine q_then ?_
  refine h_seq ?_
  refine h_reg ?_
  refine h_opX (x_bslV (ys := [.int .u8 2]) (bc [2]) rfl rfl (bc_one _)) fun g3 => ?_
  refine h_op (r_move rfl) ?_
  refine h_opX (x_appAB rfl rfl hB rfl (N' := (preV l).length) (hN := Nat.add_comm _ _)) fun ⟨A5, c5⟩ => ?_
  refine h_pure (φ := ∃ g, A5 = some ⟨g, 0, none⟩) (fun w s => s.ownSome (N := (preV l).length) (c := c5) (Nat.succ_pos _)) ?_
  rintro ⟨g, rfl⟩
  rw [e]
  refine h_op (r_assign rfl) ?_
  refine h_nil ?_
  refine q_then ?_
  refine h_ret ?_
  exact h_ret1 rfl rfl fun w s => ⟨(g, c5), rfl, (same w s).res (List.Sublist.refl _) (by simp [Fa.wr])⟩
theorem rLeafOf_s (n : Nat) (hn : n ≤ 256) (key : B32) (l : List UInt8) (B : Option Addr) (c : Nat) (hB : B = none → l.length = 0 ∧ c = 0) (hl : l.length ≤ 100000000) : Spec Tryz.prog 77 [.int .i64 (n : Int), .agg key.cells.toArray, .slice B l.length c].toArray [.rd B (bc l)] [] (fun _ : Unit => .agg (leafOf n key l).cells.toArray) (fun _ => []) := by
  have hpl : (preV l).length = l.length + 1 := rfl
  refine spec_of Tryz.func77 rfl (n := 13) rfl rfl ?_
  intro W
  refine h_seq ?_
  refine h_reg ?_
  refine h_opX (x_box rfl) fun g4 => ?_
  refine h_opX (x_alloc) fun g6 => ?_
  refine h_nil ?_
  refine q_then ?_
  refine h_seq ?_
  refine ha_start [.blk g4 key.cells 35] [] mixed (same) ?_
  refine ha_take 0 rfl (r_loadr rfl) ?_
  refine ha_takeP 1 rfl (r_move rfl) ?_
  refine ha_takeP 2 rfl (r_move rfl) ?_
  refine ha_one 3 ?_
  refine ho_C 3 rfl ((rValue_s l B c hB hl).comes) rfl rfl rfl (fun xx => same) fun ⟨g10, c10⟩ => ?_
  refine ha_one 4 ?_
  refine ho_C 4 rfl ((refSum5_s n hn (preV l) (some ⟨g10, 0, none⟩) c10 (fun h => by cases h) (by omega)).comes) rfl rfl rfl (fun xx => same) fun _ => ?_
  refine ha_takeP 5 rfl (r_build rfl) ?_
  refine ha_one 6 ?_
  refine ho_SL 6 rfl (s_storer rfl rfl) ?_
  refine q_then ?_
  refine h_ret ?_
  exact h_ret1 rfl (rv_row rfl) fun w s => ⟨(), rfl, s.res (List.nil_sublist _) (by simp)⟩
theorem ents_key0 (e : En) : ∀ j v, e.key.cells[j]? = some v → (ents [e])[0 + j]? = some v := fun j v hv => by have := ents_key (l := [e]) (k := 0) rfl j v hv; rwa [Nat.zero_mul] at this
theorem ents_at0 (e : En) : ∀ j v, e.e.cells[j]? = some v → (ents [e])[0 + j]? = some v := fun j v hv => by have := ents_at (l := [e]) (k := 0) rfl j v hv; rwa [Nat.zero_mul] at this
theorem ents_val0 (e : En) : (ents [e])[32]? = some (.slice e.e.value.A e.e.value.n e.e.value.c) := by have := ents_val (l := [e]) (k := 0) rfl; rwa [Nat.zero_mul, Nat.zero_add] at this
/-- each value of the entries is held -/
def ValsZ (h : Zh) (m : List En) : Prop := ∀ e ∈ m, SlZ h e.e.value e.val ∧ e.val.length ≤ 10000000
theorem ValsZ.part {h : Zh} {m : List En} (x : ValsZ h m) (d : Nat) (b : Bool) : ValsZ h (part m d b) := fun e he => x e (part_mem.1 he).1
theorem ValsZ.mono {h h' : Zh} (hl : LeZ h h') {m : List En} (x : ValsZ h m) : ValsZ h' m := fun e he => ⟨(x e he).1.mono hl, (x e he).2⟩
theorem Root_any (n : Nat) (hn : n ≤ 256) (h : Zh) {m : List En} {d : Nat} (hd : d ≤ 256) (ha : Alike m d) : m.length ≤ 1000000 → ValsZ h m → ∀ (B : Option Addr) (c : Nat), Spec Tryz.prog 25 [.int .i64 (n : Int), .slice B m.length c, .int .i64 (d : Int)].toArray [.rd B (ents m), .zone false h] [] (fun _ : Unit => .agg (rootM n m d).cells.toArray) (fun _ => []) := by
  refine parts_ind (p := fun m d => m.length ≤ 1000000 → ValsZ h m → ∀ (B : Option Addr) (c : Nat), Spec Tryz.prog 25 [.int .i64 (n : Int), .slice B m.length c, .int .i64 (d : Int)].toArray [.rd B (ents m), .zone false h] [] (fun _ : Unit => .agg (rootM n m d).cells.toArray) (fun _ => [])) ?_ ?_ ?_ (256 - d) m d (Nat.le_refl _) hd ha
  · intro d _ _ B c
    rw [rootM_nil]
    refine spec_of Tryz.func25 rfl (n := 49) rfl rfl ?_
    intro W
    refine h_seq ?_
    refine h_reg ?_
    refine h_opX (x_alloc) fun g6 => ?_
    refine h_nil ?_
    refine q_then ?_
    refine h_seq ?_
    refine h_seq ?_
    refine h_reg ?_
    refine h_op (r_move rfl) ?_
    refine h_op (r_len rfl) ?_
    refine h_op (r_bool (r_eql rfl rfl) (show _ = true by simp)) ?_
    refine h_nil ?_
    refine q_then ?_
    refine h_condT rfl ?_
    refine h_seq ?_
    refine h_reg ?_
    refine h_op (r_move rfl) ?_
    refine h_call ((rEmpty_s n hn).comes) rfl rfl rfl fun _ => ?_
    refine h_opS (s_storer rfl rfl) ?_
    refine h_nil ?_
    refine q_then ?_
    refine h_ret ?_
    refine q_thenR ?_
    exact h_ret1 rfl (rv_row rfl) fun w s => ⟨(), rfl, s.res (List.nil_sublist _) (by simp)⟩
  · intro e d hd _ hv B c
    rw [rootM_one n e hd]
    obtain ⟨hs, hvl⟩ := hv e (by simp)
    obtain ⟨⟨key, A, N, cc⟩, b⟩ := e
    obtain rfl : N = b.length := hs.len
    have hA : A = none → b.length = 0 ∧ cc = 0 := hs.nil
    have hrd : RdZ h A (bc b) := hs.rd
    dsimp only at hvl
    refine spec_of Tryz.func25 rfl (n := 49) rfl rfl ?_
    intro W
    refine h_seq ?_
    refine h_reg ?_
    refine h_opX (x_alloc) fun g6 => ?_
    refine h_nil ?_
    refine q_then ?_
    refine h_seq ?_
    refine h_seq ?_
    refine h_reg ?_
    refine h_op (r_move rfl) ?_
    refine h_op (r_len rfl) ?_
    refine h_op (r_bool (r_eql rfl rfl) (show _ = false by simp)) ?_
    refine h_nil ?_
    refine q_then ?_
    refine h_condF rfl ?_
    refine h_skip ?_
    refine q_then ?_
    refine h_seq ?_
    refine h_seq ?_
    refine h_reg ?_
    refine h_op (r_move rfl) ?_
    refine h_op (r_len rfl) ?_
    refine h_op (r_bool (r_eql rfl rfl) (show _ = true by simp)) ?_
    refine h_nil ?_
    refine q_then ?_
    refine h_condT rfl ?_
    refine h_pure (φ := ∃ b o, B = some ⟨b, o, none⟩) (fun w s => Rd.some (s.ok (.rd B (ents [⟨⟨key, ⟨A, b.length, cc⟩⟩, b⟩])) (by simp)) (by rw [ents_len]; exact Nat.zero_lt_succ _)) ?_
    rintro ⟨bb, o, rfl⟩
    refine h_seq ?_
    refine ha_start [.rd (some ⟨bb, o, none⟩) (ents [⟨⟨key, ⟨A, b.length, cc⟩⟩, b⟩])] [] mixed (same) ?_
    refine ha_takeP 0 rfl (r_move rfl) ?_
    refine ha_takeP 1 rfl (r_move rfl) ?_
    refine ha_takeP 2 rfl (r_move rfl) ?_
    refine ha_takeP 3 rfl (r_idx rfl rfl (hm := by simp)) ?_
    refine ha_takeP 4 rfl (r_field rfl) ?_
    refine ha_take 5 rfl (r_nthr rfl (out := key.cells) (B32.cells_length _) (ents_key0 ⟨⟨key, ⟨A, b.length, cc⟩⟩, b⟩)) ?_
    refine ha_takeP 6 rfl (r_move rfl) ?_
    refine ha_takeP 7 rfl (r_idx rfl rfl (hm := by simp)) ?_
    refine ha_takeP 8 rfl (r_field rfl) ?_
    refine ha_take 9 rfl (r_nth rfl (ents_val0 ⟨⟨key, ⟨A, b.length, cc⟩⟩, b⟩)) ?_
    refine ha_one 10 ?_
    refine ho_C 10 rfl ((rLeafOf_s n hn key b A cc hA (by omega)).comes) rfl rfl rfl (fun xx => same) fun _ => ?_
    refine ha_one 11 ?_
    refine ho_C 11 rfl ((rLeaf_s (leafOf n key b)).comes) rfl rfl rfl (fun xx => same) fun ⟨g28, c28⟩ => ?_
    refine ha_one 12 ?_
    refine ho_C 12 rfl ((refSum5_s n hn (preL (leafOf n key b)) (some ⟨g28, 0, none⟩) c28 (fun h => by cases h) (by rw [preL_len]; decide)).comes) rfl rfl rfl (fun xx => same) fun _ => ?_
    refine ha_one 13 ?_
    refine ho_SL 13 rfl (s_storer rfl rfl) ?_
    refine q_then ?_
    refine h_ret ?_
    refine q_thenR ?_
    exact h_ret1 rfl (rv_row rfl) fun w s => ⟨(), rfl, s.res (List.nil_sublist _) (by simp)⟩
  · intro m d ha hm hd i1 i2 hl hv B c
    have p1 := part_le m d false
    have p2 := part_le m d true
    rw [rootM_two n hm (by omega)]
    refine spec_of Tryz.func25 rfl (n := 49) rfl rfl ?_
    intro W
    refine h_seq ?_
    refine h_reg ?_
    refine h_opX (x_alloc) fun g6 => ?_
    refine h_nil ?_
    refine q_then ?_
    refine h_seq ?_
    refine h_seq ?_
    refine h_reg ?_
    refine h_op (r_move rfl) ?_
    refine h_op (r_len rfl) ?_
    refine h_op (r_eql rfl rfl) ?_
    refine h_nil ?_
    refine q_then ?_
    refine h_no rfl ((by omega)) ?_
    refine h_skip ?_
    refine q_then ?_
    refine h_seq ?_
    refine h_seq ?_
    refine h_reg ?_
    refine h_op (r_move rfl) ?_
    refine h_op (r_len rfl) ?_
    refine h_op (r_eql rfl rfl) ?_
    refine h_nil ?_
    refine q_then ?_
    refine h_no rfl ((by omega)) ?_
    refine h_skip ?_
    refine q_then ?_
    refine h_seq ?_
    refine h_reg ?_
    refine h_op (r_move rfl) ?_
    refine h_op (r_move rfl) ?_
    refine h_op (r_move rfl) ?_
    refine h_call ((Part_s m B c d false hd (by omega)).comes) rfl rfl rfl fun ⟨A33, c33⟩ => ?_
    refine h_op (r_move rfl) ?_
    refine h_op (r_add rfl rfl) ?_
    refine h_call ((i1 (by omega) (hv.part d false) A33 c33).comes) rfl rfl rfl fun _ => ?_
    refine h_opX (x_alloc) fun g7 => ?_
    refine h_opS (s_storer rfl rfl) ?_
    refine h_nil ?_
    refine q_then ?_
    refine h_seq ?_
    refine h_reg ?_
    refine h_op (r_move rfl) ?_
    refine h_op (r_move rfl) ?_
    refine h_op (r_move rfl) ?_
    refine h_call ((Part_s m B c d true hd (by omega)).comes) rfl rfl rfl fun ⟨A40, c40⟩ => ?_
    refine h_op (r_move rfl) ?_
    refine h_op (r_add rfl rfl) ?_
    refine h_call ((i2 (by omega) (hv.part d true) A40 c40).comes) rfl rfl rfl fun _ => ?_
    refine h_opX (x_alloc) fun g8 => ?_
    refine h_opS (s_storer rfl rfl) ?_
    refine h_nil ?_
    refine q_then ?_
    refine h_seq ?_
    refine h_reg ?_
    refine h_op (r_move rfl) ?_
    refine h_op (r_loadr rfl) ?_
    refine h_op (r_loadr rfl) ?_
    refine h_call ((rNode_s (rootM n (part m d false) (d + 1)) (rootM n (part m d true) (d + 1))).comes) rfl rfl rfl fun ⟨g47, c47⟩ => ?_
    refine h_call ((refSum5_s n hn (preN (rootM n (part m d false) (d + 1)) (rootM n (part m d true) (d + 1))) (some ⟨g47, 0, none⟩) c47 (fun h => by cases h) (by rw [preN_len]; decide)).comes) rfl rfl rfl fun _ => ?_
    refine h_opS (s_storer rfl rfl) ?_
    refine h_nil ?_
    refine q_then ?_
    refine h_ret ?_
    exact h_ret1 rfl (rv_row rfl) fun w s => ⟨(), rfl, s.res (List.nil_sublist _) (by simp)⟩
end Go.Proofs.YtjhocljhhpkiiaaGreatDoor
/- U41 -/
namespace Go.Proofs.YtjhocljhhpkiiaaGreatDoor
set_option linter.unusedSimpArgs false
set_option linter.unusedVariables false
open Go.RowKit
theorem mkT_cost {m : List En} {d : Nat} (hd : d ≤ 256) (ha : Alike m d) : (mkT m d).cost ≤ m.length * (4 * (257 - d)) := by
  refine parts_ind (p := fun m d => (mkT m d).cost ≤ m.length * (4 * (257 - d))) ?_ ?_ ?_ (256 - d) m d (Nat.le_refl _) hd ha
  · intro d
    rw [mkT_nil]; exact Nat.zero_le _
  · intro e d h
    rw [mkT_one e h]
    show 2 ≤ 1 * (4 * (257 - d))
    omega
  · intro m d _ hm hd i1 i2
    rw [mkT_two hm (by omega)]
    have hl := part_len m d
    have e1 := i01 ((mkT (part m d false) (d + 1)).kind = 0)
    have e2 := i01 ((mkT (part m d true) (d + 1)).kind = 0)
    have e3 : 4 * (257 - d) = 4 * (257 - (d + 1)) + 4 := by omega
    have e4 : m.length * (4 * (257 - d)) = (part m d false).length * (4 * (257 - (d + 1))) + (part m d true).length * (4 * (257 - (d + 1))) + m.length * 4 := by
      rw [e3, Nat.mul_add, ← hl, Nat.add_mul]
    rw [e4]
    show _ + _ + _ + _ + 1 ≤ _
    omega
theorem joinT_mk {m : List En} {d : Nat} (hm : 1 < m.length) (hd : d < 256) : joinT (mkT (part m d false) (d + 1)) (mkT (part m d true) (d + 1)) = mkT m d ∧ ∀ k, k + (mkT (part m d false) (d + 1)).cost + (mkT (part m d true) (d + 1)).cost + joinC (mkT (part m d false) (d + 1)) (mkT (part m d true) (d + 1)) = k + (mkT m d).cost := by
  have hl := part_len m d
  have k1 := mkT_kind (part m d false) (d := d + 1) (by omega)
  have k2 := mkT_kind (part m d true) (d := d + 1) (by omega)
  rw [mkT_two hm (by omega)]
  unfold joinT joinC
  rw [if_neg (by omega), if_neg (by omega), if_neg (by omega), if_neg (by omega)]
  refine ⟨rfl, fun k => ?_⟩
  show _ = k + (_ + _ + _ + _ + 1)
  omega
theorem Grow_any (n : Nat) (hn : n ≤ 256) (gh gc : Nat) {m : List En} {d : Nat} (hd : d ≤ 256) (ha : Alike m d) : m.length ≤ 1000000 → ∀ (h : Zh) (k : Nat) (B : Option Addr) (c : Nat), RdZ h (some ⟨1, 0, none⟩) hashT → ValsZ h m → k + (mkT m d).cost ≤ 10000000000 →
    Spec Tryz.prog 65 [.pointer (some ⟨gh, 0, none⟩), .slice B m.length c, .int .i64 (d : Int)].toArray [HR gh gc n, .rd B (ents m)] [.zone true h, CN gc k] (fun x : {x : Zh × Option Addr // LeZ h x.1 ∧ TrZ n x.1 (mkT m d) x.2} => .pointer x.1.2) (fun x => [.zone true x.1.1, CN gc (k + (mkT m d).cost)]) := by
  refine parts_ind (p := fun m d => m.length ≤ 1000000 → ∀ (h : Zh) (k : Nat) (B : Option Addr) (c : Nat), RdZ h (some ⟨1, 0, none⟩) hashT → ValsZ h m → k + (mkT m d).cost ≤ 10000000000 →
    Spec Tryz.prog 65 [.pointer (some ⟨gh, 0, none⟩), .slice B m.length c, .int .i64 (d : Int)].toArray [HR gh gc n, .rd B (ents m)] [.zone true h, CN gc k] (fun x : {x : Zh × Option Addr // LeZ h x.1 ∧ TrZ n x.1 (mkT m d) x.2} => .pointer x.1.2) (fun x => [.zone true x.1.1, CN gc (k + (mkT m d).cost)])) ?_ ?_ ?_ (256 - d) m d (Nat.le_refl _) hd ha
  · intro d _ h k B c hT _ _
    rw [mkT_nil]
    refine spec_of Tryz.func65 rfl (n := 34) rfl rfl ?_
    intro W
    refine h_seq ?_
    refine h_reg ?_
    refine h_op (r_assign rfl) ?_
    refine h_nil ?_
    refine q_then ?_
    refine h_seq ?_
    refine h_seq ?_
    refine h_reg ?_
    refine h_op (r_move rfl) ?_
    refine h_op (r_len rfl) ?_
    refine h_nil ?_
    refine q_then ?_
    refine h_block ?_
    refine h_seq ?_
    refine h_reg ?_
    refine h_op (r_bool (r_eql rfl rfl) (show _ = true by simp)) ?_
    refine h_op (r_assign rfl) ?_
    refine h_nil ?_
    refine q_then ?_
    refine h_condT rfl ?_
    refine h_seq ?_
    refine h_reg ?_
    refine h_op (r_assign rfl) ?_
    refine h_nil ?_
    refine q_then ?_
    refine h_ret ?_
    refine q_blockR ?_
    refine q_thenR ?_
    exact h_ret1 rfl rfl fun w s => ⟨⟨(h, none), LeZ.refl h, ⟨rfl⟩⟩, rfl, (same (L' := [.zone true h, CN gc k]) w s).res (List.Sublist.refl _) (by simp [Fa.wr])⟩
  · intro e d hd _ h k B c hT hv hk
    rw [mkT_one e hd] at hk ⊢
    obtain ⟨hs, hvl⟩ := hv e (by simp)
    obtain ⟨⟨key, s⟩, b⟩ := e
    dsimp only at hs hvl
    have hk' : k + 2 ≤ 10000000000 := hk
    refine spec_of Tryz.func65 rfl (n := 34) rfl rfl ?_
    intro W
    refine h_seq ?_
    refine h_reg ?_
    refine h_op (r_assign rfl) ?_
    refine h_nil ?_
    refine q_then ?_
    refine h_seq ?_
    refine h_seq ?_
    refine h_reg ?_
    refine h_op (r_move rfl) ?_
    refine h_op (r_len rfl) ?_
    refine h_nil ?_
    refine q_then ?_
    refine h_block ?_
    refine h_seq ?_
    refine h_reg ?_
    refine h_op (r_bool (r_eql rfl rfl) (show _ = false by simp)) ?_
    refine h_op (r_assign rfl) ?_
    refine h_nil ?_
    refine q_then ?_
    refine h_condF rfl ?_
    refine h_seq ?_
    refine h_reg ?_
    refine h_op (r_bool (r_eql rfl rfl) (show _ = true by simp)) ?_
    refine h_op (r_assign rfl) ?_
    refine h_nil ?_
    refine q_then ?_
    refine h_condT rfl ?_
    refine h_pure (φ := ∃ b o, B = some ⟨b, o, none⟩) (fun w s' => Rd.some (s'.ok (.rd B (ents [⟨⟨key, s⟩, b⟩])) (by simp)) (by rw [ents_len]; exact Nat.zero_lt_succ _)) ?_
    rintro ⟨bb, o, rfl⟩
    refine h_seq ?_
    refine h_reg ?_
    refine h_op (r_move rfl) ?_
    refine h_op (r_move rfl) ?_
    refine h_op (r_idx rfl rfl (hm := by simp)) ?_
    refine h_op (r_nthr rfl (out := Entry.cells ⟨key, s⟩) (Entry.cells_length _) (ents_at0 ⟨⟨key, s⟩, b⟩)) ?_
    refine h_call ((NewLeaf_s n hn gh gc k (by omega) h key s b (by omega)).comes) rfl rfl rfl fun ⟨⟨h1, p1⟩, hle, ht⟩ => ?_
    dsimp only at hle ht ⊢
    refine h_op (r_assign rfl) ?_
    refine h_nil ?_
    refine q_then ?_
    refine h_ret ?_
    refine q_blockR ?_
    refine q_thenR ?_
    exact h_ret1 rfl rfl fun w s => ⟨⟨(h1, p1), hle, ht⟩, rfl, (same (L' := [.zone true h1, CN gc (k + 2)]) w s).res (List.Sublist.refl _) (by simp [Fa.wr])⟩
  · intro m d ha hm hd i1 i2 hl h k B c hT hv hk
    have p1 := part_len m d
    obtain ⟨hj, hcost⟩ := joinT_mk hm hd
    have hck := hcost k
    have c1 := mkT_cnt (show d + 1 ≤ 256 by omega) (ha.part false)
    have c2 := mkT_cnt (show d + 1 ≤ 256 by omega) (ha.part true)
    rw [← hck, ← hj]
    rw [← hck] at hk
    refine spec_of Tryz.func65 rfl (n := 34) rfl rfl ?_
    intro W
    refine h_seq ?_
    refine h_reg ?_
    refine h_op (r_assign rfl) ?_
    refine h_nil ?_
    refine q_then ?_
    refine h_seq ?_
    refine h_seq ?_
    refine h_reg ?_
    refine h_op (r_move rfl) ?_
    refine h_op (r_len rfl) ?_
    refine h_nil ?_
    refine q_then ?_
    refine h_block ?_
    refine h_seq ?_
    refine h_reg ?_
    refine h_op (r_eql rfl rfl) ?_
    refine h_op (r_assign rfl) ?_
    refine h_nil ?_
    refine q_then ?_
    refine h_no rfl ((by omega)) ?_
    refine h_seq ?_
    refine h_reg ?_
    refine h_op (r_eql rfl rfl) ?_
    refine h_op (r_assign rfl) ?_
    refine h_nil ?_
    refine q_then ?_
    refine h_no rfl ((by omega)) ?_
    refine h_skip ?_
    refine q_block ?_
    refine q_then ?_
    refine h_seq ?_
    refine h_reg ?_
    refine h_op (r_move rfl) ?_
    refine h_op (r_move rfl) ?_
    refine h_op (r_move rfl) ?_
    refine h_op (r_move rfl) ?_
    refine h_call ((Part_s m B c d false hd (by omega)).comes) rfl rfl rfl fun ⟨A22, c22⟩ => ?_
    refine h_op (r_move rfl) ?_
    refine h_op (r_add rfl rfl) ?_
    refine h_call ((i1 (by omega) h k A22 c22 hT (hv.part d false) (by omega)).comes) rfl rfl rfl fun ⟨⟨h1, q1⟩, hle1, ht1⟩ => ?_
    dsimp only at hle1 ht1 ⊢
    refine h_op (r_move rfl) ?_
    refine h_op (r_move rfl) ?_
    refine h_op (r_move rfl) ?_
    refine h_call ((Part_s m B c d true hd (by omega)).comes) rfl rfl rfl fun ⟨A29, c29⟩ => ?_
    refine h_op (r_move rfl) ?_
    refine h_op (r_add rfl rfl) ?_
    refine h_call ((i2 (by omega) h1 (k + (mkT (part m d false) (d + 1)).cost) A29 c29 (hT.mono hle1) ((hv.part d true).mono hle1) (by omega)).comes) rfl rfl rfl fun ⟨⟨h2, q2⟩, hle2, ht2⟩ => ?_
    dsimp only at hle2 ht2 ⊢
    have hT2 : RdZ h2 (some ⟨1, 0, none⟩) hashT := (hT.mono hle1).mono hle2
    refine h_call ((Join_s n hn gh gc (k + (mkT (part m d false) (d + 1)).cost + (mkT (part m d true) (d + 1)).cost) (by omega) h2 (mkT (part m d false) (d + 1)) (mkT (part m d true) (d + 1)) q1 q2 (by omega)).comes) rfl rfl rfl fun ⟨⟨h3, q3⟩, hle3, ht3⟩ => ?_
    dsimp only at hle3 ht3 ⊢
    refine h_op (r_assign rfl) ?_
    refine h_nil ?_
    refine q_then ?_
    refine h_ret ?_
    exact h_ret1 rfl rfl fun w s => ⟨⟨(h3, q3), (hle1.trans hle2).trans hle3, ht3⟩, rfl, (same w s).res (List.Sublist.refl _) (by simp [Fa.wr])⟩
theorem ValsZ.of {h : Zh} {l : List En} (x : ValsZ h l) : ValsZ h (ofM l) := fun e he => x e (ofM_mem he)
/-- the map of some entries, and its tree -/
theorem Tree_yes (n : Nat) (hn : n ≤ 256) (l : List En) (B : Option Addr) (c : Nat) (hf : fewM l = true) (h : Zh) [hT : RdZ h (some ⟨1, 0, none⟩) hashT] [hB : RdZ h B (ents l)] (hv : ValsZ h l) : Spec Tryz.prog 15 [.int .i64 (n : Int), .slice B l.length c].toArray [] [.zone true h] (fun x : {x : Zh × Option Addr × Option Addr × Nat // LeZ h x.1 ∧ TrZ n x.1 (mkT (ofM l) 0) x.2.1} => .tuple #[.slice x.1.2.2.1 (ofM l).length x.1.2.2.2, .pointer x.1.2.1, .bool true]) (fun x => [.own (.slice x.1.2.2.1 (ofM l).length x.1.2.2.2) (ofM l).length 124 33 (ents (ofM l)), .zone true x.1.1]) := by
  have hl : l.length ≤ 12 := by unfold fewM at hf; rw [Bool.and_eq_true, decide_eq_true_eq] at hf; exact hf.1
  have hlm := ofM_len l
  have hal : Alike (ofM l) 0 := Alike.start (ofM_nodup l)
  have hcost := mkT_cost (show 0 ≤ 256 by omega) hal
  have hcost2 : (mkT (ofM l) 0).cost ≤ 12 * (4 * 257) := Nat.le_trans hcost (Nat.mul_le_mul (by omega) (by omega))
  refine spec_of Tryz.func15 rfl (n := 27) rfl rfl ?_
  intro W
  refine h_seq ?_
  refine h_reg ?_
  refine h_op (r_assign rfl) ?_
  refine h_op (r_assign rfl) ?_
  refine h_op (r_assign rfl) ?_
  refine h_nil ?_
  refine q_then ?_
  refine h_seq ?_
  refine h_seq ?_
  refine h_reg ?_
  refine h_op (r_move rfl) ?_
  refine h_call ((Right_yes n hn).comes) rfl rfl rfl fun _ => ?_
  refine h_op (r_not rfl) ?_
  refine h_op (r_move rfl) ?_
  refine h_op (r_move rfl) ?_
  refine h_call ((Few_s l B c (by omega)).comes) rfl rfl rfl fun _ => ?_
  rw [hf]
  refine h_op (r_not rfl) ?_
  refine h_op (r_pick rfl rfl) ?_
  refine h_nil ?_
  refine q_then ?_
  refine h_condF rfl ?_
  refine h_skip ?_
  refine q_then ?_
  refine h_seq ?_
  refine h_reg ?_
  refine h_op (r_move rfl) ?_
  refine h_call ((Hash_s n hn).comes) rfl rfl rfl fun ⟨gh, gc⟩ => ?_
  dsimp only
  refine h_op (r_assign rfl) ?_
  refine h_nil ?_
  refine q_then ?_
  refine h_seq ?_
  refine h_seq ?_
  refine h_reg ?_
  refine h_op (r_move rfl) ?_
  refine h_op (r_nilR rfl rfl) ?_
  refine h_nil ?_
  refine q_then ?_
  refine h_condF rfl ?_
  refine h_skip ?_
  refine q_then ?_
  refine h_seq ?_
  refine h_reg ?_
  refine h_op (r_move rfl) ?_
  refine h_call ((Of_s l B c (by omega)).comes) rfl rfl rfl fun ⟨A22, c22⟩ => ?_
  dsimp only
  refine h_op (r_assign rfl) ?_
  refine h_nil ?_
  refine q_then ?_
  refine h_seq ?_
  refine h_reg ?_
  refine h_op (r_move rfl) ?_
  refine h_op (r_move rfl) ?_
  refine h_op (r_move rfl) ?_
  refine h_call ((Grow_any n hn gh gc (show 0 ≤ 256 by omega) hal (by omega) h 0 A22 c22 hT hv.of (by omega)).comes) rfl rfl rfl fun ⟨⟨h1, q1⟩, hle1, ht1⟩ => ?_
  dsimp only at hle1 ht1 ⊢
  refine h_op (r_assign rfl) ?_
  refine h_op (r_assign rfl) ?_
  refine h_op (r_assign rfl) ?_
  refine h_nil ?_
  refine q_then ?_
  refine h_ret ?_
  exact h_ret3 rfl rfl rfl rfl fun w s => ⟨⟨(h1, q1, A22, c22), hle1, ht1⟩, rfl, (same (L' := [.own (.slice A22 (ofM l).length c22) (ofM l).length 124 33 (ents (ofM l)), .zone true h1]) w s).res (List.Sublist.refl _) (by simp [Fa.wr])⟩
end Go.Proofs.YtjhocljhhpkiiaaGreatDoor
/- U42 -/
namespace Go.Proofs.YtjhocljhhpkiiaaGreatDoor
set_option linter.unusedSimpArgs false
set_option linter.unusedVariables false
open Go.RowKit
end Go.Proofs.YtjhocljhhpkiiaaGreatDoor
/- U43 -/
namespace Go.Proofs.YtjhocljhhpkiiaaGreatDoor
set_option linter.unusedSimpArgs false
set_option linter.unusedVariables false
open Go.RowKit
end Go.Proofs.YtjhocljhhpkiiaaGreatDoor
/- U44 -/
namespace Go.Proofs.YtjhocljhhpkiiaaGreatDoor
set_option linter.unusedSimpArgs false
set_option linter.unusedVariables false
open Go.RowKit
/-- whether two proofs are the same -/
def eqP (p q : Proof) (ss tt : List B32) : Prop := p.kind = q.kind ∧ p.depth = q.depth ∧ p.leaf = q.leaf ∧ p.bitmap = q.bitmap ∧ ss = tt
instance (p q : Proof) (ss tt : List B32) : Decidable (eqP p q ss tt) := inferInstanceAs (Decidable (_ ∧ _))
end Go.Proofs.YtjhocljhhpkiiaaGreatDoor
/- U45 -/
namespace Go.Proofs.YtjhocljhhpkiiaaGreatDoor
set_option linter.unusedSimpArgs false
set_option linter.unusedVariables false
open Go.RowKit
/-- whether a proof's end fits a claim -/
def supP (p : Proof) (key val : B32) (present : Bool) : Bool := if present = true then decide (p.kind = 1 ∧ p.leaf = ⟨key, val⟩) else if p.kind = 1 then decide (p.leaf.key ≠ key ∧ p.depth ≤ (common p.leaf.key key : Int)) else decide (p.kind = 0)
theorem Supports_s (p : Proof) (key val : B32) (present : Bool) : Spec Tryz.prog 151 [.agg p.cells.toArray, .agg key.cells.toArray, .agg val.cells.toArray, .bool present].toArray [] [] (fun _ : Unit => .bool (supP p key val present)) (fun _ => []) := by
  unfold supP
  refine spec_of Tryz.func151 rfl (n := 44) rfl rfl ?_
  intro W
  rcases present with _ | _
  · rw [if_neg (by simp)]
    by_cases h1 : p.kind = 1
    · rw [if_pos h1]
      by_cases h2 : p.leaf.key = key
      · rw [decide_eq_false (show ¬ (p.leaf.key ≠ key ∧ p.depth ≤ (common p.leaf.key key : Int)) from fun e => e.1 h2)]
        refine h_seq ?_
        refine h_reg ?_
        refine h_opX (x_box rfl) fun g4 => ?_
        refine h_opX (x_box rfl) fun g5 => ?_
        refine h_opX (x_box rfl) fun g6 => ?_
        refine h_op (r_assign rfl) ?_
        refine h_nil ?_
        refine q_then ?_
        refine h_seq ?_
        refine h_block ?_
        refine h_seq ?_
        refine h_reg ?_
        refine h_op (r_move rfl) ?_
        refine h_op (r_assign rfl) ?_
        refine h_nil ?_
        refine q_then ?_
        refine h_condF rfl ?_
        refine h_seq ?_
        refine h_reg ?_
        refine h_op (r_field rfl) ?_
        refine h_op (r_loadc rfl) ?_
        refine h_op (r_eql rfl rfl) ?_
        refine h_op (r_assign rfl) ?_
        refine h_nil ?_
        refine q_then ?_
        refine h_yes rfl (h1) ?_
        refine h_seq ?_
        refine ha_start [.blk g4 p.cells 54, .blk g5 key.cells 35] [] mixed (same) ?_
        refine ha_takeP 0 rfl (r_field rfl) ?_
        refine ha_takeP 1 rfl (r_field rfl) ?_
        refine ha_take 2 rfl (r_loadr rfl) ?_
        refine ha_take 3 rfl (r_loadr rfl) ?_
        refine ha_takeP 4 rfl (r_bool (r_ner rfl rfl) (decide_eq_false (fun e => e h2))) ?_
        refine ha_takeP 5 rfl (r_move rfl) ?_
        refine ha_off 6 rfl ?_
        refine ha_off 7 rfl ?_
        refine ha_off 8 rfl ?_
        refine ha_off 9 rfl ?_
        refine ha_off 10 rfl ?_
        refine ha_off 11 rfl ?_
        refine ha_off 12 rfl ?_
        refine ha_off 13 rfl ?_
        refine ha_takeP 14 rfl (r_pick rfl rfl) ?_
        refine ha_takeP 15 rfl (r_assign rfl) ?_
        refine ha_done (by kernel_rfl) ?_
        refine q_then ?_
        refine h_ret ?_
        refine q_blockR ?_
        refine q_thenR ?_
        exact h_ret1 rfl rfl fun w s => ⟨(), rfl, s.res (List.nil_sublist _) (by simp)⟩
      · refine h_seq ?_
        refine h_reg ?_
        refine h_opX (x_box rfl) fun g4 => ?_
        refine h_opX (x_box rfl) fun g5 => ?_
        refine h_opX (x_box rfl) fun g6 => ?_
        refine h_op (r_assign rfl) ?_
        refine h_nil ?_
        refine q_then ?_
        refine h_seq ?_
        refine h_block ?_
        refine h_seq ?_
        refine h_reg ?_
        refine h_op (r_move rfl) ?_
        refine h_op (r_assign rfl) ?_
        refine h_nil ?_
        refine q_then ?_
        refine h_condF rfl ?_
        refine h_seq ?_
        refine h_reg ?_
        refine h_op (r_field rfl) ?_
        refine h_op (r_loadc rfl) ?_
        refine h_op (r_eql rfl rfl) ?_
        refine h_op (r_assign rfl) ?_
        refine h_nil ?_
        refine q_then ?_
        refine h_yes rfl (h1) ?_
        refine h_seq ?_
        refine ha_start [.blk g4 p.cells 54, .blk g5 key.cells 35] [] mixed (same) ?_
        refine ha_takeP 0 rfl (r_field rfl) ?_
        refine ha_takeP 1 rfl (r_field rfl) ?_
        refine ha_take 2 rfl (r_loadr rfl) ?_
        refine ha_take 3 rfl (r_loadr rfl) ?_
        refine ha_takeP 4 rfl (r_bool (r_ner rfl rfl) (decide_eq_true h2)) ?_
        refine ha_takeP 5 rfl (r_move rfl) ?_
        refine ha_takeP 6 rfl (r_field rfl) ?_
        refine ha_takeP 7 rfl (r_field rfl) ?_
        refine ha_take 8 rfl (r_loadr rfl) ?_
        refine ha_take 9 rfl (r_loadr rfl) ?_
        refine ha_takeP 11 rfl (r_field rfl) ?_
        refine ha_take 12 rfl (r_loadc rfl) ?_
        refine ha_one 10 ?_
        refine ho_C 10 rfl ((Common_s p.leaf.key key).comes) rfl rfl rfl (fun xx => same) fun _ => ?_
        refine ha_takeP 13 rfl (r_geq rfl rfl) ?_
        refine ha_takeP 14 rfl (r_pick rfl rfl) ?_
        refine ha_takeP 15 rfl (r_assign rfl) ?_
        refine ha_done (by kernel_rfl) ?_
        refine q_then ?_
        refine h_ret ?_
        refine q_blockR ?_
        refine q_thenR ?_
        exact h_ret1 rfl rfl fun w s => ⟨(), by simp [h2], s.res (List.nil_sublist _) (by simp)⟩
    · rw [if_neg h1]
      refine h_seq ?_
      refine h_reg ?_
      refine h_opX (x_box rfl) fun g4 => ?_
      refine h_opX (x_box rfl) fun g5 => ?_
      refine h_opX (x_box rfl) fun g6 => ?_
      refine h_op (r_assign rfl) ?_
      refine h_nil ?_
      refine q_then ?_
      refine h_seq ?_
      refine h_block ?_
      refine h_seq ?_
      refine h_reg ?_
      refine h_op (r_move rfl) ?_
      refine h_op (r_assign rfl) ?_
      refine h_nil ?_
      refine q_then ?_
      refine h_condF rfl ?_
      refine h_seq ?_
      refine h_reg ?_
      refine h_op (r_field rfl) ?_
      refine h_op (r_loadc rfl) ?_
      refine h_op (r_eql rfl rfl) ?_
      refine h_op (r_assign rfl) ?_
      refine h_nil ?_
      refine q_then ?_
      refine h_no rfl (h1) ?_
      refine h_skip ?_
      refine q_block ?_
      refine q_then ?_
      refine h_seq ?_
      refine h_reg ?_
      refine h_op (r_field rfl) ?_
      refine h_op (r_loadc rfl) ?_
      refine h_op (r_eql rfl rfl) ?_
      refine h_op (r_assign rfl) ?_
      refine h_nil ?_
      refine q_then ?_
      refine h_ret ?_
      exact h_ret1 rfl rfl fun w s => ⟨(), rfl, s.res (List.nil_sublist _) (by simp)⟩
  · rw [if_pos rfl]
    by_cases h1 : p.kind = 1
    · refine h_seq ?_
      refine h_reg ?_
      refine h_opX (x_box rfl) fun g4 => ?_
      refine h_opX (x_box rfl) fun g5 => ?_
      refine h_opX (x_box rfl) fun g6 => ?_
      refine h_op (r_assign rfl) ?_
      refine h_nil ?_
      refine q_then ?_
      refine h_seq ?_
      refine h_block ?_
      refine h_seq ?_
      refine h_reg ?_
      refine h_op (r_move rfl) ?_
      refine h_op (r_assign rfl) ?_
      refine h_nil ?_
      refine q_then ?_
      refine h_condT rfl ?_
      refine h_seq ?_
      refine h_reg ?_
      refine h_op (r_field rfl) ?_
      refine h_op (r_loadc rfl) ?_
      refine h_op (r_bool (r_eql rfl rfl) (decide_eq_true h1)) ?_
      refine h_op (r_move rfl) ?_
      refine h_op (r_field rfl) ?_
      refine h_op (r_loadr rfl) ?_
      refine h_op (r_loadr rfl) ?_
      refine h_op (r_loadr rfl) ?_
      refine h_op (r_build rfl) ?_
      refine h_op (r_eqr rfl rfl) ?_
      refine h_op (r_pick rfl rfl) ?_
      refine h_op (r_assign rfl) ?_
      refine h_nil ?_
      refine q_then ?_
      refine h_ret ?_
      refine q_blockR ?_
      refine q_thenR ?_
      exact h_ret1 rfl rfl fun w s => ⟨(), by simp [h1], s.res (List.nil_sublist _) (by simp)⟩
    · rw [decide_eq_false (show ¬ (p.kind = 1 ∧ p.leaf = ⟨key, val⟩) from fun e => h1 e.1)]
      refine h_seq ?_
      refine h_reg ?_
      refine h_opX (x_box rfl) fun g4 => ?_
      refine h_opX (x_box rfl) fun g5 => ?_
      refine h_opX (x_box rfl) fun g6 => ?_
      refine h_op (r_assign rfl) ?_
      refine h_nil ?_
      refine q_then ?_
      refine h_seq ?_
      refine h_block ?_
      refine h_seq ?_
      refine h_reg ?_
      refine h_op (r_move rfl) ?_
      refine h_op (r_assign rfl) ?_
      refine h_nil ?_
      refine q_then ?_
      refine h_condT rfl ?_
      refine h_seq ?_
      refine h_reg ?_
      refine h_op (r_field rfl) ?_
      refine h_op (r_loadc rfl) ?_
      refine h_op (r_bool (r_eql rfl rfl) (decide_eq_false h1)) ?_
      refine h_op (r_move rfl) ?_
      refine h_opOff ?_
      refine h_opOff ?_
      refine h_opOff ?_
      refine h_opOff ?_
      refine h_opOff ?_
      refine h_opOff ?_
      refine h_op (r_pick rfl rfl) ?_
      refine h_op (r_assign rfl) ?_
      refine h_nil ?_
      refine q_then ?_
      refine h_ret ?_
      refine q_blockR ?_
      refine q_thenR ?_
      exact h_ret1 rfl rfl fun w s => ⟨(), rfl, s.res (List.nil_sublist _) (by simp)⟩
end Go.Proofs.YtjhocljhhpkiiaaGreatDoor
/- U17 -/
namespace Go.Proofs.YtjhocljhhpkiiaaGreatDoor
set_option linter.unusedSimpArgs false
set_option linter.unusedVariables false
open Go.RowKit
end Go.Proofs.YtjhocljhhpkiiaaGreatDoor
/- U18 -/
namespace Go.Proofs.YtjhocljhhpkiiaaGreatDoor
set_option linter.unusedSimpArgs false
set_option linter.unusedVariables false
open Go.RowKit
end Go.Proofs.YtjhocljhhpkiiaaGreatDoor
/- U19 -/
namespace Go.Proofs.YtjhocljhhpkiiaaGreatDoor
set_option linter.unusedSimpArgs false
set_option linter.unusedVariables false
open Go.RowKit
instance (a b : B32) : Row (a.cells ++ b.cells) 64 := ⟨by rw [List.length_append, B32.cells_length, B32.cells_length], fun v hv => (List.mem_append.1 hv).elim (B32.cells_one a v) (B32.cells_one b v)⟩
instance (a b c : B32) : SetAt (a.cells ++ b.cells) 0 c.cells (c.cells ++ b.cells) := ⟨by rw [List.take_zero, List.nil_append, Nat.zero_add, B32.cells_length, List.drop_append, List.drop_of_length_le (by rw [B32.cells_length]; exact Nat.le_refl _), B32.cells_length, Nat.sub_self, List.drop_zero, List.nil_append], by simp [B32.cells_length]⟩
instance (a b c : B32) : SetAt (a.cells ++ b.cells) 32 c.cells (a.cells ++ c.cells) := ⟨by rw [List.take_append_of_le_length (by rw [B32.cells_length]; exact Nat.le_refl _), List.take_of_length_le (by rw [B32.cells_length]; exact Nat.le_refl _), List.drop_of_length_le (by simp [B32.cells_length]), List.append_nil], by simp [B32.cells_length]⟩
instance (a b : B32) : RowAt (a.cells ++ b.cells) 0 32 a.cells := ⟨fun j v hv => by rw [Nat.zero_add, List.getElem?_append_left (List.getElem?_eq_some_iff.1 hv).1]; exact hv, B32.cells_length a⟩
instance (a b : B32) : RowAt (a.cells ++ b.cells) 32 32 b.cells := ⟨fun j v hv => by rw [List.getElem?_append_right (by rw [B32.cells_length]; omega), B32.cells_length, Nat.add_sub_cancel_left]; exact hv, B32.cells_length b⟩
instance : TZ Tryz.prog 277 (zB32.cells ++ zB32.cells) := ⟨⟨.agg (zB32.cells ++ zB32.cells).toArray, by kernel_rfl, rfl⟩⟩
instance : TB Tryz.prog 277 (zB32.cells ++ zB32.cells) (plArr 32) := ⟨fun w ps cells h => run_build_array Tryz.underlying277 (z := (zB32.cells ++ zB32.cells).toArray) (n := 64) (by kernel_rfl) (s := 32) (by kernel_rfl) h⟩
/-! tails -/
class TakeTl (m L : List Fa) (M : outParam (List Fa)) : Prop where
  perm : L.Perm (m ++ M)
instance (m R : List Fa) : TakeTl m (m ++ R) R := ⟨List.Perm.refl _⟩
instance (priority := 100) (m : List Fa) (f : Fa) (L M : List Fa) [h : TakeTl m L M] : TakeTl m (f :: L) (f :: M) := ⟨(h.perm.cons f).trans List.perm_middle.symm⟩
instance (priority := 5) (m L M : List Fa) [h : TakeTl m L M] : Take m L M := ⟨h.perm⟩
class RmOk (Rm : List Fa) : Prop where
  ok : ∀ r ∈ Rm, r.wr = false
instance (Rm : List Fa) [h : RmOk Rm] : Rds Rm Rm := ⟨fun hw r hr => ⟨h.ok r hr, hw.ok r hr, fun k hk => ⟨r, hr, hk⟩⟩⟩
instance (priority := 5) (Rm : List Fa) (f : Fa) (L : List Fa) [RmOk Rm] [h : Rds L Rm] : Rds (f :: L) Rm := ⟨fun hw r hr => by
  obtain ⟨h1, h2, h3⟩ := h.ok hw.tail r hr
  exact ⟨h1, h2, fun k hk => let ⟨g, hg, hgk⟩ := h3 k hk; ⟨g, List.mem_cons_of_mem _ hg, hgk⟩⟩⟩
end Go.Proofs.YtjhocljhhpkiiaaGreatDoor
/- U20 -/
namespace Go.Proofs.YtjhocljhhpkiiaaGreatDoor
set_option linter.unusedSimpArgs false
set_option linter.unusedVariables false
open Go.RowKit
end Go.Proofs.YtjhocljhhpkiiaaGreatDoor
/- N12 -/
namespace Go.Proofs.YtjhocljhhpkiiaaGreatDoor
set_option linter.unusedSimpArgs false
set_option linter.unusedVariables false
open Go.RowKit
class TBool (P : Program) (T : TypeId) : Prop where
  und : P.underlying T = some .bool
section
variable {P : Program} {n : Nat} {D : List Deferred} {E : Env} {L : List Fa} {T T' : TypeId} {x y : Operand}
theorem run_equalIn_bool (w : World) (d : Nat) (a b : Bool) (h : P.underlying T = some .bool) : (Op.equalIn (d + 1) T (.bool a) (.bool b)).run P w = .ok (a == b) w := by
  simp [Op.equalIn, run_underlying h]
theorem run_ne_bool (w : World) (a b : Bool) (h : P.underlying T = some .bool) : (binOp .neq T (.bool a) (.bool b)).run P w = .ok (.bool (!(a == b))) w := by
  simp only [binOp]
  simp [Op.equal, Op.maxDepth, run_equalIn_bool w 9999 a b h]
theorem r_neb [hT : TBool P T] {a b : Bool} (hx : ev E x = some (.bool a)) (hy : ev E y = some (.bool b)) : Runs0 P n D E L (.binOp .neq T x y T') (.bool (!(a == b))) := fun c w ka s o ho => run_bin ho (ka.ev hx) (ka.ev hy) rfl (run_ne_bool w a b hT.und)
end
/-- a zone that began as all that there was: nothing below has turned -/
theorem zone_below {W w : World} {h1 : Zh} {N : List Fa} (hr : Rx [.zone true (World.zh W)] W w (.zone true h1 :: N)) (hl : LeZ (World.zh W) h1) : Below W.heap.size W w := by
  refine ⟨hr.os, hr.tape, hr.output, hr.size, fun k hk => ?_⟩
  obtain ⟨o, ho⟩ : ∃ o, W.heap[k]? = some o := ⟨_, Array.getElem?_eq_getElem hk⟩
  rw [ho]
  exact hr.ok (.zone true h1) (List.mem_cons_self ..) k o (hl.le k o ho)
theorem Fx.all (W : World) : Fx W [.zone true (World.zh W)] := ⟨fun f hf => by rw [List.mem_singleton.1 hf]; exact fun k o ho => ho, List.pairwise_singleton _ _⟩
end Go.Proofs.YtjhocljhhpkiiaaGreatDoor
/- N13 -/
namespace Go.Proofs.YtjhocljhhpkiiaaGreatDoor
set_option linter.unusedSimpArgs false
set_option linter.unusedVariables false
open Go.RowKit
section
variable {P : Program} {n : Nat} {D : List Deferred} {E : Env} {L : List Fa} {T T' : TypeId} {x y : Operand}
theorem r_arr {len e size : Nat} [hT : TArr P T len e size] {A : Option Addr} {m c : Nat} (hx : ev E x = some (.slice A m c)) (hm : len ≤ m := by omega) : Runs0 P n D E L (.sliceToArrayPointer T x) (.pointer A) := fun a w ka s o ho => ex_arrayAt ho hT.und (ka.ev hx) hm
end
end Go.Proofs.YtjhocljhhpkiiaaGreatDoor
/- U90 -/
namespace Go.Proofs.YtjhocljhhpkiiaaGreatDoor
set_option linter.unusedSimpArgs false
set_option linter.unusedVariables false
open Go.RowKit
def keyOf (l : List UInt8) : B32 := if h : l.length = 32 then ⟨l, h⟩ else zB32
theorem keyOf_cells {l : List UInt8} (h : l.length = 32) : (keyOf l).cells = bc l := by unfold keyOf; rw [dif_pos h]; rfl
theorem when_s (b : Bool) (e : Int) : Spec Tryz.prog 174 [.bool b, .int .i64 e].toArray [] [] (fun _ : Unit => .int .i64 (if b then e else 0)) (fun _ => []) := by
  cases b
  · refine spec_of Tryz.func174 rfl (n := 7) rfl rfl ?_
    intro W
    refine h_seq ?_
    refine h_reg ?_
    refine h_op (r_assign rfl) ?_
    refine h_nil ?_
    refine q_then ?_
    refine h_seq ?_
    refine h_seq ?_
    refine h_reg ?_
    refine h_op (r_move rfl) ?_
    refine h_nil ?_
    refine q_then ?_
    refine h_condF rfl ?_
    refine h_skip ?_
    refine q_then ?_
    refine h_seq ?_
    refine h_reg ?_
    refine h_op (r_assign rfl) ?_
    refine h_nil ?_
    refine q_then ?_
    refine h_ret ?_
    exact h_ret1 rfl rfl fun w s => ⟨(), rfl, s.res (List.nil_sublist _) (by simp)⟩
  · refine spec_of Tryz.func174 rfl (n := 7) rfl rfl ?_
    intro W
    refine h_seq ?_
    refine h_reg ?_
    refine h_op (r_assign rfl) ?_
    refine h_nil ?_
    refine q_then ?_
    refine h_seq ?_
    refine h_seq ?_
    refine h_reg ?_
    refine h_op (r_move rfl) ?_
    refine h_nil ?_
    refine q_then ?_
    refine h_condT rfl ?_
    refine h_seq ?_
    refine h_reg ?_
    refine h_op (r_move rfl) ?_
    refine h_op (r_assign rfl) ?_
    refine h_nil ?_
    refine q_then ?_
    refine h_ret ?_
    refine q_thenR ?_
    exact h_ret1 rfl rfl fun w s => ⟨(), rfl, s.res (List.nil_sublist _) (by simp)⟩
/-- what the first three steps find -/
def code3 (x : Chk) : Nat → Int
  | 0 => if x.root.n = 32 then 0 else 4
  | 1 => if x.c.key.n = 32 then 0 else 2
  | _ => if x.c.present = true ∧ 65535 < x.c.value.n then 3 else 0
section
variable (x : Chk) (g : Nat)
theorem step1_s : Spec Tryz.prog 175 [.pointer (some ⟨g, 0, none⟩)].toArray [.rd (some ⟨g, 0, none⟩) x.cells] [] (fun _ : Unit => .int .i64 (code3 x 1)) (fun _ => []) := by
  by_cases h : x.c.key.n = 32
  · have hw := when_s false 2
    rw [show code3 x 1 = 0 from if_pos h]
    refine spec_of Tryz.func175 rfl (n := 11) rfl rfl ?_
    intro W
    refine h_seq ?_
    refine h_reg ?_
    refine h_op (r_assign rfl) ?_
    refine h_nil ?_
    refine q_then ?_
    refine h_seq ?_
    refine h_reg ?_
    refine h_op (r_move rfl) ?_
    refine h_op (r_nilc rfl) ?_
    refine h_op (r_field rfl) ?_
    refine h_op (r_field rfl) ?_
    refine h_op (r_loadc rfl) ?_
    refine h_op (r_len rfl) ?_
    refine h_op (r_bool (r_neq rfl rfl) (decide_eq_false (by omega))) ?_
    refine h_call (hw.comes) rfl rfl rfl fun _ => ?_
    refine h_op (r_assign rfl) ?_
    refine h_nil ?_
    refine q_then ?_
    refine h_ret ?_
    exact h_ret1 rfl rfl fun w s => ⟨(), rfl, s.res (List.nil_sublist _) (by simp)⟩
  · have hw := when_s true 2
    rw [show code3 x 1 = 2 from if_neg h]
    refine spec_of Tryz.func175 rfl (n := 11) rfl rfl ?_
    intro W
    refine h_seq ?_
    refine h_reg ?_
    refine h_op (r_assign rfl) ?_
    refine h_nil ?_
    refine q_then ?_
    refine h_seq ?_
    refine h_reg ?_
    refine h_op (r_move rfl) ?_
    refine h_op (r_nilc rfl) ?_
    refine h_op (r_field rfl) ?_
    refine h_op (r_field rfl) ?_
    refine h_op (r_loadc rfl) ?_
    refine h_op (r_len rfl) ?_
    refine h_op (r_bool (r_neq rfl rfl) (decide_eq_true (by omega))) ?_
    refine h_call (hw.comes) rfl rfl rfl fun _ => ?_
    refine h_op (r_assign rfl) ?_
    refine h_nil ?_
    refine q_then ?_
    refine h_ret ?_
    exact h_ret1 rfl rfl fun w s => ⟨(), rfl, s.res (List.nil_sublist _) (by simp)⟩
theorem step2_s : Spec Tryz.prog 176 [.pointer (some ⟨g, 0, none⟩)].toArray [.rd (some ⟨g, 0, none⟩) x.cells] [] (fun _ : Unit => .int .i64 (code3 x 2)) (fun _ => []) := by
  obtain ⟨b, hb⟩ : ∃ b, x.c.present = b := ⟨_, rfl⟩
  by_cases h : 65535 < x.c.value.n
  · have hw := when_s b 3
    rw [show code3 x 2 = (if b then 3 else 0) by show (if x.c.present = true ∧ 65535 < x.c.value.n then (3 : Int) else 0) = _; rw [hb]; simp [h]]
    cases b
    · refine spec_of Tryz.func176 rfl (n := 18) rfl rfl ?_
      intro W
      refine h_seq ?_
      refine h_reg ?_
      refine h_op (r_assign rfl) ?_
      refine h_nil ?_
      refine q_then ?_
      refine h_seq ?_
      refine h_reg ?_
      refine h_op (r_move rfl) ?_
      refine h_op (r_nilc rfl) ?_
      refine h_op (r_field rfl) ?_
      refine h_op (r_field rfl) ?_
      refine h_op (r_bool (r_loadc rfl) hb) ?_
      refine h_op (r_move rfl) ?_
      refine h_opOff ?_
      refine h_opOff ?_
      refine h_opOff ?_
      refine h_opOff ?_
      refine h_opOff ?_
      refine h_opOff ?_
      refine h_opOff ?_
      refine h_op (r_pick rfl rfl) ?_
      refine h_call (hw.comes) rfl rfl rfl fun _ => ?_
      refine h_op (r_assign rfl) ?_
      refine h_nil ?_
      refine q_then ?_
      refine h_ret ?_
      exact h_ret1 rfl rfl fun w s => ⟨(), rfl, s.res (List.nil_sublist _) (by simp)⟩
    · refine spec_of Tryz.func176 rfl (n := 18) rfl rfl ?_
      intro W
      refine h_seq ?_
      refine h_reg ?_
      refine h_op (r_assign rfl) ?_
      refine h_nil ?_
      refine q_then ?_
      refine h_seq ?_
      refine h_reg ?_
      refine h_op (r_move rfl) ?_
      refine h_op (r_nilc rfl) ?_
      refine h_op (r_field rfl) ?_
      refine h_op (r_field rfl) ?_
      refine h_op (r_bool (r_loadc rfl) hb) ?_
      refine h_op (r_move rfl) ?_
      refine h_op (r_move rfl) ?_
      refine h_op (r_nilc rfl) ?_
      refine h_op (r_field rfl) ?_
      refine h_op (r_field rfl) ?_
      refine h_op (r_loadc rfl) ?_
      refine h_op (r_len rfl) ?_
      refine h_op (r_bool (r_gtr rfl rfl) (decide_eq_true (by omega))) ?_
      refine h_op (r_pick rfl rfl) ?_
      refine h_call (hw.comes) rfl rfl rfl fun _ => ?_
      refine h_op (r_assign rfl) ?_
      refine h_nil ?_
      refine q_then ?_
      refine h_ret ?_
      exact h_ret1 rfl rfl fun w s => ⟨(), rfl, s.res (List.nil_sublist _) (by simp)⟩
  · have hw := when_s false 3
    rw [show code3 x 2 = 0 from if_neg (fun h' => h h'.2)]
    cases b
    · refine spec_of Tryz.func176 rfl (n := 18) rfl rfl ?_
      intro W
      refine h_seq ?_
      refine h_reg ?_
      refine h_op (r_assign rfl) ?_
      refine h_nil ?_
      refine q_then ?_
      refine h_seq ?_
      refine h_reg ?_
      refine h_op (r_move rfl) ?_
      refine h_op (r_nilc rfl) ?_
      refine h_op (r_field rfl) ?_
      refine h_op (r_field rfl) ?_
      refine h_op (r_bool (r_loadc rfl) hb) ?_
      refine h_op (r_move rfl) ?_
      refine h_opOff ?_
      refine h_opOff ?_
      refine h_opOff ?_
      refine h_opOff ?_
      refine h_opOff ?_
      refine h_opOff ?_
      refine h_opOff ?_
      refine h_op (r_pick rfl rfl) ?_
      refine h_call (hw.comes) rfl rfl rfl fun _ => ?_
      refine h_op (r_assign rfl) ?_
      refine h_nil ?_
      refine q_then ?_
      refine h_ret ?_
      exact h_ret1 rfl rfl fun w s => ⟨(), rfl, s.res (List.nil_sublist _) (by simp)⟩
    · refine spec_of Tryz.func176 rfl (n := 18) rfl rfl ?_
      intro W
      refine h_seq ?_
      refine h_reg ?_
      refine h_op (r_assign rfl) ?_
      refine h_nil ?_
      refine q_then ?_
      refine h_seq ?_
      refine h_reg ?_
      refine h_op (r_move rfl) ?_
      refine h_op (r_nilc rfl) ?_
      refine h_op (r_field rfl) ?_
      refine h_op (r_field rfl) ?_
      refine h_op (r_bool (r_loadc rfl) hb) ?_
      refine h_op (r_move rfl) ?_
      refine h_op (r_move rfl) ?_
      refine h_op (r_nilc rfl) ?_
      refine h_op (r_field rfl) ?_
      refine h_op (r_field rfl) ?_
      refine h_op (r_loadc rfl) ?_
      refine h_op (r_len rfl) ?_
      refine h_op (r_bool (r_gtr rfl rfl) (decide_eq_false (by omega))) ?_
      refine h_op (r_pick rfl rfl) ?_
      refine h_call (hw.comes) rfl rfl rfl fun _ => ?_
      refine h_op (r_assign rfl) ?_
      refine h_nil ?_
      refine q_then ?_
      refine h_ret ?_
      exact h_ret1 rfl rfl fun w s => ⟨(), rfl, s.res (List.nil_sublist _) (by simp)⟩
end
/-- the digest of the value of a claim -/
def valD (n : Nat) (present : Bool) (vb : List UInt8) : B32 := if present then sumB n (preV vb) else zB32
end Go.Proofs.YtjhocljhhpkiiaaGreatDoor
/- U56 -/
namespace Go.Proofs.YtjhocljhhpkiiaaGreatDoor
set_option linter.unusedSimpArgs false
set_option linter.unusedVariables false
open Go.RowKit
def u8n (k : Nat) : UInt8 := UInt8.ofNat k
end Go.Proofs.YtjhocljhhpkiiaaGreatDoor
/- U57 -/
namespace Go.Proofs.YtjhocljhhpkiiaaGreatDoor
set_option linter.unusedSimpArgs false
set_option linter.unusedVariables false
open Go.RowKit
end Go.Proofs.YtjhocljhhpkiiaaGreatDoor
/- U58 -/
namespace Go.Proofs.YtjhocljhhpkiiaaGreatDoor
set_option linter.unusedSimpArgs false
set_option linter.unusedVariables false
open Go.RowKit
end Go.Proofs.YtjhocljhhpkiiaaGreatDoor
/- U59 -/
namespace Go.Proofs.YtjhocljhhpkiiaaGreatDoor
set_option linter.unusedSimpArgs false
set_option linter.unusedVariables false
open Go.RowKit
end Go.Proofs.YtjhocljhhpkiiaaGreatDoor
/- U91 -/
namespace Go.Proofs.YtjhocljhhpkiiaaGreatDoor
set_option linter.unusedSimpArgs false
set_option linter.unusedVariables false
open Go.RowKit
end Go.Proofs.YtjhocljhhpkiiaaGreatDoor
/- N14 -/
namespace Go.Proofs.YtjhocljhhpkiiaaGreatDoor
set_option linter.unusedSimpArgs false
set_option linter.unusedVariables false
open Go.RowKit
class TIf (P : Program) (T : TypeId) : Prop where
  und : P.underlying T = some (.interface (P.methodsAt T))
section
variable {P : Program} {n : Nat} {D : List Deferred} {E : Env} {L : List Fa} {T T' : TypeId} {t : Nat}
theorem r_ifnil {u : TypeId} {v : Value} [hT : TIf P T] (hx : ev E (.tmp t) = some (.iface u v)) : Runs0 P n D E L (.binOp .eql T (.tmp t) (.const .nilIface) T') (.bool false) := fun a w ka s o ho =>
  run_bin ho (ka.ev hx) (v := .nilIface) rfl rfl (run_eql_held_nil w T u v hT.und)
theorem r_nilnil [hT : TIf P T] (hx : ev E (.tmp t) = some .nilIface) : Runs0 P n D E L (.binOp .eql T (.tmp t) (.const .nilIface) T') (.bool true) := fun a w ka s o ho =>
  run_bin ho (ka.ev hx) (v := .nilIface) rfl rfl (run_eql_nil_nil w T hT.und)
end
section
variable {A : List Fa} {W : World} {n : Nat} {D : List Deferred} {ro : Option Nat} {P : Program} {ops : List Oper} {Q : Exit → Act → World → Prop} {Lb Lr L : List Fa} {fuel : Nat} {listed : Array Bool} {E : Env}
variable {op : Op} {d : Nat} {ty : TypeId} {pos : String} {af : Array Edge} {g : Option (Nat × Bool)}
/-- a method of an interface value, called in a region that draws its order -/
theorem ho_CM (i : Nat) {x : Operand} {l : List Operand} {ts : Array TypeId} {f : FuncId} {T : TypeId} {u : Value} {name : String} {argv args : List Value} [MethT P T name f] {τ : Type} {v : τ → Value} {L' : τ → List Fa} (hi : ops[i]? = some ⟨some d, .call ⟨.invoke x name, l.toArray, ts⟩, ty, pos, af, g⟩) (hc : Comes P A W L f args.toArray v L') (hx : ev E x = some (.iface T u)) (ha : evs E l = some argv) (he : u :: argv = args) [hl : ∀ x, Rds (L' x) Lr]
    (hb : ∀ x w, Sx A W w (L' x) → Sx A W w Lb) (k : ∀ x, HA A W n D ro P ops Q Lb Lr fuel (listed.setIfInBounds i true) ((d, v x) :: E) (L' x)) (hd : Nat.blt d n = true := by exact rfl) (hg : wn ops.toArray E g = some true := by exact rfl) : HO A W n D ro P ops Q Lb Lr fuel listed E L i := fun a w ka s sr => by
  refine ho_mk hi (wn_run ka hg) (wpIn_ent (x_callM ka rfl hx ha) (he ▸ hc w s) ?_)
  rintro e w' ⟨y, rfl, hy⟩
  have h3 : Fx w' Lr := Fx.rds hy.toFx (hr := hl y)
  exact ⟨_, rfl, fun _ _ => ⟨hb y _ hy, h3⟩, k y _ _ (ka.put hd _) hy ⟨hb y _ hy, h3⟩⟩
end
end Go.Proofs.YtjhocljhhpkiiaaGreatDoor
/- U92 -/
namespace Go.Proofs.YtjhocljhhpkiiaaGreatDoor
set_option linter.unusedSimpArgs false
set_option linter.unusedVariables false
open Go.RowKit
instance iU92_1 : TIf Tryz.prog 90 := ⟨by kernel_rfl⟩
def plFl : Nat → Option (Nat × Nat) := fun i => ([(0, 1), (1, 1), (2, 1)] : List (Nat × Nat)).toArray[i]?
instance iU92_2 : Place plFl 0 0 1 := ⟨rfl⟩
instance iU92_3 : Place plFl 1 1 1 := ⟨rfl⟩
instance iU92_4 : Place plFl 2 2 1 := ⟨rfl⟩
instance iU92_5 : TB Tryz.prog 178 [.string ⟨#[]⟩, .int .i64 0, .nilIface] plFl := ⟨fun w ps cells h => run_build_struct (fl := _) Tryz.underlying178 (z := ([.string ⟨#[]⟩, .int .i64 0, .nilIface] : List Value).toArray) (n := 3) (by kernel_rfl) (pl := [(0, 1), (1, 1), (2, 1)]) (by kernel_rfl) h⟩
/-- an error with the operation in which it occurred -/
abbrev fltC (op : ByteArray) (i e : Int) : List Value := [.string op, .int .i64 i, .iface 94 (.int .i64 e)]
theorem fNew_s (op : ByteArray) (i e : Int) : Spec Tryz.prog 157 [.string op, .int .i64 i, .iface 94 (.int .i64 e)].toArray [] [] (fun g : Nat => .iface 174 (.pointer (some ⟨g, 0, none⟩))) (fun g => [.blk g (fltC op i e) 178]) := by
  refine spec_of Tryz.func157 rfl (n := 15) rfl rfl ?_
  intro W
  refine h_seq ?_
  refine h_reg ?_
  refine h_op (r_assign rfl) ?_
  refine h_nil ?_
  refine q_then ?_
  refine h_seq ?_
  refine h_seq ?_
  refine h_reg ?_
  refine h_op (r_move rfl) ?_
  refine h_op (r_ifnil rfl) ?_
  refine h_nil ?_
  refine q_then ?_
  refine h_condF rfl ?_
  refine h_skip ?_
  refine q_then ?_
  refine h_seq ?_
  refine h_reg ?_
  refine h_op (r_move rfl) ?_
  refine h_op (r_move rfl) ?_
  refine h_op (r_move rfl) ?_
  refine h_op (r_build rfl) ?_
  refine h_opX (x_box rfl) fun g13 => ?_
  refine h_op (r_mkI rfl) ?_
  refine h_op (r_assign rfl) ?_
  refine h_nil ?_
  refine q_then ?_
  refine h_ret ?_
  exact h_ret1 rfl rfl fun w s => ⟨g13, rfl, (same (L' := [.blk g13 (fltC op i e) 178]) w s).res (List.Sublist.refl _) (by simp [Fa.wr])⟩
def stepV : Nat → Value
  | 0 => .func (.func 173) #[] #[]
  | 1 => .func (.func 175) #[] #[]
  | 2 => .func (.func 176) #[] #[]
  | 3 => .func (.func 177) #[] #[]
  | 4 => .func (.func 179) #[] #[]
  | _ => .func (.func 180) #[] #[]
instance (i : Nat) : Row [stepV i] 1 := ⟨rfl, by intro v hv; rw [List.mem_singleton.1 hv]; unfold stepV; split <;> rfl⟩
def stepsV : List Value := [stepV 0, stepV 1, stepV 2, stepV 3, stepV 4, stepV 5]
theorem stepsV_at (i : Nat) (f : Value) (h : stepsV[i]? = some f) : ∀ j v, [f][j]? = some v → stepsV[i + j]? = some v := fun j v hv => by
  cases j with
  | zero => obtain rfl : f = v := by simpa using hv
            exact h
  | succ j => simp at hv
theorem steps_s : Spec Tryz.prog 120 ([] : List Value).toArray [] [] (fun g : Nat => .slice (some ⟨g, 0, none⟩) 6 6) (fun g => [.own (.slice (some ⟨g, 0, none⟩) 6 6) 6 195 1 stepsV]) := by
  refine spec_of Tryz.func120 rfl (n := 8) rfl rfl ?_
  intro W
  refine h_seq ?_
  refine h_reg ?_
  refine h_op (r_assign rfl) ?_
  refine h_nil ?_
  refine q_then ?_
  refine h_seq ?_
  refine h_reg ?_
  refine h_op (r_build rfl) ?_
  refine h_op (r_build rfl) ?_
  refine h_op (r_build rfl) ?_
  refine h_op (r_build rfl) ?_
  refine h_op (r_build rfl) ?_
  refine h_op (r_build rfl) ?_
  refine h_opX (x_bsl rfl rfl) fun g7 => ?_
  refine h_op (r_assign rfl) ?_
  refine h_nil ?_
  refine q_then ?_
  refine h_ret ?_
  change H _ _ _ _ _ (.own _ _ _ _ stepsV :: _) _
  exact h_ret1 rfl rfl fun w s => ⟨g7, rfl, (same (L' := [.own (.slice (some ⟨g7, 0, none⟩) 6 6) 6 195 1 stepsV]) w s).res (List.Sublist.refl _) (by simp [Fa.wr])⟩
/-- the first step that finds something -/
def firstF (code : Nat → Int) : Nat → Nat → Option (Nat × Int)
  | 0, _ => none
  | m + 1, i => if code i = 0 then firstF code m (i + 1) else some (i, code i)
theorem firstF_none (code : Nat → Int) : ∀ m i, (∀ j, i ≤ j → j < i + m → code j = 0) → firstF code m i = none
  | 0, _, _ => rfl
  | m + 1, i, h => by
    unfold firstF
    rw [if_pos (h i (Nat.le_refl _) (by omega))]
    exact firstF_none code m (i + 1) fun j h1 h2 => h j (by omega) (by omega)
theorem firstF_some (code : Nat → Int) (e : Nat) (he : code e ≠ 0) : ∀ m i, i ≤ e → e < i + m → (∀ j, i ≤ j → j < e → code j = 0) → firstF code m i = some (e, code e)
  | 0, i, h1, h2, _ => by omega
  | m + 1, i, h1, h2, h => by
    unfold firstF
    rcases Nat.lt_or_ge i e with h3 | h3
    · rw [if_pos (h i (Nat.le_refl _) h3)]
      exact firstF_some code e he m (i + 1) h3 (by omega) fun j a b => h j (by omega) b
    · obtain rfl : i = e := by omega
      rw [if_neg he]
def errV : Option (Nat × Int) → Nat → Value
  | none, _ => .nilIface
  | some _, g => .iface 174 (.pointer (some ⟨g, 0, none⟩))
/-! Claim -/
def claimE (c : Claim) : Int := if c.key.n = 32 then (if c.present = true ∧ 65535 < c.value.n then 3 else 0) else 2
theorem Claim_s (c : Claim) : Spec Tryz.prog 67 [.agg c.cells.toArray].toArray [] [] (fun _ : Unit => .int .i64 (claimE c)) (fun _ => []) := by
  have h1 := fun g => step1_s ⟨none, ⟨none, 0, 0⟩, c, ⟨none, 0, 0⟩, zProof⟩ g
  have h2 := fun g => step2_s ⟨none, ⟨none, 0, 0⟩, c, ⟨none, 0, 0⟩, zProof⟩ g
  refine spec_of Tryz.func67 rfl (n := 25) rfl rfl ?_
  intro W
  refine h_seq ?_
  refine h_reg ?_
  refine h_opX (x_box rfl) fun g1 => ?_
  refine h_op (r_assign rfl) ?_
  refine h_nil ?_
  refine q_then ?_
  refine h_seq ?_
  refine h_reg ?_
  refine h_op (r_loadr rfl) ?_
  refine h_op (r_build rfl) ?_
  refine h_opX (x_box rfl) fun g9 => ?_
  refine h_op (r_assign rfl) ?_
  refine h_nil ?_
  refine q_then ?_
  refine h_seq ?_
  refine h_seq ?_
  refine h_reg ?_
  refine h_call (steps_s.comes) rfl rfl rfl fun g10 => ?_
  refine h_op (r_slLHb rfl rfl rfl (m := 2) (c' := 5) (O' := 1)) ?_
  refine h_op (r_len rfl) ?_
  refine h_op (r_move rfl) ?_
  refine h_nil ?_
  refine q_then ?_
  refine h_block ?_
  change H _ _ _ _ _ (_ :: .blk g9 (Chk.cells ⟨none, ⟨none, 0, 0⟩, c, ⟨none, 0, 0⟩, zProof⟩) _ :: _) _
  refine h_loop (fun (i : Nat) => i ≤ 2 ∧ (1 ≤ i → c.key.n = 32) ∧ (2 ≤ i → ¬ (c.present = true ∧ 65535 < c.value.n))) (fun (i : Nat) => [(3, .pointer (some ⟨g9, 0, none⟩)), (11, .slice (some ⟨g10, 1, none⟩) 2 5), (12, .int .i64 2), (13, .int .i64 (i : Int))]) (fun (i : Nat) => [.own (.slice (some ⟨g10, 0, none⟩) 6 6) 6 195 1 stepsV, .blk g9 (Chk.cells ⟨none, ⟨none, 0, 0⟩, c, ⟨none, 0, 0⟩, zProof⟩) 169]) (fun (i : Nat) => 2 - i) 0 (⟨by decide, fun h => absurd h (by decide), fun h => absurd h (by decide)⟩) ⟨rfl, rfl, rfl, rfl, trivial⟩ (same) ?_
  rintro i ⟨hi, hi1, hi2⟩
  rcases (by omega : i = 0 ∨ i = 1 ∨ i = 2) with rfl | rfl | rfl
  · by_cases hk : c.key.n = 32
    · have h1 := h1 g9
      rw [show code3 ⟨none, ⟨none, 0, 0⟩, c, ⟨none, 0, 0⟩, zProof⟩ 1 = 0 from if_pos hk] at h1
      refine h_seq ?_
      refine h_reg ?_
      refine h_op (r_bool (r_lss rfl rfl) rfl) ?_
      refine h_nil ?_
      refine q_then ?_
      refine h_seq ?_
      refine h_condT rfl ?_
      refine h_skip ?_
      refine q_then ?_
      refine h_seq ?_
      refine h_block ?_
      refine h_seq ?_
      refine h_reg ?_
      refine h_op (r_idx rfl rfl (m := 0) (hm := by decide)) ?_
      refine h_op (r_nthr (off := 1) rfl (out := [stepV 1]) rfl (stepsV_at 1 _ rfl)) ?_
      refine h_opX (x_alloc) fun g5 => ?_
      refine h_opS (s_storer rfl rfl) ?_
      refine h_nil ?_
      refine q_then ?_
      refine h_seq ?_
      refine h_reg ?_
      refine h_op (r_field rfl) ?_
      refine h_op (r_loadc rfl) ?_
      refine h_op (r_move rfl) ?_
      refine h_call (h1.comes) rfl rfl rfl fun _ => ?_
      refine h_op (r_assign rfl) ?_
      refine h_nil ?_
      refine q_then ?_
      refine h_seq ?_
      refine h_reg ?_
      refine h_op (r_move rfl) ?_
      refine h_op (r_bool (r_neq rfl rfl) rfl) ?_
      refine h_nil ?_
      refine q_then ?_
      refine h_condF rfl ?_
      refine h_skip ?_
      refine q_block ?_
      refine q_then ?_
      refine h_reg ?_
      refine h_op (r_add rfl rfl) ?_
      refine h_op (r_move rfl) ?_
      refine h_nil ?_
      exact h_back 1 (⟨by decide, fun _ => hk, fun h => absurd h (by decide)⟩) ((show 2 - 1 < 2 - 0 by decide)) ⟨rfl, rfl, rfl, rfl, trivial⟩ (same)
    · have h1 := h1 g9
      rw [show code3 ⟨none, ⟨none, 0, 0⟩, c, ⟨none, 0, 0⟩, zProof⟩ 1 = 2 from if_neg hk] at h1
      rw [show claimE c = 2 from if_neg hk]
      refine h_seq ?_
      refine h_reg ?_
      refine h_op (r_bool (r_lss rfl rfl) rfl) ?_
      refine h_nil ?_
      refine q_then ?_
      refine h_seq ?_
      refine h_condT rfl ?_
      refine h_skip ?_
      refine q_then ?_
      refine h_seq ?_
      refine h_block ?_
      refine h_seq ?_
      refine h_reg ?_
      refine h_op (r_idx rfl rfl (m := 0) (hm := by decide)) ?_
      refine h_op (r_nthr (off := 1) rfl (out := [stepV 1]) rfl (stepsV_at 1 _ rfl)) ?_
      refine h_opX (x_alloc) fun g5 => ?_
      refine h_opS (s_storer rfl rfl) ?_
      refine h_nil ?_
      refine q_then ?_
      refine h_seq ?_
      refine h_reg ?_
      refine h_op (r_field rfl) ?_
      refine h_op (r_loadc rfl) ?_
      refine h_op (r_move rfl) ?_
      refine h_call (h1.comes) rfl rfl rfl fun _ => ?_
      refine h_op (r_assign rfl) ?_
      refine h_nil ?_
      refine q_then ?_
      refine h_seq ?_
      refine h_reg ?_
      refine h_op (r_move rfl) ?_
      refine h_op (r_bool (r_neq rfl rfl) rfl) ?_
      refine h_nil ?_
      refine q_then ?_
      refine h_condT rfl ?_
      refine h_seq ?_
      refine h_reg ?_
      refine h_op (r_move rfl) ?_
      refine h_op (r_assign rfl) ?_
      refine h_nil ?_
      refine q_then ?_
      refine h_ret ?_
      refine q_blockR ?_
      refine q_thenR ?_
      refine q_thenR ?_
      refine q_blockR ?_
      refine q_thenR ?_
      exact h_ret1 rfl rfl fun w s => ⟨(), rfl, s.res (List.nil_sublist _) (by simp)⟩
  · have hk := hi1 (by decide)
    by_cases hv : c.present = true ∧ 65535 < c.value.n
    · have h2 := h2 g9
      rw [show code3 ⟨none, ⟨none, 0, 0⟩, c, ⟨none, 0, 0⟩, zProof⟩ 2 = 3 from if_pos hv] at h2
      rw [show claimE c = 3 by unfold claimE; rw [if_pos hk, if_pos hv]]
      refine h_seq ?_
      refine h_reg ?_
      refine h_op (r_bool (r_lss rfl rfl) rfl) ?_
      refine h_nil ?_
      refine q_then ?_
      refine h_seq ?_
      refine h_condT rfl ?_
      refine h_skip ?_
      refine q_then ?_
      refine h_seq ?_
      refine h_block ?_
      refine h_seq ?_
      refine h_reg ?_
      refine h_op (r_idx rfl rfl (m := 1) (hm := by decide)) ?_
      refine h_op (r_nthr (off := 2) rfl (out := [stepV 2]) rfl (stepsV_at 2 _ rfl)) ?_
      refine h_opX (x_alloc) fun g5 => ?_
      refine h_opS (s_storer rfl rfl) ?_
      refine h_nil ?_
      refine q_then ?_
      refine h_seq ?_
      refine h_reg ?_
      refine h_op (r_field rfl) ?_
      refine h_op (r_loadc rfl) ?_
      refine h_op (r_move rfl) ?_
      refine h_call (h2.comes) rfl rfl rfl fun _ => ?_
      refine h_op (r_assign rfl) ?_
      refine h_nil ?_
      refine q_then ?_
      refine h_seq ?_
      refine h_reg ?_
      refine h_op (r_move rfl) ?_
      refine h_op (r_bool (r_neq rfl rfl) rfl) ?_
      refine h_nil ?_
      refine q_then ?_
      refine h_condT rfl ?_
      refine h_seq ?_
      refine h_reg ?_
      refine h_op (r_move rfl) ?_
      refine h_op (r_assign rfl) ?_
      refine h_nil ?_
      refine q_then ?_
      refine h_ret ?_
      refine q_blockR ?_
      refine q_thenR ?_
      refine q_thenR ?_
      refine q_blockR ?_
      refine q_thenR ?_
      exact h_ret1 rfl rfl fun w s => ⟨(), rfl, s.res (List.nil_sublist _) (by simp)⟩
    · have h2 := h2 g9
      rw [show code3 ⟨none, ⟨none, 0, 0⟩, c, ⟨none, 0, 0⟩, zProof⟩ 2 = 0 from if_neg hv] at h2
      refine h_seq ?_
      refine h_reg ?_
      refine h_op (r_bool (r_lss rfl rfl) rfl) ?_
      refine h_nil ?_
      refine q_then ?_
      refine h_seq ?_
      refine h_condT rfl ?_
      refine h_skip ?_
      refine q_then ?_
      refine h_seq ?_
      refine h_block ?_
      refine h_seq ?_
      refine h_reg ?_
      refine h_op (r_idx rfl rfl (m := 1) (hm := by decide)) ?_
      refine h_op (r_nthr (off := 2) rfl (out := [stepV 2]) rfl (stepsV_at 2 _ rfl)) ?_
      refine h_opX (x_alloc) fun g5 => ?_
      refine h_opS (s_storer rfl rfl) ?_
      refine h_nil ?_
      refine q_then ?_
      refine h_seq ?_
      refine h_reg ?_
      refine h_op (r_field rfl) ?_
      refine h_op (r_loadc rfl) ?_
      refine h_op (r_move rfl) ?_
      refine h_call (h2.comes) rfl rfl rfl fun _ => ?_
      refine h_op (r_assign rfl) ?_
      refine h_nil ?_
      refine q_then ?_
      refine h_seq ?_
      refine h_reg ?_
      refine h_op (r_move rfl) ?_
      refine h_op (r_bool (r_neq rfl rfl) rfl) ?_
      refine h_nil ?_
      refine q_then ?_
      refine h_condF rfl ?_
      refine h_skip ?_
      refine q_block ?_
      refine q_then ?_
      refine h_reg ?_
      refine h_op (r_add rfl rfl) ?_
      refine h_op (r_move rfl) ?_
      refine h_nil ?_
      exact h_back 2 (⟨by decide, fun _ => hk, fun _ => hv⟩) ((show 2 - 2 < 2 - 1 by decide)) ⟨rfl, rfl, rfl, rfl, trivial⟩ (same)
  · have hk := hi1 (by decide)
    have hv := hi2 (by decide)
    rw [show claimE c = 0 by unfold claimE; rw [if_pos hk, if_neg hv]]
    refine h_seq ?_
    refine h_reg ?_
    refine h_op (r_bool (r_lss rfl rfl) rfl) ?_
    refine h_nil ?_
    refine q_then ?_
    refine h_seq ?_
    refine h_condF rfl ?_
    refine h_exit ?_
    refine q_thenE ?_
    refine q_thenE ?_
    refine q_blockE ?_
    refine q_then ?_
    refine h_seq ?_
    refine h_reg ?_
    refine h_op (r_assign rfl) ?_
    refine h_nil ?_
    refine q_then ?_
    refine h_ret ?_
    exact h_ret1 rfl rfl fun w s => ⟨(), rfl, s.res (List.nil_sublist _) (by simp)⟩
end Go.Proofs.YtjhocljhhpkiiaaGreatDoor
/- N15 -/
namespace Go.Proofs.YtjhocljhhpkiiaaGreatDoor
set_option linter.unusedSimpArgs false
set_option linter.unusedVariables false
open Go.RowKit
/-- the model's entry of bytealg.Compare -/
class TCmp (P : Program) (f : FuncId) : Prop where
  ok : ∀ args w, (callFunc f args).run P w = ((Extern.BytealgCompare.compare args).run P w).andThen fun v w' => .ok (.value v) w'
theorem bytes_back (l : List UInt8) : Lib.bytesOf (l.map fun x => (x.toNat : Int)) = l := by
  unfold Lib.bytesOf
  rw [List.map_map]
  conv => rhs; rw [← List.map_id l]
  apply List.map_congr_left
  intro x _
  simp
theorem run_bytesOf_rd {P : Program} {w : World} {A : Option Addr} {l : List UInt8} {c : Nat} (hr : Rd w A (bc l)) : (Extern.Bytes.bytesOf (.slice A l.length c)).run P w = .ok ⟨l.toArray⟩ w := by
  cases A with
  | none =>
    have : l = [] := by
      cases l with
      | nil => rfl
      | cons x l => obtain ⟨b, o, e, _⟩ := hr 0 (.int .u8 x.toNat) rfl; cases e
    subst this
    rfl
  | some a =>
    have h := Lib.run_loadBytesX (P := P) (w := w) (l.map fun x => (x.toNat : Int)) a .empty (fun j x hj => by
      obtain ⟨y, hy, rfl⟩ : ∃ y, l[j]? = some y ∧ (y.toNat : Int) = x := by simpa using hj
      have hj' : (bc l)[j]? = some (.int .u8 (y.toNat : Int)) := by simp [bc, hy]
      obtain ⟨b, o, e, h2⟩ := hr j _ hj'
      injection e with e
      subst e
      rw [Addr.add_mid]
      exact h2)
    rw [List.length_map, bytes_back] at h
    show (Extern.Bytes.loadBytes a l.length .empty).run P w = _
    rw [h]
    simp
section
variable {P : Program} {n : Nat} {D : List Deferred} {E : Env} {L : List Fa}
theorem r_cmp {f : FuncId} [hf : TCmp P f] {x y : Operand} {ts : Array TypeId} {A B : Option Addr} {c c' : Nat} {a b : List UInt8} (hx : ev E x = some (.slice A a.length c)) (hy : ev E y = some (.slice B b.length c')) [hA : Rd1 L (.rd A (bc a))] [hB : Rd1 L (.rd B (bc b))] : Runs0 P n D E L (.call ⟨.value (.func f), #[x, y], ts⟩) (.int .i64 (Lib.compareBytes a b)) := fun act w ka s o ho => by
  have h1 := run_bytesOf_rd (P := P) (c := c) (hA.ok s).2.1
  have h2 := run_bytesOf_rd (P := P) (c := c') (hB.ok s).2.1
  have e0 : ev E (.func f) = some (.func (.func f) #[] #[]) := rfl
  unfold execOp
  simp only [ho, resolve, ka.ev e0, Deferred.ofValue, Sem.run_bind, Sem.run_pure, Result.andThen_ok, invoke]
  have e1 : (#[x, y].map act.eval) = #[.slice A a.length c, .slice B b.length c'] := by simp [ka.ev hx, ka.ev hy]
  rw [e1]
  show (callFunc f #[.slice A a.length c, .slice B b.length c']).run P w = _
  have e2 : (Extern.BytealgCompare.compare #[.slice A a.length c, .slice B b.length c']).run P w = .ok (.int .i64 (Lib.compareBytes a b)) w := by
    change Sem.run P (do pure (goInt (Extern.BytealgCompare.cmp (← Extern.Bytes.bytesOf (.slice A a.length c)) (← Extern.Bytes.bytesOf (.slice B b.length c'))))) w = _
    simp only [Sem.run_bind, h1, h2, Result.andThen_ok, Sem.run_pure, Lib.cmp_eq]
    rfl
  rw [hf.ok, e2]
  rfl
end
end Go.Proofs.YtjhocljhhpkiiaaGreatDoor
/- N16 -/
namespace Go.Proofs.YtjhocljhhpkiiaaGreatDoor
set_option linter.unusedSimpArgs false
set_option linter.unusedVariables false
open Go.RowKit
section
variable {P : Program} {nn : Nat} {D : List Deferred} {E : Env} {L : List Fa} {T : TypeId} {x q r : Operand} {e size bytes : Nat} {z : Value} {N c h m : Nat}
theorem run_slHM [E' : TS P T e size bytes z] {b O : Nat} {i2 i3 : Int} {k2 k3 : IntKind} (w : World) (h2 : NatOf i2 h) (h3 : NatOf i3 m) (a2 : h ≤ m) (a3 : m ≤ c) :
    (Instr.sliceAt T (.slice (some ⟨b, O, none⟩) N c) none (some (.int k2 i2)) (some (.int k3 i3))).run P w = .ok (.slice (some ⟨b, O, none⟩) h m) w := by
  obtain rfl := h2.eq
  obtain rfl := h3.eq
  obtain ⟨t, hi, _, hsz, _⟩ := info_parts E'.el.hi
  have c1 : (0 : Int) ≤ (m : Int) ∧ (m : Int) ≤ (c : Int) := ⟨by omega, by omega⟩
  have c2 : (0 : Int) ≤ (h : Int) ∧ (h : Int) ≤ (m : Int) := ⟨by omega, by omega⟩
  have c3 : (0 : Int) ≤ (0 : Int) ∧ (0 : Int) ≤ (h : Int) := ⟨by omega, by omega⟩
  unfold Instr.sliceAt
  simp only [Sem.run_bind, run_underlying E'.el.ht, Result.andThen_ok, Instr.slice, Instr.sliceBounds, Instr.sliceBound, asIntOf, Sem.run_pure, if_pos c1, if_pos c2, if_pos c3, Int.toNat_natCast, sizeOf, typeInfo, Option.isSome_some]
  simp [hi, hsz, Addr.add_mid]
theorem r_slHM [E' : TS P T e size bytes z] {b O : Nat} {i2 i3 : Int} {k2 k3 : IntKind} (hx : ev E x = some (.slice (some ⟨b, O, none⟩) N c)) (hq : ev E q = some (.int k2 i2)) (hr : ev E r = some (.int k3 i3)) [h2 : NatOf i2 h] [h3 : NatOf i3 m] (a2 : h ≤ m := by omega) (a3 : m ≤ c := by omega) : Runs0 P nn D E L (.slice T x none (some q) (some r)) (.slice (some ⟨b, O, none⟩) h m) := fun a w ka s o ho => by
  have := run_slHM (P := P) (T := T) (N := N) (b := b) (O := O) (k2 := k2) (k3 := k3) w h2 h3 a2 a3
  unfold execOp
  simp only [ho, ka.ev hx, Option.map_some, Option.map_none, ka.ev hq, ka.ev hr]
  rw [Sem.run_bind, this]
  rfl
theorem cut_zero {b O c size : Nat} (hc : 0 < c) : cutA (some ⟨b, O, none⟩) c 0 size = some ⟨b, O, none⟩ := by
  unfold cutA
  rw [if_neg (by omega)]
  simp [Addr.add_mid]
theorem r_slHb [E' : TS P T e size bytes z] {b O : Nat} {j : Int} {k : IntKind} (hx : ev E x = some (.slice (some ⟨b, O, none⟩) N c)) (hq : ev E q = some (.int k j)) [hj : NatOf j h] (hl : h ≤ c := by omega) (hc : 0 < c := by omega) : Runs0 P nn D E L (.slice T x none (some q) none) (.slice (some ⟨b, O, none⟩) h c) := by
  have := r_slH (P := P) (n := nn) (D := D) (L := L) (E' := E') hx hq (hj := hj) hl
  rwa [cut_zero hc] at this
end
end Go.Proofs.YtjhocljhhpkiiaaGreatDoor
/- N17 -/
namespace Go.Proofs.YtjhocljhhpkiiaaGreatDoor
set_option linter.unusedSimpArgs false
set_option linter.unusedVariables false
open Go.RowKit
section
variable {P : Program} {A : List Fa} {W : World} {n : Nat} {D : List Deferred} {E : Env} {L : List Fa} {f : FuncId} {l : List Operand} {ts : Array TypeId} {vs : List Value} {v : Value}
theorem run_fun {a : Act} {w : World} {o : Oper} {x : Next} {w' : World} (ka : Kn n D E a) (ho : o.op = .call ⟨.value (.func f), l.toArray, ts⟩) (ha : evs E l = some vs) (hb : (callFunc f vs.toArray).run P w = .ok x w') : (execOp a.eval o).run P w = .ok x w' := by
  have e0 : ev E (.func f) = some (.func (.func f) #[] #[]) := rfl
  unfold execOp
  simp only [ho, resolve, ka.ev e0, Deferred.ofValue, Sem.run_bind, Sem.run_pure, Result.andThen_ok, invoke]
  rw [List.map_toArray, ka.evs ha]
  simpa using hb
theorem r_fun (hb : ∀ w, (callFunc f vs.toArray).run P w = .ok (.value v) w) (ha : evs E l = some vs) : Runs0 P n D E L (.call ⟨.value (.func f), l.toArray, ts⟩) v := fun a w ka s o ho => run_fun ka ho ha (hb w)
/-- one that reads a cell -/
theorem r_funC {b : Nat} {u : Value} [hc : Cells b 0 L 0 [u]] (hb : ∀ w, w.cell? ⟨b, 0, none⟩ = some u → (callFunc f vs.toArray).run P w = .ok (.value v) w) (ha : evs E l = some vs) : Runs0 P n D E L (.call ⟨.value (.func f), l.toArray, ts⟩) v := fun a w ka s o ho => run_fun ka ho ha (hb w (hc.cell s 0 u rfl))
/-- one that makes a block -/
theorem x_fun {cs : List Value} {T : TypeId} {u : Nat → Value} (hb : ∀ w, (callFunc f vs.toArray).run P w = .ok (.value (u w.heap.size)) (w.alloc (.cells cs.toArray T))) (ha : evs E l = some vs) : RunsX P A W n D E L (.call ⟨.value (.func f), l.toArray, ts⟩) u (fun g => .blk g cs T :: L) := fun a w ka s o ho =>
  ⟨w.heap.size, _, run_fun ka ho ha (hb w), s.alloc cs T⟩
/-- one that stores a cell into a block -/
theorem x_setV {g b : Nat} {T : TypeId} {old u : Value} {M : List Fa} [hm : TakeB g L [old] T M] [hc : Cells b 0 L 0 [u]] (hb : ∀ w, w.cell? ⟨b, 0, none⟩ = some u → w.heap[g]? = some (.cells #[old] T (0, 0)) → (callFunc f vs.toArray).run P w = .ok (.value (.tuple #[])) (w.setCell ⟨g, 0, none⟩ u)) (ha : evs E l = some vs) : RunsX P A W n D E L (.call ⟨.value (.func f), l.toArray, ts⟩) (fun _ : Unit => .tuple #[]) (fun _ => .blk g [u] T :: M) := fun a w ka s o ho => by
  have h2 := s.perm hm.perm
  have hbk : w.heap[g]? = some (.cells [old].toArray T (0, 0)) := h2.ok (.blk _ _ _) (List.mem_cons_self ..)
  refine ⟨(), _, run_fun ka ho ha (hb w (hc.cell s.toFx 0 u rfl) hbk), h2.put ?_ (fun B w0 hB hg => hB.setCell hg u) (by simp) (fun k hk => heap_setCell_other w _ k u hk)⟩
  rw [heap_setCell_same w g 0 _ T u hbk]
  rfl
/-- a method's entry, through an interface value -/
theorem r_inv {x : Operand} {T : TypeId} {u : Value} {name : String} (hb : ∀ w, (callMethod (.iface T u) name vs.toArray).run P w = .ok (.value v) w) (hx : ev E x = some (.iface T u)) (ha : evs E l = some vs) : Runs0 P n D E L (.call ⟨.invoke x name, l.toArray, ts⟩) v := fun a w ka s o ho => by
  unfold execOp
  simp only [ho, resolve, ka.ev hx, Sem.run_bind, Sem.run_pure, Result.andThen_ok, invoke]
  rw [List.map_toArray, ka.evs ha]
  have e0 : ((#[Value.iface T u] : Array Value) ++ vs.toArray)[0]? = some (.iface T u) := by simp
  rw [e0]
  simp only []
  have e : ((#[Value.iface T u] : Array Value) ++ vs.toArray).extract 1 ((#[Value.iface T u] : Array Value) ++ vs.toArray).size = vs.toArray := by simp
  rw [e]
  exact hb w
theorem r_eqS {T T' : TypeId} {x y : Operand} {a b : ByteArray} (hx : ev E x = some (.string a)) (hy : ev E y = some (.string b)) : Runs0 P n D E L (.binOp .eql T x y T') (.bool (a.toList == b.toList)) := fun act w ka s o ho => run_bin ho (ka.ev hx) (ka.ev hy) rfl (by rw [binOp_string_eql]; rfl)
end
end Go.Proofs.YtjhocljhhpkiiaaGreatDoor
/- U93 -/
namespace Go.Proofs.YtjhocljhhpkiiaaGreatDoor
set_option linter.unusedSimpArgs false
set_option linter.unusedVariables false
open Go.RowKit Go.Extern.Stop Go.Stop Go.Extern
abbrev hdl (T : Nat) : Value := .pointer (some ⟨3, T, none⟩)
abbrev rty (T : Nat) : Value := .iface 308 (.agg #[hdl T])
abbrev rval (T b : Nat) (fl : Int) : Value := .agg #[hdl T, .pointer (some ⟨b, 0, none⟩), .int .u64 fl]
theorem rf_val1 (t : Addr) (w : World) : (callFunc 160 #[.iface 176 (.pointer (some t))]).run Tryz.prog w = .ok (.value (rval 176 w.heap.size 150)) (w.alloc (.cells #[.pointer (some t)] 176)) := by kernel_rfl
theorem rf_val2 (t : Addr) (w : World) : (callFunc 160 #[.iface 179 (.pointer (some t))]).run Tryz.prog w = .ok (.value (rval 179 w.heap.size 150)) (w.alloc (.cells #[.pointer (some t)] 179)) := by kernel_rfl
theorem rf_val3 (t : Addr) (w : World) : (callFunc 160 #[.iface 174 (.pointer (some t))]).run Tryz.prog w = .ok (.value (rval 174 w.heap.size 150)) (w.alloc (.cells #[.pointer (some t)] 174)) := by kernel_rfl
theorem rf_val4 (e : Int) (w : World) : (callFunc 160 #[.iface 94 (.int .i64 e)]).run Tryz.prog w = .ok (.value (rval 94 w.heap.size 130)) (w.alloc (.cells #[.int .i64 e] 94)) := by kernel_rfl
theorem rf_type1 (b : Nat) (w : World) : (callFunc 161 #[rval 176 b 150]).run Tryz.prog w = .ok (.value (rty 176)) w := by kernel_rfl
theorem rf_type2 (b : Nat) (w : World) : (callFunc 161 #[rval 179 b 150]).run Tryz.prog w = .ok (.value (rty 179)) w := by kernel_rfl
theorem rf_kind1 (w : World) : (callMethod (rty 176) "Kind" #[]).run Tryz.prog w = .ok (.value (.int .u8 22)) w := by kernel_rfl
theorem rf_kind2 (w : World) : (callMethod (rty 179) "Kind" #[]).run Tryz.prog w = .ok (.value (.int .u8 22)) w := by kernel_rfl
theorem rf_kind3 (w : World) : (callMethod (rty 174) "Kind" #[]).run Tryz.prog w = .ok (.value (.int .u8 22)) w := by kernel_rfl
theorem rf_kind4 (w : World) : (callMethod (rty 94) "Kind" #[]).run Tryz.prog w = .ok (.value (.int .u8 2)) w := by kernel_rfl
theorem rf_elem1 (w : World) : (callMethod (rty 176) "Elem" #[]).run Tryz.prog w = .ok (.value (rty 174)) w := by kernel_rfl
theorem rf_elem2 (w : World) : (callMethod (rty 179) "Elem" #[]).run Tryz.prog w = .ok (.value (rty 94)) w := by kernel_rfl
theorem rf_impl3 (w : World) : (callMethod (rty 174) "Implements" #[rty 90]).run Tryz.prog w = .ok (.value (.bool true)) w := by kernel_rfl
theorem rf_impl4 (w : World) : (callMethod (rty 94) "Implements" #[rty 90]).run Tryz.prog w = .ok (.value (.bool true)) w := by kernel_rfl
theorem rf_typeOf3 (v : Value) (w : World) : (callFunc 206 #[.iface 174 v]).run Tryz.prog w = .ok (.value (rty 174)) w := by kernel_rfl
theorem rf_typeOf4 (v : Value) (w : World) : (callFunc 206 #[.iface 94 v]).run Tryz.prog w = .ok (.value (rty 94)) w := by kernel_rfl
theorem rf_asg33 (w : World) : (callMethod (rty 174) "AssignableTo" #[rty 174]).run Tryz.prog w = .ok (.value (.bool true)) w := by kernel_rfl
theorem rf_asg34 (w : World) : (callMethod (rty 174) "AssignableTo" #[rty 94]).run Tryz.prog w = .ok (.value (.bool false)) w := by kernel_rfl
theorem rf_asg44 (w : World) : (callMethod (rty 94) "AssignableTo" #[rty 94]).run Tryz.prog w = .ok (.value (.bool true)) w := by kernel_rfl
end Go.Proofs.YtjhocljhhpkiiaaGreatDoor
/- U94 -/
namespace Go.Proofs.YtjhocljhhpkiiaaGreatDoor
set_option linter.unusedSimpArgs false
set_option linter.unusedVariables false
open Go.RowKit Go.Extern.Stop Go.Stop Go.Extern
theorem rlm (z : Sem Value) (f : TypeId → Addr → Nat → Nat → Sem Value) (v : Value) :
    ReflectliteValue.method z f #[v] = (do match ← ReflectliteValue.parts v with | none => z | some (t, a, fl) => f t a fl (fl % 32)) := rfl
theorem rls (v x : Value) : ReflectliteValue.set #[v, x] = (do
    let (some (dst, a, fl), some (src, b, _)) := (← ReflectliteValue.parts v, ← ReflectliteValue.parts x)
      | unsupported (.noEntry "extern/(internal/reflectlite.Value).Set.zeroValue")
    if fl / ReflectliteValue.flagAddr % 2 == 0 then unsupported (.noEntry "extern/(internal/reflectlite.Value).Set.unaddressable")
    let val ← loadVar src b
    if ← Rtype.directlyAssignable dst src then storeVar dst a val
    else if ← Rtype.implements dst src then
      if (← Rtype.kind src) == 20 then
        match val with
        | .nilIface => unsupported (.noEntry "extern/reflectlite: a nil value of one interface type handed on as a value of another")
        | _ => storeVar dst a val
      else storeVar dst a (.iface src val)
    else panicString ("reflectlite.Set: value of type " ++ (← Rtype.spelt src) ++ " is not assignable to type " ++ (← Rtype.spelt dst))
    pure (.tuple #[])) := rfl
theorem rf_pP1 (b : Nat) (w : World) : (ReflectliteValue.parts (rval 176 b 150)).run Tryz.prog w = .ok (some (176, ⟨b, 0, none⟩, 150)) w := by kernel_rfl
theorem rf_pA1 (b : Nat) (w : World) : (ReflectliteValue.parts (rval 174 b 406)).run Tryz.prog w = .ok (some (174, ⟨b, 0, none⟩, 406)) w := by kernel_rfl
theorem rf_pE1 (b : Nat) (w : World) : (ReflectliteValue.parts (rval 174 b 150)).run Tryz.prog w = .ok (some (174, ⟨b, 0, none⟩, 150)) w := by kernel_rfl
theorem rf_nil1 (b : Nat) (p : Addr) (w : World) (ha : w.cell? ⟨b, 0, none⟩ = some (.pointer (some p))) : (callFunc 162 #[rval 176 b 150]).run Tryz.prog w = .ok (.value (.bool false)) w := by
  have h : (ReflectliteValue.method (ReflectliteValue.valueError "reflectlite.Value.IsNil" 0) ReflectliteValue.isNil #[rval 176 b 150]).run Tryz.prog w = .ok (.bool false) w := by
    rw [rlm]
    simp only [Sem.run_bind, rf_pP1, Result.andThen]
    simp [ReflectliteValue.isNil, loadVar, isAgg, underlying, Tryz.underlying176, ha, Result.andThen]
  have hF := @run_callFunc_extern Tryz.prog 162 _ (ReflectliteValue.method (ReflectliteValue.valueError "reflectlite.Value.IsNil" 0) ReflectliteValue.isNil) Tryz.func162 (by kernel_rfl) (by kernel_rfl) (by kernel_rfl) (by kernel_rfl)
  rw [hF, h]
  rfl
theorem rf_eO1 (w : World) : (Rtype.elem? 176).run Tryz.prog w = .ok (some 174) w := by kernel_rfl
theorem rf_mk1 (p : Nat) (w : World) : (ReflectliteValue.mk 174 ⟨p, 0, none⟩ ReflectliteValue.flagAddr).run Tryz.prog w = .ok (rval 174 p 406) w := by kernel_rfl
theorem rf_elemV1 (b p : Nat) (w : World) (ha : w.cell? ⟨b, 0, none⟩ = some (.pointer (some ⟨p, 0, none⟩))) : (callFunc 207 #[rval 176 b 150]).run Tryz.prog w = .ok (.value (rval 174 p 406)) w := by
  have h : (ReflectliteValue.method (ReflectliteValue.valueError "reflectlite.Value.Elem" 0) ReflectliteValue.elem #[rval 176 b 150]).run Tryz.prog w = .ok (rval 174 p 406) w := by
    rw [rlm]
    simp only [Sem.run_bind, rf_pP1, Result.andThen]
    simp [ReflectliteValue.elem, loadVar, isAgg, underlying, Tryz.underlying176, ha, Result.andThen, rf_eO1, rf_mk1]
  have hF := @run_callFunc_extern Tryz.prog 207 _ (ReflectliteValue.method (ReflectliteValue.valueError "reflectlite.Value.Elem" 0) ReflectliteValue.elem) Tryz.func207 (by kernel_rfl) (by kernel_rfl) (by kernel_rfl) (by kernel_rfl)
  rw [hF, h]
  rfl
theorem rf_dA1 (w : World) : (Rtype.directlyAssignable 174 174).run Tryz.prog w = .ok true w := by kernel_rfl
theorem rf_set1 (t b : Nat) (e : Addr) (old : Value) (w : World) (hb : w.cell? ⟨b, 0, none⟩ = some (.pointer (some e))) (ht : w.heap[t]? = some (.cells #[old] 174 (0, 0))) : (callFunc 208 #[rval 174 t 406, rval 174 b 150]).run Tryz.prog w = .ok (.value (.tuple #[])) (w.setCell ⟨t, 0, none⟩ (.pointer (some e))) := by
  obtain ⟨hc, hf⟩ := blk_cells ht
  have h : (ReflectliteValue.set #[rval 174 t 406, rval 174 b 150]).run Tryz.prog w = .ok (.tuple #[]) (w.setCell ⟨t, 0, none⟩ (.pointer (some e))) := by
    rw [rls]
    simp only [Sem.run_bind, rf_pA1, rf_pE1, Result.andThen]
    simp [ReflectliteValue.flagAddr, loadVar, isAgg, underlying, Tryz.underlying174, hb, Result.andThen, rf_dA1, storeVar, Value.cells, storeCells, Addr.add]
    rw [run_store Tryz.prog w ⟨t, 0, none⟩ _ _ (by rfl)]
    simp [hc, hf]
  have hF := @run_callFunc_extern Tryz.prog 208 _ ReflectliteValue.set Tryz.func208 (by kernel_rfl) (by kernel_rfl) (by kernel_rfl) (by kernel_rfl)
  rw [hF, h]
  rfl
theorem rf_pP2 (b : Nat) (w : World) : (ReflectliteValue.parts (rval 179 b 150)).run Tryz.prog w = .ok (some (179, ⟨b, 0, none⟩, 150)) w := by kernel_rfl
theorem rf_pA2 (b : Nat) (w : World) : (ReflectliteValue.parts (rval 94 b 386)).run Tryz.prog w = .ok (some (94, ⟨b, 0, none⟩, 386)) w := by kernel_rfl
theorem rf_pE2 (b : Nat) (w : World) : (ReflectliteValue.parts (rval 94 b 130)).run Tryz.prog w = .ok (some (94, ⟨b, 0, none⟩, 130)) w := by kernel_rfl
theorem rf_nil2 (b : Nat) (p : Addr) (w : World) (ha : w.cell? ⟨b, 0, none⟩ = some (.pointer (some p))) : (callFunc 162 #[rval 179 b 150]).run Tryz.prog w = .ok (.value (.bool false)) w := by
  have h : (ReflectliteValue.method (ReflectliteValue.valueError "reflectlite.Value.IsNil" 0) ReflectliteValue.isNil #[rval 179 b 150]).run Tryz.prog w = .ok (.bool false) w := by
    rw [rlm]
    simp only [Sem.run_bind, rf_pP2, Result.andThen]
    simp [ReflectliteValue.isNil, loadVar, isAgg, underlying, Tryz.underlying179, ha, Result.andThen]
  have hF := @run_callFunc_extern Tryz.prog 162 _ (ReflectliteValue.method (ReflectliteValue.valueError "reflectlite.Value.IsNil" 0) ReflectliteValue.isNil) Tryz.func162 (by kernel_rfl) (by kernel_rfl) (by kernel_rfl) (by kernel_rfl)
  rw [hF, h]
  rfl
theorem rf_eO2 (w : World) : (Rtype.elem? 179).run Tryz.prog w = .ok (some 94) w := by kernel_rfl
theorem rf_mk2 (p : Nat) (w : World) : (ReflectliteValue.mk 94 ⟨p, 0, none⟩ ReflectliteValue.flagAddr).run Tryz.prog w = .ok (rval 94 p 386) w := by kernel_rfl
theorem rf_elemV2 (b p : Nat) (w : World) (ha : w.cell? ⟨b, 0, none⟩ = some (.pointer (some ⟨p, 0, none⟩))) : (callFunc 207 #[rval 179 b 150]).run Tryz.prog w = .ok (.value (rval 94 p 386)) w := by
  have h : (ReflectliteValue.method (ReflectliteValue.valueError "reflectlite.Value.Elem" 0) ReflectliteValue.elem #[rval 179 b 150]).run Tryz.prog w = .ok (rval 94 p 386) w := by
    rw [rlm]
    simp only [Sem.run_bind, rf_pP2, Result.andThen]
    simp [ReflectliteValue.elem, loadVar, isAgg, underlying, Tryz.underlying179, ha, Result.andThen, rf_eO2, rf_mk2]
  have hF := @run_callFunc_extern Tryz.prog 207 _ (ReflectliteValue.method (ReflectliteValue.valueError "reflectlite.Value.Elem" 0) ReflectliteValue.elem) Tryz.func207 (by kernel_rfl) (by kernel_rfl) (by kernel_rfl) (by kernel_rfl)
  rw [hF, h]
  rfl
theorem rf_dA2 (w : World) : (Rtype.directlyAssignable 94 94).run Tryz.prog w = .ok true w := by kernel_rfl
theorem rf_set2 (t b : Nat) (e : Int) (old : Value) (w : World) (hb : w.cell? ⟨b, 0, none⟩ = some (.int .i64 e)) (ht : w.heap[t]? = some (.cells #[old] 94 (0, 0))) : (callFunc 208 #[rval 94 t 386, rval 94 b 130]).run Tryz.prog w = .ok (.value (.tuple #[])) (w.setCell ⟨t, 0, none⟩ (.int .i64 e)) := by
  obtain ⟨hc, hf⟩ := blk_cells ht
  have h : (ReflectliteValue.set #[rval 94 t 386, rval 94 b 130]).run Tryz.prog w = .ok (.tuple #[]) (w.setCell ⟨t, 0, none⟩ (.int .i64 e)) := by
    rw [rls]
    simp only [Sem.run_bind, rf_pA2, rf_pE2, Result.andThen]
    simp [ReflectliteValue.flagAddr, loadVar, isAgg, underlying, Tryz.underlying94, hb, Result.andThen, rf_dA2, storeVar, Value.cells, storeCells, Addr.add]
    rw [run_store Tryz.prog w ⟨t, 0, none⟩ _ _ (by rfl)]
    simp [hc, hf]
  have hF := @run_callFunc_extern Tryz.prog 208 _ ReflectliteValue.set Tryz.func208 (by kernel_rfl) (by kernel_rfl) (by kernel_rfl) (by kernel_rfl)
  rw [hF, h]
  rfl
end Go.Proofs.YtjhocljhhpkiiaaGreatDoor
