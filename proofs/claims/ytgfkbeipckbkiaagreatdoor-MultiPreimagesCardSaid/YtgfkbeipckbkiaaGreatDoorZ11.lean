/- find: the end of the way, the subtrees beside it; The reference's maps; An argument that is a list of entries, opened; The library's comparison of byte slices; Keys compared and checked; key.Split; Keys in order, by their bits: plain; Keys in order, split at a depth: plain; The items of a tree for some keys: plain; multi.add; multi.add, the cases of one item; A slice cut at its length and its capacity; multi.add: all trees (joined texts: U37 U38 TE N15 U69 U70 E15 E16 E17 U71 U72 N16 U73) -/
import Derived.Test.YtgfkbeipckbkiaaGreatDoorZ10
import Derived.Lib.BytesEntry
import Derived.Lib.Bytealg
set_option linter.all false
/- U37 -/
namespace Go.Proofs.YtgfkbeipckbkiaaGreatDoor
set_option linter.unusedSimpArgs false
set_option linter.unusedVariables false
open Go.RowKit
def lastQ {α : Type} (f : Nat → α) (z : α) : Nat → α
  | 0 => z
  | k + 1 => f k
theorem Locate_s (n : Nat) (h : Zh) (t : Tr) (p : Option Addr) [ht : TrZ n h t p] (key : B32) (D : Nat) (hD : WayTo key t D) : Spec Tryz.prog 23 [.pointer p, .agg key.cells.toArray].toArray [.zone false h] [] (fun _ : Unit => .tuple #[.pointer (wayQ h key p D), .int .i64 (D : Int)]) (fun _ => []) := by
  have hle := hD.le
  refine spec_of Tryz.func23 rfl (n := 17) rfl rfl ?_
  intro W
  refine h_seq ?_
  refine h_reg ?_
  refine h_opX (x_box rfl) fun g3 => ?_
  refine h_opX (x_alloc) fun g4 => ?_
  refine h_opX (x_alloc) fun g5 => ?_
  refine h_nil ?_
  refine q_then ?_
  refine h_seq ?_
  refine h_seq ?_
  refine h_reg ?_
  refine h_op (r_move rfl) ?_
  refine h_op (r_loadr rfl) ?_
  refine h_call ((way_s p key).comes) rfl rfl rfl fun ⟨g1, g2⟩ => ?_
  dsimp only
  refine h_nil ?_
  refine q_then ?_
  refine h_block ?_
  change H _ _ _ _ _ (_ :: _ :: .blk g5 [.int .i64 ((0 - 1 : Nat) : Int)] _ :: .blk g4 [.pointer (lastQ (wayQ h key p) none 0)] _ :: _) _
  refine h_range (way_it n h t p key D hD g1 g2) rfl (fun pre mm => mm = [.blk g4 [.pointer (lastQ (wayQ h key p) none pre.length)] 24, .blk g5 [.int .i64 ((pre.length - 1 : Nat) : Int)] 3]) [.blk g4 [.pointer (lastQ (wayQ h key p) none 0)] 24, .blk g5 [.int .i64 ((0 - 1 : Nat) : Int)] 3] [] (by rintro pre mm rfl f hf; simp only [List.mem_cons, List.not_mem_nil, or_false] at hf; rcases hf with rfl | rfl <;> rfl) rfl rfl (fun _ => rfl) ?_ ?_
  · intro ll rr pre i post mm W1 hr hrp hxs hJ
    subst hJ
    have hpre : pre = List.range i ∧ i < D + 1 := range_mid hxs
    obtain ⟨rfl, hi⟩ := hpre
    rw [List.length_range]
    simp only [List.nil_append, List.cons_append]
    refine h_seq ?_
    refine h_reg ?_
    refine h_op (r_assign rfl) ?_
    refine h_nil ?_
    refine q_then ?_
    refine h_reg ?_
    refine h_op (r_assign rfl) ?_
    refine h_nil ?_
    refine q_then ?_
    refine h_begin hr ?_
    refine h_block ?_
    refine h_reg ?_
    refine h_op (r_move rfl) ?_
    refine h_op (r_move rfl) ?_
    refine h_opS (s_store rfl rfl rfl) ?_
    refine h_opS (s_store rfl rfl rfl) ?_
    refine h_nil ?_
    refine q_block ?_
    exact h_endround [.blk g4 [.pointer (wayQ h key p i)] 24, .blk g5 [.int .i64 (i : Int)] 3] hr hrp (by simp [lastQ]) (by intro f hf; simp only [List.mem_cons, List.not_mem_nil, or_false] at hf; rcases hf with rfl | rfl <;> rfl)
  · intro bb mm hJ
    subst hJ
    rw [List.length_range]
    refine q_block ?_
    refine q_then ?_
    simp only [List.nil_append, List.cons_append]
    change H _ _ _ _ _ (_ :: .blk g4 [.pointer (wayQ h key p D)] _ :: .blk g5 [.int .i64 (D : Int)] _ :: _) _
    refine h_seq ?_
    refine ha_start [.blk g4 [.pointer (wayQ h key p D)] 24, .blk g5 [.int .i64 (D : Int)] 3] [] mixed (same) ?_
    refine ha_take 0 rfl (r_loadc rfl) ?_
    refine ha_take 1 rfl (r_loadc rfl) ?_
    refine ha_one 2 ?_
    refine ho_S 2 rfl (s_store rfl rfl rfl) (same) ?_
    refine ha_one 3 ?_
    refine ho_SL 3 rfl (s_store rfl rfl rfl) ?_
    refine q_then ?_
    refine h_ret ?_
    refine h_mark ?_
    exact h_ret2 rfl (rv_cell rfl) (rv_cell rfl) fun w s => ⟨(), rfl, s.res (List.nil_sublist _) (by simp)⟩
/-- the subtrees beside the way, their pointers -/
def sibK (key : B32) (t : Tr) (i : Nat) : Tr := (wayK key t i).sub (!bitAt key i)
def sibQ (h : Zh) (key : B32) (p : Option Addr) (i : Nat) : Option Addr := subP h (!bitAt key i) (wayQ h key p i)
instance (n : Nat) (h : Zh) (t : Tr) (p : Option Addr) (key : B32) (k : Nat) [x : TrZ n h t p] : TrZ n h (sibK key t k) (sibQ h key p k) := ⟨(wayK_ok x.ok key k).sub _⟩
def ptrs (l : List (Option Addr)) : List Value := l.map Value.pointer
theorem ptrs_get {l : List (Option Addr)} {k : Nat} {p : Option Addr} (h : l[k]? = some p) : (ptrs l)[k]? = some (.pointer p) := by simp [ptrs, h]
def sibL (h : Zh) (key : B32) (p : Option Addr) (D : Nat) : List (Option Addr) := (List.range D).map (sibQ h key p)
theorem sibL_len (h : Zh) (key : B32) (p : Option Addr) (D : Nat) : (sibL h key p D).length = D := by simp [sibL]
theorem sibL_at (h : Zh) (key : B32) (p : Option Addr) {D i : Nat} (hi : i < D) : (sibL h key p D)[i]? = some (sibQ h key p i) := by unfold sibL; rw [List.getElem?_map, List.getElem?_range hi]; rfl
theorem sibL_succ (h : Zh) (key : B32) (p : Option Addr) (i : Nat) : ptrs (sibL h key p i) ++ [.pointer (sibQ h key p i)] = ptrs (sibL h key p (i + 1)) := by unfold sibL ptrs; rw [List.range_succ, List.map_append, List.map_append]; rfl
end Go.Proofs.YtgfkbeipckbkiaaGreatDoor
/- U38 -/
namespace Go.Proofs.YtgfkbeipckbkiaaGreatDoor
set_option linter.unusedSimpArgs false
set_option linter.unusedVariables false
open Go.RowKit
def ents (l : List En) : List Value := l.flatMap fun e => e.e.cells
theorem ents_len (l : List En) : (ents l).length = l.length * 33 := by
  induction l with
  | nil => rfl
  | cons e l ih =>
    show (e.e.cells ++ ents l).length = _
    rw [List.length_append, ih, Entry.cells_length, List.length_cons]; omega
theorem ents_snoc (l : List En) (e : En) : ents l ++ e.e.cells = ents (l ++ [e]) := by unfold ents; rw [List.flatMap_append]; simp
theorem ents_at {l : List En} {k : Nat} {e : En} (h : l[k]? = some e) : ∀ j v, e.e.cells[j]? = some v → (ents l)[k * 33 + j]? = some v := by
  induction l generalizing k with
  | nil => cases h
  | cons x l ih =>
    intro j v hv
    show (x.e.cells ++ ents l)[k * 33 + j]? = some v
    cases k with
    | zero =>
      obtain rfl : x = e := by simpa using h
      rw [Nat.zero_mul, Nat.zero_add, List.getElem?_append_left (List.getElem?_eq_some_iff.1 hv).1]
      exact hv
    | succ k =>
      rw [List.getElem?_append_right (by rw [Entry.cells_length]; omega), Entry.cells_length, show (k + 1) * 33 + j - 33 = k * 33 + j by omega]
      exact ih (by simpa using h) j v hv
theorem ents_key {l : List En} {k : Nat} {e : En} (h : l[k]? = some e) : ∀ j v, e.key.cells[j]? = some v → (ents l)[k * 33 + j]? = some v := fun j v hv =>
  ents_at h j v (by
    show (e.e.key.cells ++ ([.slice e.e.value.A e.e.value.n e.e.value.c] ++ []))[j]? = some v
    rw [List.getElem?_append_left (List.getElem?_eq_some_iff.1 hv).1]
    exact hv)
theorem ents_val {l : List En} {k : Nat} {e : En} (h : l[k]? = some e) : (ents l)[k * 33 + 32]? = some (.slice e.e.value.A e.e.value.n e.e.value.c) :=
  ents_at h 32 _ (by
    show (e.e.key.cells ++ ([.slice e.e.value.A e.e.value.n e.e.value.c] ++ []))[32]? = _
    rw [List.getElem?_append_right (by rw [B32.cells_length]; omega), B32.cells_length]
    rfl)
theorem filt_yes {α : Type} {p : α → Bool} {l : List α} {k : Nat} {x : α} (h : l[k]? = some x) (hp : p x = true) : (l.take (k + 1)).filter p = (l.take k).filter p ++ [x] := by
  rw [List.take_add_one, h, Option.toList_some, List.filter_append, List.filter_cons_of_pos hp, List.filter_nil]
theorem filt_no {α : Type} {p : α → Bool} {l : List α} {k : Nat} {x : α} (h : l[k]? = some x) (hp : ¬ p x = true) : (l.take (k + 1)).filter p = (l.take k).filter p := by
  rw [List.take_add_one, h, Option.toList_some, List.filter_append, List.filter_cons_of_neg hp, List.filter_nil, List.append_nil]
theorem getE {l : List En} {k : Nat} (h : k < l.length) : ∃ e, l[k]? = some e := ⟨_, List.getElem?_eq_getElem h⟩
theorem Compare_s (a b : B32) : Spec Tryz.prog 100 [.agg a.cells.toArray, .agg b.cells.toArray].toArray [] [] (fun _ : Unit => .int .i64 (cmpB a b)) (fun _ => []) := by
  have ha := a.2
  have hb := b.2
  refine spec_of Tryz.func100 rfl (n := 24) rfl rfl ?_
  intro W
  refine h_seq ?_
  refine h_reg ?_
  refine h_opX (x_box rfl) fun g2 => ?_
  refine h_opX (x_box rfl) fun g3 => ?_
  refine h_op (r_assign rfl) ?_
  refine h_nil ?_
  refine q_then ?_
  refine h_seq ?_
  refine h_seq ?_
  refine h_reg ?_
  refine h_op (r_assign rfl) ?_
  refine h_nil ?_
  refine q_then ?_
  refine h_block ?_
  refine h_loop (fun (k : Nat) => k ≤ 32 ∧ cmpL (a.1.drop k) (b.1.drop k) = cmpB a b) (fun (k : Nat) => [(5, .int .i64 (k : Int)), (2, .pointer (some ⟨g2, 0, none⟩)), (3, .pointer (some ⟨g3, 0, none⟩))]) (fun (k : Nat) => [.blk g3 b.cells 39, .blk g2 a.cells 39]) (fun (k : Nat) => 32 - k) 0 (⟨Nat.zero_le _, rfl⟩) ⟨rfl, rfl, rfl, trivial⟩ (same) ?_
  rintro k ⟨hk, hc⟩
  refine h_seq ?_
  refine h_seq ?_
  refine h_reg ?_
  refine h_op (r_move rfl) ?_
  refine h_op (r_lss rfl rfl) ?_
  refine h_nil ?_
  refine q_then ?_
  refine h_cond rfl (fun h => ?_) (fun h => ?_)
  · have hk32 : k < 32 := by omega
    have e1 : a.1.drop k = a.1.getD k 0 :: a.1.drop (k + 1) := by rw [List.drop_eq_getElem_cons (by omega), List.getD_eq_getElem?_getD, List.getElem?_eq_getElem (by omega), Option.getD_some]
    have e2 : b.1.drop k = b.1.getD k 0 :: b.1.drop (k + 1) := by rw [List.drop_eq_getElem_cons (by omega), List.getD_eq_getElem?_getD, List.getElem?_eq_getElem (by omega), Option.getD_some]
    rw [e1, e2, cmpL] at hc
    refine h_skip ?_
    refine q_then ?_
    refine h_seq ?_
    refine h_block ?_
    refine h_seq ?_
    refine h_seq ?_
    refine ha_start [.blk g3 b.cells 39, .blk g2 a.cells 39] [] mixed (same) ?_
    refine ha_takeP 0 rfl (r_move rfl) ?_
    refine ha_takeP 1 rfl (r_idxA rfl rfl) ?_
    refine ha_take 2 rfl (r_nth rfl (bc_at' (by omega))) ?_
    refine ha_takeP 3 rfl (r_move rfl) ?_
    refine ha_takeP 4 rfl (r_idxA rfl rfl) ?_
    refine ha_take 5 rfl (r_nth rfl (bc_at' (by omega))) ?_
    refine ha_takeP 6 rfl (r_lss rfl rfl) ?_
    refine ha_done (by kernel_rfl) ?_
    refine q_then ?_
    refine h_cond rfl (fun h1 => ?_) (fun h1 => ?_)
    · rw [if_pos (UInt8.lt_iff_toNat_lt.2 (by omega))] at hc
      rw [← hc]
      refine h_seq ?_
      refine h_reg ?_
      refine h_op (r_assign rfl) ?_
      refine h_nil ?_
      refine q_then ?_
      refine h_ret ?_
      refine q_thenR ?_
      refine q_blockR ?_
      refine q_thenR ?_
      refine q_thenR ?_
      refine q_blockR ?_
      refine q_thenR ?_
      exact h_ret1 rfl rfl fun w s => ⟨(), rfl, s.res (List.nil_sublist _) (by simp)⟩
    · rw [if_neg (fun h => by have := UInt8.lt_iff_toNat_lt.1 h; omega)] at hc
      refine h_skip ?_
      refine q_then ?_
      refine h_seq ?_
      refine ha_start [.blk g3 b.cells 39, .blk g2 a.cells 39] [] mixed (same) ?_
      refine ha_takeP 0 rfl (r_move rfl) ?_
      refine ha_takeP 1 rfl (r_idxA rfl rfl) ?_
      refine ha_take 2 rfl (r_nth rfl (bc_at' (by omega))) ?_
      refine ha_takeP 3 rfl (r_move rfl) ?_
      refine ha_takeP 4 rfl (r_idxA rfl rfl) ?_
      refine ha_take 5 rfl (r_nth rfl (bc_at' (by omega))) ?_
      refine ha_takeP 6 rfl (r_gtr rfl rfl) ?_
      refine ha_done (by kernel_rfl) ?_
      refine q_then ?_
      refine h_cond rfl (fun h2 => ?_) (fun h2 => ?_)
      · rw [if_pos (UInt8.lt_iff_toNat_lt.2 (by omega))] at hc
        rw [← hc]
        refine h_seq ?_
        refine h_reg ?_
        refine h_op (r_assign rfl) ?_
        refine h_nil ?_
        refine q_then ?_
        refine h_ret ?_
        refine q_blockR ?_
        refine q_thenR ?_
        refine q_thenR ?_
        refine q_blockR ?_
        refine q_thenR ?_
        exact h_ret1 rfl rfl fun w s => ⟨(), rfl, s.res (List.nil_sublist _) (by simp)⟩
      · rw [if_neg (fun h => by have := UInt8.lt_iff_toNat_lt.1 h; omega)] at hc
        refine h_skip ?_
        refine q_block ?_
        refine q_then ?_
        refine h_reg ?_
        refine h_op (r_move rfl) ?_
        refine h_op (r_add rfl rfl) ?_
        refine h_op (r_assign rfl) ?_
        refine h_nil ?_
        exact h_back (k + 1) (⟨by omega, hc⟩) (by omega) ⟨rfl, rfl, rfl, trivial⟩ (same)
  · obtain rfl : k = 32 := by omega
    have : cmpB a b = 0 := by rw [← hc, List.drop_eq_nil_of_le (by omega), List.drop_eq_nil_of_le (by omega)]; rfl
    rw [this]
    refine h_exit ?_
    refine q_thenE ?_
    refine q_thenE ?_
    refine q_blockE ?_
    refine q_then ?_
    refine h_seq ?_
    refine h_reg ?_
    refine h_op (r_assign rfl) ?_
    refine h_nil ?_
    refine q_then ?_
    refine h_ret ?_
    exact h_ret1 rfl rfl fun w s => ⟨(), rfl, s.res (List.nil_sublist _) (by simp)⟩
def bI (b : Bool) : Int := if b then 1 else 0
theorem Part_s (m : List En) (B : Option Addr) (c d : Nat) (b : Bool) (hd : d < 256) (hm : m.length ≤ 100000000) : Spec Tryz.prog 60 [.slice B m.length c, .int .i64 (d : Int), .int .i64 (bI b)].toArray [.rd B (ents m)] [] (fun u : Option Addr × Nat => .slice u.1 (part m d b).length u.2) (fun u => [.own (.slice u.1 (part m d b).length u.2) (part m d b).length 109 33 (ents (part m d b))]) := by
  refine spec_of Tryz.func60 rfl (n := 32) rfl rfl ?_
  intro W
  refine h_seq ?_
  refine h_reg ?_
  refine h_op (r_assign rfl) ?_
  refine h_nil ?_
  refine q_then ?_
  refine h_seq ?_
  refine h_reg ?_
  refine h_op (r_assign rfl) ?_
  refine h_nil ?_
  refine q_then ?_
  refine h_seq ?_
  refine h_seq ?_
  refine h_reg ?_
  refine h_op (r_assign rfl) ?_
  refine h_nil ?_
  refine q_then ?_
  refine h_block ?_
  refine h_nil_own 109 33 (xs := ents (part (m.take 0) d b)) rfl ?_
  change H _ _ _ _ _ (.own (.slice none (part (m.take 0) d b).length 0) (part (m.take 0) d b).length _ _ _ :: _) _
  refine h_loop (fun (s : Nat × Option Addr × Nat) => s.1 ≤ m.length) (fun (s : Nat × Option Addr × Nat) => [(8, .int .i64 (s.1 : Int)), (7, .slice s.2.1 (part (m.take s.1) d b).length s.2.2), (0, .slice B m.length c), (1, .int .i64 (d : Int)), (2, .int .i64 (bI b))]) (fun (s : Nat × Option Addr × Nat) => [.own (.slice s.2.1 (part (m.take s.1) d b).length s.2.2) (part (m.take s.1) d b).length 109 33 (ents (part (m.take s.1) d b)), .rd B (ents m)]) (fun (s : Nat × Option Addr × Nat) => m.length - s.1) (0, none, 0) ((show 0 ≤ m.length from Nat.zero_le _)) ⟨rfl, rfl, rfl, rfl, rfl, trivial⟩ (same) ?_
  rintro ⟨k, A, c'⟩ hk
  dsimp only at hk ⊢
  have hlen : (part (m.take k) d b).length ≤ m.length := Nat.le_trans (part_le _ _ _) (by rw [List.length_take]; omega)
  refine h_seq ?_
  refine h_seq ?_
  refine h_reg ?_
  refine h_op (r_move rfl) ?_
  refine h_op (r_move rfl) ?_
  refine h_op (r_len rfl) ?_
  refine h_op (r_lss rfl rfl) ?_
  refine h_nil ?_
  refine q_then ?_
  refine h_cond rfl (fun h => ?_) (fun h => ?_)
  · obtain ⟨e, he⟩ := getE (l := m) (k := k) (by omega)
    refine h_pure (φ := ∃ b o, B = some ⟨b, o, none⟩) (fun w s => Rd.some (s.ok (.rd B (ents m)) (by simp)) (by rw [ents_len]; omega)) ?_
    rintro ⟨bb, o, rfl⟩
    refine h_skip ?_
    refine q_then ?_
    refine h_seq ?_
    refine h_block ?_
    refine h_seq ?_
    refine h_reg ?_
    refine h_op (r_move rfl) ?_
    refine h_op (r_move rfl) ?_
    refine h_op (r_idx rfl rfl) ?_
    refine h_op (r_field rfl) ?_
    refine h_op (r_nthr rfl (out := e.key.cells) (B32.cells_length _) (ents_key he)) ?_
    refine h_op (r_move rfl) ?_
    refine h_call ((refBit_s e.key d hd).comes) rfl rfl rfl fun _ => ?_
    refine h_op (r_move rfl) ?_
    refine h_op (r_bool (r_eql rfl rfl) (show _ = (bitAt e.key d == b) by unfold bI bitN; cases bitAt e.key d <;> cases b <;> rfl)) ?_
    refine h_nil ?_
    refine q_then ?_
    refine h_condB rfl (fun h2 => ?_) (fun h2 => ?_)
    · have hf : part (m.take (k + 1)) d b = part (m.take k) d b ++ [e] := filt_yes he h2
      have hl : (part (m.take k) d b).length + 1 = (part (m.take (k + 1)) d b).length := by rw [hf, List.length_append]; rfl
      refine h_reg ?_
      refine h_op (r_move rfl) ?_
      refine h_op (r_move rfl) ?_
      refine h_op (r_move rfl) ?_
      refine h_op (r_idx rfl rfl) ?_
      refine h_op (r_nthr rfl (out := e.e.cells) (Entry.cells_length _) (ents_at he)) ?_
      refine h_opX (x_bsl rfl rfl) fun g29 => ?_
      refine h_opX (x_app rfl rfl (k := 33)) fun ⟨g30, c30⟩ => ?_
      refine h_op (r_assign rfl) ?_
      refine h_nil ?_
      refine q_block ?_
      refine q_then ?_
      refine h_reg ?_
      refine h_op (r_move rfl) ?_
      refine h_op (r_add rfl rfl) ?_
      refine h_op (r_assign rfl) ?_
      refine h_nil ?_
      rw [ents_snoc, ← hf, hl]
      exact h_back (k + 1, some ⟨g30, 0, none⟩, c30) ((show k + 1 ≤ m.length by omega)) ((show m.length - (k + 1) < m.length - k by omega)) ⟨rfl, rfl, rfl, rfl, rfl, trivial⟩ (same)
    · have hf : part (m.take (k + 1)) d b = part (m.take k) d b := filt_no he (by rw [h2]; simp)
      rw [← hf]
      refine h_skip ?_
      refine q_block ?_
      refine q_then ?_
      refine h_reg ?_
      refine h_op (r_move rfl) ?_
      refine h_op (r_add rfl rfl) ?_
      refine h_op (r_assign rfl) ?_
      refine h_nil ?_
      exact h_back (k + 1, A, c') ((show k + 1 ≤ m.length by omega)) ((show m.length - (k + 1) < m.length - k by omega)) ⟨rfl, rfl, rfl, rfl, rfl, trivial⟩ (same)
  · obtain rfl : k = m.length := by omega
    rw [List.take_length]
    refine h_exit ?_
    refine q_thenE ?_
    refine q_thenE ?_
    refine q_blockE ?_
    refine q_then ?_
    refine h_seq ?_
    refine h_reg ?_
    refine h_op (r_move rfl) ?_
    refine h_op (r_assign rfl) ?_
    refine h_nil ?_
    refine q_then ?_
    refine h_ret ?_
    exact h_ret1 rfl rfl fun w s => ⟨(A, c'), rfl, (same w s).res (List.Sublist.refl _) (by simp [Fa.wr])⟩
theorem Remove_s (m : List En) (B : Option Addr) (c : Nat) (key : B32) (hm : m.length ≤ 100000000) : Spec Tryz.prog 134 [.slice B m.length c, .agg key.cells.toArray].toArray [.rd B (ents m)] [] (fun u : Option Addr × Nat => .slice u.1 (remK m key).length u.2) (fun u => [.own (.slice u.1 (remK m key).length u.2) (remK m key).length 109 33 (ents (remK m key))]) := by
  refine spec_of Tryz.func134 rfl (n := 28) rfl rfl ?_
  intro W
  refine h_seq ?_
  refine h_reg ?_
  refine h_opX (x_box rfl) fun g3 => ?_
  refine h_op (r_assign rfl) ?_
  refine h_nil ?_
  refine q_then ?_
  refine h_seq ?_
  refine h_reg ?_
  refine h_op (r_assign rfl) ?_
  refine h_nil ?_
  refine q_then ?_
  refine h_seq ?_
  refine h_seq ?_
  refine h_reg ?_
  refine h_op (r_assign rfl) ?_
  refine h_nil ?_
  refine q_then ?_
  refine h_block ?_
  refine h_nil_own 109 33 (xs := ents (remK (m.take 0) key)) rfl ?_
  change H _ _ _ _ _ (.own (.slice none (remK (m.take 0) key).length 0) (remK (m.take 0) key).length _ _ _ :: _) _
  refine h_loop (fun (s : Nat × Option Addr × Nat) => s.1 ≤ m.length) (fun (s : Nat × Option Addr × Nat) => [(6, .int .i64 (s.1 : Int)), (5, .slice s.2.1 (remK (m.take s.1) key).length s.2.2), (0, .slice B m.length c), (3, .pointer (some ⟨g3, 0, none⟩))]) (fun (s : Nat × Option Addr × Nat) => [.own (.slice s.2.1 (remK (m.take s.1) key).length s.2.2) (remK (m.take s.1) key).length 109 33 (ents (remK (m.take s.1) key)), .blk g3 key.cells 39, .rd B (ents m)]) (fun (s : Nat × Option Addr × Nat) => m.length - s.1) (0, none, 0) ((show 0 ≤ m.length from Nat.zero_le _)) ⟨rfl, rfl, rfl, rfl, trivial⟩ (same) ?_
  rintro ⟨k, A, c'⟩ hk
  dsimp only at hk ⊢
  have hlen : (remK (m.take k) key).length ≤ m.length := Nat.le_trans (List.length_filter_le _ _) (by rw [List.length_take]; omega)
  refine h_seq ?_
  refine h_seq ?_
  refine h_reg ?_
  refine h_op (r_move rfl) ?_
  refine h_op (r_move rfl) ?_
  refine h_op (r_len rfl) ?_
  refine h_op (r_lss rfl rfl) ?_
  refine h_nil ?_
  refine q_then ?_
  refine h_cond rfl (fun h => ?_) (fun h => ?_)
  · obtain ⟨e, he⟩ := getE (l := m) (k := k) (by omega)
    refine h_pure (φ := ∃ b o, B = some ⟨b, o, none⟩) (fun w s => Rd.some (s.ok (.rd B (ents m)) (by simp)) (by rw [ents_len]; omega)) ?_
    rintro ⟨bb, o, rfl⟩
    refine h_skip ?_
    refine q_then ?_
    refine h_seq ?_
    refine h_block ?_
    refine h_seq ?_
    refine ha_start [.blk g3 key.cells 39, .rd (some ⟨bb, o, none⟩) (ents m)] [] mixed (same) ?_
    refine ha_takeP 0 rfl (r_move rfl) ?_
    refine ha_takeP 1 rfl (r_move rfl) ?_
    refine ha_takeP 2 rfl (r_idx rfl rfl) ?_
    refine ha_takeP 3 rfl (r_field rfl) ?_
    refine ha_take 4 rfl (r_nthr rfl (out := e.key.cells) (B32.cells_length _) (ents_key he)) ?_
    refine ha_take 5 rfl (r_loadr rfl) ?_
    refine ha_takeP 6 rfl (r_ner rfl rfl) ?_
    refine ha_done (by kernel_rfl) ?_
    refine q_then ?_
    refine h_cond rfl (fun h2 => ?_) (fun h2 => ?_)
    · have hf : remK (m.take (k + 1)) key = remK (m.take k) key ++ [e] := filt_yes he (by simpa using h2)
      have hl : (remK (m.take k) key).length + 1 = (remK (m.take (k + 1)) key).length := by rw [hf, List.length_append]; rfl
      refine h_reg ?_
      refine h_op (r_move rfl) ?_
      refine h_op (r_move rfl) ?_
      refine h_op (r_move rfl) ?_
      refine h_op (r_idx rfl rfl) ?_
      refine h_op (r_nthr rfl (out := e.e.cells) (Entry.cells_length _) (ents_at he)) ?_
      refine h_opX (x_bsl rfl rfl) fun g25 => ?_
      refine h_opX (x_app rfl rfl (k := 33)) fun ⟨g26, c26⟩ => ?_
      refine h_op (r_assign rfl) ?_
      refine h_nil ?_
      refine q_block ?_
      refine q_then ?_
      refine h_reg ?_
      refine h_op (r_move rfl) ?_
      refine h_op (r_add rfl rfl) ?_
      refine h_op (r_assign rfl) ?_
      refine h_nil ?_
      rw [ents_snoc, ← hf, hl]
      exact h_back (k + 1, some ⟨g26, 0, none⟩, c26) ((show k + 1 ≤ m.length by omega)) ((show m.length - (k + 1) < m.length - k by omega)) ⟨rfl, rfl, rfl, rfl, trivial⟩ (same)
    · have hf : remK (m.take (k + 1)) key = remK (m.take k) key := filt_no he (by simpa using h2)
      rw [← hf]
      refine h_skip ?_
      refine q_block ?_
      refine q_then ?_
      refine h_reg ?_
      refine h_op (r_move rfl) ?_
      refine h_op (r_add rfl rfl) ?_
      refine h_op (r_assign rfl) ?_
      refine h_nil ?_
      exact h_back (k + 1, A, c') ((show k + 1 ≤ m.length by omega)) ((show m.length - (k + 1) < m.length - k by omega)) ⟨rfl, rfl, rfl, rfl, trivial⟩ (same)
  · obtain rfl : k = m.length := by omega
    rw [List.take_length]
    refine h_exit ?_
    refine q_thenE ?_
    refine q_thenE ?_
    refine q_blockE ?_
    refine q_then ?_
    refine h_seq ?_
    refine h_reg ?_
    refine h_op (r_move rfl) ?_
    refine h_op (r_assign rfl) ?_
    refine h_nil ?_
    refine q_then ?_
    refine h_ret ?_
    exact h_ret1 rfl rfl fun w s => ⟨(A, c'), rfl, (same w s).res (List.Sublist.refl _) (by simp [Fa.wr])⟩
end Go.Proofs.YtgfkbeipckbkiaaGreatDoor
/- TE -/
namespace Go.Proofs.YtgfkbeipckbkiaaGreatDoor
set_option linter.unusedSimpArgs false
set_option linter.unusedVariables false
open Go.RowKit Go.ChangeShapes Go.WideShapes
section
variable {H : Type} {enc : TypeId × Value → H} {w : World} {base : Nat} {spare : Nat → Bool} {held : Bool} {v : Value} {d : DataW H} {ps : List MemPlace} {r : Reach} {b0 : Nat}
theorem c_Entry : Tryz.prog.cellsOf 109 = 33 := by kernel_rfl
theorem c_bytes : Tryz.prog.cellsOf 66 = 1 := by kernel_rfl
theorem entryFields' : ∃ f1 f2 : Field, Tryz.prog.underlying 109 = some (.struct #[f1, f2]) ∧ f1.type = 39 ∧ f2.type = 66 ∧ f1.offset = 0 ∧ f2.offset = 32 :=
  ⟨_, _, Tryz.underlying109, rfl, rfl, rfl, rfl⟩
instance : Inhabited En := ⟨⟨zEntry, []⟩⟩
set_option maxRecDepth 100000 in
theorem dec_En {fuel : Nat} {cs : List Value} {x : DataW H × List MemPlace} (h : DataW.trod enc Tryz.prog w base spare held fuel 109 cs = some x) : ∃ y : En, cs = y.e.cells ∧ SlZ (World.zh w) y.e.value y.val := by
  obtain ⟨f1, f2, hT, t1, t2, o1, o2⟩ := entryFields'
  obtain ⟨xs, n, -, -, hl, hxl, hx⟩ := DataW.trod_struct hT h
  rw [c_Entry] at hl
  have hxl' : xs.length = 2 := hxl
  have k1 := hx 0 f1 rfl
  have k2 := hx 1 f2 rfl
  rw [List.getElem?_eq_getElem (by omega)] at k1 k2
  rw [o1, t1, c_Key, List.drop_zero] at k1
  rw [o2, t2, c_bytes] at k2
  obtain ⟨y1, e1⟩ := dec_B32 Tryz.underlying39 c_Key Tryz.underlying5 c_u8 k1
  obtain ⟨l, A, c, e2, hlc, -, hA, hr, -⟩ := open_rows_t (f := fun b : UInt8 => [Value.int .u8 b.toNat]) (fun _ => rfl) Nat.one_pos Tryz.underlying66 c_u8 (fun _ => True) (fun fuel cs x h => by
    obtain ⟨n, rfl, _, hw⟩ := DataW.trod_int Tryz.underlying5 h
    have := bounds_u8 hw
    exact ⟨toByte (.int .u8 n), by rw [toByte_int this.1 this.2], trivial⟩) k2
  rw [byteOf_bc] at hr
  refine ⟨⟨⟨y1, ⟨A, l.length, c⟩⟩, l⟩, ?_, ⟨rfl, hlc, fun h0 => ?_, RdZ.of hr⟩⟩
  · have r1 : cs = cs.take 32 ++ (cs.drop 32).take 1 := by
      rw [List.take_of_length_le (l := cs.drop 32) (by simp; omega), List.take_append_drop]
    rw [r1, e1, e2]
    rfl
  · have := hA h0
    exact ⟨(show l.length = 0 by omega), this⟩
set_option maxRecDepth 100000 in
theorem openEntries (hval : Value.okWide Tryz.prog w r b0 22 v) (hd : DataW.Trod enc Tryz.prog w base spare held 22 v d ps) :
    ∃ (l : List En) (A : Option Addr) (cap : Nat), v = .slice A l.length cap ∧ RdZ (World.zh w) A (ents l) ∧ ∀ y ∈ l, SlZ (World.zh w) y.e.value y.val := by
  obtain ⟨l, A, c, h1, -, -, -, h2, h3⟩ := open_rows (f := fun y : En => y.e.cells) (fun y => Entry.cells_length y.e) (by omega) Tryz.underlying22 c_Entry (fun y => SlZ (World.zh w) y.e.value y.val) (fun fuel cs x h => dec_En h) hval hd
  exact ⟨l, A, c, h1, RdZ.of h2, h3⟩
end
end Go.Proofs.YtgfkbeipckbkiaaGreatDoor
/- N15 -/
namespace Go.Proofs.YtgfkbeipckbkiaaGreatDoor
set_option linter.unusedSimpArgs false
set_option linter.unusedVariables false
open Go.RowKit
/-- the model's entry of bytealg.Compare -/
class TCmp (P : Program) (f : FuncId) : Prop where
  ok : ∀ args w, (callFunc f args).run P w = ((Extern.BytealgCompare.compare args).run P w).andThen fun v w' => .ok (.value v) w'
theorem bytes_back (l : List UInt8) : Lib.bytesOf (l.map fun x => (x.toNat : Int)) = l := by
  unfold Lib.bytesOf
  rw [List.map_map]
  conv => rhs; rw [← List.map_id l]
  apply List.map_congr_left
  intro x _
  simp
theorem run_bytesOf_rd {P : Program} {w : World} {A : Option Addr} {l : List UInt8} {c : Nat} (hr : Rd w A (bc l)) : (Extern.Bytes.bytesOf (.slice A l.length c)).run P w = .ok ⟨l.toArray⟩ w := by
  cases A with
  | none =>
    have : l = [] := by
      cases l with
      | nil => rfl
      | cons x l => obtain ⟨b, o, e, _⟩ := hr 0 (.int .u8 x.toNat) rfl; cases e
    subst this
    rfl
  | some a =>
    have h := Lib.run_loadBytesX (P := P) (w := w) (l.map fun x => (x.toNat : Int)) a .empty (fun j x hj => by
      obtain ⟨y, hy, rfl⟩ : ∃ y, l[j]? = some y ∧ (y.toNat : Int) = x := by simpa using hj
      have hj' : (bc l)[j]? = some (.int .u8 (y.toNat : Int)) := by simp [bc, hy]
      obtain ⟨b, o, e, h2⟩ := hr j _ hj'
      injection e with e
      subst e
      rw [Addr.add_mid]
      exact h2)
    rw [List.length_map, bytes_back] at h
    show (Extern.Bytes.loadBytes a l.length .empty).run P w = _
    rw [h]
    simp
section
variable {P : Program} {n : Nat} {D : List Deferred} {E : Env} {L : List Fa}
theorem r_cmp {f : FuncId} [hf : TCmp P f] {x y : Operand} {ts : Array TypeId} {A B : Option Addr} {c c' : Nat} {a b : List UInt8} (hx : ev E x = some (.slice A a.length c)) (hy : ev E y = some (.slice B b.length c')) [hA : Rd1 L (.rd A (bc a))] [hB : Rd1 L (.rd B (bc b))] : Runs0 P n D E L (.call ⟨.value (.func f), #[x, y], ts⟩) (.int .i64 (Lib.compareBytes a b)) := fun act w ka s o ho => by
  have h1 := run_bytesOf_rd (P := P) (c := c) (hA.ok s).2.1
  have h2 := run_bytesOf_rd (P := P) (c := c') (hB.ok s).2.1
  have e0 : ev E (.func f) = some (.func (.func f) #[] #[]) := rfl
  unfold execOp
  simp only [ho, resolve, ka.ev e0, Deferred.ofValue, Sem.run_bind, Sem.run_pure, Result.andThen_ok, invoke]
  have e1 : (#[x, y].map act.eval) = #[.slice A a.length c, .slice B b.length c'] := by simp [ka.ev hx, ka.ev hy]
  rw [e1]
  show (callFunc f #[.slice A a.length c, .slice B b.length c']).run P w = _
  have e2 : (Extern.BytealgCompare.compare #[.slice A a.length c, .slice B b.length c']).run P w = .ok (.int .i64 (Lib.compareBytes a b)) w := by
    change Sem.run P (do pure (goInt (Extern.BytealgCompare.cmp (← Extern.Bytes.bytesOf (.slice A a.length c)) (← Extern.Bytes.bytesOf (.slice B b.length c'))))) w = _
    simp only [Sem.run_bind, h1, h2, Result.andThen_ok, Sem.run_pure, Lib.cmp_eq]
    rfl
  rw [hf.ok, e2]
  rfl
end
end Go.Proofs.YtgfkbeipckbkiaaGreatDoor
/- U69 -/
namespace Go.Proofs.YtgfkbeipckbkiaaGreatDoor
set_option linter.unusedSimpArgs false
set_option linter.unusedVariables false
open Go.RowKit
instance : TCmp Tryz.prog 173 := ⟨fun args w => run_callFunc_extern Tryz.func173 (by kernel_rfl) (by kernel_rfl) (by kernel_rfl) (by kernel_rfl) args w⟩
theorem compare_eq : ∀ (a b : List UInt8), a.length = b.length → Lib.compareBytes a b = cmpL a b
  | [], [], _ => rfl
  | [], _ :: _, h => by cases h
  | _ :: _, [], h => by cases h
  | x :: a, y :: b, h => by
    unfold Lib.compareBytes cmpL
    rw [compare_eq a b (by simpa using h)]
theorem bCompare_s (a b : List UInt8) (hab : a.length = b.length) (A B : Option Addr) (c c' : Nat) : Spec Tryz.prog 144 [.slice A a.length c, .slice B b.length c'].toArray [.rd A (bc a), .rd B (bc b)] [] (fun _ : Unit => .int .i64 (cmpL a b)) (fun _ => []) := by
  rw [← compare_eq a b hab]
  refine spec_of Tryz.func144 rfl (n := 8) rfl rfl ?_
  intro W
  refine h_seq ?_
  refine h_reg ?_
  refine h_op (r_assign rfl) ?_
  refine h_nil ?_
  refine q_then ?_
  refine h_seq ?_
  refine h_reg ?_
  refine h_op (r_move rfl) ?_
  refine h_op (r_move rfl) ?_
  refine h_op (r_cmp rfl rfl) ?_
  refine h_op (r_assign rfl) ?_
  refine h_nil ?_
  refine q_then ?_
  refine h_ret ?_
  exact h_ret1 rfl rfl fun w s => ⟨(), rfl, s.res (List.nil_sublist _) (by simp)⟩
theorem kCompare_s (a b : B32) : Spec Tryz.prog 101 [.agg a.cells.toArray, .agg b.cells.toArray].toArray [] [] (fun _ : Unit => .int .i64 (cmpB a b)) (fun _ => []) := by
  have ha := a.2
  have hb := b.2
  have hC := fun A B => bCompare_s a.1 b.1 (by omega) A B 32 32
  rw [ha, hb] at hC
  refine spec_of Tryz.func101 rfl (n := 8) rfl rfl ?_
  intro W
  refine h_seq ?_
  refine h_reg ?_
  refine h_opX (x_box rfl) fun g2 => ?_
  refine h_opX (x_box rfl) fun g3 => ?_
  refine h_op (r_assign rfl) ?_
  refine h_nil ?_
  refine q_then ?_
  refine h_seq ?_
  refine ha_start [.blk g2 a.cells 39, .blk g3 b.cells 39] [] mixed (same) ?_
  refine ha_takeP 0 rfl (r_slA rfl) ?_
  refine ha_takeP 1 rfl (r_slA rfl) ?_
  refine ha_one 2 ?_
  refine ho_C 2 rfl ((hC (some ⟨g2, 0, none⟩) (some ⟨g3, 0, none⟩)).comes (hr := inferInstanceAs (Rds _ [.rd (some ⟨g2, 0, none⟩) a.cells, .rd (some ⟨g3, 0, none⟩) b.cells]))) rfl rfl rfl (fun _ => same) fun _ => ?_
  refine ha_takeP 3 rfl (r_assign rfl) ?_
  refine ha_done (by kernel_rfl) ?_
  refine q_then ?_
  refine h_ret ?_
  exact h_ret1 rfl rfl fun w s => ⟨(), rfl, s.res (List.nil_sublist _) (by simp)⟩
/-- what is wrong with the order of keys -/
def chkK : List B32 → Int
  | a :: b :: l => if cmpB a b = 0 then 9 else if 0 < cmpB a b then 8 else chkK (b :: l)
  | _ => 0
def keysE (l : List B32) : Int := if l.length = 0 then 10 else if 65535 < l.length then 11 else chkK l
theorem kCheck_s (l : List B32) (A : Option Addr) (c : Nat) (hl : l.length ≤ 1000000000) : Spec Tryz.prog 58 [.slice A l.length c].toArray [.rd A (dgs l)] [] (fun _ : Unit => .int .i64 (chkK l)) (fun _ => []) := by
  refine spec_of Tryz.func58 rfl (n := 27) rfl rfl ?_
  intro W
  refine h_seq ?_
  refine h_reg ?_
  refine h_op (r_assign rfl) ?_
  refine h_nil ?_
  refine q_then ?_
  refine h_seq ?_
  refine h_seq ?_
  refine h_reg ?_
  refine h_op (r_assign rfl) ?_
  refine h_nil ?_
  refine q_then ?_
  refine h_block ?_
  refine h_loop (fun (k : Nat) => 1 ≤ k ∧ (k = 1 ∨ k ≤ l.length) ∧ chkK l = chkK (l.drop (k - 1))) (fun (k : Nat) => [(3, .int .i64 (k : Int)), (0, .slice A l.length c)]) (fun (k : Nat) => [.rd A (dgs l)]) (fun (k : Nat) => l.length - k) 1 (⟨Nat.le_refl _, .inl rfl, rfl⟩) ⟨rfl, rfl, trivial⟩ (same) ?_
  rintro k ⟨hk1, hk2, he⟩
  refine h_seq ?_
  refine h_seq ?_
  refine h_reg ?_
  refine h_op (r_move rfl) ?_
  refine h_op (r_move rfl) ?_
  refine h_op (r_len rfl) ?_
  refine h_op (r_lss rfl rfl) ?_
  refine h_nil ?_
  refine q_then ?_
  refine h_cond rfl (fun hlt => ?_) (fun hlt => ?_)
  · obtain ⟨j, rfl⟩ : ∃ j, k = j + 1 := ⟨k - 1, by omega⟩
    have hj : j + 1 < l.length := by omega
    have hd : l.drop j = l.getD j zB32 :: l.drop (j + 1) := by rw [List.drop_eq_getElem_cons (by omega), List.getD_eq_getElem?_getD, List.getElem?_eq_getElem (by omega)]; rfl
    have hd2 : l.drop (j + 1) = l.getD (j + 1) zB32 :: l.drop (j + 1 + 1) := by rw [List.drop_eq_getElem_cons hj, List.getD_eq_getElem?_getD, List.getElem?_eq_getElem hj]; rfl
    rw [Nat.add_sub_cancel, hd, hd2, chkK, ← hd2] at he
    refine h_pure (φ := ∃ b o, A = some ⟨b, o, none⟩) (fun w s => Rd.some (s.ok (.rd A (dgs l)) (by simp)) (by rw [dgs_len]; omega)) ?_
    rintro ⟨b, o, rfl⟩
    have h1 := dgs_at (l := l) (k := j) (by omega)
    have h2 := dgs_at (l := l) (k := j + 1) hj
    refine h_skip ?_
    refine q_then ?_
    refine h_seq ?_
    refine h_block ?_
    refine h_seq ?_
    refine ha_start [.rd (some ⟨b, o, none⟩) (dgs l)] [] mixed (same) ?_
    refine ha_takeP 0 rfl (r_move rfl) ?_
    refine ha_takeP 1 rfl (r_move rfl) ?_
    refine ha_takeP 2 rfl (r_subN rfl rfl (m := j) (hm := by omega)) ?_
    refine ha_takeP 3 rfl (r_idx rfl rfl) ?_
    refine ha_take 4 rfl (r_nthr rfl (out := (l.getD j zB32).cells) (B32.cells_length _) h1) ?_
    refine ha_takeP 5 rfl (r_move rfl) ?_
    refine ha_takeP 6 rfl (r_move rfl) ?_
    refine ha_takeP 7 rfl (r_idx rfl rfl) ?_
    refine ha_take 8 rfl (r_nthr rfl (out := (l.getD (j + 1) zB32).cells) (B32.cells_length _) h2) ?_
    refine ha_one 9 ?_
    refine ho_C 9 rfl ((kCompare_s (l.getD j zB32) (l.getD (j + 1) zB32)).comes) rfl rfl rfl (fun _ => same) fun _ => ?_
    refine ha_takeP 10 rfl (r_assign rfl) ?_
    refine ha_done (by kernel_rfl) ?_
    refine q_then ?_
    refine h_block ?_
    refine h_seq ?_
    refine h_reg ?_
    refine h_op (r_move rfl) ?_
    refine h_op (r_eql rfl rfl) ?_
    refine h_op (r_assign rfl) ?_
    refine h_nil ?_
    refine q_then ?_
    refine h_cond rfl (fun h3 => ?_) (fun h3 => ?_)
    · rw [if_pos h3] at he
      rw [he]
      refine h_seq ?_
      refine h_reg ?_
      refine h_op (r_assign rfl) ?_
      refine h_nil ?_
      refine q_then ?_
      refine h_ret ?_
      refine q_blockR ?_
      refine q_blockR ?_
      refine q_thenR ?_
      refine q_thenR ?_
      refine q_blockR ?_
      refine q_thenR ?_
      exact h_ret1 rfl rfl fun w s => ⟨(), rfl, s.res (List.nil_sublist _) (by simp)⟩
    · rw [if_neg h3] at he
      refine h_seq ?_
      refine h_reg ?_
      refine h_op (r_move rfl) ?_
      refine h_op (r_gtr rfl rfl) ?_
      refine h_op (r_assign rfl) ?_
      refine h_nil ?_
      refine q_then ?_
      refine h_cond rfl (fun h4 => ?_) (fun h4 => ?_)
      · rw [if_pos h4] at he
        rw [he]
        refine h_seq ?_
        refine h_reg ?_
        refine h_op (r_assign rfl) ?_
        refine h_nil ?_
        refine q_then ?_
        refine h_ret ?_
        refine q_blockR ?_
        refine q_blockR ?_
        refine q_thenR ?_
        refine q_thenR ?_
        refine q_blockR ?_
        refine q_thenR ?_
        exact h_ret1 rfl rfl fun w s => ⟨(), rfl, s.res (List.nil_sublist _) (by simp)⟩
      · rw [if_neg h4] at he
        refine h_skip ?_
        refine q_block ?_
        refine q_block ?_
        refine q_then ?_
        refine h_reg ?_
        refine h_op (r_move rfl) ?_
        refine h_op (r_add rfl rfl) ?_
        refine h_op (r_assign rfl) ?_
        refine h_nil ?_
        exact h_back (j + 1 + 1) (⟨by omega, .inr (by omega), he⟩) (by omega) ⟨rfl, rfl, trivial⟩ (same)
  · have h0 : chkK l = 0 := by
      rw [he]
      have hlen : (l.drop (k - 1)).length ≤ 1 := by rw [List.length_drop]; omega
      match l.drop (k - 1), hlen with
      | [], _ => rfl
      | [_], _ => rfl
      | _ :: _ :: _, h => simp at h
    rw [h0]
    refine h_exit ?_
    refine q_thenE ?_
    refine q_thenE ?_
    refine q_blockE ?_
    refine q_then ?_
    refine h_seq ?_
    refine h_reg ?_
    refine h_op (r_assign rfl) ?_
    refine h_nil ?_
    refine q_then ?_
    refine h_ret ?_
    exact h_ret1 rfl rfl fun w s => ⟨(), rfl, s.res (List.nil_sublist _) (by simp)⟩
theorem rkCheck_s (l : List B32) (A : Option Addr) (c : Nat) (hl : l.length ≤ 1000000000) : Spec Tryz.prog 57 [.slice A l.length c].toArray [.rd A (dgs l)] [] (fun _ : Unit => .int .i64 (chkK l)) (fun _ => []) := by
  refine spec_of Tryz.func57 rfl (n := 25) rfl rfl ?_
  intro W
  refine h_seq ?_
  refine h_reg ?_
  refine h_op (r_assign rfl) ?_
  refine h_nil ?_
  refine q_then ?_
  refine h_seq ?_
  refine h_seq ?_
  refine h_reg ?_
  refine h_op (r_assign rfl) ?_
  refine h_nil ?_
  refine q_then ?_
  refine h_block ?_
  refine h_loop (fun (k : Nat) => 1 ≤ k ∧ (k = 1 ∨ k ≤ l.length) ∧ chkK l = chkK (l.drop (k - 1))) (fun (k : Nat) => [(3, .int .i64 (k : Int)), (0, .slice A l.length c)]) (fun (k : Nat) => [.rd A (dgs l)]) (fun (k : Nat) => l.length - k) 1 (⟨Nat.le_refl _, .inl rfl, rfl⟩) ⟨rfl, rfl, trivial⟩ (same) ?_
  rintro k ⟨hk1, hk2, he⟩
  refine h_seq ?_
  refine h_seq ?_
  refine h_reg ?_
  refine h_op (r_move rfl) ?_
  refine h_op (r_move rfl) ?_
  refine h_op (r_len rfl) ?_
  refine h_op (r_lss rfl rfl) ?_
  refine h_nil ?_
  refine q_then ?_
  refine h_cond rfl (fun hlt => ?_) (fun hlt => ?_)
  · obtain ⟨j, rfl⟩ : ∃ j, k = j + 1 := ⟨k - 1, by omega⟩
    have hj : j + 1 < l.length := by omega
    have hd : l.drop j = l.getD j zB32 :: l.drop (j + 1) := by rw [List.drop_eq_getElem_cons (by omega), List.getD_eq_getElem?_getD, List.getElem?_eq_getElem (by omega)]; rfl
    have hd2 : l.drop (j + 1) = l.getD (j + 1) zB32 :: l.drop (j + 1 + 1) := by rw [List.drop_eq_getElem_cons hj, List.getD_eq_getElem?_getD, List.getElem?_eq_getElem hj]; rfl
    rw [Nat.add_sub_cancel, hd, hd2, chkK, ← hd2] at he
    refine h_pure (φ := ∃ b o, A = some ⟨b, o, none⟩) (fun w s => Rd.some (s.ok (.rd A (dgs l)) (by simp)) (by rw [dgs_len]; omega)) ?_
    rintro ⟨b, o, rfl⟩
    have h1 := dgs_at (l := l) (k := j) (by omega)
    have h2 := dgs_at (l := l) (k := j + 1) hj
    refine h_skip ?_
    refine q_then ?_
    refine h_seq ?_
    refine h_block ?_
    refine h_seq ?_
    refine ha_start [.rd (some ⟨b, o, none⟩) (dgs l)] [] mixed (same) ?_
    refine ha_takeP 0 rfl (r_move rfl) ?_
    refine ha_takeP 1 rfl (r_move rfl) ?_
    refine ha_takeP 2 rfl (r_subN rfl rfl (m := j) (hm := by omega)) ?_
    refine ha_takeP 3 rfl (r_idx rfl rfl) ?_
    refine ha_take 4 rfl (r_nthr rfl (out := (l.getD j zB32).cells) (B32.cells_length _) h1) ?_
    refine ha_takeP 5 rfl (r_move rfl) ?_
    refine ha_takeP 6 rfl (r_move rfl) ?_
    refine ha_takeP 7 rfl (r_idx rfl rfl) ?_
    refine ha_take 8 rfl (r_nthr rfl (out := (l.getD (j + 1) zB32).cells) (B32.cells_length _) h2) ?_
    refine ha_one 9 ?_
    refine ho_C 9 rfl ((Compare_s (l.getD j zB32) (l.getD (j + 1) zB32)).comes) rfl rfl rfl (fun _ => same) fun _ => ?_
    refine ha_takeP 10 rfl (r_assign rfl) ?_
    refine ha_done (by kernel_rfl) ?_
    refine q_then ?_
    refine h_seq ?_
    refine h_seq ?_
    refine h_reg ?_
    refine h_op (r_move rfl) ?_
    refine h_op (r_eql rfl rfl) ?_
    refine h_nil ?_
    refine q_then ?_
    refine h_cond rfl (fun h3 => ?_) (fun h3 => ?_)
    · rw [if_pos h3] at he
      rw [he]
      refine h_seq ?_
      refine h_reg ?_
      refine h_op (r_assign rfl) ?_
      refine h_nil ?_
      refine q_then ?_
      refine h_ret ?_
      refine q_thenR ?_
      refine q_blockR ?_
      refine q_thenR ?_
      refine q_thenR ?_
      refine q_blockR ?_
      refine q_thenR ?_
      exact h_ret1 rfl rfl fun w s => ⟨(), rfl, s.res (List.nil_sublist _) (by simp)⟩
    · rw [if_neg h3] at he
      refine h_skip ?_
      refine q_then ?_
      refine h_seq ?_
      refine h_reg ?_
      refine h_op (r_move rfl) ?_
      refine h_op (r_gtr rfl rfl) ?_
      refine h_nil ?_
      refine q_then ?_
      refine h_cond rfl (fun h4 => ?_) (fun h4 => ?_)
      · rw [if_pos h4] at he
        rw [he]
        refine h_seq ?_
        refine h_reg ?_
        refine h_op (r_assign rfl) ?_
        refine h_nil ?_
        refine q_then ?_
        refine h_ret ?_
        refine q_blockR ?_
        refine q_thenR ?_
        refine q_thenR ?_
        refine q_blockR ?_
        refine q_thenR ?_
        exact h_ret1 rfl rfl fun w s => ⟨(), rfl, s.res (List.nil_sublist _) (by simp)⟩
      · rw [if_neg h4] at he
        refine h_skip ?_
        refine q_block ?_
        refine q_then ?_
        refine h_reg ?_
        refine h_op (r_move rfl) ?_
        refine h_op (r_add rfl rfl) ?_
        refine h_op (r_assign rfl) ?_
        refine h_nil ?_
        exact h_back (j + 1 + 1) (⟨by omega, .inr (by omega), he⟩) (by omega) ⟨rfl, rfl, trivial⟩ (same)
  · have h0 : chkK l = 0 := by
      rw [he]
      have hlen : (l.drop (k - 1)).length ≤ 1 := by rw [List.length_drop]; omega
      match l.drop (k - 1), hlen with
      | [], _ => rfl
      | [_], _ => rfl
      | _ :: _ :: _, h => simp at h
    rw [h0]
    refine h_exit ?_
    refine q_thenE ?_
    refine q_thenE ?_
    refine q_blockE ?_
    refine q_then ?_
    refine h_seq ?_
    refine h_reg ?_
    refine h_op (r_assign rfl) ?_
    refine h_nil ?_
    refine q_then ?_
    refine h_ret ?_
    exact h_ret1 rfl rfl fun w s => ⟨(), rfl, s.res (List.nil_sublist _) (by simp)⟩
theorem mKeys_s (l : List B32) (A : Option Addr) (c : Nat) (hl : l.length ≤ 9223372036854775807) : Spec Tryz.prog 17 [.slice A l.length c].toArray [.rd A (dgs l)] [] (fun _ : Unit => .int .i64 (keysE l)) (fun _ => []) := by
  unfold keysE
  refine spec_of Tryz.func17 rfl (n := 13) rfl rfl ?_
  intro W
  by_cases h0 : l.length = 0
  · rw [if_pos h0]
    refine h_seq ?_
    refine h_reg ?_
    refine h_op (r_assign rfl) ?_
    refine h_nil ?_
    refine q_then ?_
    refine h_seq ?_
    refine h_block ?_
    refine h_seq ?_
    refine h_reg ?_
    refine h_op (r_move rfl) ?_
    refine h_op (r_len rfl) ?_
    refine h_op (r_bool (r_eql rfl rfl) (decide_eq_true (by omega))) ?_
    refine h_op (r_assign rfl) ?_
    refine h_nil ?_
    refine q_then ?_
    refine h_condT rfl ?_
    refine h_seq ?_
    refine h_reg ?_
    refine h_op (r_assign rfl) ?_
    refine h_nil ?_
    refine q_then ?_
    refine h_ret ?_
    refine q_blockR ?_
    refine q_thenR ?_
    exact h_ret1 rfl rfl fun w s => ⟨(), rfl, s.res (List.nil_sublist _) (by simp)⟩
  · rw [if_neg h0]
    refine h_seq ?_
    refine h_reg ?_
    refine h_op (r_assign rfl) ?_
    refine h_nil ?_
    refine q_then ?_
    refine h_seq ?_
    refine h_block ?_
    refine h_seq ?_
    refine h_reg ?_
    refine h_op (r_move rfl) ?_
    refine h_op (r_len rfl) ?_
    refine h_op (r_bool (r_eql rfl rfl) (decide_eq_false (by omega))) ?_
    refine h_op (r_assign rfl) ?_
    refine h_nil ?_
    refine q_then ?_
    refine h_condF rfl ?_
    by_cases h1 : 65535 < l.length
    · rw [if_pos h1]
      refine h_seq ?_
      refine h_reg ?_
      refine h_op (r_move rfl) ?_
      refine h_op (r_len rfl) ?_
      refine h_op (r_bool (r_gtr rfl rfl) (decide_eq_true (by omega))) ?_
      refine h_op (r_assign rfl) ?_
      refine h_nil ?_
      refine q_then ?_
      refine h_condT rfl ?_
      refine h_seq ?_
      refine h_reg ?_
      refine h_op (r_assign rfl) ?_
      refine h_nil ?_
      refine q_then ?_
      refine h_ret ?_
      refine q_blockR ?_
      refine q_thenR ?_
      exact h_ret1 rfl rfl fun w s => ⟨(), rfl, s.res (List.nil_sublist _) (by simp)⟩
    · rw [if_neg h1]
      refine h_seq ?_
      refine h_reg ?_
      refine h_op (r_move rfl) ?_
      refine h_op (r_len rfl) ?_
      refine h_op (r_bool (r_gtr rfl rfl) (decide_eq_false (by omega))) ?_
      refine h_op (r_assign rfl) ?_
      refine h_nil ?_
      refine q_then ?_
      refine h_condF rfl ?_
      refine h_skip ?_
      refine q_block ?_
      refine q_then ?_
      refine h_seq ?_
      refine h_reg ?_
      refine h_op (r_move rfl) ?_
      refine h_call ((kCheck_s l A c (by omega)).comes) rfl rfl rfl fun _ => ?_
      refine h_op (r_assign rfl) ?_
      refine h_nil ?_
      refine q_then ?_
      refine h_ret ?_
      exact h_ret1 rfl rfl fun w s => ⟨(), rfl, s.res (List.nil_sublist _) (by simp)⟩
theorem rKeys_s (l : List B32) (A : Option Addr) (c : Nat) (hl : l.length ≤ 9223372036854775807) : Spec Tryz.prog 16 [.slice A l.length c].toArray [.rd A (dgs l)] [] (fun _ : Unit => .int .i64 (keysE l)) (fun _ => []) := by
  unfold keysE
  refine spec_of Tryz.func16 rfl (n := 11) rfl rfl ?_
  intro W
  by_cases h0 : l.length = 0
  · rw [if_pos h0]
    refine h_seq ?_
    refine h_reg ?_
    refine h_op (r_assign rfl) ?_
    refine h_nil ?_
    refine q_then ?_
    refine h_seq ?_
    refine h_seq ?_
    refine h_reg ?_
    refine h_op (r_move rfl) ?_
    refine h_op (r_len rfl) ?_
    refine h_op (r_bool (r_eql rfl rfl) (decide_eq_true (by omega))) ?_
    refine h_nil ?_
    refine q_then ?_
    refine h_condT rfl ?_
    refine h_seq ?_
    refine h_reg ?_
    refine h_op (r_assign rfl) ?_
    refine h_nil ?_
    refine q_then ?_
    refine h_ret ?_
    refine q_thenR ?_
    exact h_ret1 rfl rfl fun w s => ⟨(), rfl, s.res (List.nil_sublist _) (by simp)⟩
  · rw [if_neg h0]
    refine h_seq ?_
    refine h_reg ?_
    refine h_op (r_assign rfl) ?_
    refine h_nil ?_
    refine q_then ?_
    refine h_seq ?_
    refine h_seq ?_
    refine h_reg ?_
    refine h_op (r_move rfl) ?_
    refine h_op (r_len rfl) ?_
    refine h_op (r_bool (r_eql rfl rfl) (decide_eq_false (by omega))) ?_
    refine h_nil ?_
    refine q_then ?_
    refine h_condF rfl ?_
    by_cases h1 : 65535 < l.length
    · rw [if_pos h1]
      refine h_skip ?_
      refine q_then ?_
      refine h_seq ?_
      refine h_seq ?_
      refine h_reg ?_
      refine h_op (r_move rfl) ?_
      refine h_op (r_len rfl) ?_
      refine h_op (r_bool (r_gtr rfl rfl) (decide_eq_true (by omega))) ?_
      refine h_nil ?_
      refine q_then ?_
      refine h_condT rfl ?_
      refine h_seq ?_
      refine h_reg ?_
      refine h_op (r_assign rfl) ?_
      refine h_nil ?_
      refine q_then ?_
      refine h_ret ?_
      refine q_thenR ?_
      exact h_ret1 rfl rfl fun w s => ⟨(), rfl, s.res (List.nil_sublist _) (by simp)⟩
    · rw [if_neg h1]
      refine h_skip ?_
      refine q_then ?_
      refine h_seq ?_
      refine h_seq ?_
      refine h_reg ?_
      refine h_op (r_move rfl) ?_
      refine h_op (r_len rfl) ?_
      refine h_op (r_bool (r_gtr rfl rfl) (decide_eq_false (by omega))) ?_
      refine h_nil ?_
      refine q_then ?_
      refine h_condF rfl ?_
      refine h_skip ?_
      refine q_then ?_
      refine h_seq ?_
      refine h_reg ?_
      refine h_op (r_move rfl) ?_
      refine h_call ((rkCheck_s l A c (by omega)).comes) rfl rfl rfl fun _ => ?_
      refine h_op (r_assign rfl) ?_
      refine h_nil ?_
      refine q_then ?_
      refine h_ret ?_
      exact h_ret1 rfl rfl fun w s => ⟨(), rfl, s.res (List.nil_sublist _) (by simp)⟩
end Go.Proofs.YtgfkbeipckbkiaaGreatDoor
/- U70 -/
namespace Go.Proofs.YtgfkbeipckbkiaaGreatDoor
set_option linter.unusedSimpArgs false
set_option linter.unusedVariables false
open Go.RowKit
theorem splitF_s (l : List B32) (A : Option Addr) (c i j g2 g3 : Nat) (hj : j < l.length) (hi : i < 256) : Spec Tryz.prog 141 [.int .i64 (j : Int), .pointer (some ⟨g2, 0, none⟩), .pointer (some ⟨g3, 0, none⟩)].toArray [.rd (some ⟨g2, 0, none⟩) [.slice A l.length c], .rd (some ⟨g3, 0, none⟩) [.int .i64 (i : Int)], .rd A (dgs l)] [] (fun _ : Unit => .bool (bitAt (l.getD j zB32) i)) (fun _ => []) := by
  have h1 := dgs_at hj
  refine spec_of Tryz.func141 rfl (n := 12) rfl rfl ?_
  intro W
  refine h_pure (φ := ∃ b o, A = some ⟨b, o, none⟩) (fun w s => Rd.some (s.ok (.rd A (dgs l)) (by simp)) (by rw [dgs_len]; omega)) ?_
  rintro ⟨b, o, rfl⟩
  refine h_seq ?_
  refine h_reg ?_
  refine h_op (r_assign rfl) ?_
  refine h_nil ?_
  refine q_then ?_
  refine h_seq ?_
  refine ha_start [.rd (some ⟨g2, 0, none⟩) [.slice (some ⟨b, o, none⟩) l.length c], .rd (some ⟨g3, 0, none⟩) [.int .i64 (i : Int)], .rd (some ⟨b, o, none⟩) (dgs l)] [] mixed (same) ?_
  refine ha_take 0 rfl (r_loadc rfl) ?_
  refine ha_takeP 1 rfl (r_move rfl) ?_
  refine ha_takeP 2 rfl (r_idx rfl rfl) ?_
  refine ha_take 3 rfl (r_nthr rfl (out := (l.getD j zB32).cells) (B32.cells_length _) h1) ?_
  refine ha_take 4 rfl (r_loadc rfl) ?_
  refine ha_one 5 ?_
  refine ho_C 5 rfl ((Bit_s (l.getD j zB32) i hi).comes) rfl rfl rfl (fun _ => same) fun _ => ?_
  refine ha_takeP 6 rfl (r_bool (r_eql rfl rfl) (bitN_one (l.getD j zB32) i)) ?_
  refine ha_takeP 7 rfl (r_assign rfl) ?_
  refine ha_done (by kernel_rfl) ?_
  refine q_then ?_
  refine h_ret ?_
  exact h_ret1 rfl rfl fun w s => ⟨(), rfl, s.res (List.nil_sublist _) (by simp)⟩
theorem half (a : Nat) (h : a < 18446744073709551616) : (((BitVec.ofNat 64 a) >>> 1).toNat : Int) = ((a / 2 : Nat) : Int) := by
  rw [BitVec.toNat_ushiftRight, BitVec.toNat_ofNat, Nat.mod_eq_of_lt (by omega), Nat.shiftRight_eq_div_pow]
theorem Search_s (l : List B32) (A : Option Addr) (c i g2 g3 m : Nat) (hi : i < 256) (hl : l.length ≤ 1000000) (hm : m ≤ l.length) (hp : ∀ j, j < l.length → bitAt (l.getD j zB32) i = decide (m ≤ j)) : Spec Tryz.prog 140 [.int .i64 (l.length : Int), .func (.func 141) #[] [.pointer (some ⟨g2, 0, none⟩), .pointer (some ⟨g3, 0, none⟩)].toArray].toArray [.rd (some ⟨g2, 0, none⟩) [.slice A l.length c], .rd (some ⟨g3, 0, none⟩) [.int .i64 (i : Int)], .rd A (dgs l)] [] (fun _ : Unit => .int .i64 (m : Int)) (fun _ => []) := by
  refine spec_of Tryz.func140 rfl (n := 26) rfl rfl ?_
  intro W
  refine h_seq ?_
  refine h_reg ?_
  refine h_op (r_assign rfl) ?_
  refine h_nil ?_
  refine q_then ?_
  refine h_seq ?_
  refine h_reg ?_
  refine h_op (r_move rfl) ?_
  refine h_op (r_assign rfl) ?_
  refine h_op (r_assign rfl) ?_
  refine h_nil ?_
  refine q_then ?_
  refine h_seq ?_
  refine h_block ?_
  refine h_loop (fun (s : Nat × Nat) => s.1 ≤ m ∧ m ≤ s.2 ∧ s.2 ≤ l.length) (fun (s : Nat × Nat) => [(5, .int .i64 (s.1 : Int)), (6, .int .i64 (s.2 : Int)), (1, .func (.func 141) #[] [.pointer (some ⟨g2, 0, none⟩), .pointer (some ⟨g3, 0, none⟩)].toArray)]) (fun (s : Nat × Nat) => [.rd (some ⟨g2, 0, none⟩) [.slice A l.length c], .rd (some ⟨g3, 0, none⟩) [.int .i64 (i : Int)], .rd A (dgs l)]) (fun (s : Nat × Nat) => s.2 - s.1) (0, l.length) (⟨Nat.zero_le _, hm, Nat.le_refl _⟩) ⟨rfl, rfl, rfl, trivial⟩ (same) ?_
  rintro ⟨a, b⟩ ⟨h1, h2, h3⟩
  dsimp only at h1 h2 h3 ⊢
  refine h_seq ?_
  refine h_seq ?_
  refine h_reg ?_
  refine h_op (r_move rfl) ?_
  refine h_op (r_move rfl) ?_
  refine h_op (r_lss rfl rfl) ?_
  refine h_nil ?_
  refine q_then ?_
  refine h_cond rfl (fun hlt => ?_) (fun hlt => ?_)
  · have hh : (a + b) / 2 < l.length := by omega
    have hb := splitF_s l A c i ((a + b) / 2) g2 g3 hh hi
    rw [hp _ hh] at hb
    refine h_skip ?_
    refine q_then ?_
    refine h_block ?_
    refine h_seq ?_
    refine h_reg ?_
    refine h_op (r_move rfl) ?_
    refine h_op (r_move rfl) ?_
    refine h_op (r_int (r_add rfl rfl) (show _ = ((a + b : Nat) : Int) by omega)) ?_
    refine h_op (r_cNW rfl) ?_
    refine h_op (r_int (r_shr rfl rfl) (half (a + b) (by omega))) ?_
    refine h_op (r_cN rfl (IntWalk.i64_in _ (by omega))) ?_
    refine h_op (r_assign rfl) ?_
    refine h_nil ?_
    refine q_then ?_
    refine h_seq ?_
    refine h_reg ?_
    refine h_op (r_move rfl) ?_
    refine h_op (r_move rfl) ?_
    by_cases hc : m ≤ (a + b) / 2
    · rw [decide_eq_true hc] at hb
      refine h_call (hb.comes) rfl rfl rfl fun _ => ?_
      refine h_op (r_not rfl) ?_
      refine h_nil ?_
      refine q_then ?_
      refine h_condF rfl ?_
      refine h_reg ?_
      refine h_op (r_move rfl) ?_
      refine h_op (r_assign rfl) ?_
      refine h_nil ?_
      refine q_block ?_
      exact h_back (a, (a + b) / 2) (⟨h1, hc, by dsimp only; omega⟩) ((show (a + b) / 2 - a < b - a by omega)) ⟨rfl, rfl, rfl, trivial⟩ (same)
    · rw [decide_eq_false hc] at hb
      refine h_call (hb.comes) rfl rfl rfl fun _ => ?_
      refine h_op (r_not rfl) ?_
      refine h_nil ?_
      refine q_then ?_
      refine h_condT rfl ?_
      refine h_reg ?_
      refine h_op (r_move rfl) ?_
      refine h_op (r_add rfl rfl) ?_
      refine h_op (r_assign rfl) ?_
      refine h_nil ?_
      refine q_block ?_
      exact h_back ((a + b) / 2 + 1, b) (⟨by dsimp only; omega, h2, h3⟩) ((show b - ((a + b) / 2 + 1) < b - a by omega)) ⟨aI rfl (by omega), rfl, rfl, trivial⟩ (same)
  · obtain rfl : a = m := by omega
    refine h_exit ?_
    refine q_thenE ?_
    refine q_thenE ?_
    refine q_blockE ?_
    refine q_then ?_
    refine h_seq ?_
    refine h_reg ?_
    refine h_op (r_move rfl) ?_
    refine h_op (r_assign rfl) ?_
    refine h_nil ?_
    refine q_then ?_
    refine h_ret ?_
    exact h_ret1 rfl rfl fun w s => ⟨(), rfl, s.res (List.nil_sublist _) (by simp)⟩
theorem Split_s (l : List B32) (A : Option Addr) (c i m : Nat) (hi : i < 256) (hl : l.length ≤ 1000000) (hm : m ≤ l.length) (hp : ∀ j, j < l.length → bitAt (l.getD j zB32) i = decide (m ≤ j)) : Spec Tryz.prog 98 [.slice A l.length c, .int .i64 (i : Int)].toArray [.rd A (dgs l)] [] (fun _ : Unit => .int .i64 (m : Int)) (fun _ => []) := by
  refine spec_of Tryz.func98 rfl (n := 9) rfl rfl ?_
  intro W
  refine h_seq ?_
  refine h_reg ?_
  refine h_opX (x_box1 rfl) fun g2 => ?_
  refine h_opX (x_box1 rfl) fun g3 => ?_
  refine h_op (r_assign rfl) ?_
  refine h_nil ?_
  refine q_then ?_
  refine h_seq ?_
  refine h_reg ?_
  refine h_op (r_loadc rfl) ?_
  refine h_op (r_len rfl) ?_
  refine h_op (r_func rfl rfl) ?_
  refine h_call ((Search_s l A c i g2 g3 m hi hl hm hp).comes) rfl rfl rfl fun _ => ?_
  refine h_op (r_assign rfl) ?_
  refine h_nil ?_
  refine q_then ?_
  refine h_ret ?_
  exact h_ret1 rfl rfl fun w s => ⟨(), rfl, s.res (List.nil_sublist _) (by simp)⟩
end Go.Proofs.YtgfkbeipckbkiaaGreatDoor
/- E15 -/
namespace Go.Proofs.YtgfkbeipckbkiaaGreatDoor
set_option linter.unusedSimpArgs false
set_option linter.unusedVariables false
open Go.RowKit
theorem byte_lt_bits (x y : UInt8) (h : x < y) : ∃ j, j < 8 ∧ (∀ i, i < j → bbit x i = bbit y i) ∧ bbit x j = false ∧ bbit y j = true := by
  have key : ∀ n m : Fin 256, n.val < m.val → ((List.range 8).any fun j => ((List.range j).all fun i => bbit (UInt8.ofNat n.val) i == bbit (UInt8.ofNat m.val) i) && !bbit (UInt8.ofNat n.val) j && bbit (UInt8.ofNat m.val) j) = true := by decide +kernel
  have h2 := key ⟨x.toNat, x.toNat_lt⟩ ⟨y.toNat, y.toNat_lt⟩ (UInt8.lt_iff_toNat_lt.1 h)
  simp only [UInt8.ofNat_toNat, List.any_eq_true, List.mem_range, Bool.and_eq_true, List.all_eq_true, beq_iff_eq, Bool.not_eq_true'] at h2
  obtain ⟨j, hj, ⟨h3, h4⟩, h5⟩ := h2
  exact ⟨j, hj, h3, h4, h5⟩
theorem cmpL_lt : ∀ (a b : List UInt8), cmpL a b < 0 → ∃ k, k < a.length ∧ k < b.length ∧ (∀ i, i < k → a.getD i 0 = b.getD i 0) ∧ a.getD k 0 < b.getD k 0
  | [], b, h => by unfold cmpL at h; omega
  | x :: a, [], h => by unfold cmpL at h; omega
  | x :: a, y :: b, h => by
    unfold cmpL at h
    by_cases h1 : x < y
    · exact ⟨0, by simp, by simp, fun i hi => by omega, by simpa using h1⟩
    · rw [if_neg h1] at h
      by_cases h2 : y < x
      · rw [if_pos h2] at h; omega
      · rw [if_neg h2] at h
        obtain ⟨k, k1, k2, k3, k4⟩ := cmpL_lt a b h
        have e : x = y := UInt8.le_antisymm (UInt8.not_lt.1 h2) (UInt8.not_lt.1 h1)
        refine ⟨k + 1, by simp; omega, by simp; omega, fun i hi => ?_, by simpa using k4⟩
        cases i with
        | zero => simpa using e
        | succ i => simpa using k3 i (by omega)
theorem cmpB_bits {a b : B32} (h : cmpB a b < 0) : ∃ i, i < 256 ∧ (∀ j, j < i → bitAt a j = bitAt b j) ∧ bitAt a i = false ∧ bitAt b i = true := by
  obtain ⟨k, k1, _, k3, k4⟩ := cmpL_lt a.1 b.1 h
  obtain ⟨j, hj, h1, h2, h3⟩ := byte_lt_bits _ _ k4
  have ha := a.2
  refine ⟨8 * k + j, by omega, fun i hi => ?_, ?_, ?_⟩
  · unfold bitAt
    by_cases hk : i / 8 < k
    · rw [k3 _ hk]
    · have e : i / 8 = k := by omega
      rw [e]
      exact h1 _ (by omega)
  · unfold bitAt
    rw [show (8 * k + j) / 8 = k by omega, show (8 * k + j) % 8 = j by omega]
    exact h2
  · unfold bitAt
    rw [show (8 * k + j) / 8 = k by omega, show (8 * k + j) % 8 = j by omega]
    exact h3
end Go.Proofs.YtgfkbeipckbkiaaGreatDoor
/- E16 -/
namespace Go.Proofs.YtgfkbeipckbkiaaGreatDoor
set_option linter.unusedSimpArgs false
set_option linter.unusedVariables false
open Go.RowKit
/-- ahead of another key -/
def ltK (a b : B32) : Prop := ∃ i, i < 256 ∧ (∀ j, j < i → bitAt a j = bitAt b j) ∧ bitAt a i = false ∧ bitAt b i = true
theorem ltK_trans {a b c : B32} (h : ltK a b) (h' : ltK b c) : ltK a c := by
  obtain ⟨i, i1, i2, i3, i4⟩ := h
  obtain ⟨j, j1, j2, j3, j4⟩ := h'
  rcases Nat.lt_trichotomy i j with hij | rfl | hij
  · exact ⟨i, i1, fun k hk => (i2 k hk).trans (j2 k (by omega)), i3, (j2 i hij) ▸ i4⟩
  · rw [i4] at j3; cases j3
  · exact ⟨j, j1, fun k hk => (i2 k (by omega)).trans (j2 k hk), (i2 j hij).trans j3, j4⟩
def AlikeK (l : List B32) (d : Nat) : Prop := ∀ a ∈ l, ∀ b ∈ l, ∀ i, i < d → bitAt a i = bitAt b i
theorem ltK_bit {a b : B32} {d : Nat} (h : ltK a b) (ha : ∀ i, i < d → bitAt a i = bitAt b i) (hb : bitAt a d = true) : bitAt b d = true := by
  obtain ⟨i, i1, i2, i3, i4⟩ := h
  rcases Nat.lt_trichotomy i d with hid | rfl | hid
  · rw [ha i hid, i4] at i3; cases i3
  · rw [hb] at i3; cases i3
  · rw [← i2 d hid]; exact hb
theorem split_at : ∀ {l : List B32} {d : Nat}, l.Pairwise ltK → AlikeK l d → ∃ m, m ≤ l.length ∧ (∀ j, j < l.length → bitAt (l.getD j zB32) d = decide (m ≤ j)) ∧ l.take m = l.filter (fun k => bitAt k d == false) ∧ l.drop m = l.filter (fun k => bitAt k d == true)
  | [], _, _, _ => ⟨0, Nat.le_refl _, fun j hj => by simp at hj, rfl, rfl⟩
  | a :: l, d, ho, ha => by
    obtain ⟨h1, h2⟩ := List.pairwise_cons.1 ho
    have hal : AlikeK l d := fun x hx y hy => ha x (List.mem_cons_of_mem _ hx) y (List.mem_cons_of_mem _ hy)
    cases hb : bitAt a d
    · obtain ⟨m, m1, m2, m3, m4⟩ := split_at h2 hal
      refine ⟨m + 1, by simp; omega, fun j hj => ?_, ?_, ?_⟩
      · cases j with
        | zero => simpa using hb
        | succ j =>
          have := m2 j (by simpa using hj)
          rw [List.getD_cons_succ, this]
          exact decide_eq_decide.2 ⟨fun h => by omega, fun h => by omega⟩
      · rw [List.take_succ_cons, m3, List.filter_cons_of_pos (by simp [hb])]
      · rw [List.drop_succ_cons, m4, List.filter_cons_of_neg (by simp [hb])]
    · have hall : ∀ x ∈ l, bitAt x d = true := fun x hx => ltK_bit (h1 x hx) (ha a (List.mem_cons_self ..) x (List.mem_cons_of_mem _ hx)) hb
      refine ⟨0, Nat.zero_le _, fun j hj => ?_, ?_, ?_⟩
      · cases j with
        | zero => simpa using hb
        | succ j =>
          have hj' : j < l.length := by simpa using hj
          rw [List.getD_cons_succ, List.getD_eq_getElem?_getD, List.getElem?_eq_getElem hj', Option.getD_some, hall _ (List.getElem_mem hj')]
          simp
      · rw [List.take_zero, List.filter_cons_of_neg (by simp [hb])]
        symm
        rw [List.filter_eq_nil_iff]
        intro x hx
        simp [hall x hx]
      · rw [List.drop_zero, List.filter_cons_of_pos (by simp [hb])]
        congr 1
        symm
        rw [List.filter_eq_self]
        intro x hx
        simp [hall x hx]
end Go.Proofs.YtgfkbeipckbkiaaGreatDoor
/- E17 -/
namespace Go.Proofs.YtgfkbeipckbkiaaGreatDoor
set_option linter.unusedSimpArgs false
set_option linter.unusedVariables false
open Go.RowKit
/-- the keys with a bit -/
def keysB (ks : List B32) (d : Nat) (b : Bool) : List B32 := ks.filter fun k => bitAt k d == b
/-- what add appends -/
def addT (n : Nat) : Tr → List B32 → Nat → List Item
  | .nil, _, _ => [⟨0, zB32, zLeaf⟩]
  | t, [], _ => [⟨3, dgT n t, zLeaf⟩]
  | .leaf k v, _, _ => [⟨1, zB32, leafOf n k v⟩]
  | .node l r, ks, d => ⟨2, zB32, zLeaf⟩ :: (addT n l (keysB ks d false) (d + 1) ++ addT n r (keysB ks d true) (d + 1))
theorem keysB_alike {ks : List B32} {d : Nat} (h : AlikeK ks d) (b : Bool) : AlikeK (keysB ks d b) (d + 1) := fun x hx y hy i hi => by
  have hx' := List.mem_filter.1 hx
  have hy' := List.mem_filter.1 hy
  rcases Nat.lt_or_ge i d with h1 | h1
  · exact h x hx'.1 y hy'.1 i h1
  · obtain rfl : i = d := by omega
    have e1 : bitAt x i = b := by simpa using hx'.2
    have e2 : bitAt y i = b := by simpa using hy'.2
    rw [e1, e2]
theorem keysB_ord {ks : List B32} {d : Nat} (h : ks.Pairwise ltK) (b : Bool) : (keysB ks d b).Pairwise ltK := h.filter _
end Go.Proofs.YtgfkbeipckbkiaaGreatDoor
/- U71 -/
namespace Go.Proofs.YtgfkbeipckbkiaaGreatDoor
set_option linter.unusedSimpArgs false
set_option linter.unusedVariables false
open Go.RowKit
def Tr.ht : Tr → Nat
  | .node l r => max l.ht r.ht + 1
  | _ => 0
def Tr.sz : Tr → Nat
  | .node l r => l.sz + r.sz + 1
  | _ => 1
theorem addT_len (n : Nat) : ∀ (t : Tr) (ks : List B32) (d : Nat), (addT n t ks d).length ≤ t.sz
  | .nil, ks, d => by unfold addT; exact Nat.le_refl _
  | .leaf k v, ks, d => by cases ks <;> (unfold addT; exact Nat.le_refl _)
  | .node l r, [], d => by unfold addT; show 1 ≤ l.sz + r.sz + 1; omega
  | .node l r, x :: ks, d => by
    unfold addT
    have h1 := addT_len n l (keysB (x :: ks) d false) (d + 1)
    have h2 := addT_len n r (keysB (x :: ks) d true) (d + 1)
    show ((addT n l _ _ ++ addT n r _ _).length + 1) ≤ l.sz + r.sz + 1
    rw [List.length_append]
    omega
theorem its_app (l m : List Item) : its l ++ its m = its (l ++ m) := by unfold its; rw [List.flatMap_append]
theorem dgs_takeZ {h : Zh} {A : Option Addr} {ks : List B32} (hr : RdZ h A (dgs ks)) (m : Nat) : RdZ h A (dgs (ks.take m)) := by
  have e : dgs ks = dgs (ks.take m) ++ dgs (ks.drop m) := by rw [← dgs_append, List.take_append_drop]
  refine ⟨fun j v hv => hr.at_ j v ?_⟩
  rw [e, List.getElem?_append_left (List.getElem?_eq_some_iff.1 hv).1]
  exact hv
theorem dgs_dropZ {h : Zh} {A : Option Addr} {ks : List B32} {c m : Nat} (hr : RdZ h A (dgs ks)) (hm : m ≤ ks.length) (hc : ks.length ≤ c) : RdZ h (cutA A c m 32) (dgs (ks.drop m)) := by
  have e : dgs ks = dgs (ks.take m) ++ dgs (ks.drop m) := by rw [← dgs_append, List.take_append_drop]
  have hl : (dgs (ks.take m)).length = m * 32 := by rw [dgs_len, List.length_take, Nat.min_eq_left hm]
  unfold cutA
  split
  · have : ks.drop m = [] := List.drop_of_length_le (by omega)
    rw [this]
    exact RdZ.nil _ _
  · refine ⟨fun j v hv => ?_⟩
    have h1 := hr.at_ (m * 32 + j) v (by rw [e, List.getElem?_append_right (by omega), hl, Nat.add_sub_cancel_left]; exact hv)
    obtain ⟨b, o, rfl, h2⟩ := h1
    exact ⟨b, o + m * 32, by simp [Addr.add_mid], by rw [Nat.add_assoc]; exact h2⟩
end Go.Proofs.YtgfkbeipckbkiaaGreatDoor
/- U72 -/
namespace Go.Proofs.YtgfkbeipckbkiaaGreatDoor
set_option linter.unusedSimpArgs false
set_option linter.unusedVariables false
open Go.RowKit
section
variable (n : Nat) (hn : n ≤ 256) (gh gc k : Nat) (hk : k ≤ 1000000000) (h : Zh) [hT : RdZ h (some ⟨2, 0, none⟩) hashT]
variable (p : Option Addr) (out : List Item) (A : Option Addr) (c : Nat) (ho : out.length ≤ 1000000) (i : Int)
theorem its_one (x : Item) : its [x] = x.cells := by unfold its; simp
theorem its_snoc (l : List Item) (x : Item) : its l ++ x.cells = its (l ++ [x]) := by rw [← its_one x, its_app]
include ho
omit hT in
theorem add_nil (ht : TrZ n h .nil p) (B : Option Addr) (N cc : Nat) : Spec Tryz.prog 56 [.pointer (some ⟨gh, 0, none⟩), .slice A out.length c, .pointer p, .slice B N cc, .int .i64 i].toArray [HR gh gc n, .zone false h] [.own (.slice A out.length c) out.length 53 97 (its out), CN gc k] (fun u : Option Addr × Nat => .slice u.1 (out.length + 1) u.2) (fun u => [.own (.slice u.1 (out.length + 1) u.2) (out.length + 1) 53 97 (its (out ++ [⟨0, zB32, zLeaf⟩])), CN gc k]) := by
  refine spec_of Tryz.func56 rfl (n := 72) rfl rfl ?_
  intro W
  refine h_seq ?_
  refine h_reg ?_
  refine h_op (r_assign rfl) ?_
  refine h_nil ?_
  refine q_then ?_
  refine h_seq ?_
  refine h_reg ?_
  refine h_op (r_move rfl) ?_
  refine h_call ((Kind_s n h .nil p).comes) rfl rfl rfl fun _ => ?_
  refine h_op (r_assign rfl) ?_
  refine h_nil ?_
  refine q_then ?_
  refine h_seq ?_
  refine h_block ?_
  refine h_seq ?_
  refine h_reg ?_
  refine h_op (r_move rfl) ?_
  refine h_op (r_bool (r_eql rfl rfl) (show _ = true from rfl)) ?_
  refine h_op (r_assign rfl) ?_
  refine h_nil ?_
  refine q_then ?_
  refine h_condT rfl ?_
  refine h_seq ?_
  refine h_reg ?_
  refine h_op (r_move rfl) ?_
  refine h_op (r_build rfl) ?_
  refine h_opX (x_bsl rfl rfl) fun g20 => ?_
  refine h_opX (x_app rfl rfl (k := 97)) fun ⟨g21, c21⟩ => ?_
  refine h_op (r_assign rfl) ?_
  refine h_nil ?_
  refine q_then ?_
  refine h_ret ?_
  refine q_blockR ?_
  refine q_thenR ?_
  rw [show zItem.cells = Item.cells ⟨0, zB32, zLeaf⟩ from rfl, its_snoc]
  exact h_ret1 rfl rfl fun w s => ⟨(some ⟨g21, 0, none⟩, c21), rfl, (same w s).res (List.Sublist.refl _) (by simp [Fa.wr])⟩
include hn hk
theorem add_sib (t : Tr) (ht : TrZ n h t p) (hk0 : t.kind ≠ 0) (B : Option Addr) (cc : Nat) : Spec Tryz.prog 56 [.pointer (some ⟨gh, 0, none⟩), .slice A out.length c, .pointer p, .slice B 0 cc, .int .i64 i].toArray [HR gh gc n, .zone false h] [.own (.slice A out.length c) out.length 53 97 (its out), CN gc k] (fun u : Option Addr × Nat => .slice u.1 (out.length + 1) u.2) (fun u => [.own (.slice u.1 (out.length + 1) u.2) (out.length + 1) 53 97 (its (out ++ [⟨3, dgT n t, zLeaf⟩])), CN gc k]) := by
  have hD := Digest_s n hn gh gc k (by omega) h t p
  rw [if_neg hk0, Nat.add_zero] at hD
  refine spec_of Tryz.func56 rfl (n := 72) rfl rfl ?_
  intro W
  refine h_seq ?_
  refine h_reg ?_
  refine h_op (r_assign rfl) ?_
  refine h_nil ?_
  refine q_then ?_
  refine h_seq ?_
  refine h_reg ?_
  refine h_op (r_move rfl) ?_
  refine h_call ((Kind_s n h t p).comes) rfl rfl rfl fun _ => ?_
  refine h_op (r_assign rfl) ?_
  refine h_nil ?_
  refine q_then ?_
  refine h_seq ?_
  refine h_block ?_
  refine h_seq ?_
  refine h_reg ?_
  refine h_op (r_move rfl) ?_
  refine h_op (r_bool (r_eql rfl rfl) (decide_eq_false (by omega))) ?_
  refine h_op (r_assign rfl) ?_
  refine h_nil ?_
  refine q_then ?_
  refine h_condF rfl ?_
  refine h_seq ?_
  refine h_reg ?_
  refine h_op (r_move rfl) ?_
  refine h_op (r_len rfl) ?_
  refine h_op (r_bool (r_eql rfl rfl) (show _ = true from rfl)) ?_
  refine h_op (r_assign rfl) ?_
  refine h_nil ?_
  refine q_then ?_
  refine h_condT rfl ?_
  refine h_seq ?_
  refine h_reg ?_
  refine h_op (r_move rfl) ?_
  refine h_op (r_move rfl) ?_
  refine h_op (r_move rfl) ?_
  refine h_call (hD.comes) rfl rfl rfl fun _ => ?_
  refine h_op (r_build rfl) ?_
  refine h_opX (x_bsl rfl rfl) fun g31 => ?_
  refine h_opX (x_app rfl rfl (k := 97)) fun ⟨g32, c32⟩ => ?_
  refine h_op (r_assign rfl) ?_
  refine h_nil ?_
  refine q_then ?_
  refine h_ret ?_
  refine q_blockR ?_
  refine q_thenR ?_
  change H _ _ _ _ _ (.own _ _ _ _ (its out ++ Item.cells ⟨3, dgT n t, zLeaf⟩) :: _) _
  rw [its_snoc]
  exact h_ret1 rfl rfl fun w s => ⟨(some ⟨g32, 0, none⟩, c32), rfl, (same w s).res (List.Sublist.refl _) (by simp [Fa.wr])⟩
omit hn hk hT in
theorem add_leaf (key : B32) (v : List UInt8) (ht : TrZ n h (.leaf key v) p) (B : Option Addr) (N cc : Nat) (hN : N ≠ 0) : Spec Tryz.prog 56 [.pointer (some ⟨gh, 0, none⟩), .slice A out.length c, .pointer p, .slice B N cc, .int .i64 i].toArray [HR gh gc n, .zone false h] [.own (.slice A out.length c) out.length 53 97 (its out), CN gc k] (fun u : Option Addr × Nat => .slice u.1 (out.length + 1) u.2) (fun u => [.own (.slice u.1 (out.length + 1) u.2) (out.length + 1) 53 97 (its (out ++ [⟨1, zB32, leafOf n key v⟩])), CN gc k]) := by
  refine spec_of Tryz.func56 rfl (n := 72) rfl rfl ?_
  intro W
  refine h_seq ?_
  refine h_reg ?_
  refine h_op (r_assign rfl) ?_
  refine h_nil ?_
  refine q_then ?_
  refine h_seq ?_
  refine h_reg ?_
  refine h_op (r_move rfl) ?_
  refine h_call ((Kind_s n h (.leaf key v) p).comes) rfl rfl rfl fun _ => ?_
  refine h_op (r_assign rfl) ?_
  refine h_nil ?_
  refine q_then ?_
  refine h_seq ?_
  refine h_block ?_
  refine h_seq ?_
  refine h_reg ?_
  refine h_op (r_move rfl) ?_
  refine h_op (r_bool (r_eql rfl rfl) (show _ = false from rfl)) ?_
  refine h_op (r_assign rfl) ?_
  refine h_nil ?_
  refine q_then ?_
  refine h_condF rfl ?_
  refine h_seq ?_
  refine h_reg ?_
  refine h_op (r_move rfl) ?_
  refine h_op (r_len rfl) ?_
  refine h_op (r_bool (r_eql rfl rfl) (decide_eq_false (by omega))) ?_
  refine h_op (r_assign rfl) ?_
  refine h_nil ?_
  refine q_then ?_
  refine h_condF rfl ?_
  refine h_seq ?_
  refine h_reg ?_
  refine h_op (r_move rfl) ?_
  refine h_op (r_bool (r_eql rfl rfl) (show _ = true from rfl)) ?_
  refine h_op (r_assign rfl) ?_
  refine h_nil ?_
  refine q_then ?_
  refine h_condT rfl ?_
  refine h_seq ?_
  refine h_reg ?_
  refine h_op (r_move rfl) ?_
  refine h_op (r_move rfl) ?_
  refine h_op (r_move rfl) ?_
  refine h_call ((Leaf_s n h (.leaf key v) p).comes) rfl rfl rfl fun _ => ?_
  refine h_op (r_build rfl) ?_
  refine h_opX (x_bsl rfl rfl) fun g41 => ?_
  refine h_opX (x_app rfl rfl (k := 97)) fun ⟨g42, c42⟩ => ?_
  refine h_op (r_assign rfl) ?_
  refine h_nil ?_
  refine q_then ?_
  refine h_ret ?_
  refine q_blockR ?_
  refine q_thenR ?_
  change H _ _ _ _ _ (.own _ _ _ _ (its out ++ Item.cells ⟨1, zB32, leafOf n key v⟩) :: _) _
  rw [its_snoc]
  exact h_ret1 rfl rfl fun w s => ⟨(some ⟨g42, 0, none⟩, c42), rfl, (same w s).res (List.Sublist.refl _) (by simp [Fa.wr])⟩
end
end Go.Proofs.YtgfkbeipckbkiaaGreatDoor
/- N16 -/
namespace Go.Proofs.YtgfkbeipckbkiaaGreatDoor
set_option linter.unusedSimpArgs false
set_option linter.unusedVariables false
open Go.RowKit
section
variable {P : Program} {nn : Nat} {D : List Deferred} {E : Env} {L : List Fa} {T : TypeId} {x q r : Operand} {e size bytes : Nat} {z : Value} {N c h m : Nat}
theorem run_slHM [E' : TS P T e size bytes z] {b O : Nat} {i2 i3 : Int} {k2 k3 : IntKind} (w : World) (h2 : NatOf i2 h) (h3 : NatOf i3 m) (a2 : h ≤ m) (a3 : m ≤ c) :
    (Instr.sliceAt T (.slice (some ⟨b, O, none⟩) N c) none (some (.int k2 i2)) (some (.int k3 i3))).run P w = .ok (.slice (some ⟨b, O, none⟩) h m) w := by
  obtain rfl := h2.eq
  obtain rfl := h3.eq
  obtain ⟨t, hi, _, hsz, _⟩ := info_parts E'.el.hi
  have c1 : (0 : Int) ≤ (m : Int) ∧ (m : Int) ≤ (c : Int) := ⟨by omega, by omega⟩
  have c2 : (0 : Int) ≤ (h : Int) ∧ (h : Int) ≤ (m : Int) := ⟨by omega, by omega⟩
  have c3 : (0 : Int) ≤ (0 : Int) ∧ (0 : Int) ≤ (h : Int) := ⟨by omega, by omega⟩
  unfold Instr.sliceAt
  simp only [Sem.run_bind, run_underlying E'.el.ht, Result.andThen_ok, Instr.slice, Instr.sliceBounds, Instr.sliceBound, asIntOf, Sem.run_pure, if_pos c1, if_pos c2, if_pos c3, Int.toNat_natCast, sizeOf, typeInfo, Option.isSome_some]
  simp [hi, hsz, Addr.add_mid]
theorem r_slHM [E' : TS P T e size bytes z] {b O : Nat} {i2 i3 : Int} {k2 k3 : IntKind} (hx : ev E x = some (.slice (some ⟨b, O, none⟩) N c)) (hq : ev E q = some (.int k2 i2)) (hr : ev E r = some (.int k3 i3)) [h2 : NatOf i2 h] [h3 : NatOf i3 m] (a2 : h ≤ m := by omega) (a3 : m ≤ c := by omega) : Runs0 P nn D E L (.slice T x none (some q) (some r)) (.slice (some ⟨b, O, none⟩) h m) := fun a w ka s o ho => by
  have := run_slHM (P := P) (T := T) (N := N) (b := b) (O := O) (k2 := k2) (k3 := k3) w h2 h3 a2 a3
  unfold execOp
  simp only [ho, ka.ev hx, Option.map_some, Option.map_none, ka.ev hq, ka.ev hr]
  rw [Sem.run_bind, this]
  rfl
theorem cut_zero {b O c size : Nat} (hc : 0 < c) : cutA (some ⟨b, O, none⟩) c 0 size = some ⟨b, O, none⟩ := by
  unfold cutA
  rw [if_neg (by omega)]
  simp [Addr.add_mid]
theorem r_slHb [E' : TS P T e size bytes z] {b O : Nat} {j : Int} {k : IntKind} (hx : ev E x = some (.slice (some ⟨b, O, none⟩) N c)) (hq : ev E q = some (.int k j)) [hj : NatOf j h] (hl : h ≤ c := by omega) (hc : 0 < c := by omega) : Runs0 P nn D E L (.slice T x none (some q) none) (.slice (some ⟨b, O, none⟩) h c) := by
  have := r_slH (P := P) (n := nn) (D := D) (L := L) (E' := E') hx hq (hj := hj) hl
  rwa [cut_zero hc] at this
end
end Go.Proofs.YtgfkbeipckbkiaaGreatDoor
/- U73 -/
namespace Go.Proofs.YtgfkbeipckbkiaaGreatDoor
set_option linter.unusedSimpArgs false
set_option linter.unusedVariables false
open Go.RowKit
section
variable (n : Nat) (hn : n ≤ 256) (gh gc k : Nat) (hk : k ≤ 1000000000) (h : Zh) [hT : RdZ h (some ⟨2, 0, none⟩) hashT]
/-- what a call of add brings -/
def AddS (t : Tr) : Prop := ∀ (p : Option Addr), TrZ n h t p → ∀ (ks : List B32) (B : Option Addr) (cc d : Nat), RdZ h B (dgs ks) → ks.length ≤ cc → ks.length ≤ 1000000 → ks.Pairwise ltK → AlikeK ks d → d + t.ht ≤ 256 → ∀ (out : List Item) (A : Option Addr) (c : Nat), out.length + t.sz ≤ 1000000 →
  Spec Tryz.prog 56 [.pointer (some ⟨gh, 0, none⟩), .slice A out.length c, .pointer p, .slice B ks.length cc, .int .i64 (d : Int)].toArray [HR gh gc n, .zone false h] [.own (.slice A out.length c) out.length 53 97 (its out), CN gc k] (fun u : Option Addr × Nat => .slice u.1 (out ++ addT n t ks d).length u.2) (fun u => [.own (.slice u.1 (out ++ addT n t ks d).length u.2) (out ++ addT n t ks d).length 53 97 (its (out ++ addT n t ks d)), CN gc k])
omit hT in
theorem add_node (l r : Tr) (ihl : AddS n gh gc k h l) (ihr : AddS n gh gc k h r) (p : Option Addr) (ht : TrZ n h (.node l r) p) (ks : List B32) (B : Option Addr) (cc d m : Nat) (hB : RdZ h B (dgs ks)) (hcc : ks.length ≤ cc) (hks : ks.length ≤ 1000000) (hne : ks.length ≠ 0) (ho : ks.Pairwise ltK) (ha : AlikeK ks d) (hd : d + (Tr.node l r).ht ≤ 256) (hm : m ≤ ks.length) (hp : ∀ j, j < ks.length → bitAt (ks.getD j zB32) d = decide (m ≤ j)) (h1 : ks.take m = keysB ks d false) (h2 : ks.drop m = keysB ks d true) (out : List Item) (A : Option Addr) (c : Nat) (hsz : out.length + (Tr.node l r).sz ≤ 1000000) :
    Spec Tryz.prog 56 [.pointer (some ⟨gh, 0, none⟩), .slice A out.length c, .pointer p, .slice B ks.length cc, .int .i64 (d : Int)].toArray [HR gh gc n, .zone false h] [.own (.slice A out.length c) out.length 53 97 (its out), CN gc k] (fun u : Option Addr × Nat => .slice u.1 (out ++ ⟨2, zB32, zLeaf⟩ :: (addT n l (keysB ks d false) (d + 1) ++ addT n r (keysB ks d true) (d + 1))).length u.2) (fun u => [.own (.slice u.1 (out ++ ⟨2, zB32, zLeaf⟩ :: (addT n l (keysB ks d false) (d + 1) ++ addT n r (keysB ks d true) (d + 1))).length u.2) (out ++ ⟨2, zB32, zLeaf⟩ :: (addT n l (keysB ks d false) (d + 1) ++ addT n r (keysB ks d true) (d + 1))).length 53 97 (its (out ++ ⟨2, zB32, zLeaf⟩ :: (addT n l (keysB ks d false) (d + 1) ++ addT n r (keysB ks d true) (d + 1)))), CN gc k]) := by
  have hht : d + (max l.ht r.ht + 1) ≤ 256 := hd
  have hsz' : out.length + (l.sz + r.sz + 1) ≤ 1000000 := hsz
  have h0 : 0 < (dgs ks).length := by rw [dgs_len]; omega
  obtain ⟨b, o, rfl, -⟩ := hB.at_ 0 _ (List.getElem?_eq_getElem h0)
  have hlm : (ks.take m).length = m := by rw [List.length_take, Nat.min_eq_left hm]
  have hlen1 := addT_len n l (keysB ks d false) (d + 1)
  have hL := ihl (subP h false p) (TrZ.left ht) (ks.take m) (some ⟨b, o, none⟩) m (d + 1) (dgs_takeZ hB m) (by omega) (by omega) (by rw [h1]; exact keysB_ord ho _) (by rw [h1]; exact keysB_alike ha _) (by omega)
  have hR := ihr (subP h true p) (TrZ.right ht) (ks.drop m) (cutA (some ⟨b, o, none⟩) cc m 32) (cc - m) (d + 1) (dgs_dropZ hB hm hcc) (by rw [List.length_drop]; omega) (by rw [List.length_drop]; omega) (by rw [h2]; exact keysB_ord ho _) (by rw [h2]; exact keysB_alike ha _) (by omega)
  rw [hlm] at hL
  rw [List.length_drop] at hR
  rw [h1] at hL
  rw [h2] at hR
  have hS := Split_s ks (some ⟨b, o, none⟩) cc d m (by omega) hks hm hp
  have e3 : (out ++ [⟨2, zB32, zLeaf⟩]) ++ addT n l (keysB ks d false) (d + 1) ++ addT n r (keysB ks d true) (d + 1) = out ++ ⟨2, zB32, zLeaf⟩ :: (addT n l (keysB ks d false) (d + 1) ++ addT n r (keysB ks d true) (d + 1)) := by simp
  rw [← e3]
  have hl1 : out.length + 1 = (out ++ [(⟨2, zB32, zLeaf⟩ : Item)]).length := by simp
  refine spec_of Tryz.func56 rfl (n := 72) rfl rfl ?_
  intro W
  refine h_seq ?_
  refine h_reg ?_
  refine h_op (r_assign rfl) ?_
  refine h_nil ?_
  refine q_then ?_
  refine h_seq ?_
  refine h_reg ?_
  refine h_op (r_move rfl) ?_
  refine h_call ((Kind_s n h (.node l r) p).comes) rfl rfl rfl fun _ => ?_
  refine h_op (r_assign rfl) ?_
  refine h_nil ?_
  refine q_then ?_
  refine h_seq ?_
  refine h_block ?_
  refine h_seq ?_
  refine h_reg ?_
  refine h_op (r_move rfl) ?_
  refine h_op (r_bool (r_eql rfl rfl) (show _ = false from rfl)) ?_
  refine h_op (r_assign rfl) ?_
  refine h_nil ?_
  refine q_then ?_
  refine h_condF rfl ?_
  refine h_seq ?_
  refine h_reg ?_
  refine h_op (r_move rfl) ?_
  refine h_op (r_len rfl) ?_
  refine h_op (r_bool (r_eql rfl rfl) (decide_eq_false (by omega))) ?_
  refine h_op (r_assign rfl) ?_
  refine h_nil ?_
  refine q_then ?_
  refine h_condF rfl ?_
  refine h_seq ?_
  refine h_reg ?_
  refine h_op (r_move rfl) ?_
  refine h_op (r_bool (r_eql rfl rfl) (show _ = false from rfl)) ?_
  refine h_op (r_assign rfl) ?_
  refine h_nil ?_
  refine q_then ?_
  refine h_condF rfl ?_
  refine h_skip ?_
  refine q_block ?_
  refine q_then ?_
  refine h_seq ?_
  refine h_reg ?_
  refine h_op (r_move rfl) ?_
  refine h_op (r_move rfl) ?_
  refine h_call (hS.comes) rfl rfl rfl fun _ => ?_
  refine h_op (r_assign rfl) ?_
  refine h_nil ?_
  refine q_then ?_
  refine h_seq ?_
  refine h_reg ?_
  refine h_op (r_move rfl) ?_
  refine h_op (r_move rfl) ?_
  refine h_op (r_build rfl) ?_
  refine h_opX (x_bsl rfl rfl) fun g49 => ?_
  refine h_opX (x_app rfl rfl (k := 97)) fun ⟨g50, c50⟩ => ?_
  refine h_op (r_assign rfl) ?_
  refine h_nil ?_
  refine q_then ?_
  refine h_seq ?_
  change H _ _ _ _ _ (.own _ _ _ _ (its out ++ Item.cells ⟨2, zB32, zLeaf⟩) :: _) _
  rw [its_snoc, hl1]
  refine ha_start [.zone false h] [] mixed (same) ?_
  refine ha_takeP 0 rfl (r_move rfl) ?_
  refine ha_takeP 1 rfl (r_move rfl) ?_
  refine ha_takeP 2 rfl (r_move rfl) ?_
  refine ha_takeP 4 rfl (r_move rfl) ?_
  refine ha_takeP 5 rfl (r_move rfl) ?_
  refine ha_takeP 6 rfl (r_move rfl) ?_
  refine ha_takeP 7 rfl (r_slHM rfl rfl rfl) ?_
  refine ha_takeP 8 rfl (r_move rfl) ?_
  refine ha_takeP 9 rfl (r_add rfl rfl) ?_
  refine ha_one 3 ?_
  refine ho_C 3 rfl ((Child_s n h (.node l r) p 0 false (by simp)).comes) rfl rfl rfl (fun _ => same) fun _ => ?_
  refine ha_one 10 ?_
  refine ho_C 10 rfl ((hL (out ++ [⟨2, zB32, zLeaf⟩]) (some ⟨g50, 0, none⟩) c50 (by rw [← hl1]; omega)).comes) rfl rfl rfl (fun _ => same) fun ⟨A61, c61⟩ => ?_
  refine ha_takeP 11 rfl (r_assign rfl) ?_
  refine ha_done (by kernel_rfl) ?_
  refine q_then ?_
  refine h_seq ?_
  refine ha_start [.zone false h] [] mixed (same) ?_
  refine ha_takeP 0 rfl (r_move rfl) ?_
  refine ha_takeP 1 rfl (r_move rfl) ?_
  refine ha_takeP 2 rfl (r_move rfl) ?_
  refine ha_takeP 4 rfl (r_move rfl) ?_
  refine ha_takeP 5 rfl (r_move rfl) ?_
  refine ha_takeP 6 rfl (r_slL rfl rfl) ?_
  refine ha_takeP 7 rfl (r_move rfl) ?_
  refine ha_takeP 8 rfl (r_add rfl rfl) ?_
  refine ha_one 3 ?_
  refine ho_C 3 rfl ((Child_s n h (.node l r) p 1 true (by simp)).comes) rfl rfl rfl (fun _ => same) fun _ => ?_
  refine ha_one 9 ?_
  refine ho_C 9 rfl ((hR (out ++ [⟨2, zB32, zLeaf⟩] ++ addT n l (keysB ks d false) (d + 1)) A61 c61 (by rw [List.length_append, ← hl1]; omega)).comes) rfl rfl rfl (fun _ => same) fun ⟨A71, c71⟩ => ?_
  refine ha_takeP 10 rfl (r_assign rfl) ?_
  refine ha_done (by kernel_rfl) ?_
  refine q_then ?_
  refine h_ret ?_
  exact h_ret1 rfl rfl fun w s => ⟨(A71, c71), rfl, (same w s).res (List.Sublist.refl _) (by simp [Fa.wr])⟩
include hn hk
theorem add_s : ∀ t : Tr, AddS n gh gc k h t
  | .nil => fun p ht ks B cc d _ _ _ _ _ _ out A c ho => by
    have h1 : addT n .nil ks d = [⟨0, zB32, zLeaf⟩] := by unfold addT; rfl
    rw [h1, List.length_append]
    exact add_nil n gh gc k h p out A c (by omega) _ ht B ks.length cc
  | .leaf key v => fun p ht ks B cc d _ _ _ _ _ _ out A c ho => by
    cases ks with
    | nil =>
      have h1 : addT n (.leaf key v) [] d = [⟨3, dgT n (.leaf key v), zLeaf⟩] := by unfold addT; rfl
      rw [h1, List.length_append]
      exact add_sib n hn gh gc k hk h p out A c (by omega) _ (.leaf key v) ht (by simp [Tr.kind]) B cc
    | cons x ks =>
      have h1 : addT n (.leaf key v) (x :: ks) d = [⟨1, zB32, leafOf n key v⟩] := by unfold addT; rfl
      rw [h1, List.length_append]
      exact add_leaf n gh gc k h p out A c (by omega) _ key v ht B (x :: ks).length cc (by simp)
  | .node l r => fun p ht ks B cc d hB hcc hks hord hal hd out A c ho => by
    cases ks with
    | nil =>
      have h1 : addT n (.node l r) [] d = [⟨3, dgT n (.node l r), zLeaf⟩] := by unfold addT; rfl
      rw [h1, List.length_append]
      exact add_sib n hn gh gc k hk h p out A c (by omega) _ (.node l r) ht (by simp [Tr.kind]) B cc
    | cons x ks =>
      obtain ⟨m, m1, m2, m3, m4⟩ := split_at hord hal
      have h1 : addT n (.node l r) (x :: ks) d = ⟨2, zB32, zLeaf⟩ :: (addT n l (keysB (x :: ks) d false) (d + 1) ++ addT n r (keysB (x :: ks) d true) (d + 1)) := by conv => lhs; unfold addT
      rw [h1]
      exact add_node n gh gc k h l r (add_s l) (add_s r) p ht (x :: ks) B cc d m hB hcc hks (by simp) hord hal hd m1 m2 m3 m4 out A c ho
end
end Go.Proofs.YtgfkbeipckbkiaaGreatDoor
