/- put: a key that is put into a tree; put: At, Put, All; Proofs compared, copied, held against a claim; Proofs copied, and held against a claim; When a proof is well-formed: plain; A proof's siblings, expanded: the program; law15.alive: it is true; law15.alive: it is true; law19.alive: it is true; multiproofs: the reference's Digest and Preimage; law19: MultiChecks, MultiRoots are true; How long a multiproof is: plain (joined texts: U42 U43 U44 U45 U26p U17 U46 U47 U81 U68 U82 E20) -/
import Derived.Test.YtgfkbeipckbkiaaGreatDoorZ13
set_option linter.all false
/- U42 -/
namespace Go.Proofs.YtgfkbeipckbkiaaGreatDoor
set_option linter.unusedSimpArgs false
set_option linter.unusedVariables false
open Go.RowKit
/-- a subtree on the way of a key, joined with the one beside it -/
def jnK (key : B32) (d : Nat) (x y : Tr) : Tr := if bitAt key d then joinT y x else joinT x y
def jnC (key : B32) (d : Nat) (x y : Tr) : Nat := if bitAt key d then joinC y x else joinC x y
theorem jnC_le (key : B32) (d : Nat) (x y : Tr) : jnC key d x y ≤ 3 := by
  unfold jnC
  split <;> exact joinC_le _ _
theorem joinT_cnt (l r : Tr) : (joinT l r).cnt = l.cnt + r.cnt := by
  have key : ∀ t : Tr, t.kind = 0 → t.cnt = 0 := fun t ht => by cases t <;> first | rfl | cases ht
  unfold joinT
  split
  · rename_i h; rw [key l h.1]; omega
  · split
    · rename_i h; rw [key r h.1]; omega
    · rfl
theorem jnK_cnt (key : B32) (d : Nat) (x y : Tr) : (jnK key d x y).cnt = x.cnt + y.cnt := by
  unfold jnK
  split
  · rw [joinT_cnt]; omega
  · rw [joinT_cnt]
theorem pjoin_s (n : Nat) (hn : n ≤ 256) (gh gc k : Nat) (hk : k ≤ 100000000000) (h : Zh) [hT : RdZ h (some ⟨2, 0, none⟩) hashT] (x y : Tr) (p q : Option Addr) [hx : TrZ n h x p] [hy : TrZ n h y q] (key : B32) (d : Nat) (hd : d < 256) (hct : x.cnt + y.cnt ≤ 1000000000000) :
    Spec Tryz.prog 171 [.pointer (some ⟨gh, 0, none⟩), .pointer p, .pointer q, .agg key.cells.toArray, .int .i64 (d : Int)].toArray [HR gh gc n] [.zone true h, CN gc k] (fun u : {u : Zh × Option Addr // LeZ h u.1 ∧ TrZ n u.1 (jnK key d x y) u.2} => .pointer u.1.2) (fun u => [.zone true u.1.1, CN gc (k + jnC key d x y)]) := by
  unfold jnK jnC
  refine spec_of Tryz.func171 rfl (n := 23) rfl rfl ?_
  intro W
  refine h_seq ?_
  refine h_reg ?_
  refine h_opX (x_box rfl) fun g8 => ?_
  refine h_op (r_assign rfl) ?_
  refine h_nil ?_
  refine q_then ?_
  refine h_seq ?_
  refine h_seq ?_
  refine h_reg ?_
  refine h_op (r_loadr rfl) ?_
  refine h_op (r_move rfl) ?_
  refine h_call ((Bit_s key d hd).comes) rfl rfl rfl fun _ => ?_
  refine h_op (r_bool (r_eql rfl rfl) (show _ = !bitAt key d by unfold bitN; cases bitAt key d <;> rfl)) ?_
  refine h_nil ?_
  refine q_then ?_
  cases hb : bitAt key d
  · rw [if_neg (by simp), if_neg (by simp)]
    refine h_condT rfl ?_
    refine h_seq ?_
    refine h_reg ?_
    refine h_op (r_move rfl) ?_
    refine h_op (r_move rfl) ?_
    refine h_op (r_move rfl) ?_
    refine h_call ((Join_s n hn gh gc k hk h x y p q hct).comes) rfl rfl rfl fun ⟨⟨h1, r⟩, hle, ht⟩ => ?_
    dsimp only at hle ht ⊢
    refine h_op (r_assign rfl) ?_
    refine h_nil ?_
    refine q_then ?_
    refine h_ret ?_
    refine q_thenR ?_
    exact h_ret1 rfl rfl fun w s => ⟨⟨(h1, r), hle, ht⟩, rfl, (same w s).res (List.Sublist.refl _) (by simp [Fa.wr])⟩
  · rw [if_pos rfl, if_pos rfl]
    refine h_condF rfl ?_
    refine h_skip ?_
    refine q_then ?_
    refine h_seq ?_
    refine h_reg ?_
    refine h_op (r_move rfl) ?_
    refine h_op (r_move rfl) ?_
    refine h_op (r_move rfl) ?_
    refine h_call ((Join_s n hn gh gc k hk h y x q p (by omega)).comes) rfl rfl rfl fun ⟨⟨h1, r⟩, hle, ht⟩ => ?_
    dsimp only at hle ht ⊢
    refine h_op (r_assign rfl) ?_
    refine h_nil ?_
    refine q_then ?_
    refine h_ret ?_
    exact h_ret1 rfl rfl fun w s => ⟨⟨(h1, r), hle, ht⟩, rfl, (same w s).res (List.Sublist.refl _) (by simp [Fa.wr])⟩
/-- joined with nothing, from a depth up to another -/
def upN (key : B32) (d : Nat) : Nat → Tr → Tr
  | 0, t => t
  | j + 1, t => upN key d j (jnK key (d + j) t .nil)
def keyT : Tr → B32
  | .leaf k _ => k
  | _ => zB32
/-- two leaves, at a depth -/
def pairT (a b : Tr) (d : Nat) : Tr := upN (keyT a) d (common (keyT a) (keyT b) - d) (jnK (keyT a) (common (keyT a) (keyT b)) a b)
theorem leafT_key (n : Nat) (t : Tr) : (leafT n t).key = keyT t := by cases t <;> rfl
theorem Pair_s (n : Nat) (hn : n ≤ 256) (gh gc k : Nat) (hk : k ≤ 10000000000) (h : Zh) [hT : RdZ h (some ⟨2, 0, none⟩) hashT] (a b : Tr) (p q : Option Addr) [ha : TrZ n h a p] [hb : TrZ n h b q] (d : Nat) (hd : d ≤ 256) (hc : common (keyT a) (keyT b) < 256) (hdc : d ≤ common (keyT a) (keyT b)) (hct : a.cnt + b.cnt ≤ 1000000000) :
    Spec Tryz.prog 172 [.pointer (some ⟨gh, 0, none⟩), .pointer p, .pointer q, .int .i64 (d : Int)].toArray [HR gh gc n] [.zone true h, CN gc k] (fun u : {u : Zh × Option Addr × Nat // LeZ h u.1 ∧ TrZ n u.1 (pairT a b d) u.2.1 ∧ u.2.2 ≤ k + 771} => .pointer u.1.2.1) (fun u => [.zone true u.1.1, CN gc u.1.2.2]) := by
  unfold pairT
  refine spec_of Tryz.func172 rfl (n := 40) rfl rfl ?_
  intro W
  refine h_seq ?_
  refine h_reg ?_
  refine h_op (r_assign rfl) ?_
  refine h_nil ?_
  refine q_then ?_
  refine h_seq ?_
  refine h_reg ?_
  refine h_op (r_move rfl) ?_
  refine h_call ((Leaf_s n h a p).comes) rfl rfl rfl fun _ => ?_
  refine h_op (r_as (r_fldr rfl) (show _ = Value.agg (keyT a).cells.toArray by rw [← leafT_key n a])) ?_
  refine h_opX (x_alloc) fun g9 => ?_
  refine h_opS (s_storer rfl rfl) ?_
  refine h_nil ?_
  refine q_then ?_
  refine h_seq ?_
  refine ha_start [.blk g9 (keyT a).cells 39] [] mixed (same) ?_
  refine ha_take 0 rfl (r_loadr rfl) ?_
  refine ha_takeP 1 rfl (r_move rfl) ?_
  refine ha_one 2 ?_
  refine ho_C 2 rfl ((Leaf_s n h b q).comes) rfl rfl rfl (fun _ => same) fun _ => ?_
  refine ha_takeP 3 rfl (r_as (r_fldr rfl) (show _ = Value.agg (keyT b).cells.toArray by rw [← leafT_key n b])) ?_
  refine ha_one 4 ?_
  refine ho_C 4 rfl ((Common_s (keyT a) (keyT b)).comes) rfl rfl rfl (fun _ => same) fun _ => ?_
  refine ha_takeP 5 rfl (r_assign rfl) ?_
  refine ha_done (by kernel_rfl) ?_
  refine q_then ?_
  generalize common (keyT a) (keyT b) = c at *
  generalize keyT a = key at *
  refine h_seq ?_
  refine h_reg ?_
  refine h_op (r_move rfl) ?_
  refine h_op (r_move rfl) ?_
  refine h_op (r_move rfl) ?_
  refine h_op (r_loadr rfl) ?_
  refine h_op (r_move rfl) ?_
  refine h_call ((pjoin_s n hn gh gc k (by omega) h a b p q key c hc (by omega)).comes) rfl rfl rfl fun ⟨⟨h1, q1⟩, hle1, ht1⟩ => ?_
  dsimp only at hle1 ht1 ⊢
  have hc1 := jnC_le key c a b
  have hn1 := jnK_cnt key c a b
  generalize jnK key c a b = t1 at *
  have hk1 : k + jnC key c a b ≤ k + 3 := by omega
  generalize k + jnC key c a b = k1 at *
  refine h_op (r_assign rfl) ?_
  refine h_nil ?_
  refine q_then ?_
  refine h_seq ?_
  refine h_seq ?_
  refine h_reg ?_
  refine h_op (r_move rfl) ?_
  refine h_op (r_sub rfl rfl) ?_
  refine h_op (r_assign rfl) ?_
  refine h_nil ?_
  refine q_then ?_
  refine h_block ?_
  obtain ⟨J, rfl⟩ : ∃ J, c = d + J := ⟨c - d, by omega⟩
  rw [show d + J - d = J by omega]
  refine h_loop (fun (s : Nat × Zh × Option Addr × Tr × Nat) => s.1 ≤ J ∧ LeZ h1 s.2.1 ∧ TrZ n s.2.1 s.2.2.2.1 s.2.2.1 ∧ upN key d s.1 s.2.2.2.1 = upN key d J t1 ∧ s.2.2.2.1.cnt ≤ 1000000000 ∧ s.2.2.2.2 ≤ k + 3 + 3 * (J - s.1)) (fun (s : Nat × Zh × Option Addr × Tr × Nat) => [(12, .int .i64 ((d + s.1 : Nat) - 1 : Int)), (11, .pointer s.2.2.1), (9, .pointer (some ⟨g9, 0, none⟩)), (3, .int .i64 (d : Int)), (0, .pointer (some ⟨gh, 0, none⟩))]) (fun (s : Nat × Zh × Option Addr × Tr × Nat) => [.zone true s.2.1, CN gc s.2.2.2.2, .blk g9 key.cells 39, HR gh gc n]) (fun (s : Nat × Zh × Option Addr × Tr × Nat) => s.1) (J, h1, q1, t1, k1) (⟨Nat.le_refl _, LeZ.refl h1, ht1, rfl, by dsimp only; omega, by dsimp only; omega⟩) ⟨rfl, rfl, rfl, rfl, rfl, trivial⟩ (same) ?_
  rintro ⟨j, h2, q2, t2, k2⟩ ⟨hj, hle2, ht2, hup, hcn, hk2⟩
  dsimp only at hj hle2 ht2 hup hcn hk2 ⊢
  refine h_seq ?_
  refine h_seq ?_
  refine h_reg ?_
  refine h_op (r_move rfl) ?_
  refine h_op (r_move rfl) ?_
  refine h_op (r_geq rfl rfl) ?_
  refine h_nil ?_
  refine q_then ?_
  refine h_cond rfl (fun hlt => ?_) (fun hlt => ?_)
  · obtain ⟨i, rfl⟩ : ∃ i, j = i + 1 := ⟨j - 1, by omega⟩
    have hT2 : RdZ h2 (some ⟨2, 0, none⟩) hashT := (hT.mono hle1).mono hle2
    refine h_E (E' := [(12, .int .i64 ((d + i : Nat) : Int)), (11, .pointer q2), (9, .pointer (some ⟨g9, 0, none⟩)), (3, .int .i64 (d : Int)), (0, .pointer (some ⟨gh, 0, none⟩))]) ⟨aI rfl (by omega), rfl, rfl, rfl, rfl, trivial⟩ ?_
    have hn3 := jnK_cnt key (d + i) t2 .nil
    have hc3 := jnC_le key (d + i) t2 .nil
    have hz : Tr.nil.cnt = 0 := rfl
    refine h_skip ?_
    refine q_then ?_
    refine h_seq ?_
    refine h_block ?_
    refine h_reg ?_
    refine h_op (r_move rfl) ?_
    refine h_op (r_move rfl) ?_
    refine h_op (r_loadr rfl) ?_
    refine h_op (r_move rfl) ?_
    refine h_call ((pjoin_s n hn gh gc k2 (by omega) h2 t2 .nil q2 none key (d + i) (by omega) (by omega)).comes) rfl rfl rfl fun ⟨⟨h3, q3⟩, hle3, ht3⟩ => ?_
    dsimp only at hle3 ht3 ⊢
    refine h_op (r_assign rfl) ?_
    refine h_nil ?_
    refine q_block ?_
    refine q_then ?_
    refine h_reg ?_
    refine h_op (r_move rfl) ?_
    refine h_op (r_sub rfl rfl) ?_
    refine h_op (r_assign rfl) ?_
    refine h_nil ?_
    exact h_back (i, h3, q3, jnK key (d + i) t2 .nil, k2 + jnC key (d + i) t2 .nil) (⟨by dsimp only; omega, hle2.trans hle3, ht3, hup, by dsimp only; omega, by dsimp only; omega⟩) ((show i < i + 1 by omega)) ⟨aI rfl (by omega), rfl, rfl, rfl, rfl, trivial⟩ (same)
  · obtain rfl : j = 0 := by omega
    have hup' : t2 = upN key d J t1 := hup
    rw [← hup']
    refine h_exit ?_
    refine q_thenE ?_
    refine q_thenE ?_
    refine q_blockE ?_
    refine q_then ?_
    refine h_seq ?_
    refine h_reg ?_
    refine h_op (r_move rfl) ?_
    refine h_op (r_assign rfl) ?_
    refine h_nil ?_
    refine q_then ?_
    refine h_ret ?_
    exact h_ret1 rfl rfl fun w s => ⟨⟨(h2, q2, k2), hle1.trans hle2, ht2, by dsimp only; omega⟩, rfl, (same (L' := [.zone true h2, CN gc k2]) w s).res (List.Sublist.refl _) (by simp [Fa.wr])⟩
theorem BackwardP_s (A : Option Addr) (N c : Nat) : Spec Tryz.prog 170 [.slice A N c].toArray [] [] (fun g : Nat => .func (.func 183) #[] [.pointer (some ⟨g, 0, none⟩)].toArray) (fun g => [.blk g [.slice A N c] 178]) := by
  refine spec_of Tryz.func170 rfl (n := 4) rfl rfl ?_
  intro W
  refine h_seq ?_
  refine h_reg ?_
  refine h_opX (x_box1 rfl) fun g1 => ?_
  refine h_op (r_assign rfl) ?_
  refine h_nil ?_
  refine q_then ?_
  refine h_seq ?_
  refine h_reg ?_
  refine h_op (r_func rfl rfl) ?_
  refine h_op (r_assign rfl) ?_
  refine h_nil ?_
  refine q_then ?_
  refine h_ret ?_
  exact h_ret1 rfl rfl fun w s => ⟨g1, rfl, s.res (List.Sublist.refl _) (by simp [Fa.wr])⟩
theorem BackwardP_it (ps : List (Option Addr)) (A : Option Addr) (c g1 : Nat) (hA : ∀ i, i < ps.length → ∃ g, A = some ⟨g, 0, none⟩) (hl : ps.length ≤ 1000000) : IterG Tryz.prog 183 [.pointer (some ⟨g1, 0, none⟩)] [.rd (some ⟨g1, 0, none⟩) [.slice A ps.length c], .rd A (ptrs ps)] [] ps.length (fun k (_ : Unit) => [.int .i64 ((ps.length - 1 - k : Nat) : Int), .pointer (ps.getD (ps.length - 1 - k) none)]) (fun _ _ => []) [] := by
  refine iter_ofG Tryz.func183 rfl (n := 19) rfl rfl ?_
  intro l J Rm m0 W hJw hRm hy h0
  refine h_seq ?_
  refine h_reg ?_
  refine h_op (r_loadc rfl) ?_
  refine h_op (r_len rfl) ?_
  refine h_op (r_sub rfl rfl) ?_
  refine h_op (r_assign rfl) ?_
  refine h_nil ?_
  refine q_then ?_
  refine h_block ?_
  refine h_loop (fun (s : Nat × List Fa) => s.1 ≤ ps.length ∧ J s.1 s.2) (fun (s : Nat × List Fa) => [(3, .int .i64 ((ps.length : Int) - 1 - (s.1 : Int))), (0, .func (.yield l) #[] #[]), (1, .pointer (some ⟨g1, 0, none⟩))]) (fun (s : Nat × List Fa) => .rd (some ⟨g1, 0, none⟩) [.slice A ps.length c] :: .rd A (ptrs ps) :: (s.2 ++ Rm)) (fun (s : Nat × List Fa) => ps.length - s.1) (0, m0) ((show 0 ≤ ps.length ∧ J 0 m0 from ⟨by omega, h0⟩)) ⟨aI rfl (by dsimp only; omega), rfl, rfl, trivial⟩ (fun _ s => s) ?_
  rintro ⟨k, mm⟩ ⟨hk, hJ⟩
  dsimp only at hk hJ ⊢
  refine h_seq ?_
  refine h_seq ?_
  refine h_reg ?_
  refine h_op (r_move rfl) ?_
  refine h_op (r_geq rfl rfl) ?_
  refine h_nil ?_
  refine q_then ?_
  refine h_cond rfl (fun h => ?_) (fun h => ?_)
  · have hk2 : k < ps.length := by omega
    obtain ⟨g, rfl⟩ := hA k hk2
    have hget : ps[ps.length - 1 - k]? = some (ps.getD (ps.length - 1 - k) none) := by rw [List.getD_eq_getElem?_getD, List.getElem?_eq_getElem (by omega), Option.getD_some]
    refine h_E (E' := [(3, .int .i64 ((ps.length - 1 - k : Nat) : Int)), (0, .func (.yield l) #[] #[]), (1, .pointer (some ⟨g1, 0, none⟩))]) ⟨aI rfl (by omega), rfl, rfl, trivial⟩ ?_
    refine h_skip ?_
    refine q_then ?_
    refine h_seq ?_
    refine h_block ?_
    refine h_seq ?_
    refine h_reg ?_
    refine h_op (r_move rfl) ?_
    refine h_op (r_move rfl) ?_
    refine h_op (r_loadc rfl) ?_
    refine h_op (r_move rfl) ?_
    refine h_op (r_idx rfl rfl) ?_
    refine h_op (r_nth rfl (ptrs_get hget)) ?_
    refine h_yield (hy k () mm hk2 hJ) hRm rfl rfl fun m' hJ' => ?_
    refine h_op (r_not rfl) ?_
    refine h_nil ?_
    refine q_then ?_
    refine h_condF rfl ?_
    refine h_skip ?_
    refine q_block ?_
    refine q_then ?_
    refine h_reg ?_
    refine h_op (r_move rfl) ?_
    refine h_op (r_sub rfl rfl) ?_
    refine h_op (r_assign rfl) ?_
    refine h_nil ?_
    exact h_back (k + 1, m') ((show k + 1 ≤ ps.length ∧ J (k + 1) m' from ⟨by omega, hJ'⟩)) ((show ps.length - (k + 1) < ps.length - k by omega)) ⟨aI rfl (by omega), rfl, rfl, trivial⟩ (fun _ s => s)
  · obtain rfl : k = ps.length := by omega
    refine h_exit ?_
    refine q_thenE ?_
    refine q_thenE ?_
    refine q_blockE ?_
    refine h_end ?_
    exact h_ret0 rfl fun w s => ⟨_, mm, rfl, hJ, s.res (((List.sublist_append_left _ _).cons _).cons _) (hJw _ _ hJ)⟩
/-- up the way of a key -/
def upD (key : B32) (t : Tr) : Nat → Tr → Tr
  | 0, x => x
  | D + 1, x => upD key t D (jnK key D x (sibK key t D))
/-- the tree with another value of a key -/
def putT (key : B32) (v : List UInt8) (t : Tr) (D : Nat) : Tr :=
  upD key t D (match wayK key t D with
    | .leaf k' v' => if k' = key then .leaf key v else pairT (.leaf k' v') (.leaf key v) D
    | _ => .leaf key v)
theorem wayK_cnt (key : B32) (t : Tr) : ∀ i, (wayK key t i).cnt ≤ t.cnt
  | 0 => Nat.le_refl _
  | i + 1 => by
    refine Nat.le_trans ?_ (wayK_cnt key t i)
    show ((wayK key t i).sub _).cnt ≤ _
    generalize wayK key t i = x
    cases x <;> cases bitAt key i <;> simp [Tr.sub, Tr.cnt]
/-- how much the counts of the way's siblings come to -/
theorem sib_cnt (key : B32) (t : Tr) (i : Nat) : (wayK key t (i + 1)).cnt + (sibK key t i).cnt ≤ (wayK key t i).cnt := by
  show ((wayK key t i).sub _).cnt + ((wayK key t i).sub _).cnt ≤ _
  generalize wayK key t i = x
  cases x <;> cases bitAt key i <;> simp [Tr.sub, Tr.cnt] <;> omega
theorem up_s (n : Nat) (hn : n ≤ 256) (gh gc k : Nat) (hk : k ≤ 1000000000) (h h0 : Zh) [hle0 : LeZ h0 h] [hT : RdZ h (some ⟨2, 0, none⟩) hashT] (t : Tr) (p : Option Addr) [ht : TrZ n h0 t p] (key : B32) (sl : Sl) (D : Nat) (hD : WayTo key t D) (x : Tr) (q : Option Addr) [hx : TrZ n h x q] (hct : x.cnt ≤ 1000000 ∧ t.cnt ≤ 1000000) (A : Option Addr) (c g9 g4 g6 g7 : Nat) (hA : ∀ i, i < D → ∃ g, A = some ⟨g, 0, none⟩) :
    Spec Tryz.prog 169 [.pointer q, .pointer (some ⟨g9, 0, none⟩), .pointer (some ⟨g4, 0, none⟩), .pointer (some ⟨g6, 0, none⟩), .pointer (some ⟨g7, 0, none⟩)].toArray [.rd (some ⟨g9, 0, none⟩) [.slice A D c], .rd A (ptrs (sibL h0 key p D)), .rd (some ⟨g4, 0, none⟩) [.pointer (some ⟨gh, 0, none⟩)], .rd (some ⟨g6, 0, none⟩) (Entry.cells ⟨key, sl⟩), .rd (some ⟨g7, 0, none⟩) [.int .i64 0], HR gh gc n] [.zone true h, CN gc k]
      (fun u : {u : Zh × Option Addr × Nat // LeZ h u.1 ∧ TrZ n u.1 (upD key t D x) u.2.1 ∧ u.2.2 ≤ k + 768} => .pointer u.1.2.1) (fun u => [.zone true u.1.1, CN gc u.1.2.2]) := by
  have hle := hD.le
  have hsl := sibL_len h0 key p D
  refine spec_of Tryz.func169 rfl (n := 23) rfl rfl ?_
  intro W
  refine h_seq ?_
  refine h_reg ?_
  refine h_opX (x_box1 rfl) fun g5 => ?_
  refine h_op (r_assign rfl) ?_
  refine h_nil ?_
  refine q_then ?_
  refine h_seq ?_
  refine h_seq ?_
  refine h_reg ?_
  refine h_op (r_loadc rfl) ?_
  refine h_call ((BackwardP_s A D c).comes) rfl rfl rfl fun g10 => ?_
  refine h_nil ?_
  refine q_then ?_
  refine h_block ?_
  have hit := BackwardP_it (sibL h0 key p D) A c g10 (by rw [hsl]; exact hA) (by omega)
  rw [hsl] at hit
  refine h_rangeG hit rfl (fun k' mm => ∃ (h1 : Zh) (q1 : Option Addr) (y : Tr) (kk : Nat), mm = [.zone true h1, CN gc kk, .blk g5 [.pointer q1] 24] ∧ LeZ h h1 ∧ TrZ n h1 y q1 ∧ upD key t (D - k') y = upD key t D x ∧ kk ≤ k + 3 * k' ∧ y.cnt ≤ 1000000 * (k' + 1)) [.zone true h, CN gc k, .blk g5 [.pointer q] 24] [.rd (some ⟨g4, 0, none⟩) [.pointer (some ⟨gh, 0, none⟩)], .rd (some ⟨g6, 0, none⟩) (Entry.cells ⟨key, sl⟩), .rd (some ⟨g7, 0, none⟩) [.int .i64 0], HR gh gc n] (by rintro k' mm ⟨h1, q1, y, kk, rfl, _⟩ f hf; simp only [List.mem_cons, List.not_mem_nil, or_false] at hf; rcases hf with rfl | rfl | rfl <;> rfl) ⟨h, q, x, k, rfl, LeZ.refl h, hx, rfl, by omega, by omega⟩ rfl (fun _ _ => rfl) ?_ ?_
  · intro ll rr k' _ mm W1 hr hrp hkN hJ2
    obtain ⟨h1, q1, y, kk, rfl, hle1, hy1, hup, hkk, hcy⟩ := hJ2
    simp only [List.nil_append, List.cons_append]
    have hT1 : RdZ h1 (some ⟨2, 0, none⟩) hashT := hT.mono hle1
    have hle01 : LeZ h0 h1 := hle0.trans hle1
    obtain ⟨i, hi⟩ : ∃ i, D - k' = i + 1 := ⟨D - k' - 1, by omega⟩
    have hi2 : D - 1 - k' = i := by omega
    have hg : (sibL h0 key p D).getD i none = sibQ h0 key p i := by rw [List.getD_eq_getElem?_getD, sibL_at h0 key p (by omega), Option.getD_some]
    rw [hi2, hg]
    rw [hi, upD] at hup
    have hs1 := sib_cnt key t i
    have hs2 := wayK_cnt key t i
    have hn1 := jnK_cnt key i y (sibK key t i)
    have hc1 := jnC_le key i y (sibK key t i)
    have hsz : TrZ n h1 (sibK key t i) (sibQ h0 key p i) := ⟨((wayK_ok ht.ok key i).sub _).mono hle01⟩
    refine h_seq ?_
    refine h_reg ?_
    refine h_op (r_assign rfl) ?_
    refine h_nil ?_
    refine q_then ?_
    refine h_reg ?_
    refine h_op (r_assign rfl) ?_
    refine h_nil ?_
    refine q_then ?_
    refine h_begin hr ?_
    refine h_block ?_
    refine h_reg ?_
    refine h_op (r_loadc rfl) ?_
    refine h_op (r_loadc rfl) ?_
    refine h_op (r_move rfl) ?_
    refine h_op (r_field rfl) ?_
    refine h_op (r_loadr rfl) ?_
    refine h_op (r_loadc rfl) ?_
    refine h_op (r_move rfl) ?_
    refine h_op (r_int (r_add rfl rfl) (show _ = (i : Int) by omega)) ?_
    refine h_call ((pjoin_s n hn gh gc kk (by omega) h1 y (sibK key t i) q1 (sibQ h0 key p i) key i (by omega) (by omega)).comes) rfl rfl rfl fun ⟨⟨h2, q2⟩, hle2, ht2⟩ => ?_
    dsimp only at hle2 ht2 ⊢
    refine h_opS (s_store rfl rfl rfl) ?_
    refine h_nil ?_
    refine q_block ?_
    exact h_endround [.zone true h2, CN gc (kk + jnC key i y (sibK key t i)), .blk g5 [.pointer q2] 24] hr hrp ⟨h2, q2, jnK key i y (sibK key t i), _, rfl, hle1.trans hle2, ht2, by rw [show D - (k' + 1) = i by omega]; exact hup, by omega, by omega⟩ (by intro f hf; simp only [List.mem_cons, List.not_mem_nil, or_false] at hf; rcases hf with rfl | rfl | rfl <;> rfl)
  · intro bb mm hJ2
    obtain ⟨h1, q1, y, kk, rfl, hle1, hy1, hup, hkk, hcy⟩ := hJ2
    rw [Nat.sub_self] at hup
    refine q_block ?_
    refine q_then ?_
    simp only [List.nil_append, List.cons_append]
    refine h_seq ?_
    refine h_reg ?_
    refine h_op (r_loadc rfl) ?_
    refine h_op (r_assign rfl) ?_
    refine h_nil ?_
    refine q_then ?_
    refine h_ret ?_
    refine h_mark ?_
    have hup' : y = upD key t D x := hup
    exact h_ret1 rfl rfl fun w s => ⟨⟨(h1, q1, kk), hle1, by rw [← hup']; exact hy1, by dsimp only; omega⟩, rfl, (same (L' := [.zone true h1, CN gc kk]) w s).res (List.Sublist.refl _) (by simp [Fa.wr])⟩
end Go.Proofs.YtgfkbeipckbkiaaGreatDoor
/- U43 -/
namespace Go.Proofs.YtgfkbeipckbkiaaGreatDoor
set_option linter.unusedSimpArgs false
set_option linter.unusedVariables false
open Go.RowKit
theorem common_lt {a b : B32} (h : a ≠ b) : common a b < 256 := by
  rcases Nat.lt_or_ge (common a b) 256 with h1 | h1
  · exact h1
  · refine (h ?_).elim
    apply bits_ext
    intro i hi
    unfold common at h1
    cases hf : (List.range 256).find? (fun i => bitAt a i ^^ bitAt b i) with
    | none =>
      have := List.find?_eq_none.1 hf i (by simpa using hi)
      simpa using this
    | some m =>
      rw [hf] at h1
      have := List.mem_range.1 (List.mem_of_find?_eq_some hf)
      simp at h1
      omega
/-- what the end of a way says of another key -/
def EndOk (key : B32) (t : Tr) (D : Nat) : Prop := ∀ k' v', wayK key t D = .leaf k' v' → k' ≠ key → D ≤ common k' key
theorem upN_cnt (key : B32) (d : Nat) : ∀ (j : Nat) (x : Tr), (upN key d j x).cnt = x.cnt
  | 0, _ => rfl
  | j + 1, x => by rw [upN, upN_cnt key d j, jnK_cnt]; rfl
theorem PAt_s (n : Nat) (hn : n ≤ 256) (gh gc k : Nat) (hk : k ≤ 100000000) (h : Zh) [hT : RdZ h (some ⟨2, 0, none⟩) hashT] (t : Tr) (p : Option Addr) [ht : TrZ n h t p] (key : B32) (s : Sl) (b : List UInt8) [hs : SlZ h s b] (hb : b.length ≤ 100000000) (D : Nat) (hD : WayTo key t D) (hE : EndOk key t D) (hct : t.cnt ≤ 100000) :
    Spec Tryz.prog 139 [.pointer (some ⟨gh, 0, none⟩), .pointer p, .agg (Entry.cells ⟨key, s⟩).toArray, .int .i64 0].toArray [HR gh gc n] [.zone true h, CN gc k]
      (fun u : {u : Zh × Option Addr × Nat // LeZ h u.1 ∧ TrZ n u.1 (putT key b t D) u.2.1 ∧ u.2.2 ≤ k + 1600} => .pointer u.1.2.1) (fun u => [.zone true u.1.1, CN gc u.1.2.2]) := by
  have hle := hD.le
  have hwc := wayK_cnt key t D
  refine spec_of Tryz.func139 rfl (n := 59) rfl rfl ?_
  intro W
  refine h_seq ?_
  refine h_reg ?_
  refine h_opX (x_box1 rfl) fun g4 => ?_
  refine h_opX (x_box rfl) fun g6 => ?_
  refine h_opX (x_box1 rfl) fun g7 => ?_
  refine h_op (r_assign rfl) ?_
  refine h_nil ?_
  refine q_then ?_
  refine h_seq ?_
  refine h_reg ?_
  refine h_opX (x_alloc) fun g9 => ?_
  refine h_nil ?_
  refine q_then ?_
  refine h_seq ?_
  refine h_reg ?_
  refine h_op (r_loadc rfl) ?_
  refine h_op (r_assign rfl) ?_
  refine h_nil ?_
  refine q_then ?_
  refine h_seq ?_
  refine h_block ?_
  refine h_nil_own 24 1 (xs := ptrs (sibL h key p 0)) rfl ?_
  refine h_loop (fun (s' : Nat × Option Addr × Nat) => s'.1 ≤ D) (fun (s' : Nat × Option Addr × Nat) => [(10, .int .i64 (s'.1 : Int)), (1, .pointer (wayQ h key p s'.1)), (9, .pointer (some ⟨g9, 0, none⟩)), (4, .pointer (some ⟨g4, 0, none⟩)), (6, .pointer (some ⟨g6, 0, none⟩)), (7, .pointer (some ⟨g7, 0, none⟩))]) (fun (s' : Nat × Option Addr × Nat) => [.own (.slice s'.2.1 s'.1 s'.2.2) s'.1 24 1 (ptrs (sibL h key p s'.1)), .blk g9 [.slice s'.2.1 s'.1 s'.2.2] 178, .blk g6 (Entry.cells ⟨key, s⟩) 109, .blk g4 [.pointer (some ⟨gh, 0, none⟩)] 27, .blk g7 [.int .i64 0] 3, .zone true h, CN gc k, HR gh gc n]) (fun (s' : Nat × Option Addr × Nat) => D + 1 - s'.1) (0, none, 0) ((show 0 ≤ D from Nat.zero_le _)) ⟨rfl, rfl, rfl, rfl, rfl, rfl, trivial⟩ (same) ?_
  rintro ⟨i, A, c⟩ hi
  dsimp only at hi ⊢
  refine h_seq ?_
  refine h_seq ?_
  refine h_reg ?_
  refine h_op (r_move rfl) ?_
  refine h_call ((Kind_s n h (wayK key t i) (wayQ h key p i)).comes) rfl rfl rfl fun _ => ?_
  refine h_op (r_eql rfl rfl) ?_
  refine h_nil ?_
  refine q_then ?_
  by_cases hk2 : (wayK key t i).kind = 2
  · have hiD : i < D := by
      rcases Nat.lt_or_ge i D with h1 | h1
      · exact h1
      · obtain rfl : i = D := by omega
        exact (hD.end_ hk2).elim
    refine h_yes rfl ((by omega)) ?_
    refine h_skip ?_
    refine q_then ?_
    refine h_seq ?_
    refine h_block ?_
    refine h_seq ?_
    refine h_reg ?_
    refine h_op (r_field rfl) ?_
    refine h_op (r_loadr rfl) ?_
    refine h_op (r_move rfl) ?_
    refine h_call ((Bit_s key i (by omega)).comes) rfl rfl rfl fun _ => ?_
    refine h_op (r_assign rfl) ?_
    refine h_nil ?_
    refine q_then ?_
    refine h_seq ?_
    refine ha_start [.blk g9 [.slice A i c] 178] [] mixed (same) ?_
    refine ha_take 0 rfl (r_loadc rfl) ?_
    refine ha_takeP 1 rfl (r_move rfl) ?_
    refine ha_takeP 2 rfl (r_move rfl) ?_
    refine ha_takeP 3 rfl (r_sub rfl rfl (by have := bitN_le key i; omega)) ?_
    refine ha_one 4 ?_
    refine ho_C 4 rfl ((Child_s n h (wayK key t i) (wayQ h key p i) _ (!bitAt key i) (bitN_not key i)).comes) rfl rfl rfl (fun _ => same) fun _ => ?_
    refine ha_one 5 ?_
    refine ho_X 5 rfl (rk (x_bsl rfl rfl)) (fun _ => same) fun g29 => ?_
    refine ha_one 6 ?_
    refine ho_X 6 rfl (rk (x_app rfl rfl)) (fun _ => same) fun ⟨g30, c30⟩ => ?_
    refine ha_one 7 ?_
    refine ho_SL 7 rfl (s_store rfl rfl rfl) ?_
    refine q_then ?_
    have e := sibL_succ h key p i
    unfold sibQ at e
    rw [e]
    refine h_reg ?_
    refine h_op (r_move rfl) ?_
    refine h_op (r_move rfl) ?_
    refine h_call ((Child_s n h (wayK key t i) (wayQ h key p i) _ (bitAt key i) (bitN_zero key i)).comes) rfl rfl rfl fun _ => ?_
    refine h_op (r_assign rfl) ?_
    refine h_nil ?_
    refine q_block ?_
    refine q_then ?_
    refine h_reg ?_
    refine h_op (r_move rfl) ?_
    refine h_op (r_add rfl rfl) ?_
    refine h_op (r_assign rfl) ?_
    refine h_nil ?_
    exact h_back (i + 1, some ⟨g30, 0, none⟩, c30) ((show i + 1 ≤ D by omega)) ((show D + 1 - (i + 1) < D + 1 - i by omega)) ⟨rfl, rfl, rfl, rfl, rfl, rfl, trivial⟩ (same)
  · have hiD : i = D := by
      rcases Nat.lt_or_ge i D with h1 | h1
      · exact (hk2 (hD.on i h1)).elim
      · omega
    subst hiD
    refine h_no rfl ((by omega)) ?_
    refine h_pure (φ := ∀ j, j < i → ∃ g, A = some ⟨g, 0, none⟩) (fun w s' j hj => s'.ownSome (N := i) (c := c) (by omega)) fun hA => ?_
    refine h_exit ?_
    refine q_thenE ?_
    refine q_thenE ?_
    refine q_blockE ?_
    refine q_then ?_
    refine h_seq ?_
    refine h_reg ?_
    refine h_op (r_func rfl rfl) ?_
    refine h_op (r_assign rfl) ?_
    refine h_nil ?_
    refine q_then ?_
    refine h_seq ?_
    refine h_reg ?_
    refine h_op (r_loadc rfl) ?_
    refine h_op (r_loadr rfl) ?_
    refine h_call ((NewLeaf_s n hn gh gc k (by omega) h key s b (by omega)).comes) rfl rfl rfl fun ⟨⟨h1, p1⟩, hle1, ht1⟩ => ?_
    dsimp only at hle1 ht1 ⊢
    have hT1 : RdZ h1 (some ⟨2, 0, none⟩) hashT := hT.mono hle1
    have hlc : (Tr.leaf key b).cnt = 1 := rfl
    by_cases h0 : (wayK key t i).kind = 0
    · have hput : putT key b t i = upD key t i (.leaf key b) := by
        unfold putT
        cases hw : wayK key t i <;> rw [hw] at h0 <;> first | rfl | cases h0
      rw [hput]
      refine h_op (r_assign rfl) ?_
      refine h_nil ?_
      refine q_then ?_
      refine h_seq ?_
      refine h_seq ?_
      refine ha_start [.blk g6 (Entry.cells ⟨key, s⟩) 109] [] mixed (same) ?_
      refine ha_takeP 0 rfl (r_move rfl) ?_
      refine ha_one 1 ?_
      refine ho_C 1 rfl ((Kind_s n h1 (wayK key t i) (wayQ h key p i)).comes) rfl rfl rfl (fun _ => same) fun _ => ?_
      refine ha_takeP 2 rfl (r_bool (r_eql rfl rfl) (decide_eq_true (by omega))) ?_
      refine ha_takeP 3 rfl (r_move rfl) ?_
      refine ha_off 4 rfl ?_
      refine ha_off 5 rfl ?_
      refine ha_off 6 rfl ?_
      refine ha_off 7 rfl ?_
      refine ha_off 8 rfl ?_
      refine ha_off 9 rfl ?_
      refine ha_takeP 10 rfl (r_pick rfl rfl) ?_
      refine ha_done (by kernel_rfl) ?_
      refine q_then ?_
      refine h_condT rfl ?_
      refine h_seq ?_
      refine h_reg ?_
      refine h_op (r_move rfl) ?_
      refine h_op (r_move rfl) ?_
      refine h_call ((up_s n hn gh gc (k + 2) (by omega) h1 h t p key s i hD (.leaf key b) p1 ⟨by omega, by omega⟩ A c g9 g4 g6 g7 hA).comes) rfl rfl rfl fun ⟨⟨h2, q2, k2⟩, hle2, ht2, hk2'⟩ => ?_
      dsimp only at hle2 ht2 hk2' ⊢
      refine h_op (r_assign rfl) ?_
      refine h_nil ?_
      refine q_then ?_
      refine h_ret ?_
      refine q_thenR ?_
      exact h_ret1 rfl rfl fun w s' => ⟨⟨(h2, q2, k2), hle1.trans hle2, ht2, by dsimp only; omega⟩, rfl, (same (L' := [.zone true h2, CN gc k2]) w s').res (List.Sublist.refl _) (by simp [Fa.wr])⟩
    · obtain ⟨k', v', hw⟩ : ∃ k' v', wayK key t i = .leaf k' v' := by
        cases hw : wayK key t i with
        | nil => rw [hw] at h0; exact (h0 rfl).elim
        | leaf k' v' => exact ⟨k', v', rfl⟩
        | node l r => rw [hw] at hk2; exact (hk2 rfl).elim
      have hlf : leafT n (wayK key t i) = leafOf n k' v' := by rw [hw]; rfl
      by_cases heq : k' = key
      · have hput : putT key b t i = upD key t i (.leaf key b) := by
          unfold putT
          rw [hw]
          simp only [if_pos heq]
        rw [hput]
        refine h_op (r_assign rfl) ?_
        refine h_nil ?_
        refine q_then ?_
        refine h_seq ?_
        refine h_seq ?_
        refine ha_start [.blk g6 (Entry.cells ⟨key, s⟩) 109] [] mixed (same) ?_
        refine ha_takeP 0 rfl (r_move rfl) ?_
        refine ha_one 1 ?_
        refine ho_C 1 rfl ((Kind_s n h1 (wayK key t i) (wayQ h key p i)).comes) rfl rfl rfl (fun _ => same) fun _ => ?_
        refine ha_takeP 2 rfl (r_bool (r_eql rfl rfl) (decide_eq_false (by omega))) ?_
        refine ha_takeP 3 rfl (r_move rfl) ?_
        refine ha_takeP 4 rfl (r_move rfl) ?_
        refine ha_takeP 7 rfl (r_field rfl) ?_
        refine ha_take 8 rfl (r_loadr rfl) ?_
        refine ha_one 5 ?_
        refine ho_C 5 rfl ((Leaf_s n h1 (wayK key t i) (wayQ h key p i)).comes) rfl rfl rfl (fun _ => same) fun _ => ?_
        refine ha_takeP 6 rfl (r_as (r_fldr rfl) (show _ = Value.agg k'.cells.toArray by rw [hlf]; rfl)) ?_
        refine ha_takeP 9 rfl (r_bool (r_eqr rfl rfl) (decide_eq_true heq)) ?_
        refine ha_takeP 10 rfl (r_pick rfl rfl) ?_
        refine ha_done (by kernel_rfl) ?_
        refine q_then ?_
        refine h_condT rfl ?_
        refine h_seq ?_
        refine h_reg ?_
        refine h_op (r_move rfl) ?_
        refine h_op (r_move rfl) ?_
        refine h_call ((up_s n hn gh gc (k + 2) (by omega) h1 h t p key s i hD (.leaf key b) p1 ⟨by omega, by omega⟩ A c g9 g4 g6 g7 hA).comes) rfl rfl rfl fun ⟨⟨h2, q2, k2⟩, hle2, ht2, hk2'⟩ => ?_
        dsimp only at hle2 ht2 hk2' ⊢
        refine h_op (r_assign rfl) ?_
        refine h_nil ?_
        refine q_then ?_
        refine h_ret ?_
        refine q_thenR ?_
        exact h_ret1 rfl rfl fun w s' => ⟨⟨(h2, q2, k2), hle1.trans hle2, ht2, by dsimp only; omega⟩, rfl, (same (L' := [.zone true h2, CN gc k2]) w s').res (List.Sublist.refl _) (by simp [Fa.wr])⟩
      · have hput : putT key b t i = upD key t i (pairT (wayK key t i) (.leaf key b) i) := by
          unfold putT
          rw [hw]
          simp only [if_neg heq]
        have hkt : keyT (wayK key t i) = k' := by rw [hw]; rfl
        have hcm : common (keyT (wayK key t i)) (keyT (.leaf key b)) = common k' key := by rw [hkt]; rfl
        have hcl := common_lt heq
        have hcd := hE k' v' hw heq
        have hpc : (pairT (wayK key t i) (.leaf key b) i).cnt ≤ 1000000 := by
          unfold pairT
          rw [upN_cnt, jnK_cnt]
          omega
        rw [hput]
        refine h_op (r_assign rfl) ?_
        refine h_nil ?_
        refine q_then ?_
        refine h_seq ?_
        refine h_seq ?_
        refine ha_start [.blk g6 (Entry.cells ⟨key, s⟩) 109] [] mixed (same) ?_
        refine ha_takeP 0 rfl (r_move rfl) ?_
        refine ha_one 1 ?_
        refine ho_C 1 rfl ((Kind_s n h1 (wayK key t i) (wayQ h key p i)).comes) rfl rfl rfl (fun _ => same) fun _ => ?_
        refine ha_takeP 2 rfl (r_bool (r_eql rfl rfl) (decide_eq_false (by omega))) ?_
        refine ha_takeP 3 rfl (r_move rfl) ?_
        refine ha_takeP 4 rfl (r_move rfl) ?_
        refine ha_takeP 7 rfl (r_field rfl) ?_
        refine ha_take 8 rfl (r_loadr rfl) ?_
        refine ha_one 5 ?_
        refine ho_C 5 rfl ((Leaf_s n h1 (wayK key t i) (wayQ h key p i)).comes) rfl rfl rfl (fun _ => same) fun _ => ?_
        refine ha_takeP 6 rfl (r_as (r_fldr rfl) (show _ = Value.agg k'.cells.toArray by rw [hlf]; rfl)) ?_
        refine ha_takeP 9 rfl (r_bool (r_eqr rfl rfl) (decide_eq_false heq)) ?_
        refine ha_takeP 10 rfl (r_pick rfl rfl) ?_
        refine ha_done (by kernel_rfl) ?_
        refine q_then ?_
        refine h_condF rfl ?_
        refine h_skip ?_
        refine q_then ?_
        refine h_seq ?_
        refine h_reg ?_
        refine h_op (r_move rfl) ?_
        refine h_op (r_loadc rfl) ?_
        refine h_op (r_move rfl) ?_
        refine h_op (r_move rfl) ?_
        refine h_op (r_move rfl) ?_
        refine h_call ((Pair_s n hn gh gc (k + 2) (by omega) h1 (wayK key t i) (.leaf key b) (wayQ h key p i) p1 i (by omega) (by omega) (by omega) (by omega)).comes) rfl rfl rfl fun ⟨⟨h2, q2, k2⟩, hle2, ht2, hk2'⟩ => ?_
        dsimp only at hle2 ht2 hk2' ⊢
        have hT2 : RdZ h2 (some ⟨2, 0, none⟩) hashT := hT1.mono hle2
        have hl02 : LeZ h h2 := hle1.trans hle2
        refine h_call ((up_s n hn gh gc k2 (by omega) h2 h t p key s i hD (pairT (wayK key t i) (.leaf key b) i) q2 ⟨hpc, by omega⟩ A c g9 g4 g6 g7 hA).comes) rfl rfl rfl fun ⟨⟨h3, q3, k3⟩, hle3, ht3, hk3'⟩ => ?_
        dsimp only at hle3 ht3 hk3' ⊢
        refine h_op (r_assign rfl) ?_
        refine h_nil ?_
        refine q_then ?_
        refine h_ret ?_
        exact h_ret1 rfl rfl fun w s' => ⟨⟨(h3, q3, k3), hl02.trans hle3, ht3, by dsimp only; omega⟩, rfl, (same (L' := [.zone true h3, CN gc k3]) w s').res (List.Sublist.refl _) (by simp [Fa.wr])⟩
theorem PPut_s (n : Nat) (hn : n ≤ 256) (gh gc k : Nat) (hk : k ≤ 100000000) (h : Zh) [hT : RdZ h (some ⟨2, 0, none⟩) hashT] (t : Tr) (p : Option Addr) [ht : TrZ n h t p] (key : B32) (s : Sl) (b : List UInt8) [hs : SlZ h s b] (hb : b.length ≤ 100000000) (D : Nat) (hD : WayTo key t D) (hE : EndOk key t D) (hct : t.cnt ≤ 100000) :
    Spec Tryz.prog 97 [.pointer (some ⟨gh, 0, none⟩), .pointer p, .agg (Entry.cells ⟨key, s⟩).toArray].toArray [HR gh gc n] [.zone true h, CN gc k]
      (fun u : {u : Zh × Option Addr × Nat // LeZ h u.1 ∧ TrZ n u.1 (putT key b t D) u.2.1 ∧ u.2.2 ≤ k + 1600} => .pointer u.1.2.1) (fun u => [.zone true u.1.1, CN gc u.1.2.2]) := by
  refine spec_of Tryz.func97 rfl (n := 11) rfl rfl ?_
  intro W
  refine h_seq ?_
  refine h_reg ?_
  refine h_opX (x_box rfl) fun g5 => ?_
  refine h_op (r_assign rfl) ?_
  refine h_nil ?_
  refine q_then ?_
  refine h_seq ?_
  refine h_reg ?_
  refine h_op (r_move rfl) ?_
  refine h_op (r_move rfl) ?_
  refine h_op (r_loadr rfl) ?_
  refine h_call ((PAt_s n hn gh gc k hk h t p key s b hb D hD hE hct).comes) rfl rfl rfl fun ⟨⟨h1, q1, k1⟩, hle1, ht1, hk1⟩ => ?_
  dsimp only at hle1 ht1 hk1 ⊢
  refine h_op (r_assign rfl) ?_
  refine h_nil ?_
  refine q_then ?_
  refine h_ret ?_
  exact h_ret1 rfl rfl fun w s => ⟨⟨(h1, q1, k1), hle1, ht1, hk1⟩, rfl, (same (L' := [.zone true h1, CN gc k1]) w s).res (List.Sublist.refl _) (by simp [Fa.wr])⟩
/-- trees that keys are put into, one after the other -/
def Puts (l : List En) (ts : Nat → Tr) : Prop := ∀ i e, l[i]? = some e → (ts i).cnt ≤ 100000 ∧ ∃ D, WayTo e.key (ts i) D ∧ EndOk e.key (ts i) D ∧ ts (i + 1) = putT e.key e.val (ts i) D
def b16 (i : Nat) : Nat := 1600 * i
theorem PAll_s (n : Nat) (hn : n ≤ 256) (gh gc k : Nat) (h : Zh) [hT : RdZ h (some ⟨2, 0, none⟩) hashT] (l : List En) (hk : k + 1600 * l.length ≤ 100000000) (hv : ValsZ h l) (ts : Nat → Tr) (hts : Puts l ts) (p : Option Addr) [ht : TrZ n h (ts 0) p] (B : Option Addr) (c : Nat) :
    Spec Tryz.prog 54 [.pointer (some ⟨gh, 0, none⟩), .pointer p, .slice B l.length c].toArray [HR gh gc n, .rd B (ents l)] [.zone true h, CN gc k]
      (fun u : {u : Zh × Option Addr × Nat // LeZ h u.1 ∧ TrZ n u.1 (ts l.length) u.2.1 ∧ u.2.2 ≤ k + 1600 * l.length} => .pointer u.1.2.1) (fun u => [.zone true u.1.1, CN gc u.1.2.2]) := by
  refine spec_of Tryz.func54 rfl (n := 21) rfl rfl ?_
  intro W
  refine h_seq ?_
  refine h_reg ?_
  refine h_op (r_assign rfl) ?_
  refine h_nil ?_
  refine q_then ?_
  refine h_seq ?_
  refine h_seq ?_
  refine h_reg ?_
  refine h_op (r_move rfl) ?_
  refine h_op (r_len rfl) ?_
  refine h_op (r_move rfl) ?_
  refine h_nil ?_
  refine q_then ?_
  refine h_block ?_
  refine h_loop (fun (s : Nat × Zh × Option Addr × Nat) => s.1 ≤ l.length ∧ LeZ h s.2.1 ∧ TrZ n s.2.1 (ts s.1) s.2.2.1 ∧ s.2.2.2 ≤ k + b16 s.1) (fun (s : Nat × Zh × Option Addr × Nat) => [(11, .int .i64 (s.1 : Int)), (10, .int .i64 (l.length : Int)), (9, .slice B l.length c), (1, .pointer s.2.2.1), (0, .pointer (some ⟨gh, 0, none⟩))]) (fun (s : Nat × Zh × Option Addr × Nat) => [.zone true s.2.1, CN gc s.2.2.2, HR gh gc n, .rd B (ents l)]) (fun (s : Nat × Zh × Option Addr × Nat) => l.length - s.1) (0, h, p, k) (⟨Nat.zero_le _, LeZ.refl h, ht, Nat.le_add_right _ _⟩) ⟨rfl, rfl, rfl, rfl, rfl, trivial⟩ (same) ?_
  rintro ⟨i, h1, q, kk⟩ ⟨hi, hle1, ht1, hkk⟩
  dsimp only at hi hle1 ht1 hkk ⊢
  have hb1 : b16 i = 1600 * i := rfl
  have hb2 : b16 (i + 1) = 1600 * (i + 1) := by unfold b16; omega
  refine h_seq ?_
  refine h_reg ?_
  refine h_op (r_lss rfl rfl) ?_
  refine h_nil ?_
  refine q_then ?_
  refine h_seq ?_
  refine h_cond rfl (fun hlt => ?_) (fun hlt => ?_)
  · obtain ⟨e, he⟩ := getE (l := l) (k := i) (by omega)
    refine h_pure (φ := ∃ b o, B = some ⟨b, o, none⟩) (fun w s => Rd.some (s.ok (.rd B (ents l)) (by simp)) (by rw [ents_len]; omega)) ?_
    rintro ⟨bb, o, rfl⟩
    obtain ⟨hcn, D, hD, hE, hput⟩ := hts i e he
    obtain ⟨hs, hvl⟩ := (hv e (List.mem_of_getElem? he))
    obtain ⟨⟨key, sl⟩, b⟩ := e
    dsimp only at hs hvl hput
    have hT1 : RdZ h1 (some ⟨2, 0, none⟩) hashT := hT.mono hle1
    have hs1 : SlZ h1 sl b := hs.mono hle1
    refine h_skip ?_
    refine q_then ?_
    refine h_seq ?_
    refine h_block ?_
    refine h_seq ?_
    refine h_reg ?_
    refine h_op (r_idx rfl rfl) ?_
    refine h_op (r_nthr rfl (out := Entry.cells ⟨key, sl⟩) (Entry.cells_length _) (ents_at he)) ?_
    refine h_opX (x_alloc) fun g8 => ?_
    refine h_opS (s_storer rfl rfl) ?_
    refine h_nil ?_
    refine q_then ?_
    refine h_reg ?_
    refine h_op (r_move rfl) ?_
    refine h_op (r_move rfl) ?_
    refine h_op (r_loadr rfl) ?_
    refine h_call ((PPut_s n hn gh gc kk (by omega) h1 (ts i) q key sl b (by omega) D hD hE hcn).comes) rfl rfl rfl fun ⟨⟨h2, q2, k2⟩, hle2, ht2, hk2⟩ => ?_
    dsimp only at hle2 ht2 hk2 ⊢
    rw [← hput] at ht2
    refine h_op (r_assign rfl) ?_
    refine h_nil ?_
    refine q_block ?_
    refine q_then ?_
    refine h_reg ?_
    refine h_op (r_add rfl rfl) ?_
    refine h_op (r_move rfl) ?_
    refine h_nil ?_
    have hk3 : k2 ≤ k + b16 (i + 1) := by omega
    have hi3 : i + 1 ≤ l.length := by omega
    exact h_back (i + 1, h2, q2, k2) (⟨hi3, hle1.trans hle2, ht2, hk3⟩) ((show l.length - (i + 1) < l.length - i by omega)) ⟨rfl, rfl, rfl, rfl, rfl, trivial⟩ (same)
  · obtain rfl : i = l.length := by omega
    refine h_exit ?_
    refine q_thenE ?_
    refine q_thenE ?_
    refine q_blockE ?_
    refine q_then ?_
    refine h_seq ?_
    refine h_reg ?_
    refine h_op (r_move rfl) ?_
    refine h_op (r_assign rfl) ?_
    refine h_nil ?_
    refine q_then ?_
    refine h_ret ?_
    exact h_ret1 rfl rfl fun w s => ⟨⟨(h1, q, kk), hle1, ht1, by dsimp only; omega⟩, rfl, (same (L' := [.zone true h1, CN gc kk]) w s).res (List.Sublist.refl _) (by simp [Fa.wr])⟩
end Go.Proofs.YtgfkbeipckbkiaaGreatDoor
/- U44 -/
namespace Go.Proofs.YtgfkbeipckbkiaaGreatDoor
set_option linter.unusedSimpArgs false
set_option linter.unusedVariables false
open Go.RowKit
/-- whether two proofs are the same -/
def eqP (p q : Proof) (ss tt : List B32) : Prop := p.kind = q.kind ∧ p.depth = q.depth ∧ p.leaf = q.leaf ∧ p.bitmap = q.bitmap ∧ ss = tt
instance (p q : Proof) (ss tt : List B32) : Decidable (eqP p q ss tt) := inferInstanceAs (Decidable (_ ∧ _))
end Go.Proofs.YtgfkbeipckbkiaaGreatDoor
/- U45 -/
namespace Go.Proofs.YtgfkbeipckbkiaaGreatDoor
set_option linter.unusedSimpArgs false
set_option linter.unusedVariables false
open Go.RowKit
end Go.Proofs.YtgfkbeipckbkiaaGreatDoor
/- U26p -/
namespace Go.Proofs.YtgfkbeipckbkiaaGreatDoor
set_option linter.unusedSimpArgs false
set_option linter.unusedVariables false
open Go.RowKit
end Go.Proofs.YtgfkbeipckbkiaaGreatDoor
/- U17 -/
namespace Go.Proofs.YtgfkbeipckbkiaaGreatDoor
set_option linter.unusedSimpArgs false
set_option linter.unusedVariables false
open Go.RowKit
end Go.Proofs.YtgfkbeipckbkiaaGreatDoor
/- U46 -/
namespace Go.Proofs.YtgfkbeipckbkiaaGreatDoor
set_option linter.unusedSimpArgs false
set_option linter.unusedVariables false
open Go.RowKit
def kB (x : UInt8) : B32 := ⟨x :: List.replicate 31 0, rfl⟩
def T15 : Tr := .node (.leaf zB32 []) (.leaf (kB 255) [])
def L15 : List En := [⟨⟨zB32, ⟨none, 0, 0⟩⟩, []⟩, ⟨⟨kB 255, ⟨none, 0, 0⟩⟩, []⟩]
def ts15 : Nat → Tr
  | 0 => .nil
  | 1 => .leaf zB32 []
  | _ => T15
theorem slz_nil (h : Zh) : SlZ h ⟨none, 0, 0⟩ [] := ⟨rfl, Nat.le_refl _, fun _ => ⟨rfl, rfl⟩, RdZ.nil _ _⟩
theorem puts15 : Puts L15 ts15 := by
  intro i e he
  match i, he with
  | 0, he =>
    obtain rfl : _ = e := Option.some.inj he
    exact ⟨by decide, 0, ⟨by omega, (by intro h; cases h), (fun i hi => by omega)⟩, (fun k' v' h => by cases h), rfl⟩
  | 1, he =>
    obtain rfl : _ = e := Option.some.inj he
    refine ⟨by decide, 0, ⟨by omega, (by intro h; cases h), (fun i hi => by omega)⟩, fun k' v' _ _ => Nat.zero_le _, ?_⟩
    have h1 : ¬ zB32 = kB 255 := by decide
    have h2 : common zB32 (kB 255) = 0 := by decide +kernel
    have h3 : bitAt zB32 0 = false := by decide +kernel
    show T15 = upD (kB 255) _ 0 (if zB32 = kB 255 then _ else pairT (.leaf zB32 []) (.leaf (kB 255) []) 0)
    rw [if_neg h1]
    show T15 = pairT (.leaf zB32 []) (.leaf (kB 255) []) 0
    unfold pairT
    show T15 = upN zB32 0 (common zB32 (kB 255) - 0) (jnK zB32 (common zB32 (kB 255)) _ _)
    rw [h2]
    show T15 = jnK zB32 0 _ _
    unfold jnK
    rw [h3, if_neg (by simp)]
    rfl
  | i + 2, he => cases he
theorem vals15 (h : Zh) : ValsZ h L15 := by
  intro e he
  simp only [L15, List.mem_cons, List.not_mem_nil, or_false] at he
  rcases he with rfl | rfl
  · exact ⟨slz_nil h, by decide⟩
  · exact ⟨slz_nil h, by decide⟩
end Go.Proofs.YtgfkbeipckbkiaaGreatDoor
/- U47 -/
namespace Go.Proofs.YtgfkbeipckbkiaaGreatDoor
set_option linter.unusedSimpArgs false
set_option linter.unusedVariables false
open Go.RowKit
theorem fill_kB (x : UInt8) : Instr.fill (plArr 1) zB32.cells.toArray [(0, Value.int .u8 (x.toNat : Int))] = some (kB x).cells.toArray := by kernel_rfl
end Go.Proofs.YtgfkbeipckbkiaaGreatDoor
/- U81 -/
namespace Go.Proofs.YtgfkbeipckbkiaaGreatDoor
set_option linter.unusedSimpArgs false
set_option linter.unusedVariables false
open Go.RowKit
def L1 : List En := [⟨⟨zB32, ⟨none, 0, 0⟩⟩, []⟩]
def ts1 : Nat → Tr
  | 0 => .nil
  | _ => .leaf zB32 []
theorem puts1 : Puts L1 ts1 := by
  intro i e he
  match i, he with
  | 0, he =>
    obtain rfl : _ = e := Option.some.inj he
    exact ⟨by decide, 0, ⟨by omega, (by intro h; cases h), (fun i hi => by omega)⟩, (fun k' v' h => by cases h), rfl⟩
  | i + 1, he => cases he
theorem vals1 (h : Zh) : ValsZ h L1 := by
  intro e he
  simp only [L1, List.mem_cons, List.not_mem_nil, or_false] at he
  subst he
  exact ⟨slz_nil h, by decide⟩
theorem rd1_pre {L : List Fa} {A : Option Addr} {cs ds : List Value} (h : Rd1 L (.rd A (cs ++ ds))) : Rd1 L (.rd A cs) := ⟨fun hw => by
  obtain ⟨h1, h2, h3⟩ := h.ok hw
  refine ⟨rfl, fun j v hv => h2 j v ?_, fun k hk => h3 k ⟨fun e => hk.1 (List.append_eq_nil_iff.1 e).1, hk.2⟩⟩
  rw [List.getElem?_append_left (List.getElem?_eq_some_iff.1 hv).1]
  exact hv⟩
instance (L : List Fa) (A : Option Addr) [h : Rd1 L (.rd A (ents L15))] : Rd1 L (.rd A (ents L1)) := rd1_pre (ds := ents (L15.drop 1)) h
theorem its_pre {h : Zh} {A : Option Addr} {l m : List Item} (hr : RdZ h A (its (l ++ m))) : RdZ h A (its l) := ⟨fun j v hv => hr.at_ j v (by
  rw [← its_app, List.getElem?_append_left (List.getElem?_eq_some_iff.1 hv).1]
  exact hv)⟩
abbrev lf1 : Item := ⟨1, zB32, leafOf 256 zB32 []⟩
abbrev lf2 : Item := ⟨1, zB32, leafOf 256 (kB 255) []⟩
theorem add1 : addT 256 (.leaf zB32 []) [kB 7, kB 9] 0 = [lf1] := rfl
abbrev S19 : Sub := .two (.one lf1) (.one lf2)
abbrev ks19 : List B32 := [zB32, kB 255]
theorem keys0 : keysB ks19 0 false = [zB32] := by decide +kernel
theorem keys1 : keysB ks19 0 true = [kB 255] := by decide +kernel
theorem sub19 : subT 256 T15 ks19 0 = S19 := by
  show Sub.two (subT 256 (.leaf zB32 []) (keysB ks19 0 false) 1) (subT 256 (.leaf (kB 255) []) (keysB ks19 0 true) 1) = _
  rw [keys0, keys1]
  rfl
theorem add19 : addT 256 T15 ks19 0 = [innerI, lf1, lf2] := by rw [addT_flat, sub19]; rfl
theorem parse19 : parseM [innerI, lf1, lf2] = .ok S19 := by
  have h1 : S19.ok := by rw [← sub19]; exact subT_ok ..
  exact flat_parse h1 (by decide)
theorem parse19b : parseM [innerI, lf1] = .error 5 := by
  unfold parseM
  have e : readM 256 [innerI, lf1] = none := by
    show readM (255 + 1) [innerI, lf1] = none
    unfold readM
    rw [if_pos rfl]
    have e1 : readM 255 [lf1] = some (.one lf1, []) := rfl
    rw [e1]
    rfl
  rw [e, if_pos (show [innerI, lf1].all kindOk = true from rfl)]
theorem ends19 : endsM S19 ks19 0 = ([(lf1, 1), (lf2, 1)], true) := by
  unfold endsM
  rw [keys0, keys1]
  rfl
theorem mkT15 : mkT L15 0 = T15 := by
  rw [mkT_two (by decide) (by decide)]
  have b0 : bitAt zB32 0 = false := by decide +kernel
  have b1 : bitAt (kB 255) 0 = true := by decide +kernel
  have h1 : part L15 0 false = [⟨⟨zB32, ⟨none, 0, 0⟩⟩, []⟩] := by simp [part, L15, En.key, b0, b1]
  have h2 : part L15 0 true = [⟨⟨kB 255, ⟨none, 0, 0⟩⟩, []⟩] := by simp [part, L15, En.key, b0, b1]
  rw [h1, h2, mkT_one _ (by decide), mkT_one _ (by decide)]
  rfl
theorem alike15 : Alike L15 0 := Alike.start (by decide)
theorem root19 : rootM 256 L15 0 = dgS 256 S19 := by
  unfold rootM
  rw [mkT15, ← sub19, subT_dg]
theorem keysE79 : keysE [kB 7, kB 9] = 0 := by decide +kernel
theorem keysE19 : keysE ks19 = 0 := by decide +kernel
theorem chk19 (h : Zh) (A : Option Addr) (c : Nat) [hr : RdZ h A (its [innerI, lf1, lf2])] (hc : 3 ≤ c) : Spec Tryz.prog 55 [.slice A 3 c].toArray [.zone false h] [] (fun _ : Unit => .int .i64 0) (fun _ => []) := by
  have := mCheck_s h [innerI, lf1, lf2] A c hc (by decide)
  rw [show checkM [innerI, lf1, lf2] = 0 by unfold checkM; rw [parse19]] at this
  exact this
theorem chk19b (h : Zh) (A : Option Addr) (c : Nat) [hr : RdZ h A (its [innerI, lf1])] (hc : 2 ≤ c) : Spec Tryz.prog 55 [.slice A 2 c].toArray [.zone false h] [] (fun _ : Unit => .int .i64 5) (fun _ => []) := by
  have := mCheck_s h [innerI, lf1] A c hc (by decide)
  rw [show checkM [innerI, lf1] = 5 by unfold checkM; rw [parse19b]] at this
  exact this
theorem alive19_s (h : Zh) [hT : RdZ h (some ⟨2, 0, none⟩) hashT] : Spec Tryz.prog 14 ([] : List Value).toArray [] [.zone true h] (fun _ : {x : Zh // LeZ h x} => .bool true) (fun x => [.zone true x.1]) := by
  refine spec_of Tryz.func14 rfl (n := 140) rfl rfl ?_
  intro W
  refine h_seq ?_
  refine h_reg ?_
  refine h_op (r_assign rfl) ?_
  refine h_nil ?_
  refine q_then ?_
  refine h_seq ?_
  refine h_reg ?_
  refine h_call ((Hash_s 256 (by decide)).comes) rfl rfl rfl fun ⟨gh, gc⟩ => ?_
  dsimp only
  refine h_op (r_assign rfl) ?_
  refine h_nil ?_
  refine q_then ?_
  refine h_seq ?_
  refine h_seq ?_
  refine h_reg ?_
  refine h_op (r_move rfl) ?_
  refine h_op (r_nilR rfl rfl) ?_
  refine h_nil ?_
  refine q_then ?_
  refine h_condF rfl ?_
  refine h_skip ?_
  refine q_then ?_
  refine h_seq ?_
  refine h_reg ?_
  refine h_op (r_build rfl) ?_
  refine h_op (r_build (out := (kB 255).cells) rfl (hf := ⟨fill_kB 255⟩)) ?_
  refine h_op (r_build rfl) ?_
  refine h_opX (x_bsl rfl rfl) fun g19 => ?_
  refine h_op (r_assign rfl) ?_
  refine h_nil ?_
  refine q_then ?_
  refine h_seq ?_
  change H _ _ _ _ _ (.own _ _ _ _ (ents L15) :: _) _
  have ht0 : TrZ 256 h (ts1 0) none := ⟨rfl⟩
  refine h_reg ?_
  refine h_op (r_move rfl) ?_
  refine h_op (r_move rfl) ?_
  refine h_op (r_move rfl) ?_
  refine h_op (r_slHb rfl rfl) ?_
  refine h_call ((PAll_s 256 (by decide) gh gc 0 h L1 (by decide) (vals1 h) ts1 puts1 none (some ⟨g19, 0, none⟩) 2).comes) rfl rfl rfl fun ⟨⟨h1, q1, k1⟩, hle1, ht1, hk1⟩ => ?_
  dsimp only at hle1 ht1 hk1 ⊢
  have hT1 : RdZ h1 (some ⟨2, 0, none⟩) hashT := hT.mono hle1
  have hk1' : k1 ≤ 0 + 1600 * 1 := hk1
  refine h_op (r_build (out := (kB 7).cells) rfl (hf := ⟨fill_kB 7⟩)) ?_
  refine h_op (r_build (out := (kB 9).cells) rfl (hf := ⟨fill_kB 9⟩)) ?_
  refine h_opX (x_bsl rfl rfl) fun g28 => ?_
  change H _ _ _ _ _ (.own _ _ _ _ (dgs [kB 7, kB 9]) :: _) _
  refine h_freezeO (.slice (some ⟨g28, 0, none⟩) 2 2) fun h2 B2 c2 e2 hle2 hlen2 hnil2 hz2 hr2 => ?_
  injection e2 with e2 _ e2'
  subst e2 e2'
  have hT2 : RdZ h2 (some ⟨2, 0, none⟩) hashT := hT1.mono hz2
  have hP1 := mProve_s h2 [kB 7, kB 9] (some ⟨g28, 0, none⟩) 2 256 (by decide) gh gc k1 (by omega) (.leaf zB32 []) q1 ⟨ht1.ok.mono hz2⟩ (by decide) keysE79 (by decide) (by decide)
  rw [add1] at hP1
  refine h_call (hP1.comes) rfl rfl rfl fun ⟨A29, c29⟩ => ?_
  dsimp only
  change H _ _ _ _ _ (.own (.slice A29 1 c29) 1 _ _ (its [lf1]) :: _) _
  refine h_freezeO (.slice A29 1 c29) fun h3 B3 c3 e3 hle3 hlen3 hnil3 hz3 hr3 => ?_
  injection e3 with e3 _ e3'
  subst e3 e3'
  obtain ⟨b3, o3, rfl, _⟩ := hr3.at_ 0 (.int .i64 1) rfl
  have hT3 : RdZ h3 (some ⟨2, 0, none⟩) hashT := hT2.mono hz3
  have ht3 : TrZ 256 h3 (ts15 0) none := ⟨rfl⟩
  refine h_op (r_move rfl) ?_
  refine h_op (r_extract rfl rfl) ?_
  refine h_op (r_extract rfl rfl) ?_
  refine h_op (r_assign rfl) ?_
  refine h_op (r_assign rfl) ?_
  refine h_nil ?_
  refine q_then ?_
  refine h_seq ?_
  refine h_reg ?_
  refine h_op (r_move rfl) ?_
  refine h_op (r_move rfl) ?_
  refine h_op (r_move rfl) ?_
  refine h_call ((PAll_s 256 (by decide) gh gc k1 h3 L15 (by show k1 + 1600 * 2 ≤ _; omega) (vals15 h3) ts15 puts15 none (some ⟨g19, 0, none⟩) 2).comes) rfl rfl rfl fun ⟨⟨h4, q4, k4⟩, hle4, ht4', hk4⟩ => ?_
  dsimp only at hle4 ht4' hk4 ⊢
  have ht4 : TrZ 256 h4 T15 q4 := ht4'
  have hT4 : RdZ h4 (some ⟨2, 0, none⟩) hashT := hT3.mono hle4
  have hk4' : k4 ≤ k1 + 1600 * 2 := hk4
  refine h_op (r_build rfl) ?_
  refine h_op (r_build (out := (kB 255).cells) rfl (hf := ⟨fill_kB 255⟩)) ?_
  refine h_opX (x_bsl rfl rfl) fun g39 => ?_
  change H _ _ _ _ _ (.own _ _ _ _ (dgs ks19) :: _) _
  refine h_freezeO (.slice (some ⟨g39, 0, none⟩) 2 2) fun h5 B5 c5 e5 hle5 hlen5 hnil5 hz5 hr5 => ?_
  injection e5 with e5 _ e5'
  subst e5 e5'
  have hT5 : RdZ h5 (some ⟨2, 0, none⟩) hashT := hT4.mono hz5
  have hPr := mProve_s h5 ks19 (some ⟨g39, 0, none⟩) 2 256 (by decide) gh gc k4 (by omega) T15 q4 ⟨ht4.ok.mono hz5⟩ (by decide) keysE19 (by decide) (by decide)
  rw [add19] at hPr
  refine h_call (hPr.comes) rfl rfl rfl fun ⟨A40, c40⟩ => ?_
  dsimp only
  change H _ _ _ _ _ (.own (.slice A40 3 c40) 3 _ _ (its [innerI, lf1, lf2]) :: _) _
  refine h_freezeO (.slice A40 3 c40) fun h6 B6 c6 e6 hle6 hlen6 hnil6 hz6 hr6 => ?_
  injection e6 with e6 _ e6'
  subst e6 e6'
  obtain ⟨b6, o6, rfl, _⟩ := hr6.at_ 0 (.int .i64 2) rfl
  have hT6 : RdZ h6 (some ⟨2, 0, none⟩) hashT := hT5.mono hz6
  have hrn : RdZ h6 none (dgs []) := RdZ.nil _ _
  have hPb := mProve_bad ([] : List B32) none 0 none gh (by decide) (by decide)
  rw [show keysE [] = 10 from rfl] at hPb
  refine h_op (r_move rfl) ?_
  refine h_op (r_extract rfl rfl) ?_
  refine h_op (r_extract rfl rfl) ?_
  refine h_op (r_assign rfl) ?_
  refine h_op (r_assign rfl) ?_
  refine h_nil ?_
  refine q_then ?_
  refine h_seq ?_
  refine h_reg ?_
  refine h_op (r_move rfl) ?_
  refine h_call (hPb.comes) rfl rfl rfl fun _ => ?_
  refine h_op (r_move rfl) ?_
  refine h_op (r_extract rfl rfl) ?_
  refine h_op (r_extract rfl rfl) ?_
  refine h_op (r_assign rfl) ?_
  refine h_op (r_assign rfl) ?_
  refine h_nil ?_
  refine q_then ?_
  refine h_seq ?_
  refine h_reg ?_
  refine h_op (r_move rfl) ?_
  refine h_op (r_build rfl) ?_
  refine h_op (r_build (out := (kB 255).cells) rfl (hf := ⟨fill_kB 255⟩)) ?_
  refine h_opX (x_bsl rfl rfl) fun g52 => ?_
  change H _ _ _ _ _ (.own _ _ _ _ (dgs ks19) :: _) _
  refine h_freezeO (.slice (some ⟨g52, 0, none⟩) 2 2) fun h7 B7 c7 e7 hle7 hlen7 hnil7 hz7 hr7 => ?_
  injection e7 with e7 _ e7'
  subst e7 e7'
  have hT7 : RdZ h7 (some ⟨2, 0, none⟩) hashT := hT6.mono hz7
  have hEn := Ends_s h7 [innerI, lf1, lf2] (some ⟨b6, o6, none⟩) c40 hle6 (by decide) ks19 (some ⟨g52, 0, none⟩) 2 S19 parse19 (by decide) (by decide) keysE19 _ _ ends19
  simp only [↓reduceIte] at hEn
  refine h_call (hEn.comes) rfl rfl rfl fun ⟨A53, c53⟩ => ?_
  dsimp only
  change H _ _ _ _ _ (.own (.slice A53 2 c53) 2 _ _ (endC [(lf1, 1), (lf2, 1)]) :: _) _
  refine h_freezeO (.slice A53 2 c53) fun h8 B8 c8 e8 hle8 hlen8 hnil8 hz8 hr8 => ?_
  injection e8 with e8 _ e8'
  subst e8 e8'
  obtain ⟨b8, o8, rfl, _⟩ := hr8.at_ 0 (.int .i64 1) rfl
  have hT8 : RdZ h8 (some ⟨2, 0, none⟩) hashT := hT7.mono hz8
  have hRo := mRoot_s h8 256 (by decide) gh gc k4 (by omega) [innerI, lf1, lf2] (some ⟨b6, o6, none⟩) c40 hle6 (by decide) S19 parse19
  have hRr := Root_any 256 (by decide) h8 (d := 0) (by decide) alike15 (by decide) (vals15 h8) (some ⟨g19, 0, none⟩) 2
  rw [root19] at hRr
  have hr8c : RdZ h8 (some ⟨b8, o8 + 98, none⟩) (End.cells ⟨lf2, 1⟩) := hr8.part (n := 98) (.mk' (pre := End.cells ⟨lf1, 1⟩) (post := []) rfl (End.cells_length _) (End.cells_length _))
  have hr8b : RdZ h8 (some ⟨b6, o6, none⟩) (its [innerI, lf1, lf2]) := inferInstance
  refine h_op (r_move rfl) ?_
  refine h_op (r_extract rfl rfl) ?_
  refine h_op (r_extract rfl rfl) ?_
  refine h_op (r_assign rfl) ?_
  refine h_op (r_assign rfl) ?_
  refine h_nil ?_
  refine q_then ?_
  refine h_seq ?_
  refine h_reg ?_
  refine h_op (r_move rfl) ?_
  refine h_op (r_move rfl) ?_
  refine h_call (hRo.comes) rfl rfl rfl fun _ => ?_
  refine h_op (r_move rfl) ?_
  refine h_op (r_extract rfl rfl) ?_
  refine h_op (r_extract rfl rfl) ?_
  refine h_opX (x_alloc) fun g11 => ?_
  refine h_opS (s_storer rfl rfl) ?_
  refine h_op (r_assign rfl) ?_
  refine h_nil ?_
  refine q_then ?_
  refine h_seq ?_
  refine ha_start [.zone true h8, .blk g11 (dgS 256 S19).cells 41] [] mixed (same) ?_
  refine ha_takeP 0 rfl (r_move rfl) ?_
  refine ha_takeP 1 rfl (r_len rfl) ?_
  refine ha_takeP 2 rfl (r_bool (r_eql rfl rfl) rfl) ?_
  refine ha_takeP 3 rfl (r_move rfl) ?_
  refine ha_takeP 4 rfl (r_move rfl) ?_
  refine ha_takeP 5 rfl (r_idx rfl rfl (hm := by simp)) ?_
  refine ha_takeP 6 rfl (r_field rfl) ?_
  refine ha_take 7 rfl (r_nth rfl (its_kind (l := [lf1]) (k := 0) rfl)) ?_
  refine ha_takeP 8 rfl (r_bool (r_eql rfl rfl) rfl) ?_
  refine ha_takeP 9 rfl (r_pick rfl rfl) ?_
  refine ha_takeP 10 rfl (r_move rfl) ?_
  refine ha_takeP 11 rfl (r_move rfl) ?_
  refine ha_takeP 12 rfl (r_bool (r_eql rfl rfl) rfl) ?_
  refine ha_takeP 13 rfl (r_pick rfl rfl) ?_
  refine ha_takeP 14 rfl (r_move rfl) ?_
  refine ha_takeP 15 rfl (r_move rfl) ?_
  refine ha_takeP 16 rfl (r_len rfl) ?_
  refine ha_takeP 17 rfl (r_bool (r_eql rfl rfl) rfl) ?_
  refine ha_takeP 18 rfl (r_pick rfl rfl) ?_
  refine ha_takeP 19 rfl (r_move rfl) ?_
  refine ha_takeP 20 rfl (r_move rfl) ?_
  refine ha_takeP 21 rfl (r_idx rfl rfl (hm := by simp)) ?_
  refine ha_takeP 22 rfl (r_field rfl) ?_
  refine ha_take 23 rfl (r_nth rfl (its_kind (l := [innerI, lf1, lf2]) (k := 0) rfl)) ?_
  refine ha_takeP 24 rfl (r_bool (r_eql rfl rfl) rfl) ?_
  refine ha_takeP 25 rfl (r_pick rfl rfl) ?_
  refine ha_takeP 26 rfl (r_move rfl) ?_
  refine ha_takeP 27 rfl (r_move rfl) ?_
  refine ha_takeP 28 rfl (r_idx rfl rfl (hm := by simp)) ?_
  refine ha_takeP 29 rfl (r_field rfl) ?_
  refine ha_take 30 rfl (r_nth rfl (its_kind (l := [innerI, lf1, lf2]) (k := 2) rfl)) ?_
  refine ha_takeP 31 rfl (r_bool (r_eql rfl rfl) rfl) ?_
  refine ha_takeP 32 rfl (r_pick rfl rfl) ?_
  refine ha_takeP 33 rfl (r_move rfl) ?_
  refine ha_takeP 34 rfl (r_move rfl) ?_
  refine ha_takeP 35 rfl (r_bool (r_eql rfl rfl) rfl) ?_
  refine ha_takeP 36 rfl (r_pick rfl rfl) ?_
  refine ha_takeP 37 rfl (r_move rfl) ?_
  refine ha_takeP 38 rfl (r_move rfl) ?_
  refine ha_takeP 39 rfl (r_bool (r_eql rfl rfl) rfl) ?_
  refine ha_takeP 40 rfl (r_pick rfl rfl) ?_
  refine ha_takeP 41 rfl (r_move rfl) ?_
  refine ha_takeP 42 rfl (r_move rfl) ?_
  refine ha_one 43 ?_
  refine ho_C 43 rfl ((chk19 h8 (some ⟨b6, o6, none⟩) c40 hle6).comes) rfl rfl rfl (fun _ => same) fun _ => ?_
  refine ha_takeP 44 rfl (r_bool (r_eql rfl rfl) rfl) ?_
  refine ha_takeP 45 rfl (r_pick rfl rfl) ?_
  refine ha_takeP 46 rfl (r_move rfl) ?_
  refine ha_takeP 47 rfl (r_move rfl) ?_
  refine ha_takeP 48 rfl (r_slHb rfl rfl) ?_
  refine ha_one 49 ?_
  refine ho_C 49 rfl ((chk19b h8 (some ⟨b6, o6, none⟩) c40 (hr := its_pre (l := [innerI, lf1]) (m := [lf2]) hr8b) (by omega)).comes) rfl rfl rfl (fun _ => same) fun _ => ?_
  refine ha_takeP 50 rfl (r_bool (r_eql rfl rfl) rfl) ?_
  refine ha_takeP 51 rfl (r_pick rfl rfl) ?_
  refine ha_takeP 52 rfl (r_move rfl) ?_
  refine ha_takeP 53 rfl (r_move rfl) ?_
  refine ha_takeP 54 rfl (r_len rfl) ?_
  refine ha_takeP 55 rfl (r_bool (r_eql rfl rfl) rfl) ?_
  refine ha_takeP 56 rfl (r_pick rfl rfl) ?_
  refine ha_takeP 57 rfl (r_move rfl) ?_
  refine ha_takeP 58 rfl (r_move rfl) ?_
  refine ha_takeP 59 rfl (r_idx rfl rfl (hm := by simp)) ?_
  refine ha_takeP 60 rfl (r_field rfl) ?_
  refine ha_take 61 rfl (r_loadc (cs := End.cells ⟨lf2, 1⟩) (off := 97) rfl) ?_
  refine ha_takeP 62 rfl (r_bool (r_eql rfl rfl) rfl) ?_
  refine ha_takeP 63 rfl (r_pick rfl rfl) ?_
  refine ha_takeP 64 rfl (r_move rfl) ?_
  refine ha_takeP 65 rfl (r_move rfl) ?_
  refine ha_takeP 66 rfl (r_bool (r_eql rfl rfl) rfl) ?_
  refine ha_takeP 67 rfl (r_pick rfl rfl) ?_
  refine ha_takeP 68 rfl (r_move rfl) ?_
  refine ha_take 69 rfl (r_loadr rfl) ?_
  refine ha_takeP 70 rfl (r_move rfl) ?_
  refine ha_one 71 ?_
  refine ho_C 71 rfl (hRr.comes) rfl rfl rfl (fun _ => same) fun _ => ?_
  refine ha_takeP 72 rfl (r_bool (r_eqr rfl rfl) (decide_eq_true rfl)) ?_
  refine ha_takeP 73 rfl (r_pick rfl rfl) ?_
  refine ha_takeP 74 rfl (r_move rfl) ?_
  refine ha_takeP 75 rfl (r_move rfl) ?_
  refine ha_takeP 76 rfl (r_bool (r_eql rfl rfl) rfl) ?_
  refine ha_takeP 77 rfl (r_pick rfl rfl) ?_
  refine ha_takeP 78 rfl (r_assign rfl) ?_
  refine ha_done (by kernel_rfl) ?_
  refine q_then ?_
  refine h_ret ?_
  exact h_ret1 rfl rfl fun w s => ⟨⟨h8, (((((hle1.trans hz2).trans hz3).trans hle4).trans hz5).trans hz6).trans (hz7.trans hz8)⟩, rfl, (same (L' := [.zone true h8]) w s).res (List.Sublist.refl _) (by simp [Fa.wr])⟩
end Go.Proofs.YtgfkbeipckbkiaaGreatDoor
/- U68 -/
namespace Go.Proofs.YtgfkbeipckbkiaaGreatDoor
set_option linter.unusedSimpArgs false
set_option linter.unusedVariables false
open Go.RowKit
def preS (n : Nat) : Sub → List UInt8
  | .one x => preI x
  | .two l r => preN (dgS n l) (dgS n r)
theorem preS_len (n : Nat) (t : Sub) : (preS n t).length ≤ 65 := by
  cases t with
  | one x => exact preI_len x
  | two l r => show (preN _ _).length ≤ 65; rw [preN_len]; exact Nat.le_refl _
/-- what is read at an index -/
theorem readM_at {d : Nat} {l : List Item} {at_ : Nat} {t : Sub} {r : List Item} (h : readM d (l.drop at_) = some (t, r)) : ∃ x, l[at_]? = some x ∧ ((x.kind ≠ 2 ∧ t = .one x ∧ r = l.drop (at_ + 1)) ∨ (x.kind = 2 ∧ ∃ d' t1 t2 m, d = d' + 1 ∧ t = .two t1 t2 ∧ at_ + 1 ≤ m ∧ m ≤ l.length ∧ readM d' (l.drop (at_ + 1)) = some (t1, l.drop m) ∧ readM d' (l.drop m) = some (t2, r))) := by
  cases hx : l[at_]? with
  | none =>
    rw [List.drop_of_length_le (List.getElem?_eq_none_iff.1 hx)] at h
    cases d <;> cases h
  | some x =>
    refine ⟨x, rfl, ?_⟩
    have hat := (List.getElem?_eq_some_iff.1 hx).1
    rw [drop_get hx] at h
    by_cases hk : x.kind = 2
    · match d, h with
      | 0, h => unfold readM at h; rw [if_pos hk] at h; cases h
      | d + 1, h =>
        unfold readM at h
        rw [if_pos hk] at h
        obtain ⟨p, hp, h⟩ := Option.bind_eq_some_iff.1 h
        obtain ⟨q, hq, h⟩ := Option.bind_eq_some_iff.1 h
        obtain ⟨t1, r1⟩ := p
        obtain ⟨t2, r2⟩ := q
        obtain ⟨m, hm0, hml, rfl⟩ := readM_suffix d _ t1 r1 hp
        rw [List.length_drop] at hml
        simp only [Option.some.injEq, Prod.mk.injEq] at h
        rw [List.drop_drop] at hp hq
        refine .inr ⟨hk, d, t1, t2, at_ + 1 + m, rfl, h.1.symm, by omega, by omega, hp, ?_⟩
        rw [← h.2]
        exact hq
    · have h' : readM d (x :: l.drop (at_ + 1)) = some (.one x, l.drop (at_ + 1)) := by cases d <;> (unfold readM; rw [if_neg hk])
      rw [h'] at h
      simp only [Option.some.injEq, Prod.mk.injEq] at h
      exact .inl ⟨hk, h.1.symm, h.2.symm⟩
section
variable (n : Nat) (hn : n ≤ 256) (l : List Item) (A : Option Addr) (c : Nat) (hl : l.length ≤ 1000000) (hok : l.all kindOk = true)
def RDig (d at_ : Nat) (t : Sub) : Prop := Spec Tryz.prog 75 [.int .i64 (n : Int), .slice A l.length c, .int .i64 (at_ : Int), .int .i64 (256 - (d : Int))].toArray [.rd A (its l)] [] (fun _ : Unit => .agg (dgS n t).cells.toArray) (fun _ => [])
def RPre (d at_ : Nat) (t : Sub) : Prop := Spec Tryz.prog 32 [.int .i64 (n : Int), .slice A l.length c, .int .i64 (at_ : Int), .int .i64 (256 - (d : Int))].toArray [.rd A (its l)] [] (fun u : Nat × Nat => .slice (some ⟨u.1, 0, none⟩) (preS n t).length u.2) (fun u => [.own (.slice (some ⟨u.1, 0, none⟩) (preS n t).length u.2) (preS n t).length 5 1 (bc (preS n t))])
include hl hok
theorem rPre_one (d at_ : Nat) (x : Item) (hx : l[at_]? = some x) (hk2 : x.kind ≠ 2) (hk3 : x.kind ≠ 3) : RPre n l A c d at_ (.one x) := by
  have hat : at_ < l.length := (List.getElem?_eq_some_iff.1 hx).1
  have hki := its_kind hx
  have hlf := its_lf hx
  have hkd : x.kind = 0 ∨ x.kind = 1 := by
    have := List.all_eq_true.1 hok x (List.mem_of_getElem? hx)
    unfold kindOk at this
    simp at this
    omega
  show Spec _ _ _ _ _ (fun u : Nat × Nat => .slice (some ⟨u.1, 0, none⟩) (preI x).length u.2) (fun u => [.own (.slice (some ⟨u.1, 0, none⟩) (preI x).length u.2) (preI x).length 5 1 (bc (preI x))])
  refine spec_of Tryz.func32 rfl (n := 46) rfl rfl ?_
  intro W
  refine h_pure (φ := ∃ b o, A = some ⟨b, o, none⟩) (fun w s => Rd.some (s.ok (.rd A (its l)) (by simp)) (by rw [its_len]; omega)) ?_
  rintro ⟨b, o, rfl⟩
  by_cases h1 : x.kind = 1
  · rw [show preI x = preL x.leaf from if_pos h1]
    refine h_seq ?_
    refine h_reg ?_
    refine h_op (r_assign rfl) ?_
    refine h_nil ?_
    refine q_then ?_
    refine h_seq ?_
    refine h_seq ?_
    refine h_reg ?_
    refine h_op (r_move rfl) ?_
    refine h_op (r_move rfl) ?_
    refine h_op (r_idx rfl rfl) ?_
    refine h_op (r_field rfl) ?_
    refine h_op (r_nth rfl hki) ?_
    refine h_nil ?_
    refine q_then ?_
    refine h_block ?_
    refine h_seq ?_
    refine h_reg ?_
    refine h_op (r_bool (r_eql rfl rfl) (decide_eq_false (by omega))) ?_
    refine h_op (r_assign rfl) ?_
    refine h_nil ?_
    refine q_then ?_
    refine h_condF rfl ?_
    refine h_seq ?_
    refine h_reg ?_
    refine h_op (r_bool (r_eql rfl rfl) (decide_eq_true h1)) ?_
    refine h_op (r_assign rfl) ?_
    refine h_nil ?_
    refine q_then ?_
    refine h_condT rfl ?_
    refine h_seq ?_
    refine h_reg ?_
    refine h_op (r_move rfl) ?_
    refine h_op (r_move rfl) ?_
    refine h_op (r_idx rfl rfl) ?_
    refine h_op (r_field rfl (O' := o + (at_ * 97 + 33)) (by omega)) ?_
    refine h_op (r_nthr rfl (out := x.leaf.cells) (Leaf.cells_length _) hlf) ?_
    refine h_call ((rLeaf_s x.leaf).comes) rfl rfl rfl fun ⟨g25, c25⟩ => ?_
    refine h_op (r_assign rfl) ?_
    refine h_nil ?_
    refine q_then ?_
    refine h_ret ?_
    refine q_blockR ?_
    refine q_thenR ?_
    exact h_ret1 rfl rfl fun w s => ⟨(g25, c25), rfl, (same w s).res (List.Sublist.refl _) (by simp [Fa.wr])⟩
  · rw [show preI x = [3] from if_neg h1, show ([3] : List UInt8).length = 1 from rfl]
    refine h_seq ?_
    refine h_reg ?_
    refine h_op (r_assign rfl) ?_
    refine h_nil ?_
    refine q_then ?_
    refine h_seq ?_
    refine h_seq ?_
    refine h_reg ?_
    refine h_op (r_move rfl) ?_
    refine h_op (r_move rfl) ?_
    refine h_op (r_idx rfl rfl) ?_
    refine h_op (r_field rfl) ?_
    refine h_op (r_nth rfl hki) ?_
    refine h_nil ?_
    refine q_then ?_
    refine h_block ?_
    refine h_seq ?_
    refine h_reg ?_
    refine h_op (r_bool (r_eql rfl rfl) (decide_eq_true (by omega))) ?_
    refine h_op (r_assign rfl) ?_
    refine h_nil ?_
    refine q_then ?_
    refine h_condT rfl ?_
    refine h_seq ?_
    refine h_reg ?_
    refine h_opX (x_bslV (ys := [.int .u8 3]) (bc [3]) rfl rfl (bc_one _)) fun g17 => ?_
    refine h_op (r_assign rfl) ?_
    refine h_nil ?_
    refine q_then ?_
    refine h_ret ?_
    refine q_blockR ?_
    refine q_thenR ?_
    exact h_ret1 rfl rfl fun w s => ⟨(g17, 1), rfl, (same (L' := [.own (.slice (some ⟨g17, 0, none⟩) 1 1) 1 5 1 (bc [3])]) w s).res (List.Sublist.refl _) (by simp [Fa.wr])⟩
omit hok in
theorem rPre_two (d at_ : Nat) (hd : d < 256) (x : Item) (hx : l[at_]? = some x) (hk2 : x.kind = 2) (t1 t2 : Sub) (m : Nat) (h1 : readM d (l.drop (at_ + 1)) = some (t1, l.drop m)) (hm : at_ + 1 ≤ m ∧ m ≤ l.length) (hD1 : RDig n l A c d (at_ + 1) t1) (hD2 : RDig n l A c d m t2) : RPre n l A c (d + 1) at_ (.two t1 t2) := by
  have hat : at_ < l.length := (List.getElem?_eq_some_iff.1 hx).1
  have hki := its_kind hx
  have hSk := Skip_s l A c hl d (by omega) (at_ + 1)
  rw [h1, show skipI l (some (t1, l.drop m)) = (m : Int) by simp only [skipI, List.length_drop]; omega] at hSk
  unfold RDig at hD1 hD2
  show Spec _ _ _ _ _ (fun u : Nat × Nat => .slice (some ⟨u.1, 0, none⟩) (preN (dgS n t1) (dgS n t2)).length u.2) (fun u => [.own (.slice (some ⟨u.1, 0, none⟩) (preN (dgS n t1) (dgS n t2)).length u.2) (preN (dgS n t1) (dgS n t2)).length 5 1 (bc (preN (dgS n t1) (dgS n t2)))])
  refine spec_of Tryz.func32 rfl (n := 46) rfl rfl ?_
  intro W
  refine h_pure (φ := ∃ b o, A = some ⟨b, o, none⟩) (fun w s => Rd.some (s.ok (.rd A (its l)) (by simp)) (by rw [its_len]; omega)) ?_
  rintro ⟨b, o, rfl⟩
  refine h_seq ?_
  refine h_reg ?_
  refine h_op (r_assign rfl) ?_
  refine h_nil ?_
  refine q_then ?_
  refine h_seq ?_
  refine h_seq ?_
  refine h_reg ?_
  refine h_op (r_move rfl) ?_
  refine h_op (r_move rfl) ?_
  refine h_op (r_idx rfl rfl) ?_
  refine h_op (r_field rfl) ?_
  refine h_op (r_nth rfl hki) ?_
  refine h_nil ?_
  refine q_then ?_
  refine h_block ?_
  refine h_seq ?_
  refine h_reg ?_
  refine h_op (r_bool (r_eql rfl rfl) (decide_eq_false (by omega))) ?_
  refine h_op (r_assign rfl) ?_
  refine h_nil ?_
  refine q_then ?_
  refine h_condF rfl ?_
  refine h_seq ?_
  refine h_reg ?_
  refine h_op (r_bool (r_eql rfl rfl) (decide_eq_false (by omega))) ?_
  refine h_op (r_assign rfl) ?_
  refine h_nil ?_
  refine q_then ?_
  refine h_condF rfl ?_
  refine h_skip ?_
  refine q_block ?_
  refine q_then ?_
  refine h_seq ?_
  refine h_reg ?_
  refine h_op (r_move rfl) ?_
  refine h_op (r_move rfl) ?_
  refine h_op (r_int (r_add rfl rfl) (show _ = ((at_ + 1 : Nat) : Int) by omega)) ?_
  refine h_op (r_move rfl) ?_
  refine h_op (r_int (r_add rfl rfl) (show _ = 256 - (d : Int) by omega)) ?_
  refine h_call (hSk.comes) rfl rfl rfl fun _ => ?_
  refine h_op (r_assign rfl) ?_
  refine h_nil ?_
  refine q_then ?_
  refine h_seq ?_
  refine h_reg ?_
  refine h_op (r_move rfl) ?_
  refine h_op (r_move rfl) ?_
  refine h_op (r_move rfl) ?_
  refine h_op (r_int (r_add rfl rfl) (show _ = ((at_ + 1 : Nat) : Int) by omega)) ?_
  refine h_op (r_move rfl) ?_
  refine h_op (r_int (r_add rfl rfl) (show _ = 256 - (d : Int) by omega)) ?_
  refine h_call (hD1.comes) rfl rfl rfl fun _ => ?_
  refine h_op (r_move rfl) ?_
  refine h_op (r_move rfl) ?_
  refine h_op (r_move rfl) ?_
  refine h_op (r_move rfl) ?_
  refine h_op (r_int (r_add rfl rfl) (show _ = 256 - (d : Int) by omega)) ?_
  refine h_call (hD2.comes) rfl rfl rfl fun _ => ?_
  refine h_call ((rNode_s (dgS n t1) (dgS n t2)).comes) rfl rfl rfl fun ⟨g45, c45⟩ => ?_
  refine h_op (r_assign rfl) ?_
  refine h_nil ?_
  refine q_then ?_
  refine h_ret ?_
  exact h_ret1 rfl rfl fun w s => ⟨(g45, c45), rfl, (same w s).res (List.Sublist.refl _) (by simp [Fa.wr])⟩
include hn
omit hok hn in
theorem rDig_3 (d at_ : Nat) (x : Item) (hx : l[at_]? = some x) (hk3 : x.kind = 3) : RDig n l A c d at_ (.one x) := by
  have hat : at_ < l.length := (List.getElem?_eq_some_iff.1 hx).1
  have hki := its_kind hx
  have hdg := its_dg hx
  unfold RDig
  rw [show dgS n (.one x) = x.digest from if_pos hk3]
  refine spec_of Tryz.func75 rfl (n := 27) rfl rfl ?_
  intro W
  refine h_pure (φ := ∃ b o, A = some ⟨b, o, none⟩) (fun w s => Rd.some (s.ok (.rd A (its l)) (by simp)) (by rw [its_len]; omega)) ?_
  rintro ⟨b, o, rfl⟩
  refine h_seq ?_
  refine h_reg ?_
  refine h_opX (x_alloc) fun g8 => ?_
  refine h_nil ?_
  refine q_then ?_
  refine h_seq ?_
  refine h_seq ?_
  refine h_reg ?_
  refine h_op (r_move rfl) ?_
  refine h_op (r_move rfl) ?_
  refine h_op (r_idx rfl rfl) ?_
  refine h_op (r_field rfl) ?_
  refine h_op (r_nth rfl hki) ?_
  refine h_op (r_bool (r_eql rfl rfl) (decide_eq_true hk3)) ?_
  refine h_nil ?_
  refine q_then ?_
  refine h_condT rfl ?_
  refine h_seq ?_
  refine h_reg ?_
  refine h_op (r_move rfl) ?_
  refine h_op (r_move rfl) ?_
  refine h_op (r_idx rfl rfl) ?_
  refine h_op (r_field rfl (O' := o + (at_ * 97 + 1)) (by omega)) ?_
  refine h_op (r_nthr rfl (out := x.digest.cells) (B32.cells_length _) hdg) ?_
  refine h_opS (s_storer rfl rfl) ?_
  refine h_nil ?_
  refine q_then ?_
  refine h_ret ?_
  refine q_thenR ?_
  exact h_ret1 rfl (rv_row rfl) fun w s => ⟨(), rfl, s.res (List.nil_sublist _) (by simp)⟩
omit hok in
theorem rDig_pre (d at_ : Nat) (x : Item) (hx : l[at_]? = some x) (hk3 : x.kind ≠ 3) (t : Sub) (ht : dgS n t = sumB n (preS n t)) (hP : RPre n l A c d at_ t) : RDig n l A c d at_ t := by
  have hat : at_ < l.length := (List.getElem?_eq_some_iff.1 hx).1
  have hki := its_kind hx
  have hpl := preS_len n t
  unfold RPre at hP
  unfold RDig
  rw [ht]
  refine spec_of Tryz.func75 rfl (n := 27) rfl rfl ?_
  intro W
  refine h_pure (φ := ∃ b o, A = some ⟨b, o, none⟩) (fun w s => Rd.some (s.ok (.rd A (its l)) (by simp)) (by rw [its_len]; omega)) ?_
  rintro ⟨b, o, rfl⟩
  refine h_seq ?_
  refine h_reg ?_
  refine h_opX (x_alloc) fun g8 => ?_
  refine h_nil ?_
  refine q_then ?_
  refine h_seq ?_
  refine h_seq ?_
  refine h_reg ?_
  refine h_op (r_move rfl) ?_
  refine h_op (r_move rfl) ?_
  refine h_op (r_idx rfl rfl) ?_
  refine h_op (r_field rfl) ?_
  refine h_op (r_nth rfl hki) ?_
  refine h_op (r_bool (r_eql rfl rfl) (decide_eq_false hk3)) ?_
  refine h_nil ?_
  refine q_then ?_
  refine h_condF rfl ?_
  refine h_skip ?_
  refine q_then ?_
  refine h_seq ?_
  refine h_reg ?_
  refine h_op (r_move rfl) ?_
  refine h_op (r_move rfl) ?_
  refine h_op (r_move rfl) ?_
  refine h_op (r_move rfl) ?_
  refine h_op (r_move rfl) ?_
  refine h_call (hP.comes) rfl rfl rfl fun ⟨g25, c25⟩ => ?_
  refine h_call ((refSum5_s n hn (preS n t) (some ⟨g25, 0, none⟩) c25 (fun h => by cases h) (by omega)).comes) rfl rfl rfl fun _ => ?_
  refine h_opS (s_storer rfl rfl) ?_
  refine h_nil ?_
  refine q_then ?_
  refine h_ret ?_
  exact h_ret1 rfl (rv_row rfl) fun w s => ⟨(), rfl, s.res (List.nil_sublist _) (by simp)⟩
theorem rDig_s : ∀ (t : Sub) (d : Nat), d ≤ 256 → ∀ (at_ : Nat) (r : List Item), readM d (l.drop at_) = some (t, r) → RDig n l A c d at_ t
  | .one x, d, hd, at_, r, h => by
    obtain ⟨y, hy, ⟨hk, e, _⟩ | ⟨_, d', t1, t2, m, _, e, _⟩⟩ := readM_at h
    · injection e with e
      subst e
      by_cases h3 : x.kind = 3
      · exact rDig_3 n l A c hl d at_ x hy h3
      · exact rDig_pre n hn l A c hl d at_ x hy h3 _ (if_neg h3) (rPre_one n l A c hl hok d at_ x hy hk h3)
    · cases e
  | .two t1 t2, d, hd, at_, r, h => by
    obtain ⟨y, hy, ⟨hk, e, _⟩ | ⟨hk, d', t1', t2', m, rfl, e, hm1, hm2, h1, h2⟩⟩ := readM_at h
    · cases e
    · injection e with e1 e2
      subst e1 e2
      have i1 := rDig_s t1 d' (by omega) (at_ + 1) _ h1
      have i2 := rDig_s t2 d' (by omega) m _ h2
      exact rDig_pre n hn l A c hl (d' + 1) at_ y hy (by omega) _ rfl (rPre_two n l A c hl d' at_ (by omega) y hy hk t1 t2 m h1 ⟨hm1, hm2⟩ i1 i2)
end
end Go.Proofs.YtgfkbeipckbkiaaGreatDoor
/- U82 -/
namespace Go.Proofs.YtgfkbeipckbkiaaGreatDoor
set_option linter.unusedSimpArgs false
set_option linter.unusedVariables false
open Go.RowKit
theorem checkM_ok {l : List Item} {t : Sub} (h : parseM l = .ok t) : checkM l = 0 := by unfold checkM; rw [h]
theorem checkM_bad {l : List Item} {e : Int} (h : parseM l = .error e) : checkM l = e := by unfold checkM; rw [h]
theorem parse_err {l : List Item} {e : Int} (h : parseM l = .error e) : e ≠ 0 := by
  unfold parseM at h
  split at h
  · split at h
    · split at h
      · cases h
      · injection h with h; omega
    · injection h with h; omega
  · injection h with h; omega
end Go.Proofs.YtgfkbeipckbkiaaGreatDoor
/- E20 -/
namespace Go.Proofs.YtgfkbeipckbkiaaGreatDoor
set_option linter.unusedSimpArgs false
set_option linter.unusedVariables false
open Go.RowKit
theorem keysB_sum (f : B32 → Nat) (d : Nat) : ∀ ks : List B32, ((keysB ks d false).map f).sum + ((keysB ks d true).map f).sum = (ks.map f).sum
  | [] => rfl
  | k :: ks => by
    have ih := keysB_sum f d ks
    unfold keysB at ih ⊢
    cases hb : bitAt k d
    · rw [List.filter_cons_of_pos (by simp [hb]), List.filter_cons_of_neg (by simp [hb]), List.map_cons, List.map_cons, List.sum_cons, List.sum_cons]; omega
    · rw [List.filter_cons_of_neg (by simp [hb]), List.filter_cons_of_pos (by simp [hb]), List.map_cons, List.map_cons, List.sum_cons, List.sum_cons]; omega
theorem keysB_len (ks : List B32) (d : Nat) : (keysB ks d false).length + (keysB ks d true).length = ks.length := by
  unfold keysB
  induction ks with
  | nil => rfl
  | cons e m ih =>
    cases hb : bitAt e d
    · rw [List.filter_cons_of_pos (by simp [hb]), List.filter_cons_of_neg (by simp [hb]), List.length_cons, List.length_cons]; omega
    · rw [List.filter_cons_of_neg (by simp [hb]), List.filter_cons_of_pos (by simp [hb]), List.length_cons, List.length_cons]; omega
theorem loc_ge (k : B32) : ∀ (t : Tr) (d : Nat), d ≤ (loc k t d).2
  | .nil, d => by unfold loc; exact Nat.le_refl _
  | .leaf _ _, d => by unfold loc; exact Nat.le_refl _
  | .node l r, d => by
    unfold loc
    have h1 := loc_ge k l (d + 1)
    have h2 := loc_ge k r (d + 1)
    split <;> omega
def depS (t : Tr) (ks : List B32) (d : Nat) : Nat := (ks.map fun k => (loc k t d).2).sum
theorem depS_ge (t : Tr) (d : Nat) : ∀ ks : List B32, d * ks.length ≤ depS t ks d
  | [] => Nat.zero_le _
  | k :: ks => by
    have h1 := loc_ge k t d
    have h2 := depS_ge t d ks
    unfold depS at h2 ⊢
    rw [List.map_cons, List.sum_cons, List.length_cons, Nat.mul_succ]
    omega
theorem depS_node (l r : Tr) (ks : List B32) (d : Nat) : depS (.node l r) ks d = depS l (keysB ks d false) (d + 1) + depS r (keysB ks d true) (d + 1) := by
  unfold depS
  rw [← keysB_sum _ d ks]
  congr 2
  · exact List.map_congr_left fun k hk => by rw [loc, (keysB_mem.1 hk).2]; rfl
  · exact List.map_congr_left fun k hk => by rw [loc, (keysB_mem.1 hk).2]; rfl
theorem subT_len (n : Nat) : ∀ (t : Tr) (ks : List B32) (d : Nat), (subT n t ks d).sz + 2 * (d * ks.length) ≤ 2 * depS t ks d + 1
  | .nil, ks, d => by have := depS_ge .nil d ks; unfold subT; show 1 + _ ≤ _; omega
  | .leaf k v, [], d => by show 1 + 2 * (d * 0) ≤ _; omega
  | .leaf k v, x :: ks, d => by have := depS_ge (.leaf k v) d (x :: ks); show 1 + _ ≤ _; omega
  | .node l r, [], d => by show 1 + 2 * (d * 0) ≤ _; omega
  | .node l r, x :: ks, d => by
    have h1 := subT_len n l (keysB (x :: ks) d false) (d + 1)
    have h2 := subT_len n r (keysB (x :: ks) d true) (d + 1)
    have h3 := keysB_len (x :: ks) d
    have h4 : 1 ≤ (x :: ks).length := by simp
    rw [depS_node, ← h3]
    rw [← h3] at h4
    unfold subT
    show (subT n l (keysB (x :: ks) d false) (d + 1)).sz + (subT n r (keysB (x :: ks) d true) (d + 1)).sz + 1 + _ ≤ _
    generalize (keysB (x :: ks) d false).length = a at *
    generalize (keysB (x :: ks) d true).length = b at *
    rw [show (d + 1) * a = d * a + a from Nat.succ_mul d a] at h1
    rw [show (d + 1) * b = d * b + b from Nat.succ_mul d b] at h2
    rw [Nat.mul_add]
    omega
theorem addT_short (n : Nat) (t : Tr) (ks : List B32) : (addT n t ks 0).length ≤ 2 * depS t ks 0 + 1 := by
  have := subT_len n t ks 0
  rw [addT_flat, Sub.flat_len]
  omega
end Go.Proofs.YtgfkbeipckbkiaaGreatDoor
