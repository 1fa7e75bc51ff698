/- put: a key that is put into a tree; put: At, Put, All; Proofs compared, copied, held against a claim; Proofs copied, and held against a claim; A proof's siblings, expanded: the program; fold: the end, Backward; fold.ways: what it yields; fold.Steps, fold.Root; Booleans compared; small laws; Shifts by eight; a slice's first cells as an array; verify: the small steps, supports, leads; codec: Size, Kind, Encode of a proof that is well-formed; codec.Encode of a proof that is well-formed; codec.Decode of the bytes of a proof that is well-formed; codec.Decode of the bytes of a proof that is well-formed; codec.Decode, of all bytes; Interface values held against nil; verify: Verify, Claim, Accepts; The library's comparison of byte slices; A slice cut at its length and its capacity; Calls of the library's entries (reflection), as single operations; errors.As at the errors of this program; fault.Code, First; errors.As at the errors of this program; fault.Code, First; verify.Check; errors.As at the errors of this program; fault.Code, First; The condition of two laid variables (the table of rounds, errors.errorType's handle); arguments that are claims, pairs of byte slices, roots with proofs, opened; The reference's proof of a map: List, Bytes, End, Sibling; When a proof is well-formed: plain; law15.alive: it is true; The reference's proof of a map; The laws' trees: inputs that they leave out; a key's way; law15: ProofIsTrue is true (joined texts: U42 U43 U44 U45 U17 U18 U19 U20 N12 N13 U90 U56 U57 U58 U59 U91 N14 U92 N15 N16 N17 U93 U94 U95 TV U49 U26p U46 U50 U51t U52) -/
import Derived.Test.YtjhlbbgikccclaaGreatDoorR7
import Derived.WideLaws
import Derived.Lib.BytesEntry
import Derived.Lib.Bytealg
import Derived.Stop.Asserts
import Derived.LaidEql
import Derived.LaidHandle
set_option linter.all false
/- U42 -/
namespace Go.Proofs.YtjhlbbgikccclaaGreatDoor
open Go.RowKit
def jnK (key : B32) (d : Nat) (x y : Tr) : Tr := if bitAt key d then joinT y x else joinT x y
def jnC (key : B32) (d : Nat) (x y : Tr) : Nat := if bitAt key d then joinC y x else joinC x y
theorem jnC_le (key : B32) (d : Nat) (x y : Tr) : jnC key d x y ≤ 3 := by
 unfold jnC
 split <;> exact joinC_le _ _
theorem joinT_cnt (l r : Tr) : (joinT l r).cnt = l.cnt + r.cnt := by
 have key : ∀ t : Tr, t.kind = 0 → t.cnt = 0 := fun t ht => by cases t <;> first | rfl | cases ht
 unfold joinT
 split
 ·rename_i h; rw [key l h.1]; omega
 ·split
  ·rename_i h; rw [key r h.1]; omega
  ·rfl
theorem jnK_cnt (key : B32) (d : Nat) (x y : Tr) : (jnK key d x y).cnt = x.cnt + y.cnt := by
 unfold jnK
 split
 ·rw [joinT_cnt]; omega
 ·rw [joinT_cnt]
theorem pjoin_s (n : Nat) (hn : n ≤ 256) (gh gc k : Nat) (hk : k ≤ 100000000000) (h : Zh) [hT : RdZ h (some ⟨1, 0, none⟩) hashT] (x y : Tr) (p q : Option Addr) [hx : TrZ n h x p] [hy : TrZ n h y q] (key : B32) (d : Nat) (hd : d < 256) (hct : x.cnt + y.cnt ≤ 1000000000000) :
  Spec Tryz.prog 217 [.pointer (some ⟨gh, 0, none⟩), .pointer p, .pointer q, .agg key.cells.toArray, .int .i64 (d : Int)].toArray [HR gh gc n] [.zone true h, CN gc k] (fun u : {u : Zh × Option Addr // LeZ h u.1 ∧ TrZ n u.1 (jnK key d x y) u.2} => .pointer u.1.2) (fun u => [.zone true u.1.1, CN gc (k + jnC key d x y)]) := by
 unfold jnK jnC
 refine spec_of Tryz.func217 rfl (n := 23) rfl rfl ?_
 intro W
 refine yR ?_
 refine h_opX (x_box rfl) fun g8 => ?_
 refine yS rfl ?_
 refine yN ?_
 refine h_seq ?_
 refine yR ?_
 refine h_op (r_loadr rfl) ?_
 refine yM rfl ?_
 refine h_call ((Bit_s key d hd).comes) rfl rfl rfl fun _ => ?_
 refine h_op (r_bool (r_eql rfl rfl) (show _ = !bitAt key d by unfold bitN; cases bitAt key d <;> rfl)) ?_
 refine yN ?_
 cases hb : bitAt key d
 ·rw [if_neg (by simp), if_neg (by simp)]
  refine h_condT rfl ?_
  refine yR ?_
  refine yM rfl ?_
  refine yM rfl ?_
  refine yM rfl ?_
  refine h_call ((Join_s n hn gh gc k hk h x y p q hct).comes) rfl rfl rfl fun ⟨⟨h1, r⟩, hle, ht⟩ => ?_
  dsimp only at hle ht ⊢
  refine yS rfl ?_
  refine yN ?_
  refine h_ret ?_
  refine q_thenR ?_
  exact h_ret1 rfl rfl fun w s => ⟨⟨(h1, r), hle, ht⟩, rfl, (same w s).res (List.Sublist.refl _) (by simp [Fa.wr])⟩
 ·rw [if_pos rfl, if_pos rfl]
  refine h_condF rfl ?_
  refine h_skip ?_
  refine q_then ?_
  refine yR ?_
  refine yM rfl ?_
  refine yM rfl ?_
  refine yM rfl ?_
  refine h_call ((Join_s n hn gh gc k hk h y x q p (by omega)).comes) rfl rfl rfl fun ⟨⟨h1, r⟩, hle, ht⟩ => ?_
  dsimp only at hle ht ⊢
  refine yS rfl ?_
  refine yN ?_
  refine h_ret ?_
  exact h_ret1 rfl rfl fun w s => ⟨⟨(h1, r), hle, ht⟩, rfl, (same w s).res (List.Sublist.refl _) (by simp [Fa.wr])⟩
def upN (key : B32) (d : Nat) : Nat → Tr → Tr
 | 0, t => t
 | j + 1, t => upN key d j (jnK key (d + j) t .nil)
def keyT : Tr → B32
 | .leaf k _ => k
 | _ => zB32
def pairT (a b : Tr) (d : Nat) : Tr := upN (keyT a) d (common (keyT a) (keyT b) - d) (jnK (keyT a) (common (keyT a) (keyT b)) a b)
theorem leafT_key (n : Nat) (t : Tr) : (leafT n t).key = keyT t := by cases t <;> rfl
theorem Pair_s (n : Nat) (hn : n ≤ 256) (gh gc k : Nat) (hk : k ≤ 10000000000) (h : Zh) [hT : RdZ h (some ⟨1, 0, none⟩) hashT] (a b : Tr) (p q : Option Addr) [ha : TrZ n h a p] [hb : TrZ n h b q] (d : Nat) (hd : d ≤ 256) (hc : common (keyT a) (keyT b) < 256) (hdc : d ≤ common (keyT a) (keyT b)) (hct : a.cnt + b.cnt ≤ 1000000000) :
  Spec Tryz.prog 218 [.pointer (some ⟨gh, 0, none⟩), .pointer p, .pointer q, .int .i64 (d : Int)].toArray [HR gh gc n] [.zone true h, CN gc k] (fun u : {u : Zh × Option Addr × Nat // LeZ h u.1 ∧ TrZ n u.1 (pairT a b d) u.2.1 ∧ u.2.2 ≤ k + 771} => .pointer u.1.2.1) (fun u => [.zone true u.1.1, CN gc u.1.2.2]) := by
 unfold pairT
 refine spec_of Tryz.func218 rfl (n := 40) rfl rfl ?_
 intro W
 refine yR ?_
 refine yS rfl ?_
 refine yN ?_
 refine yR ?_
 refine yM rfl ?_
 refine h_call ((Leaf_s n h a p).comes) rfl rfl rfl fun _ => ?_
 refine h_op (r_as (r_fldr rfl) (show _ = Value.agg (keyT a).cells.toArray by rw [← leafT_key n a])) ?_
 refine h_opX (x_alloc) fun g9 => ?_
 refine h_opS (s_storer rfl rfl) ?_
 refine yN ?_
 refine h_seq ?_
 refine ha_start [.blk g9 (keyT a).cells 34] [] mixed (same) ?_
 refine ha_take 0 rfl (r_loadr rfl) ?_
 refine ha_takeP 1 rfl (r_move rfl) ?_
 refine ha_one 2 ?_
 refine ho_C 2 rfl ((Leaf_s n h b q).comes) rfl rfl rfl (fun xx => same) fun _ => ?_
 refine ha_takeP 3 rfl (r_as (r_fldr rfl) (show _ = Value.agg (keyT b).cells.toArray by rw [← leafT_key n b])) ?_
 refine ha_one 4 ?_
 refine ho_C 4 rfl ((Common_s (keyT a) (keyT b)).comes) rfl rfl rfl (fun xx => same) fun _ => ?_
 refine ha_takeP 5 rfl (r_assign rfl) ?_
 refine ha_done (by kernel_rfl) ?_
 refine q_then ?_
 generalize common (keyT a) (keyT b) = c at *
 generalize keyT a = key at *
 refine yR ?_
 refine yM rfl ?_
 refine yM rfl ?_
 refine yM rfl ?_
 refine h_op (r_loadr rfl) ?_
 refine yM rfl ?_
 refine h_call ((pjoin_s n hn gh gc k (by omega) h a b p q key c hc (by omega)).comes) rfl rfl rfl fun ⟨⟨h1, q1⟩, hle1, ht1⟩ => ?_
 dsimp only at hle1 ht1 ⊢
 have hc1 := jnC_le key c a b
 have hn1 := jnK_cnt key c a b
 generalize jnK key c a b = t1 at *
 have hk1 : k + jnC key c a b ≤ k + 3 := by omega
 generalize k + jnC key c a b = k1 at *
 refine yS rfl ?_
 refine yN ?_
 refine h_seq ?_
 refine yR ?_
 refine yM rfl ?_
 refine h_op (r_sub rfl rfl) ?_
 refine yS rfl ?_
 refine yN ?_
 refine h_block ?_
 obtain ⟨J, rfl⟩ : ∃ J, c = d + J := ⟨c - d, by omega⟩
 rw [show d + J - d = J by omega]
 refine h_loop (fun (s : Nat × Zh × Option Addr × Tr × Nat) => s.1 ≤ J ∧ LeZ h1 s.2.1 ∧ TrZ n s.2.1 s.2.2.2.1 s.2.2.1 ∧ upN key d s.1 s.2.2.2.1 = upN key d J t1 ∧ s.2.2.2.1.cnt ≤ 1000000000 ∧ s.2.2.2.2 ≤ k + 3 + 3 * (J - s.1)) (fun (s : Nat × Zh × Option Addr × Tr × Nat) => [(12, .int .i64 ((d + s.1 : Nat) - 1 : Int)), (11, .pointer s.2.2.1), (9, .pointer (some ⟨g9, 0, none⟩)), (3, .int .i64 (d : Int)), (0, .pointer (some ⟨gh, 0, none⟩))]) (fun (s : Nat × Zh × Option Addr × Tr × Nat) => [.zone true s.2.1, CN gc s.2.2.2.2, .blk g9 key.cells 34, HR gh gc n]) (fun (s : Nat × Zh × Option Addr × Tr × Nat) => s.1) (J, h1, q1, t1, k1) (⟨Nat.le_refl _, LeZ.refl h1, ht1, rfl, by dsimp only; omega, by dsimp only; omega⟩) ⟨rfl, rfl, rfl, rfl, rfl, trivial⟩ (same) ?_
 rintro ⟨j, h2, q2, t2, k2⟩ ⟨hj, hle2, ht2, hup, hcn, hk2⟩
 dsimp only at hj hle2 ht2 hup hcn hk2 ⊢
 refine h_seq ?_
 refine yR ?_
 refine yM rfl ?_
 refine yM rfl ?_
 refine h_op (r_geq rfl rfl) ?_
 refine yN ?_
 refine h_cond rfl (fun hlt => ?_) (fun hlt => ?_)
 ·obtain ⟨i, rfl⟩ : ∃ i, j = i + 1 := ⟨j - 1, by omega⟩
  have hT2 : RdZ h2 (some ⟨1, 0, none⟩) hashT := (hT.mono hle1).mono hle2
  refine h_E (E' := [(12, .int .i64 ((d + i : Nat) : Int)), (11, .pointer q2), (9, .pointer (some ⟨g9, 0, none⟩)), (3, .int .i64 (d : Int)), (0, .pointer (some ⟨gh, 0, none⟩))]) ⟨aI rfl (by omega), rfl, rfl, rfl, rfl, trivial⟩ ?_
  have hn3 := jnK_cnt key (d + i) t2 .nil
  have hc3 := jnC_le key (d + i) t2 .nil
  have hz : Tr.nil.cnt = 0 := rfl
  refine h_skip ?_
  refine q_then ?_
  refine h_seq ?_
  refine h_block ?_
  refine h_reg ?_
  refine yM rfl ?_
  refine yM rfl ?_
  refine h_op (r_loadr rfl) ?_
  refine yM rfl ?_
  refine h_call ((pjoin_s n hn gh gc k2 (by omega) h2 t2 .nil q2 none key (d + i) (by omega) (by omega)).comes) rfl rfl rfl fun ⟨⟨h3, q3⟩, hle3, ht3⟩ => ?_
  dsimp only at hle3 ht3 ⊢
  refine yS rfl ?_
  refine h_nil ?_
  refine q_block ?_
  refine q_then ?_
  refine h_reg ?_
  refine yM rfl ?_
  refine h_op (r_sub rfl rfl) ?_
  refine yS rfl ?_
  refine h_nil ?_
  exact h_back (i, h3, q3, jnK key (d + i) t2 .nil, k2 + jnC key (d + i) t2 .nil) (⟨by dsimp only; omega, hle2.trans hle3, ht3, hup, by dsimp only; omega, by dsimp only; omega⟩) ((show i < i + 1 by omega)) ⟨aI rfl (by omega), rfl, rfl, rfl, rfl, trivial⟩ (same)
 ·obtain rfl : j = 0 := by omega
  have hup' : t2 = upN key d J t1 := hup
  rw [← hup']
  refine h_exit ?_
  refine q_thenE ?_
  refine q_thenE ?_
  refine q_blockE ?_
  refine q_then ?_
  refine yR ?_
  refine yM rfl ?_
  refine yS rfl ?_
  refine yN ?_
  refine h_ret ?_
  exact h_ret1 rfl rfl fun w s => ⟨⟨(h2, q2, k2), hle1.trans hle2, ht2, by dsimp only; omega⟩, rfl, (same (L' := [.zone true h2, CN gc k2]) w s).res (List.Sublist.refl _) (by simp [Fa.wr])⟩
theorem BackwardP_s (A : Option Addr) (N c : Nat) : Spec Tryz.prog 216 [.slice A N c].toArray [] [] (fun g : Nat => .func (.func 257) #[] [.pointer (some ⟨g, 0, none⟩)].toArray) (fun g => [.blk g [.slice A N c] 195]) := by
 refine spec_of Tryz.func216 rfl (n := 4) rfl rfl ?_
 intro W
 refine yR ?_
 refine h_opX (x_box1 rfl) fun g1 => ?_
 refine yS rfl ?_
 refine yN ?_
 refine yR ?_
 refine h_op (r_func rfl rfl) ?_
 refine yS rfl ?_
 refine yN ?_
 refine h_ret ?_
 exact h_ret1 rfl rfl fun w s => ⟨g1, rfl, s.res (List.Sublist.refl _) (by simp [Fa.wr])⟩
theorem BackwardP_it (ps : List (Option Addr)) (A : Option Addr) (c g1 : Nat) (hA : ∀ i, i < ps.length → ∃ g, A = some ⟨g, 0, none⟩) (hl : ps.length ≤ 1000000) : IterG Tryz.prog 257 [.pointer (some ⟨g1, 0, none⟩)] [.rd (some ⟨g1, 0, none⟩) [.slice A ps.length c], .rd A (ptrs ps)] [] ps.length (fun k (_ : Unit) => [.int .i64 ((ps.length - 1 - k : Nat) : Int), .pointer (ps.getD (ps.length - 1 - k) none)]) (fun _ _ => []) [] := by
 refine iter_ofG Tryz.func257 rfl (n := 19) rfl rfl ?_
 intro l J Rm m0 W hJw hRm hy h0
 refine yR ?_
 refine h_op (r_loadc rfl) ?_
 refine h_op (r_len rfl) ?_
 refine h_op (r_sub rfl rfl) ?_
 refine yS rfl ?_
 refine yN ?_
 refine h_block ?_
 refine h_loop (fun (s : Nat × List Fa) => s.1 ≤ ps.length ∧ J s.1 s.2) (fun (s : Nat × List Fa) => [(3, .int .i64 ((ps.length : Int) - 1 - (s.1 : Int))), (0, .func (.yield l) #[] #[]), (1, .pointer (some ⟨g1, 0, none⟩))]) (fun (s : Nat × List Fa) => .rd (some ⟨g1, 0, none⟩) [.slice A ps.length c] :: .rd A (ptrs ps) :: (s.2 ++ Rm)) (fun (s : Nat × List Fa) => ps.length - s.1) (0, m0) ((show 0 ≤ ps.length ∧ J 0 m0 from ⟨by omega, h0⟩)) ⟨aI rfl (by dsimp only; omega), rfl, rfl, trivial⟩ (fun _ s => s) ?_
 rintro ⟨k, mm⟩ ⟨hk, hJ⟩
 dsimp only at hk hJ ⊢
 refine h_seq ?_
 refine yR ?_
 refine yM rfl ?_
 refine h_op (r_geq rfl rfl) ?_
 refine yN ?_
 refine h_cond rfl (fun h => ?_) (fun h => ?_)
 ·have hk2 : k < ps.length := by omega
  obtain ⟨g, rfl⟩ := hA k hk2
  have hget : ps[ps.length - 1 - k]? = some (ps.getD (ps.length - 1 - k) none) := by rw [List.getD_eq_getElem?_getD, List.getElem?_eq_getElem (by omega), Option.getD_some]
  refine h_E (E' := [(3, .int .i64 ((ps.length - 1 - k : Nat) : Int)), (0, .func (.yield l) #[] #[]), (1, .pointer (some ⟨g1, 0, none⟩))]) ⟨aI rfl (by omega), rfl, rfl, trivial⟩ ?_
  refine h_skip ?_
  refine q_then ?_
  refine h_seq ?_
  refine h_block ?_
  refine yR ?_
  refine yM rfl ?_
  refine yM rfl ?_
  refine h_op (r_loadc rfl) ?_
  refine yM rfl ?_
  refine h_op (r_idx rfl rfl) ?_
  refine h_op (r_nth rfl (ptrs_get hget)) ?_
  refine h_yield (hy k () mm hk2 hJ) hRm rfl rfl fun m' hJ' => ?_
  refine h_op (r_not rfl) ?_
  refine yN ?_
  refine h_condF rfl ?_
  refine h_skip ?_
  refine q_block ?_
  refine q_then ?_
  refine h_reg ?_
  refine yM rfl ?_
  refine h_op (r_sub rfl rfl) ?_
  refine yS rfl ?_
  refine h_nil ?_
  exact h_back (k + 1, m') ((show k + 1 ≤ ps.length ∧ J (k + 1) m' from ⟨by omega, hJ'⟩)) ((show ps.length - (k + 1) < ps.length - k by omega)) ⟨aI rfl (by omega), rfl, rfl, trivial⟩ (fun _ s => s)
 ·obtain rfl : k = ps.length := by omega
  refine h_exit ?_
  refine q_thenE ?_
  refine q_thenE ?_
  refine q_blockE ?_
  refine h_end ?_
  exact h_ret0 rfl fun w s => ⟨_, mm, rfl, hJ, s.res (((List.sublist_append_left _ _).cons _).cons _) (hJw _ _ hJ)⟩
def upD (key : B32) (t : Tr) : Nat → Tr → Tr
 | 0, x => x
 | D + 1, x => upD key t D (jnK key D x (sibK key t D))
def putT (key : B32) (v : List UInt8) (t : Tr) (D : Nat) : Tr :=
 upD key t D (match wayK key t D with
  | .leaf k' v' => if k' = key then .leaf key v else pairT (.leaf k' v') (.leaf key v) D
  | _ => .leaf key v)
theorem wayK_cnt (key : B32) (t : Tr) : ∀ i, (wayK key t i).cnt ≤ t.cnt
 | 0 => Nat.le_refl _
 | i + 1 => by
  refine Nat.le_trans ?_ (wayK_cnt key t i)
  show ((wayK key t i).sub _).cnt ≤ _
  generalize wayK key t i = x
  cases x <;> cases bitAt key i <;> simp [Tr.sub, Tr.cnt]
theorem sib_cnt (key : B32) (t : Tr) (i : Nat) : (wayK key t (i + 1)).cnt + (sibK key t i).cnt ≤ (wayK key t i).cnt := by
 show ((wayK key t i).sub _).cnt + ((wayK key t i).sub _).cnt ≤ _
 generalize wayK key t i = x
 cases x <;> cases bitAt key i <;> simp [Tr.sub, Tr.cnt] <;> omega
theorem up_s (n : Nat) (hn : n ≤ 256) (gh gc k : Nat) (hk : k ≤ 1000000000) (h h0 : Zh) [hle0 : LeZ h0 h] [hT : RdZ h (some ⟨1, 0, none⟩) hashT] (t : Tr) (p : Option Addr) [ht : TrZ n h0 t p] (key : B32) (sl : Sl) (D : Nat) (hD : WayTo key t D) (x : Tr) (q : Option Addr) [hx : TrZ n h x q] (hct : x.cnt ≤ 1000000 ∧ t.cnt ≤ 1000000) (A : Option Addr) (c g9 g4 g6 g7 : Nat) (hA : ∀ i, i < D → ∃ g, A = some ⟨g, 0, none⟩) :
  Spec Tryz.prog 215 [.pointer q, .pointer (some ⟨g9, 0, none⟩), .pointer (some ⟨g4, 0, none⟩), .pointer (some ⟨g6, 0, none⟩), .pointer (some ⟨g7, 0, none⟩)].toArray [.rd (some ⟨g9, 0, none⟩) [.slice A D c], .rd A (ptrs (sibL h0 key p D)), .rd (some ⟨g4, 0, none⟩) [.pointer (some ⟨gh, 0, none⟩)], .rd (some ⟨g6, 0, none⟩) (Entry.cells ⟨key, sl⟩), .rd (some ⟨g7, 0, none⟩) [.int .i64 0], HR gh gc n] [.zone true h, CN gc k]
   (fun u : {u : Zh × Option Addr × Nat // LeZ h u.1 ∧ TrZ n u.1 (upD key t D x) u.2.1 ∧ u.2.2 ≤ k + 768} => .pointer u.1.2.1) (fun u => [.zone true u.1.1, CN gc u.1.2.2]) := by
 have hle := hD.le
 have hsl := sibL_len h0 key p D
 refine spec_of Tryz.func215 rfl (n := 23) rfl rfl ?_
 intro W
 refine yR ?_
 refine h_opX (x_box1 rfl) fun g5 => ?_
 refine yS rfl ?_
 refine yN ?_
 refine h_seq ?_
 refine yR ?_
 refine h_op (r_loadc rfl) ?_
 refine h_call ((BackwardP_s A D c).comes) rfl rfl rfl fun g10 => ?_
 refine yN ?_
 refine h_block ?_
 have hit := BackwardP_it (sibL h0 key p D) A c g10 (by rw [hsl]; exact hA) (by omega)
 rw [hsl] at hit
 refine h_rangeG hit rfl (fun k' mm => ∃ (h1 : Zh) (q1 : Option Addr) (y : Tr) (kk : Nat), mm = [.zone true h1, CN gc kk, .blk g5 [.pointer q1] 31] ∧ LeZ h h1 ∧ TrZ n h1 y q1 ∧ upD key t (D - k') y = upD key t D x ∧ kk ≤ k + 3 * k' ∧ y.cnt ≤ 1000000 * (k' + 1)) [.zone true h, CN gc k, .blk g5 [.pointer q] 31] [.rd (some ⟨g4, 0, none⟩) [.pointer (some ⟨gh, 0, none⟩)], .rd (some ⟨g6, 0, none⟩) (Entry.cells ⟨key, sl⟩), .rd (some ⟨g7, 0, none⟩) [.int .i64 0], HR gh gc n] (by rintro k' mm ⟨h1, q1, y, kk, rfl, _⟩ f hf; simp only [List.mem_cons, List.not_mem_nil, or_false] at hf; rcases hf with rfl | rfl | rfl <;> rfl) ⟨h, q, x, k, rfl, LeZ.refl h, hx, rfl, by omega, by omega⟩ rfl (fun _ _ => rfl) ?_ ?_
 ·intro ll rr k' _ mm W1 hr hrp hkN hJ2
  obtain ⟨h1, q1, y, kk, rfl, hle1, hy1, hup, hkk, hcy⟩ := hJ2
  simp only [List.nil_append, List.cons_append]
  have hT1 : RdZ h1 (some ⟨1, 0, none⟩) hashT := hT.mono hle1
  have hle01 : LeZ h0 h1 := hle0.trans hle1
  obtain ⟨i, hi⟩ : ∃ i, D - k' = i + 1 := ⟨D - k' - 1, by omega⟩
  have hi2 : D - 1 - k' = i := by omega
  have hg : (sibL h0 key p D).getD i none = sibQ h0 key p i := by rw [List.getD_eq_getElem?_getD, sibL_at h0 key p (by omega), Option.getD_some]
  rw [hi2, hg]
  rw [hi, upD] at hup
  have hs1 := sib_cnt key t i
  have hs2 := wayK_cnt key t i
  have hn1 := jnK_cnt key i y (sibK key t i)
  have hc1 := jnC_le key i y (sibK key t i)
  have hsz : TrZ n h1 (sibK key t i) (sibQ h0 key p i) := ⟨((wayK_ok ht.ok key i).sub _).mono hle01⟩
  refine yR ?_
  refine yS rfl ?_
  refine yN ?_
  refine h_reg ?_
  refine yS rfl ?_
  refine yN ?_
  refine h_begin hr ?_
  refine h_block ?_
  refine h_reg ?_
  refine h_op (r_loadc rfl) ?_
  refine h_op (r_loadc rfl) ?_
  refine yM rfl ?_
  refine h_op (r_field rfl) ?_
  refine h_op (r_loadr rfl) ?_
  refine h_op (r_loadc rfl) ?_
  refine yM rfl ?_
  refine h_op (r_int (r_add rfl rfl) (show _ = (i : Int) by omega)) ?_
  refine h_call ((pjoin_s n hn gh gc kk (by omega) h1 y (sibK key t i) q1 (sibQ h0 key p i) key i (by omega) (by omega)).comes) rfl rfl rfl fun ⟨⟨h2, q2⟩, hle2, ht2⟩ => ?_
  dsimp only at hle2 ht2 ⊢
  refine h_opS (s_store rfl rfl rfl) ?_
  refine h_nil ?_
  refine q_block ?_
  exact h_endround [.zone true h2, CN gc (kk + jnC key i y (sibK key t i)), .blk g5 [.pointer q2] 31] hr hrp ⟨h2, q2, jnK key i y (sibK key t i), _, rfl, hle1.trans hle2, ht2, by rw [show D - (k' + 1) = i by omega]; exact hup, by omega, by omega⟩ (by intro f hf; simp only [List.mem_cons, List.not_mem_nil, or_false] at hf; rcases hf with rfl | rfl | rfl <;> rfl)
 ·intro bb mm hJ2
  obtain ⟨h1, q1, y, kk, rfl, hle1, hy1, hup, hkk, hcy⟩ := hJ2
  rw [Nat.sub_self] at hup
  refine q_block ?_
  refine q_then ?_
  simp only [List.nil_append, List.cons_append]
  refine yR ?_
  refine h_op (r_loadc rfl) ?_
  refine yS rfl ?_
  refine yN ?_
  refine h_ret ?_
  refine h_mark ?_
  have hup' : y = upD key t D x := hup
  exact h_ret1 rfl rfl fun w s => ⟨⟨(h1, q1, kk), hle1, by rw [← hup']; exact hy1, by dsimp only; omega⟩, rfl, (same (L' := [.zone true h1, CN gc kk]) w s).res (List.Sublist.refl _) (by simp [Fa.wr])⟩
end Go.Proofs.YtjhlbbgikccclaaGreatDoor
/- U43 -/
namespace Go.Proofs.YtjhlbbgikccclaaGreatDoor
open Go.RowKit
theorem common_lt {a b : B32} (h : a ≠ b) : common a b < 256 := by
 rcases Nat.lt_or_ge (common a b) 256 with h1 | h1
 ·exact h1
 ·refine (h ?_).elim
  apply bits_ext
  intro i hi
  unfold common at h1
  cases hf : (List.range 256).find? (fun i => bitAt a i ^^ bitAt b i) with
  | none =>
   have := List.find?_eq_none.1 hf i (by simpa using hi)
   simpa using this
  | some m =>
   rw [hf] at h1
   have := List.mem_range.1 (List.mem_of_find?_eq_some hf)
   simp at h1
   omega
def EndOk (key : B32) (t : Tr) (D : Nat) : Prop := ∀ k' v', wayK key t D = .leaf k' v' → k' ≠ key → D ≤ common k' key
theorem upN_cnt (key : B32) (d : Nat) : ∀ (j : Nat) (x : Tr), (upN key d j x).cnt = x.cnt
 | 0, _ => rfl
 | j + 1, x => by rw [upN, upN_cnt key d j, jnK_cnt]; rfl
theorem PAt_s (n : Nat) (hn : n ≤ 256) (gh gc k : Nat) (hk : k ≤ 100000000) (h : Zh) [hT : RdZ h (some ⟨1, 0, none⟩) hashT] (t : Tr) (p : Option Addr) [ht : TrZ n h t p] (key : B32) (s : Sl) (b : List UInt8) [hs : SlZ h s b] (hb : b.length ≤ 100000000) (D : Nat) (hD : WayTo key t D) (hE : EndOk key t D) (hct : t.cnt ≤ 100000) :
  Spec Tryz.prog 142 [.pointer (some ⟨gh, 0, none⟩), .pointer p, .agg (Entry.cells ⟨key, s⟩).toArray, .int .i64 0].toArray [HR gh gc n] [.zone true h, CN gc k]
   (fun u : {u : Zh × Option Addr × Nat // LeZ h u.1 ∧ TrZ n u.1 (putT key b t D) u.2.1 ∧ u.2.2 ≤ k + 1600} => .pointer u.1.2.1) (fun u => [.zone true u.1.1, CN gc u.1.2.2]) := by
 have hle := hD.le
 have hwc := wayK_cnt key t D
 refine spec_of Tryz.func142 rfl (n := 59) rfl rfl ?_
 intro W
 refine yR ?_
 refine h_opX (x_box1 rfl) fun g4 => ?_
 refine h_opX (x_box rfl) fun g6 => ?_
 refine h_opX (x_box1 rfl) fun g7 => ?_
 refine yS rfl ?_
 refine yN ?_
 refine yR ?_
 refine h_opX (x_alloc) fun g9 => ?_
 refine yN ?_
 refine yR ?_
 refine h_op (r_loadc rfl) ?_
 refine yS rfl ?_
 refine yN ?_
 refine h_seq ?_
 refine h_block ?_
 refine h_nil_own 31 1 (xs := ptrs (sibL h key p 0)) rfl ?_
 refine h_loop (fun (s' : Nat × Option Addr × Nat) => s'.1 ≤ D) (fun (s' : Nat × Option Addr × Nat) => [(10, .int .i64 (s'.1 : Int)), (1, .pointer (wayQ h key p s'.1)), (9, .pointer (some ⟨g9, 0, none⟩)), (4, .pointer (some ⟨g4, 0, none⟩)), (6, .pointer (some ⟨g6, 0, none⟩)), (7, .pointer (some ⟨g7, 0, none⟩))]) (fun (s' : Nat × Option Addr × Nat) => [.own (.slice s'.2.1 s'.1 s'.2.2) s'.1 31 1 (ptrs (sibL h key p s'.1)), .blk g9 [.slice s'.2.1 s'.1 s'.2.2] 195, .blk g6 (Entry.cells ⟨key, s⟩) 89, .blk g4 [.pointer (some ⟨gh, 0, none⟩)] 56, .blk g7 [.int .i64 0] 3, .zone true h, CN gc k, HR gh gc n]) (fun (s' : Nat × Option Addr × Nat) => D + 1 - s'.1) (0, none, 0) ((show 0 ≤ D from Nat.zero_le _)) ⟨rfl, rfl, rfl, rfl, rfl, rfl, trivial⟩ (same) ?_
 rintro ⟨i, A, c⟩ hi
 dsimp only at hi ⊢
 refine h_seq ?_
 refine yR ?_
 refine yM rfl ?_
 refine h_call ((Kind_s n h (wayK key t i) (wayQ h key p i)).comes) rfl rfl rfl fun _ => ?_
 refine h_op (r_eql rfl rfl) ?_
 refine yN ?_
 by_cases hk2 : (wayK key t i).kind = 2
 ·have hiD : i < D := by
   rcases Nat.lt_or_ge i D with h1 | h1
   ·exact h1
   ·obtain rfl : i = D := by omega
    exact (hD.end_ hk2).elim
  refine h_yes rfl ((by omega)) ?_
  refine h_skip ?_
  refine q_then ?_
  refine h_seq ?_
  refine h_block ?_
  refine yR ?_
  refine h_op (r_field rfl) ?_
  refine h_op (r_loadr rfl) ?_
  refine yM rfl ?_
  refine h_call ((Bit_s key i (by omega)).comes) rfl rfl rfl fun _ => ?_
  refine yS rfl ?_
  refine yN ?_
  refine h_seq ?_
  refine ha_start [.blk g9 [.slice A i c] 195] [] mixed (same) ?_
  refine ha_take 0 rfl (r_loadc rfl) ?_
  refine ha_takeP 1 rfl (r_move rfl) ?_
  refine ha_takeP 2 rfl (r_move rfl) ?_
  refine ha_takeP 3 rfl (r_sub rfl rfl (by have := bitN_le key i; omega)) ?_
  refine ha_one 4 ?_
  refine ho_C 4 rfl ((Child_s n h (wayK key t i) (wayQ h key p i) _ (!bitAt key i) (bitN_not key i)).comes) rfl rfl rfl (fun xx => same) fun _ => ?_
  refine ha_one 5 ?_
  refine ho_X 5 rfl (rk (x_bsl rfl rfl)) (fun _ => same) fun g29 => ?_
  refine ha_one 6 ?_
  refine ho_X 6 rfl (rk (x_app rfl rfl)) (fun _ => same) fun ⟨g30, c30⟩ => ?_
  refine ha_one 7 ?_
  refine ho_SL 7 rfl (s_store rfl rfl rfl) ?_
  refine q_then ?_
  have e := sibL_succ h key p i
  unfold sibQ at e
  rw [e]
  refine h_reg ?_
  refine yM rfl ?_
  refine yM rfl ?_
  refine h_call ((Child_s n h (wayK key t i) (wayQ h key p i) _ (bitAt key i) (bitN_zero key i)).comes) rfl rfl rfl fun _ => ?_
  refine yS rfl ?_
  refine h_nil ?_
  refine q_block ?_
  refine q_then ?_
  refine h_reg ?_
  refine yM rfl ?_
  refine h_op (r_add rfl rfl) ?_
  refine yS rfl ?_
  refine h_nil ?_
  exact h_back (i + 1, some ⟨g30, 0, none⟩, c30) ((show i + 1 ≤ D by omega)) ((show D + 1 - (i + 1) < D + 1 - i by omega)) ⟨rfl, rfl, rfl, rfl, rfl, rfl, trivial⟩ (same)
 ·have hiD : i = D := by
   rcases Nat.lt_or_ge i D with h1 | h1
   ·exact (hk2 (hD.on i h1)).elim
   ·omega
  subst hiD
  refine h_no rfl ((by omega)) ?_
  refine h_pure (φ := ∀ j, j < i → ∃ g, A = some ⟨g, 0, none⟩) (fun w s' j hj => s'.ownSome (N := i) (c := c) (by omega)) fun hA => ?_
  refine h_exit ?_
  refine q_thenE ?_
  refine q_thenE ?_
  refine q_blockE ?_
  refine q_then ?_
  refine yR ?_
  refine h_op (r_func rfl rfl) ?_
  refine yS rfl ?_
  refine yN ?_
  refine yR ?_
  refine h_op (r_loadc rfl) ?_
  refine h_op (r_loadr rfl) ?_
  refine h_call ((NewLeaf_s n hn gh gc k (by omega) h key s b (by omega)).comes) rfl rfl rfl fun ⟨⟨h1, p1⟩, hle1, ht1⟩ => ?_
  dsimp only at hle1 ht1 ⊢
  have hT1 : RdZ h1 (some ⟨1, 0, none⟩) hashT := hT.mono hle1
  have hlc : (Tr.leaf key b).cnt = 1 := rfl
  by_cases h0 : (wayK key t i).kind = 0
  ·have hput : putT key b t i = upD key t i (.leaf key b) := by
    unfold putT
    cases hw : wayK key t i <;> rw [hw] at h0 <;> first | rfl | cases h0
   rw [hput]
   refine yS rfl ?_
   refine yN ?_
   refine h_seq ?_
   refine h_seq ?_
   refine ha_start [.blk g6 (Entry.cells ⟨key, s⟩) 89] [] mixed (same) ?_
   refine ha_takeP 0 rfl (r_move rfl) ?_
   refine ha_one 1 ?_
   refine ho_C 1 rfl ((Kind_s n h1 (wayK key t i) (wayQ h key p i)).comes) rfl rfl rfl (fun xx => same) fun _ => ?_
   refine ha_takeP 2 rfl (r_bool (r_eql rfl rfl) (decide_eq_true (by omega))) ?_
   refine ha_takeP 3 rfl (r_move rfl) ?_
   refine ha_off 4 rfl ?_
   refine ha_off 5 rfl ?_
   refine ha_off 6 rfl ?_
   refine ha_off 7 rfl ?_
   refine ha_off 8 rfl ?_
   refine ha_off 9 rfl ?_
   refine ha_takeP 10 rfl (r_pick rfl rfl) ?_
   refine ha_done (by kernel_rfl) ?_
   refine q_then ?_
   refine h_condT rfl ?_
   refine yR ?_
   refine yM rfl ?_
   refine yM rfl ?_
   refine h_call ((up_s n hn gh gc (k + 2) (by omega) h1 h t p key s i hD (.leaf key b) p1 ⟨by omega, by omega⟩ A c g9 g4 g6 g7 hA).comes) rfl rfl rfl fun ⟨⟨h2, q2, k2⟩, hle2, ht2, hk2'⟩ => ?_
   dsimp only at hle2 ht2 hk2' ⊢
   refine yS rfl ?_
   refine yN ?_
   refine h_ret ?_
   refine q_thenR ?_
   exact h_ret1 rfl rfl fun w s' => ⟨⟨(h2, q2, k2), hle1.trans hle2, ht2, by dsimp only; omega⟩, rfl, (same (L' := [.zone true h2, CN gc k2]) w s').res (List.Sublist.refl _) (by simp [Fa.wr])⟩
  ·obtain ⟨k', v', hw⟩ : ∃ k' v', wayK key t i = .leaf k' v' := by
    cases hw : wayK key t i with
    | nil => rw [hw] at h0; exact (h0 rfl).elim
    | leaf k' v' => exact ⟨k', v', rfl⟩
    | node l r => rw [hw] at hk2; exact (hk2 rfl).elim
   have hlf : leafT n (wayK key t i) = leafOf n k' v' := by rw [hw]; rfl
   by_cases heq : k' = key
   ·have hput : putT key b t i = upD key t i (.leaf key b) := by
     unfold putT
     rw [hw]
     simp only [if_pos heq]
    rw [hput]
    refine yS rfl ?_
    refine yN ?_
    refine h_seq ?_
    refine h_seq ?_
    refine ha_start [.blk g6 (Entry.cells ⟨key, s⟩) 89] [] mixed (same) ?_
    refine ha_takeP 0 rfl (r_move rfl) ?_
    refine ha_one 1 ?_
    refine ho_C 1 rfl ((Kind_s n h1 (wayK key t i) (wayQ h key p i)).comes) rfl rfl rfl (fun xx => same) fun _ => ?_
    refine ha_takeP 2 rfl (r_bool (r_eql rfl rfl) (decide_eq_false (by omega))) ?_
    refine ha_takeP 3 rfl (r_move rfl) ?_
    refine ha_takeP 4 rfl (r_move rfl) ?_
    refine ha_takeP 7 rfl (r_field rfl) ?_
    refine ha_take 8 rfl (r_loadr rfl) ?_
    refine ha_one 5 ?_
    refine ho_C 5 rfl ((Leaf_s n h1 (wayK key t i) (wayQ h key p i)).comes) rfl rfl rfl (fun xx => same) fun _ => ?_
    refine ha_takeP 6 rfl (r_as (r_fldr rfl) (show _ = Value.agg k'.cells.toArray by rw [hlf]; rfl)) ?_
    refine ha_takeP 9 rfl (r_bool (r_eqr rfl rfl) (decide_eq_true heq)) ?_
    refine ha_takeP 10 rfl (r_pick rfl rfl) ?_
    refine ha_done (by kernel_rfl) ?_
    refine q_then ?_
    refine h_condT rfl ?_
    refine yR ?_
    refine yM rfl ?_
    refine yM rfl ?_
    refine h_call ((up_s n hn gh gc (k + 2) (by omega) h1 h t p key s i hD (.leaf key b) p1 ⟨by omega, by omega⟩ A c g9 g4 g6 g7 hA).comes) rfl rfl rfl fun ⟨⟨h2, q2, k2⟩, hle2, ht2, hk2'⟩ => ?_
    dsimp only at hle2 ht2 hk2' ⊢
    refine yS rfl ?_
    refine yN ?_
    refine h_ret ?_
    refine q_thenR ?_
    exact h_ret1 rfl rfl fun w s' => ⟨⟨(h2, q2, k2), hle1.trans hle2, ht2, by dsimp only; omega⟩, rfl, (same (L' := [.zone true h2, CN gc k2]) w s').res (List.Sublist.refl _) (by simp [Fa.wr])⟩
   ·have hput : putT key b t i = upD key t i (pairT (wayK key t i) (.leaf key b) i) := by
     unfold putT
     rw [hw]
     simp only [if_neg heq]
    have hkt : keyT (wayK key t i) = k' := by rw [hw]; rfl
    have hcm : common (keyT (wayK key t i)) (keyT (.leaf key b)) = common k' key := by rw [hkt]; rfl
    have hcl := common_lt heq
    have hcd := hE k' v' hw heq
    have hpc : (pairT (wayK key t i) (.leaf key b) i).cnt ≤ 1000000 := by
     unfold pairT
     rw [upN_cnt, jnK_cnt]
     omega
    rw [hput]
    refine yS rfl ?_
    refine yN ?_
    refine h_seq ?_
    refine h_seq ?_
    refine ha_start [.blk g6 (Entry.cells ⟨key, s⟩) 89] [] mixed (same) ?_
    refine ha_takeP 0 rfl (r_move rfl) ?_
    refine ha_one 1 ?_
    refine ho_C 1 rfl ((Kind_s n h1 (wayK key t i) (wayQ h key p i)).comes) rfl rfl rfl (fun xx => same) fun _ => ?_
    refine ha_takeP 2 rfl (r_bool (r_eql rfl rfl) (decide_eq_false (by omega))) ?_
    refine ha_takeP 3 rfl (r_move rfl) ?_
    refine ha_takeP 4 rfl (r_move rfl) ?_
    refine ha_takeP 7 rfl (r_field rfl) ?_
    refine ha_take 8 rfl (r_loadr rfl) ?_
    refine ha_one 5 ?_
    refine ho_C 5 rfl ((Leaf_s n h1 (wayK key t i) (wayQ h key p i)).comes) rfl rfl rfl (fun xx => same) fun _ => ?_
    refine ha_takeP 6 rfl (r_as (r_fldr rfl) (show _ = Value.agg k'.cells.toArray by rw [hlf]; rfl)) ?_
    refine ha_takeP 9 rfl (r_bool (r_eqr rfl rfl) (decide_eq_false heq)) ?_
    refine ha_takeP 10 rfl (r_pick rfl rfl) ?_
    refine ha_done (by kernel_rfl) ?_
    refine q_then ?_
    refine h_condF rfl ?_
    refine h_skip ?_
    refine q_then ?_
    refine yR ?_
    refine yM rfl ?_
    refine h_op (r_loadc rfl) ?_
    refine yM rfl ?_
    refine yM rfl ?_
    refine yM rfl ?_
    refine h_call ((Pair_s n hn gh gc (k + 2) (by omega) h1 (wayK key t i) (.leaf key b) (wayQ h key p i) p1 i (by omega) (by omega) (by omega) (by omega)).comes) rfl rfl rfl fun ⟨⟨h2, q2, k2⟩, hle2, ht2, hk2'⟩ => ?_
    dsimp only at hle2 ht2 hk2' ⊢
    have hT2 : RdZ h2 (some ⟨1, 0, none⟩) hashT := hT1.mono hle2
    have hl02 : LeZ h h2 := hle1.trans hle2
    refine h_call ((up_s n hn gh gc k2 (by omega) h2 h t p key s i hD (pairT (wayK key t i) (.leaf key b) i) q2 ⟨hpc, by omega⟩ A c g9 g4 g6 g7 hA).comes) rfl rfl rfl fun ⟨⟨h3, q3, k3⟩, hle3, ht3, hk3'⟩ => ?_
    dsimp only at hle3 ht3 hk3' ⊢
    refine yS rfl ?_
    refine yN ?_
    refine h_ret ?_
    exact h_ret1 rfl rfl fun w s' => ⟨⟨(h3, q3, k3), hl02.trans hle3, ht3, by dsimp only; omega⟩, rfl, (same (L' := [.zone true h3, CN gc k3]) w s').res (List.Sublist.refl _) (by simp [Fa.wr])⟩
theorem PPut_s (n : Nat) (hn : n ≤ 256) (gh gc k : Nat) (hk : k ≤ 100000000) (h : Zh) [hT : RdZ h (some ⟨1, 0, none⟩) hashT] (t : Tr) (p : Option Addr) [ht : TrZ n h t p] (key : B32) (s : Sl) (b : List UInt8) [hs : SlZ h s b] (hb : b.length ≤ 100000000) (D : Nat) (hD : WayTo key t D) (hE : EndOk key t D) (hct : t.cnt ≤ 100000) :
  Spec Tryz.prog 85 [.pointer (some ⟨gh, 0, none⟩), .pointer p, .agg (Entry.cells ⟨key, s⟩).toArray].toArray [HR gh gc n] [.zone true h, CN gc k]
   (fun u : {u : Zh × Option Addr × Nat // LeZ h u.1 ∧ TrZ n u.1 (putT key b t D) u.2.1 ∧ u.2.2 ≤ k + 1600} => .pointer u.1.2.1) (fun u => [.zone true u.1.1, CN gc u.1.2.2]) := by
 refine spec_of Tryz.func85 rfl (n := 11) rfl rfl ?_
 intro W
 refine yR ?_
 refine h_opX (x_box rfl) fun g5 => ?_
 refine yS rfl ?_
 refine yN ?_
 refine yR ?_
 refine yM rfl ?_
 refine yM rfl ?_
 refine h_op (r_loadr rfl) ?_
 refine h_call ((PAt_s n hn gh gc k hk h t p key s b hb D hD hE hct).comes) rfl rfl rfl fun ⟨⟨h1, q1, k1⟩, hle1, ht1, hk1⟩ => ?_
 dsimp only at hle1 ht1 hk1 ⊢
 refine yS rfl ?_
 refine yN ?_
 refine h_ret ?_
 exact h_ret1 rfl rfl fun w s => ⟨⟨(h1, q1, k1), hle1, ht1, hk1⟩, rfl, (same (L' := [.zone true h1, CN gc k1]) w s).res (List.Sublist.refl _) (by simp [Fa.wr])⟩
end Go.Proofs.YtjhlbbgikccclaaGreatDoor
/- U44 -/
namespace Go.Proofs.YtjhlbbgikccclaaGreatDoor
open Go.RowKit
end Go.Proofs.YtjhlbbgikccclaaGreatDoor
/- U45 -/
namespace Go.Proofs.YtjhlbbgikccclaaGreatDoor
open Go.RowKit
end Go.Proofs.YtjhlbbgikccclaaGreatDoor
/- U17 -/
namespace Go.Proofs.YtjhlbbgikccclaaGreatDoor
open Go.RowKit
end Go.Proofs.YtjhlbbgikccclaaGreatDoor
/- U18 -/
namespace Go.Proofs.YtjhlbbgikccclaaGreatDoor
open Go.RowKit
end Go.Proofs.YtjhlbbgikccclaaGreatDoor
/- U19 -/
namespace Go.Proofs.YtjhlbbgikccclaaGreatDoor
open Go.RowKit
end Go.Proofs.YtjhlbbgikccclaaGreatDoor
/- U20 -/
namespace Go.Proofs.YtjhlbbgikccclaaGreatDoor
open Go.RowKit
end Go.Proofs.YtjhlbbgikccclaaGreatDoor
/- N12 -/
namespace Go.Proofs.YtjhlbbgikccclaaGreatDoor
open Go.RowKit
class TBool (P : Program) (T : TypeId) : Prop where
 und : P.underlying T = some .bool
section
variable {P : Program} {n : Nat} {D : List Deferred} {E : Env} {L : List Fa} {T T' : TypeId} {x y : Operand}
theorem run_equalIn_bool (w : World) (d : Nat) (a b : Bool) (h : P.underlying T = some .bool) : (Op.equalIn (d + 1) T (.bool a) (.bool b)).run P w = .ok (a == b) w := by
 simp [Op.equalIn, run_underlying h]
theorem run_ne_bool (w : World) (a b : Bool) (h : P.underlying T = some .bool) : (binOp .neq T (.bool a) (.bool b)).run P w = .ok (.bool (!(a == b))) w := by
 simp only [binOp]
 simp [Op.equal, Op.maxDepth, run_equalIn_bool w 9999 a b h]
theorem r_neb [hT : TBool P T] {a b : Bool} (hx : ev E x = some (.bool a)) (hy : ev E y = some (.bool b)) : Runs0 P n D E L (.binOp .neq T x y T') (.bool (!(a == b))) := fun c w ka s o ho => run_bin ho (ka.ev hx) (ka.ev hy) rfl (run_ne_bool w a b hT.und)
end
theorem zone_below {W w : World} {h1 : Zh} {N : List Fa} (hr : Rx [.zone true (World.zh W)] W w (.zone true h1 :: N)) (hl : LeZ (World.zh W) h1) : Below W.heap.size W w := by
 refine ⟨hr.os, hr.tape, hr.output, hr.size, fun k hk => ?_⟩
 obtain ⟨o, ho⟩ : ∃ o, W.heap[k]? = some o := ⟨_, Array.getElem?_eq_getElem hk⟩
 rw [ho]
 exact hr.ok (.zone true h1) (List.mem_cons_self ..) k o (hl.le k o ho)
theorem Fx.all (W : World) : Fx W [.zone true (World.zh W)] := ⟨fun f hf => by rw [List.mem_singleton.1 hf]; exact fun k o ho => ho, List.pairwise_singleton _ _⟩
end Go.Proofs.YtjhlbbgikccclaaGreatDoor
/- N13 -/
namespace Go.Proofs.YtjhlbbgikccclaaGreatDoor
open Go.RowKit
section
variable {P : Program} {n : Nat} {D : List Deferred} {E : Env} {L : List Fa} {T T' : TypeId} {x y : Operand}
theorem r_arr {len e size : Nat} [hT : TArr P T len e size] {A : Option Addr} {m c : Nat} (hx : ev E x = some (.slice A m c)) (hm : len ≤ m := by omega) : Runs0 P n D E L (.sliceToArrayPointer T x) (.pointer A) := fun a w ka s o ho => ex_arrayAt ho hT.und (ka.ev hx) hm
end
end Go.Proofs.YtjhlbbgikccclaaGreatDoor
/- U90 -/
namespace Go.Proofs.YtjhlbbgikccclaaGreatDoor
open Go.RowKit
def keyOf (l : List UInt8) : B32 := if h : l.length = 32 then ⟨l, h⟩ else zB32
theorem keyOf_cells {l : List UInt8} (h : l.length = 32) : (keyOf l).cells = bc l := by unfold keyOf; rw [dif_pos h]; rfl
end Go.Proofs.YtjhlbbgikccclaaGreatDoor
/- U56 -/
namespace Go.Proofs.YtjhlbbgikccclaaGreatDoor
open Go.RowKit
theorem flat_len (l : List B32) : (l.flatMap (·.1)).length = 32 * l.length := by
 induction l with
 | nil => rfl
 | cons x l ih => rw [List.flatMap_cons, List.length_append, ih, x.2, List.length_cons]; omega
end Go.Proofs.YtjhlbbgikccclaaGreatDoor
/- U57 -/
namespace Go.Proofs.YtjhlbbgikccclaaGreatDoor
open Go.RowKit
end Go.Proofs.YtjhlbbgikccclaaGreatDoor
/- U58 -/
namespace Go.Proofs.YtjhlbbgikccclaaGreatDoor
open Go.RowKit
end Go.Proofs.YtjhlbbgikccclaaGreatDoor
/- U59 -/
namespace Go.Proofs.YtjhlbbgikccclaaGreatDoor
open Go.RowKit
end Go.Proofs.YtjhlbbgikccclaaGreatDoor
/- U91 -/
namespace Go.Proofs.YtjhlbbgikccclaaGreatDoor
open Go.RowKit
end Go.Proofs.YtjhlbbgikccclaaGreatDoor
/- N14 -/
namespace Go.Proofs.YtjhlbbgikccclaaGreatDoor
open Go.RowKit
class TIf (P : Program) (T : TypeId) : Prop where
 und : P.underlying T = some (.interface (P.methodsAt T))
section
variable {P : Program} {n : Nat} {D : List Deferred} {E : Env} {L : List Fa} {T T' : TypeId} {t : Nat}
theorem r_ifnil {u : TypeId} {v : Value} [hT : TIf P T] (hx : ev E (.tmp t) = some (.iface u v)) : Runs0 P n D E L (.binOp .eql T (.tmp t) (.const .nilIface) T') (.bool false) := fun a w ka s o ho =>
 run_bin ho (ka.ev hx) (v := .nilIface) rfl rfl (run_eql_held_nil w T u v hT.und)
theorem r_nilnil [hT : TIf P T] (hx : ev E (.tmp t) = some .nilIface) : Runs0 P n D E L (.binOp .eql T (.tmp t) (.const .nilIface) T') (.bool true) := fun a w ka s o ho =>
 run_bin ho (ka.ev hx) (v := .nilIface) rfl rfl (run_eql_nil_nil w T hT.und)
end
section
variable {A : List Fa} {W : World} {n : Nat} {D : List Deferred} {ro : Option Nat} {P : Program} {ops : List Oper} {Q : Exit → Act → World → Prop} {Lb Lr L : List Fa} {fuel : Nat} {listed : Array Bool} {E : Env}
variable {op : Op} {d : Nat} {ty : TypeId} {pos : String} {af : Array Edge} {g : Option (Nat × Bool)}
theorem ho_CM (i : Nat) {x : Operand} {l : List Operand} {ts : Array TypeId} {f : FuncId} {T : TypeId} {u : Value} {name : String} {argv args : List Value} [MethT P T name f] {τ : Type} {v : τ → Value} {L' : τ → List Fa} (hi : ops[i]? = some ⟨some d, .call ⟨.invoke x name, l.toArray, ts⟩, ty, pos, af, g⟩) (hc : Comes P A W L f args.toArray v L') (hx : ev E x = some (.iface T u)) (ha : evs E l = some argv) (he : u :: argv = args) [hl : ∀ x, Rds (L' x) Lr]
  (hb : ∀ x w, Sx A W w (L' x) → Sx A W w Lb) (k : ∀ x, HA A W n D ro P ops Q Lb Lr fuel (listed.setIfInBounds i true) ((d, v x) :: E) (L' x)) (hd : Nat.blt d n = true := by exact rfl) (hg : wn ops.toArray E g = some true := by exact rfl) : HO A W n D ro P ops Q Lb Lr fuel listed E L i := fun a w ka s sr => by
 refine ho_mk hi (wn_run ka hg) (wpIn_ent (x_callM ka rfl hx ha) (he ▸ hc w s) ?_)
 rintro e w' ⟨y, rfl, hy⟩
 have h3 : Fx w' Lr := Fx.rds hy.toFx (hr := hl y)
 exact ⟨_, rfl, fun _ _ => ⟨hb y _ hy, h3⟩, k y _ _ (ka.put hd _) hy ⟨hb y _ hy, h3⟩⟩
end
end Go.Proofs.YtjhlbbgikccclaaGreatDoor
/- U92 -/
namespace Go.Proofs.YtjhlbbgikccclaaGreatDoor
open Go.RowKit
instance iU92_1 : TIf Tryz.prog 43 := ⟨by kernel_rfl⟩
def plFl : Nat → Option (Nat × Nat) := fun i => ([(0, 1), (1, 1), (2, 1)] : List (Nat × Nat)).toArray[i]?
instance iU92_2 : Place plFl 0 0 1 := ⟨rfl⟩
instance iU92_3 : Place plFl 1 1 1 := ⟨rfl⟩
instance iU92_4 : Place plFl 2 2 1 := ⟨rfl⟩
instance iU92_5 : TB Tryz.prog 284 [.string ⟨#[]⟩, .int .i64 0, .nilIface] plFl := ⟨fun w ps cells h => run_build_struct (fl := _) Tryz.underlying284 (z := ([.string ⟨#[]⟩, .int .i64 0, .nilIface] : List Value).toArray) (n := 3) (by kernel_rfl) (pl := [(0, 1), (1, 1), (2, 1)]) (by kernel_rfl) h⟩
abbrev fltC (op : ByteArray) (i e : Int) : List Value := [.string op, .int .i64 i, .iface 54 (.int .i64 e)]
theorem fNew_s (op : ByteArray) (i e : Int) : Spec Tryz.prog 107 [.string op, .int .i64 i, .iface 54 (.int .i64 e)].toArray [] [] (fun g : Nat => .iface 145 (.pointer (some ⟨g, 0, none⟩))) (fun g => [.blk g (fltC op i e) 284]) := by
 refine spec_of Tryz.func107 rfl (n := 15) rfl rfl ?_
 intro W
 refine yR ?_
 refine yS rfl ?_
 refine yN ?_
 refine h_seq ?_
 refine yR ?_
 refine yM rfl ?_
 refine h_op (r_ifnil rfl) ?_
 refine yN ?_
 refine h_condF rfl ?_
 refine h_skip ?_
 refine q_then ?_
 refine yR ?_
 refine yM rfl ?_
 refine yM rfl ?_
 refine yM rfl ?_
 refine h_op (r_build rfl) ?_
 refine h_opX (x_box rfl) fun g13 => ?_
 refine h_op (r_mkI rfl) ?_
 refine yS rfl ?_
 refine yN ?_
 refine h_ret ?_
 exact h_ret1 rfl rfl fun w s => ⟨g13, rfl, (same (L' := [.blk g13 (fltC op i e) 284]) w s).res (List.Sublist.refl _) (by simp [Fa.wr])⟩
def firstF (code : Nat → Int) : Nat → Nat → Option (Nat × Int)
 | 0, _ => none
 | m + 1, i => if code i = 0 then firstF code m (i + 1) else some (i, code i)
theorem firstF_none (code : Nat → Int) : ∀ m i, (∀ j, i ≤ j → j < i + m → code j = 0) → firstF code m i = none
 | 0, _, _ => rfl
 | m + 1, i, h => by
  unfold firstF
  rw [if_pos (h i (Nat.le_refl _) (by omega))]
  exact firstF_none code m (i + 1) fun j h1 h2 => h j (by omega) (by omega)
theorem firstF_some (code : Nat → Int) (e : Nat) (he : code e ≠ 0) : ∀ m i, i ≤ e → e < i + m → (∀ j, i ≤ j → j < e → code j = 0) → firstF code m i = some (e, code e)
 | 0, i, h1, h2, _ => by omega
 | m + 1, i, h1, h2, h => by
  unfold firstF
  rcases Nat.lt_or_ge i e with h3 | h3
  ·rw [if_pos (h i (Nat.le_refl _) h3)]
   exact firstF_some code e he m (i + 1) h3 (by omega) fun j a b => h j (by omega) b
  ·obtain rfl : i = e := by omega
   rw [if_neg he]
end Go.Proofs.YtjhlbbgikccclaaGreatDoor
/- N15 -/
namespace Go.Proofs.YtjhlbbgikccclaaGreatDoor
open Go.RowKit
class TCmp (P : Program) (f : FuncId) : Prop where
 ok : ∀ args w, (callFunc f args).run P w = ((Extern.BytealgCompare.compare args).run P w).andThen fun v w' => .ok (.value v) w'
theorem bytes_back (l : List UInt8) : Lib.bytesOf (l.map fun x => (x.toNat : Int)) = l := by
 unfold Lib.bytesOf
 rw [List.map_map]
 conv => rhs; rw [← List.map_id l]
 apply List.map_congr_left
 intro x _
 simp
theorem run_bytesOf_rd {P : Program} {w : World} {A : Option Addr} {l : List UInt8} {c : Nat} (hr : Rd w A (bc l)) : (Extern.Bytes.bytesOf (.slice A l.length c)).run P w = .ok ⟨l.toArray⟩ w := by
 cases A with
 | none =>
  have : l = [] := by
   cases l with
   | nil => rfl
   | cons x l => obtain ⟨b, o, e, _⟩ := hr 0 (.int .u8 x.toNat) rfl; cases e
  subst this
  rfl
 | some a =>
  have h := Lib.run_loadBytesX (P := P) (w := w) (l.map fun x => (x.toNat : Int)) a .empty (fun j x hj => by
   obtain ⟨y, hy, rfl⟩ : ∃ y, l[j]? = some y ∧ (y.toNat : Int) = x := by simpa using hj
   have hj' : (bc l)[j]? = some (.int .u8 (y.toNat : Int)) := by simp [bc, hy]
   obtain ⟨b, o, e, h2⟩ := hr j _ hj'
   injection e with e
   subst e
   rw [Addr.add_mid]
   exact h2)
  rw [List.length_map, bytes_back] at h
  show (Extern.Bytes.loadBytes a l.length .empty).run P w = _
  rw [h]
  simp
section
variable {P : Program} {n : Nat} {D : List Deferred} {E : Env} {L : List Fa}
theorem r_cmp {f : FuncId} [hf : TCmp P f] {x y : Operand} {ts : Array TypeId} {A B : Option Addr} {c c' : Nat} {a b : List UInt8} (hx : ev E x = some (.slice A a.length c)) (hy : ev E y = some (.slice B b.length c')) [hA : Rd1 L (.rd A (bc a))] [hB : Rd1 L (.rd B (bc b))] : Runs0 P n D E L (.call ⟨.value (.func f), #[x, y], ts⟩) (.int .i64 (Lib.compareBytes a b)) := fun act w ka s o ho => by
 have h1 := run_bytesOf_rd (P := P) (c := c) (hA.ok s).2.1
 have h2 := run_bytesOf_rd (P := P) (c := c') (hB.ok s).2.1
 have e0 : ev E (.func f) = some (.func (.func f) #[] #[]) := rfl
 unfold execOp
 simp only [ho, resolve, ka.ev e0, Deferred.ofValue, Sem.run_bind, Sem.run_pure, Result.andThen_ok, invoke]
 have e1 : (#[x, y].map act.eval) = #[.slice A a.length c, .slice B b.length c'] := by simp [ka.ev hx, ka.ev hy]
 rw [e1]
 show (callFunc f #[.slice A a.length c, .slice B b.length c']).run P w = _
 have e2 : (Extern.BytealgCompare.compare #[.slice A a.length c, .slice B b.length c']).run P w = .ok (.int .i64 (Lib.compareBytes a b)) w := by
  change Sem.run P (do pure (goInt (Extern.BytealgCompare.cmp (← Extern.Bytes.bytesOf (.slice A a.length c)) (← Extern.Bytes.bytesOf (.slice B b.length c'))))) w = _
  simp only [Sem.run_bind, h1, h2, Result.andThen_ok, Sem.run_pure, Lib.cmp_eq]
  rfl
 rw [hf.ok, e2]
 rfl
end
end Go.Proofs.YtjhlbbgikccclaaGreatDoor
/- N16 -/
namespace Go.Proofs.YtjhlbbgikccclaaGreatDoor
open Go.RowKit
section
variable {P : Program} {nn : Nat} {D : List Deferred} {E : Env} {L : List Fa} {T : TypeId} {x q r : Operand} {e size bytes : Nat} {z : Value} {N c h m : Nat}
theorem run_slHM [E' : TS P T e size bytes z] {b O : Nat} {i2 i3 : Int} {k2 k3 : IntKind} (w : World) (h2 : NatOf i2 h) (h3 : NatOf i3 m) (a2 : h ≤ m) (a3 : m ≤ c) :
  (Instr.sliceAt T (.slice (some ⟨b, O, none⟩) N c) none (some (.int k2 i2)) (some (.int k3 i3))).run P w = .ok (.slice (some ⟨b, O, none⟩) h m) w := by
 obtain rfl := h2.eq
 obtain rfl := h3.eq
 obtain ⟨t, hi, _, hsz, _⟩ := info_parts E'.el.hi
 have c1 : (0 : Int) ≤ (m : Int) ∧ (m : Int) ≤ (c : Int) := ⟨by omega, by omega⟩
 have c2 : (0 : Int) ≤ (h : Int) ∧ (h : Int) ≤ (m : Int) := ⟨by omega, by omega⟩
 have c3 : (0 : Int) ≤ (0 : Int) ∧ (0 : Int) ≤ (h : Int) := ⟨by omega, by omega⟩
 unfold Instr.sliceAt
 simp only [Sem.run_bind, run_underlying E'.el.ht, Result.andThen_ok, Instr.slice, Instr.sliceBounds, Instr.sliceBound, asIntOf, Sem.run_pure, if_pos c1, if_pos c2, if_pos c3, Int.toNat_natCast, sizeOf, typeInfo, Option.isSome_some]
 simp [hi, hsz, Addr.add_mid]
theorem r_slHM [E' : TS P T e size bytes z] {b O : Nat} {i2 i3 : Int} {k2 k3 : IntKind} (hx : ev E x = some (.slice (some ⟨b, O, none⟩) N c)) (hq : ev E q = some (.int k2 i2)) (hr : ev E r = some (.int k3 i3)) [h2 : NatOf i2 h] [h3 : NatOf i3 m] (a2 : h ≤ m := by omega) (a3 : m ≤ c := by omega) : Runs0 P nn D E L (.slice T x none (some q) (some r)) (.slice (some ⟨b, O, none⟩) h m) := fun a w ka s o ho => by
 have := run_slHM (P := P) (T := T) (N := N) (b := b) (O := O) (k2 := k2) (k3 := k3) w h2 h3 a2 a3
 unfold execOp
 simp only [ho, ka.ev hx, Option.map_some, Option.map_none, ka.ev hq, ka.ev hr]
 rw [Sem.run_bind, this]
 rfl
theorem cut_zero {b O c size : Nat} (hc : 0 < c) : cutA (some ⟨b, O, none⟩) c 0 size = some ⟨b, O, none⟩ := by
 unfold cutA
 rw [if_neg (by omega)]
 simp [Addr.add_mid]
theorem r_slHb [E' : TS P T e size bytes z] {b O : Nat} {j : Int} {k : IntKind} (hx : ev E x = some (.slice (some ⟨b, O, none⟩) N c)) (hq : ev E q = some (.int k j)) [hj : NatOf j h] (hl : h ≤ c := by omega) (hc : 0 < c := by omega) : Runs0 P nn D E L (.slice T x none (some q) none) (.slice (some ⟨b, O, none⟩) h c) := by
 have := r_slH (P := P) (n := nn) (D := D) (L := L) (E' := E') hx hq (hj := hj) hl
 rwa [cut_zero hc] at this
end
end Go.Proofs.YtjhlbbgikccclaaGreatDoor
/- N17 -/
namespace Go.Proofs.YtjhlbbgikccclaaGreatDoor
open Go.RowKit
section
variable {P : Program} {A : List Fa} {W : World} {n : Nat} {D : List Deferred} {E : Env} {L : List Fa} {f : FuncId} {l : List Operand} {ts : Array TypeId} {vs : List Value} {v : Value}
theorem run_fun {a : Act} {w : World} {o : Oper} {x : Next} {w' : World} (ka : Kn n D E a) (ho : o.op = .call ⟨.value (.func f), l.toArray, ts⟩) (ha : evs E l = some vs) (hb : (callFunc f vs.toArray).run P w = .ok x w') : (execOp a.eval o).run P w = .ok x w' := by
 have e0 : ev E (.func f) = some (.func (.func f) #[] #[]) := rfl
 unfold execOp
 simp only [ho, resolve, ka.ev e0, Deferred.ofValue, Sem.run_bind, Sem.run_pure, Result.andThen_ok, invoke]
 rw [List.map_toArray, ka.evs ha]
 simpa using hb
theorem r_fun (hb : ∀ w, (callFunc f vs.toArray).run P w = .ok (.value v) w) (ha : evs E l = some vs) : Runs0 P n D E L (.call ⟨.value (.func f), l.toArray, ts⟩) v := fun a w ka s o ho => run_fun ka ho ha (hb w)
theorem r_funC {b : Nat} {u : Value} [hc : Cells b 0 L 0 [u]] (hb : ∀ w, w.cell? ⟨b, 0, none⟩ = some u → (callFunc f vs.toArray).run P w = .ok (.value v) w) (ha : evs E l = some vs) : Runs0 P n D E L (.call ⟨.value (.func f), l.toArray, ts⟩) v := fun a w ka s o ho => run_fun ka ho ha (hb w (hc.cell s 0 u rfl))
theorem x_fun {cs : List Value} {T : TypeId} {u : Nat → Value} (hb : ∀ w, (callFunc f vs.toArray).run P w = .ok (.value (u w.heap.size)) (w.alloc (.cells cs.toArray T))) (ha : evs E l = some vs) : RunsX P A W n D E L (.call ⟨.value (.func f), l.toArray, ts⟩) u (fun g => .blk g cs T :: L) := fun a w ka s o ho =>
 ⟨w.heap.size, _, run_fun ka ho ha (hb w), s.alloc cs T⟩
theorem x_setV {g b : Nat} {T : TypeId} {old u : Value} {M : List Fa} [hm : TakeB g L [old] T M] [hc : Cells b 0 L 0 [u]] (hb : ∀ w, w.cell? ⟨b, 0, none⟩ = some u → w.heap[g]? = some (.cells #[old] T (0, 0)) → (callFunc f vs.toArray).run P w = .ok (.value (.tuple #[])) (w.setCell ⟨g, 0, none⟩ u)) (ha : evs E l = some vs) : RunsX P A W n D E L (.call ⟨.value (.func f), l.toArray, ts⟩) (fun _ : Unit => .tuple #[]) (fun _ => .blk g [u] T :: M) := fun a w ka s o ho => by
 have h2 := s.perm hm.perm
 have hbk : w.heap[g]? = some (.cells [old].toArray T (0, 0)) := h2.ok (.blk _ _ _) (List.mem_cons_self ..)
 refine ⟨(), _, run_fun ka ho ha (hb w (hc.cell s.toFx 0 u rfl) hbk), h2.put ?_ (fun B w0 hB hg => hB.setCell hg u) (by simp) (fun k hk => heap_setCell_other w _ k u hk)⟩
 rw [heap_setCell_same w g 0 _ T u hbk]
 rfl
theorem r_inv {x : Operand} {T : TypeId} {u : Value} {name : String} (hb : ∀ w, (callMethod (.iface T u) name vs.toArray).run P w = .ok (.value v) w) (hx : ev E x = some (.iface T u)) (ha : evs E l = some vs) : Runs0 P n D E L (.call ⟨.invoke x name, l.toArray, ts⟩) v := fun a w ka s o ho => by
 unfold execOp
 simp only [ho, resolve, ka.ev hx, Sem.run_bind, Sem.run_pure, Result.andThen_ok, invoke]
 rw [List.map_toArray, ka.evs ha]
 have e0 : ((#[Value.iface T u] : Array Value) ++ vs.toArray)[0]? = some (.iface T u) := by simp
 rw [e0]
 simp only []
 have e : ((#[Value.iface T u] : Array Value) ++ vs.toArray).extract 1 ((#[Value.iface T u] : Array Value) ++ vs.toArray).size = vs.toArray := by simp
 rw [e]
 exact hb w
end
end Go.Proofs.YtjhlbbgikccclaaGreatDoor
/- U93 -/
namespace Go.Proofs.YtjhlbbgikccclaaGreatDoor
open Go.RowKit Go.Extern.Stop Go.Stop Go.Extern
abbrev hdl (T : Nat) : Value := .pointer (some ⟨6, T, none⟩)
abbrev rty (T : Nat) : Value := .iface 309 (.agg #[hdl T])
abbrev rval (T b : Nat) (fl : Int) : Value := .agg #[hdl T, .pointer (some ⟨b, 0, none⟩), .int .u64 fl]
theorem rf_val1 (t : Addr) (w : World) : (callFunc 116 #[.iface 147 (.pointer (some t))]).run Tryz.prog w = .ok (.value (rval 147 w.heap.size 150)) (w.alloc (.cells #[.pointer (some t)] 147)) := by kernel_rfl
theorem rf_val2 (t : Addr) (w : World) : (callFunc 116 #[.iface 127 (.pointer (some t))]).run Tryz.prog w = .ok (.value (rval 127 w.heap.size 150)) (w.alloc (.cells #[.pointer (some t)] 127)) := by kernel_rfl
theorem rf_val3 (t : Addr) (w : World) : (callFunc 116 #[.iface 145 (.pointer (some t))]).run Tryz.prog w = .ok (.value (rval 145 w.heap.size 150)) (w.alloc (.cells #[.pointer (some t)] 145)) := by kernel_rfl
theorem rf_val4 (e : Int) (w : World) : (callFunc 116 #[.iface 54 (.int .i64 e)]).run Tryz.prog w = .ok (.value (rval 54 w.heap.size 130)) (w.alloc (.cells #[.int .i64 e] 54)) := by kernel_rfl
theorem rf_type1 (b : Nat) (w : World) : (callFunc 117 #[rval 147 b 150]).run Tryz.prog w = .ok (.value (rty 147)) w := by kernel_rfl
theorem rf_type2 (b : Nat) (w : World) : (callFunc 117 #[rval 127 b 150]).run Tryz.prog w = .ok (.value (rty 127)) w := by kernel_rfl
theorem rf_kind1 (w : World) : (callMethod (rty 147) "Kind" #[]).run Tryz.prog w = .ok (.value (.int .u8 22)) w := by kernel_rfl
theorem rf_kind2 (w : World) : (callMethod (rty 127) "Kind" #[]).run Tryz.prog w = .ok (.value (.int .u8 22)) w := by kernel_rfl
theorem rf_kind3 (w : World) : (callMethod (rty 145) "Kind" #[]).run Tryz.prog w = .ok (.value (.int .u8 22)) w := by kernel_rfl
theorem rf_kind4 (w : World) : (callMethod (rty 54) "Kind" #[]).run Tryz.prog w = .ok (.value (.int .u8 2)) w := by kernel_rfl
theorem rf_elem1 (w : World) : (callMethod (rty 147) "Elem" #[]).run Tryz.prog w = .ok (.value (rty 145)) w := by kernel_rfl
theorem rf_elem2 (w : World) : (callMethod (rty 127) "Elem" #[]).run Tryz.prog w = .ok (.value (rty 54)) w := by kernel_rfl
theorem rf_impl3 (w : World) : (callMethod (rty 145) "Implements" #[rty 43]).run Tryz.prog w = .ok (.value (.bool true)) w := by kernel_rfl
theorem rf_impl4 (w : World) : (callMethod (rty 54) "Implements" #[rty 43]).run Tryz.prog w = .ok (.value (.bool true)) w := by kernel_rfl
theorem rf_typeOf3 (v : Value) (w : World) : (callFunc 113 #[.iface 145 v]).run Tryz.prog w = .ok (.value (rty 145)) w := by kernel_rfl
theorem rf_typeOf4 (v : Value) (w : World) : (callFunc 113 #[.iface 54 v]).run Tryz.prog w = .ok (.value (rty 54)) w := by kernel_rfl
theorem rf_asg33 (w : World) : (callMethod (rty 145) "AssignableTo" #[rty 145]).run Tryz.prog w = .ok (.value (.bool true)) w := by kernel_rfl
theorem rf_asg34 (w : World) : (callMethod (rty 145) "AssignableTo" #[rty 54]).run Tryz.prog w = .ok (.value (.bool false)) w := by kernel_rfl
theorem rf_asg44 (w : World) : (callMethod (rty 54) "AssignableTo" #[rty 54]).run Tryz.prog w = .ok (.value (.bool true)) w := by kernel_rfl
end Go.Proofs.YtjhlbbgikccclaaGreatDoor
/- U94 -/
namespace Go.Proofs.YtjhlbbgikccclaaGreatDoor
open Go.RowKit Go.Extern.Stop Go.Stop Go.Extern
theorem rlm (z : Sem Value) (f : TypeId → Addr → Nat → Nat → Sem Value) (v : Value) :
  ReflectliteValue.method z f #[v] = (do match ← ReflectliteValue.parts v with | none => z | some (t, a, fl) => f t a fl (fl % 32)) := rfl
theorem rls (v x : Value) : ReflectliteValue.set #[v, x] = (do
  let (some (dst, a, fl), some (src, b, _)) := (← ReflectliteValue.parts v, ← ReflectliteValue.parts x)
   | unsupported (.noEntry "extern/(internal/reflectlite.Value).Set.zeroValue")
  if fl / ReflectliteValue.flagAddr % 2 == 0 then unsupported (.noEntry "extern/(internal/reflectlite.Value).Set.unaddressable")
  let val ← loadVar src b
  if ← Rtype.directlyAssignable dst src then storeVar dst a val
  else if ← Rtype.implements dst src then
   if (← Rtype.kind src) == 20 then
    match val with
    | .nilIface => unsupported (.noEntry "extern/reflectlite: a nil value of one interface type handed on as a value of another")
    | _ => storeVar dst a val
   else storeVar dst a (.iface src val)
  else panicString ("reflectlite.Set: value of type " ++ (← Rtype.spelt src) ++ " is not assignable to type " ++ (← Rtype.spelt dst))
  pure (.tuple #[])) := rfl
theorem rf_pP1 (b : Nat) (w : World) : (ReflectliteValue.parts (rval 147 b 150)).run Tryz.prog w = .ok (some (147, ⟨b, 0, none⟩, 150)) w := by kernel_rfl
theorem rf_pA1 (b : Nat) (w : World) : (ReflectliteValue.parts (rval 145 b 406)).run Tryz.prog w = .ok (some (145, ⟨b, 0, none⟩, 406)) w := by kernel_rfl
theorem rf_pE1 (b : Nat) (w : World) : (ReflectliteValue.parts (rval 145 b 150)).run Tryz.prog w = .ok (some (145, ⟨b, 0, none⟩, 150)) w := by kernel_rfl
theorem rf_nil1 (b : Nat) (p : Addr) (w : World) (ha : w.cell? ⟨b, 0, none⟩ = some (.pointer (some p))) : (callFunc 118 #[rval 147 b 150]).run Tryz.prog w = .ok (.value (.bool false)) w := by
 have h : (ReflectliteValue.method (ReflectliteValue.valueError "reflectlite.Value.IsNil" 0) ReflectliteValue.isNil #[rval 147 b 150]).run Tryz.prog w = .ok (.bool false) w := by
  rw [rlm]
  simp only [Sem.run_bind, rf_pP1, Result.andThen]
  simp [ReflectliteValue.isNil, loadVar, isAgg, underlying, Tryz.underlying147, ha, Result.andThen]
 have hF := @run_callFunc_extern Tryz.prog 118 _ (ReflectliteValue.method (ReflectliteValue.valueError "reflectlite.Value.IsNil" 0) ReflectliteValue.isNil) Tryz.func118 (by kernel_rfl) (by kernel_rfl) (by kernel_rfl) (by kernel_rfl)
 rw [hF, h]
 rfl
theorem rf_eO1 (w : World) : (Rtype.elem? 147).run Tryz.prog w = .ok (some 145) w := by kernel_rfl
theorem rf_mk1 (p : Nat) (w : World) : (ReflectliteValue.mk 145 ⟨p, 0, none⟩ ReflectliteValue.flagAddr).run Tryz.prog w = .ok (rval 145 p 406) w := by kernel_rfl
theorem rf_elemV1 (b p : Nat) (w : World) (ha : w.cell? ⟨b, 0, none⟩ = some (.pointer (some ⟨p, 0, none⟩))) : (callFunc 183 #[rval 147 b 150]).run Tryz.prog w = .ok (.value (rval 145 p 406)) w := by
 have h : (ReflectliteValue.method (ReflectliteValue.valueError "reflectlite.Value.Elem" 0) ReflectliteValue.elem #[rval 147 b 150]).run Tryz.prog w = .ok (rval 145 p 406) w := by
  rw [rlm]
  simp only [Sem.run_bind, rf_pP1, Result.andThen]
  simp [ReflectliteValue.elem, loadVar, isAgg, underlying, Tryz.underlying147, ha, Result.andThen, rf_eO1, rf_mk1]
 have hF := @run_callFunc_extern Tryz.prog 183 _ (ReflectliteValue.method (ReflectliteValue.valueError "reflectlite.Value.Elem" 0) ReflectliteValue.elem) Tryz.func183 (by kernel_rfl) (by kernel_rfl) (by kernel_rfl) (by kernel_rfl)
 rw [hF, h]
 rfl
theorem rf_dA1 (w : World) : (Rtype.directlyAssignable 145 145).run Tryz.prog w = .ok true w := by kernel_rfl
theorem rf_set1 (t b : Nat) (e : Addr) (old : Value) (w : World) (hb : w.cell? ⟨b, 0, none⟩ = some (.pointer (some e))) (ht : w.heap[t]? = some (.cells #[old] 145 (0, 0))) : (callFunc 184 #[rval 145 t 406, rval 145 b 150]).run Tryz.prog w = .ok (.value (.tuple #[])) (w.setCell ⟨t, 0, none⟩ (.pointer (some e))) := by
 obtain ⟨hc, hf⟩ := blk_cells ht
 have h : (ReflectliteValue.set #[rval 145 t 406, rval 145 b 150]).run Tryz.prog w = .ok (.tuple #[]) (w.setCell ⟨t, 0, none⟩ (.pointer (some e))) := by
  rw [rls]
  simp only [Sem.run_bind, rf_pA1, rf_pE1, Result.andThen]
  simp [ReflectliteValue.flagAddr, loadVar, isAgg, underlying, Tryz.underlying145, hb, Result.andThen, rf_dA1, storeVar, Value.cells, storeCells, Addr.add]
  rw [run_store Tryz.prog w ⟨t, 0, none⟩ _ _ (by rfl)]
  simp [hc, hf]
 have hF := @run_callFunc_extern Tryz.prog 184 _ ReflectliteValue.set Tryz.func184 (by kernel_rfl) (by kernel_rfl) (by kernel_rfl) (by kernel_rfl)
 rw [hF, h]
 rfl
theorem rf_pP2 (b : Nat) (w : World) : (ReflectliteValue.parts (rval 127 b 150)).run Tryz.prog w = .ok (some (127, ⟨b, 0, none⟩, 150)) w := by kernel_rfl
theorem rf_pA2 (b : Nat) (w : World) : (ReflectliteValue.parts (rval 54 b 386)).run Tryz.prog w = .ok (some (54, ⟨b, 0, none⟩, 386)) w := by kernel_rfl
theorem rf_pE2 (b : Nat) (w : World) : (ReflectliteValue.parts (rval 54 b 130)).run Tryz.prog w = .ok (some (54, ⟨b, 0, none⟩, 130)) w := by kernel_rfl
theorem rf_nil2 (b : Nat) (p : Addr) (w : World) (ha : w.cell? ⟨b, 0, none⟩ = some (.pointer (some p))) : (callFunc 118 #[rval 127 b 150]).run Tryz.prog w = .ok (.value (.bool false)) w := by
 have h : (ReflectliteValue.method (ReflectliteValue.valueError "reflectlite.Value.IsNil" 0) ReflectliteValue.isNil #[rval 127 b 150]).run Tryz.prog w = .ok (.bool false) w := by
  rw [rlm]
  simp only [Sem.run_bind, rf_pP2, Result.andThen]
  simp [ReflectliteValue.isNil, loadVar, isAgg, underlying, Tryz.underlying127, ha, Result.andThen]
 have hF := @run_callFunc_extern Tryz.prog 118 _ (ReflectliteValue.method (ReflectliteValue.valueError "reflectlite.Value.IsNil" 0) ReflectliteValue.isNil) Tryz.func118 (by kernel_rfl) (by kernel_rfl) (by kernel_rfl) (by kernel_rfl)
 rw [hF, h]
 rfl
theorem rf_eO2 (w : World) : (Rtype.elem? 127).run Tryz.prog w = .ok (some 54) w := by kernel_rfl
theorem rf_mk2 (p : Nat) (w : World) : (ReflectliteValue.mk 54 ⟨p, 0, none⟩ ReflectliteValue.flagAddr).run Tryz.prog w = .ok (rval 54 p 386) w := by kernel_rfl
theorem rf_elemV2 (b p : Nat) (w : World) (ha : w.cell? ⟨b, 0, none⟩ = some (.pointer (some ⟨p, 0, none⟩))) : (callFunc 183 #[rval 127 b 150]).run Tryz.prog w = .ok (.value (rval 54 p 386)) w := by
 have h : (ReflectliteValue.method (ReflectliteValue.valueError "reflectlite.Value.Elem" 0) ReflectliteValue.elem #[rval 127 b 150]).run Tryz.prog w = .ok (rval 54 p 386) w := by
  rw [rlm]
  simp only [Sem.run_bind, rf_pP2, Result.andThen]
  simp [ReflectliteValue.elem, loadVar, isAgg, underlying, Tryz.underlying127, ha, Result.andThen, rf_eO2, rf_mk2]
 have hF := @run_callFunc_extern Tryz.prog 183 _ (ReflectliteValue.method (ReflectliteValue.valueError "reflectlite.Value.Elem" 0) ReflectliteValue.elem) Tryz.func183 (by kernel_rfl) (by kernel_rfl) (by kernel_rfl) (by kernel_rfl)
 rw [hF, h]
 rfl
theorem rf_dA2 (w : World) : (Rtype.directlyAssignable 54 54).run Tryz.prog w = .ok true w := by kernel_rfl
theorem rf_set2 (t b : Nat) (e : Int) (old : Value) (w : World) (hb : w.cell? ⟨b, 0, none⟩ = some (.int .i64 e)) (ht : w.heap[t]? = some (.cells #[old] 54 (0, 0))) : (callFunc 184 #[rval 54 t 386, rval 54 b 130]).run Tryz.prog w = .ok (.value (.tuple #[])) (w.setCell ⟨t, 0, none⟩ (.int .i64 e)) := by
 obtain ⟨hc, hf⟩ := blk_cells ht
 have h : (ReflectliteValue.set #[rval 54 t 386, rval 54 b 130]).run Tryz.prog w = .ok (.tuple #[]) (w.setCell ⟨t, 0, none⟩ (.int .i64 e)) := by
  rw [rls]
  simp only [Sem.run_bind, rf_pA2, rf_pE2, Result.andThen]
  simp [ReflectliteValue.flagAddr, loadVar, isAgg, underlying, Tryz.underlying54, hb, Result.andThen, rf_dA2, storeVar, Value.cells, storeCells, Addr.add]
  rw [run_store Tryz.prog w ⟨t, 0, none⟩ _ _ (by rfl)]
  simp [hc, hf]
 have hF := @run_callFunc_extern Tryz.prog 184 _ ReflectliteValue.set Tryz.func184 (by kernel_rfl) (by kernel_rfl) (by kernel_rfl) (by kernel_rfl)
 rw [hF, h]
 rfl
end Go.Proofs.YtjhlbbgikccclaaGreatDoor
/- U95 -/
namespace Go.Proofs.YtjhlbbgikccclaaGreatDoor
open Go.RowKit Go.Extern.Stop Go.Stop Go.Extern
instance iU95_1 : TIf Tryz.prog 20 := ⟨by kernel_rfl⟩
instance iU95_2 : MethT Tryz.prog 145 "Unwrap" 308 := ⟨fun v args w => by kernel_rfl⟩
instance iU95_3 : TRow Tryz.prog 226 3 := ⟨⟨_, Tryz.underlying226, rfl⟩, by kernel_rfl⟩
instance iU95_4 : TZ Tryz.prog 226 [.pointer none, .pointer none, .int .u64 0] := ⟨⟨.agg #[.pointer none, .pointer none, .int .u64 0], by kernel_rfl, rfl⟩⟩
instance iU95_5 : TOne Tryz.prog 212 := ⟨⟨_, Tryz.underlying212, rfl⟩, by kernel_rfl⟩
abbrev ERT : Fa := .rd (some ⟨0, 0, none⟩) [rty 43]
theorem r_asLack {P : Program} {n : Nat} {D : List Deferred} {E : Env} {L : List Fa} {x : Operand} {xT T t : TypeId} {v z : Value} {want : Array (String × TypeId)} (hu : P.underlying T = some (.interface want)) (h : (P.info? t).map (fun i => (lacking want i.methods).isEmpty) = some false) (hz : (P.info? T).map (·.zero) = some (some z)) (hx : ev E x = some (.iface t v)) : Runs0 P n D E L (.typeAssert x xT T true) (.tuple #[z, .bool false]) := fun a w ka s o ho => by
 unfold execOp
 simp only [ho, ka.ev hx]
 rw [Sem.run_bind, run_typeAssert_lacksB hu h hz]
 rfl
theorem r_asHas {P : Program} {n : Nat} {D : List Deferred} {E : Env} {L : List Fa} {x : Operand} {xT T t : TypeId} {v : Value} {want : Array (String × TypeId)} (hu : P.underlying T = some (.interface want)) (h : (P.info? t).map (fun i => (lacking want i.methods).isEmpty) = some true) (hx : ev E x = some (.iface t v)) : Runs0 P n D E L (.typeAssert x xT T true) (.tuple #[.iface t v, .bool true]) := fun a w ka s o ho => by
 unfold execOp
 simp only [ho, ka.ev hx]
 rw [Sem.run_bind, run_typeAssert_hasB hu h]
 rfl
theorem fUnwrap_s (e : Nat) (op : ByteArray) (i c : Int) : Spec Tryz.prog 308 [.pointer (some ⟨e, 0, none⟩)].toArray [.rd (some ⟨e, 0, none⟩) (fltC op i c)] [] (fun _ : Unit => .iface 54 (.int .i64 c)) (fun _ => []) := by
 refine spec_of Tryz.func308 rfl (n := 9) rfl rfl ?_
 intro W
 refine yR ?_
 refine yS rfl ?_
 refine yN ?_
 refine h_seq ?_
 refine yR ?_
 refine yM rfl ?_
 refine h_op (r_nilR rfl rfl) ?_
 refine yN ?_
 refine h_condF rfl ?_
 refine h_skip ?_
 refine q_then ?_
 refine yR ?_
 refine yM rfl ?_
 refine h_op (r_nilc rfl) ?_
 refine h_op (r_field rfl) ?_
 refine h_op (r_loadc rfl) ?_
 refine yS rfl ?_
 refine yN ?_
 refine h_ret ?_
 exact h_ret1 rfl rfl fun w s => ⟨(), rfl, s.res (List.nil_sublist _) (by simp)⟩
theorem as_in1 (e t b : Nat) : Spec Tryz.prog 119 [.iface 145 (.pointer (some ⟨e, 0, none⟩)), .iface 147 (.pointer (some ⟨t, 0, none⟩)), rval 147 b 150, rty 145].toArray [.rd (some ⟨b, 0, none⟩) [.pointer (some ⟨t, 0, none⟩)]] [.blk t [.pointer none] 145] (fun _ : Unit => .bool true) (fun _ => [.blk t [.pointer (some ⟨e, 0, none⟩)] 145]) := by
 refine spec_of Tryz.func119 rfl (n := 62) rfl rfl ?_
 intro W
 refine yR ?_
 refine h_opX (x_box rfl) fun g6 => ?_
 refine yS rfl ?_
 refine yN ?_
 refine h_block ?_
 refine h_loop (fun (s : Unit) => True) (fun (s : Unit) => [(0, .iface 145 (.pointer (some ⟨e, 0, none⟩))), (3, rty 145), (6, .pointer (some ⟨g6, 0, none⟩))]) (fun (s : Unit) => [.blk g6 [hdl 147, .pointer (some ⟨b, 0, none⟩), .int .u64 150] 226, .blk t [.pointer none] 145, .rd (some ⟨b, 0, none⟩) [.pointer (some ⟨t, 0, none⟩)]]) (fun (s : Unit) => 0) () (trivial) ⟨rfl, rfl, rfl, trivial⟩ (same) ?_
 rintro _ _
 refine h_block ?_
 refine h_seq ?_
 refine yR ?_
 refine yM rfl ?_
 refine h_op (r_fun (rf_typeOf3 _) rfl) ?_
 refine yM rfl ?_
 refine h_op (r_inv rf_asg33 rfl rfl) ?_
 refine yN ?_
 refine h_condT rfl ?_
 refine yR ?_
 refine h_op (r_loadr rfl) ?_
 refine h_op (r_funC (u := .pointer (some ⟨t, 0, none⟩)) (fun w hw => rf_elemV1 b t w hw) rfl) ?_
 refine yM rfl ?_
 refine h_opX (x_fun (u := fun b => rval 145 b 150) (cs := [.pointer (some ⟨e, 0, none⟩)]) (rf_val3 ⟨e, 0, none⟩) rfl) fun g23 => ?_
 refine h_opX (x_setV (g := t) (u := .pointer (some ⟨e, 0, none⟩)) (fun w h1 h2 => rf_set1 t g23 ⟨e, 0, none⟩ _ w h1 h2) rfl) fun g24 => ?_
 refine yN ?_
 refine yR ?_
 refine yS rfl ?_
 refine yN ?_
 refine h_ret ?_
 refine q_thenR ?_
 refine q_blockR ?_
 refine q_thenR ?_
 refine q_blockR ?_
 exact h_ret1 rfl rfl fun w s => ⟨(), rfl, (same (L' := [.blk t [.pointer (some ⟨e, 0, none⟩)] 145]) w s).res (List.Sublist.refl _) (by simp [Fa.wr])⟩
theorem as_s1 (e t : Nat) : Spec Tryz.prog 60 [.iface 145 (.pointer (some ⟨e, 0, none⟩)), .iface 147 (.pointer (some ⟨t, 0, none⟩))].toArray [ERT] [.blk t [.pointer none] 145] (fun _ : Unit => .bool true) (fun _ => [.blk t [.pointer (some ⟨e, 0, none⟩)] 145]) := by
 refine spec_of Tryz.func60 rfl (n := 42) rfl rfl ?_
 intro W
 refine yR ?_
 refine yS rfl ?_
 refine yN ?_
 refine h_seq ?_
 refine yR ?_
 refine yM rfl ?_
 refine h_op (r_ifnil rfl) ?_
 refine yN ?_
 refine h_condF rfl ?_
 refine h_skip ?_
 refine q_then ?_
 refine h_seq ?_
 refine yR ?_
 refine yM rfl ?_
 refine h_op (r_ifnil rfl) ?_
 refine yN ?_
 refine h_condF rfl ?_
 refine h_skip ?_
 refine q_then ?_
 refine yR ?_
 refine yM rfl ?_
 refine h_opX (x_fun (u := fun b => rval 147 b 150) (cs := [.pointer (some ⟨t, 0, none⟩)]) (rf_val1 ⟨t, 0, none⟩) rfl) fun g14 => ?_
 refine h_opX (x_alloc) fun g5 => ?_
 refine h_opS (s_storer rfl rfl) ?_
 refine yN ?_
 refine yR ?_
 refine h_op (r_loadr rfl) ?_
 refine h_op (r_fun (rf_type1 g14) rfl) ?_
 refine yS rfl ?_
 refine yN ?_
 refine h_seq ?_
 refine yR ?_
 refine yM rfl ?_
 refine h_op (r_inv rf_kind1 rfl rfl) ?_
 refine h_op (r_bool (r_neq rfl rfl) rfl) ?_
 refine yM rfl ?_
 refine h_op (r_loadr rfl) ?_
 refine h_op (r_funC (u := .pointer (some ⟨t, 0, none⟩)) (fun w hw => rf_nil1 g14 ⟨t, 0, none⟩ w hw) rfl) ?_
 refine h_op (r_pick rfl rfl) ?_
 refine yN ?_
 refine h_condF rfl ?_
 refine h_skip ?_
 refine q_then ?_
 refine yR ?_
 refine yM rfl ?_
 refine h_op (r_inv rf_elem1 rfl rfl) ?_
 refine yS rfl ?_
 refine yN ?_
 refine h_seq ?_
 refine yR ?_
 refine yM rfl ?_
 refine h_op (r_inv rf_kind3 rfl rfl) ?_
 refine h_op (r_bool (r_neq rfl rfl) rfl) ?_
 refine yM rfl ?_
 refine yM rfl ?_
 refine h_op (r_loadc rfl) ?_
 refine h_op (r_inv rf_impl3 rfl rfl) ?_
 refine h_op (r_not rfl) ?_
 refine h_op (r_pick rfl rfl) ?_
 refine yN ?_
 refine h_condF rfl ?_
 refine h_skip ?_
 refine q_then ?_
 refine yR ?_
 refine yM rfl ?_
 refine yM rfl ?_
 refine h_op (r_loadr rfl) ?_
 refine yM rfl ?_
 refine h_call ((as_in1 e t g14).comes) rfl rfl rfl fun _ => ?_
 refine yS rfl ?_
 refine yN ?_
 refine h_ret ?_
 exact h_ret1 rfl rfl fun w s => ⟨(), rfl, (same (L' := [.blk t [.pointer (some ⟨e, 0, none⟩)] 145]) w s).res (List.Sublist.refl _) (by simp [Fa.wr])⟩
theorem as_in2 (e t b : Nat) (op : ByteArray) (i c : Int) : Spec Tryz.prog 119 [.iface 145 (.pointer (some ⟨e, 0, none⟩)), .iface 127 (.pointer (some ⟨t, 0, none⟩)), rval 127 b 150, rty 54].toArray [.rd (some ⟨b, 0, none⟩) [.pointer (some ⟨t, 0, none⟩)], .rd (some ⟨e, 0, none⟩) (fltC op i c)] [.blk t [.int .i64 0] 54] (fun _ : Unit => .bool true) (fun _ => [.blk t [.int .i64 c] 54]) := by
 refine spec_of Tryz.func119 rfl (n := 62) rfl rfl ?_
 intro W
 refine yR ?_
 refine h_opX (x_box rfl) fun g6 => ?_
 refine yS rfl ?_
 refine yN ?_
 refine h_block ?_
 refine h_loop (fun (s : Bool) => True) (fun (s : Bool) => [(0, if s then .iface 54 (.int .i64 c) else .iface 145 (.pointer (some ⟨e, 0, none⟩))), (3, rty 54), (6, .pointer (some ⟨g6, 0, none⟩))]) (fun (s : Bool) => [.blk g6 [hdl 127, .pointer (some ⟨b, 0, none⟩), .int .u64 150] 226, .blk t [.int .i64 0] 54, .rd (some ⟨b, 0, none⟩) [.pointer (some ⟨t, 0, none⟩)], .rd (some ⟨e, 0, none⟩) (fltC op i c)]) (fun (s : Bool) => (if s then 0 else 1)) false (trivial) ⟨rfl, rfl, rfl, trivial⟩ (same) ?_
 rintro s _
 cases s
 ·refine h_block ?_
  refine h_seq ?_
  refine yR ?_
  refine yM rfl ?_
  refine h_op (r_fun (rf_typeOf3 _) rfl) ?_
  refine yM rfl ?_
  refine h_op (r_inv rf_asg34 rfl rfl) ?_
  refine yN ?_
  refine h_condF rfl ?_
  refine h_skip ?_
  refine q_then ?_
  refine h_seq ?_
  refine yR ?_
  refine yM rfl ?_
  refine h_op (r_asLack (t := 145) (z := .nilIface) Tryz.underlying322 (by kernel_rfl) (by kernel_rfl) rfl) ?_
  refine yM rfl ?_
  refine h_op (r_extract rfl rfl) ?_
  refine h_op (r_extract rfl rfl) ?_
  refine yS rfl ?_
  refine yS rfl ?_
  refine yN ?_
  refine yR ?_
  refine yM rfl ?_
  refine yM rfl ?_
  refine h_opOff ?_
  refine h_opOff ?_
  refine h_opOff ?_
  refine h_op (r_pick rfl rfl) ?_
  refine yN ?_
  refine h_condF rfl ?_
  refine h_skip ?_
  refine q_then ?_
  refine yR ?_
  refine yM rfl ?_
  refine yN ?_
  refine h_block ?_
  refine yR ?_
  refine h_op (r_asHas (t := 145) Tryz.underlying314 (by kernel_rfl) rfl) ?_
  refine h_op (r_extract rfl rfl) ?_
  refine h_op (r_extract rfl rfl) ?_
  refine yN ?_
  refine h_condT rfl ?_
  refine yR ?_
  refine yS rfl ?_
  refine yN ?_
  refine yR ?_
  refine yM rfl ?_
  refine h_callM ((fUnwrap_s e op i c).comes) rfl rfl rfl fun _ => ?_
  refine yS rfl ?_
  refine yN ?_
  refine yR ?_
  refine yM rfl ?_
  refine h_op (r_ifnil rfl) ?_
  refine yN ?_
  refine h_condF rfl ?_
  refine h_skip ?_
  refine q_block ?_
  refine q_block ?_
  exact h_back true (trivial) ((show 0 < 1 by decide)) ⟨rfl, rfl, rfl, trivial⟩ (same)
 ·refine h_block ?_
  refine h_seq ?_
  refine yR ?_
  refine yM rfl ?_
  refine h_op (r_fun (rf_typeOf4 _) rfl) ?_
  refine yM rfl ?_
  refine h_op (r_inv rf_asg44 rfl rfl) ?_
  refine yN ?_
  refine h_condT rfl ?_
  refine yR ?_
  refine h_op (r_loadr rfl) ?_
  refine h_op (r_funC (u := .pointer (some ⟨t, 0, none⟩)) (fun w hw => rf_elemV2 b t w hw) rfl) ?_
  refine yM rfl ?_
  refine h_opX (x_fun (u := fun b => rval 54 b 130) (cs := [.int .i64 c]) (rf_val4 c) rfl) fun g23 => ?_
  refine h_opX (x_setV (g := t) (u := .int .i64 c) (fun w h1 h2 => rf_set2 t g23 c _ w h1 h2) rfl) fun g24 => ?_
  refine yN ?_
  refine yR ?_
  refine yS rfl ?_
  refine yN ?_
  refine h_ret ?_
  refine q_thenR ?_
  refine q_blockR ?_
  refine q_thenR ?_
  refine q_blockR ?_
  exact h_ret1 rfl rfl fun w s => ⟨(), rfl, (same (L' := [.blk t [.int .i64 c] 54]) w s).res (List.Sublist.refl _) (by simp [Fa.wr])⟩
theorem as_s2 (e t : Nat) (op : ByteArray) (i c : Int) : Spec Tryz.prog 60 [.iface 145 (.pointer (some ⟨e, 0, none⟩)), .iface 127 (.pointer (some ⟨t, 0, none⟩))].toArray [ERT, .rd (some ⟨e, 0, none⟩) (fltC op i c)] [.blk t [.int .i64 0] 54] (fun _ : Unit => .bool true) (fun _ => [.blk t [.int .i64 c] 54]) := by
 refine spec_of Tryz.func60 rfl (n := 42) rfl rfl ?_
 intro W
 refine yR ?_
 refine yS rfl ?_
 refine yN ?_
 refine h_seq ?_
 refine yR ?_
 refine yM rfl ?_
 refine h_op (r_ifnil rfl) ?_
 refine yN ?_
 refine h_condF rfl ?_
 refine h_skip ?_
 refine q_then ?_
 refine h_seq ?_
 refine yR ?_
 refine yM rfl ?_
 refine h_op (r_ifnil rfl) ?_
 refine yN ?_
 refine h_condF rfl ?_
 refine h_skip ?_
 refine q_then ?_
 refine yR ?_
 refine yM rfl ?_
 refine h_opX (x_fun (u := fun b => rval 127 b 150) (cs := [.pointer (some ⟨t, 0, none⟩)]) (rf_val2 ⟨t, 0, none⟩) rfl) fun g14 => ?_
 refine h_opX (x_alloc) fun g5 => ?_
 refine h_opS (s_storer rfl rfl) ?_
 refine yN ?_
 refine yR ?_
 refine h_op (r_loadr rfl) ?_
 refine h_op (r_fun (rf_type2 g14) rfl) ?_
 refine yS rfl ?_
 refine yN ?_
 refine h_seq ?_
 refine yR ?_
 refine yM rfl ?_
 refine h_op (r_inv rf_kind2 rfl rfl) ?_
 refine h_op (r_bool (r_neq rfl rfl) rfl) ?_
 refine yM rfl ?_
 refine h_op (r_loadr rfl) ?_
 refine h_op (r_funC (u := .pointer (some ⟨t, 0, none⟩)) (fun w hw => rf_nil2 g14 ⟨t, 0, none⟩ w hw) rfl) ?_
 refine h_op (r_pick rfl rfl) ?_
 refine yN ?_
 refine h_condF rfl ?_
 refine h_skip ?_
 refine q_then ?_
 refine yR ?_
 refine yM rfl ?_
 refine h_op (r_inv rf_elem2 rfl rfl) ?_
 refine yS rfl ?_
 refine yN ?_
 refine h_seq ?_
 refine yR ?_
 refine yM rfl ?_
 refine h_op (r_inv rf_kind4 rfl rfl) ?_
 refine h_op (r_bool (r_neq rfl rfl) rfl) ?_
 refine yM rfl ?_
 refine yM rfl ?_
 refine h_op (r_loadc rfl) ?_
 refine h_op (r_inv rf_impl4 rfl rfl) ?_
 refine h_op (r_not rfl) ?_
 refine h_op (r_pick rfl rfl) ?_
 refine yN ?_
 refine h_condF rfl ?_
 refine h_skip ?_
 refine q_then ?_
 refine yR ?_
 refine yM rfl ?_
 refine yM rfl ?_
 refine h_op (r_loadr rfl) ?_
 refine yM rfl ?_
 refine h_call ((as_in2 e t g14 op i c).comes) rfl rfl rfl fun _ => ?_
 refine yS rfl ?_
 refine yN ?_
 refine h_ret ?_
 exact h_ret1 rfl rfl fun w s => ⟨(), rfl, (same (L' := [.blk t [.int .i64 c] 54]) w s).res (List.Sublist.refl _) (by simp [Fa.wr])⟩
theorem Code_s (e : Nat) (op : ByteArray) (i c : Int) : Spec Tryz.prog 72 [.iface 145 (.pointer (some ⟨e, 0, none⟩))].toArray [ERT, .rd (some ⟨e, 0, none⟩) (fltC op i c)] [] (fun _ : Unit => .int .i64 c) (fun _ => []) := by
 refine spec_of Tryz.func72 rfl (n := 12) rfl rfl ?_
 intro W
 refine yR ?_
 refine yS rfl ?_
 refine yN ?_
 refine yR ?_
 refine h_opX (x_alloc) fun g3 => ?_
 refine yN ?_
 refine h_seq ?_
 refine h_block ?_
 refine yR ?_
 refine yM rfl ?_
 refine h_op (r_ifnil rfl) ?_
 refine yS rfl ?_
 refine yN ?_
 refine h_condF rfl ?_
 refine yR ?_
 refine yM rfl ?_
 refine h_op (r_mkI rfl) ?_
 refine h_call ((as_s2 e g3 op i c).comes) rfl rfl rfl fun _ => ?_
 refine yS rfl ?_
 refine yN ?_
 refine h_condT rfl ?_
 refine yR ?_
 refine h_op (r_loadc rfl) ?_
 refine yS rfl ?_
 refine yN ?_
 refine h_ret ?_
 refine q_blockR ?_
 refine q_thenR ?_
 exact h_ret1 rfl rfl fun w s => ⟨(), rfl, s.res (List.nil_sublist _) (by simp)⟩
theorem First_s (e : Nat) (op : ByteArray) (i c : Int) : Spec Tryz.prog 94 [.iface 145 (.pointer (some ⟨e, 0, none⟩))].toArray [ERT, .rd (some ⟨e, 0, none⟩) (fltC op i c)] [] (fun _ : Unit => .tuple #[.string op, .int .i64 i, .bool true]) (fun _ => []) := by
 refine spec_of Tryz.func94 rfl (n := 18) rfl rfl ?_
 intro W
 refine yR ?_
 refine yS rfl ?_
 refine yS rfl ?_
 refine yS rfl ?_
 refine yN ?_
 refine yR ?_
 refine h_opX (x_alloc) fun g5 => ?_
 refine yN ?_
 refine h_seq ?_
 refine yR ?_
 refine yM rfl ?_
 refine h_op (r_mkI rfl) ?_
 refine h_call ((as_s1 e g5).comes) rfl rfl rfl fun _ => ?_
 refine h_op (r_not rfl) ?_
 refine yN ?_
 refine h_condF rfl ?_
 refine h_skip ?_
 refine q_then ?_
 refine h_seq ?_
 refine ha_start [.blk g5 [.pointer (some ⟨e, 0, none⟩)] 145, .rd (some ⟨e, 0, none⟩) (fltC op i c)] [] mixed (same) ?_
 refine ha_take 0 rfl (r_loadc rfl) ?_
 refine ha_takeP 1 rfl (r_nilc rfl) ?_
 refine ha_takeP 2 rfl (r_field rfl) ?_
 refine ha_take 3 rfl (r_loadc rfl) ?_
 refine ha_take 4 rfl (r_loadc rfl) ?_
 refine ha_takeP 5 rfl (r_nilc rfl) ?_
 refine ha_takeP 6 rfl (r_field rfl) ?_
 refine ha_take 7 rfl (r_loadc rfl) ?_
 refine ha_takeP 8 rfl (r_assign rfl) ?_
 refine ha_takeP 9 rfl (r_assign rfl) ?_
 refine ha_takeP 10 rfl (r_assign rfl) ?_
 refine ha_done (by kernel_rfl) ?_
 refine q_then ?_
 refine h_ret ?_
 exact h_ret3 rfl rfl rfl rfl fun w s => ⟨(), rfl, s.res (List.nil_sublist _) (by simp)⟩
end Go.Proofs.YtjhlbbgikccclaaGreatDoor
/- TV -/
namespace Go.Proofs.YtjhlbbgikccclaaGreatDoor
open Go.RowKit Go.ChangeShapes Go.WideShapes
section
variable {H : Type} {enc : TypeId × Value → H} {w : World} {base : Nat} {spare : Nat → Bool} {held : Bool} {v : Value} {d : DataW H} {ps : List MemPlace} {r : Reach} {b0 : Nat}
theorem c_bool : Tryz.prog.cellsOf 4 = 1 := by kernel_rfl
theorem dec_bytes {fuel : Nat} {cs : List Value} {x : DataW H × List MemPlace} (h : DataW.trod enc Tryz.prog w base spare held fuel 35 cs = some x) : ∃ (s : Sl) (l : List UInt8), cs = [.slice s.A s.n s.c] ∧ SlZ (World.zh w) s l := by
 obtain ⟨l, A, c, e2, hlc, -, hA, hr, -⟩ := open_rows_t (f := fun b : UInt8 => [Value.int .u8 b.toNat]) (fun _ => rfl) Nat.one_pos Tryz.underlying35 c_u8 (fun _ => True) (fun fuel cs x h => by
  obtain ⟨n, rfl, _, hw⟩ := DataW.trod_int Tryz.underlying5 h
  have := bounds_u8 hw
  exact ⟨toByte (.int .u8 n), by rw [toByte_int this.1 this.2], trivial⟩) h
 rw [byteOf_bc] at hr
 refine ⟨⟨A, l.length, c⟩, l, e2, ⟨rfl, hlc, fun h0 => ?_, RdZ.of hr⟩⟩
 have := hA h0
 exact ⟨(show l.length = 0 by omega), this⟩
end
abbrev laidR2 : List (String × DataW Unit) := [("errors.errorType", Rows.laid_errors_errorType), ("sparsetree/sha.rounds", Rows.laid_sparsetree_sha_rounds)]
theorem gET : Tryz.prog.globalNamed "errors.errorType" = some 0 := by kernel_rfl
theorem rtET : (Tryz.prog.cutTypes.find? (·.1 == "internal/reflectlite.rtype")).map (·.2) = some 309 := by kernel_rfl
theorem oneError : ((List.range Tryz.prog.types.size).filter fun t => Tryz.prog.rowNamed t [101, 114, 114, 111, 114]) = [43] := by kernel_rfl
theorem laid_both {W : World} (h : laidMetH Tryz.prog laidR2 W) : laidMetH Tryz.prog laidR W ∧ handlesMet Tryz.prog [("errors.errorType", Rows.laid_errors_errorType)] W := by
 have h' : laidMet Tryz.prog laidR W ∧ handlesMet Tryz.prog [("errors.errorType", Rows.laid_errors_errorType)] W := h
 refine ⟨?_, h'.2⟩
 rw [MakeChecks.laidMetH_plain _ _ _ (by kernel_rfl)]
 exact h'.1
theorem error_of {W : World} (h : laidMetH Tryz.prog laidR2 W) : Rd W (some ⟨0, 0, none⟩) [rty 43] := by
 obtain ⟨name, u, ty, e1, e2, e3, e4, e5⟩ := (laid_both h).2 _ (List.mem_singleton.2 rfl)
 have en : name = [101, 114, 114, 111, 114] := (Option.some.inj e1).symm
 subst en
 obtain rfl := Option.some.inj (rtET.symm.trans e2)
 have hm : ty ∈ (List.range Tryz.prog.types.size).filter fun t => Tryz.prog.rowNamed t [101, 114, 114, 111, 114] := List.mem_filter.2 ⟨List.mem_range.2 e3, e4⟩
 rw [oneError] at hm
 obtain rfl := List.mem_singleton.1 hm
 have hh : typeHandle Tryz.prog 43 = hdl 43 := by kernel_rfl
 rw [hh] at e5
 have hc := World.var?_cell gET e5 0
 intro j u hu
 refine ⟨0, 0, rfl, ?_⟩
 match j, hu with
 | 0, hu =>
  rw [← hu]
  simpa using hc
 | j + 1, hu => exact absurd hu (by simp)
theorem door_met2 (os : Os) (args : Array Value) : laidMetH Tryz.prog laidR2 ((World.doorLaid Tryz.prog 36 os).forCall (fun _ _ => 0) ⟨#[], args, []⟩).memory :=
 laidMetH_of_parts3 (fuel := 8) (laidMet_of_run' 8 (by kernel_rfl) (by kernel_rfl)) (by kernel_rfl) (by kernel_rfl)
end Go.Proofs.YtjhlbbgikccclaaGreatDoor
/- U49 -/
namespace Go.Proofs.YtjhlbbgikccclaaGreatDoor
open Go.RowKit
end Go.Proofs.YtjhlbbgikccclaaGreatDoor
/- U26p -/
namespace Go.Proofs.YtjhlbbgikccclaaGreatDoor
open Go.RowKit
end Go.Proofs.YtjhlbbgikccclaaGreatDoor
/- U46 -/
namespace Go.Proofs.YtjhlbbgikccclaaGreatDoor
open Go.RowKit
def kB (x : UInt8) : B32 := ⟨x :: List.replicate 31 0, rfl⟩
theorem slz_nil (h : Zh) : SlZ h ⟨none, 0, 0⟩ [] := ⟨rfl, Nat.le_refl _, fun _ => ⟨rfl, rfl⟩, RdZ.nil _ _⟩
theorem z7 : prfK 256 (kB 7) .nil 0 none 0 = zProof := by
 unfold prfK
 show (⟨0, 0, zLeaf, dset [], ⟨none, 0, 0⟩⟩ : Proof) = zProof
 rw [dset_nil]; rfl
end Go.Proofs.YtjhlbbgikccclaaGreatDoor
/- U50 -/
namespace Go.Proofs.YtjhlbbgikccclaaGreatDoor
open Go.RowKit
end Go.Proofs.YtjhlbbgikccclaaGreatDoor
/- U51t -/
namespace Go.Proofs.YtjhlbbgikccclaaGreatDoor
open Go.RowKit
instance iU51t_1 : TBool Tryz.prog 4 := ⟨Tryz.underlying4⟩
theorem New_no (i : Int) (h : ¬ (0 ≤ i ∧ i ≤ 256)) : Spec Tryz.prog 79 [.int .i64 i].toArray [] [] (fun _ : Unit => .tuple #[.pointer none, .int .i64 4]) (fun _ => []) := by
 refine spec_of Tryz.func79 rfl (n := 15) rfl rfl ?_
 intro W
 by_cases h0 : i < 0
 ·refine h_seq ?_
  refine h_reg ?_
  refine yS rfl ?_
  refine yS rfl ?_
  refine yN ?_
  refine h_seq ?_
  refine yR ?_
  refine yM rfl ?_
  refine h_op (r_bool (r_lss rfl rfl) (decide_eq_true h0)) ?_
  refine yM rfl ?_
  refine h_opOff ?_
  refine h_opOff ?_
  refine h_op (r_pick rfl rfl) ?_
  refine yN ?_
  refine h_condT rfl ?_
  refine yR ?_
  refine yS rfl ?_
  refine yS rfl ?_
  refine yN ?_
  refine h_ret ?_
  refine q_thenR ?_
  exact h_ret2 rfl rfl rfl fun w s => ⟨(), rfl, s.res (List.nil_sublist _) (by simp)⟩
 ·refine h_seq ?_
  refine h_reg ?_
  refine yS rfl ?_
  refine yS rfl ?_
  refine yN ?_
  refine h_seq ?_
  refine yR ?_
  refine yM rfl ?_
  refine h_op (r_bool (r_lss rfl rfl) (decide_eq_false h0)) ?_
  refine yM rfl ?_
  refine yM rfl ?_
  refine h_op (r_bool (r_gtr rfl rfl) (decide_eq_true (by omega))) ?_
  refine h_op (r_pick rfl rfl) ?_
  refine yN ?_
  refine h_condT rfl ?_
  refine yR ?_
  refine yS rfl ?_
  refine yS rfl ?_
  refine yN ?_
  refine h_ret ?_
  refine q_thenR ?_
  exact h_ret2 rfl rfl rfl fun w s => ⟨(), rfl, s.res (List.nil_sublist _) (by simp)⟩
structure WayM (key : B32) (m : List En) (D : Nat) : Prop where
 way : WayTo key (mkT m 0) D
 last : (atM key m D).length ≤ 1
 more : ∀ i, i < D → 1 < (atM key m i).length
 on : ∀ i, i ≤ D → wayK key (mkT m 0) i = mkT (atM key m i) i
theorem wayM {key : B32} {m : List En} (h : Alike m 0) : ∃ D, WayM key m D := by
 obtain ⟨D, a, b, c, d, e⟩ := wayTo_mkT (key := key) h
 exact ⟨D, a, c, d, e⟩
theorem WayM.sib {key : B32} {m : List En} {D : Nat} (w : WayM key m D) : ∀ i, i < D → sibK key (mkT m 0) i = mkT (sibM key m i) (i + 1) := fun i hi => by
 unfold sibK
 have hle := w.way.le
 rw [w.on i (by omega), mkT_two (w.more i hi) (by omega)]
 unfold sibM
 cases bitAt key i <;> rfl
end Go.Proofs.YtjhlbbgikccclaaGreatDoor
/- U52 -/
namespace Go.Proofs.YtjhlbbgikccclaaGreatDoor
open Go.RowKit
theorem first_diff (a b : B32) : ∀ n, (∀ j, j < n → (bitAt a j ^^ bitAt b j) = false) ∨ ∃ k, k < n ∧ (∀ j, j < k → (bitAt a j ^^ bitAt b j) = false) ∧ (bitAt a k ^^ bitAt b k) = true
 | 0 => .inl fun j hj => by omega
 | n + 1 => by
  rcases first_diff a b n with h | ⟨k, h1, h2, h3⟩
  ·cases hb : bitAt a n ^^ bitAt b n
   ·refine .inl fun j hj => ?_
    rcases Nat.lt_or_ge j n with h4 | h4
    ·exact h j h4
    ·obtain rfl : j = n := by omega
     exact hb
   ·exact .inr ⟨n, by omega, h, hb⟩
  ·exact .inr ⟨k, by omega, h2, h3⟩
theorem common_ge {a b : B32} {D : Nat} (hD : D ≤ 256) (h : ∀ i, i < D → bitAt a i = bitAt b i) : D ≤ common a b := by
 rcases first_diff a b 256 with h1 | ⟨k, h1, h2, h3⟩
 ·rw [common_of (Nat.le_refl _) h1 (.inl rfl)]; exact hD
 ·rw [common_of (by omega) h2 (.inr h3)]
  rcases Nat.lt_or_ge k D with h4 | h4
  ·rw [h k h4] at h3; simp at h3
  ·exact h4
theorem atM_bits {key : B32} {m : List En} : ∀ {D : Nat} {e : En}, e ∈ atM key m D → e ∈ m ∧ ∀ i, i < D → bitAt e.key i = bitAt key i
 | 0, e, h => ⟨h, fun i hi => by omega⟩
 | D + 1, e, h => by
  obtain ⟨h1, h2⟩ := part_mem.1 h
  obtain ⟨h3, h4⟩ := atM_bits h1
  refine ⟨h3, fun i hi => ?_⟩
  rcases Nat.lt_or_ge i D with h5 | h5
  ·exact h4 i h5
  ·obtain rfl : i = D := by omega
   exact h2
theorem atM_key {key : B32} {m : List En} {e : En} (h : e ∈ m) (hk : e.key = key) : ∀ D, e ∈ atM key m D
 | 0 => h
 | D + 1 => part_mem.2 ⟨atM_key h hk D, by rw [hk]⟩
def getE' (m : List En) (key : B32) : Option En := m.find? fun e => decide (e.key = key)
def getV : Option En → List UInt8
 | some e => e.val
 | none => []
def getS : Option En → Sl
 | some e => e.e.value
 | none => ⟨none, 0, 0⟩
theorem getS_ok {h : Zh} {m : List En} (hv : ValsZ h m) (key : B32) : SlZ h (getS (getE' m key)) (getV (getE' m key)) ∧ (getV (getE' m key)).length ≤ 10000000 := by
 cases hg : getE' m key with
 | none => exact ⟨⟨rfl, Nat.le_refl _, fun _ => ⟨rfl, rfl⟩, RdZ.nil _ _⟩, Nat.zero_le _⟩
 | some e => exact hv e (List.mem_of_find?_eq_some hg)
theorem end_get {key : B32} {m : List En} {D : Nat} (hl : (atM key m D).length ≤ 1) : (atM key m D = [] ∧ getE' m key = none) ∨ ∃ e, atM key m D = [e] ∧ (∀ i, i < D → bitAt e.key i = bitAt key i) ∧ ((e.key = key ∧ getE' m key = some e) ∨ (e.key ≠ key ∧ getE' m key = none)) := by
 have hno : ∀ {e : En}, getE' m key = some e → e ∈ atM key m D ∧ e.key = key := fun {e} he => by
  have h2 := List.find?_some he
  have h3 : e.key = key := by simpa using h2
  exact ⟨atM_key (List.mem_of_find?_eq_some he) h3 D, h3⟩
 cases hg : getE' m key with
 | none =>
  match hq : atM key m D, hl with
  | [], _ => exact .inl ⟨rfl, rfl⟩
  | [e], _ =>
   have hm : e ∈ atM key m D := by rw [hq]; simp
   obtain ⟨h1, h2⟩ := atM_bits hm
   refine .inr ⟨e, rfl, h2, .inr ⟨fun hk => ?_, rfl⟩⟩
   have := List.find?_eq_none.1 hg e h1
   simp [hk] at this
  | _ :: _ :: _, hl => exact absurd hl (by simp)
 | some f =>
  obtain ⟨h1, h2⟩ := hno hg
  match hq : atM key m D, hl with
  | [], _ => rw [hq] at h1; cases h1
  | [e], _ =>
   rw [hq] at h1
   obtain rfl : f = e := by simpa using h1
   exact .inr ⟨f, rfl, fun i _ => by rw [h2], .inl ⟨h2, rfl⟩⟩
  | _ :: _ :: _, hl => exact absurd hl (by simp)
theorem find_take {m : List En} {key : B32} {k : Nat} {e : En} (he : m[k]? = some e) (hk : e.key = key) (ha : ∀ f ∈ m.take k, f.key ≠ key) : getE' m key = some e := by
 have e1 : m = m.take k ++ e :: m.drop (k + 1) := by
  have h1 := List.take_append_drop k m
  have hl := (List.getElem?_eq_some_iff.1 he)
  obtain ⟨hl, hx⟩ := hl
  rw [List.drop_eq_getElem_cons hl, hx] at h1
  exact h1.symm
 unfold getE'
 rw [e1, List.find?_append]
 have h2 : (m.take k).find? (fun f => decide (f.key = key)) = none := List.find?_eq_none.2 fun f hf => by simpa using ha f hf
 rw [h2, List.find?_cons_of_pos (by simpa using hk)]
 rfl
theorem Get_s (m : List En) (B : Option Addr) (c : Nat) (key : B32) (hm : m.length ≤ 100000000) : Spec Tryz.prog 54 [.slice B m.length c, .agg key.cells.toArray].toArray [.rd B (ents m)] [] (fun _ : Unit => .tuple #[.slice (getS (getE' m key)).A (getS (getE' m key)).n (getS (getE' m key)).c, .bool (getE' m key).isSome]) (fun _ => []) := by
 refine spec_of Tryz.func54 rfl (n := 25) rfl rfl ?_
 intro W
 refine yR ?_
 refine h_opX (x_box rfl) fun g3 => ?_
 refine yS rfl ?_
 refine yS rfl ?_
 refine yN ?_
 refine h_seq ?_
 refine yR ?_
 refine yS rfl ?_
 refine yN ?_
 refine h_block ?_
 refine h_loop (fun (k : Nat) => k ≤ m.length ∧ ∀ f ∈ m.take k, f.key ≠ key) (fun (k : Nat) => [(6, .int .i64 (k : Int)), (0, .slice B m.length c), (3, .pointer (some ⟨g3, 0, none⟩))]) (fun (k : Nat) => [.blk g3 key.cells 34, .rd B (ents m)]) (fun (k : Nat) => m.length - k) 0 (⟨Nat.zero_le _, fun f hf => by simp at hf⟩) ⟨rfl, rfl, rfl, trivial⟩ (same) ?_
 rintro k ⟨hk, ha⟩
 refine h_seq ?_
 refine yR ?_
 refine yM rfl ?_
 refine yM rfl ?_
 refine h_op (r_len rfl) ?_
 refine h_op (r_lss rfl rfl) ?_
 refine yN ?_
 refine h_cond rfl (fun h => ?_) (fun h => ?_)
 ·obtain ⟨e, he⟩ := getE (l := m) (k := k) (by omega)
  refine h_pure (φ := ∃ b o, B = some ⟨b, o, none⟩) (fun w s => Rd.some (s.ok (.rd B (ents m)) (by simp)) (by rw [ents_len]; omega)) ?_
  rintro ⟨bb, o, rfl⟩
  refine h_skip ?_
  refine q_then ?_
  refine h_seq ?_
  refine h_block ?_
  refine h_seq ?_
  refine ha_start [.blk g3 key.cells 34, .rd (some ⟨bb, o, none⟩) (ents m)] [] mixed (same) ?_
  refine ha_takeP 0 rfl (r_move rfl) ?_
  refine ha_takeP 1 rfl (r_move rfl) ?_
  refine ha_takeP 2 rfl (r_idx rfl rfl) ?_
  refine ha_takeP 3 rfl (r_field rfl) ?_
  refine ha_take 4 rfl (r_nthr rfl (out := e.key.cells) (B32.cells_length _) (ents_key he)) ?_
  refine ha_take 5 rfl (r_loadr rfl) ?_
  refine ha_takeP 6 rfl (r_eqr rfl rfl) ?_
  refine ha_done (by kernel_rfl) ?_
  refine q_then ?_
  refine h_cond rfl (fun h2 => ?_) (fun h2 => ?_)
  ·rw [find_take he (by simpa using h2) ha]
   refine yR ?_
   refine yM rfl ?_
   refine yM rfl ?_
   refine h_op (r_idx rfl rfl) ?_
   refine h_op (r_field rfl (O' := o + (k * 33 + 32)) (by omega)) ?_
   refine h_op (r_nth rfl (ents_val he)) ?_
   refine yS rfl ?_
   refine yS rfl ?_
   refine yN ?_
   refine h_ret ?_
   refine q_blockR ?_
   refine q_thenR ?_
   refine q_thenR ?_
   refine q_blockR ?_
   refine q_thenR ?_
   exact h_ret2 rfl rfl rfl fun w s => ⟨(), rfl, s.res (List.nil_sublist _) (by simp)⟩
  ·have ha2 : ∀ f ∈ m.take (k + 1), f.key ≠ key := fun f hf => by
    rw [take_snocE he] at hf
    rcases List.mem_append.1 hf with hf | hf
    ·exact ha f hf
    ·rw [List.mem_singleton.1 hf]; simpa using h2
   refine h_skip ?_
   refine q_block ?_
   refine q_then ?_
   refine h_reg ?_
   refine yM rfl ?_
   refine h_op (r_add rfl rfl) ?_
   refine yS rfl ?_
   refine h_nil ?_
   exact h_back (k + 1) (⟨by omega, ha2⟩) (by omega) ⟨rfl, rfl, rfl, trivial⟩ (same)
 ·obtain rfl : k = m.length := by omega
  rw [List.take_length] at ha
  have : getE' m key = none := List.find?_eq_none.2 fun f hf => by simpa using ha f hf
  rw [this]
  refine h_exit ?_
  refine q_thenE ?_
  refine q_thenE ?_
  refine q_blockE ?_
  refine q_then ?_
  refine yR ?_
  refine yS rfl ?_
  refine yS rfl ?_
  refine yN ?_
  refine h_ret ?_
  exact h_ret2 rfl rfl rfl fun w s => ⟨(), rfl, s.res (List.nil_sublist _) (by simp)⟩
end Go.Proofs.YtjhlbbgikccclaaGreatDoor
