/- fold.ways: what it yields; fold.Steps, fold.Root; slices.Reverse; fold.Preimages; fold.Preimages; The reference's depths and expansion; The reference's preimages and steps (joined texts: U19 U20 U21 U22 U23 U24) -/
import Derived.Test.YtfjlpndohnianaaDoorZ9
set_option linter.all false
/- U19 -/
namespace Go.Proofs.YtfjlpndohnianaaDoor
set_option linter.unusedSimpArgs false
set_option linter.unusedVariables false
open Go.RowKit
/-- the preimages along the way, from the end on -/
def wayP (n : Nat) (key : B32) (ds : List B32) (pre : List UInt8) : Nat → List UInt8
  | 0 => pre
  | k + 1 => if bitAt key (ds.length - 1 - k) then preN (ds.getD (ds.length - 1 - k) zB32) (sumB n (wayP n key ds pre k)) else preN (sumB n (wayP n key ds pre k)) (ds.getD (ds.length - 1 - k) zB32)
theorem wayP_len (n : Nat) (key : B32) (ds : List B32) (pre : List UInt8) (h : pre.length ≤ 65) : ∀ k, (wayP n key ds pre k).length ≤ 65
  | 0 => h
  | k + 1 => by
    rw [wayP]
    split <;> rw [preN_len] <;> exact Nat.le_refl _
theorem Bit_y (b : B32) (i : Nat) (hi : i < 256) (h : bitAt b i = true) : Spec Tryd.prog 54 [.agg b.cells.toArray, .int .i64 (i : Int)].toArray [] [] (fun _ : Unit => .int .i64 1) (fun _ => []) := by
  have := Bit_s b i hi
  rwa [show bitN b i = 1 by unfold bitN; rw [h]; rfl] at this
theorem Bit_n (b : B32) (i : Nat) (hi : i < 256) (h : ¬ bitAt b i = true) : Spec Tryd.prog 54 [.agg b.cells.toArray, .int .i64 (i : Int)].toArray [] [] (fun _ : Unit => .int .i64 0) (fun _ => []) := by
  have := Bit_s b i hi
  rwa [show bitN b i = 0 by unfold bitN; rw [if_neg h]] at this
instance (a b : B32) : Row (a.cells ++ b.cells) 64 := ⟨by rw [List.length_append, B32.cells_length, B32.cells_length], fun v hv => (List.mem_append.1 hv).elim (B32.cells_one a v) (B32.cells_one b v)⟩
instance (a b c : B32) : SetAt (a.cells ++ b.cells) 0 c.cells (c.cells ++ b.cells) := ⟨by rw [List.take_zero, List.nil_append, Nat.zero_add, B32.cells_length, List.drop_append, List.drop_of_length_le (by rw [B32.cells_length]; exact Nat.le_refl _), B32.cells_length, Nat.sub_self, List.drop_zero, List.nil_append], by simp [B32.cells_length]⟩
instance (a b c : B32) : SetAt (a.cells ++ b.cells) 32 c.cells (a.cells ++ c.cells) := ⟨by rw [List.take_append_of_le_length (by rw [B32.cells_length]; exact Nat.le_refl _), List.take_of_length_le (by rw [B32.cells_length]; exact Nat.le_refl _), List.drop_of_length_le (by simp [B32.cells_length]), List.append_nil], by simp [B32.cells_length]⟩
instance (a b : B32) : RowAt (a.cells ++ b.cells) 0 32 a.cells := ⟨fun j v hv => by rw [Nat.zero_add, List.getElem?_append_left (List.getElem?_eq_some_iff.1 hv).1]; exact hv, B32.cells_length a⟩
instance (a b : B32) : RowAt (a.cells ++ b.cells) 32 32 b.cells := ⟨fun j v hv => by rw [List.getElem?_append_right (by rw [B32.cells_length]; omega), B32.cells_length, Nat.add_sub_cancel_left]; exact hv, B32.cells_length b⟩
instance : TZ Tryd.prog 98 (zB32.cells ++ zB32.cells) := ⟨⟨.agg (zB32.cells ++ zB32.cells).toArray, by kernel_rfl, rfl⟩⟩
instance : TB Tryd.prog 98 (zB32.cells ++ zB32.cells) (plArr 32) := ⟨fun w ps cells h => run_build_array Tryd.underlying98 (z := (zB32.cells ++ zB32.cells).toArray) (n := 64) (by kernel_rfl) (s := 32) (by kernel_rfl) h⟩
/-! tails -/
class TakeTl (m L : List Fa) (M : outParam (List Fa)) : Prop where
  perm : L.Perm (m ++ M)
instance (m R : List Fa) : TakeTl m (m ++ R) R := ⟨List.Perm.refl _⟩
instance (priority := 100) (m : List Fa) (f : Fa) (L M : List Fa) [h : TakeTl m L M] : TakeTl m (f :: L) (f :: M) := ⟨(h.perm.cons f).trans List.perm_middle.symm⟩
instance (priority := 5) (m L M : List Fa) [h : TakeTl m L M] : Take m L M := ⟨h.perm⟩
class RmOk (Rm : List Fa) : Prop where
  ok : ∀ r ∈ Rm, r.wr = false
instance (Rm : List Fa) [h : RmOk Rm] : Rds Rm Rm := ⟨fun hw r hr => ⟨h.ok r hr, hw.ok r hr, fun k hk => ⟨r, hr, hk⟩⟩⟩
instance (priority := 5) (Rm : List Fa) (f : Fa) (L : List Fa) [RmOk Rm] [h : Rds L Rm] : Rds (f :: L) Rm := ⟨fun hw r hr => by
  obtain ⟨h1, h2, h3⟩ := h.ok hw.tail r hr
  exact ⟨h1, h2, fun k hk => let ⟨g, hg, hgk⟩ := h3 k hk; ⟨g, List.mem_cons_of_mem _ hg, hgk⟩⟩⟩
theorem Sx.mid {A : List Fa} {W w : World} {pre m l R : List Fa} (s : Sx A W w (pre ++ (m ++ (l ++ R)))) : Sx A W w (pre ++ (l ++ (m ++ R))) := s.perm (List.Perm.append_left _ (by
  rw [← List.append_assoc, ← List.append_assoc]
  exact List.Perm.append_right _ List.perm_append_comm))
/-- what the walk has at round k -/
def wayF (n : Nat) (key : B32) (ds : List B32) (pre : List UInt8) (gc k0 g6 g7 k : Nat) (m : List Fa) (u : Nat × Nat) : List Fa :=
  .blk g6 [.slice (some ⟨u.1, 0, none⟩) (wayP n key ds pre k).length u.2] 36 :: .blk g7 (sumB n (wayP n key ds pre k)).cells 24 :: .own (.slice (some ⟨u.1, 0, none⟩) (wayP n key ds pre k).length u.2) (wayP n key ds pre k).length 5 1 (bc (wayP n key ds pre k)) :: .blk gc [.int .i64 ((k0 + k + 1 : Nat) : Int)] 78 :: m
theorem wayF_wr {n : Nat} {key : B32} {ds : List B32} {pre : List UInt8} {gc k0 g6 g7 k : Nat} {m : List Fa} {u : Nat × Nat} (h : ∀ f ∈ m, f.wr = true) : ∀ f ∈ wayF n key ds pre gc k0 g6 g7 k m u, f.wr = true := by
  intro f hf
  unfold wayF at hf
  simp only [List.mem_cons] at hf
  rcases hf with rfl | rfl | rfl | rfl | hf
  · rfl
  · rfl
  · rfl
  · rfl
  · exact h f hf
abbrev wayR (p : Proof) (n : Nat) (key : B32) (ds : List B32) (gh gc b o c a1 a2 a3 a4 : Nat) : List Fa :=
  [.rd (some ⟨a1, 0, none⟩) p.cells, .rd (some ⟨a2, 0, none⟩) [.pointer (some ⟨gh, 0, none⟩)], .rd (some ⟨a3, 0, none⟩) [.slice (some ⟨b, o, none⟩) ds.length c], .rd (some ⟨a4, 0, none⟩) key.cells, .rd (some ⟨gh, 0, none⟩) [.pointer (some ⟨gc, 0, none⟩), .int .i64 (n : Int)], .rd (some ⟨b, o, none⟩) (dgs ds), .rd (some ⟨0, 0, none⟩) hashT]
theorem ways_it (p : Proof) (n : Nat) (hn : n ≤ 256) (key : B32) (ds : List B32) (hds : ds.length ≤ 256) (gh gc k0 b o c a1 a2 a3 a4 : Nat) (hk0 : k0 ≤ 900000000000) : IterG Tryd.prog 52 [.pointer (some ⟨a1, 0, none⟩), .pointer (some ⟨a2, 0, none⟩), .pointer (some ⟨a3, 0, none⟩), .pointer (some ⟨a4, 0, none⟩)] [.rd (some ⟨a1, 0, none⟩) p.cells, .rd (some ⟨a2, 0, none⟩) [.pointer (some ⟨gh, 0, none⟩)], .rd (some ⟨a3, 0, none⟩) [.slice (some ⟨b, o, none⟩) ds.length c], .rd (some ⟨a4, 0, none⟩) key.cells, .rd (some ⟨gh, 0, none⟩) [.pointer (some ⟨gc, 0, none⟩), .int .i64 (n : Int)], .rd (some ⟨b, o, none⟩) (dgs ds), .rd (some ⟨0, 0, none⟩) hashT] [.blk gc [.int .i64 (k0 : Int)] 78] (ds.length + 1)
    (fun k (u : Nat × Nat) => [.slice (some ⟨u.1, 0, none⟩) (wayP n key ds (endP p) k).length u.2, .agg (sumB n (wayP n key ds (endP p) k)).cells.toArray])
    (fun k (u : Nat × Nat) => [.own (.slice (some ⟨u.1, 0, none⟩) (wayP n key ds (endP p) k).length u.2) (wayP n key ds (endP p) k).length 5 1 (bc (wayP n key ds (endP p) k))])
    [.blk gc [.int .i64 ((k0 + ds.length + 1 : Nat) : Int)] 78] := by
  have hel := endP_len p
  have hE := end_s p
  generalize hpre : endP p = pre at *
  have hwl := wayP_len n key ds pre hel
  refine iter_ofG Tryd.func52 rfl (n := 45) rfl rfl ?_
  intro l J Rm m0 W hJw hRm hy h0
  have hRI : RmOk Rm := ⟨hRm⟩
  refine h_seq ?_
  refine h_reg ?_
  refine h_opX (x_box1 rfl) fun g5 => ?_
  refine h_nil ?_
  refine q_then ?_
  refine h_seq ?_
  refine h_reg ?_
  refine h_op (r_loadr rfl) ?_
  refine h_call (hE.comes) rfl rfl rfl fun ⟨gP, cP⟩ => ?_
  dsimp only
  refine h_opX (x_alloc) fun g6 => ?_
  refine h_opS (s_store rfl rfl rfl) ?_
  refine h_nil ?_
  refine q_then ?_
  refine h_seq ?_
  refine h_reg ?_
  refine h_op (r_loadc rfl) ?_
  refine h_op (r_loadc rfl) ?_
  refine h_call ((HSum_s n hn gh gc k0 (by omega) pre (some ⟨gP, 0, none⟩) cP (fun h => by cases h) (by omega)).comes) rfl rfl rfl fun _ => ?_
  refine h_opX (x_alloc) fun g7 => ?_
  refine h_opS (s_storer rfl rfl) ?_
  refine h_nil ?_
  refine q_then ?_
  refine h_seq ?_
  refine h_seq ?_
  refine h_reg ?_
  refine h_op (r_loadc rfl) ?_
  refine h_call ((Backward_s (some ⟨b, o, none⟩) ds.length c).comes) rfl rfl rfl fun g17 => ?_
  refine h_nil ?_
  refine q_then ?_
  refine h_block ?_
  change H _ _ _ _ _ (_ :: .blk g7 (sumB n (wayP n key ds pre 0)).cells _ :: .blk gc [.int .i64 ((k0 + 0 + 1 : Nat) : Int)] _ :: .blk g6 [.slice (some ⟨gP, 0, none⟩) (wayP n key ds pre 0).length cP] _ :: .own (.slice (some ⟨gP, 0, none⟩) (wayP n key ds pre 0).length cP) (wayP n key ds pre 0).length _ _ (bc (wayP n key ds pre 0)) :: _) _
  refine h_rangeG (Backward_it ds b o c g17 (by omega)) rfl (fun k mm => ∃ (u : Nat × Nat) (m1 : List Fa), mm = wayF n key ds pre gc k0 g6 g7 k m1 u ∧ J k m1) (.blk g6 [.slice (some ⟨gP, 0, none⟩) (wayP n key ds pre 0).length cP] 36 :: .blk g7 (sumB n (wayP n key ds pre 0)).cells 24 :: .own (.slice (some ⟨gP, 0, none⟩) (wayP n key ds pre 0).length cP) (wayP n key ds pre 0).length 5 1 (bc (wayP n key ds pre 0)) :: .blk gc [.int .i64 ((k0 + 0 + 1 : Nat) : Int)] 78 :: m0) (.rd (some ⟨g5, 0, none⟩) [.func (.yield l) #[] #[]] :: .rd (some ⟨a2, 0, none⟩) [.pointer (some ⟨gh, 0, none⟩)] :: .rd (some ⟨a4, 0, none⟩) key.cells :: .rd (some ⟨gh, 0, none⟩) [.pointer (some ⟨gc, 0, none⟩), .int .i64 (n : Int)] :: .rd (some ⟨0, 0, none⟩) hashT :: Rm) (by rintro k mm ⟨u, m1, rfl, hJ⟩; exact wayF_wr (hJw _ _ hJ)) ⟨(gP, cP), m0, rfl, h0⟩ rfl (fun _ _ => rfl) ?_ ?_
  · intro ll rr k _ mm W1 hr hrp hkN hJ2
    obtain ⟨⟨g, c'⟩, m1, rfl, hJ⟩ := hJ2
    unfold wayF
    simp only [List.nil_append, List.cons_append]
    refine h_L (fun w s => Sx.mid (pre := [_, _, _, _, _]) (m := m1) (l := [.rd (some ⟨g5, 0, none⟩) [.func (.yield l) #[] #[]], .rd (some ⟨a2, 0, none⟩) [.pointer (some ⟨gh, 0, none⟩)], .rd (some ⟨a4, 0, none⟩) key.cells, .rd (some ⟨gh, 0, none⟩) [.pointer (some ⟨gc, 0, none⟩), .int .i64 (n : Int)], .rd (some ⟨0, 0, none⟩) hashT]) (R := Rm) s) ?_
    simp only [List.nil_append, List.cons_append]
    refine h_seq ?_
    refine h_reg ?_
    refine h_op (r_assign rfl) ?_
    refine h_nil ?_
    refine q_then ?_
    refine h_reg ?_
    refine h_opX (x_alloc) fun g9 => ?_
    refine h_opS (s_storer rfl rfl) ?_
    refine h_nil ?_
    refine q_then ?_
    refine h_begin hr ?_
    refine h_block ?_
    refine h_seq ?_
    refine h_seq ?_
    refine h_reg ?_
    refine h_op (r_loadc rfl) ?_
    refine h_op (r_loadc rfl) ?_
    refine h_op (r_loadr rfl) ?_
    refine h_yield (hy k (g, c') m1 (by omega) hJ) hRm rfl rfl fun m' hJ' => ?_
    refine h_op (r_not rfl) ?_
    refine h_nil ?_
    refine q_then ?_
    refine h_condF rfl ?_
    refine h_skip ?_
    refine q_then ?_
    refine h_seq ?_
    refine h_reg ?_
    refine h_op (r_loadr rfl) ?_
    refine h_op (r_loadr rfl) ?_
    refine h_op (r_build rfl) ?_
    refine h_opX (x_alloc) fun g10 => ?_
    refine h_opS (s_storer rfl rfl) ?_
    refine h_nil ?_
    refine q_then ?_
    refine h_seq ?_
    have hwr2 : ∀ (g37 c37 : Nat), ∀ f ∈ (.blk g6 [.slice (some ⟨g37, 0, none⟩) (wayP n key ds pre (k + 1)).length c37] 36 :: .blk g7 (sumB n (wayP n key ds pre (k + 1))).cells 24 :: .own (.slice (some ⟨g37, 0, none⟩) (wayP n key ds pre (k + 1)).length c37) (wayP n key ds pre (k + 1)).length 5 1 (bc (wayP n key ds pre (k + 1))) :: .blk gc [.int .i64 ((k0 + k + 1 + 1 : Nat) : Int)] 78 :: m'), f.wr = true := fun g37 c37 f hf => by
      simp only [List.mem_cons] at hf
      rcases hf with rfl | rfl | rfl | rfl | hf
      · rfl
      · rfl
      · rfl
      · rfl
      · exact hJw _ _ hJ' f hf
    by_cases hb : bitAt key (ds.length - 1 - k) = true
    · have hw1 : wayP n key ds pre (k + 1) = preN (ds.getD (ds.length - 1 - k) zB32) (sumB n (wayP n key ds pre k)) := by rw [wayP, if_pos hb]
      refine ha_start [.rd (some ⟨a4, 0, none⟩) key.cells, .blk g7 (sumB n (wayP n key ds pre k)).cells 24] [] mixed (same) ?_
      refine ha_take 0 rfl (r_loadr rfl) ?_
      refine ha_takeP 1 rfl (r_move rfl) ?_
      refine ha_take 3 rfl (r_loadr rfl) ?_
      refine ha_one 2 ?_
      refine ho_C 2 rfl ((Bit_y key (ds.length - 1 - k) (by omega) hb).comes) rfl rfl rfl (fun _ => same) fun _ => ?_
      refine ha_takeP 4 rfl (r_idxA rfl rfl) ?_
      refine ha_one 5 ?_
      refine ho_SL 5 rfl (s_storer rfl rfl) ?_
      refine q_then ?_
      refine h_seq ?_
      refine h_reg ?_
      refine h_op (r_idxA rfl rfl) ?_
      refine h_op (r_loadr rfl) ?_
      refine h_op (r_idxA rfl rfl) ?_
      refine h_op (r_loadr rfl) ?_
      refine h_call ((pNode_s (ds.getD (ds.length - 1 - k) zB32) (sumB n (wayP n key ds pre k))).comes) rfl rfl rfl fun ⟨g37, c37⟩ => ?_
      dsimp only
      rw [← hw1]
      have hl1 := hwl (k + 1)
      refine h_opS (s_store rfl rfl rfl) ?_
      refine h_nil ?_
      refine q_then ?_
      refine h_reg ?_
      refine h_op (r_loadc rfl) ?_
      refine h_op (r_loadc rfl) ?_
      refine h_call ((HSum_s n hn gh gc (k0 + k + 1) (by omega) (wayP n key ds pre (k + 1)) (some ⟨g37, 0, none⟩) c37 (fun h => by cases h) (by omega)).comes) rfl rfl rfl fun _ => ?_
      refine h_opS (s_storer rfl rfl) ?_
      refine h_nil ?_
      refine q_block ?_
      exact h_endround (.blk g6 [.slice (some ⟨g37, 0, none⟩) (wayP n key ds pre (k + 1)).length c37] 36 :: .blk g7 (sumB n (wayP n key ds pre (k + 1))).cells 24 :: .own (.slice (some ⟨g37, 0, none⟩) (wayP n key ds pre (k + 1)).length c37) (wayP n key ds pre (k + 1)).length 5 1 (bc (wayP n key ds pre (k + 1))) :: .blk gc [.int .i64 ((k0 + k + 1 + 1 : Nat) : Int)] 78 :: m') hr hrp ⟨(g37, c37), m', by rw [show k0 + (k + 1) + 1 = k0 + k + 1 + 1 by omega], hJ'⟩ (hwr2 g37 c37)
    · have hw1 : wayP n key ds pre (k + 1) = preN (sumB n (wayP n key ds pre k)) (ds.getD (ds.length - 1 - k) zB32) := by rw [wayP, if_neg hb]
      refine ha_start [.rd (some ⟨a4, 0, none⟩) key.cells, .blk g7 (sumB n (wayP n key ds pre k)).cells 24] [] mixed (same) ?_
      refine ha_take 0 rfl (r_loadr rfl) ?_
      refine ha_takeP 1 rfl (r_move rfl) ?_
      refine ha_take 3 rfl (r_loadr rfl) ?_
      refine ha_one 2 ?_
      refine ho_C 2 rfl ((Bit_n key (ds.length - 1 - k) (by omega) hb).comes) rfl rfl rfl (fun _ => same) fun _ => ?_
      refine ha_takeP 4 rfl (r_idxA rfl rfl) ?_
      refine ha_one 5 ?_
      refine ho_SL 5 rfl (s_storer rfl rfl) ?_
      refine q_then ?_
      refine h_seq ?_
      refine h_reg ?_
      refine h_op (r_idxA rfl rfl) ?_
      refine h_op (r_loadr rfl) ?_
      refine h_op (r_idxA rfl rfl) ?_
      refine h_op (r_loadr rfl) ?_
      refine h_call ((pNode_s (sumB n (wayP n key ds pre k)) (ds.getD (ds.length - 1 - k) zB32)).comes) rfl rfl rfl fun ⟨g37, c37⟩ => ?_
      dsimp only
      rw [← hw1]
      have hl1 := hwl (k + 1)
      refine h_opS (s_store rfl rfl rfl) ?_
      refine h_nil ?_
      refine q_then ?_
      refine h_reg ?_
      refine h_op (r_loadc rfl) ?_
      refine h_op (r_loadc rfl) ?_
      refine h_call ((HSum_s n hn gh gc (k0 + k + 1) (by omega) (wayP n key ds pre (k + 1)) (some ⟨g37, 0, none⟩) c37 (fun h => by cases h) (by omega)).comes) rfl rfl rfl fun _ => ?_
      refine h_opS (s_storer rfl rfl) ?_
      refine h_nil ?_
      refine q_block ?_
      exact h_endround (.blk g6 [.slice (some ⟨g37, 0, none⟩) (wayP n key ds pre (k + 1)).length c37] 36 :: .blk g7 (sumB n (wayP n key ds pre (k + 1))).cells 24 :: .own (.slice (some ⟨g37, 0, none⟩) (wayP n key ds pre (k + 1)).length c37) (wayP n key ds pre (k + 1)).length 5 1 (bc (wayP n key ds pre (k + 1))) :: .blk gc [.int .i64 ((k0 + k + 1 + 1 : Nat) : Int)] 78 :: m') hr hrp ⟨(g37, c37), m', by rw [show k0 + (k + 1) + 1 = k0 + k + 1 + 1 by omega], hJ'⟩ (hwr2 g37 c37)
  · intro bb mm hJ2
    obtain ⟨⟨g, c'⟩, m1, rfl, hJ⟩ := hJ2
    unfold wayF
    refine q_block ?_
    refine q_then ?_
    simp only [List.nil_append, List.cons_append]
    refine h_L (fun w s => Sx.mid (pre := [_, _, _, _]) (m := m1) (l := [.obj bb (.deferred (some [])), .blk g17 [.slice (some ⟨b, o, none⟩) ds.length c] 27, .blk g5 [.func (.yield l) #[] #[]] 94, .rd (some ⟨a1, 0, none⟩) p.cells, .rd (some ⟨a2, 0, none⟩) [.pointer (some ⟨gh, 0, none⟩)], .rd (some ⟨a3, 0, none⟩) [.slice (some ⟨b, o, none⟩) ds.length c], .rd (some ⟨a4, 0, none⟩) key.cells, .rd (some ⟨gh, 0, none⟩) [.pointer (some ⟨gc, 0, none⟩), .int .i64 (n : Int)], .rd (some ⟨b, o, none⟩) (dgs ds), .rd (some ⟨0, 0, none⟩) hashT]) (R := Rm) s) ?_
    simp only [List.nil_append, List.cons_append]
    refine h_reg ?_
    refine h_op (r_loadc rfl) ?_
    refine h_op (r_loadc rfl) ?_
    refine h_op (r_loadr rfl) ?_
    refine h_yield (hy ds.length (g, c') m1 (by omega) hJ) hRm rfl rfl fun m' hJ' => ?_
    refine h_nil ?_
    refine h_end ?_
    refine h_mark ?_
    exact h_ret0 rfl fun w s => ⟨_, m', rfl, hJ', (same w s).res (List.Sublist.refl _) (by intro f hf; simp only [List.mem_cons, List.cons_append, List.nil_append] at hf; exact hf.elim (fun h => by rw [h]; rfl) (hJw _ _ hJ' f))⟩
end Go.Proofs.YtfjlpndohnianaaDoor
/- U20 -/
namespace Go.Proofs.YtfjlpndohnianaaDoor
set_option linter.unusedSimpArgs false
set_option linter.unusedVariables false
open Go.RowKit
def stepL (n : Nat) (key : B32) (ds : List B32) (pre : List UInt8) (N : Nat) : List B32 := (List.range N).map fun k => sumB n (wayP n key ds pre k)
theorem stepL_len (n : Nat) (key : B32) (ds : List B32) (pre : List UInt8) (N : Nat) : (stepL n key ds pre N).length = N := by simp [stepL]
theorem stepL_succ (n : Nat) (key : B32) (ds : List B32) (pre : List UInt8) (N : Nat) : dgs (stepL n key ds pre N) ++ (sumB n (wayP n key ds pre N)).cells = dgs (stepL n key ds pre (N + 1)) := by
  unfold stepL
  rw [List.range_succ, List.map_append, dgs_append]
  simp [dgs]
theorem Steps_bad (p : Proof) (h : checkP p ≠ 0) (key : B32) (gh : Nat) : Spec Tryd.prog 22 [.pointer (some ⟨gh, 0, none⟩), .agg p.cells.toArray, .agg key.cells.toArray].toArray [] [] (fun _ : Unit => .tuple #[.slice none 0 0, .int .i64 (checkP p)]) (fun _ => []) := by
  refine spec_of Tryd.func22 rfl (n := 34) rfl rfl ?_
  intro W
  refine h_seq ?_
  refine h_reg ?_
  refine h_opX (x_box rfl) fun g4 => ?_
  refine h_opX (x_box rfl) fun g5 => ?_
  refine h_op (r_assign rfl) ?_
  refine h_op (r_assign rfl) ?_
  refine h_nil ?_
  refine q_then ?_
  refine h_seq ?_
  refine h_reg ?_
  refine h_op (r_move rfl) ?_
  refine h_op (r_loadr rfl) ?_
  refine h_call ((Expand_bad p h gh).comes) rfl rfl rfl fun _ => ?_
  refine h_op (r_move rfl) ?_
  refine h_op (r_extract rfl rfl) ?_
  refine h_op (r_extract rfl rfl) ?_
  refine h_op (r_assign rfl) ?_
  refine h_op (r_assign rfl) ?_
  refine h_nil ?_
  refine q_then ?_
  refine h_seq ?_
  refine h_seq ?_
  refine h_reg ?_
  refine h_op (r_move rfl) ?_
  refine h_op (r_neq rfl rfl) ?_
  refine h_nil ?_
  refine q_then ?_
  refine h_yes rfl (h) ?_
  refine h_seq ?_
  refine h_reg ?_
  refine h_op (r_move rfl) ?_
  refine h_op (r_assign rfl) ?_
  refine h_op (r_assign rfl) ?_
  refine h_nil ?_
  refine q_then ?_
  refine h_ret ?_
  refine q_thenR ?_
  exact h_ret2 rfl rfl rfl fun w s => ⟨(), rfl, s.res (List.nil_sublist _) (by simp)⟩
theorem Steps_s (p : Proof) (hc : checkP p = 0) (ss : List B32) (hs : p.sibs.n = ss.length) (key : B32) (n : Nat) (hn : n ≤ 256) (gh gc k0 : Nat) (hk : k0 ≤ 800000000000) (d : Nat) (hd : p.depth = (d : Int)) : Spec Tryd.prog 22 [.pointer (some ⟨gh, 0, none⟩), .agg p.cells.toArray, .agg key.cells.toArray].toArray [.rd (some ⟨gh, 0, none⟩) [.pointer (some ⟨gc, 0, none⟩), .int .i64 (n : Int)], .rd p.sibs.A (dgs ss), .rd (some ⟨0, 0, none⟩) hashT] [.blk gc [.int .i64 (k0 : Int)] 78] (fun u : Nat × Nat => .tuple #[.slice (some ⟨u.1, 0, none⟩) (d + 1) u.2, .int .i64 0]) (fun u => [.own (.slice (some ⟨u.1, 0, none⟩) (d + 1) u.2) (d + 1) 24 32 (dgs (stepL n key (expL (sumB n preE) p.bitmap ss d) (endP p) (d + 1))), .blk gc [.int .i64 ((k0 + 1 + d + 1 : Nat) : Int)] 78]) := by
  have hd2 := ok_depth hc
  have hE := Expand_s p hc ss hs n hn gh gc k0 (by omega) d hd
  have hlen := expL_len (sumB n preE) p.bitmap ss d
  generalize expL (sumB n preE) p.bitmap ss d = ds at *
  subst hlen
  have hds : ds.length ≤ 256 := by omega
  refine spec_of Tryd.func22 rfl (n := 34) rfl rfl ?_
  intro W
  refine h_seq ?_
  refine h_reg ?_
  refine h_opX (x_box rfl) fun g4 => ?_
  refine h_opX (x_box rfl) fun g5 => ?_
  refine h_op (r_assign rfl) ?_
  refine h_op (r_assign rfl) ?_
  refine h_nil ?_
  refine q_then ?_
  refine h_seq ?_
  refine h_reg ?_
  refine h_op (r_move rfl) ?_
  refine h_op (r_loadr rfl) ?_
  refine h_call (hE.comes) rfl rfl rfl fun g15 => ?_
  refine h_op (r_move rfl) ?_
  refine h_op (r_extract rfl rfl) ?_
  refine h_op (r_extract rfl rfl) ?_
  refine h_op (r_assign rfl) ?_
  refine h_op (r_assign rfl) ?_
  refine h_nil ?_
  refine q_then ?_
  refine h_seq ?_
  refine h_seq ?_
  refine h_reg ?_
  refine h_op (r_move rfl) ?_
  refine h_op (r_neq rfl rfl) ?_
  refine h_nil ?_
  refine q_then ?_
  refine h_no rfl ((fun h => h rfl)) ?_
  refine h_skip ?_
  refine q_then ?_
  refine h_seq ?_
  refine h_reg ?_
  refine h_opX (x_alloc) fun g10 => ?_
  refine h_nil ?_
  refine q_then ?_
  refine h_seq ?_
  refine h_seq ?_
  refine h_reg ?_
  refine h_op (r_move rfl) ?_
  refine h_op (r_loadr rfl) ?_
  refine h_op (r_move rfl) ?_
  refine h_op (r_loadr rfl) ?_
  refine h_call ((ways_s (.pointer (some ⟨gh, 0, none⟩)) p (some ⟨g15, 0, none⟩) ds.length ds.length key rfl).comes) rfl rfl rfl fun ⟨a2, a1, a3, a4⟩ => ?_
  dsimp only
  refine h_nil_own 24 32 (xs := dgs (stepL n key ds (endP p) 0)) rfl ?_
  refine h_nil ?_
  refine q_then ?_
  refine h_block ?_
  refine h_rangeG (ways_it p n hn key ds hds gh gc (k0 + 1) g15 0 ds.length a2 a1 a3 a4 (by omega)) rfl (fun k mm => ∃ v : Option Addr × Nat, mm = [.blk g10 [.slice v.1 k v.2] 27, .own (.slice v.1 k v.2) k 24 32 (dgs (stepL n key ds (endP p) k))]) [.blk g10 [.slice none 0 0] 27, .own (.slice none 0 0) 0 24 32 (dgs (stepL n key ds (endP p) 0))] [] (by rintro k mm ⟨v, rfl⟩ f hf; simp only [List.mem_cons, List.not_mem_nil, or_false] at hf; exact hf.elim (fun h => by rw [h]; rfl) (fun h => by rw [h]; rfl)) ⟨(none, 0), rfl⟩ rfl (fun _ _ => rfl) ?_ ?_
  · intro ll rr k u mm W1 hr hrp hkN hJ2
    obtain ⟨⟨B, c'⟩, rfl⟩ := hJ2
    dsimp only
    simp only [List.nil_append, List.cons_append]
    have hst := stepL_succ n key ds (endP p) k
    refine h_reg ?_
    refine h_opX (x_alloc) fun g12 => ?_
    refine h_opS (s_storer rfl rfl) ?_
    refine h_nil ?_
    refine q_then ?_
    refine h_begin hr ?_
    refine h_block ?_
    refine h_reg ?_
    refine h_op (r_loadc rfl) ?_
    refine h_op (r_loadr rfl) ?_
    refine h_opX (x_bsl rfl rfl) fun g31 => ?_
    refine h_opX (x_app rfl rfl (k := 32)) fun ⟨g32, c32⟩ => ?_
    refine h_opS (s_store rfl rfl rfl) ?_
    refine h_nil ?_
    refine q_block ?_
    rw [hst]
    exact h_endround [.blk g10 [.slice (some ⟨g32, 0, none⟩) (k + 1) c32] 27, .own (.slice (some ⟨g32, 0, none⟩) (k + 1) c32) (k + 1) 24 32 (dgs (stepL n key ds (endP p) (k + 1)))] hr hrp ⟨(some ⟨g32, 0, none⟩, c32), rfl⟩ (by intro f hf; simp only [List.mem_cons, List.not_mem_nil, or_false] at hf; exact hf.elim (fun h => by rw [h]; rfl) (fun h => by rw [h]; rfl))
  · intro bb mm hJ2
    obtain ⟨⟨B, c'⟩, rfl⟩ := hJ2
    refine q_block ?_
    refine q_then ?_
    dsimp only
    simp only [List.nil_append, List.cons_append]
    refine h_pure (φ := ∃ g, B = some ⟨g, 0, none⟩) (fun w s => s.ownSome (N := ds.length + 1) (c := c') (by omega)) ?_
    rintro ⟨g, rfl⟩
    refine h_seq ?_
    refine h_reg ?_
    refine h_op (r_loadc rfl) ?_
    refine h_op (r_assign rfl) ?_
    refine h_op (r_assign rfl) ?_
    refine h_nil ?_
    refine q_then ?_
    refine h_ret ?_
    refine h_mark ?_
    exact h_ret2 rfl rfl rfl fun w s => ⟨(g, c'), rfl, (same w s).res (List.Sublist.refl _) (by simp [Fa.wr])⟩
theorem Root_bad (p : Proof) (h : checkP p ≠ 0) (key : B32) (gh : Nat) : Spec Tryd.prog 20 [.pointer (some ⟨gh, 0, none⟩), .agg p.cells.toArray, .agg key.cells.toArray].toArray [] [] (fun _ : Unit => .tuple #[.agg zB32.cells.toArray, .int .i64 (checkP p)]) (fun _ => []) := by
  refine spec_of Tryd.func20 rfl (n := 27) rfl rfl ?_
  intro W
  refine h_seq ?_
  refine h_reg ?_
  refine h_opX (x_box rfl) fun g4 => ?_
  refine h_opX (x_box rfl) fun g5 => ?_
  refine h_opX (x_alloc) fun g6 => ?_
  refine h_op (r_assign rfl) ?_
  refine h_nil ?_
  refine q_then ?_
  refine h_seq ?_
  refine h_reg ?_
  refine h_op (r_move rfl) ?_
  refine h_op (r_loadr rfl) ?_
  refine h_op (r_loadr rfl) ?_
  refine h_call ((Steps_bad p h key gh).comes) rfl rfl rfl fun _ => ?_
  refine h_op (r_move rfl) ?_
  refine h_op (r_extract rfl rfl) ?_
  refine h_op (r_extract rfl rfl) ?_
  refine h_op (r_assign rfl) ?_
  refine h_op (r_assign rfl) ?_
  refine h_nil ?_
  refine q_then ?_
  refine h_seq ?_
  refine h_seq ?_
  refine h_reg ?_
  refine h_op (r_move rfl) ?_
  refine h_op (r_neq rfl rfl) ?_
  refine h_nil ?_
  refine q_then ?_
  refine h_yes rfl (h) ?_
  refine h_seq ?_
  refine h_reg ?_
  refine h_op (r_build rfl) ?_
  refine h_op (r_move rfl) ?_
  refine h_opS (s_storer rfl rfl) ?_
  refine h_op (r_assign rfl) ?_
  refine h_nil ?_
  refine q_then ?_
  refine h_ret ?_
  refine q_thenR ?_
  exact h_ret2 rfl (rv_row rfl) rfl fun w s => ⟨(), rfl, s.res (List.nil_sublist _) (by simp)⟩
theorem Root_s (p : Proof) (hc : checkP p = 0) (ss : List B32) (hs : p.sibs.n = ss.length) (key : B32) (n : Nat) (hn : n ≤ 256) (gh gc k0 : Nat) (hk : k0 ≤ 800000000000) (d : Nat) (hd : p.depth = (d : Int)) : Spec Tryd.prog 20 [.pointer (some ⟨gh, 0, none⟩), .agg p.cells.toArray, .agg key.cells.toArray].toArray [.rd (some ⟨gh, 0, none⟩) [.pointer (some ⟨gc, 0, none⟩), .int .i64 (n : Int)], .rd p.sibs.A (dgs ss), .rd (some ⟨0, 0, none⟩) hashT] [.blk gc [.int .i64 (k0 : Int)] 78] (fun _ : Unit => .tuple #[.agg (sumB n (wayP n key (expL (sumB n preE) p.bitmap ss d) (endP p) d)).cells.toArray, .int .i64 0]) (fun _ => [.blk gc [.int .i64 ((k0 + 1 + d + 1 : Nat) : Int)] 78]) := by
  have hd2 := ok_depth hc
  have hS := Steps_s p hc ss hs key n hn gh gc k0 hk d hd
  generalize expL (sumB n preE) p.bitmap ss d = ds at *
  have hget : (stepL n key ds (endP p) (d + 1)).getD d zB32 = sumB n (wayP n key ds (endP p) d) := by
    unfold stepL
    rw [List.getD, List.getElem?_map, List.getElem?_range (by omega)]
    rfl
  have hat := dgs_at (l := stepL n key ds (endP p) (d + 1)) (k := d) (by rw [stepL_len]; omega)
  rw [hget] at hat
  refine spec_of Tryd.func20 rfl (n := 27) rfl rfl ?_
  intro W
  refine h_seq ?_
  refine h_reg ?_
  refine h_opX (x_box rfl) fun g4 => ?_
  refine h_opX (x_box rfl) fun g5 => ?_
  refine h_opX (x_alloc) fun g6 => ?_
  refine h_op (r_assign rfl) ?_
  refine h_nil ?_
  refine q_then ?_
  refine h_seq ?_
  refine h_reg ?_
  refine h_op (r_move rfl) ?_
  refine h_op (r_loadr rfl) ?_
  refine h_op (r_loadr rfl) ?_
  refine h_call (hS.comes) rfl rfl rfl fun ⟨g14, c14⟩ => ?_
  dsimp only
  refine h_op (r_move rfl) ?_
  refine h_op (r_extract rfl rfl) ?_
  refine h_op (r_extract rfl rfl) ?_
  refine h_op (r_assign rfl) ?_
  refine h_op (r_assign rfl) ?_
  refine h_nil ?_
  refine q_then ?_
  refine h_seq ?_
  refine h_seq ?_
  refine h_reg ?_
  refine h_op (r_move rfl) ?_
  refine h_op (r_neq rfl rfl) ?_
  refine h_nil ?_
  refine q_then ?_
  refine h_no rfl ((fun h => h rfl)) ?_
  refine h_skip ?_
  refine q_then ?_
  refine h_seq ?_
  refine h_reg ?_
  refine h_op (r_move rfl) ?_
  refine h_op (r_move rfl) ?_
  refine h_op (r_len rfl) ?_
  refine h_op (r_subN rfl rfl (m := d) (hm := by omega)) ?_
  refine h_op (r_idx rfl rfl) ?_
  refine h_op (r_nthr rfl (B32.cells_length _) hat) ?_
  refine h_opS (s_storer rfl rfl) ?_
  refine h_op (r_assign rfl) ?_
  refine h_nil ?_
  refine q_then ?_
  refine h_ret ?_
  exact h_ret2 rfl (rv_row rfl) rfl fun w s => ⟨(), rfl, (same w s).res (List.Sublist.refl _) (by simp [Fa.wr])⟩
end Go.Proofs.YtfjlpndohnianaaDoor
/- U21 -/
namespace Go.Proofs.YtfjlpndohnianaaDoor
set_option linter.unusedSimpArgs false
set_option linter.unusedVariables false
open Go.RowKit
def revI (xs : List Value) (i : Nat) : List Value := (List.range xs.length).map fun t => if t < i ∨ xs.length - i ≤ t then xs.getD (xs.length - 1 - t) .nilFunc else xs.getD t .nilFunc
theorem revI_len (xs : List Value) (i : Nat) : (revI xs i).length = xs.length := by simp [revI]
theorem revI_at (xs : List Value) (i t : Nat) (h : t < xs.length) : (revI xs i)[t]? = some (if t < i ∨ xs.length - i ≤ t then xs.getD (xs.length - 1 - t) .nilFunc else xs.getD t .nilFunc) := by
  unfold revI
  rw [List.getElem?_map, List.getElem?_range h]
  rfl
theorem revI_0 (xs : List Value) : revI xs 0 = xs := by
  apply List.ext_getElem?
  intro t
  by_cases h : t < xs.length
  · rw [revI_at xs 0 t h, if_neg (by omega), List.getD, List.getElem?_eq_getElem h]; rfl
  · rw [List.getElem?_eq_none (by rw [revI_len]; omega), List.getElem?_eq_none (by omega)]
theorem revI_end (xs : List Value) (i : Nat) (h : xs.length ≤ 2 * i + 1) (hi : i ≤ xs.length) : revI xs i = xs.reverse := by
  apply List.ext_getElem?
  intro t
  by_cases ht : t < xs.length
  · rw [revI_at xs i t ht, List.getElem?_reverse ht]
    by_cases h2 : t < i ∨ xs.length - i ≤ t
    · rw [if_pos h2, List.getD, List.getElem?_eq_getElem (by omega)]; rfl
    · rw [if_neg h2, show xs.length - 1 - t = t by omega, List.getD, List.getElem?_eq_getElem ht]; rfl
  · rw [List.getElem?_eq_none (by rw [revI_len]; omega), List.getElem?_eq_none (by rw [List.length_reverse]; omega)]
theorem revI_step (xs : List Value) (i : Nat) (h : i < xs.length - 1 - i) : ((revI xs i).set i (xs.getD (xs.length - 1 - i) .nilFunc)).set (xs.length - 1 - i) (xs.getD i .nilFunc) = revI xs (i + 1) := by
  apply List.ext_getElem?
  intro t
  rw [List.getElem?_set, List.length_set, revI_len, List.getElem?_set, revI_len]
  by_cases ht : t < xs.length
  · rw [revI_at xs (i + 1) t ht, revI_at xs i t ht]
    by_cases e1 : xs.length - 1 - i = t
    · rw [if_pos e1, if_pos (by omega), if_pos (by omega), show xs.length - 1 - t = i by omega]
    · rw [if_neg e1]
      by_cases e2 : i = t
      · rw [if_pos e2, if_pos (by omega), if_pos (by omega), e2]
      · rw [if_neg e2]
        congr 1
        by_cases h3 : t < i ∨ xs.length - i ≤ t
        · rw [if_pos h3, if_pos (by omega)]
        · rw [if_neg h3, if_neg (by omega)]
  · rw [if_neg (by omega), if_neg (by omega), List.getElem?_eq_none (by rw [revI_len]; omega), List.getElem?_eq_none (by rw [revI_len]; omega)]
theorem getD_one {xs : List Value} (h1 : ∀ v ∈ xs, v.oneCell' = true) (i : Nat) : (xs.getD i .nilFunc).oneCell' = true := by
  rw [List.getD]
  cases h : xs[i]? with
  | none => rfl
  | some v => exact h1 v (List.mem_of_getElem? h)
theorem Reverse_s (xs : List Value) (h1 : ∀ v ∈ xs, v.oneCell' = true) (g c : Nat) (hk : xs.length ≤ 1000000) : Spec Tryd.prog 33 [.slice (some ⟨g, 0, none⟩) xs.length c].toArray [] [.own (.slice (some ⟨g, 0, none⟩) xs.length c) xs.length 36 1 xs] (fun _ : Unit => .tuple #[]) (fun _ => [.own (.slice (some ⟨g, 0, none⟩) xs.length c) xs.length 36 1 xs.reverse]) := by
  refine spec_of Tryd.func33 rfl (n := 28) rfl rfl ?_
  intro W
  refine h_seq ?_
  refine h_reg ?_
  refine h_op (r_move rfl) ?_
  refine h_op (r_len rfl) ?_
  refine h_op (r_sub rfl rfl) ?_
  refine h_op (r_assign rfl) ?_
  refine h_op (r_assign rfl) ?_
  refine h_nil ?_
  refine q_then ?_
  refine h_block ?_
  refine h_L (L' := [.own (.slice (some ⟨g, 0, none⟩) xs.length c) xs.length 36 1 (revI xs 0)]) (fun w s => by rw [revI_0]; exact s) ?_
  refine h_loop (fun (i : Nat) => i ≤ xs.length) (fun (i : Nat) => [(2, .int .i64 (i : Int)), (3, .int .i64 ((xs.length : Int) - 1 - (i : Int))), (0, .slice (some ⟨g, 0, none⟩) xs.length c)]) (fun (i : Nat) => [.own (.slice (some ⟨g, 0, none⟩) xs.length c) xs.length 36 1 (revI xs i)]) (fun (i : Nat) => xs.length - i) 0 (Nat.zero_le _) ⟨rfl, aI rfl (by omega), rfl, trivial⟩ (same) ?_
  intro i hi
  refine h_seq ?_
  refine h_seq ?_
  refine h_reg ?_
  refine h_op (r_move rfl) ?_
  refine h_op (r_move rfl) ?_
  refine h_op (r_lss rfl rfl) ?_
  refine h_nil ?_
  refine q_then ?_
  refine h_cond rfl (fun h => ?_) (fun h => ?_)
  · have hlt : i < xs.length - 1 - i := by omega
    have hstep := revI_step xs i hlt
    have hln := revI_len xs i
    have g1 := revI_at xs i i (by omega)
    rw [if_neg (by omega)] at g1
    have g2 := revI_at xs i (xs.length - 1 - i) (by omega)
    rw [if_neg (by omega)] at g2
    refine h_E (E' := [(2, .int .i64 (i : Int)), (3, .int .i64 ((xs.length - 1 - i : Nat) : Int)), (0, .slice (some ⟨g, 0, none⟩) xs.length c)]) ⟨rfl, aI rfl (by omega), rfl, trivial⟩ ?_
    refine h_skip ?_
    refine q_then ?_
    refine h_seq ?_
    refine h_block ?_
    refine ha_start [.own (.slice (some ⟨g, 0, none⟩) xs.length c) xs.length 36 1 (revI xs i)] [] mixed (same) ?_
    refine ha_takeP 0 rfl (r_move rfl) ?_
    refine ha_takeP 1 rfl (r_move rfl) ?_
    refine ha_takeP 2 rfl (r_move rfl) ?_
    refine ha_takeP 3 rfl (r_move rfl) ?_
    refine ha_takeP 4 rfl (r_move rfl) ?_
    refine ha_takeP 5 rfl (r_move rfl) ?_
    refine ha_takeP 6 rfl (r_idx rfl rfl) ?_
    refine ha_take 7 rfl (r_nth rfl g2) ?_
    refine ha_takeP 8 rfl (r_move rfl) ?_
    refine ha_takeP 9 rfl (r_move rfl) ?_
    refine ha_takeP 10 rfl (r_idx rfl rfl) ?_
    refine ha_take 11 rfl (r_nth rfl g1) ?_
    refine ha_takeP 12 rfl (r_idx rfl rfl) ?_
    refine ha_hl ?_
    refine hl_S 13 rfl (s_setO rfl rfl (getD_one h1 _) (by omega) rfl) ?_
    refine hl_0 14 rfl (r_idx rfl rfl) ?_
    refine hl_S 15 rfl (s_setO rfl rfl (getD_one h1 _) (by rw [List.length_set]; omega) hstep) ?_
    refine hl_done (by kernel_rfl) ?_
    refine q_block ?_
    refine q_then ?_
    refine h_reg ?_
    refine h_op (r_move rfl) ?_
    refine h_op (r_add rfl rfl) ?_
    refine h_op (r_move rfl) ?_
    refine h_op (r_sub rfl rfl) ?_
    refine h_op (r_assign rfl) ?_
    refine h_op (r_assign rfl) ?_
    refine h_nil ?_
    exact h_back (i + 1) (by omega) (by omega) ⟨rfl, aI rfl (by omega), rfl, trivial⟩ (same)
  · rw [revI_end xs i (by omega) hi]
    refine h_exit ?_
    refine q_thenE ?_
    refine q_thenE ?_
    refine q_blockE ?_
    refine h_end ?_
    exact h_ret0 rfl fun w s => ⟨(), rfl, s.res (List.Sublist.refl _) (by simp [Fa.wr])⟩
end Go.Proofs.YtfjlpndohnianaaDoor
/- U22 -/
namespace Go.Proofs.YtfjlpndohnianaaDoor
set_option linter.unusedSimpArgs false
set_option linter.unusedVariables false
open Go.RowKit
instance (m : List Fa) : TakeTl m m [] := ⟨by rw [List.append_nil]⟩
theorem Sx.mid0 {A : List Fa} {W w : World} {pre m l : List Fa} (s : Sx A W w (pre ++ (m ++ l))) : Sx A W w (pre ++ (l ++ m)) := s.perm (List.Perm.append_left _ List.perm_append_comm)
def preLs (n : Nat) (key : B32) (ds : List B32) (pre : List UInt8) (N : Nat) : List (List UInt8) := (List.range N).map (wayP n key ds pre)
/-- rows of one's own -/
def ownsOf : List Seg → List Fa
  | [] => []
  | x :: l => .own (sv x) x.2.2.length 5 1 (bc x.2.2) :: ownsOf l
theorem ownsOf_wr (xs : List Seg) : ∀ f ∈ ownsOf xs, f.wr = true := by
  induction xs with
  | nil => intro f hf; cases hf
  | cons x l ih => intro f hf; rcases List.mem_cons.1 hf with rfl | h; rfl; exact ih f h
theorem ownsOf_mem {xs : List Seg} {x : Seg} (h : x ∈ xs) : Fa.own (sv x) x.2.2.length 5 1 (bc x.2.2) ∈ ownsOf xs := by
  induction xs with
  | nil => cases h
  | cons y l ih => exact (List.mem_cons.1 h).elim (fun e => by rw [e]; exact List.mem_cons_self ..) fun e => List.mem_cons_of_mem _ (ih e)
theorem svs_snoc (ys : List Seg) (x : Seg) : svs ys.reverse ++ [sv x] = svs (x :: ys).reverse := by simp [svs]
theorem svs_rev (ys : List Seg) : (svs ys.reverse).reverse = svs ys := by simp [svs]
/-- rows that are somewhere, with these bytes -/
def SegsOk (ys : List Seg) (ls : List (List UInt8)) : Prop := ys.map (fun x => x.2.2) = ls ∧ ∀ x ∈ ys, ∃ g, x.1 = some ⟨g, 0, none⟩
theorem SegsOk.len {ys : List Seg} {ls : List (List UInt8)} (h : SegsOk ys ls) : ys.length = ls.length := by rw [← h.1, List.length_map]
theorem preLs_len (n : Nat) (key : B32) (ds : List B32) (pre : List UInt8) (N : Nat) : (preLs n key ds pre N).length = N := by simp [preLs]
theorem preLs_succ (n : Nat) (key : B32) (ds : List B32) (pre : List UInt8) (N : Nat) : (preLs n key ds pre (N + 1)).reverse = wayP n key ds pre N :: (preLs n key ds pre N).reverse := by
  unfold preLs
  rw [List.range_succ, List.map_append, List.reverse_append]
  rfl
theorem Pre_bad (p : Proof) (h : checkP p ≠ 0) (key : B32) (gh : Nat) : Spec Tryd.prog 15 [.pointer (some ⟨gh, 0, none⟩), .agg p.cells.toArray, .agg key.cells.toArray].toArray [] [] (fun _ : Unit => .tuple #[.slice none 0 0, .int .i64 (checkP p)]) (fun _ => []) := by
  refine spec_of Tryd.func15 rfl (n := 35) rfl rfl ?_
  intro W
  refine h_seq ?_
  refine h_reg ?_
  refine h_opX (x_box rfl) fun g4 => ?_
  refine h_opX (x_box rfl) fun g5 => ?_
  refine h_op (r_assign rfl) ?_
  refine h_op (r_assign rfl) ?_
  refine h_nil ?_
  refine q_then ?_
  refine h_seq ?_
  refine h_reg ?_
  refine h_op (r_move rfl) ?_
  refine h_op (r_loadr rfl) ?_
  refine h_call ((Expand_bad p h gh).comes) rfl rfl rfl fun _ => ?_
  refine h_op (r_move rfl) ?_
  refine h_op (r_extract rfl rfl) ?_
  refine h_op (r_extract rfl rfl) ?_
  refine h_op (r_assign rfl) ?_
  refine h_op (r_assign rfl) ?_
  refine h_nil ?_
  refine q_then ?_
  refine h_seq ?_
  refine h_seq ?_
  refine h_reg ?_
  refine h_op (r_move rfl) ?_
  refine h_op (r_neq rfl rfl) ?_
  refine h_nil ?_
  refine q_then ?_
  refine h_yes rfl (h) ?_
  refine h_seq ?_
  refine h_reg ?_
  refine h_op (r_move rfl) ?_
  refine h_op (r_assign rfl) ?_
  refine h_op (r_assign rfl) ?_
  refine h_nil ?_
  refine q_then ?_
  refine h_ret ?_
  refine q_thenR ?_
  exact h_ret2 rfl rfl rfl fun w s => ⟨(), rfl, s.res (List.nil_sublist _) (by simp)⟩
theorem Pre_s (p : Proof) (hc : checkP p = 0) (ss : List B32) (hs : p.sibs.n = ss.length) (key : B32) (n : Nat) (hn : n ≤ 256) (gh gc k0 : Nat) (hk : k0 ≤ 800000000000) (d : Nat) (hd : p.depth = (d : Int)) : Spec Tryd.prog 15 [.pointer (some ⟨gh, 0, none⟩), .agg p.cells.toArray, .agg key.cells.toArray].toArray [.rd (some ⟨gh, 0, none⟩) [.pointer (some ⟨gc, 0, none⟩), .int .i64 (n : Int)], .rd p.sibs.A (dgs ss), .rd (some ⟨0, 0, none⟩) hashT] [.blk gc [.int .i64 (k0 : Int)] 78] (fun u : { u : Nat × Nat × List Seg // SegsOk u.2.2 (preLs n key (expL (sumB n preE) p.bitmap ss d) (endP p) (d + 1)).reverse } => .tuple #[.slice (some ⟨u.1.1, 0, none⟩) (d + 1) u.1.2.1, .int .i64 0]) (fun u => .own (.slice (some ⟨u.1.1, 0, none⟩) (d + 1) u.1.2.1) (d + 1) 36 1 (svs u.1.2.2) :: .blk gc [.int .i64 ((k0 + 1 + d + 1 : Nat) : Int)] 78 :: ownsOf u.1.2.2) := by
  have hd2 := ok_depth hc
  have hE := Expand_s p hc ss hs n hn gh gc k0 (by omega) d hd
  have hlen := expL_len (sumB n preE) p.bitmap ss d
  generalize expL (sumB n preE) p.bitmap ss d = ds at *
  subst hlen
  have hds : ds.length ≤ 256 := by omega
  refine spec_of Tryd.func15 rfl (n := 35) rfl rfl ?_
  intro W
  refine h_seq ?_
  refine h_reg ?_
  refine h_opX (x_box rfl) fun g4 => ?_
  refine h_opX (x_box rfl) fun g5 => ?_
  refine h_op (r_assign rfl) ?_
  refine h_op (r_assign rfl) ?_
  refine h_nil ?_
  refine q_then ?_
  refine h_seq ?_
  refine h_reg ?_
  refine h_op (r_move rfl) ?_
  refine h_op (r_loadr rfl) ?_
  refine h_call (hE.comes) rfl rfl rfl fun g15 => ?_
  refine h_op (r_move rfl) ?_
  refine h_op (r_extract rfl rfl) ?_
  refine h_op (r_extract rfl rfl) ?_
  refine h_op (r_assign rfl) ?_
  refine h_op (r_assign rfl) ?_
  refine h_nil ?_
  refine q_then ?_
  refine h_seq ?_
  refine h_seq ?_
  refine h_reg ?_
  refine h_op (r_move rfl) ?_
  refine h_op (r_neq rfl rfl) ?_
  refine h_nil ?_
  refine q_then ?_
  refine h_no rfl ((fun h => h rfl)) ?_
  refine h_skip ?_
  refine q_then ?_
  refine h_seq ?_
  refine h_reg ?_
  refine h_opX (x_alloc) fun g10 => ?_
  refine h_nil ?_
  refine q_then ?_
  refine h_seq ?_
  refine h_seq ?_
  refine h_reg ?_
  refine h_op (r_move rfl) ?_
  refine h_op (r_loadr rfl) ?_
  refine h_op (r_move rfl) ?_
  refine h_op (r_loadr rfl) ?_
  refine h_call ((ways_s (.pointer (some ⟨gh, 0, none⟩)) p (some ⟨g15, 0, none⟩) ds.length ds.length key rfl).comes) rfl rfl rfl fun ⟨a2, a1, a3, a4⟩ => ?_
  dsimp only
  refine h_nil_own 36 1 (xs := svs ([] : List Seg).reverse) rfl ?_
  refine h_nil ?_
  refine q_then ?_
  refine h_block ?_
  refine h_rangeG (ways_it p n hn key ds hds gh gc (k0 + 1) g15 0 ds.length a2 a1 a3 a4 (by omega)) rfl (fun k mm => ∃ (v : Option Addr × Nat) (ys : List Seg), SegsOk ys (preLs n key ds (endP p) k).reverse ∧ mm = .blk g10 [.slice v.1 k v.2] 40 :: .own (.slice v.1 k v.2) k 36 1 (svs ys.reverse) :: ownsOf ys) [.blk g10 [.slice none 0 0] 40, .own (.slice none 0 0) 0 36 1 (svs ([] : List Seg).reverse)] [] (by rintro k mm ⟨v, ys, _, rfl⟩ f hf; simp only [List.mem_cons] at hf; exact hf.elim (fun h => by rw [h]; rfl) (fun h => h.elim (fun h => by rw [h]; rfl) (ownsOf_wr ys f))) ⟨(none, 0), [], ⟨rfl, by simp⟩, rfl⟩ rfl (fun _ _ => rfl) ?_ ?_
  · intro ll rr k u mm W1 hr hrp hkN hJ2
    obtain ⟨⟨B, c'⟩, ys, hys, rfl⟩ := hJ2
    obtain ⟨g, c⟩ := u
    dsimp only
    simp only [List.nil_append, List.cons_append, List.append_nil]
    have hsn := svs_snoc ys (some ⟨g, 0, none⟩, c, wayP n key ds (endP p) k)
    have hys2 : SegsOk ((some ⟨g, 0, none⟩, c, wayP n key ds (endP p) k) :: ys) (preLs n key ds (endP p) (k + 1)).reverse := ⟨by rw [preLs_succ, List.map_cons, hys.1], fun x hx => (List.mem_cons.1 hx).elim (fun e => ⟨g, by rw [e]⟩) (hys.2 x)⟩
    unfold sv at hsn
    dsimp only at hsn
    refine h_reg ?_
    refine h_op (r_assign rfl) ?_
    refine h_nil ?_
    refine q_then ?_
    refine h_begin hr ?_
    refine h_block ?_
    refine h_reg ?_
    refine h_op (r_loadc rfl) ?_
    refine h_op (r_move rfl) ?_
    refine h_opX (x_bsl rfl rfl) fun g30 => ?_
    refine h_opX (x_app rfl rfl) fun ⟨g31, c31⟩ => ?_
    refine h_opS (s_store rfl rfl rfl) ?_
    refine h_nil ?_
    refine q_block ?_
    rw [hsn]
    exact h_endround (.blk g10 [.slice (some ⟨g31, 0, none⟩) (k + 1) c31] 40 :: .own (.slice (some ⟨g31, 0, none⟩) (k + 1) c31) (k + 1) 36 1 (svs ((some ⟨g, 0, none⟩, c, wayP n key ds (endP p) k) :: ys : List Seg).reverse) :: .own (.slice (some ⟨g, 0, none⟩) (wayP n key ds (endP p) k).length c) (wayP n key ds (endP p) k).length 5 1 (bc (wayP n key ds (endP p) k)) :: ownsOf ys) hr hrp ⟨(some ⟨g31, 0, none⟩, c31), _, hys2, rfl⟩ (by intro f hf; simp only [List.mem_cons] at hf; exact hf.elim (fun h => by rw [h]; rfl) (fun h => h.elim (fun h => by rw [h]; rfl) (fun h => h.elim (fun h => by rw [h]; rfl) (ownsOf_wr ys f))))
  · intro bb mm hJ2
    obtain ⟨⟨B, c'⟩, ys, hys, rfl⟩ := hJ2
    refine q_block ?_
    refine q_then ?_
    dsimp only
    simp only [List.nil_append, List.cons_append]
    refine h_L (fun w s => Sx.mid0 (pre := [_, _, _]) (m := ownsOf ys) (l := [.obj bb (.deferred (some [])), .blk a2 p.cells 29, .blk a1 [.pointer (some ⟨gh, 0, none⟩)] 32, .blk a3 [.slice (some ⟨g15, 0, none⟩) ds.length ds.length] 27, .blk a4 key.cells 23, .own (.slice (some ⟨g15, 0, none⟩) ds.length ds.length) ds.length 24 32 (dgs ds), .blk g5 key.cells 23, .blk g4 p.cells 29, .rd (some ⟨gh, 0, none⟩) [.pointer (some ⟨gc, 0, none⟩), .int .i64 (n : Int)], .rd p.sibs.A (dgs ss), .rd (some ⟨0, 0, none⟩) hashT]) s) ?_
    simp only [List.nil_append, List.cons_append]
    refine h_pure (φ := ∃ g, B = some ⟨g, 0, none⟩) (fun w s => s.ownSome (N := ds.length + 1) (c := c') (by omega)) ?_
    rintro ⟨g, rfl⟩
    have hyl : (svs ys.reverse).length = ds.length + 1 := by rw [svs_len, List.length_reverse, hys.len, List.length_reverse, preLs_len]
    have hR := Reverse_s (svs ys.reverse) (svs_one _) g c' (by omega)
    rw [hyl, svs_rev] at hR
    refine h_seq ?_
    refine h_reg ?_
    refine h_op (r_loadc rfl) ?_
    refine h_call (hR.comes) rfl rfl rfl fun _ => ?_
    refine h_nil ?_
    refine q_then ?_
    refine h_seq ?_
    refine h_reg ?_
    refine h_op (r_loadc rfl) ?_
    refine h_op (r_assign rfl) ?_
    refine h_op (r_assign rfl) ?_
    refine h_nil ?_
    refine q_then ?_
    refine h_ret ?_
    refine h_mark ?_
    exact h_ret2 rfl rfl rfl fun w s => ⟨⟨(g, c', ys), hys⟩, rfl, (same w s).res (List.Sublist.refl _) (by intro f hf; simp only [List.mem_cons] at hf; exact hf.elim (fun h => by rw [h]; rfl) (fun h => h.elim (fun h => by rw [h]; rfl) (ownsOf_wr ys f)))⟩
end Go.Proofs.YtfjlpndohnianaaDoor
/- U23 -/
namespace Go.Proofs.YtfjlpndohnianaaDoor
set_option linter.unusedSimpArgs false
set_option linter.unusedVariables false
open Go.RowKit
theorem rDepths_s (p : Proof) : Spec Tryd.prog 34 [.agg p.cells.toArray].toArray [] [] (fun u : Option Addr × Nat => .slice u.1 (depths p.bitmap).length u.2) (fun u => [.own (.slice u.1 (depths p.bitmap).length u.2) (depths p.bitmap).length 3 1 (ic (depths p.bitmap))]) := by
  refine spec_of Tryd.func34 rfl (n := 19) rfl rfl ?_
  intro W
  refine h_seq ?_
  refine h_reg ?_
  refine h_opX (x_box rfl) fun g1 => ?_
  refine h_op (r_assign rfl) ?_
  refine h_nil ?_
  refine q_then ?_
  refine h_seq ?_
  refine h_reg ?_
  refine h_op (r_assign rfl) ?_
  refine h_nil ?_
  refine q_then ?_
  refine h_seq ?_
  refine h_seq ?_
  refine h_reg ?_
  refine h_op (r_assign rfl) ?_
  refine h_nil ?_
  refine q_then ?_
  refine h_block ?_
  refine h_nil_own 3 1 (xs := ic (dep p.bitmap 0)) rfl ?_
  change H _ _ _ _ _ (.own (.slice none (dep p.bitmap 0).length 0) (dep p.bitmap 0).length _ _ _ :: _) _
  refine h_loop (fun (s : Nat × Option Addr × Nat) => s.1 ≤ 256) (fun (s : Nat × Option Addr × Nat) => [(4, .int .i64 (s.1 : Int)), (3, .slice s.2.1 (dep p.bitmap s.1).length s.2.2), (1, .pointer (some ⟨g1, 0, none⟩))]) (fun (s : Nat × Option Addr × Nat) => [.own (.slice s.2.1 (dep p.bitmap s.1).length s.2.2) (dep p.bitmap s.1).length 3 1 (ic (dep p.bitmap s.1)), .blk g1 p.cells 29]) (fun (s : Nat × Option Addr × Nat) => 256 - s.1) (0, none, 0) ((show 0 ≤ 256 by omega)) ⟨rfl, rfl, rfl, trivial⟩ (same) ?_
  rintro ⟨k, B, c⟩ hk
  dsimp only at hk ⊢
  have hd := dep_len p.bitmap k
  refine h_seq ?_
  refine h_seq ?_
  refine h_reg ?_
  refine h_op (r_move rfl) ?_
  refine h_op (r_lss rfl rfl) ?_
  refine h_nil ?_
  refine q_then ?_
  refine h_cond rfl (fun h => ?_) (fun h => ?_)
  · refine h_skip ?_
    refine q_then ?_
    refine h_seq ?_
    refine h_block ?_
    refine h_seq ?_
    refine h_reg ?_
    refine h_op (r_field rfl) ?_
    refine h_op (r_loadr rfl) ?_
    refine h_op (r_move rfl) ?_
    refine h_call ((refBit_s p.bitmap k (by omega)).comes) rfl rfl rfl fun _ => ?_
    refine h_op (r_bool (r_eql rfl rfl) (bitN_one p.bitmap k)) ?_
    refine h_nil ?_
    refine q_then ?_
    refine h_condB rfl (fun h2 => ?_) (fun h2 => ?_)
    · have he := dep_yes h2
      have hl : (dep p.bitmap k).length + 1 = (dep p.bitmap (k + 1)).length := by rw [he]; simp
      refine h_reg ?_
      refine h_op (r_move rfl) ?_
      refine h_op (r_move rfl) ?_
      refine h_opX (x_bsl rfl rfl) fun g16 => ?_
      refine h_opX (x_app1I rfl rfl (hN := hl)) fun ⟨g17, c17⟩ => ?_
      refine h_op (r_assign rfl) ?_
      refine h_nil ?_
      refine q_block ?_
      refine q_then ?_
      refine h_reg ?_
      refine h_op (r_move rfl) ?_
      refine h_op (r_add rfl rfl) ?_
      refine h_op (r_assign rfl) ?_
      refine h_nil ?_
      rw [← he]
      exact h_back (k + 1, some ⟨g17, 0, none⟩, c17) ((show k + 1 ≤ 256 by omega)) ((show 256 - (k + 1) < 256 - k by omega)) ⟨rfl, rfl, rfl, trivial⟩ (same)
    · have he := dep_no (b := p.bitmap) (k := k) (by rw [h2]; simp)
      refine h_skip ?_
      refine q_block ?_
      refine q_then ?_
      refine h_reg ?_
      refine h_op (r_move rfl) ?_
      refine h_op (r_add rfl rfl) ?_
      refine h_op (r_assign rfl) ?_
      refine h_nil ?_
      rw [← he]
      exact h_back (k + 1, B, c) ((show k + 1 ≤ 256 by omega)) ((show 256 - (k + 1) < 256 - k by omega)) ⟨rfl, rfl, rfl, trivial⟩ (same)
  · obtain rfl : k = 256 := by omega
    refine h_exit ?_
    refine q_thenE ?_
    refine q_thenE ?_
    refine q_blockE ?_
    refine q_then ?_
    refine h_seq ?_
    refine h_reg ?_
    refine h_op (r_move rfl) ?_
    refine h_op (r_assign rfl) ?_
    refine h_nil ?_
    refine q_then ?_
    refine h_ret ?_
    exact h_ret1 rfl rfl fun w s => ⟨(B, c), rfl, s.res ((List.nil_sublist _).cons_cons _) (by simp [Fa.wr])⟩
theorem expL_succ (e : B32) (b : B32) (ss : List B32) (k : Nat) (x : B32) (h : x = if bitAt b k then ss.getD (dep b k).length zB32 else e) : dgs (expL e b ss k) ++ x.cells = dgs (expL e b ss (k + 1)) := by
  rw [expL, dgs_append, ← h]
  simp [dgs]
theorem rExpand_s (p : Proof) (hc : checkP p = 0) (ss : List B32) (hs : p.sibs.n = ss.length) (n : Nat) (hn : n ≤ 256) (d : Nat) (hd : p.depth = (d : Int)) : Spec Tryd.prog 35 [.int .i64 (n : Int), .agg p.cells.toArray].toArray [.rd p.sibs.A (dgs ss)] [] (fun u : Option Addr × Nat => .slice u.1 d u.2) (fun u => [.own (.slice u.1 d u.2) d 24 32 (dgs (expL (sumB n preE) p.bitmap ss d))]) := by
  have hd2 := ok_depth hc
  have hsb := ok_sibs hc
  refine spec_of Tryd.func35 rfl (n := 35) rfl rfl ?_
  intro W
  refine h_seq ?_
  refine h_reg ?_
  refine h_opX (x_box rfl) fun g3 => ?_
  refine h_op (r_assign rfl) ?_
  refine h_nil ?_
  refine q_then ?_
  refine h_seq ?_
  refine h_reg ?_
  refine h_op (r_assign rfl) ?_
  refine h_nil ?_
  refine q_then ?_
  refine h_seq ?_
  refine h_reg ?_
  refine h_op (r_assign rfl) ?_
  refine h_nil ?_
  refine q_then ?_
  refine h_seq ?_
  refine h_seq ?_
  refine h_reg ?_
  refine h_op (r_assign rfl) ?_
  refine h_nil ?_
  refine q_then ?_
  refine h_block ?_
  refine h_nil_own 24 32 (xs := dgs (expL (sumB n preE) p.bitmap ss 0)) rfl ?_
  refine h_loop (fun (s : Nat × Option Addr × Nat) => s.1 ≤ d) (fun (s : Nat × Option Addr × Nat) => [(7, .int .i64 (s.1 : Int)), (6, .int .i64 (((dep p.bitmap s.1).length : Nat) : Int)), (5, .slice s.2.1 s.1 s.2.2), (3, .pointer (some ⟨g3, 0, none⟩)), (0, .int .i64 (n : Int))]) (fun (s : Nat × Option Addr × Nat) => [.own (.slice s.2.1 s.1 s.2.2) s.1 24 32 (dgs (expL (sumB n preE) p.bitmap ss s.1)), .blk g3 p.cells 29, .rd p.sibs.A (dgs ss)]) (fun (s : Nat × Option Addr × Nat) => d - s.1) (0, none, 0) ((show 0 ≤ d by omega)) ⟨rfl, rfl, rfl, rfl, rfl, trivial⟩ (same) ?_
  rintro ⟨k, B, c⟩ hk
  dsimp only at hk ⊢
  have hdl := dep_len p.bitmap k
  refine h_seq ?_
  refine h_seq ?_
  refine h_reg ?_
  refine h_op (r_move rfl) ?_
  refine h_op (r_field rfl) ?_
  refine h_op (r_int (r_loadc rfl) hd) ?_
  refine h_op (r_lss rfl rfl) ?_
  refine h_nil ?_
  refine q_then ?_
  refine h_cond rfl (fun h => ?_) (fun h => ?_)
  · have hk256 : k < 256 := by omega
    refine h_skip ?_
    refine q_then ?_
    refine h_seq ?_
    refine h_block ?_
    refine h_seq ?_
    refine h_reg ?_
    refine h_op (r_field rfl) ?_
    refine h_op (r_loadr rfl) ?_
    refine h_op (r_move rfl) ?_
    refine h_call ((refBit_s p.bitmap k hk256).comes) rfl rfl rfl fun _ => ?_
    refine h_op (r_bool (r_eql rfl rfl) (bitN_one p.bitmap k)) ?_
    refine h_nil ?_
    refine q_then ?_
    refine h_condB rfl (fun h2 => ?_) (fun h2 => ?_)
    · have he := dep_yes h2
      have hl := dep_lt hk256 h2
      have hl1 : (dep p.bitmap (k + 1)).length = (dep p.bitmap k).length + 1 := by rw [he]; simp
      have hex := expL_succ (sumB n preE) p.bitmap ss k (ss.getD (dep p.bitmap k).length zB32) (by rw [if_pos h2])
      refine h_pure (φ := ∃ b o, p.sibs.A = some ⟨b, o, none⟩) (fun w s => Rd.some (s.ok (.rd p.sibs.A (dgs ss)) (by simp)) (by rw [dgs_len]; omega)) ?_
      rintro ⟨b, o, hA⟩
      refine h_seq ?_
      refine h_reg ?_
      refine h_op (r_move rfl) ?_
      refine h_op (r_field rfl) ?_
      refine h_op (r_loadc rfl) ?_
      rw [hA]
      refine h_op (r_move rfl) ?_
      refine h_op (r_idx rfl rfl) ?_
      refine h_op (r_nthr rfl (out := (ss.getD (dep p.bitmap k).length zB32).cells) (B32.cells_length _) (dgs_at (by omega))) ?_
      refine h_opX (x_bsl rfl rfl) fun g25 => ?_
      refine h_opX (x_app rfl rfl (k := 32)) fun ⟨g26, c26⟩ => ?_
      refine h_op (r_assign rfl) ?_
      refine h_nil ?_
      refine q_then ?_
      refine h_reg ?_
      refine h_op (r_move rfl) ?_
      refine h_op (r_add rfl rfl) ?_
      refine h_op (r_assign rfl) ?_
      refine h_nil ?_
      refine q_block ?_
      refine q_then ?_
      refine h_reg ?_
      refine h_op (r_move rfl) ?_
      refine h_op (r_add rfl rfl) ?_
      refine h_op (r_assign rfl) ?_
      refine h_nil ?_
      rw [hex]
      exact h_back (k + 1, some ⟨g26, 0, none⟩, c26) ((show k + 1 ≤ d by omega)) ((show d - (k + 1) < d - k by omega)) ⟨rfl, aI rfl (by dsimp only; omega), rfl, rfl, rfl, trivial⟩ (same)
    · have he := dep_no (b := p.bitmap) (k := k) (by rw [h2]; simp)
      have hex := expL_succ (sumB n preE) p.bitmap ss k (sumB n preE) (by rw [if_neg (by rw [h2]; simp)])
      refine h_reg ?_
      refine h_op (r_move rfl) ?_
      refine h_op (r_move rfl) ?_
      refine h_call ((rEmpty_s n hn).comes) rfl rfl rfl fun _ => ?_
      refine h_opX (x_bsl rfl rfl) fun g32 => ?_
      refine h_opX (x_app rfl rfl (k := 32)) fun ⟨g33, c33⟩ => ?_
      refine h_op (r_assign rfl) ?_
      refine h_nil ?_
      refine q_block ?_
      refine q_then ?_
      refine h_reg ?_
      refine h_op (r_move rfl) ?_
      refine h_op (r_add rfl rfl) ?_
      refine h_op (r_assign rfl) ?_
      refine h_nil ?_
      rw [hex]
      exact h_back (k + 1, some ⟨g33, 0, none⟩, c33) ((show k + 1 ≤ d by omega)) ((show d - (k + 1) < d - k by omega)) ⟨rfl, aI rfl (by dsimp only; rw [he]), rfl, rfl, rfl, trivial⟩ (same)
  · obtain rfl : k = d := by omega
    refine h_exit ?_
    refine q_thenE ?_
    refine q_thenE ?_
    refine q_blockE ?_
    refine q_then ?_
    refine h_seq ?_
    refine h_reg ?_
    refine h_op (r_move rfl) ?_
    refine h_op (r_assign rfl) ?_
    refine h_nil ?_
    refine q_then ?_
    refine h_ret ?_
    exact h_ret1 rfl rfl fun w s => ⟨(B, c), rfl, s.res ((List.nil_sublist _).cons_cons _) (by simp [Fa.wr])⟩
end Go.Proofs.YtfjlpndohnianaaDoor
/- U24 -/
namespace Go.Proofs.YtfjlpndohnianaaDoor
set_option linter.unusedSimpArgs false
set_option linter.unusedVariables false
open Go.RowKit
theorem SegsOk.cons {xs : List Seg} {l : List UInt8} {ls : List (List UInt8)} (h : SegsOk xs (l :: ls)) : ∃ g c xs', xs = (some ⟨g, 0, none⟩, c, l) :: xs' ∧ SegsOk xs' ls := by
  obtain ⟨h1, h2⟩ := h
  cases xs with
  | nil => cases h1
  | cons x xs' =>
    rw [List.map_cons] at h1
    injection h1 with h3 h4
    obtain ⟨g, hg⟩ := h2 x (List.mem_cons_self ..)
    obtain ⟨A, c, l'⟩ := x
    simp only at h3 hg
    subst h3 hg
    exact ⟨g, c, xs', rfl, h4, fun y hy => h2 y (List.mem_cons_of_mem _ hy)⟩
theorem rPre_s (p : Proof) (hc : checkP p = 0) (ss : List B32) (hs : p.sibs.n = ss.length) (key : B32) (n : Nat) (hn : n ≤ 256) (d : Nat) (hd : p.depth = (d : Int)) : Spec Tryd.prog 17 [.int .i64 (n : Int), .agg p.cells.toArray, .agg key.cells.toArray].toArray [.rd p.sibs.A (dgs ss)] [] (fun u : { u : Nat × Nat × List Seg // SegsOk u.2.2 (preLs n key (expL (sumB n preE) p.bitmap ss d) (endP p) (d + 1)).reverse } => .slice (some ⟨u.1.1, 0, none⟩) (d + 1) u.1.2.1) (fun u => .own (.slice (some ⟨u.1.1, 0, none⟩) (d + 1) u.1.2.1) (d + 1) 36 1 (svs u.1.2.2) :: ownsOf u.1.2.2) := by
  have hd2 := ok_depth hc
  have hE := rExpand_s p hc ss hs n hn d hd
  have hlen := expL_len (sumB n preE) p.bitmap ss d
  generalize expL (sumB n preE) p.bitmap ss d = ds at *
  subst hlen
  have hds : ds.length ≤ 256 := by omega
  have hel := endP_len p
  have hwl := wayP_len n key ds (endP p) hel
  generalize hpre : endP p = pre at *
  refine spec_of Tryd.func17 rfl (n := 58) rfl rfl ?_
  intro W
  refine h_seq ?_
  refine h_reg ?_
  refine h_opX (x_box rfl) fun g4 => ?_
  refine h_opX (x_box rfl) fun g5 => ?_
  refine h_op (r_assign rfl) ?_
  refine h_nil ?_
  refine q_then ?_
  refine h_seq ?_
  refine h_reg ?_
  refine h_op (r_move rfl) ?_
  refine h_op (r_loadr rfl) ?_
  refine h_call (hE.comes) rfl rfl rfl fun ⟨Bx, cx⟩ => ?_
  dsimp only
  refine h_op (r_assign rfl) ?_
  refine h_nil ?_
  refine q_then ?_
  refine h_seq ?_
  refine h_reg ?_
  refine h_opX (x_bsl rfl rfl) fun g16 => ?_
  refine h_op (r_assign rfl) ?_
  refine h_nil ?_
  refine q_then ?_
  refine h_seq ?_
  refine h_seq ?_
  refine h_reg ?_
  refine h_op (r_field rfl) ?_
  refine h_op (r_loadc rfl) ?_
  refine h_op (r_eql rfl rfl) ?_
  refine h_nil ?_
  refine q_then ?_
  change H _ _ _ _ _ (.own (.slice (some ⟨g16, 0, none⟩) 1 1) 1 _ _ (bc preE) :: _) _
  by_cases hkd : p.kind = 1
  · obtain rfl : pre = preL p.leaf := hpre.symm.trans (if_pos hkd)
    refine h_yes rfl (hkd) ?_
    refine h_reg ?_
    refine h_op (r_field rfl) ?_
    refine h_op (r_loadr rfl) ?_
    refine h_call ((rLeaf_s p.leaf).comes) rfl rfl rfl fun ⟨g22, c22⟩ => ?_
    dsimp only
    refine h_op (r_assign rfl) ?_
    refine h_nil ?_
    refine q_then ?_
    refine h_seq ?_
    refine h_reg ?_
    refine h_op (r_move rfl) ?_
    refine h_opX (x_bsl rfl rfl) fun g24 => ?_
    refine h_op (r_assign rfl) ?_
    refine h_nil ?_
    refine q_then ?_
    refine h_seq ?_
    refine h_seq ?_
    refine h_reg ?_
    refine h_op (r_field rfl) ?_
    refine h_op (r_loadc rfl) ?_
    refine h_op (r_sub rfl rfl) ?_
    refine h_op (r_assign rfl) ?_
    refine h_nil ?_
    refine q_then ?_
    refine h_block ?_
    change H _ _ _ _ _ (.own (.slice (some ⟨g24, 0, none⟩) (0 + 1) 1) (0 + 1) _ _ (svs [(some ⟨g22, 0, none⟩, c22, wayP n key ds (preL p.leaf) 0)]) :: .own (.slice (some ⟨g22, 0, none⟩) (wayP n key ds (preL p.leaf) 0).length c22) (wayP n key ds (preL p.leaf) 0).length _ _ (bc (wayP n key ds (preL p.leaf) 0)) :: _) _
    refine h_loop (fun (s : Nat × Nat × Nat × List Seg) => s.1 ≤ ds.length ∧ SegsOk s.2.2.2 (preLs n key ds (preL p.leaf) (s.1 + 1)).reverse) (fun (s : Nat × Nat × Nat × List Seg) => [(10, .int .i64 ((ds.length : Int) - 1 - (s.1 : Int))), (9, .slice (some ⟨s.2.1, 0, none⟩) (s.1 + 1) s.2.2.1), (7, .slice Bx ds.length cx), (5, .pointer (some ⟨g5, 0, none⟩)), (0, .int .i64 (n : Int))]) (fun (s : Nat × Nat × Nat × List Seg) => .own (.slice (some ⟨s.2.1, 0, none⟩) (s.1 + 1) s.2.2.1) (s.1 + 1) 36 1 (svs s.2.2.2) :: .own (.slice Bx ds.length cx) ds.length 24 32 (dgs ds) :: .blk g5 key.cells 23 :: ownsOf s.2.2.2) (fun (s : Nat × Nat × Nat × List Seg) => ds.length - s.1) (0, g24, 1, [(some ⟨g22, 0, none⟩, c22, wayP n key ds (preL p.leaf) 0)]) ((show 0 ≤ ds.length ∧ SegsOk [(some ⟨g22, 0, none⟩, c22, wayP n key ds (preL p.leaf) 0)] (preLs n key ds (preL p.leaf) 1).reverse from ⟨Nat.zero_le _, rfl, fun x hx => ⟨g22, by rw [List.mem_singleton.1 hx]⟩⟩)) ⟨aI rfl (by dsimp only; omega), rfl, rfl, rfl, rfl, trivial⟩ (fun w s => (same (L' := [.own (.slice (some ⟨g24, 0, none⟩) (0 + 1) 1) (0 + 1) 36 1 (svs [(some ⟨g22, 0, none⟩, c22, wayP n key ds (preL p.leaf) 0)]), .own (.slice Bx ds.length cx) ds.length 24 32 (dgs ds), .blk g5 key.cells 23, .own (.slice (some ⟨g22, 0, none⟩) (wayP n key ds (preL p.leaf) 0).length c22) (wayP n key ds (preL p.leaf) 0).length 5 1 (bc (wayP n key ds (preL p.leaf) 0))]) w s)) ?_
    rintro ⟨k, g, c, xs⟩ ⟨hk, hxs⟩
    dsimp only at hk hxs ⊢
    refine h_seq ?_
    refine h_seq ?_
    refine h_reg ?_
    refine h_op (r_move rfl) ?_
    refine h_op (r_geq rfl rfl) ?_
    refine h_nil ?_
    refine q_then ?_
    refine h_cond rfl (fun h => ?_) (fun h => ?_)
    · have hkd2 : k < ds.length := by omega
      have hxl : xs.length = k + 1 := by rw [hxs.len, List.length_reverse, preLs_len]
      have hxs0 := hxs
      rw [preLs_succ] at hxs
      obtain ⟨gx, cx', xs', rfl, hxs'⟩ := hxs.cons
      refine h_E (E' := [(10, .int .i64 ((ds.length - 1 - k : Nat) : Int)), (9, .slice (some ⟨g, 0, none⟩) (k + 1) c), (7, .slice Bx ds.length cx), (5, .pointer (some ⟨g5, 0, none⟩)), (0, .int .i64 (n : Int))]) ⟨aI rfl (by omega), rfl, rfl, rfl, rfl, trivial⟩ ?_
      refine h_L (L' := .own (.slice (some ⟨g, 0, none⟩) (k + 1) c) (k + 1) 36 1 (svs ((some ⟨gx, 0, none⟩, cx', wayP n key ds (preL p.leaf) k) :: xs')) :: .own (.slice Bx ds.length cx) ds.length 24 32 (dgs ds) :: .blk g5 key.cells 23 :: .own (.slice (some ⟨gx, 0, none⟩) (wayP n key ds (preL p.leaf) k).length cx') (wayP n key ds (preL p.leaf) k).length 5 1 (bc (wayP n key ds (preL p.leaf) k)) :: ownsOf xs') (fun _ s => s) ?_
      refine h_pure (φ := ∃ g, Bx = some ⟨g, 0, none⟩) (fun w s => s.ownSome (N := ds.length) (c := cx) (by omega)) ?_
      rintro ⟨gB, rfl⟩
      have hlk := hwl k
      refine h_skip ?_
      refine q_then ?_
      refine h_seq ?_
      refine h_block ?_
      refine h_seq ?_
      refine h_reg ?_
      refine h_op (r_move rfl) ?_
      refine h_op (r_move rfl) ?_
      refine h_op (r_idx rfl rfl) ?_
      refine h_op (r_nth rfl (v := .slice (some ⟨gx, 0, none⟩) (wayP n key ds (preL p.leaf) k).length cx') rfl) ?_
      refine h_call ((refSum5_s n hn (wayP n key ds (preL p.leaf) k) (some ⟨gx, 0, none⟩) cx' (fun h => by cases h) (by omega)).comes) rfl rfl rfl fun _ => ?_
      refine h_opX (x_alloc) fun g11 => ?_
      refine h_opS (s_storer rfl rfl) ?_
      refine h_nil ?_
      refine q_then ?_
      refine h_seq ?_
      refine ha_start [.blk g11 (sumB n (wayP n key ds (preL p.leaf) k)).cells 24, .own (.slice (some ⟨gB, 0, none⟩) ds.length cx) ds.length 24 32 (dgs ds)] [] mixed (same) ?_
      refine ha_take 0 rfl (r_loadr rfl) ?_
      refine ha_takeP 1 rfl (r_move rfl) ?_
      refine ha_takeP 2 rfl (r_move rfl) ?_
      refine ha_takeP 3 rfl (r_idx rfl rfl) ?_
      refine ha_take 4 rfl (r_nthr rfl (out := (ds.getD (ds.length - 1 - k) zB32).cells) (B32.cells_length _) (dgs_at (by omega))) ?_
      refine ha_one 5 ?_
      refine ho_C 5 rfl ((rNode_s (sumB n (wayP n key ds (preL p.leaf) k)) (ds.getD (ds.length - 1 - k) zB32)).comes) rfl rfl rfl (fun _ => same) fun ⟨g42, c42⟩ => ?_
      refine ha_takeP 6 rfl (r_assign rfl) ?_
      refine ha_done (by kernel_rfl) ?_
      refine q_then ?_
      dsimp only
      refine h_seq ?_
      refine h_seq ?_
      refine h_reg ?_
      refine h_op (r_loadr rfl) ?_
      refine h_op (r_move rfl) ?_
      refine h_call ((refBit_s key (ds.length - 1 - k) (by omega)).comes) rfl rfl rfl fun _ => ?_
      refine h_op (r_bool (r_eql rfl rfl) (bitN_one key (ds.length - 1 - k))) ?_
      refine h_nil ?_
      refine q_then ?_
      refine h_condB rfl (fun hb => ?_) (fun hb => ?_)
      · have hw1 : wayP n key ds (preL p.leaf) (k + 1) = preN (ds.getD (ds.length - 1 - k) zB32) (sumB n (wayP n key ds (preL p.leaf) k)) := by rw [wayP, if_pos hb]
        refine ha_start [.blk g11 (sumB n (wayP n key ds (preL p.leaf) k)).cells 24, .own (.slice (some ⟨gB, 0, none⟩) ds.length cx) ds.length 24 32 (dgs ds)] [] mixed (same) ?_
        refine ha_takeP 0 rfl (r_move rfl) ?_
        refine ha_takeP 1 rfl (r_move rfl) ?_
        refine ha_takeP 2 rfl (r_idx rfl rfl) ?_
        refine ha_take 3 rfl (r_nthr rfl (out := (ds.getD (ds.length - 1 - k) zB32).cells) (B32.cells_length _) (dgs_at (by omega))) ?_
        refine ha_take 4 rfl (r_loadr rfl) ?_
        refine ha_one 5 ?_
        refine ho_C 5 rfl ((rNode_s (ds.getD (ds.length - 1 - k) zB32) (sumB n (wayP n key ds (preL p.leaf) k))).comes) rfl rfl rfl (fun _ => same) fun ⟨g52, c52⟩ => ?_
        refine ha_takeP 6 rfl (r_assign rfl) ?_
        refine ha_done (by kernel_rfl) ?_
        refine q_then ?_
        dsimp only
        have hsn : SegsOk ((some ⟨g52, 0, none⟩, c52, wayP n key ds (preL p.leaf) (k + 1)) :: (some ⟨gx, 0, none⟩, cx', wayP n key ds (preL p.leaf) k) :: xs') (preLs n key ds (preL p.leaf) (k + 1 + 1)).reverse := ⟨by rw [preLs_succ, List.map_cons, hxs0.1], fun x hx => (List.mem_cons.1 hx).elim (fun e => ⟨g52, by rw [e]⟩) (hxs0.2 x)⟩
        rw [← hw1]
        refine h_reg ?_
        refine h_op (r_move rfl) ?_
        refine h_opX (x_bsl rfl rfl) fun g54 => ?_
        refine h_op (r_move rfl) ?_
        refine h_opX (x_appA (cs := svs ((some ⟨gx, 0, none⟩, cx', wayP n key ds (preL p.leaf) k) :: xs')) rfl rfl (fun h => by cases h) (by rw [svs_len, hxl]; omega) (svs_one _)) fun ⟨A56, c56⟩ => ?_
        refine h_pure (φ := ∃ g, A56 = some ⟨g, 0, none⟩) (fun w s => s.ownSome (N := 1 + (k + 1)) (c := c56) (by omega)) ?_
        rintro ⟨g56, rfl⟩
        change H _ _ _ _ _ (.own _ _ _ _ (svs ((some ⟨g52, 0, none⟩, c52, wayP n key ds (preL p.leaf) (k + 1)) :: (some ⟨gx, 0, none⟩, cx', wayP n key ds (preL p.leaf) k) :: xs')) :: _) _
        rw [Nat.add_comm 1 (k + 1)]
        refine h_op (r_assign rfl) ?_
        refine h_nil ?_
        refine q_block ?_
        refine q_then ?_
        refine h_reg ?_
        refine h_op (r_move rfl) ?_
        refine h_op (r_sub rfl rfl) ?_
        refine h_op (r_assign rfl) ?_
        refine h_nil ?_
        exact h_back (k + 1, g56, c56, (some ⟨g52, 0, none⟩, c52, wayP n key ds (preL p.leaf) (k + 1)) :: (some ⟨gx, 0, none⟩, cx', wayP n key ds (preL p.leaf) k) :: xs') ((show k + 1 ≤ ds.length ∧ SegsOk _ (preLs n key ds (preL p.leaf) (k + 1 + 1)).reverse from ⟨by omega, hsn⟩)) ((show ds.length - (k + 1) < ds.length - k by omega)) ⟨aI rfl (by dsimp only; omega), rfl, rfl, rfl, rfl, trivial⟩ (fun w s => (same (L' := .own (.slice (some ⟨g56, 0, none⟩) (k + 1 + 1) c56) (k + 1 + 1) 36 1 (svs ((some ⟨g52, 0, none⟩, c52, wayP n key ds (preL p.leaf) (k + 1)) :: (some ⟨gx, 0, none⟩, cx', wayP n key ds (preL p.leaf) k) :: xs')) :: .own (.slice (some ⟨gB, 0, none⟩) ds.length cx) ds.length 24 32 (dgs ds) :: .blk g5 key.cells 23 :: .own (.slice (some ⟨g52, 0, none⟩) (wayP n key ds (preL p.leaf) (k + 1)).length c52) (wayP n key ds (preL p.leaf) (k + 1)).length 5 1 (bc (wayP n key ds (preL p.leaf) (k + 1))) :: .own (.slice (some ⟨gx, 0, none⟩) (wayP n key ds (preL p.leaf) k).length cx') (wayP n key ds (preL p.leaf) k).length 5 1 (bc (wayP n key ds (preL p.leaf) k)) :: ownsOf xs') w s))
      · have hw1 : wayP n key ds (preL p.leaf) (k + 1) = preN (sumB n (wayP n key ds (preL p.leaf) k)) (ds.getD (ds.length - 1 - k) zB32) := by rw [wayP, if_neg (by rw [hb]; simp)]
        have hsn : SegsOk ((some ⟨g42, 0, none⟩, c42, wayP n key ds (preL p.leaf) (k + 1)) :: (some ⟨gx, 0, none⟩, cx', wayP n key ds (preL p.leaf) k) :: xs') (preLs n key ds (preL p.leaf) (k + 1 + 1)).reverse := ⟨by rw [preLs_succ, List.map_cons, hxs0.1], fun x hx => (List.mem_cons.1 hx).elim (fun e => ⟨g42, by rw [e]⟩) (hxs0.2 x)⟩
        rw [← hw1]
        refine h_skip ?_
        refine q_then ?_
        refine h_reg ?_
        refine h_op (r_move rfl) ?_
        refine h_opX (x_bsl rfl rfl) fun g54 => ?_
        refine h_op (r_move rfl) ?_
        refine h_opX (x_appA (cs := svs ((some ⟨gx, 0, none⟩, cx', wayP n key ds (preL p.leaf) k) :: xs')) rfl rfl (fun h => by cases h) (by rw [svs_len, hxl]; omega) (svs_one _)) fun ⟨A56, c56⟩ => ?_
        refine h_pure (φ := ∃ g, A56 = some ⟨g, 0, none⟩) (fun w s => s.ownSome (N := 1 + (k + 1)) (c := c56) (by omega)) ?_
        rintro ⟨g56, rfl⟩
        change H _ _ _ _ _ (.own _ _ _ _ (svs ((some ⟨g42, 0, none⟩, c42, wayP n key ds (preL p.leaf) (k + 1)) :: (some ⟨gx, 0, none⟩, cx', wayP n key ds (preL p.leaf) k) :: xs')) :: _) _
        rw [Nat.add_comm 1 (k + 1)]
        refine h_op (r_assign rfl) ?_
        refine h_nil ?_
        refine q_block ?_
        refine q_then ?_
        refine h_reg ?_
        refine h_op (r_move rfl) ?_
        refine h_op (r_sub rfl rfl) ?_
        refine h_op (r_assign rfl) ?_
        refine h_nil ?_
        exact h_back (k + 1, g56, c56, (some ⟨g42, 0, none⟩, c42, wayP n key ds (preL p.leaf) (k + 1)) :: (some ⟨gx, 0, none⟩, cx', wayP n key ds (preL p.leaf) k) :: xs') ((show k + 1 ≤ ds.length ∧ SegsOk _ (preLs n key ds (preL p.leaf) (k + 1 + 1)).reverse from ⟨by omega, hsn⟩)) ((show ds.length - (k + 1) < ds.length - k by omega)) ⟨aI rfl (by dsimp only; omega), rfl, rfl, rfl, rfl, trivial⟩ (fun w s => (same (L' := .own (.slice (some ⟨g56, 0, none⟩) (k + 1 + 1) c56) (k + 1 + 1) 36 1 (svs ((some ⟨g42, 0, none⟩, c42, wayP n key ds (preL p.leaf) (k + 1)) :: (some ⟨gx, 0, none⟩, cx', wayP n key ds (preL p.leaf) k) :: xs')) :: .own (.slice (some ⟨gB, 0, none⟩) ds.length cx) ds.length 24 32 (dgs ds) :: .blk g5 key.cells 23 :: .own (.slice (some ⟨g42, 0, none⟩) (wayP n key ds (preL p.leaf) (k + 1)).length c42) (wayP n key ds (preL p.leaf) (k + 1)).length 5 1 (bc (wayP n key ds (preL p.leaf) (k + 1))) :: .own (.slice (some ⟨gx, 0, none⟩) (wayP n key ds (preL p.leaf) k).length cx') (wayP n key ds (preL p.leaf) k).length 5 1 (bc (wayP n key ds (preL p.leaf) k)) :: ownsOf xs') w s))
    · obtain rfl : k = ds.length := by omega
      refine h_exit ?_
      refine q_thenE ?_
      refine q_thenE ?_
      refine q_blockE ?_
      refine q_then ?_
      refine h_seq ?_
      refine h_reg ?_
      refine h_op (r_move rfl) ?_
      refine h_op (r_assign rfl) ?_
      refine h_nil ?_
      refine q_then ?_
      refine h_ret ?_
      exact h_ret1 rfl rfl fun w s => ⟨⟨(g, c, xs), hxs⟩, rfl, (same w s).res (List.Sublist.refl _) (by intro f hf; simp only [List.mem_cons] at hf; exact hf.elim (fun h => by rw [h]; rfl) (ownsOf_wr xs f))⟩
  · obtain rfl : pre = preE := hpre.symm.trans (if_neg hkd)
    refine h_no rfl (hkd) ?_
    refine h_skip ?_
    refine q_then ?_
    refine h_seq ?_
    refine h_reg ?_
    refine h_op (r_move rfl) ?_
    refine h_opX (x_bsl rfl rfl) fun g24 => ?_
    refine h_op (r_assign rfl) ?_
    refine h_nil ?_
    refine q_then ?_
    refine h_seq ?_
    refine h_seq ?_
    refine h_reg ?_
    refine h_op (r_field rfl) ?_
    refine h_op (r_loadc rfl) ?_
    refine h_op (r_sub rfl rfl) ?_
    refine h_op (r_assign rfl) ?_
    refine h_nil ?_
    refine q_then ?_
    refine h_block ?_
    change H _ _ _ _ _ (.own (.slice (some ⟨g24, 0, none⟩) (0 + 1) 1) (0 + 1) _ _ (svs [(some ⟨g16, 0, none⟩, 1, wayP n key ds preE 0)]) :: .own (.slice (some ⟨g16, 0, none⟩) (wayP n key ds preE 0).length 1) (wayP n key ds preE 0).length _ _ (bc (wayP n key ds preE 0)) :: _) _
    refine h_loop (fun (s : Nat × Nat × Nat × List Seg) => s.1 ≤ ds.length ∧ SegsOk s.2.2.2 (preLs n key ds preE (s.1 + 1)).reverse) (fun (s : Nat × Nat × Nat × List Seg) => [(10, .int .i64 ((ds.length : Int) - 1 - (s.1 : Int))), (9, .slice (some ⟨s.2.1, 0, none⟩) (s.1 + 1) s.2.2.1), (7, .slice Bx ds.length cx), (5, .pointer (some ⟨g5, 0, none⟩)), (0, .int .i64 (n : Int))]) (fun (s : Nat × Nat × Nat × List Seg) => .own (.slice (some ⟨s.2.1, 0, none⟩) (s.1 + 1) s.2.2.1) (s.1 + 1) 36 1 (svs s.2.2.2) :: .own (.slice Bx ds.length cx) ds.length 24 32 (dgs ds) :: .blk g5 key.cells 23 :: ownsOf s.2.2.2) (fun (s : Nat × Nat × Nat × List Seg) => ds.length - s.1) (0, g24, 1, [(some ⟨g16, 0, none⟩, 1, wayP n key ds preE 0)]) ((show 0 ≤ ds.length ∧ SegsOk [(some ⟨g16, 0, none⟩, 1, wayP n key ds preE 0)] (preLs n key ds preE 1).reverse from ⟨Nat.zero_le _, rfl, fun x hx => ⟨g16, by rw [List.mem_singleton.1 hx]⟩⟩)) ⟨aI rfl (by dsimp only; omega), rfl, rfl, rfl, rfl, trivial⟩ (fun w s => (same (L' := [.own (.slice (some ⟨g24, 0, none⟩) (0 + 1) 1) (0 + 1) 36 1 (svs [(some ⟨g16, 0, none⟩, 1, wayP n key ds preE 0)]), .own (.slice Bx ds.length cx) ds.length 24 32 (dgs ds), .blk g5 key.cells 23, .own (.slice (some ⟨g16, 0, none⟩) (wayP n key ds preE 0).length 1) (wayP n key ds preE 0).length 5 1 (bc (wayP n key ds preE 0))]) w s)) ?_
    rintro ⟨k, g, c, xs⟩ ⟨hk, hxs⟩
    dsimp only at hk hxs ⊢
    refine h_seq ?_
    refine h_seq ?_
    refine h_reg ?_
    refine h_op (r_move rfl) ?_
    refine h_op (r_geq rfl rfl) ?_
    refine h_nil ?_
    refine q_then ?_
    refine h_cond rfl (fun h => ?_) (fun h => ?_)
    · have hkd2 : k < ds.length := by omega
      have hxl : xs.length = k + 1 := by rw [hxs.len, List.length_reverse, preLs_len]
      have hxs0 := hxs
      rw [preLs_succ] at hxs
      obtain ⟨gx, cx', xs', rfl, hxs'⟩ := hxs.cons
      refine h_E (E' := [(10, .int .i64 ((ds.length - 1 - k : Nat) : Int)), (9, .slice (some ⟨g, 0, none⟩) (k + 1) c), (7, .slice Bx ds.length cx), (5, .pointer (some ⟨g5, 0, none⟩)), (0, .int .i64 (n : Int))]) ⟨aI rfl (by omega), rfl, rfl, rfl, rfl, trivial⟩ ?_
      refine h_L (L' := .own (.slice (some ⟨g, 0, none⟩) (k + 1) c) (k + 1) 36 1 (svs ((some ⟨gx, 0, none⟩, cx', wayP n key ds preE k) :: xs')) :: .own (.slice Bx ds.length cx) ds.length 24 32 (dgs ds) :: .blk g5 key.cells 23 :: .own (.slice (some ⟨gx, 0, none⟩) (wayP n key ds preE k).length cx') (wayP n key ds preE k).length 5 1 (bc (wayP n key ds preE k)) :: ownsOf xs') (fun _ s => s) ?_
      refine h_pure (φ := ∃ g, Bx = some ⟨g, 0, none⟩) (fun w s => s.ownSome (N := ds.length) (c := cx) (by omega)) ?_
      rintro ⟨gB, rfl⟩
      have hlk := hwl k
      refine h_skip ?_
      refine q_then ?_
      refine h_seq ?_
      refine h_block ?_
      refine h_seq ?_
      refine h_reg ?_
      refine h_op (r_move rfl) ?_
      refine h_op (r_move rfl) ?_
      refine h_op (r_idx rfl rfl) ?_
      refine h_op (r_nth rfl (v := .slice (some ⟨gx, 0, none⟩) (wayP n key ds preE k).length cx') rfl) ?_
      refine h_call ((refSum5_s n hn (wayP n key ds preE k) (some ⟨gx, 0, none⟩) cx' (fun h => by cases h) (by omega)).comes) rfl rfl rfl fun _ => ?_
      refine h_opX (x_alloc) fun g11 => ?_
      refine h_opS (s_storer rfl rfl) ?_
      refine h_nil ?_
      refine q_then ?_
      refine h_seq ?_
      refine ha_start [.blk g11 (sumB n (wayP n key ds preE k)).cells 24, .own (.slice (some ⟨gB, 0, none⟩) ds.length cx) ds.length 24 32 (dgs ds)] [] mixed (same) ?_
      refine ha_take 0 rfl (r_loadr rfl) ?_
      refine ha_takeP 1 rfl (r_move rfl) ?_
      refine ha_takeP 2 rfl (r_move rfl) ?_
      refine ha_takeP 3 rfl (r_idx rfl rfl) ?_
      refine ha_take 4 rfl (r_nthr rfl (out := (ds.getD (ds.length - 1 - k) zB32).cells) (B32.cells_length _) (dgs_at (by omega))) ?_
      refine ha_one 5 ?_
      refine ho_C 5 rfl ((rNode_s (sumB n (wayP n key ds preE k)) (ds.getD (ds.length - 1 - k) zB32)).comes) rfl rfl rfl (fun _ => same) fun ⟨g42, c42⟩ => ?_
      refine ha_takeP 6 rfl (r_assign rfl) ?_
      refine ha_done (by kernel_rfl) ?_
      refine q_then ?_
      dsimp only
      refine h_seq ?_
      refine h_seq ?_
      refine h_reg ?_
      refine h_op (r_loadr rfl) ?_
      refine h_op (r_move rfl) ?_
      refine h_call ((refBit_s key (ds.length - 1 - k) (by omega)).comes) rfl rfl rfl fun _ => ?_
      refine h_op (r_bool (r_eql rfl rfl) (bitN_one key (ds.length - 1 - k))) ?_
      refine h_nil ?_
      refine q_then ?_
      refine h_condB rfl (fun hb => ?_) (fun hb => ?_)
      · have hw1 : wayP n key ds preE (k + 1) = preN (ds.getD (ds.length - 1 - k) zB32) (sumB n (wayP n key ds preE k)) := by rw [wayP, if_pos hb]
        refine ha_start [.blk g11 (sumB n (wayP n key ds preE k)).cells 24, .own (.slice (some ⟨gB, 0, none⟩) ds.length cx) ds.length 24 32 (dgs ds)] [] mixed (same) ?_
        refine ha_takeP 0 rfl (r_move rfl) ?_
        refine ha_takeP 1 rfl (r_move rfl) ?_
        refine ha_takeP 2 rfl (r_idx rfl rfl) ?_
        refine ha_take 3 rfl (r_nthr rfl (out := (ds.getD (ds.length - 1 - k) zB32).cells) (B32.cells_length _) (dgs_at (by omega))) ?_
        refine ha_take 4 rfl (r_loadr rfl) ?_
        refine ha_one 5 ?_
        refine ho_C 5 rfl ((rNode_s (ds.getD (ds.length - 1 - k) zB32) (sumB n (wayP n key ds preE k))).comes) rfl rfl rfl (fun _ => same) fun ⟨g52, c52⟩ => ?_
        refine ha_takeP 6 rfl (r_assign rfl) ?_
        refine ha_done (by kernel_rfl) ?_
        refine q_then ?_
        dsimp only
        have hsn : SegsOk ((some ⟨g52, 0, none⟩, c52, wayP n key ds preE (k + 1)) :: (some ⟨gx, 0, none⟩, cx', wayP n key ds preE k) :: xs') (preLs n key ds preE (k + 1 + 1)).reverse := ⟨by rw [preLs_succ, List.map_cons, hxs0.1], fun x hx => (List.mem_cons.1 hx).elim (fun e => ⟨g52, by rw [e]⟩) (hxs0.2 x)⟩
        rw [← hw1]
        refine h_reg ?_
        refine h_op (r_move rfl) ?_
        refine h_opX (x_bsl rfl rfl) fun g54 => ?_
        refine h_op (r_move rfl) ?_
        refine h_opX (x_appA (cs := svs ((some ⟨gx, 0, none⟩, cx', wayP n key ds preE k) :: xs')) rfl rfl (fun h => by cases h) (by rw [svs_len, hxl]; omega) (svs_one _)) fun ⟨A56, c56⟩ => ?_
        refine h_pure (φ := ∃ g, A56 = some ⟨g, 0, none⟩) (fun w s => s.ownSome (N := 1 + (k + 1)) (c := c56) (by omega)) ?_
        rintro ⟨g56, rfl⟩
        change H _ _ _ _ _ (.own _ _ _ _ (svs ((some ⟨g52, 0, none⟩, c52, wayP n key ds preE (k + 1)) :: (some ⟨gx, 0, none⟩, cx', wayP n key ds preE k) :: xs')) :: _) _
        rw [Nat.add_comm 1 (k + 1)]
        refine h_op (r_assign rfl) ?_
        refine h_nil ?_
        refine q_block ?_
        refine q_then ?_
        refine h_reg ?_
        refine h_op (r_move rfl) ?_
        refine h_op (r_sub rfl rfl) ?_
        refine h_op (r_assign rfl) ?_
        refine h_nil ?_
        exact h_back (k + 1, g56, c56, (some ⟨g52, 0, none⟩, c52, wayP n key ds preE (k + 1)) :: (some ⟨gx, 0, none⟩, cx', wayP n key ds preE k) :: xs') ((show k + 1 ≤ ds.length ∧ SegsOk _ (preLs n key ds preE (k + 1 + 1)).reverse from ⟨by omega, hsn⟩)) ((show ds.length - (k + 1) < ds.length - k by omega)) ⟨aI rfl (by dsimp only; omega), rfl, rfl, rfl, rfl, trivial⟩ (fun w s => (same (L' := .own (.slice (some ⟨g56, 0, none⟩) (k + 1 + 1) c56) (k + 1 + 1) 36 1 (svs ((some ⟨g52, 0, none⟩, c52, wayP n key ds preE (k + 1)) :: (some ⟨gx, 0, none⟩, cx', wayP n key ds preE k) :: xs')) :: .own (.slice (some ⟨gB, 0, none⟩) ds.length cx) ds.length 24 32 (dgs ds) :: .blk g5 key.cells 23 :: .own (.slice (some ⟨g52, 0, none⟩) (wayP n key ds preE (k + 1)).length c52) (wayP n key ds preE (k + 1)).length 5 1 (bc (wayP n key ds preE (k + 1))) :: .own (.slice (some ⟨gx, 0, none⟩) (wayP n key ds preE k).length cx') (wayP n key ds preE k).length 5 1 (bc (wayP n key ds preE k)) :: ownsOf xs') w s))
      · have hw1 : wayP n key ds preE (k + 1) = preN (sumB n (wayP n key ds preE k)) (ds.getD (ds.length - 1 - k) zB32) := by rw [wayP, if_neg (by rw [hb]; simp)]
        have hsn : SegsOk ((some ⟨g42, 0, none⟩, c42, wayP n key ds preE (k + 1)) :: (some ⟨gx, 0, none⟩, cx', wayP n key ds preE k) :: xs') (preLs n key ds preE (k + 1 + 1)).reverse := ⟨by rw [preLs_succ, List.map_cons, hxs0.1], fun x hx => (List.mem_cons.1 hx).elim (fun e => ⟨g42, by rw [e]⟩) (hxs0.2 x)⟩
        rw [← hw1]
        refine h_skip ?_
        refine q_then ?_
        refine h_reg ?_
        refine h_op (r_move rfl) ?_
        refine h_opX (x_bsl rfl rfl) fun g54 => ?_
        refine h_op (r_move rfl) ?_
        refine h_opX (x_appA (cs := svs ((some ⟨gx, 0, none⟩, cx', wayP n key ds preE k) :: xs')) rfl rfl (fun h => by cases h) (by rw [svs_len, hxl]; omega) (svs_one _)) fun ⟨A56, c56⟩ => ?_
        refine h_pure (φ := ∃ g, A56 = some ⟨g, 0, none⟩) (fun w s => s.ownSome (N := 1 + (k + 1)) (c := c56) (by omega)) ?_
        rintro ⟨g56, rfl⟩
        change H _ _ _ _ _ (.own _ _ _ _ (svs ((some ⟨g42, 0, none⟩, c42, wayP n key ds preE (k + 1)) :: (some ⟨gx, 0, none⟩, cx', wayP n key ds preE k) :: xs')) :: _) _
        rw [Nat.add_comm 1 (k + 1)]
        refine h_op (r_assign rfl) ?_
        refine h_nil ?_
        refine q_block ?_
        refine q_then ?_
        refine h_reg ?_
        refine h_op (r_move rfl) ?_
        refine h_op (r_sub rfl rfl) ?_
        refine h_op (r_assign rfl) ?_
        refine h_nil ?_
        exact h_back (k + 1, g56, c56, (some ⟨g42, 0, none⟩, c42, wayP n key ds preE (k + 1)) :: (some ⟨gx, 0, none⟩, cx', wayP n key ds preE k) :: xs') ((show k + 1 ≤ ds.length ∧ SegsOk _ (preLs n key ds preE (k + 1 + 1)).reverse from ⟨by omega, hsn⟩)) ((show ds.length - (k + 1) < ds.length - k by omega)) ⟨aI rfl (by dsimp only; omega), rfl, rfl, rfl, rfl, trivial⟩ (fun w s => (same (L' := .own (.slice (some ⟨g56, 0, none⟩) (k + 1 + 1) c56) (k + 1 + 1) 36 1 (svs ((some ⟨g42, 0, none⟩, c42, wayP n key ds preE (k + 1)) :: (some ⟨gx, 0, none⟩, cx', wayP n key ds preE k) :: xs')) :: .own (.slice (some ⟨gB, 0, none⟩) ds.length cx) ds.length 24 32 (dgs ds) :: .blk g5 key.cells 23 :: .own (.slice (some ⟨g42, 0, none⟩) (wayP n key ds preE (k + 1)).length c42) (wayP n key ds preE (k + 1)).length 5 1 (bc (wayP n key ds preE (k + 1))) :: .own (.slice (some ⟨gx, 0, none⟩) (wayP n key ds preE k).length cx') (wayP n key ds preE k).length 5 1 (bc (wayP n key ds preE k)) :: ownsOf xs') w s))
    · obtain rfl : k = ds.length := by omega
      refine h_exit ?_
      refine q_thenE ?_
      refine q_thenE ?_
      refine q_blockE ?_
      refine q_then ?_
      refine h_seq ?_
      refine h_reg ?_
      refine h_op (r_move rfl) ?_
      refine h_op (r_assign rfl) ?_
      refine h_nil ?_
      refine q_then ?_
      refine h_ret ?_
      exact h_ret1 rfl rfl fun w s => ⟨⟨(g, c, xs), hxs⟩, rfl, (same w s).res (List.Sublist.refl _) (by intro f hf; simp only [List.mem_cons] at hf; exact hf.elim (fun h => by rw [h]; rfl) (ownsOf_wr xs f))⟩
end Go.Proofs.YtfjlpndohnianaaDoor
