/- fold.ways: what it yields; fold.Steps, fold.Root; Booleans compared; small laws; Shifts by eight; a slice's first cells as an array; verify: the small steps, supports, leads; codec: Size, Kind, Encode of a proof that is well-formed; codec.Encode of a proof that is well-formed; codec.Decode of the bytes of a proof that is well-formed; codec.Decode of the bytes of a proof that is well-formed (joined texts: U19 U20 N12 N13 U90 U56 U57 U58 U59) -/
import Derived.Test.YtgfkbeipckbkiaaGreatDoorY10
set_option linter.all false
/- U19 -/
namespace Go.Proofs.YtgfkbeipckbkiaaGreatDoor
set_option linter.unusedSimpArgs false
set_option linter.unusedVariables false
open Go.RowKit
/-- the preimages along the way, from the end on -/
def wayP (n : Nat) (key : B32) (ds : List B32) (pre : List UInt8) : Nat → List UInt8
  | 0 => pre
  | k + 1 => if bitAt key (ds.length - 1 - k) then preN (ds.getD (ds.length - 1 - k) zB32) (sumB n (wayP n key ds pre k)) else preN (sumB n (wayP n key ds pre k)) (ds.getD (ds.length - 1 - k) zB32)
theorem wayP_len (n : Nat) (key : B32) (ds : List B32) (pre : List UInt8) (h : pre.length ≤ 65) : ∀ k, (wayP n key ds pre k).length ≤ 65
  | 0 => h
  | k + 1 => by
    rw [wayP]
    split <;> rw [preN_len] <;> exact Nat.le_refl _
theorem Bit_y (b : B32) (i : Nat) (hi : i < 256) (h : bitAt b i = true) : Spec Tryz.prog 71 [.agg b.cells.toArray, .int .i64 (i : Int)].toArray [] [] (fun _ : Unit => .int .i64 1) (fun _ => []) := by
  have := Bit_s b i hi
  rwa [show bitN b i = 1 by unfold bitN; rw [h]; rfl] at this
theorem Bit_n (b : B32) (i : Nat) (hi : i < 256) (h : ¬ bitAt b i = true) : Spec Tryz.prog 71 [.agg b.cells.toArray, .int .i64 (i : Int)].toArray [] [] (fun _ : Unit => .int .i64 0) (fun _ => []) := by
  have := Bit_s b i hi
  rwa [show bitN b i = 0 by unfold bitN; rw [if_neg h]] at this
instance (a b : B32) : Row (a.cells ++ b.cells) 64 := ⟨by rw [List.length_append, B32.cells_length, B32.cells_length], fun v hv => (List.mem_append.1 hv).elim (B32.cells_one a v) (B32.cells_one b v)⟩
instance (a b c : B32) : SetAt (a.cells ++ b.cells) 0 c.cells (c.cells ++ b.cells) := ⟨by rw [List.take_zero, List.nil_append, Nat.zero_add, B32.cells_length, List.drop_append, List.drop_of_length_le (by rw [B32.cells_length]; exact Nat.le_refl _), B32.cells_length, Nat.sub_self, List.drop_zero, List.nil_append], by simp [B32.cells_length]⟩
instance (a b c : B32) : SetAt (a.cells ++ b.cells) 32 c.cells (a.cells ++ c.cells) := ⟨by rw [List.take_append_of_le_length (by rw [B32.cells_length]; exact Nat.le_refl _), List.take_of_length_le (by rw [B32.cells_length]; exact Nat.le_refl _), List.drop_of_length_le (by simp [B32.cells_length]), List.append_nil], by simp [B32.cells_length]⟩
instance (a b : B32) : RowAt (a.cells ++ b.cells) 0 32 a.cells := ⟨fun j v hv => by rw [Nat.zero_add, List.getElem?_append_left (List.getElem?_eq_some_iff.1 hv).1]; exact hv, B32.cells_length a⟩
instance (a b : B32) : RowAt (a.cells ++ b.cells) 32 32 b.cells := ⟨fun j v hv => by rw [List.getElem?_append_right (by rw [B32.cells_length]; omega), B32.cells_length, Nat.add_sub_cancel_left]; exact hv, B32.cells_length b⟩
instance : TZ Tryz.prog 137 (zB32.cells ++ zB32.cells) := ⟨⟨.agg (zB32.cells ++ zB32.cells).toArray, by kernel_rfl, rfl⟩⟩
instance : TB Tryz.prog 137 (zB32.cells ++ zB32.cells) (plArr 32) := ⟨fun w ps cells h => run_build_array Tryz.underlying137 (z := (zB32.cells ++ zB32.cells).toArray) (n := 64) (by kernel_rfl) (s := 32) (by kernel_rfl) h⟩
/-! tails -/
class TakeTl (m L : List Fa) (M : outParam (List Fa)) : Prop where
  perm : L.Perm (m ++ M)
instance (m R : List Fa) : TakeTl m (m ++ R) R := ⟨List.Perm.refl _⟩
instance (priority := 100) (m : List Fa) (f : Fa) (L M : List Fa) [h : TakeTl m L M] : TakeTl m (f :: L) (f :: M) := ⟨(h.perm.cons f).trans List.perm_middle.symm⟩
instance (priority := 5) (m L M : List Fa) [h : TakeTl m L M] : Take m L M := ⟨h.perm⟩
class RmOk (Rm : List Fa) : Prop where
  ok : ∀ r ∈ Rm, r.wr = false
instance (Rm : List Fa) [h : RmOk Rm] : Rds Rm Rm := ⟨fun hw r hr => ⟨h.ok r hr, hw.ok r hr, fun k hk => ⟨r, hr, hk⟩⟩⟩
instance (priority := 5) (Rm : List Fa) (f : Fa) (L : List Fa) [RmOk Rm] [h : Rds L Rm] : Rds (f :: L) Rm := ⟨fun hw r hr => by
  obtain ⟨h1, h2, h3⟩ := h.ok hw.tail r hr
  exact ⟨h1, h2, fun k hk => let ⟨g, hg, hgk⟩ := h3 k hk; ⟨g, List.mem_cons_of_mem _ hg, hgk⟩⟩⟩
theorem Sx.mid {A : List Fa} {W w : World} {pre m l R : List Fa} (s : Sx A W w (pre ++ (m ++ (l ++ R)))) : Sx A W w (pre ++ (l ++ (m ++ R))) := s.perm (List.Perm.append_left _ (by
  rw [← List.append_assoc, ← List.append_assoc]
  exact List.Perm.append_right _ List.perm_append_comm))
/-- what the walk has at round k -/
def wayF (n : Nat) (key : B32) (ds : List B32) (pre : List UInt8) (gc k0 g6 g7 k : Nat) (m : List Fa) (u : Nat × Nat) : List Fa :=
  .blk g6 [.slice (some ⟨u.1, 0, none⟩) (wayP n key ds pre k).length u.2] 66 :: .blk g7 (sumB n (wayP n key ds pre k)).cells 41 :: .own (.slice (some ⟨u.1, 0, none⟩) (wayP n key ds pre k).length u.2) (wayP n key ds pre k).length 5 1 (bc (wayP n key ds pre k)) :: .blk gc [.int .i64 ((k0 + k + 1 : Nat) : Int)] 187 :: m
theorem wayF_wr {n : Nat} {key : B32} {ds : List B32} {pre : List UInt8} {gc k0 g6 g7 k : Nat} {m : List Fa} {u : Nat × Nat} (h : ∀ f ∈ m, f.wr = true) : ∀ f ∈ wayF n key ds pre gc k0 g6 g7 k m u, f.wr = true := by
  intro f hf
  unfold wayF at hf
  simp only [List.mem_cons] at hf
  rcases hf with rfl | rfl | rfl | rfl | hf
  · rfl
  · rfl
  · rfl
  · rfl
  · exact h f hf
theorem ways_it (p : Proof) (n : Nat) (hn : n ≤ 256) (key : B32) (ds : List B32) (hds : ds.length ≤ 256) (gh gc k0 b o c a1 a2 a3 a4 : Nat) (hk0 : k0 ≤ 900000000000) : IterG Tryz.prog 190 [.pointer (some ⟨a1, 0, none⟩), .pointer (some ⟨a2, 0, none⟩), .pointer (some ⟨a3, 0, none⟩), .pointer (some ⟨a4, 0, none⟩)] [.rd (some ⟨a1, 0, none⟩) p.cells, .rd (some ⟨a2, 0, none⟩) [.pointer (some ⟨gh, 0, none⟩)], .rd (some ⟨a3, 0, none⟩) [.slice (some ⟨b, o, none⟩) ds.length c], .rd (some ⟨a4, 0, none⟩) key.cells, .rd (some ⟨gh, 0, none⟩) [.pointer (some ⟨gc, 0, none⟩), .int .i64 (n : Int)], .rd (some ⟨b, o, none⟩) (dgs ds), .rd (some ⟨2, 0, none⟩) hashT] [.blk gc [.int .i64 (k0 : Int)] 187] (ds.length + 1)
    (fun k (u : Nat × Nat) => [.slice (some ⟨u.1, 0, none⟩) (wayP n key ds (endP p) k).length u.2, .agg (sumB n (wayP n key ds (endP p) k)).cells.toArray])
    (fun k (u : Nat × Nat) => [.own (.slice (some ⟨u.1, 0, none⟩) (wayP n key ds (endP p) k).length u.2) (wayP n key ds (endP p) k).length 5 1 (bc (wayP n key ds (endP p) k))])
    [.blk gc [.int .i64 ((k0 + ds.length + 1 : Nat) : Int)] 187] := by
  have hel := endP_len p
  have hE := end_s p
  generalize hpre : endP p = pre at *
  have hwl := wayP_len n key ds pre hel
  refine iter_ofG Tryz.func190 rfl (n := 45) rfl rfl ?_
  intro l J Rm m0 W hJw hRm hy h0
  have hRI : RmOk Rm := ⟨hRm⟩
  refine h_seq ?_
  refine h_reg ?_
  refine h_opX (x_box1 rfl) fun g5 => ?_
  refine h_nil ?_
  refine q_then ?_
  refine h_seq ?_
  refine h_reg ?_
  refine h_op (r_loadr rfl) ?_
  refine h_call (hE.comes) rfl rfl rfl fun ⟨gP, cP⟩ => ?_
  dsimp only
  refine h_opX (x_alloc) fun g6 => ?_
  refine h_opS (s_store rfl rfl rfl) ?_
  refine h_nil ?_
  refine q_then ?_
  refine h_seq ?_
  refine h_reg ?_
  refine h_op (r_loadc rfl) ?_
  refine h_op (r_loadc rfl) ?_
  refine h_call ((HSum_s n hn gh gc k0 (by omega) pre (some ⟨gP, 0, none⟩) cP (fun h => by cases h) (by omega)).comes) rfl rfl rfl fun _ => ?_
  refine h_opX (x_alloc) fun g7 => ?_
  refine h_opS (s_storer rfl rfl) ?_
  refine h_nil ?_
  refine q_then ?_
  refine h_seq ?_
  refine h_seq ?_
  refine h_reg ?_
  refine h_op (r_loadc rfl) ?_
  refine h_call ((Backward_s (some ⟨b, o, none⟩) ds.length c).comes) rfl rfl rfl fun g17 => ?_
  refine h_nil ?_
  refine q_then ?_
  refine h_block ?_
  change H _ _ _ _ _ (_ :: .blk g7 (sumB n (wayP n key ds pre 0)).cells _ :: .blk gc [.int .i64 ((k0 + 0 + 1 : Nat) : Int)] _ :: .blk g6 [.slice (some ⟨gP, 0, none⟩) (wayP n key ds pre 0).length cP] _ :: .own (.slice (some ⟨gP, 0, none⟩) (wayP n key ds pre 0).length cP) (wayP n key ds pre 0).length _ _ (bc (wayP n key ds pre 0)) :: _) _
  refine h_rangeG (Backward_it ds b o c g17 (by omega)) rfl (fun k mm => ∃ (u : Nat × Nat) (m1 : List Fa), mm = wayF n key ds pre gc k0 g6 g7 k m1 u ∧ J k m1) (.blk g6 [.slice (some ⟨gP, 0, none⟩) (wayP n key ds pre 0).length cP] 66 :: .blk g7 (sumB n (wayP n key ds pre 0)).cells 41 :: .own (.slice (some ⟨gP, 0, none⟩) (wayP n key ds pre 0).length cP) (wayP n key ds pre 0).length 5 1 (bc (wayP n key ds pre 0)) :: .blk gc [.int .i64 ((k0 + 0 + 1 : Nat) : Int)] 187 :: m0) (.rd (some ⟨g5, 0, none⟩) [.func (.yield l) #[] #[]] :: .rd (some ⟨a2, 0, none⟩) [.pointer (some ⟨gh, 0, none⟩)] :: .rd (some ⟨a4, 0, none⟩) key.cells :: .rd (some ⟨gh, 0, none⟩) [.pointer (some ⟨gc, 0, none⟩), .int .i64 (n : Int)] :: .rd (some ⟨2, 0, none⟩) hashT :: Rm) (by rintro k mm ⟨u, m1, rfl, hJ⟩; exact wayF_wr (hJw _ _ hJ)) ⟨(gP, cP), m0, rfl, h0⟩ rfl (fun _ _ => rfl) ?_ ?_
  · intro ll rr k _ mm W1 hr hrp hkN hJ2
    obtain ⟨⟨g, c'⟩, m1, rfl, hJ⟩ := hJ2
    unfold wayF
    simp only [List.nil_append, List.cons_append]
    refine h_L (fun w s => Sx.mid (pre := [_, _, _, _, _]) (m := m1) (l := [.rd (some ⟨g5, 0, none⟩) [.func (.yield l) #[] #[]], .rd (some ⟨a2, 0, none⟩) [.pointer (some ⟨gh, 0, none⟩)], .rd (some ⟨a4, 0, none⟩) key.cells, .rd (some ⟨gh, 0, none⟩) [.pointer (some ⟨gc, 0, none⟩), .int .i64 (n : Int)], .rd (some ⟨2, 0, none⟩) hashT]) (R := Rm) s) ?_
    simp only [List.nil_append, List.cons_append]
    refine h_seq ?_
    refine h_reg ?_
    refine h_op (r_assign rfl) ?_
    refine h_nil ?_
    refine q_then ?_
    refine h_reg ?_
    refine h_opX (x_alloc) fun g9 => ?_
    refine h_opS (s_storer rfl rfl) ?_
    refine h_nil ?_
    refine q_then ?_
    refine h_begin hr ?_
    refine h_block ?_
    refine h_seq ?_
    refine h_seq ?_
    refine h_reg ?_
    refine h_op (r_loadc rfl) ?_
    refine h_op (r_loadc rfl) ?_
    refine h_op (r_loadr rfl) ?_
    refine h_yield (hy k (g, c') m1 (by omega) hJ) hRm rfl rfl fun m' hJ' => ?_
    refine h_op (r_not rfl) ?_
    refine h_nil ?_
    refine q_then ?_
    refine h_condF rfl ?_
    refine h_skip ?_
    refine q_then ?_
    refine h_seq ?_
    refine h_reg ?_
    refine h_op (r_loadr rfl) ?_
    refine h_op (r_loadr rfl) ?_
    refine h_op (r_build rfl) ?_
    refine h_opX (x_alloc) fun g10 => ?_
    refine h_opS (s_storer rfl rfl) ?_
    refine h_nil ?_
    refine q_then ?_
    refine h_seq ?_
    have hwr2 : ∀ (g37 c37 : Nat), ∀ f ∈ (.blk g6 [.slice (some ⟨g37, 0, none⟩) (wayP n key ds pre (k + 1)).length c37] 66 :: .blk g7 (sumB n (wayP n key ds pre (k + 1))).cells 41 :: .own (.slice (some ⟨g37, 0, none⟩) (wayP n key ds pre (k + 1)).length c37) (wayP n key ds pre (k + 1)).length 5 1 (bc (wayP n key ds pre (k + 1))) :: .blk gc [.int .i64 ((k0 + k + 1 + 1 : Nat) : Int)] 187 :: m'), f.wr = true := fun g37 c37 f hf => by
      simp only [List.mem_cons] at hf
      rcases hf with rfl | rfl | rfl | rfl | hf
      · rfl
      · rfl
      · rfl
      · rfl
      · exact hJw _ _ hJ' f hf
    by_cases hb : bitAt key (ds.length - 1 - k) = true
    · have hw1 : wayP n key ds pre (k + 1) = preN (ds.getD (ds.length - 1 - k) zB32) (sumB n (wayP n key ds pre k)) := by rw [wayP, if_pos hb]
      refine ha_start [.rd (some ⟨a4, 0, none⟩) key.cells, .blk g7 (sumB n (wayP n key ds pre k)).cells 41] [] mixed (same) ?_
      refine ha_take 0 rfl (r_loadr rfl) ?_
      refine ha_takeP 1 rfl (r_move rfl) ?_
      refine ha_take 3 rfl (r_loadr rfl) ?_
      refine ha_one 2 ?_
      refine ho_C 2 rfl ((Bit_y key (ds.length - 1 - k) (by omega) hb).comes) rfl rfl rfl (fun xx => same) fun _ => ?_
      refine ha_takeP 4 rfl (r_idxA rfl rfl) ?_
      refine ha_one 5 ?_
      refine ho_SL 5 rfl (s_storer rfl rfl) ?_
      refine q_then ?_
      refine h_seq ?_
      refine h_reg ?_
      refine h_op (r_idxA rfl rfl) ?_
      refine h_op (r_loadr rfl) ?_
      refine h_op (r_idxA rfl rfl) ?_
      refine h_op (r_loadr rfl) ?_
      refine h_call ((pNode_s (ds.getD (ds.length - 1 - k) zB32) (sumB n (wayP n key ds pre k))).comes) rfl rfl rfl fun ⟨g37, c37⟩ => ?_
      dsimp only
      rw [← hw1]
      have hl1 := hwl (k + 1)
      refine h_opS (s_store rfl rfl rfl) ?_
      refine h_nil ?_
      refine q_then ?_
      refine h_reg ?_
      refine h_op (r_loadc rfl) ?_
      refine h_op (r_loadc rfl) ?_
      refine h_call ((HSum_s n hn gh gc (k0 + k + 1) (by omega) (wayP n key ds pre (k + 1)) (some ⟨g37, 0, none⟩) c37 (fun h => by cases h) (by omega)).comes) rfl rfl rfl fun _ => ?_
      refine h_opS (s_storer rfl rfl) ?_
      refine h_nil ?_
      refine q_block ?_
      exact h_endround (.blk g6 [.slice (some ⟨g37, 0, none⟩) (wayP n key ds pre (k + 1)).length c37] 66 :: .blk g7 (sumB n (wayP n key ds pre (k + 1))).cells 41 :: .own (.slice (some ⟨g37, 0, none⟩) (wayP n key ds pre (k + 1)).length c37) (wayP n key ds pre (k + 1)).length 5 1 (bc (wayP n key ds pre (k + 1))) :: .blk gc [.int .i64 ((k0 + k + 1 + 1 : Nat) : Int)] 187 :: m') hr hrp ⟨(g37, c37), m', by rw [show k0 + (k + 1) + 1 = k0 + k + 1 + 1 by omega], hJ'⟩ (hwr2 g37 c37)
    · have hw1 : wayP n key ds pre (k + 1) = preN (sumB n (wayP n key ds pre k)) (ds.getD (ds.length - 1 - k) zB32) := by rw [wayP, if_neg hb]
      refine ha_start [.rd (some ⟨a4, 0, none⟩) key.cells, .blk g7 (sumB n (wayP n key ds pre k)).cells 41] [] mixed (same) ?_
      refine ha_take 0 rfl (r_loadr rfl) ?_
      refine ha_takeP 1 rfl (r_move rfl) ?_
      refine ha_take 3 rfl (r_loadr rfl) ?_
      refine ha_one 2 ?_
      refine ho_C 2 rfl ((Bit_n key (ds.length - 1 - k) (by omega) hb).comes) rfl rfl rfl (fun xx => same) fun _ => ?_
      refine ha_takeP 4 rfl (r_idxA rfl rfl) ?_
      refine ha_one 5 ?_
      refine ho_SL 5 rfl (s_storer rfl rfl) ?_
      refine q_then ?_
      refine h_seq ?_
      refine h_reg ?_
      refine h_op (r_idxA rfl rfl) ?_
      refine h_op (r_loadr rfl) ?_
      refine h_op (r_idxA rfl rfl) ?_
      refine h_op (r_loadr rfl) ?_
      refine h_call ((pNode_s (sumB n (wayP n key ds pre k)) (ds.getD (ds.length - 1 - k) zB32)).comes) rfl rfl rfl fun ⟨g37, c37⟩ => ?_
      dsimp only
      rw [← hw1]
      have hl1 := hwl (k + 1)
      refine h_opS (s_store rfl rfl rfl) ?_
      refine h_nil ?_
      refine q_then ?_
      refine h_reg ?_
      refine h_op (r_loadc rfl) ?_
      refine h_op (r_loadc rfl) ?_
      refine h_call ((HSum_s n hn gh gc (k0 + k + 1) (by omega) (wayP n key ds pre (k + 1)) (some ⟨g37, 0, none⟩) c37 (fun h => by cases h) (by omega)).comes) rfl rfl rfl fun _ => ?_
      refine h_opS (s_storer rfl rfl) ?_
      refine h_nil ?_
      refine q_block ?_
      exact h_endround (.blk g6 [.slice (some ⟨g37, 0, none⟩) (wayP n key ds pre (k + 1)).length c37] 66 :: .blk g7 (sumB n (wayP n key ds pre (k + 1))).cells 41 :: .own (.slice (some ⟨g37, 0, none⟩) (wayP n key ds pre (k + 1)).length c37) (wayP n key ds pre (k + 1)).length 5 1 (bc (wayP n key ds pre (k + 1))) :: .blk gc [.int .i64 ((k0 + k + 1 + 1 : Nat) : Int)] 187 :: m') hr hrp ⟨(g37, c37), m', by rw [show k0 + (k + 1) + 1 = k0 + k + 1 + 1 by omega], hJ'⟩ (hwr2 g37 c37)
  · intro bb mm hJ2
    obtain ⟨⟨g, c'⟩, m1, rfl, hJ⟩ := hJ2
    unfold wayF
    refine q_block ?_
    refine q_then ?_
    simp only [List.nil_append, List.cons_append]
    refine h_L (fun w s => Sx.mid (pre := [_, _, _, _]) (m := m1) (l := [.obj bb (.deferred (some [])), .blk g17 [.slice (some ⟨b, o, none⟩) ds.length c] 85, .blk g5 [.func (.yield l) #[] #[]] 284, .rd (some ⟨a1, 0, none⟩) p.cells, .rd (some ⟨a2, 0, none⟩) [.pointer (some ⟨gh, 0, none⟩)], .rd (some ⟨a3, 0, none⟩) [.slice (some ⟨b, o, none⟩) ds.length c], .rd (some ⟨a4, 0, none⟩) key.cells, .rd (some ⟨gh, 0, none⟩) [.pointer (some ⟨gc, 0, none⟩), .int .i64 (n : Int)], .rd (some ⟨b, o, none⟩) (dgs ds), .rd (some ⟨2, 0, none⟩) hashT]) (R := Rm) s) ?_
    simp only [List.nil_append, List.cons_append]
    refine h_reg ?_
    refine h_op (r_loadc rfl) ?_
    refine h_op (r_loadc rfl) ?_
    refine h_op (r_loadr rfl) ?_
    refine h_yield (hy ds.length (g, c') m1 (by omega) hJ) hRm rfl rfl fun m' hJ' => ?_
    refine h_nil ?_
    refine h_end ?_
    refine h_mark ?_
    exact h_ret0 rfl fun w s => ⟨_, m', rfl, hJ', (same w s).res (List.Sublist.refl _) (by intro f hf; simp only [List.mem_cons, List.cons_append, List.nil_append] at hf; exact hf.elim (fun h => by rw [h]; rfl) (hJw _ _ hJ' f))⟩
end Go.Proofs.YtgfkbeipckbkiaaGreatDoor
/- U20 -/
namespace Go.Proofs.YtgfkbeipckbkiaaGreatDoor
set_option linter.unusedSimpArgs false
set_option linter.unusedVariables false
open Go.RowKit
def stepL (n : Nat) (key : B32) (ds : List B32) (pre : List UInt8) (N : Nat) : List B32 := (List.range N).map fun k => sumB n (wayP n key ds pre k)
theorem stepL_len (n : Nat) (key : B32) (ds : List B32) (pre : List UInt8) (N : Nat) : (stepL n key ds pre N).length = N := by simp [stepL]
theorem stepL_succ (n : Nat) (key : B32) (ds : List B32) (pre : List UInt8) (N : Nat) : dgs (stepL n key ds pre N) ++ (sumB n (wayP n key ds pre N)).cells = dgs (stepL n key ds pre (N + 1)) := by
  unfold stepL
  rw [List.range_succ, List.map_append, dgs_append]
  simp [dgs]
theorem Steps_s (p : Proof) (hc : checkP p = 0) (ss : List B32) (hs : p.sibs.n = ss.length) (key : B32) (n : Nat) (hn : n ≤ 256) (gh gc k0 : Nat) (hk : k0 ≤ 800000000000) (d : Nat) (hd : p.depth = (d : Int)) : Spec Tryz.prog 167 [.pointer (some ⟨gh, 0, none⟩), .agg p.cells.toArray, .agg key.cells.toArray].toArray [.rd (some ⟨gh, 0, none⟩) [.pointer (some ⟨gc, 0, none⟩), .int .i64 (n : Int)], .rd p.sibs.A (dgs ss), .rd (some ⟨2, 0, none⟩) hashT] [.blk gc [.int .i64 (k0 : Int)] 187] (fun u : Nat × Nat => .tuple #[.slice (some ⟨u.1, 0, none⟩) (d + 1) u.2, .int .i64 0]) (fun u => [.own (.slice (some ⟨u.1, 0, none⟩) (d + 1) u.2) (d + 1) 41 32 (dgs (stepL n key (expL (sumB n preE) p.bitmap ss d) (endP p) (d + 1))), .blk gc [.int .i64 ((k0 + 1 + d + 1 : Nat) : Int)] 187]) := by
  have hd2 := ok_depth hc
  have hE := Expand_s p hc ss hs n hn gh gc k0 (by omega) d hd
  have hlen := expL_len (sumB n preE) p.bitmap ss d
  generalize expL (sumB n preE) p.bitmap ss d = ds at *
  subst hlen
  have hds : ds.length ≤ 256 := by omega
  refine spec_of Tryz.func167 rfl (n := 34) rfl rfl ?_
  intro W
  refine h_seq ?_
  refine h_reg ?_
  refine h_opX (x_box rfl) fun g4 => ?_
  refine h_opX (x_box rfl) fun g5 => ?_
  refine h_op (r_assign rfl) ?_
  refine h_op (r_assign rfl) ?_
  refine h_nil ?_
  refine q_then ?_
  refine h_seq ?_
  refine h_reg ?_
  refine h_op (r_move rfl) ?_
  refine h_op (r_loadr rfl) ?_
  refine h_call (hE.comes) rfl rfl rfl fun g15 => ?_
  refine h_op (r_move rfl) ?_
  refine h_op (r_extract rfl rfl) ?_
  refine h_op (r_extract rfl rfl) ?_
  refine h_op (r_assign rfl) ?_
  refine h_op (r_assign rfl) ?_
  refine h_nil ?_
  refine q_then ?_
  refine h_seq ?_
  refine h_seq ?_
  refine h_reg ?_
  refine h_op (r_move rfl) ?_
  refine h_op (r_neq rfl rfl) ?_
  refine h_nil ?_
  refine q_then ?_
  refine h_no rfl ((fun h => h rfl)) ?_
  refine h_skip ?_
  refine q_then ?_
  refine h_seq ?_
  refine h_reg ?_
  refine h_opX (x_alloc) fun g10 => ?_
  refine h_nil ?_
  refine q_then ?_
  refine h_seq ?_
  refine h_seq ?_
  refine h_reg ?_
  refine h_op (r_move rfl) ?_
  refine h_op (r_loadr rfl) ?_
  refine h_op (r_move rfl) ?_
  refine h_op (r_loadr rfl) ?_
  refine h_call ((ways_s (.pointer (some ⟨gh, 0, none⟩)) p (some ⟨g15, 0, none⟩) ds.length ds.length key rfl).comes) rfl rfl rfl fun ⟨a2, a1, a3, a4⟩ => ?_
  dsimp only
  refine h_nil_own 41 32 (xs := dgs (stepL n key ds (endP p) 0)) rfl ?_
  refine h_nil ?_
  refine q_then ?_
  refine h_block ?_
  refine h_rangeG (ways_it p n hn key ds hds gh gc (k0 + 1) g15 0 ds.length a2 a1 a3 a4 (by omega)) rfl (fun k mm => ∃ v : Option Addr × Nat, mm = [.blk g10 [.slice v.1 k v.2] 85, .own (.slice v.1 k v.2) k 41 32 (dgs (stepL n key ds (endP p) k))]) [.blk g10 [.slice none 0 0] 85, .own (.slice none 0 0) 0 41 32 (dgs (stepL n key ds (endP p) 0))] [] (by rintro k mm ⟨v, rfl⟩ f hf; simp only [List.mem_cons, List.not_mem_nil, or_false] at hf; exact hf.elim (fun h => by rw [h]; rfl) (fun h => by rw [h]; rfl)) ⟨(none, 0), rfl⟩ rfl (fun _ _ => rfl) ?_ ?_
  · intro ll rr k u mm W1 hr hrp hkN hJ2
    obtain ⟨⟨B, c'⟩, rfl⟩ := hJ2
    dsimp only
    simp only [List.nil_append, List.cons_append]
    have hst := stepL_succ n key ds (endP p) k
    refine h_reg ?_
    refine h_opX (x_alloc) fun g12 => ?_
    refine h_opS (s_storer rfl rfl) ?_
    refine h_nil ?_
    refine q_then ?_
    refine h_begin hr ?_
    refine h_block ?_
    refine h_reg ?_
    refine h_op (r_loadc rfl) ?_
    refine h_op (r_loadr rfl) ?_
    refine h_opX (x_bsl rfl rfl) fun g31 => ?_
    refine h_opX (x_app rfl rfl (k := 32)) fun ⟨g32, c32⟩ => ?_
    refine h_opS (s_store rfl rfl rfl) ?_
    refine h_nil ?_
    refine q_block ?_
    rw [hst]
    exact h_endround [.blk g10 [.slice (some ⟨g32, 0, none⟩) (k + 1) c32] 85, .own (.slice (some ⟨g32, 0, none⟩) (k + 1) c32) (k + 1) 41 32 (dgs (stepL n key ds (endP p) (k + 1)))] hr hrp ⟨(some ⟨g32, 0, none⟩, c32), rfl⟩ (by intro f hf; simp only [List.mem_cons, List.not_mem_nil, or_false] at hf; exact hf.elim (fun h => by rw [h]; rfl) (fun h => by rw [h]; rfl))
  · intro bb mm hJ2
    obtain ⟨⟨B, c'⟩, rfl⟩ := hJ2
    refine q_block ?_
    refine q_then ?_
    dsimp only
    simp only [List.nil_append, List.cons_append]
    refine h_pure (φ := ∃ g, B = some ⟨g, 0, none⟩) (fun w s => s.ownSome (N := ds.length + 1) (c := c') (by omega)) ?_
    rintro ⟨g, rfl⟩
    refine h_seq ?_
    refine h_reg ?_
    refine h_op (r_loadc rfl) ?_
    refine h_op (r_assign rfl) ?_
    refine h_op (r_assign rfl) ?_
    refine h_nil ?_
    refine q_then ?_
    refine h_ret ?_
    refine h_mark ?_
    exact h_ret2 rfl rfl rfl fun w s => ⟨(g, c'), rfl, (same w s).res (List.Sublist.refl _) (by simp [Fa.wr])⟩
theorem Root_s (p : Proof) (hc : checkP p = 0) (ss : List B32) (hs : p.sibs.n = ss.length) (key : B32) (n : Nat) (hn : n ≤ 256) (gh gc k0 : Nat) (hk : k0 ≤ 800000000000) (d : Nat) (hd : p.depth = (d : Int)) : Spec Tryz.prog 130 [.pointer (some ⟨gh, 0, none⟩), .agg p.cells.toArray, .agg key.cells.toArray].toArray [.rd (some ⟨gh, 0, none⟩) [.pointer (some ⟨gc, 0, none⟩), .int .i64 (n : Int)], .rd p.sibs.A (dgs ss), .rd (some ⟨2, 0, none⟩) hashT] [.blk gc [.int .i64 (k0 : Int)] 187] (fun _ : Unit => .tuple #[.agg (sumB n (wayP n key (expL (sumB n preE) p.bitmap ss d) (endP p) d)).cells.toArray, .int .i64 0]) (fun _ => [.blk gc [.int .i64 ((k0 + 1 + d + 1 : Nat) : Int)] 187]) := by
  have hd2 := ok_depth hc
  have hS := Steps_s p hc ss hs key n hn gh gc k0 hk d hd
  generalize expL (sumB n preE) p.bitmap ss d = ds at *
  have hget : (stepL n key ds (endP p) (d + 1)).getD d zB32 = sumB n (wayP n key ds (endP p) d) := by
    unfold stepL
    rw [List.getD, List.getElem?_map, List.getElem?_range (by omega)]
    rfl
  have hat := dgs_at (l := stepL n key ds (endP p) (d + 1)) (k := d) (by rw [stepL_len]; omega)
  rw [hget] at hat
  refine spec_of Tryz.func130 rfl (n := 27) rfl rfl ?_
  intro W
  refine h_seq ?_
  refine h_reg ?_
  refine h_opX (x_box rfl) fun g4 => ?_
  refine h_opX (x_box rfl) fun g5 => ?_
  refine h_opX (x_alloc) fun g6 => ?_
  refine h_op (r_assign rfl) ?_
  refine h_nil ?_
  refine q_then ?_
  refine h_seq ?_
  refine h_reg ?_
  refine h_op (r_move rfl) ?_
  refine h_op (r_loadr rfl) ?_
  refine h_op (r_loadr rfl) ?_
  refine h_call (hS.comes) rfl rfl rfl fun ⟨g14, c14⟩ => ?_
  dsimp only
  refine h_op (r_move rfl) ?_
  refine h_op (r_extract rfl rfl) ?_
  refine h_op (r_extract rfl rfl) ?_
  refine h_op (r_assign rfl) ?_
  refine h_op (r_assign rfl) ?_
  refine h_nil ?_
  refine q_then ?_
  refine h_seq ?_
  refine h_seq ?_
  refine h_reg ?_
  refine h_op (r_move rfl) ?_
  refine h_op (r_neq rfl rfl) ?_
  refine h_nil ?_
  refine q_then ?_
  refine h_no rfl ((fun h => h rfl)) ?_
  refine h_skip ?_
  refine q_then ?_
  refine h_seq ?_
  refine h_reg ?_
  refine h_op (r_move rfl) ?_
  refine h_op (r_move rfl) ?_
  refine h_op (r_len rfl) ?_
  refine h_op (r_subN rfl rfl (m := d) (hm := by omega)) ?_
  refine h_op (r_idx rfl rfl) ?_
  refine h_op (r_nthr rfl (B32.cells_length _) hat) ?_
  refine h_opS (s_storer rfl rfl) ?_
  refine h_op (r_assign rfl) ?_
  refine h_nil ?_
  refine q_then ?_
  refine h_ret ?_
  exact h_ret2 rfl (rv_row rfl) rfl fun w s => ⟨(), rfl, (same w s).res (List.Sublist.refl _) (by simp [Fa.wr])⟩
end Go.Proofs.YtgfkbeipckbkiaaGreatDoor
/- N12 -/
namespace Go.Proofs.YtgfkbeipckbkiaaGreatDoor
set_option linter.unusedSimpArgs false
set_option linter.unusedVariables false
open Go.RowKit
/-- a zone that began as all that there was: nothing below has turned -/
theorem zone_below {W w : World} {h1 : Zh} {N : List Fa} (hr : Rx [.zone true (World.zh W)] W w (.zone true h1 :: N)) (hl : LeZ (World.zh W) h1) : Below W.heap.size W w := by
  refine ⟨hr.os, hr.tape, hr.output, hr.size, fun k hk => ?_⟩
  obtain ⟨o, ho⟩ : ∃ o, W.heap[k]? = some o := ⟨_, Array.getElem?_eq_getElem hk⟩
  rw [ho]
  exact hr.ok (.zone true h1) (List.mem_cons_self ..) k o (hl.le k o ho)
theorem Fx.all (W : World) : Fx W [.zone true (World.zh W)] := ⟨fun f hf => by rw [List.mem_singleton.1 hf]; exact fun k o ho => ho, List.pairwise_singleton _ _⟩
end Go.Proofs.YtgfkbeipckbkiaaGreatDoor
/- N13 -/
namespace Go.Proofs.YtgfkbeipckbkiaaGreatDoor
set_option linter.unusedSimpArgs false
set_option linter.unusedVariables false
open Go.RowKit
section
variable {P : Program} {n : Nat} {D : List Deferred} {E : Env} {L : List Fa} {T T' : TypeId} {x y : Operand}
theorem r_shl8 {i : Int} (hx : ev E x = some (.int .i64 i)) (hy : ev E y = some (.int .u64 8)) (h : 0 ≤ i ∧ i < 256 := by omega) : Runs0 P n D E L (.binOp .shl T x y T') (.int .i64 (i * 256)) := fun a w ka s o ho => xShl8 ho (ka.ev hx) (ka.ev hy) h
theorem r_or8 {i j : Int} (hx : ev E x = some (.int .i64 (i * 256))) (hy : ev E y = some (.int .i64 j)) (h : 0 ≤ i ∧ i < 256 := by omega) (h' : 0 ≤ j ∧ j < 256 := by omega) : Runs0 P n D E L (.binOp .or T x y T') (.int .i64 (i * 256 + j)) := fun a w ka s o ho => xOr8 ho (ka.ev hx) (ka.ev hy) h h'
theorem r_shr8 {i : Nat} (hx : ev E x = some (.int .i64 (i : Int))) (hy : ev E y = some (.int .u64 8)) : Runs0 P n D E L (.binOp .shr T x y T') (.int .i64 ((i / 256 : Nat) : Int)) := fun a w ka s o ho => by
  have hx := ka.ev hx
  have hy := ka.ev hy
  unfold execOp
  simp only [ho, hx, hy]
  have e : (binOp .shr T (.int .i64 (i : Int)) (.int .u64 8)).run P w = .ok (.int .i64 ((i / 256 : Nat) : Int)) w := by
    rw [show ((i / 256 : Nat) : Int) = (i : Int).fdiv (2 ^ 8) by rw [Int.fdiv_eq_ediv_of_nonneg _ (by decide)]; simp]
    rfl
  rw [Sem.run_bind, Sem.run_bind]
  have g : (eqGuard .shr T x y (.int .i64 (i : Int)) (.int .u64 8)).run P w = .ok () w := rfl
  rw [g, Result.andThen_ok, e]
  rfl
theorem r_arr {len e size : Nat} [hT : TArr P T len e size] {A : Option Addr} {m c : Nat} (hx : ev E x = some (.slice A m c)) (hm : len ≤ m := by omega) : Runs0 P n D E L (.sliceToArrayPointer T x) (.pointer A) := fun a w ka s o ho => ex_arrayAt ho hT.und (ka.ev hx) hm
end
end Go.Proofs.YtgfkbeipckbkiaaGreatDoor
/- U90 -/
namespace Go.Proofs.YtgfkbeipckbkiaaGreatDoor
set_option linter.unusedSimpArgs false
set_option linter.unusedVariables false
open Go.RowKit
def keyOf (l : List UInt8) : B32 := if h : l.length = 32 then ⟨l, h⟩ else zB32
theorem keyOf_cells {l : List UInt8} (h : l.length = 32) : (keyOf l).cells = bc l := by unfold keyOf; rw [dif_pos h]; rfl
theorem when_s (b : Bool) (e : Int) : Spec Tryz.prog 114 [.bool b, .int .i64 e].toArray [] [] (fun _ : Unit => .int .i64 (if b then e else 0)) (fun _ => []) := by
  cases b
  · refine spec_of Tryz.func114 rfl (n := 7) rfl rfl ?_
    intro W
    refine h_seq ?_
    refine h_reg ?_
    refine h_op (r_assign rfl) ?_
    refine h_nil ?_
    refine q_then ?_
    refine h_seq ?_
    refine h_seq ?_
    refine h_reg ?_
    refine h_op (r_move rfl) ?_
    refine h_nil ?_
    refine q_then ?_
    refine h_condF rfl ?_
    refine h_skip ?_
    refine q_then ?_
    refine h_seq ?_
    refine h_reg ?_
    refine h_op (r_assign rfl) ?_
    refine h_nil ?_
    refine q_then ?_
    refine h_ret ?_
    exact h_ret1 rfl rfl fun w s => ⟨(), rfl, s.res (List.nil_sublist _) (by simp)⟩
  · refine spec_of Tryz.func114 rfl (n := 7) rfl rfl ?_
    intro W
    refine h_seq ?_
    refine h_reg ?_
    refine h_op (r_assign rfl) ?_
    refine h_nil ?_
    refine q_then ?_
    refine h_seq ?_
    refine h_seq ?_
    refine h_reg ?_
    refine h_op (r_move rfl) ?_
    refine h_nil ?_
    refine q_then ?_
    refine h_condT rfl ?_
    refine h_seq ?_
    refine h_reg ?_
    refine h_op (r_move rfl) ?_
    refine h_op (r_assign rfl) ?_
    refine h_nil ?_
    refine q_then ?_
    refine h_ret ?_
    refine q_thenR ?_
    exact h_ret1 rfl rfl fun w s => ⟨(), rfl, s.res (List.nil_sublist _) (by simp)⟩
/-- what the first three steps find -/
def code3 (x : Chk) : Nat → Int
  | 0 => if x.root.n = 32 then 0 else 4
  | 1 => if x.c.key.n = 32 then 0 else 2
  | _ => if x.c.present = true ∧ 65535 < x.c.value.n then 3 else 0
section
variable (x : Chk) (g : Nat)
theorem step0_s : Spec Tryz.prog 113 [.pointer (some ⟨g, 0, none⟩)].toArray [.rd (some ⟨g, 0, none⟩) x.cells] [] (fun _ : Unit => .int .i64 (code3 x 0)) (fun _ => []) := by
  by_cases h : x.root.n = 32
  · have hw := when_s false 4
    rw [show code3 x 0 = 0 from if_pos h]
    refine spec_of Tryz.func113 rfl (n := 10) rfl rfl ?_
    intro W
    refine h_seq ?_
    refine h_reg ?_
    refine h_op (r_assign rfl) ?_
    refine h_nil ?_
    refine q_then ?_
    refine h_seq ?_
    refine h_reg ?_
    refine h_op (r_move rfl) ?_
    refine h_op (r_nilc rfl) ?_
    refine h_op (r_field rfl) ?_
    refine h_op (r_loadc rfl) ?_
    refine h_op (r_len rfl) ?_
    refine h_op (r_bool (r_neq rfl rfl) (decide_eq_false (by omega))) ?_
    refine h_call (hw.comes) rfl rfl rfl fun _ => ?_
    refine h_op (r_assign rfl) ?_
    refine h_nil ?_
    refine q_then ?_
    refine h_ret ?_
    exact h_ret1 rfl rfl fun w s => ⟨(), rfl, s.res (List.nil_sublist _) (by simp)⟩
  · have hw := when_s true 4
    rw [show code3 x 0 = 4 from if_neg h]
    refine spec_of Tryz.func113 rfl (n := 10) rfl rfl ?_
    intro W
    refine h_seq ?_
    refine h_reg ?_
    refine h_op (r_assign rfl) ?_
    refine h_nil ?_
    refine q_then ?_
    refine h_seq ?_
    refine h_reg ?_
    refine h_op (r_move rfl) ?_
    refine h_op (r_nilc rfl) ?_
    refine h_op (r_field rfl) ?_
    refine h_op (r_loadc rfl) ?_
    refine h_op (r_len rfl) ?_
    refine h_op (r_bool (r_neq rfl rfl) (decide_eq_true (by omega))) ?_
    refine h_call (hw.comes) rfl rfl rfl fun _ => ?_
    refine h_op (r_assign rfl) ?_
    refine h_nil ?_
    refine q_then ?_
    refine h_ret ?_
    exact h_ret1 rfl rfl fun w s => ⟨(), rfl, s.res (List.nil_sublist _) (by simp)⟩
theorem step1_s : Spec Tryz.prog 115 [.pointer (some ⟨g, 0, none⟩)].toArray [.rd (some ⟨g, 0, none⟩) x.cells] [] (fun _ : Unit => .int .i64 (code3 x 1)) (fun _ => []) := by
  by_cases h : x.c.key.n = 32
  · have hw := when_s false 2
    rw [show code3 x 1 = 0 from if_pos h]
    refine spec_of Tryz.func115 rfl (n := 11) rfl rfl ?_
    intro W
    refine h_seq ?_
    refine h_reg ?_
    refine h_op (r_assign rfl) ?_
    refine h_nil ?_
    refine q_then ?_
    refine h_seq ?_
    refine h_reg ?_
    refine h_op (r_move rfl) ?_
    refine h_op (r_nilc rfl) ?_
    refine h_op (r_field rfl) ?_
    refine h_op (r_field rfl) ?_
    refine h_op (r_loadc rfl) ?_
    refine h_op (r_len rfl) ?_
    refine h_op (r_bool (r_neq rfl rfl) (decide_eq_false (by omega))) ?_
    refine h_call (hw.comes) rfl rfl rfl fun _ => ?_
    refine h_op (r_assign rfl) ?_
    refine h_nil ?_
    refine q_then ?_
    refine h_ret ?_
    exact h_ret1 rfl rfl fun w s => ⟨(), rfl, s.res (List.nil_sublist _) (by simp)⟩
  · have hw := when_s true 2
    rw [show code3 x 1 = 2 from if_neg h]
    refine spec_of Tryz.func115 rfl (n := 11) rfl rfl ?_
    intro W
    refine h_seq ?_
    refine h_reg ?_
    refine h_op (r_assign rfl) ?_
    refine h_nil ?_
    refine q_then ?_
    refine h_seq ?_
    refine h_reg ?_
    refine h_op (r_move rfl) ?_
    refine h_op (r_nilc rfl) ?_
    refine h_op (r_field rfl) ?_
    refine h_op (r_field rfl) ?_
    refine h_op (r_loadc rfl) ?_
    refine h_op (r_len rfl) ?_
    refine h_op (r_bool (r_neq rfl rfl) (decide_eq_true (by omega))) ?_
    refine h_call (hw.comes) rfl rfl rfl fun _ => ?_
    refine h_op (r_assign rfl) ?_
    refine h_nil ?_
    refine q_then ?_
    refine h_ret ?_
    exact h_ret1 rfl rfl fun w s => ⟨(), rfl, s.res (List.nil_sublist _) (by simp)⟩
theorem step2_s : Spec Tryz.prog 116 [.pointer (some ⟨g, 0, none⟩)].toArray [.rd (some ⟨g, 0, none⟩) x.cells] [] (fun _ : Unit => .int .i64 (code3 x 2)) (fun _ => []) := by
  obtain ⟨b, hb⟩ : ∃ b, x.c.present = b := ⟨_, rfl⟩
  by_cases h : 65535 < x.c.value.n
  · have hw := when_s b 3
    rw [show code3 x 2 = (if b then 3 else 0) by show (if x.c.present = true ∧ 65535 < x.c.value.n then (3 : Int) else 0) = _; rw [hb]; simp [h]]
    cases b
    · refine spec_of Tryz.func116 rfl (n := 18) rfl rfl ?_
      intro W
      refine h_seq ?_
      refine h_reg ?_
      refine h_op (r_assign rfl) ?_
      refine h_nil ?_
      refine q_then ?_
      refine h_seq ?_
      refine h_reg ?_
      refine h_op (r_move rfl) ?_
      refine h_op (r_nilc rfl) ?_
      refine h_op (r_field rfl) ?_
      refine h_op (r_field rfl) ?_
      refine h_op (r_bool (r_loadc rfl) hb) ?_
      refine h_op (r_move rfl) ?_
      refine h_opOff ?_
      refine h_opOff ?_
      refine h_opOff ?_
      refine h_opOff ?_
      refine h_opOff ?_
      refine h_opOff ?_
      refine h_opOff ?_
      refine h_op (r_pick rfl rfl) ?_
      refine h_call (hw.comes) rfl rfl rfl fun _ => ?_
      refine h_op (r_assign rfl) ?_
      refine h_nil ?_
      refine q_then ?_
      refine h_ret ?_
      exact h_ret1 rfl rfl fun w s => ⟨(), rfl, s.res (List.nil_sublist _) (by simp)⟩
    · refine spec_of Tryz.func116 rfl (n := 18) rfl rfl ?_
      intro W
      refine h_seq ?_
      refine h_reg ?_
      refine h_op (r_assign rfl) ?_
      refine h_nil ?_
      refine q_then ?_
      refine h_seq ?_
      refine h_reg ?_
      refine h_op (r_move rfl) ?_
      refine h_op (r_nilc rfl) ?_
      refine h_op (r_field rfl) ?_
      refine h_op (r_field rfl) ?_
      refine h_op (r_bool (r_loadc rfl) hb) ?_
      refine h_op (r_move rfl) ?_
      refine h_op (r_move rfl) ?_
      refine h_op (r_nilc rfl) ?_
      refine h_op (r_field rfl) ?_
      refine h_op (r_field rfl) ?_
      refine h_op (r_loadc rfl) ?_
      refine h_op (r_len rfl) ?_
      refine h_op (r_bool (r_gtr rfl rfl) (decide_eq_true (by omega))) ?_
      refine h_op (r_pick rfl rfl) ?_
      refine h_call (hw.comes) rfl rfl rfl fun _ => ?_
      refine h_op (r_assign rfl) ?_
      refine h_nil ?_
      refine q_then ?_
      refine h_ret ?_
      exact h_ret1 rfl rfl fun w s => ⟨(), rfl, s.res (List.nil_sublist _) (by simp)⟩
  · have hw := when_s false 3
    rw [show code3 x 2 = 0 from if_neg (fun h' => h h'.2)]
    cases b
    · refine spec_of Tryz.func116 rfl (n := 18) rfl rfl ?_
      intro W
      refine h_seq ?_
      refine h_reg ?_
      refine h_op (r_assign rfl) ?_
      refine h_nil ?_
      refine q_then ?_
      refine h_seq ?_
      refine h_reg ?_
      refine h_op (r_move rfl) ?_
      refine h_op (r_nilc rfl) ?_
      refine h_op (r_field rfl) ?_
      refine h_op (r_field rfl) ?_
      refine h_op (r_bool (r_loadc rfl) hb) ?_
      refine h_op (r_move rfl) ?_
      refine h_opOff ?_
      refine h_opOff ?_
      refine h_opOff ?_
      refine h_opOff ?_
      refine h_opOff ?_
      refine h_opOff ?_
      refine h_opOff ?_
      refine h_op (r_pick rfl rfl) ?_
      refine h_call (hw.comes) rfl rfl rfl fun _ => ?_
      refine h_op (r_assign rfl) ?_
      refine h_nil ?_
      refine q_then ?_
      refine h_ret ?_
      exact h_ret1 rfl rfl fun w s => ⟨(), rfl, s.res (List.nil_sublist _) (by simp)⟩
    · refine spec_of Tryz.func116 rfl (n := 18) rfl rfl ?_
      intro W
      refine h_seq ?_
      refine h_reg ?_
      refine h_op (r_assign rfl) ?_
      refine h_nil ?_
      refine q_then ?_
      refine h_seq ?_
      refine h_reg ?_
      refine h_op (r_move rfl) ?_
      refine h_op (r_nilc rfl) ?_
      refine h_op (r_field rfl) ?_
      refine h_op (r_field rfl) ?_
      refine h_op (r_bool (r_loadc rfl) hb) ?_
      refine h_op (r_move rfl) ?_
      refine h_op (r_move rfl) ?_
      refine h_op (r_nilc rfl) ?_
      refine h_op (r_field rfl) ?_
      refine h_op (r_field rfl) ?_
      refine h_op (r_loadc rfl) ?_
      refine h_op (r_len rfl) ?_
      refine h_op (r_bool (r_gtr rfl rfl) (decide_eq_false (by omega))) ?_
      refine h_op (r_pick rfl rfl) ?_
      refine h_call (hw.comes) rfl rfl rfl fun _ => ?_
      refine h_op (r_assign rfl) ?_
      refine h_nil ?_
      refine q_then ?_
      refine h_ret ?_
      exact h_ret1 rfl rfl fun w s => ⟨(), rfl, s.res (List.nil_sublist _) (by simp)⟩
end
/-- the digest of the value of a claim -/
def valD (n : Nat) (present : Bool) (vb : List UInt8) : B32 := if present then sumB n (preV vb) else zB32
section
variable (n : Nat) (hn : n ≤ 256) (h : Zh) [hT : RdZ h (some ⟨2, 0, none⟩) hashT] (gh gc k g : Nat) (hk : k ≤ 1000000000) (x : Chk) (hxh : x.h = some ⟨gh, 0, none⟩) (kb vb : List UInt8) [hK : SlZ h x.c.key kb] (hkl : kb.length = 32)
include hn hk hxh hkl
theorem supports_s [hV : SlZ h x.c.value vb] (hvl : vb.length ≤ 100000000) : Spec Tryz.prog 85 [.pointer (some ⟨g, 0, none⟩)].toArray [HR gh gc n, .zone false h, .rd (some ⟨g, 0, none⟩) x.cells] [CN gc k] (fun _ : Unit => .bool (supP x.p (keyOf kb) (valD n x.c.present vb) x.c.present)) (fun _ => [CN gc (k + if x.c.present then 1 else 0)]) := by
  have hkn := hK.len
  have hvn := hV.len
  have hKr : RdZ h x.c.key.A (keyOf kb).cells := by rw [keyOf_cells hkl]; exact hK.rd
  have hVr : RdZ h x.c.value.A (bc vb) := hV.rd
  have hVn := hV.nil
  obtain ⟨⟨⟩, xr, ⟨⟨kA, kn, kc⟩, ⟨vA, vn, vc⟩, pr⟩, xb, xp⟩ := x
  · cases hxh
  injection hxh with hxh
  subst hxh
  dsimp only at hkn hvn hKr hVr hVn ⊢
  subst hkn hvn
  obtain ⟨bK, oK, rfl, -⟩ := hKr.at_ 0 _ (List.getElem?_eq_getElem (by rw [B32.cells_length]; omega))
  cases pr
  · refine spec_of Tryz.func85 rfl (n := 38) rfl rfl ?_
    intro W
    refine h_seq ?_
    refine h_reg ?_
    refine h_op (r_assign rfl) ?_
    refine h_nil ?_
    refine q_then ?_
    refine h_seq ?_
    refine h_reg ?_
    refine h_opX (x_alloc) fun g3 => ?_
    refine h_nil ?_
    refine q_then ?_
    refine h_seq ?_
    refine h_seq ?_
    refine h_reg ?_
    refine h_op (r_move rfl) ?_
    refine h_op (r_nilc rfl) ?_
    refine h_op (r_field rfl) ?_
    refine h_op (r_field rfl) ?_
    refine h_op (r_loadc rfl) ?_
    refine h_nil ?_
    refine q_then ?_
    refine h_condF rfl ?_
    refine h_skip ?_
    refine q_then ?_
    refine h_seq ?_
    refine ha_start [.rd (some ⟨g, 0, none⟩) (Chk.cells ⟨some ⟨gh, 0, none⟩, xr, ⟨⟨some ⟨bK, oK, none⟩, kb.length, kc⟩, ⟨vA, vb.length, vc⟩, false⟩, xb, xp⟩), .zone false h, .blk g3 zB32.cells 41] [] mixed (same) ?_
    refine ha_takeP 0 rfl (r_move rfl) ?_
    refine ha_takeP 1 rfl (r_nilc rfl) ?_
    refine ha_takeP 2 rfl (r_field rfl) ?_
    refine ha_take 3 rfl (r_loadr rfl) ?_
    refine ha_takeP 4 rfl (r_move rfl) ?_
    refine ha_takeP 5 rfl (r_nilc rfl) ?_
    refine ha_takeP 6 rfl (r_field rfl) ?_
    refine ha_takeP 7 rfl (r_field rfl) ?_
    refine ha_take 8 rfl (r_loadc rfl) ?_
    refine ha_takeP 9 rfl (r_arr rfl (hm := show 32 ≤ kb.length by omega)) ?_
    refine ha_take 10 rfl (r_loadr rfl) ?_
    refine ha_take 11 rfl (r_loadr rfl) ?_
    refine ha_takeP 12 rfl (r_move rfl) ?_
    refine ha_takeP 13 rfl (r_nilc rfl) ?_
    refine ha_takeP 14 rfl (r_field rfl) ?_
    refine ha_takeP 15 rfl (r_field rfl) ?_
    refine ha_take 16 rfl (r_loadc rfl) ?_
    refine ha_one 17 ?_
    refine ho_C 17 rfl ((Supports_s xp (keyOf kb) zB32 false).comes) rfl rfl rfl (fun xx => same) fun _ => ?_
    refine ha_takeP 18 rfl (r_assign rfl) ?_
    refine ha_done (by kernel_rfl) ?_
    refine q_then ?_
    refine h_ret ?_
    exact h_ret1 rfl rfl fun w s => ⟨(), rfl, (same (L' := [CN gc k]) w s).res (List.Sublist.refl _) (by simp [Fa.wr])⟩
  · refine spec_of Tryz.func85 rfl (n := 38) rfl rfl ?_
    intro W
    refine h_seq ?_
    refine h_reg ?_
    refine h_op (r_assign rfl) ?_
    refine h_nil ?_
    refine q_then ?_
    refine h_seq ?_
    refine h_reg ?_
    refine h_opX (x_alloc) fun g3 => ?_
    refine h_nil ?_
    refine q_then ?_
    refine h_seq ?_
    refine h_seq ?_
    refine h_reg ?_
    refine h_op (r_move rfl) ?_
    refine h_op (r_nilc rfl) ?_
    refine h_op (r_field rfl) ?_
    refine h_op (r_field rfl) ?_
    refine h_op (r_loadc rfl) ?_
    refine h_nil ?_
    refine q_then ?_
    refine h_condT rfl ?_
    refine ha_start [.rd (some ⟨g, 0, none⟩) (Chk.cells ⟨some ⟨gh, 0, none⟩, xr, ⟨⟨some ⟨bK, oK, none⟩, kb.length, kc⟩, ⟨vA, vb.length, vc⟩, true⟩, xb, xp⟩), .zone false h] [] mixed (same) ?_
    refine ha_takeP 0 rfl (r_move rfl) ?_
    refine ha_takeP 1 rfl (r_nilc rfl) ?_
    refine ha_takeP 2 rfl (r_field rfl) ?_
    refine ha_take 3 rfl (r_loadc rfl) ?_
    refine ha_takeP 4 rfl (r_move rfl) ?_
    refine ha_takeP 5 rfl (r_nilc rfl) ?_
    refine ha_takeP 6 rfl (r_field rfl) ?_
    refine ha_takeP 7 rfl (r_field rfl) ?_
    refine ha_take 8 rfl (r_loadc rfl) ?_
    refine ha_one 9 ?_
    refine ho_C 9 rfl ((pValue_s vb vA vc (fun e => by have := hVn e; omega) hvl).comes) rfl rfl rfl (fun xx => same) fun ⟨g18, c18⟩ => ?_
    refine ha_one 10 ?_
    refine ho_C 10 rfl ((HSum_s n hn gh gc k (by omega) (preV vb) (some ⟨g18, 0, none⟩) c18 (fun h => by cases h) (by show vb.length + 1 ≤ _; omega)).comes) rfl rfl rfl (fun xx => same) fun _ => ?_
    refine ha_one 11 ?_
    refine ho_SL 11 rfl (s_storer rfl rfl) ?_
    refine q_then ?_
    refine h_seq ?_
    refine ha_start [.rd (some ⟨g, 0, none⟩) (Chk.cells ⟨some ⟨gh, 0, none⟩, xr, ⟨⟨some ⟨bK, oK, none⟩, kb.length, kc⟩, ⟨vA, vb.length, vc⟩, true⟩, xb, xp⟩), .zone false h, .blk g3 (sumB n (preV vb)).cells 41] [] mixed (same) ?_
    refine ha_takeP 0 rfl (r_move rfl) ?_
    refine ha_takeP 1 rfl (r_nilc rfl) ?_
    refine ha_takeP 2 rfl (r_field rfl) ?_
    refine ha_take 3 rfl (r_loadr rfl) ?_
    refine ha_takeP 4 rfl (r_move rfl) ?_
    refine ha_takeP 5 rfl (r_nilc rfl) ?_
    refine ha_takeP 6 rfl (r_field rfl) ?_
    refine ha_takeP 7 rfl (r_field rfl) ?_
    refine ha_take 8 rfl (r_loadc rfl) ?_
    refine ha_takeP 9 rfl (r_arr rfl (hm := show 32 ≤ kb.length by omega)) ?_
    refine ha_take 10 rfl (r_loadr rfl) ?_
    refine ha_take 11 rfl (r_loadr rfl) ?_
    refine ha_takeP 12 rfl (r_move rfl) ?_
    refine ha_takeP 13 rfl (r_nilc rfl) ?_
    refine ha_takeP 14 rfl (r_field rfl) ?_
    refine ha_takeP 15 rfl (r_field rfl) ?_
    refine ha_take 16 rfl (r_loadc rfl) ?_
    refine ha_one 17 ?_
    refine ho_C 17 rfl ((Supports_s xp (keyOf kb) (sumB n (preV vb)) true).comes) rfl rfl rfl (fun xx => same) fun _ => ?_
    refine ha_takeP 18 rfl (r_assign rfl) ?_
    refine ha_done (by kernel_rfl) ?_
    refine q_then ?_
    refine h_ret ?_
    exact h_ret1 rfl rfl fun w s => ⟨(), rfl, (same (L' := [CN gc (k + 1)]) w s).res (List.Sublist.refl _) (by simp [Fa.wr])⟩
/-- the root that a proof leads to -/
def rootP (n : Nat) (p : DP) (key : B32) : B32 := sumB n (wayP n key (expL (sumB n preE) p.bm p.ss p.d) (endP (p.pr none 0)) p.d)
theorem leads_s (rb : List UInt8) [hR : SlZ h x.root rb] (hrl : rb.length = 32) (p : DP) (A : Option Addr) (c : Nat) (hp : x.p = p.pr A c) (hck : checkP (p.pr none 0) = 0) [hS : RdZ h A (dgs p.ss)] : Spec Tryz.prog 86 [.pointer (some ⟨g, 0, none⟩)].toArray [HR gh gc n, .zone false h, .rd (some ⟨g, 0, none⟩) x.cells] [CN gc k] (fun _ : Unit => .bool (decide (rootP n p (keyOf kb) = keyOf rb))) (fun _ => [CN gc (k + 1 + p.d + 1)]) := by
  have hkn := hK.len
  have hrn := hR.len
  have hKr : RdZ h x.c.key.A (keyOf kb).cells := by rw [keyOf_cells hkl]; exact hK.rd
  have hRr : RdZ h x.root.A (keyOf rb).cells := by rw [keyOf_cells hrl]; exact hR.rd
  have hRo := Root_s (p.pr A c) hck p.ss rfl (keyOf kb) n hn gh gc k (by omega) p.d rfl
  change Spec _ _ _ _ _ (fun _ : Unit => .tuple #[.agg (rootP n p (keyOf kb)).cells.toArray, .int .i64 0]) (fun _ => [CN gc (k + 1 + p.d + 1)]) at hRo
  obtain ⟨⟨⟩, ⟨rA, rn, rc⟩, ⟨⟨kA, kn, kc⟩, xv, pr⟩, xb, xp⟩ := x
  · cases hxh
  injection hxh with hxh
  subst hxh
  dsimp only at hkn hrn hKr hRr hp ⊢
  subst hkn hrn hp
  obtain ⟨bK, oK, rfl, -⟩ := hKr.at_ 0 _ (List.getElem?_eq_getElem (by rw [B32.cells_length]; omega))
  obtain ⟨bR, oR, rfl, -⟩ := hRr.at_ 0 _ (List.getElem?_eq_getElem (by rw [B32.cells_length]; omega))
  refine spec_of Tryz.func86 rfl (n := 36) rfl rfl ?_
  intro W
  refine h_seq ?_
  refine h_reg ?_
  refine h_op (r_assign rfl) ?_
  refine h_nil ?_
  refine q_then ?_
  refine h_seq ?_
  refine h_join (fun (u : Nat) => [(3, .pointer (some ⟨u, 0, none⟩)), (4, .int .i64 0), (0, .pointer (some ⟨g, 0, none⟩))]) (fun (u : Nat) => [.blk u (rootP n p (keyOf kb)).cells 41, CN gc (k + 1 + p.d + 1), HR gh gc n, .zone false h, .rd (some ⟨g, 0, none⟩) (Chk.cells ⟨some ⟨gh, 0, none⟩, ⟨some ⟨bR, oR, none⟩, rb.length, rc⟩, ⟨⟨some ⟨bK, oK, none⟩, kb.length, kc⟩, xv, pr⟩, xb, p.pr A c⟩)]) (fun kk => ?_) ?_
  · refine ha_start [.rd (some ⟨g, 0, none⟩) (Chk.cells ⟨some ⟨gh, 0, none⟩, ⟨some ⟨bR, oR, none⟩, rb.length, rc⟩, ⟨⟨some ⟨bK, oK, none⟩, kb.length, kc⟩, xv, pr⟩, xb, p.pr A c⟩), .zone false h] [] mixed (same) ?_
    refine ha_takeP 0 rfl (r_move rfl) ?_
    refine ha_takeP 1 rfl (r_nilc rfl) ?_
    refine ha_takeP 2 rfl (r_field rfl) ?_
    refine ha_take 3 rfl (r_loadc rfl) ?_
    refine ha_takeP 4 rfl (r_move rfl) ?_
    refine ha_takeP 5 rfl (r_nilc rfl) ?_
    refine ha_takeP 6 rfl (r_field rfl) ?_
    refine ha_take 7 rfl (r_loadr rfl) ?_
    refine ha_takeP 8 rfl (r_move rfl) ?_
    refine ha_takeP 9 rfl (r_nilc rfl) ?_
    refine ha_takeP 10 rfl (r_field rfl) ?_
    refine ha_takeP 11 rfl (r_field rfl) ?_
    refine ha_take 12 rfl (r_loadc rfl) ?_
    refine ha_takeP 13 rfl (r_arr rfl (hm := show 32 ≤ kb.length by omega)) ?_
    refine ha_take 14 rfl (r_loadr rfl) ?_
    refine ha_two 15 19 ?_ ?_
    · refine ho_C 15 rfl ((hRo.comes (hr := inferInstanceAs (Rds _ [HR gh gc n, .rd A (dgs p.ss), TBL])))) rfl rfl rfl (fun xx => same) fun _ => ?_
      refine ha_takeP 16 rfl (r_move rfl) ?_
      refine ha_takeP 17 rfl (r_extract rfl rfl) ?_
      refine ha_takeP 18 rfl (r_extract rfl rfl) ?_
      refine ha_one 19 ?_
      refine ho_X 19 rfl (rk (x_alloc)) (fun _ => same) fun g3 => ?_
      refine ha_one 20 ?_
      refine ho_S 20 rfl (s_storer rfl rfl) (same) ?_
      refine ha_takeP 21 rfl (r_assign rfl) ?_
      exact ha_done (by kernel_rfl) (h_K (kk g3) (⟨rfl, rfl, rfl, trivial⟩) same)
    · refine ho_X 19 rfl (rk (x_alloc)) (fun _ => same) fun g3 => ?_
      refine ha_one 15 ?_
      refine ho_C 15 rfl ((hRo.comes (hr := inferInstanceAs (Rds _ [HR gh gc n, .rd A (dgs p.ss), TBL])))) rfl rfl rfl (fun xx => same) fun _ => ?_
      refine ha_takeP 16 rfl (r_move rfl) ?_
      refine ha_takeP 17 rfl (r_extract rfl rfl) ?_
      refine ha_takeP 18 rfl (r_extract rfl rfl) ?_
      refine ha_one 20 ?_
      refine ho_S 20 rfl (s_storer rfl rfl) (same) ?_
      refine ha_takeP 21 rfl (r_assign rfl) ?_
      exact ha_done (by kernel_rfl) (h_K (kk g3) (⟨rfl, rfl, rfl, trivial⟩) same)
  rintro g3
  refine q_then ?_
  refine h_seq ?_
  refine ha_start [.rd (some ⟨g, 0, none⟩) (Chk.cells ⟨some ⟨gh, 0, none⟩, ⟨some ⟨bR, oR, none⟩, rb.length, rc⟩, ⟨⟨some ⟨bK, oK, none⟩, kb.length, kc⟩, xv, pr⟩, xb, p.pr A c⟩), .zone false h, .blk g3 (rootP n p (keyOf kb)).cells 41] [] mixed (same) ?_
  refine ha_takeP 0 rfl (r_move rfl) ?_
  refine ha_takeP 1 rfl (r_bool (r_eql rfl rfl) rfl) ?_
  refine ha_takeP 2 rfl (r_move rfl) ?_
  refine ha_take 3 rfl (r_loadr rfl) ?_
  refine ha_takeP 4 rfl (r_move rfl) ?_
  refine ha_takeP 5 rfl (r_nilc rfl) ?_
  refine ha_takeP 6 rfl (r_field rfl) ?_
  refine ha_take 7 rfl (r_loadc rfl) ?_
  refine ha_takeP 8 rfl (r_arr rfl (hm := show 32 ≤ rb.length by omega)) ?_
  refine ha_take 9 rfl (r_loadr rfl) ?_
  refine ha_takeP 10 rfl (r_eqr rfl rfl) ?_
  refine ha_takeP 11 rfl (r_pick rfl rfl) ?_
  refine ha_takeP 12 rfl (r_assign rfl) ?_
  refine ha_done (by kernel_rfl) ?_
  refine q_then ?_
  refine h_ret ?_
  exact h_ret1 rfl rfl fun w s => ⟨(), rfl, (same (L' := [CN gc (k + 1 + p.d + 1)]) w s).res (List.Sublist.refl _) (by simp [Fa.wr])⟩
end
end Go.Proofs.YtgfkbeipckbkiaaGreatDoor
/- U56 -/
namespace Go.Proofs.YtgfkbeipckbkiaaGreatDoor
set_option linter.unusedSimpArgs false
set_option linter.unusedVariables false
open Go.RowKit
def u8n (k : Nat) : UInt8 := UInt8.ofNat k
/-- the bytes of a proof -/
def encC (k d : Nat) (lf : Leaf) (bm : B32) (ss : List B32) : List UInt8 := [1, u8n k, u8n (d / 256), u8n d] ++ (bm.1 ++ ((if k = 1 then lf.key.1 ++ lf.value.1 else []) ++ ss.flatMap (·.1)))
theorem flat_len (l : List B32) : (l.flatMap (·.1)).length = 32 * l.length := by
  induction l with
  | nil => rfl
  | cons x l ih => rw [List.flatMap_cons, List.length_append, ih, x.2, List.length_cons]; omega
def lenC (k m : Nat) : Nat := 36 + (if k = 1 then 64 else 0) + 32 * m
theorem depths_le (b : B32) : (depths b).length ≤ 256 := Nat.le_trans (List.length_filter_le _ _) (by rw [List.length_range]; exact Nat.le_refl _)
theorem cSize_s (p : Proof) (k : Nat) (hc : checkP p = 0) (hk : p.kind = (k : Int)) (hk1 : k = 0 ∨ k = 1) : Spec Tryz.prog 88 [.agg p.cells.toArray].toArray [] [] (fun _ : Unit => .int .i64 ((lenC k p.sibs.n : Nat) : Int)) (fun _ => []) := by
  have hC := Check_s p
  rw [hc] at hC
  have hsb : p.sibs.n ≤ 256 := ok_sibs hc ▸ depths_le p.bitmap
  refine spec_of Tryz.func88 rfl (n := 24) rfl rfl ?_
  intro W
  refine h_seq ?_
  refine h_reg ?_
  refine h_opX (x_box rfl) fun g1 => ?_
  refine h_op (r_assign rfl) ?_
  refine h_nil ?_
  refine q_then ?_
  refine h_seq ?_
  refine h_seq ?_
  refine h_reg ?_
  refine h_op (r_loadr rfl) ?_
  refine h_call (hC.comes) rfl rfl rfl fun _ => ?_
  refine h_op (r_neq rfl rfl) ?_
  refine h_nil ?_
  refine q_then ?_
  refine h_no rfl ((fun h => h rfl)) ?_
  rcases hk1 with rfl | rfl
  · refine h_skip ?_
    refine q_then ?_
    refine h_seq ?_
    refine h_reg ?_
    refine h_op (r_assign rfl) ?_
    refine h_nil ?_
    refine q_then ?_
    refine h_seq ?_
    refine h_seq ?_
    refine h_reg ?_
    refine h_op (r_field rfl) ?_
    refine h_op (r_loadc rfl) ?_
    refine h_nil ?_
    refine q_then ?_
    refine h_block ?_
    refine h_seq ?_
    refine h_block ?_
    refine h_seq ?_
    refine h_block ?_
    refine h_seq ?_
    refine h_seq ?_
    refine h_seq ?_
    refine h_reg ?_
    refine h_op (r_bool (r_eql rfl rfl) (decide_eq_false (by omega))) ?_
    refine h_op (r_assign rfl) ?_
    refine h_nil ?_
    refine q_then ?_
    refine h_condF rfl ?_
    refine h_skip ?_
    refine q_then ?_
    refine h_seq ?_
    refine h_reg ?_
    refine h_op (r_bool (r_eql rfl rfl) (decide_eq_true (by omega))) ?_
    refine h_op (r_assign rfl) ?_
    refine h_nil ?_
    refine q_then ?_
    refine h_condT rfl ?_
    refine h_exit ?_
    refine q_thenE ?_
    refine q_blockN (by decide) ?_
    refine q_thenE ?_
    refine q_blockE ?_
    refine q_then ?_
    refine h_seq ?_
    refine h_reg ?_
    refine h_op (r_move rfl) ?_
    refine h_op (r_field rfl) ?_
    refine h_op (r_loadc rfl) ?_
    refine h_op (r_len rfl) ?_
    refine h_op (r_add rfl rfl) ?_
    refine h_op (r_mul rfl rfl) ?_
    refine h_op (r_add rfl rfl) ?_
    refine h_op (r_add rfl rfl) ?_
    refine h_op (r_assign rfl) ?_
    refine h_nil ?_
    refine q_then ?_
    refine h_exit ?_
    refine q_blockE ?_
    refine q_then ?_
    refine h_seq ?_
    refine h_reg ?_
    refine h_op (r_move rfl) ?_
    refine h_op (r_assign rfl) ?_
    refine h_nil ?_
    refine q_then ?_
    refine h_ret ?_
    exact h_ret1 rfl (aI rfl (by show _ = ((36 + 0 + 32 * p.sibs.n : Nat) : Int); omega)) fun w s => ⟨(), rfl, s.res (List.nil_sublist _) (by simp)⟩
  · refine h_skip ?_
    refine q_then ?_
    refine h_seq ?_
    refine h_reg ?_
    refine h_op (r_assign rfl) ?_
    refine h_nil ?_
    refine q_then ?_
    refine h_seq ?_
    refine h_seq ?_
    refine h_reg ?_
    refine h_op (r_field rfl) ?_
    refine h_op (r_loadc rfl) ?_
    refine h_nil ?_
    refine q_then ?_
    refine h_block ?_
    refine h_seq ?_
    refine h_block ?_
    refine h_seq ?_
    refine h_block ?_
    refine h_seq ?_
    refine h_seq ?_
    refine h_seq ?_
    refine h_reg ?_
    refine h_op (r_bool (r_eql rfl rfl) (decide_eq_true (by omega))) ?_
    refine h_op (r_assign rfl) ?_
    refine h_nil ?_
    refine q_then ?_
    refine h_condT rfl ?_
    refine h_exit ?_
    refine q_thenE ?_
    refine q_thenE ?_
    refine q_blockE ?_
    refine q_then ?_
    refine h_reg ?_
    refine h_op (r_move rfl) ?_
    refine h_op (r_add rfl rfl) ?_
    refine h_op (r_assign rfl) ?_
    refine h_nil ?_
    refine q_block ?_
    refine q_then ?_
    refine h_seq ?_
    refine h_reg ?_
    refine h_op (r_move rfl) ?_
    refine h_op (r_field rfl) ?_
    refine h_op (r_loadc rfl) ?_
    refine h_op (r_len rfl) ?_
    refine h_op (r_add rfl rfl) ?_
    refine h_op (r_mul rfl rfl) ?_
    refine h_op (r_add rfl rfl) ?_
    refine h_op (r_add rfl rfl) ?_
    refine h_op (r_assign rfl) ?_
    refine h_nil ?_
    refine q_then ?_
    refine h_exit ?_
    refine q_blockE ?_
    refine q_then ?_
    refine h_seq ?_
    refine h_reg ?_
    refine h_op (r_move rfl) ?_
    refine h_op (r_assign rfl) ?_
    refine h_nil ?_
    refine q_then ?_
    refine h_ret ?_
    exact h_ret1 rfl (aI rfl (by show _ = ((36 + 64 + 32 * p.sibs.n : Nat) : Int); omega)) fun w s => ⟨(), rfl, s.res (List.nil_sublist _) (by simp)⟩
theorem cKind_first (l : List UInt8) (A : Option Addr) (c : Nat) (h : 2 ≤ l.length) (h0 : l.getD 0 0 ≠ 1) : Spec Tryz.prog 151 [.slice A l.length c].toArray [.rd A (bc l)] [] (fun _ : Unit => .tuple #[.int .i64 0, .int .i64 6]) (fun _ => []) := by
  have h0' : ¬ ((l.getD 0 0).toNat : Int) = 1 := fun e => h0 (UInt8.toNat_inj.1 (by rw [show (1 : UInt8).toNat = 1 from rfl]; omega))
  refine spec_of Tryz.func151 rfl (n := 17) rfl rfl ?_
  intro W
  refine h_pure (φ := ∃ b o, A = some ⟨b, o, none⟩) (fun w s => Rd.some (s.ok (.rd A (bc l)) (by simp)) (by rw [bc_length]; omega)) ?_
  rintro ⟨b, o, rfl⟩
  refine h_seq ?_
  refine h_reg ?_
  refine h_op (r_assign rfl) ?_
  refine h_op (r_assign rfl) ?_
  refine h_nil ?_
  refine q_then ?_
  refine h_seq ?_
  refine h_block ?_
  refine h_seq ?_
  refine h_reg ?_
  refine h_op (r_move rfl) ?_
  refine h_op (r_len rfl) ?_
  refine h_op (r_bool (r_lss rfl rfl) (decide_eq_false (by omega))) ?_
  refine h_op (r_assign rfl) ?_
  refine h_nil ?_
  refine q_then ?_
  refine h_condF rfl ?_
  refine h_seq ?_
  refine h_reg ?_
  refine h_op (r_move rfl) ?_
  refine h_op (r_idx rfl rfl) ?_
  refine h_op (r_nth rfl (bc_at' (l := l) (i := 0) (by omega))) ?_
  refine h_op (r_bool (r_neq rfl rfl) (decide_eq_true h0')) ?_
  refine h_op (r_assign rfl) ?_
  refine h_nil ?_
  refine q_then ?_
  refine h_condT rfl ?_
  refine h_seq ?_
  refine h_reg ?_
  refine h_op (r_assign rfl) ?_
  refine h_op (r_assign rfl) ?_
  refine h_nil ?_
  refine q_then ?_
  refine h_ret ?_
  refine q_blockR ?_
  refine q_thenR ?_
  exact h_ret2 rfl rfl rfl fun w s => ⟨(), rfl, s.res (List.nil_sublist _) (by simp)⟩
theorem cKind_s (l : List UInt8) (A : Option Addr) (c : Nat) (h : 2 ≤ l.length) (h0 : l.getD 0 0 = 1) : Spec Tryz.prog 151 [.slice A l.length c].toArray [.rd A (bc l)] [] (fun _ : Unit => .tuple #[.int .i64 ((l.getD 1 0).toNat : Int), .int .i64 0]) (fun _ => []) := by
  have h0' : ((l.getD 0 0).toNat : Int) = 1 := by rw [h0]; rfl
  refine spec_of Tryz.func151 rfl (n := 17) rfl rfl ?_
  intro W
  refine h_pure (φ := ∃ b o, A = some ⟨b, o, none⟩) (fun w s => Rd.some (s.ok (.rd A (bc l)) (by simp)) (by rw [bc_length]; omega)) ?_
  rintro ⟨b, o, rfl⟩
  refine h_seq ?_
  refine h_reg ?_
  refine h_op (r_assign rfl) ?_
  refine h_op (r_assign rfl) ?_
  refine h_nil ?_
  refine q_then ?_
  refine h_seq ?_
  refine h_block ?_
  refine h_seq ?_
  refine h_reg ?_
  refine h_op (r_move rfl) ?_
  refine h_op (r_len rfl) ?_
  refine h_op (r_bool (r_lss rfl rfl) (decide_eq_false (by omega))) ?_
  refine h_op (r_assign rfl) ?_
  refine h_nil ?_
  refine q_then ?_
  refine h_condF rfl ?_
  refine h_seq ?_
  refine h_reg ?_
  refine h_op (r_move rfl) ?_
  refine h_op (r_idx rfl rfl) ?_
  refine h_op (r_nth rfl (bc_at' (l := l) (i := 0) (by omega))) ?_
  refine h_op (r_bool (r_neq rfl rfl) (decide_eq_false (fun h => h h0'))) ?_
  refine h_op (r_assign rfl) ?_
  refine h_nil ?_
  refine q_then ?_
  refine h_condF rfl ?_
  refine h_skip ?_
  refine q_block ?_
  refine q_then ?_
  refine h_seq ?_
  refine h_reg ?_
  refine h_op (r_move rfl) ?_
  refine h_op (r_idx rfl rfl) ?_
  refine h_op (r_nth rfl (bc_at' (l := l) (i := 1) (by omega))) ?_
  refine h_op (r_int (r_cUI rfl) (show _ = (((l.getD 1 0).toNat : Nat) : Int) from rfl)) ?_
  refine h_op (r_assign rfl) ?_
  refine h_op (r_assign rfl) ?_
  refine h_nil ?_
  refine q_then ?_
  refine h_ret ?_
  exact h_ret2 rfl rfl rfl fun w s => ⟨(), rfl, s.res (List.nil_sublist _) (by simp)⟩
end Go.Proofs.YtgfkbeipckbkiaaGreatDoor
/- U57 -/
namespace Go.Proofs.YtgfkbeipckbkiaaGreatDoor
set_option linter.unusedSimpArgs false
set_option linter.unusedVariables false
open Go.RowKit
theorem rds3 {L : List Fa} {B A1 A2 A3 : Option Addr} {n1 n2 n3 : Nat} {l1 l2 l3 : List UInt8} {c1 c2 c3 : List Value} (e1 : c1 = bc l1) (e2 : c2 = bc l2) (e3 : c3 = bc l3) [h0 : Rd1 L (.rd B (svs [(A1, n1, l1), (A2, n2, l2), (A3, n3, l3)]))] [h1 : Rd1 L (.rd A1 c1)] [h2 : Rd1 L (.rd A2 c2)] [h3 : Rd1 L (.rd A3 c3)] : Rds L (.rd B (svs [(A1, n1, l1), (A2, n2, l2), (A3, n3, l3)]) :: rdsOf [(A1, n1, l1), (A2, n2, l2), (A3, n3, l3)]) := by
  subst e1 e2 e3
  exact inferInstanceAs (Rds L [.rd B (svs [(A1, n1, l1), (A2, n2, l2), (A3, n3, l3)]), .rd A1 (bc l1), .rd A2 (bc l2), .rd A3 (bc l3)])
/-- what is written ahead of the siblings -/
def headC (k d : Nat) (lf : Leaf) (bm : B32) : List UInt8 := [1, u8n k, u8n (d / 256), u8n d] ++ (bm.1 ++ (if k = 1 then lf.key.1 ++ lf.value.1 else []))
def upC (k d : Nat) (lf : Leaf) (bm : B32) (ss : List B32) (i : Nat) : List UInt8 := headC k d lf bm ++ (ss.take i).flatMap (·.1)
theorem upC_end (k d : Nat) (lf : Leaf) (bm : B32) (ss : List B32) : upC k d lf bm ss ss.length = encC k d lf bm ss := by
  unfold upC headC encC
  rw [List.take_length]
  simp only [List.append_assoc]
theorem upC_succ (k d : Nat) (lf : Leaf) (bm : B32) {ss : List B32} {i : Nat} (h : i < ss.length) : upC k d lf bm ss i ++ (ss.getD i zB32).1 = upC k d lf bm ss (i + 1) := by
  unfold upC
  rw [show ss.take (i + 1) = ss.take i ++ [ss.getD i zB32] by rw [List.take_add_one, List.getElem?_eq_getElem h, List.getD_eq_getElem?_getD, List.getElem?_eq_getElem h]; rfl, List.flatMap_append, List.flatMap_cons, List.flatMap_nil, List.append_nil, List.append_assoc]
/-- the first 36 bytes -/
def preC (k d : Nat) (bm : B32) : List UInt8 := [1, u8n k, u8n (d / 256), u8n d] ++ bm.1
theorem preC_len (k d : Nat) (bm : B32) : (preC k d bm).length = 36 := by unfold preC; rw [List.length_append, bm.2]; rfl
theorem preC_0 (d : Nat) (lf : Leaf) (bm : B32) (ss : List B32) : preC 0 d bm = upC 0 d lf bm ss 0 := by unfold preC upC headC; simp
theorem preC_1 (d : Nat) (lf : Leaf) (bm : B32) (ss : List B32) (A : Option Addr) (c : Nat) (B B' : Option Addr) : segB [(A, c, preC 1 d bm), (B, 32, lf.key.1), (B', 32, lf.value.1)] = upC 1 d lf bm ss 0 := by unfold preC upC headC segB; simp
theorem upC_len (k d : Nat) (lf : Leaf) (bm : B32) {ss : List B32} {i : Nat} (h : i ≤ ss.length) : (upC k d lf bm ss i).length = (headC k d lf bm).length + 32 * i := by
  unfold upC
  rw [List.length_append, flat_len, List.length_take, Nat.min_eq_left h]
theorem headC_len (k d : Nat) (lf : Leaf) (bm : B32) : (headC k d lf bm).length ≤ 100 := by
  unfold headC
  have h1 := bm.2
  have h2 := lf.key.2
  have h3 := lf.value.2
  split <;> simp only [List.length_append, List.length_cons, List.length_nil, h1, h2, h3] <;> omega
theorem cEncode_s (p : Proof) (k d : Nat) (hc : checkP p = 0) (hk : p.kind = (k : Int)) (hd : p.depth = (d : Int)) (hk1 : k = 0 ∨ k = 1) (ss : List B32) (hs : p.sibs.n = ss.length) : Spec Tryz.prog 47 [.agg p.cells.toArray].toArray [.rd p.sibs.A (dgs ss)] [] (fun u : Option Addr × Nat => .tuple #[.slice u.1 (encC k d p.leaf p.bitmap ss).length u.2, .int .i64 0]) (fun u => [.own (.slice u.1 (encC k d p.leaf p.bitmap ss).length u.2) (encC k d p.leaf p.bitmap ss).length 5 1 (bc (encC k d p.leaf p.bitmap ss))]) := by
  have hC := Check_s p
  rw [hc] at hC
  have hS := cSize_s p k hc hk hk1
  have hsb : p.sibs.n ≤ 256 := ok_sibs hc ▸ depths_le p.bitmap
  have hdp := ok_depth hc
  have hbm := p.bitmap.2
  have hlk := p.leaf.key.2
  have hlv := p.leaf.value.2
  have hsz : lenC k p.sibs.n ≤ 100 + 32 * 256 := by unfold lenC; split <;> omega
  rw [← upC_end]
  have hloop := fun i => upC_len k d p.leaf p.bitmap (ss := ss) (i := i)
  have hstep := fun i => upC_succ k d p.leaf p.bitmap (ss := ss) (i := i)
  have hhl := headC_len k d p.leaf p.bitmap
  have hpl := preC_len k d p.bitmap
  have hkd : p.cells = Proof.cells ⟨(k : Int), (d : Int), p.leaf, p.bitmap, p.sibs⟩ := by rw [← hk, ← hd]
  rw [hkd] at hC hS ⊢
  generalize lenC k p.sibs.n = sz at *
  refine spec_of Tryz.func47 rfl (n := 57) rfl rfl ?_
  intro W
  refine h_seq ?_
  refine h_reg ?_
  refine h_opX (x_box rfl) fun g1 => ?_
  refine h_op (r_assign rfl) ?_
  refine h_op (r_assign rfl) ?_
  refine h_nil ?_
  refine q_then ?_
  refine h_seq ?_
  refine h_seq ?_
  refine h_reg ?_
  refine h_op (r_loadr rfl) ?_
  refine h_call (hC.comes) rfl rfl rfl fun _ => ?_
  refine h_op (r_assign rfl) ?_
  refine h_nil ?_
  refine q_then ?_
  refine h_seq ?_
  refine h_reg ?_
  refine h_op (r_move rfl) ?_
  refine h_op (r_neq rfl rfl) ?_
  refine h_nil ?_
  refine q_then ?_
  refine h_no rfl ((fun h => h rfl)) ?_
  refine h_skip ?_
  refine q_then ?_
  refine h_seq ?_
  refine h_reg ?_
  refine h_op (r_loadr rfl) ?_
  refine h_call (hS.comes) rfl rfl rfl fun _ => ?_
  refine h_opX (x_make0 rfl rfl) fun g15 => ?_
  refine h_op (r_assign rfl) ?_
  refine h_nil ?_
  refine q_then ?_
  refine h_seq ?_
  change H _ _ _ _ _ (.own (.slice (some ⟨g15, 0, none⟩) 0 sz) 0 _ _ (bc []) :: _) _
  refine h_reg ?_
  refine h_op (r_move rfl) ?_
  refine h_op (r_field rfl) ?_
  refine h_op (r_loadc rfl) ?_
  refine h_op (r_cNW rfl) ?_
  refine h_op (r_field rfl) ?_
  refine h_op (r_loadc rfl) ?_
  refine h_op (r_shr8 rfl rfl) ?_
  refine h_op (r_cNW rfl) ?_
  refine h_op (r_field rfl) ?_
  refine h_op (r_loadc rfl) ?_
  refine h_op (r_cNW rfl) ?_
  refine h_opX (x_bslV (ys := [.int .u8 1, .int .u8 ((BitVec.ofNat 8 k).toNat : Int), .int .u8 ((BitVec.ofNat 8 (d / 256)).toNat : Int), .int .u8 ((BitVec.ofNat 8 d).toNat : Int)]) (bc [1, u8n k, u8n (d / 256), u8n d]) rfl rfl (bc_one _)) fun g27 => ?_
  refine h_opX (x_appAB (ly := [1, u8n k, u8n (d / 256), u8n d]) rfl rfl (fun h => by cases h) rfl) fun ⟨A28, c28⟩ => ?_
  refine h_op (r_assign rfl) ?_
  refine h_nil ?_
  refine q_then ?_
  refine h_seq ?_
  refine h_reg ?_
  refine h_op (r_move rfl) ?_
  refine h_op (r_field rfl) ?_
  refine h_op (r_slA rfl) ?_
  refine h_opX (x_appAB (ly := p.bitmap.1) rfl rfl (fun h => by cases h) hbm (N' := (preC k d p.bitmap).length) (hN := hpl.symm) (hr := inferInstanceAs (Rd1 _ (.rd _ p.bitmap.cells)))) fun ⟨A32, c32⟩ => ?_
  refine h_op (r_assign rfl) ?_
  refine h_nil ?_
  refine q_then ?_
  refine h_seq ?_
  refine h_seq ?_
  change H _ _ _ _ _ (.own (.slice A32 (preC k d p.bitmap).length c32) (preC k d p.bitmap).length _ _ (bc (preC k d p.bitmap)) :: _) _
  refine h_pure (φ := ∃ g, A32 = some ⟨g, 0, none⟩) (fun w s => s.ownSome (N := (preC k d p.bitmap).length) (c := c32) (by omega)) ?_
  rintro ⟨ga, rfl⟩
  rcases hk1 with rfl | rfl
  · rw [preC_0 d p.leaf p.bitmap ss]
    refine h_reg ?_
    refine h_op (r_field rfl) ?_
    refine h_op (r_loadc rfl) ?_
    refine h_op (r_bool (r_eql rfl rfl) (show _ = false from rfl)) ?_
    refine h_nil ?_
    refine q_then ?_
    refine h_condF rfl ?_
    refine h_skip ?_
    refine q_then ?_
    refine h_seq ?_
    refine h_seq ?_
    refine h_reg ?_
    refine h_op (r_field rfl) ?_
    refine h_op (r_loadc rfl) ?_
    refine h_op (r_len rfl) ?_
    refine h_op (r_move rfl) ?_
    refine h_nil ?_
    refine q_then ?_
    refine h_block ?_
    refine h_loop (fun (s : Nat × Option Addr × Nat) => s.1 ≤ ss.length) (fun (s : Nat × Option Addr × Nat) => [(48, .int .i64 (s.1 : Int)), (47, .int .i64 (p.sibs.n : Int)), (46, .slice p.sibs.A p.sibs.n p.sibs.c), (5, .slice s.2.1 (upC 0 d p.leaf p.bitmap ss s.1).length s.2.2)]) (fun (s : Nat × Option Addr × Nat) => [.own (.slice s.2.1 (upC 0 d p.leaf p.bitmap ss s.1).length s.2.2) (upC 0 d p.leaf p.bitmap ss s.1).length 5 1 (bc (upC 0 d p.leaf p.bitmap ss s.1)), .rd p.sibs.A (dgs ss)]) (fun (s : Nat × Option Addr × Nat) => ss.length - s.1) (0, some ⟨ga, 0, none⟩, c32) ((show 0 ≤ ss.length from Nat.zero_le _)) ⟨rfl, rfl, rfl, rfl, trivial⟩ (same) ?_
    rintro ⟨i, A, c⟩ hi
    dsimp only at hi ⊢
    have hli := hloop i hi
    refine h_seq ?_
    refine h_reg ?_
    refine h_op (r_lss rfl rfl) ?_
    refine h_nil ?_
    refine q_then ?_
    refine h_seq ?_
    refine h_cond rfl (fun h => ?_) (fun h => ?_)
    · have hi2 : i < ss.length := by omega
      have hli2 := hloop (i + 1) hi2
      have hst := hstep i hi2
      refine h_pure (φ := ∃ b o, p.sibs.A = some ⟨b, o, none⟩) (fun w s => Rd.some (s.ok (.rd p.sibs.A (dgs ss)) (by simp)) (by rw [dgs_len]; omega)) ?_
      rintro ⟨bb, o, hA⟩
      rw [hA]
      refine h_skip ?_
      refine q_then ?_
      refine h_seq ?_
      refine h_block ?_
      refine h_seq ?_
      refine h_reg ?_
      refine h_op (r_idx rfl rfl) ?_
      refine h_op (r_nthr rfl (out := (ss.getD i zB32).cells) (B32.cells_length _) (dgs_at hi2)) ?_
      refine h_opX (x_alloc) fun g7 => ?_
      refine h_opS (s_storer rfl rfl) ?_
      refine h_nil ?_
      refine q_then ?_
      refine h_reg ?_
      refine h_op (r_move rfl) ?_
      refine h_op (r_slA rfl) ?_
      refine h_opX (x_appAB (ly := (ss.getD i zB32).1) rfl rfl (fun h => by cases h) (ss.getD i zB32).2 (N' := (upC 0 d p.leaf p.bitmap ss (i + 1)).length) (hN := by omega) (hr := inferInstanceAs (Rd1 _ (.rd _ (ss.getD i zB32).cells)))) fun ⟨A54, c54⟩ => ?_
      refine h_op (r_assign rfl) ?_
      refine h_nil ?_
      refine q_block ?_
      refine q_then ?_
      refine h_reg ?_
      refine h_op (r_add rfl rfl) ?_
      refine h_op (r_move rfl) ?_
      refine h_nil ?_
      rw [hst, ← hA]
      exact h_back (i + 1, A54, c54) ((show i + 1 ≤ ss.length from hi2)) ((show ss.length - (i + 1) < ss.length - i by omega)) ⟨rfl, rfl, rfl, rfl, trivial⟩ (same)
    · obtain rfl : i = ss.length := by omega
      refine h_exit ?_
      refine q_thenE ?_
      refine q_thenE ?_
      refine q_blockE ?_
      refine q_then ?_
      refine h_seq ?_
      refine h_reg ?_
      refine h_op (r_move rfl) ?_
      refine h_op (r_assign rfl) ?_
      refine h_op (r_assign rfl) ?_
      refine h_nil ?_
      refine q_then ?_
      refine h_ret ?_
      exact h_ret2 rfl rfl rfl fun w s => ⟨(A, c), rfl, (same (L' := [.own (.slice A (upC 0 d p.leaf p.bitmap ss ss.length).length c) (upC 0 d p.leaf p.bitmap ss ss.length).length 5 1 (bc (upC 0 d p.leaf p.bitmap ss ss.length))]) w s).res (List.Sublist.refl _) (by simp [Fa.wr])⟩
  · have hseg := fun g => preC_1 d p.leaf p.bitmap ss (some ⟨ga, 0, none⟩) c32 (some ⟨g, 2, none⟩) (some ⟨g, 34, none⟩)
    refine h_reg ?_
    refine h_op (r_field rfl) ?_
    refine h_op (r_loadc rfl) ?_
    refine h_op (r_bool (r_eql rfl rfl) (show _ = true from rfl)) ?_
    refine h_nil ?_
    refine q_then ?_
    refine h_condT rfl ?_
    refine ha_start [] [] mixed (same) ?_
    refine ha_takeP 0 rfl (r_move rfl) ?_
    refine ha_takeP 1 rfl (r_field rfl) ?_
    refine ha_takeP 2 rfl (r_field rfl) ?_
    refine ha_takeP 3 rfl (r_slA rfl) ?_
    refine ha_takeP 4 rfl (r_field rfl) ?_
    refine ha_takeP 5 rfl (r_field rfl) ?_
    refine ha_takeP 6 rfl (r_slA rfl) ?_
    refine ha_one 7 ?_
    refine ho_X 7 rfl (rk (x_bslV (ys := [.slice (some ⟨ga, 0, none⟩) (preC 1 d p.bitmap).length c32, .slice (some ⟨g1, 2, none⟩) 32 32, .slice (some ⟨g1, 34, none⟩) 32 32]) (svs [(some ⟨ga, 0, none⟩, c32, preC 1 d p.bitmap), (some ⟨g1, 2, none⟩, 32, p.leaf.key.1), (some ⟨g1, 34, none⟩, 32, p.leaf.value.1)]) rfl (by simp only [svs, sv, List.map_cons, List.map_nil, hlk, hlv]) (svs_one _))) (fun _ => same) fun g43 => ?_
    refine ha_one 8 ?_
    refine ho_C 8 rfl ((Concat_s [(some ⟨ga, 0, none⟩, c32, preC 1 d p.bitmap), (some ⟨g1, 2, none⟩, 32, p.leaf.key.1), (some ⟨g1, 34, none⟩, 32, p.leaf.value.1)] (some ⟨g43, 0, none⟩) 3 (by simp) (by simp [segN]; omega)).comes (hr := rds3 (c1 := bc (preC 1 d p.bitmap)) (c2 := p.leaf.key.cells) (c3 := p.leaf.value.cells) rfl rfl rfl)) rfl rfl rfl (fun xx => same) fun ⟨A44, c44⟩ => ?_
    refine ha_takeP 9 rfl (r_assign rfl) ?_
    refine ha_done (by kernel_rfl) ?_
    refine q_then ?_
    dsimp only
    rw [hseg]
    refine h_seq ?_
    refine h_seq ?_
    refine h_reg ?_
    refine h_op (r_field rfl) ?_
    refine h_op (r_loadc rfl) ?_
    refine h_op (r_len rfl) ?_
    refine h_op (r_move rfl) ?_
    refine h_nil ?_
    refine q_then ?_
    refine h_block ?_
    refine h_loop (fun (s : Nat × Option Addr × Nat) => s.1 ≤ ss.length) (fun (s : Nat × Option Addr × Nat) => [(48, .int .i64 (s.1 : Int)), (47, .int .i64 (p.sibs.n : Int)), (46, .slice p.sibs.A p.sibs.n p.sibs.c), (5, .slice s.2.1 (upC 1 d p.leaf p.bitmap ss s.1).length s.2.2)]) (fun (s : Nat × Option Addr × Nat) => [.own (.slice s.2.1 (upC 1 d p.leaf p.bitmap ss s.1).length s.2.2) (upC 1 d p.leaf p.bitmap ss s.1).length 5 1 (bc (upC 1 d p.leaf p.bitmap ss s.1)), .rd p.sibs.A (dgs ss)]) (fun (s : Nat × Option Addr × Nat) => ss.length - s.1) (0, A44, c44) ((show 0 ≤ ss.length from Nat.zero_le _)) ⟨rfl, rfl, rfl, rfl, trivial⟩ (same) ?_
    rintro ⟨i, A, c⟩ hi
    dsimp only at hi ⊢
    have hli := hloop i hi
    refine h_seq ?_
    refine h_reg ?_
    refine h_op (r_lss rfl rfl) ?_
    refine h_nil ?_
    refine q_then ?_
    refine h_seq ?_
    refine h_cond rfl (fun h => ?_) (fun h => ?_)
    · have hi2 : i < ss.length := by omega
      have hli2 := hloop (i + 1) hi2
      have hst := hstep i hi2
      refine h_pure (φ := ∃ b o, p.sibs.A = some ⟨b, o, none⟩) (fun w s => Rd.some (s.ok (.rd p.sibs.A (dgs ss)) (by simp)) (by rw [dgs_len]; omega)) ?_
      rintro ⟨bb, o, hA⟩
      rw [hA]
      refine h_skip ?_
      refine q_then ?_
      refine h_seq ?_
      refine h_block ?_
      refine h_seq ?_
      refine h_reg ?_
      refine h_op (r_idx rfl rfl) ?_
      refine h_op (r_nthr rfl (out := (ss.getD i zB32).cells) (B32.cells_length _) (dgs_at hi2)) ?_
      refine h_opX (x_alloc) fun g7 => ?_
      refine h_opS (s_storer rfl rfl) ?_
      refine h_nil ?_
      refine q_then ?_
      refine h_reg ?_
      refine h_op (r_move rfl) ?_
      refine h_op (r_slA rfl) ?_
      refine h_opX (x_appAB (ly := (ss.getD i zB32).1) rfl rfl (fun h => by cases h) (ss.getD i zB32).2 (N' := (upC 1 d p.leaf p.bitmap ss (i + 1)).length) (hN := by omega) (hr := inferInstanceAs (Rd1 _ (.rd _ (ss.getD i zB32).cells)))) fun ⟨A54, c54⟩ => ?_
      refine h_op (r_assign rfl) ?_
      refine h_nil ?_
      refine q_block ?_
      refine q_then ?_
      refine h_reg ?_
      refine h_op (r_add rfl rfl) ?_
      refine h_op (r_move rfl) ?_
      refine h_nil ?_
      rw [hst, ← hA]
      exact h_back (i + 1, A54, c54) ((show i + 1 ≤ ss.length from hi2)) ((show ss.length - (i + 1) < ss.length - i by omega)) ⟨rfl, rfl, rfl, rfl, trivial⟩ (same)
    · obtain rfl : i = ss.length := by omega
      refine h_exit ?_
      refine q_thenE ?_
      refine q_thenE ?_
      refine q_blockE ?_
      refine q_then ?_
      refine h_seq ?_
      refine h_reg ?_
      refine h_op (r_move rfl) ?_
      refine h_op (r_assign rfl) ?_
      refine h_op (r_assign rfl) ?_
      refine h_nil ?_
      refine q_then ?_
      refine h_ret ?_
      exact h_ret2 rfl rfl rfl fun w s => ⟨(A, c), rfl, (same (L' := [.own (.slice A (upC 1 d p.leaf p.bitmap ss ss.length).length c) (upC 1 d p.leaf p.bitmap ss ss.length).length 5 1 (bc (upC 1 d p.leaf p.bitmap ss ss.length))]) w s).res (List.Sublist.refl _) (by simp [Fa.wr])⟩
end Go.Proofs.YtgfkbeipckbkiaaGreatDoor
/- U58 -/
namespace Go.Proofs.YtgfkbeipckbkiaaGreatDoor
set_option linter.unusedSimpArgs false
set_option linter.unusedVariables false
open Go.RowKit
theorem bc_app (l m : List UInt8) : bc (l ++ m) = bc l ++ bc m := by unfold bc; rw [List.map_append]
theorem cutZ {h : Zh} {A : Option Addr} {l m : List UInt8} {c k : Nat} (hr : RdZ h A (bc (l ++ m))) (hk : l.length = k) (hk0 : 0 < k) (hc : k + m.length ≤ c) : RdZ h (cutA A c k 1) (bc m) := by
  unfold cutA
  split
  · have : m = [] := List.eq_nil_of_length_eq_zero (by omega)
    rw [this]
    exact RdZ.nil _ _
  · refine ⟨fun j v hv => ?_⟩
    have h1 := hr.at_ (k + j) v (by rw [bc_app, List.getElem?_append_right (by rw [bc_length]; omega), bc_length, hk, Nat.add_sub_cancel_left]; exact hv)
    obtain ⟨b, o, rfl, h2⟩ := h1
    exact ⟨b, o + k, by simp [Addr.add_mid], by rw [Nat.add_assoc]; exact h2⟩
section
variable (h : Zh)
theorem cpart_s (x : B32) (r : List UInt8) (A : Option Addr) (c g : Nat) [hr : RdZ h A (bc (x.1 ++ r))] (hc : 32 + r.length ≤ c) (hb : r.length ≤ 1000000000) :
    Spec Tryz.prog 152 [.pointer (some ⟨g, 0, none⟩)].toArray [.zone false h] [.blk g [.slice A (32 + r.length) c, .bool false] 241] (fun _ : {y : Option Addr × Nat // RdZ h y.1 (bc r) ∧ r.length ≤ y.2} => .agg x.cells.toArray) (fun y => [.blk g [.slice y.1.1 r.length y.1.2, .bool false] 241]) := by
  have hx := x.2
  have hlen : (bc (x.1 ++ r)).length = 32 + r.length := by rw [bc_length, List.length_append, hx]
  obtain ⟨b, o, rfl, -⟩ := hr.at_ 0 _ (List.getElem?_eq_getElem (by omega))
  have hx' : RowAt (bc (x.1 ++ r)) 0 32 x.cells := ⟨fun j v hv => by rw [bc_app, Nat.zero_add]; show (x.cells ++ bc r)[j]? = some v; rw [List.getElem?_append_left (List.getElem?_eq_some_iff.1 hv).1]; exact hv, B32.cells_length x⟩
  have hcz := cutZ hr hx (by omega) hc
  refine spec_of Tryz.func152 rfl (n := 28) rfl rfl ?_
  intro W
  refine h_seq ?_
  refine h_reg ?_
  refine h_opX (x_alloc) fun g2 => ?_
  refine h_nil ?_
  refine q_then ?_
  refine h_seq ?_
  refine h_seq ?_
  refine h_reg ?_
  refine h_op (r_move rfl) ?_
  refine h_op (r_nilc rfl) ?_
  refine h_op (r_field rfl) ?_
  refine h_op (r_loadc rfl) ?_
  refine h_op (r_len rfl) ?_
  refine h_op (r_bool (r_lss rfl rfl) (decide_eq_false (by omega))) ?_
  refine h_nil ?_
  refine q_then ?_
  refine h_condF rfl ?_
  refine h_skip ?_
  refine q_then ?_
  refine h_seq ?_
  refine h_reg ?_
  refine h_op (r_move rfl) ?_
  refine h_op (r_nilc rfl) ?_
  refine h_op (r_field rfl) ?_
  refine h_op (r_loadc rfl) ?_
  refine h_op (r_arr rfl) ?_
  refine h_op (r_loadr rfl) ?_
  refine h_opS (s_storer rfl rfl) ?_
  refine h_nil ?_
  refine q_then ?_
  refine h_seq ?_
  refine h_reg ?_
  refine h_op (r_move rfl) ?_
  refine h_op (r_move rfl) ?_
  refine h_op (r_nilc rfl) ?_
  refine h_op (r_field rfl) ?_
  refine h_op (r_loadc rfl) ?_
  refine h_op (r_as (r_slL rfl rfl) (show _ = Value.slice (cutA (some ⟨b, o, none⟩) c 32 1) r.length (c - 32) by rw [Nat.add_sub_cancel_left])) ?_
  refine h_op (r_nilc rfl) ?_
  refine h_op (r_field rfl) ?_
  refine h_opS (s_store rfl rfl rfl) ?_
  refine h_nil ?_
  refine q_then ?_
  refine h_seq ?_
  refine h_reg ?_
  refine h_op (r_loadr rfl) ?_
  refine h_opS (s_storer rfl rfl) ?_
  refine h_nil ?_
  refine q_then ?_
  refine h_ret ?_
  exact h_ret1 rfl (rv_row rfl) fun w s => ⟨⟨(cutA (some ⟨b, o, none⟩) c 32 1, c - 32), hcz, by dsimp only; omega⟩, rfl, (same w s).res (List.Sublist.refl _) (by simp [Fa.wr])⟩
end
end Go.Proofs.YtgfkbeipckbkiaaGreatDoor
/- U59 -/
namespace Go.Proofs.YtgfkbeipckbkiaaGreatDoor
set_option linter.unusedSimpArgs false
set_option linter.unusedVariables false
open Go.RowKit
end Go.Proofs.YtgfkbeipckbkiaaGreatDoor
