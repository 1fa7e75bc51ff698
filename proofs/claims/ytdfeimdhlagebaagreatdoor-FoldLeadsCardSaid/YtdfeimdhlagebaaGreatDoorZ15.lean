/- A proof's siblings, expanded: the program; law15.alive: it is true; The reference's proof of a map; law15.alive: it is true; Booleans compared; small laws; law15: ProofProves, ProofIsTrue are true; fold: the end, Backward; fold.ways: what it yields (joined texts: U17 U46 U50 U47 N12 U51 U18 U19) -/
import Derived.Test.YtdfeimdhlagebaaGreatDoorZ14
set_option linter.all false
/- U17 -/
namespace Go.Proofs.YtdfeimdhlagebaaGreatDoor
set_option linter.unusedSimpArgs false
set_option linter.unusedVariables false
open Go.RowKit
theorem ok_depth {p : Proof} (h : checkP p = 0) : 0 ≤ p.depth ∧ p.depth ≤ 256 := by simpa [okJ] using checkP_zero h 1 (by omega)
theorem ok_last {p : Proof} (h : checkP p = 0) : lastI p.bitmap 256 = p.depth - 1 := by simpa [okJ] using checkP_zero h 3 (by omega)
theorem ok_sibs {p : Proof} (h : checkP p = 0) : (depths p.bitmap).length = p.sibs.n := by
  have := checkP_zero h 4 (by omega)
  simp only [okJ, decide_eq_true_eq] at this
  omega
theorem Expand_bad (p : Proof) (h : checkP p ≠ 0) (gh : Nat) : Spec Tryz.prog 83 [.pointer (some ⟨gh, 0, none⟩), .agg p.cells.toArray].toArray [] [] (fun _ : Unit => .tuple #[.slice none 0 0, .int .i64 (checkP p)]) (fun _ => []) := by
  refine spec_of Tryz.func83 rfl (n := 40) rfl rfl ?_
  intro W
  refine h_seq ?_
  refine h_reg ?_
  refine h_opX (x_box rfl) fun g3 => ?_
  refine h_op (r_assign rfl) ?_
  refine h_op (r_assign rfl) ?_
  refine h_nil ?_
  refine q_then ?_
  refine h_seq ?_
  refine h_seq ?_
  refine h_reg ?_
  refine h_op (r_loadr rfl) ?_
  refine h_call ((Check_s p).comes) rfl rfl rfl fun _ => ?_
  refine h_op (r_assign rfl) ?_
  refine h_nil ?_
  refine q_then ?_
  refine h_seq ?_
  refine h_reg ?_
  refine h_op (r_move rfl) ?_
  refine h_op (r_neq rfl rfl) ?_
  refine h_nil ?_
  refine q_then ?_
  refine h_yes rfl (h) ?_
  refine h_seq ?_
  refine h_reg ?_
  refine h_op (r_move rfl) ?_
  refine h_op (r_assign rfl) ?_
  refine h_op (r_assign rfl) ?_
  refine h_nil ?_
  refine q_then ?_
  refine h_ret ?_
  refine q_thenR ?_
  exact h_ret2 rfl rfl rfl fun w s => ⟨(), rfl, s.res (List.nil_sublist _) (by simp)⟩
theorem Expand_s (p : Proof) (hc : checkP p = 0) (ss : List B32) (hs : p.sibs.n = ss.length) (n : Nat) (hn : n ≤ 256) (gh gc k : Nat) (hk : k ≤ 1000000000000) (d : Nat) (hd : p.depth = (d : Int)) : Spec Tryz.prog 83 [.pointer (some ⟨gh, 0, none⟩), .agg p.cells.toArray].toArray [.rd (some ⟨gh, 0, none⟩) [.pointer (some ⟨gc, 0, none⟩), .int .i64 (n : Int)], .rd p.sibs.A (dgs ss), .rd (some ⟨0, 0, none⟩) hashT] [.blk gc [.int .i64 (k : Int)] 166] (fun g : Nat => .tuple #[.slice (some ⟨g, 0, none⟩) d d, .int .i64 0]) (fun g => [.own (.slice (some ⟨g, 0, none⟩) d d) d 31 32 (dgs (expL (sumB n preE) p.bitmap ss d)), .blk gc [.int .i64 ((k + 1 : Nat) : Int)] 166]) := by
  have hd2 := ok_depth hc
  have hl := ok_last hc
  have hsb := ok_sibs hc
  have hd256 : d ≤ 256 := by omega
  have hl256 : (depths p.bitmap).length ≤ 256 := dep_len p.bitmap 256
  refine spec_of Tryz.func83 rfl (n := 40) rfl rfl ?_
  intro W
  refine h_seq ?_
  refine h_reg ?_
  refine h_opX (x_box rfl) fun g3 => ?_
  refine h_op (r_assign rfl) ?_
  refine h_op (r_assign rfl) ?_
  refine h_nil ?_
  refine q_then ?_
  refine h_seq ?_
  refine h_seq ?_
  refine h_reg ?_
  refine h_op (r_loadr rfl) ?_
  refine h_call ((Check_s p).comes) rfl rfl rfl fun _ => ?_
  rw [hc]
  refine h_op (r_assign rfl) ?_
  refine h_nil ?_
  refine q_then ?_
  refine h_seq ?_
  refine h_reg ?_
  refine h_op (r_move rfl) ?_
  refine h_op (r_neq rfl rfl) ?_
  refine h_nil ?_
  refine q_then ?_
  refine h_no rfl ((fun h => h rfl)) ?_
  refine h_skip ?_
  refine q_then ?_
  refine h_seq ?_
  refine ha_start [.blk g3 p.cells 36] [] mixed (same) ?_
  refine ha_takeP 0 rfl (r_move rfl) ?_
  refine ha_takeP 3 rfl (r_field rfl) ?_
  refine ha_take 4 rfl (r_int (r_loadc rfl) hd) ?_
  refine ha_one 1 ?_
  refine ho_C 1 rfl ((nilDigest_s n hn gh gc k hk).comes) rfl rfl rfl (fun _ => same) fun _ => ?_
  refine ha_one 2 ?_
  refine ho_X 2 rfl (rk (x_bsl rfl rfl)) (fun _ => same) fun g17 => ?_
  refine ha_one 5 ?_
  refine ho_C 5 rfl ((Repeat_s (sumB n preE) d g17 0 1 hd256).comes) rfl rfl rfl (fun _ => same) fun g20 => ?_
  refine ha_takeP 6 rfl (r_assign rfl) ?_
  refine ha_done (by kernel_rfl) ?_
  refine q_then ?_
  rw [← expJ_0 (sumB n preE) p.bitmap ss d]
  generalize sumB n preE = e at *
  refine h_seq ?_
  refine h_seq ?_
  refine h_reg ?_
  refine h_op (r_field rfl) ?_
  refine h_op (r_loadr rfl) ?_
  refine h_call ((List_s p.bitmap).comes) rfl rfl rfl fun ⟨A23, c23⟩ => ?_
  dsimp only
  refine h_op (r_len rfl) ?_
  refine h_op (r_move rfl) ?_
  refine h_nil ?_
  refine q_then ?_
  refine h_block ?_
  refine h_loop (fun (j : Nat) => j ≤ (depths p.bitmap).length) (fun (j : Nat) => [(25, .int .i64 (j : Int)), (24, .int .i64 ((depths p.bitmap).length : Int)), (23, .slice A23 (depths p.bitmap).length c23), (7, .slice (some ⟨g20, 0, none⟩) d d), (3, .pointer (some ⟨g3, 0, none⟩))]) (fun (j : Nat) => [.own (.slice A23 (depths p.bitmap).length c23) (depths p.bitmap).length 3 1 (ic (depths p.bitmap)), .own (.slice (some ⟨g20, 0, none⟩) d d) d 31 32 (dgs (expJ e p.bitmap ss d j)), .blk gc [.int .i64 ((k + 1 : Nat) : Int)] 166, .blk g3 p.cells 36, .rd p.sibs.A (dgs ss)]) (fun (j : Nat) => (depths p.bitmap).length - j) 0 (Nat.zero_le _) ⟨rfl, rfl, rfl, rfl, rfl, trivial⟩ (same) ?_
  intro j hj
  refine h_seq ?_
  refine h_reg ?_
  refine h_op (r_lss rfl rfl) ?_
  refine h_nil ?_
  refine q_then ?_
  refine h_seq ?_
  refine h_cond rfl (fun h => ?_) (fun h => ?_)
  · have hlt : j < (depths p.bitmap).length := by omega
    obtain ⟨i, hi⟩ : ∃ i, (depths p.bitmap)[j]? = some i := ⟨_, List.getElem?_eq_getElem hlt⟩
    obtain ⟨h1, h2, h3⟩ := dep_pos hi
    have hmx := lastI_max p.bitmap 256 i h1 h2
    have hid : i < d := by omega
    have hgi : (depths p.bitmap).getD j 0 = i := by rw [List.getD, hi]; rfl
    have hset := expJ_set e p.bitmap ss d j hi hd256 hid
    have hdl := expJ_len e p.bitmap ss d j
    have hds := dgs_set (expJ e p.bitmap ss d j) i (ss.getD j zB32) (by omega)
    rw [hset] at hds
    have hjs : j < ss.length := by omega
    refine h_pure (φ := (∃ g, A23 = some ⟨g, 0, none⟩) ∧ ∃ b o, p.sibs.A = some ⟨b, o, none⟩) (fun w s => ⟨s.ownSome (N := (depths p.bitmap).length) (c := c23) (by omega), Rd.some (s.ok (.rd p.sibs.A (dgs ss)) (by simp)) (by rw [dgs_len]; omega)⟩) ?_
    rintro ⟨⟨g23, rfl⟩, b, o, hA⟩
    refine h_skip ?_
    refine q_then ?_
    refine h_seq ?_
    refine h_block ?_
    refine h_seq ?_
    refine h_reg ?_
    refine h_op (r_move rfl) ?_
    refine h_op (r_idx rfl rfl) ?_
    refine h_op (r_nth rfl (ic_at (by omega))) ?_
    refine h_op (r_assign rfl) ?_
    refine h_op (r_assign rfl) ?_
    refine h_nil ?_
    refine q_then ?_
    refine h_reg ?_
    rw [hgi]
    refine h_op (r_move rfl) ?_
    refine h_op (r_move rfl) ?_
    refine h_op (r_field rfl) ?_
    refine h_op (r_loadc rfl) ?_
    rw [hA]
    refine h_op (r_move rfl) ?_
    refine h_op (r_idx rfl rfl) ?_
    refine h_op (r_nthr rfl (out := (ss.getD j zB32).cells) (B32.cells_length _) (dgs_at hjs)) ?_
    refine h_op (r_idx rfl rfl) ?_
    refine h_opS (s_setrO rfl rfl (by rw [dgs_len, hdl]; omega) hds) ?_
    refine h_nil ?_
    refine q_block ?_
    refine q_then ?_
    refine h_reg ?_
    refine h_op (r_add rfl rfl) ?_
    refine h_op (r_move rfl) ?_
    refine h_nil ?_
    exact h_back (j + 1) (by omega) (by omega) ⟨rfl, rfl, rfl, rfl, rfl, trivial⟩ (same)
  · obtain rfl : j = (depths p.bitmap).length := by omega
    rw [expJ_all e p.bitmap ss d _ hd256 (Nat.le_refl _)]
    refine h_exit ?_
    refine q_thenE ?_
    refine q_thenE ?_
    refine q_blockE ?_
    refine q_then ?_
    refine h_seq ?_
    refine h_reg ?_
    refine h_op (r_move rfl) ?_
    refine h_op (r_assign rfl) ?_
    refine h_op (r_assign rfl) ?_
    refine h_nil ?_
    refine q_then ?_
    refine h_ret ?_
    exact h_ret2 rfl rfl rfl fun w s => ⟨g20, rfl, (same w s).res (List.Sublist.refl _) (by simp [Fa.wr])⟩
end Go.Proofs.YtdfeimdhlagebaaGreatDoor
/- U46 -/
namespace Go.Proofs.YtdfeimdhlagebaaGreatDoor
set_option linter.unusedSimpArgs false
set_option linter.unusedVariables false
open Go.RowKit
/-- the deepest subtree beside the way is not empty -/
def LastOk (key : B32) (t : Tr) (D : Nat) : Prop := ∀ i, D = i + 1 → (sibK key t i).kind ≠ 0
theorem prf_depths {key : B32} {t : Tr} {D : Nat} (hD : D ≤ 256) : depths (dset (dsK key t D)) = dsK key t D :=
  dset_depths ((List.pairwise_lt_range).filter _) fun i hi => by have := dsK_lt hi; omega
theorem prf_ok (n : Nat) {key : B32} {t : Tr} {D : Nat} (hD : WayTo key t D) (hL : LastOk key t D) (A : Option Addr) (c : Nat) : checkP (prfK n key t D A c) = 0 := by
  have hle := hD.le
  have hdep := prf_depths (key := key) (t := t) hle
  have hk : (wayK key t D).kind = 0 ∨ (wayK key t D).kind = 1 := by
    have := hD.end_
    generalize wayK key t D = x at *
    cases x with
    | nil => exact .inl rfl
    | leaf k v => exact .inr rfl
    | node l r => exact (this rfl).elim
  refine checkP_ok ?_ ?_ ?_ ?_ ?_
  · show (decide (((wayK key t D).kind : Int) = 0) || decide (((wayK key t D).kind : Int) = 1)) = true
    rcases hk with h | h <;> rw [h] <;> rfl
  · show (decide (0 ≤ (D : Int)) && decide ((D : Int) ≤ 256)) = true
    simp; omega
  · show (decide (((wayK key t D).kind : Int) = 1) || decide (leafT n (wayK key t D) = zLeaf)) = true
    rcases hk with h | h
    · rw [leafT_ne n _ (by omega)]; simp
    · rw [h]; rfl
  · show decide (lastI (dset (dsK key t D)) 256 = (D : Int) - 1) = true
    refine decide_eq_true ?_
    rcases D with _ | i
    · rw [lastI_nil (by rw [hdep]; rfl)]; rfl
    · have h1 := dsK_yes (hL i rfl)
      rw [lastI_pos (by rw [hdep, h1]; simp), hdep, h1]
      simp
  · show decide (((depths (dset (dsK key t D))).length : Int) = ((dsK key t D).length : Int)) = true
    rw [hdep]; simp
theorem rsK_len (n : Nat) (key : B32) (t : Tr) (D : Nat) : (rsK n key t D).length = (dsK key t D).length := by unfold rsK; rw [List.length_map]
def kB (x : UInt8) : B32 := ⟨x :: List.replicate 31 0, rfl⟩
def T15 : Tr := .node (.leaf zB32 []) (.leaf (kB 255) [])
def L15 : List En := [⟨⟨zB32, ⟨none, 0, 0⟩⟩, []⟩, ⟨⟨kB 255, ⟨none, 0, 0⟩⟩, []⟩]
def ts15 : Nat → Tr
  | 0 => .nil
  | 1 => .leaf zB32 []
  | _ => T15
theorem slz_nil (h : Zh) : SlZ h ⟨none, 0, 0⟩ [] := ⟨rfl, Nat.le_refl _, fun _ => ⟨rfl, rfl⟩, RdZ.nil _ _⟩
theorem puts15 : Puts L15 ts15 := by
  intro i e he
  match i, he with
  | 0, he =>
    obtain rfl : _ = e := Option.some.inj he
    exact ⟨by decide, 0, ⟨by omega, (by intro h; cases h), (fun i hi => by omega)⟩, (fun k' v' h => by cases h), rfl⟩
  | 1, he =>
    obtain rfl : _ = e := Option.some.inj he
    refine ⟨by decide, 0, ⟨by omega, (by intro h; cases h), (fun i hi => by omega)⟩, fun k' v' _ _ => Nat.zero_le _, ?_⟩
    have h1 : ¬ zB32 = kB 255 := by decide
    have h2 : common zB32 (kB 255) = 0 := by decide +kernel
    have h3 : bitAt zB32 0 = false := by decide +kernel
    show T15 = upD (kB 255) _ 0 (if zB32 = kB 255 then _ else pairT (.leaf zB32 []) (.leaf (kB 255) []) 0)
    rw [if_neg h1]
    show T15 = pairT (.leaf zB32 []) (.leaf (kB 255) []) 0
    unfold pairT
    show T15 = upN zB32 0 (common zB32 (kB 255) - 0) (jnK zB32 (common zB32 (kB 255)) _ _)
    rw [h2]
    show T15 = jnK zB32 0 _ _
    unfold jnK
    rw [h3, if_neg (by simp)]
    rfl
  | i + 2, he => cases he
theorem vals15 (h : Zh) : ValsZ h L15 := by
  intro e he
  simp only [L15, List.mem_cons, List.not_mem_nil, or_false] at he
  rcases he with rfl | rfl
  · exact ⟨slz_nil h, by decide⟩
  · exact ⟨slz_nil h, by decide⟩
theorem b128 : bitAt (kB 128) 0 = true := by decide +kernel
theorem way15 : WayTo (kB 128) T15 1 := by
  have e : wayK (kB 128) T15 1 = .leaf (kB 255) [] := by
    show T15.sub (bitAt (kB 128) 0) = _
    rw [b128]; rfl
  refine ⟨by omega, by rw [e]; decide, fun i hi => ?_⟩
  obtain rfl : i = 0 := by omega
  rfl
theorem last15 : LastOk (kB 128) T15 1 := by
  intro i hi
  obtain rfl : i = 0 := by omega
  show (T15.sub (!bitAt (kB 128) 0)).kind ≠ 0
  rw [b128]; decide
theorem prf15 (A : Option Addr) (c : Nat) : prfK 256 (kB 128) T15 1 A c = ⟨1, 1, leafOf 256 (kB 255) [], dset [0], ⟨A, 1, c⟩⟩ := by
  have e : wayK (kB 128) T15 1 = .leaf (kB 255) [] := by
    show T15.sub (bitAt (kB 128) 0) = _
    rw [b128]; rfl
  have e2 : dsK (kB 128) T15 1 = [0] := by rw [dsK_yes (last15 0 rfl)]; rfl
  unfold prfK
  rw [e, e2]
  rfl
theorem z7 : prfK 256 (kB 7) .nil 0 none 0 = zProof := by
  unfold prfK
  show (⟨0, 0, zLeaf, dset [], ⟨none, 0, 0⟩⟩ : Proof) = zProof
  rw [dset_nil]; rfl
end Go.Proofs.YtdfeimdhlagebaaGreatDoor
/- U50 -/
namespace Go.Proofs.YtdfeimdhlagebaaGreatDoor
set_option linter.unusedSimpArgs false
set_option linter.unusedVariables false
open Go.RowKit
theorem dsK_pw (key : B32) (t : Tr) (D : Nat) : (dsK key t D).Pairwise (· < ·) := (List.pairwise_lt_range).filter _
/-- the loop over the depths -/
theorem leafT_one (n : Nat) (e : En) {d : Nat} (h : d ≤ 256) : leafT n (mkT [e] d) = leafOf n e.key e.val := by rw [mkT_one e h]; rfl
theorem leafT_nil (n d : Nat) : leafT n (mkT [] d) = zLeaf := by rw [mkT_nil]; rfl
theorem kind_one (e : En) {d : Nat} (h : d ≤ 256) : (mkT [e] d).kind = 1 := by rw [mkT_one e h]; rfl
theorem kind_nil (d : Nat) : (mkT [] d).kind = 0 := by rw [mkT_nil]; rfl
theorem rProve_s (n : Nat) (hn : n ≤ 256) (h : Zh) (m : List En) (B : Option Addr) (c : Nat) [hB : RdZ h B (ents m)] (hv : ValsZ h m) (hal : Alike m 0) (key : B32) (D : Nat) (hD : D ≤ 256) (h1 : (atM key m D).length ≤ 1) (h2 : ∀ i, i < D → 1 < (atM key m i).length) (hm : m.length ≤ 1000000) (t : Tr) (ht : ∀ i, i < D → sibK key t i = mkT (sibM key m i) (i + 1)) (hw : wayK key t D = mkT (atM key m D) D) :
    Spec Tryz.prog 13 [.int .i64 (n : Int), .slice B m.length c, .agg key.cells.toArray].toArray [] [.zone true h] (fun x : {x : Zh × Option Addr × Nat // LeZ h x.1} => .agg (prfK n key t D x.1.2.1 x.1.2.2).cells.toArray) (fun x => [.own (.slice x.1.2.1 (dsK key t D).length x.1.2.2) (dsK key t D).length 31 32 (dgs (rsK n key t D)), .zone true x.1.1]) := by
  have hend := rEnd_s h m B c key D hD h1 h2 hm
  have hva := atM_vals (key := key) hv D
  unfold prfK
  rw [hw]
  generalize atM key m D = q at *
  refine spec_of Tryz.func13 rfl (n := 66) rfl rfl ?_
  intro W
  refine h_seq ?_
  refine h_reg ?_
  refine h_opX (x_box rfl) fun g5 => ?_
  refine h_opX (x_alloc) fun g6 => ?_
  refine h_nil ?_
  refine q_then ?_
  refine h_seq ?_
  refine h_reg ?_
  refine h_op (r_move rfl) ?_
  refine h_op (r_loadr rfl) ?_
  refine h_call (hend.comes) rfl rfl rfl fun ⟨⟨h3, A16, c16⟩, hle3, hr3⟩ => ?_
  dsimp only at hle3 hr3 ⊢
  rcases q with _ | ⟨e, _ | ⟨f, q⟩⟩
  · rw [leafT_nil, kind_nil]
    refine h_op (r_move rfl) ?_
    refine h_op (r_extract rfl rfl) ?_
    refine h_op (r_extract rfl rfl) ?_
    refine h_op (r_assign rfl) ?_
    refine h_op (r_assign rfl) ?_
    refine h_nil ?_
    refine q_then ?_
    refine h_seq ?_
    refine h_reg ?_
    refine h_op (r_move rfl) ?_
    refine h_op (r_build rfl) ?_
    refine h_opX (x_alloc) fun g9 => ?_
    refine h_opS (s_storer rfl rfl) ?_
    refine h_nil ?_
    refine q_then ?_
    refine h_seq ?_
    refine h_seq ?_
    refine h_reg ?_
    refine h_op (r_move rfl) ?_
    refine h_op (r_len rfl) ?_
    refine h_op (r_bool (r_eql rfl rfl) (show _ = false by simp)) ?_
    refine h_nil ?_
    refine q_then ?_
    refine h_condF rfl ?_
    refine h_skip ?_
    refine q_then ?_
    refine h_seq ?_
    refine h_reg ?_
    refine h_op (r_assign rfl) ?_
    refine h_nil ?_
    refine q_then ?_
    refine h_seq ?_
    refine h_seq ?_
    refine h_reg ?_
    refine h_op (r_assign rfl) ?_
    refine h_nil ?_
    refine q_then ?_
    refine h_block ?_
    refine h_nil_own 3 1 (xs := ic (dsK key t 0)) rfl ?_
    refine h_nil_own 31 32 (xs := dgs (rsK n key t 0)) rfl ?_
    change H _ _ _ _ _ (.own (.slice none (dsK key t 0).length 0) (dsK key t 0).length _ _ (dgs (rsK n key t 0)) :: .own (.slice none (dsK key t 0).length 0) (dsK key t 0).length _ _ (ic (dsK key t 0)) :: .blk g9 (Proof.cells ⟨(0 : Nat), (D : Int), zLeaf, zB32, ⟨none, (dsK key t 0).length, 0⟩⟩) _ :: _) _
    refine h_loop (fun (s : Nat × Zh × (Option Addr × Nat) × Option Addr × Nat) => s.1 ≤ D ∧ LeZ h s.2.1) (fun (s : Nat × Zh × (Option Addr × Nat) × Option Addr × Nat) => [(11, .int .i64 (s.1 : Int)), (10, .slice s.2.2.1.1 (dsK key t s.1).length s.2.2.1.2), (8, .int .i64 (D : Int)), (9, .pointer (some ⟨g9, 0, none⟩)), (0, .int .i64 (n : Int)), (1, .slice B m.length c), (5, .pointer (some ⟨g5, 0, none⟩)), (6, .pointer (some ⟨g6, 0, none⟩))]) (fun (s : Nat × Zh × (Option Addr × Nat) × Option Addr × Nat) => [.own (.slice s.2.2.2.1 (dsK key t s.1).length s.2.2.2.2) (dsK key t s.1).length 31 32 (dgs (rsK n key t s.1)), .own (.slice s.2.2.1.1 (dsK key t s.1).length s.2.2.1.2) (dsK key t s.1).length 3 1 (ic (dsK key t s.1)), .blk g9 (Proof.cells ⟨(0 : Nat), (D : Int), zLeaf, zB32, ⟨s.2.2.2.1, (dsK key t s.1).length, s.2.2.2.2⟩⟩) 36, .blk g6 zProof.cells 36, .blk g5 key.cells 24, .zone true s.2.1]) (fun (s : Nat × Zh × (Option Addr × Nat) × Option Addr × Nat) => D - s.1) (0, h3, (none, 0), none, 0) ((show 0 ≤ D ∧ LeZ h h3 from ⟨Nat.zero_le _, hle3⟩)) ⟨rfl, rfl, rfl, rfl, rfl, rfl, rfl, rfl, trivial⟩ (same) ?_
    rintro ⟨i, h4, ⟨A1, c1⟩, A2, c2⟩ ⟨hi, hle4⟩
    dsimp only at hi hle4 ⊢
    refine h_seq ?_
    refine h_seq ?_
    refine h_reg ?_
    refine h_op (r_move rfl) ?_
    refine h_op (r_move rfl) ?_
    refine h_op (r_lss rfl rfl) ?_
    refine h_nil ?_
    refine q_then ?_
    refine h_cond rfl (fun hiD' => ?_) (fun hiD' => ?_)
    · have hiD : i < D := by omega
      have hlen := dsK_len key t i
      have hsle := Nat.le_trans (part_le (atM key m i) i (!bitAt key i)) (atM_le key m i)
      have hsib := ht i hiD
      have hkd := mkT_kind (sibM key m i) (d := i + 1) (by omega)
      have hsa : Alike (sibM key m i) (i + 1) := (atM_alike hal i).part _
      change (sibM key m i).length ≤ _ at hsle
      refine h_skip ?_
      refine q_then ?_
      refine h_seq ?_
      refine h_block ?_
      refine h_seq ?_
      refine h_reg ?_
      refine h_op (r_move rfl) ?_
      refine h_op (r_loadr rfl) ?_
      refine h_op (r_move rfl) ?_
      refine h_call ((rSibling_s h4 m B c key i (by omega) hm).comes) rfl rfl rfl fun ⟨⟨h5, A44, c44⟩, hle5, hr5⟩ => ?_
      dsimp only at hle5 hr5 ⊢
      have hvs : ValsZ h5 (sibM key m i) := (((atM_vals (key := key) hv i).part i (!bitAt key i)).mono hle4).mono hle5
      by_cases h6 : 0 < (sibM key m i).length
      · have hk1 : (sibK key t i).kind ≠ 0 := by rw [hsib, hkd]; omega
        have hroot := Root_any n hn h5 (show i + 1 ≤ 256 by omega) hsa (by omega) hvs A44 c44
        rw [show rootM n (sibM key m i) (i + 1) = dgT n (sibK key t i) by rw [hsib]; rfl] at hroot
        have hds := dsK_yes hk1
        have hrs := rsK_yes n hk1
        have hlen1 : (dsK key t i).length + 1 = (dsK key t (i + 1)).length := by rw [hds, List.length_append]; rfl
        refine h_op (r_assign rfl) ?_
        refine h_nil ?_
        refine q_then ?_
        refine h_seq ?_
        refine h_reg ?_
        refine h_op (r_move rfl) ?_
        refine h_op (r_len rfl) ?_
        refine h_op (r_gtr rfl rfl) ?_
        refine h_nil ?_
        refine q_then ?_
        refine h_yes rfl ((by omega)) ?_
        refine h_seq ?_
        refine h_reg ?_
        refine h_op (r_move rfl) ?_
        refine h_op (r_move rfl) ?_
        refine h_opX (x_bsl rfl rfl) fun g50 => ?_
        refine h_opX (x_app1I rfl rfl (hN := hlen1)) fun ⟨g51, c51⟩ => ?_
        refine h_op (r_assign rfl) ?_
        refine h_nil ?_
        refine q_then ?_
        rw [← hds]
        refine ha_start [.blk g9 (Proof.cells ⟨(0 : Nat), (D : Int), zLeaf, zB32, ⟨A2, (dsK key t i).length, c2⟩⟩) 36] [] mixed (same) ?_
        refine ha_takeP 0 rfl (r_field rfl) ?_
        refine ha_take 1 rfl (r_loadc rfl) ?_
        refine ha_takeP 2 rfl (r_move rfl) ?_
        refine ha_takeP 3 rfl (r_move rfl) ?_
        refine ha_takeP 4 rfl (r_move rfl) ?_
        refine ha_takeP 5 rfl (r_add rfl rfl) ?_
        refine ha_one 6 ?_
        refine ho_C 6 rfl (hroot.comes) rfl rfl rfl (fun _ => same) fun _ => ?_
        refine ha_one 7 ?_
        refine ho_X 7 rfl (rk (x_bsl rfl rfl)) (fun _ => same) fun g59 => ?_
        refine ha_one 8 ?_
        refine ho_X 8 rfl (rk (x_app rfl rfl (k := 32))) (fun _ => same) fun ⟨g60, c60⟩ => ?_
        refine ha_takeP 9 rfl (r_field rfl) ?_
        refine ha_one 10 ?_
        refine ho_SL 10 rfl (s_store rfl rfl rfl) ?_
        refine q_block ?_
        refine q_then ?_
        rw [← hrs, hlen1]
        refine h_reg ?_
        refine h_op (r_move rfl) ?_
        refine h_op (r_add rfl rfl) ?_
        refine h_op (r_assign rfl) ?_
        refine h_nil ?_
        exact h_back (i + 1, h5, (some ⟨g51, 0, none⟩, c51), some ⟨g60, 0, none⟩, c60) ((show i + 1 ≤ D ∧ LeZ h h5 from ⟨by omega, hle4.trans hle5⟩)) ((show D - (i + 1) < D - i by omega)) ⟨rfl, rfl, rfl, rfl, rfl, rfl, rfl, rfl, trivial⟩ (same)
      · have hk1 : ¬ (sibK key t i).kind ≠ 0 := by rw [hsib, hkd]; omega
        have hds := dsK_no hk1
        have hrs := rsK_no n hk1
        refine h_op (r_assign rfl) ?_
        refine h_nil ?_
        refine q_then ?_
        refine h_seq ?_
        refine h_reg ?_
        refine h_op (r_move rfl) ?_
        refine h_op (r_len rfl) ?_
        refine h_op (r_gtr rfl rfl) ?_
        refine h_nil ?_
        refine q_then ?_
        refine h_no rfl ((by omega)) ?_
        refine h_skip ?_
        refine q_block ?_
        refine q_then ?_
        refine h_reg ?_
        refine h_op (r_move rfl) ?_
        refine h_op (r_add rfl rfl) ?_
        refine h_op (r_assign rfl) ?_
        refine h_nil ?_
        rw [← hds, ← hrs]
        exact h_back (i + 1, h5, (A1, c1), A2, c2) ((show i + 1 ≤ D ∧ LeZ h h5 from ⟨by omega, hle4.trans hle5⟩)) ((show D - (i + 1) < D - i by omega)) ⟨rfl, rfl, rfl, rfl, rfl, rfl, rfl, rfl, trivial⟩ (same)
    · obtain rfl : i = D := by omega
      have hlen := dsK_len key t i
      refine h_exit ?_
      refine q_thenE ?_
      refine q_thenE ?_
      refine q_blockE ?_
      refine q_then ?_
      refine h_seq ?_
      refine h_reg ?_
      refine h_op (r_move rfl) ?_
      refine h_call ((rBytes14_s (dsK key t i) (dsK_pw key t i) (fun j hj => by have := dsK_lt hj; omega) A1 c1 (by omega)).comes) rfl rfl rfl fun _ => ?_
      refine h_op (r_field rfl) ?_
      refine h_opS (s_storer rfl rfl) ?_
      refine h_nil ?_
      refine q_then ?_
      refine h_seq ?_
      refine h_reg ?_
      refine h_op (r_loadr rfl) ?_
      refine h_opS (s_storer rfl rfl) ?_
      refine h_nil ?_
      refine q_then ?_
      refine h_ret ?_
      exact h_ret1 rfl (rv_row rfl) fun w s => ⟨⟨(h4, A2, c2), hle4⟩, rfl, (same (L' := [.own (.slice A2 (dsK key t i).length c2) (dsK key t i).length 31 32 (dgs (rsK n key t i)), .zone true h4]) w s).res (List.Sublist.refl _) (by simp [Fa.wr])⟩
  · rw [leafT_one n e hD, kind_one e hD]
    obtain ⟨hs, hvl⟩ := hva e (by simp)
    obtain ⟨⟨key', A, N, cc⟩, b⟩ := e
    obtain rfl : N = b.length := hs.len
    have hA : A = none → b.length = 0 ∧ cc = 0 := hs.nil
    have hrd : RdZ h A (bc b) := hs.rd
    dsimp only at hvl
    have h0 : 0 < (ents [⟨⟨key', ⟨A, b.length, cc⟩⟩, b⟩]).length := by rw [ents_len]; exact Nat.zero_lt_succ _
    obtain ⟨bb, o, rfl, -⟩ := hr3.at_ 0 _ (List.getElem?_eq_getElem h0)
    refine h_op (r_move rfl) ?_
    refine h_op (r_extract rfl rfl) ?_
    refine h_op (r_extract rfl rfl) ?_
    refine h_op (r_assign rfl) ?_
    refine h_op (r_assign rfl) ?_
    refine h_nil ?_
    refine q_then ?_
    refine h_seq ?_
    refine h_reg ?_
    refine h_op (r_move rfl) ?_
    refine h_op (r_build rfl) ?_
    refine h_opX (x_alloc) fun g9 => ?_
    refine h_opS (s_storer rfl rfl) ?_
    refine h_nil ?_
    refine q_then ?_
    refine h_seq ?_
    refine h_seq ?_
    refine h_reg ?_
    refine h_op (r_move rfl) ?_
    refine h_op (r_len rfl) ?_
    refine h_op (r_bool (r_eql rfl rfl) (show _ = true by simp)) ?_
    refine h_nil ?_
    refine q_then ?_
    refine h_condT rfl ?_
    refine h_seq ?_
    refine h_reg ?_
    refine h_op (r_field rfl) ?_
    refine h_opS (s_store rfl rfl rfl) ?_
    refine h_nil ?_
    refine q_then ?_
    refine ha_start [.zone true h3] [] mixed (same) ?_
    refine ha_takeP 0 rfl (r_move rfl) ?_
    refine ha_takeP 1 rfl (r_move rfl) ?_
    refine ha_takeP 2 rfl (r_idx rfl rfl (hm := by simp)) ?_
    refine ha_takeP 3 rfl (r_field rfl) ?_
    refine ha_take 4 rfl (r_nthr rfl (out := key'.cells) (B32.cells_length _) (ents_key0 ⟨⟨key', ⟨A, b.length, cc⟩⟩, b⟩)) ?_
    refine ha_takeP 5 rfl (r_move rfl) ?_
    refine ha_takeP 6 rfl (r_idx rfl rfl (hm := by simp)) ?_
    refine ha_takeP 7 rfl (r_field rfl) ?_
    refine ha_take 8 rfl (r_nth rfl (ents_val0 ⟨⟨key', ⟨A, b.length, cc⟩⟩, b⟩)) ?_
    refine ha_one 9 ?_
    refine ho_C 9 rfl ((rLeafOf_s n hn key' b A cc hA (by omega)).comes) rfl rfl rfl (fun _ => same) fun _ => ?_
    refine ha_takeP 10 rfl (r_field rfl) ?_
    refine ha_one 11 ?_
    refine ho_SL 11 rfl (s_storer rfl rfl) ?_
    refine q_then ?_
    refine h_seq ?_
    refine h_reg ?_
    refine h_op (r_assign rfl) ?_
    refine h_nil ?_
    refine q_then ?_
    refine h_seq ?_
    refine h_seq ?_
    refine h_reg ?_
    refine h_op (r_assign rfl) ?_
    refine h_nil ?_
    refine q_then ?_
    refine h_block ?_
    refine h_nil_own 3 1 (xs := ic (dsK key t 0)) rfl ?_
    refine h_nil_own 31 32 (xs := dgs (rsK n key t 0)) rfl ?_
    change H _ _ _ _ _ (.own (.slice none (dsK key t 0).length 0) (dsK key t 0).length _ _ (dgs (rsK n key t 0)) :: .own (.slice none (dsK key t 0).length 0) (dsK key t 0).length _ _ (ic (dsK key t 0)) :: .blk g9 (Proof.cells ⟨(1 : Nat), (D : Int), leafOf n key' b, zB32, ⟨none, (dsK key t 0).length, 0⟩⟩) _ :: _) _
    refine h_loop (fun (s : Nat × Zh × (Option Addr × Nat) × Option Addr × Nat) => s.1 ≤ D ∧ LeZ h s.2.1) (fun (s : Nat × Zh × (Option Addr × Nat) × Option Addr × Nat) => [(11, .int .i64 (s.1 : Int)), (10, .slice s.2.2.1.1 (dsK key t s.1).length s.2.2.1.2), (8, .int .i64 (D : Int)), (9, .pointer (some ⟨g9, 0, none⟩)), (0, .int .i64 (n : Int)), (1, .slice B m.length c), (5, .pointer (some ⟨g5, 0, none⟩)), (6, .pointer (some ⟨g6, 0, none⟩))]) (fun (s : Nat × Zh × (Option Addr × Nat) × Option Addr × Nat) => [.own (.slice s.2.2.2.1 (dsK key t s.1).length s.2.2.2.2) (dsK key t s.1).length 31 32 (dgs (rsK n key t s.1)), .own (.slice s.2.2.1.1 (dsK key t s.1).length s.2.2.1.2) (dsK key t s.1).length 3 1 (ic (dsK key t s.1)), .blk g9 (Proof.cells ⟨(1 : Nat), (D : Int), leafOf n key' b, zB32, ⟨s.2.2.2.1, (dsK key t s.1).length, s.2.2.2.2⟩⟩) 36, .blk g6 zProof.cells 36, .blk g5 key.cells 24, .zone true s.2.1]) (fun (s : Nat × Zh × (Option Addr × Nat) × Option Addr × Nat) => D - s.1) (0, h3, (none, 0), none, 0) ((show 0 ≤ D ∧ LeZ h h3 from ⟨Nat.zero_le _, hle3⟩)) ⟨rfl, rfl, rfl, rfl, rfl, rfl, rfl, rfl, trivial⟩ (same) ?_
    rintro ⟨i, h4, ⟨A1, c1⟩, A2, c2⟩ ⟨hi, hle4⟩
    dsimp only at hi hle4 ⊢
    refine h_seq ?_
    refine h_seq ?_
    refine h_reg ?_
    refine h_op (r_move rfl) ?_
    refine h_op (r_move rfl) ?_
    refine h_op (r_lss rfl rfl) ?_
    refine h_nil ?_
    refine q_then ?_
    refine h_cond rfl (fun hiD' => ?_) (fun hiD' => ?_)
    · have hiD : i < D := by omega
      have hlen := dsK_len key t i
      have hsle := Nat.le_trans (part_le (atM key m i) i (!bitAt key i)) (atM_le key m i)
      have hsib := ht i hiD
      have hkd := mkT_kind (sibM key m i) (d := i + 1) (by omega)
      have hsa : Alike (sibM key m i) (i + 1) := (atM_alike hal i).part _
      change (sibM key m i).length ≤ _ at hsle
      refine h_skip ?_
      refine q_then ?_
      refine h_seq ?_
      refine h_block ?_
      refine h_seq ?_
      refine h_reg ?_
      refine h_op (r_move rfl) ?_
      refine h_op (r_loadr rfl) ?_
      refine h_op (r_move rfl) ?_
      refine h_call ((rSibling_s h4 m B c key i (by omega) hm).comes) rfl rfl rfl fun ⟨⟨h5, A44, c44⟩, hle5, hr5⟩ => ?_
      dsimp only at hle5 hr5 ⊢
      have hvs : ValsZ h5 (sibM key m i) := (((atM_vals (key := key) hv i).part i (!bitAt key i)).mono hle4).mono hle5
      by_cases h6 : 0 < (sibM key m i).length
      · have hk1 : (sibK key t i).kind ≠ 0 := by rw [hsib, hkd]; omega
        have hroot := Root_any n hn h5 (show i + 1 ≤ 256 by omega) hsa (by omega) hvs A44 c44
        rw [show rootM n (sibM key m i) (i + 1) = dgT n (sibK key t i) by rw [hsib]; rfl] at hroot
        have hds := dsK_yes hk1
        have hrs := rsK_yes n hk1
        have hlen1 : (dsK key t i).length + 1 = (dsK key t (i + 1)).length := by rw [hds, List.length_append]; rfl
        refine h_op (r_assign rfl) ?_
        refine h_nil ?_
        refine q_then ?_
        refine h_seq ?_
        refine h_reg ?_
        refine h_op (r_move rfl) ?_
        refine h_op (r_len rfl) ?_
        refine h_op (r_gtr rfl rfl) ?_
        refine h_nil ?_
        refine q_then ?_
        refine h_yes rfl ((by omega)) ?_
        refine h_seq ?_
        refine h_reg ?_
        refine h_op (r_move rfl) ?_
        refine h_op (r_move rfl) ?_
        refine h_opX (x_bsl rfl rfl) fun g50 => ?_
        refine h_opX (x_app1I rfl rfl (hN := hlen1)) fun ⟨g51, c51⟩ => ?_
        refine h_op (r_assign rfl) ?_
        refine h_nil ?_
        refine q_then ?_
        rw [← hds]
        refine ha_start [.blk g9 (Proof.cells ⟨(1 : Nat), (D : Int), leafOf n key' b, zB32, ⟨A2, (dsK key t i).length, c2⟩⟩) 36] [] mixed (same) ?_
        refine ha_takeP 0 rfl (r_field rfl) ?_
        refine ha_take 1 rfl (r_loadc rfl) ?_
        refine ha_takeP 2 rfl (r_move rfl) ?_
        refine ha_takeP 3 rfl (r_move rfl) ?_
        refine ha_takeP 4 rfl (r_move rfl) ?_
        refine ha_takeP 5 rfl (r_add rfl rfl) ?_
        refine ha_one 6 ?_
        refine ho_C 6 rfl (hroot.comes) rfl rfl rfl (fun _ => same) fun _ => ?_
        refine ha_one 7 ?_
        refine ho_X 7 rfl (rk (x_bsl rfl rfl)) (fun _ => same) fun g59 => ?_
        refine ha_one 8 ?_
        refine ho_X 8 rfl (rk (x_app rfl rfl (k := 32))) (fun _ => same) fun ⟨g60, c60⟩ => ?_
        refine ha_takeP 9 rfl (r_field rfl) ?_
        refine ha_one 10 ?_
        refine ho_SL 10 rfl (s_store rfl rfl rfl) ?_
        refine q_block ?_
        refine q_then ?_
        rw [← hrs, hlen1]
        refine h_reg ?_
        refine h_op (r_move rfl) ?_
        refine h_op (r_add rfl rfl) ?_
        refine h_op (r_assign rfl) ?_
        refine h_nil ?_
        exact h_back (i + 1, h5, (some ⟨g51, 0, none⟩, c51), some ⟨g60, 0, none⟩, c60) ((show i + 1 ≤ D ∧ LeZ h h5 from ⟨by omega, hle4.trans hle5⟩)) ((show D - (i + 1) < D - i by omega)) ⟨rfl, rfl, rfl, rfl, rfl, rfl, rfl, rfl, trivial⟩ (same)
      · have hk1 : ¬ (sibK key t i).kind ≠ 0 := by rw [hsib, hkd]; omega
        have hds := dsK_no hk1
        have hrs := rsK_no n hk1
        refine h_op (r_assign rfl) ?_
        refine h_nil ?_
        refine q_then ?_
        refine h_seq ?_
        refine h_reg ?_
        refine h_op (r_move rfl) ?_
        refine h_op (r_len rfl) ?_
        refine h_op (r_gtr rfl rfl) ?_
        refine h_nil ?_
        refine q_then ?_
        refine h_no rfl ((by omega)) ?_
        refine h_skip ?_
        refine q_block ?_
        refine q_then ?_
        refine h_reg ?_
        refine h_op (r_move rfl) ?_
        refine h_op (r_add rfl rfl) ?_
        refine h_op (r_assign rfl) ?_
        refine h_nil ?_
        rw [← hds, ← hrs]
        exact h_back (i + 1, h5, (A1, c1), A2, c2) ((show i + 1 ≤ D ∧ LeZ h h5 from ⟨by omega, hle4.trans hle5⟩)) ((show D - (i + 1) < D - i by omega)) ⟨rfl, rfl, rfl, rfl, rfl, rfl, rfl, rfl, trivial⟩ (same)
    · obtain rfl : i = D := by omega
      have hlen := dsK_len key t i
      refine h_exit ?_
      refine q_thenE ?_
      refine q_thenE ?_
      refine q_blockE ?_
      refine q_then ?_
      refine h_seq ?_
      refine h_reg ?_
      refine h_op (r_move rfl) ?_
      refine h_call ((rBytes14_s (dsK key t i) (dsK_pw key t i) (fun j hj => by have := dsK_lt hj; omega) A1 c1 (by omega)).comes) rfl rfl rfl fun _ => ?_
      refine h_op (r_field rfl) ?_
      refine h_opS (s_storer rfl rfl) ?_
      refine h_nil ?_
      refine q_then ?_
      refine h_seq ?_
      refine h_reg ?_
      refine h_op (r_loadr rfl) ?_
      refine h_opS (s_storer rfl rfl) ?_
      refine h_nil ?_
      refine q_then ?_
      refine h_ret ?_
      exact h_ret1 rfl (rv_row rfl) fun w s => ⟨⟨(h4, A2, c2), hle4⟩, rfl, (same (L' := [.own (.slice A2 (dsK key t i).length c2) (dsK key t i).length 31 32 (dgs (rsK n key t i)), .zone true h4]) w s).res (List.Sublist.refl _) (by simp [Fa.wr])⟩
  · exact absurd h1 (by simp)
end Go.Proofs.YtdfeimdhlagebaaGreatDoor
/- U47 -/
namespace Go.Proofs.YtdfeimdhlagebaaGreatDoor
set_option linter.unusedSimpArgs false
set_option linter.unusedVariables false
open Go.RowKit
abbrev P7 (A : Option Addr) (c : Nat) : Proof := ⟨0, 0, zLeaf, zB32, ⟨A, 0, c⟩⟩
abbrev Q15 (A : Option Addr) (c : Nat) : Proof := ⟨1, 1, leafOf 256 (kB 255) [], dset [0], ⟨A, 1, c⟩⟩
def R15 : List B32 := [dgT 256 (.leaf zB32 [])]
theorem prf7 (A : Option Addr) (c : Nat) : prfK 256 (kB 7) .nil 0 A c = P7 A c := by
  unfold prfK P7
  show (⟨0, 0, zLeaf, dset [], ⟨A, 0, c⟩⟩ : Proof) = _
  rw [dset_nil]
theorem ds7 : dsK (kB 7) .nil 0 = [] := rfl
theorem rs7 : rsK 256 (kB 7) .nil 0 = [] := rfl
theorem prf15' (A : Option Addr) (c : Nat) : prfK 256 (kB 128) T15 1 A c = Q15 A c := prf15 A c
theorem ds15 : dsK (kB 128) T15 1 = [0] := by rw [dsK_yes (last15 0 rfl)]; rfl
theorem rs15 : rsK 256 (kB 128) T15 1 = R15 := by
  unfold rsK
  rw [ds15]
  show [dgT 256 (T15.sub (!bitAt (kB 128) 0))] = R15
  rw [b128]; rfl
theorem fill_kB (x : UInt8) : Instr.fill (plArr 1) zB32.cells.toArray [(0, Value.int .u8 (x.toNat : Int))] = some (kB x).cells.toArray := by kernel_rfl
theorem ok15 (A : Option Addr) (c : Nat) : checkP (Q15 A c) = 0 := by
  have := prf_ok 256 way15 last15 A c
  rw [prf15] at this
  exact this
theorem sup15a (A : Option Addr) (c : Nat) : supP (Q15 A c) (kB 128) zB32 false = true := by
  have h1 : common (kB 255) (kB 128) = 1 := by decide +kernel
  have h2 : kB 255 ≠ kB 128 := by decide
  unfold supP
  rw [if_neg (by simp), if_pos (show (Q15 A c).kind = 1 from rfl)]
  refine decide_eq_true ⟨h2, ?_⟩
  show (1 : Int) ≤ (common (kB 255) (kB 128) : Nat)
  rw [h1]; decide
theorem sup15b (A : Option Addr) (c : Nat) : supP (Q15 A c) (kB 255) zB32 false = false := by
  unfold supP
  rw [if_neg (by simp), if_pos (show (Q15 A c).kind = 1 from rfl)]
  exact decide_eq_false fun e => e.1 rfl
theorem sup15A (A : Option Addr) (c : Nat) : Spec Tryz.prog 43 [.agg (Q15 A c).cells.toArray, .agg (kB 128).cells.toArray, .agg zB32.cells.toArray, .bool false].toArray [] [] (fun _ : Unit => .bool true) (fun _ => []) := by
  have := Supports_s (Q15 A c) (kB 128) zB32 false
  rw [sup15a] at this
  exact this
theorem sup15B (A : Option Addr) (c : Nat) : Spec Tryz.prog 43 [.agg (Q15 A c).cells.toArray, .agg (kB 255).cells.toArray, .agg zB32.cells.toArray, .bool false].toArray [] [] (fun _ : Unit => .bool false) (fun _ => []) := by
  have := Supports_s (Q15 A c) (kB 255) zB32 false
  rw [sup15b] at this
  exact this
theorem chk15 (A : Option Addr) (c : Nat) : Spec Tryz.prog 42 [.agg (Q15 A c).cells.toArray].toArray [] [] (fun _ : Unit => .int .i64 0) (fun _ => []) := by
  have := Check_s (Q15 A c)
  rw [ok15] at this
  exact this
theorem eq15a (A A' : Option Addr) (c c' : Nat) : Spec Tryz.prog 84 [.agg (Q15 A' c').cells.toArray, .agg (Q15 A c).cells.toArray].toArray [.rd A' (dgs R15), .rd A (dgs R15)] [] (fun _ : Unit => .bool true) (fun _ => []) := by
  have := PEqual_s (Q15 A' c') (Q15 A c) R15 R15 rfl rfl (by decide) (by decide)
  rw [decide_eq_true (show eqP (Q15 A' c') (Q15 A c) R15 R15 from ⟨rfl, rfl, rfl, rfl, rfl⟩)] at this
  exact this
theorem eq15b (A A' : Option Addr) (c c' : Nat) : Spec Tryz.prog 84 [.agg (P7 A' c').cells.toArray, .agg (Q15 A c).cells.toArray].toArray [.rd A' (dgs []), .rd A (dgs R15)] [] (fun _ : Unit => .bool false) (fun _ => []) := by
  have := PEqual_s (P7 A' c') (Q15 A c) [] R15 rfl rfl (by decide) (by decide)
  rw [decide_eq_false (show ¬ eqP (P7 A' c') (Q15 A c) [] R15 from fun e => absurd (show (0 : Int) = 1 from e.1) (by decide))] at this
  exact this
theorem alive15_s (h : Zh) [hT : RdZ h (some ⟨0, 0, none⟩) hashT] : Spec Tryz.prog 38 ([] : List Value).toArray [] [.zone true h] (fun _ : {x : Zh // LeZ h x} => .bool true) (fun x => [.zone true x.1]) := by
  have h0 : TrZ 256 h (ts15 0) none := ⟨rfl⟩
  refine spec_of Tryz.func38 rfl (n := 96) rfl rfl ?_
  intro W
  refine h_seq ?_
  refine h_reg ?_
  refine h_op (r_assign rfl) ?_
  refine h_nil ?_
  refine q_then ?_
  refine h_seq ?_
  refine h_reg ?_
  refine h_call ((Hash_s 256 (by decide)).comes) rfl rfl rfl fun ⟨gh, gc⟩ => ?_
  dsimp only
  refine h_op (r_assign rfl) ?_
  refine h_nil ?_
  refine q_then ?_
  refine h_seq ?_
  refine h_seq ?_
  refine h_reg ?_
  refine h_op (r_move rfl) ?_
  refine h_op (r_nilR rfl rfl) ?_
  refine h_nil ?_
  refine q_then ?_
  refine h_condF rfl ?_
  refine h_skip ?_
  refine q_then ?_
  refine h_seq ?_
  refine h_reg ?_
  refine h_op (r_move rfl) ?_
  refine h_op (r_build (out := (kB 7).cells) rfl (hf := ⟨fill_kB 7⟩)) ?_
  refine h_call ((Prove_s 256 (by decide) gh gc 0 (by decide) h .nil none (kB 7) 0 ⟨by omega, (by intro h; cases h), fun i hi => by omega⟩).comes) rfl rfl rfl fun ⟨A11, c11⟩ => ?_
  dsimp only
  rw [prf7, ds7, rs7]
  refine h_opX (x_alloc) fun g2 => ?_
  refine h_opS (s_storer rfl rfl) ?_
  refine h_nil ?_
  refine q_then ?_
  refine h_seq ?_
  refine h_reg ?_
  refine h_op (r_move rfl) ?_
  refine h_op (r_move rfl) ?_
  refine h_op (r_build rfl) ?_
  refine h_op (r_build (out := (kB 255).cells) rfl (hf := ⟨fill_kB 255⟩)) ?_
  refine h_op (r_build rfl) ?_
  refine h_opX (x_bsl rfl rfl) fun g17 => ?_
  change H _ _ _ _ _ (.own _ _ _ _ (ents L15) :: _) _
  refine h_call ((PAll_s 256 (by decide) gh gc 0 h L15 (by decide) (vals15 h) ts15 puts15 none (some ⟨g17, 0, none⟩) 2).comes) rfl rfl rfl fun ⟨⟨h1, q1, k1⟩, hle1, ht1', hk1⟩ => ?_
  dsimp only at hle1 ht1' hk1 ⊢
  have ht1 : TrZ 256 h1 T15 q1 := ht1'
  have hT1 : RdZ h1 (some ⟨0, 0, none⟩) hashT := hT.mono hle1
  have hk1' : k1 ≤ 0 + 1600 * 2 := hk1
  refine h_op (r_build (out := (kB 128).cells) rfl (hf := ⟨fill_kB 128⟩)) ?_
  refine h_call ((Prove_s 256 (by decide) gh gc k1 (by omega) h1 T15 q1 (kB 128) 1 way15).comes) rfl rfl rfl fun ⟨A20, c20⟩ => ?_
  dsimp only
  rw [prf15', ds15, rs15]
  change H _ _ _ _ _ (.own (.slice A20 1 c20) 1 _ _ (dgs R15) :: _) _
  refine h_pure (φ := A20 = none → R15.length = 0 ∧ c20 = 0) (fun w s => (s.ownLe (B := A20) (N := 1) (c := c20)).2.2) fun hA20 => ?_
  refine h_opX (x_alloc) fun g3 => ?_
  refine h_opS (s_storer rfl rfl) ?_
  refine h_nil ?_
  refine q_then ?_
  refine h_seq ?_
  refine h_reg ?_
  refine h_op (r_move rfl) ?_
  refine h_op (r_loadr rfl) ?_
  refine h_call ((Expand_s (Q15 A20 c20) (ok15 A20 c20) R15 rfl 256 (by decide) gh gc k1 (by omega) 1 rfl).comes) rfl rfl rfl fun g24 => ?_
  refine h_op (r_move rfl) ?_
  refine h_op (r_extract rfl rfl) ?_
  refine h_op (r_extract rfl rfl) ?_
  refine h_op (r_assign rfl) ?_
  refine h_op (r_assign rfl) ?_
  refine h_nil ?_
  refine q_then ?_
  refine h_seq ?_
  refine ha_start [.blk g2 (P7 A11 c11).cells 36, .blk g3 (Q15 A20 c20).cells 36] [] mixed (same) ?_
  refine ha_takeP 0 rfl (r_field rfl) ?_
  refine ha_take 1 rfl (r_loadc rfl) ?_
  refine ha_takeP 2 rfl (r_bool (r_eql rfl rfl) (show _ = true from rfl)) ?_
  refine ha_takeP 3 rfl (r_move rfl) ?_
  refine ha_takeP 4 rfl (r_field rfl) ?_
  refine ha_take 5 rfl (r_loadc rfl) ?_
  refine ha_takeP 6 rfl (r_bool (r_eql rfl rfl) (show _ = true from rfl)) ?_
  refine ha_takeP 7 rfl (r_pick rfl rfl) ?_
  refine ha_takeP 8 rfl (r_move rfl) ?_
  refine ha_takeP 9 rfl (r_field rfl) ?_
  refine ha_take 10 rfl (r_loadc rfl) ?_
  refine ha_takeP 11 rfl (r_len rfl) ?_
  refine ha_takeP 12 rfl (r_bool (r_eql rfl rfl) (show _ = true from rfl)) ?_
  refine ha_takeP 13 rfl (r_pick rfl rfl) ?_
  refine ha_takeP 14 rfl (r_move rfl) ?_
  refine ha_takeP 15 rfl (r_field rfl) ?_
  refine ha_take 16 rfl (r_loadc rfl) ?_
  refine ha_takeP 17 rfl (r_bool (r_eql rfl rfl) (show _ = true from rfl)) ?_
  refine ha_takeP 18 rfl (r_pick rfl rfl) ?_
  refine ha_takeP 19 rfl (r_move rfl) ?_
  refine ha_takeP 20 rfl (r_field rfl) ?_
  refine ha_take 21 rfl (r_loadc rfl) ?_
  refine ha_takeP 22 rfl (r_bool (r_eql rfl rfl) (show _ = true from rfl)) ?_
  refine ha_takeP 23 rfl (r_pick rfl rfl) ?_
  refine ha_takeP 24 rfl (r_move rfl) ?_
  refine ha_takeP 25 rfl (r_field rfl) ?_
  refine ha_take 26 rfl (r_loadc rfl) ?_
  refine ha_takeP 27 rfl (r_len rfl) ?_
  refine ha_takeP 28 rfl (r_bool (r_eql rfl rfl) (show _ = true from rfl)) ?_
  refine ha_takeP 29 rfl (r_pick rfl rfl) ?_
  refine ha_takeP 30 rfl (r_move rfl) ?_
  refine ha_take 31 rfl (r_loadr rfl) ?_
  refine ha_takeP 32 rfl (r_build (out := (kB 128).cells) rfl (hf := ⟨fill_kB 128⟩)) ?_
  refine ha_takeP 33 rfl (r_build rfl) ?_
  refine ha_one 34 ?_
  refine ho_C 34 rfl ((sup15A A20 c20).comes) rfl rfl rfl (fun _ => same) fun _ => ?_
  refine ha_takeP 35 rfl (r_pick rfl rfl) ?_
  refine ha_takeP 36 rfl (r_move rfl) ?_
  refine ha_take 37 rfl (r_loadr rfl) ?_
  refine ha_takeP 38 rfl (r_build (out := (kB 255).cells) rfl (hf := ⟨fill_kB 255⟩)) ?_
  refine ha_takeP 39 rfl (r_build rfl) ?_
  refine ha_one 40 ?_
  refine ho_C 40 rfl ((sup15B A20 c20).comes) rfl rfl rfl (fun _ => same) fun _ => ?_
  refine ha_takeP 41 rfl (r_bool (r_not rfl) rfl) ?_
  refine ha_takeP 42 rfl (r_pick rfl rfl) ?_
  refine ha_takeP 43 rfl (r_move rfl) ?_
  refine ha_take 44 rfl (r_loadr rfl) ?_
  refine ha_one 45 ?_
  refine ho_C 45 rfl ((chk15 A20 c20).comes) rfl rfl rfl (fun _ => same) fun _ => ?_
  refine ha_takeP 46 rfl (r_bool (r_eql rfl rfl) rfl) ?_
  refine ha_takeP 47 rfl (r_pick rfl rfl) ?_
  refine ha_takeP 48 rfl (r_move rfl) ?_
  refine ha_takeP 49 rfl (r_move rfl) ?_
  refine ha_takeP 50 rfl (r_len rfl) ?_
  refine ha_takeP 51 rfl (r_bool (r_eql rfl rfl) (show _ = true from rfl)) ?_
  refine ha_takeP 52 rfl (r_pick rfl rfl) ?_
  refine ha_takeP 53 rfl (r_move rfl) ?_
  refine ha_takeP 54 rfl (r_move rfl) ?_
  refine ha_takeP 55 rfl (r_bool (r_eql rfl rfl) (show _ = true from rfl)) ?_
  refine ha_takeP 56 rfl (r_pick rfl rfl) ?_
  refine ha_takeP 57 rfl (r_move rfl) ?_
  refine ha_take 58 rfl (r_loadr rfl) ?_
  refine ha_take 60 rfl (r_loadr rfl) ?_
  refine ha_one 59 ?_
  refine ho_C 59 rfl ((PClone_s (Q15 A20 c20) R15 rfl hA20 (by decide)).comes) rfl rfl rfl (fun _ => same) fun ⟨A86, c86⟩ => ?_
  refine ha_one 61 ?_
  refine ho_C 61 rfl ((eq15a A20 A86 c20 c86).comes) rfl rfl rfl (fun _ => same) fun _ => ?_
  refine ha_takeP 62 rfl (r_pick rfl rfl) ?_
  refine ha_takeP 63 rfl (r_move rfl) ?_
  refine ha_take 64 rfl (r_loadr rfl) ?_
  refine ha_take 65 rfl (r_loadr rfl) ?_
  refine ha_one 66 ?_
  refine ho_C 66 rfl ((eq15b A20 A11 c20 c11).comes) rfl rfl rfl (fun _ => same) fun _ => ?_
  refine ha_takeP 67 rfl (r_bool (r_not rfl) (show _ = true from rfl)) ?_
  refine ha_takeP 68 rfl (r_pick rfl rfl) ?_
  refine ha_takeP 69 rfl (r_assign rfl) ?_
  refine ha_done (by kernel_rfl) ?_
  refine q_then ?_
  refine h_ret ?_
  exact h_ret1 rfl rfl fun w s => ⟨⟨h1, hle1⟩, rfl, (same (L' := [.zone true h1]) w s).res (List.Sublist.refl _) (by simp [Fa.wr])⟩
end Go.Proofs.YtdfeimdhlagebaaGreatDoor
/- N12 -/
namespace Go.Proofs.YtdfeimdhlagebaaGreatDoor
set_option linter.unusedSimpArgs false
set_option linter.unusedVariables false
open Go.RowKit
class TBool (P : Program) (T : TypeId) : Prop where
  und : P.underlying T = some .bool
section
variable {P : Program} {n : Nat} {D : List Deferred} {E : Env} {L : List Fa} {T T' : TypeId} {x y : Operand}
theorem run_equalIn_bool (w : World) (d : Nat) (a b : Bool) (h : P.underlying T = some .bool) : (Op.equalIn (d + 1) T (.bool a) (.bool b)).run P w = .ok (a == b) w := by
  simp [Op.equalIn, run_underlying h]
theorem run_eq_bool (w : World) (a b : Bool) (h : P.underlying T = some .bool) : (binOp .eql T (.bool a) (.bool b)).run P w = .ok (.bool (a == b)) w := by
  simp only [binOp]
  simp [Op.equal, Op.maxDepth, run_equalIn_bool w 9999 a b h]
theorem run_ne_bool (w : World) (a b : Bool) (h : P.underlying T = some .bool) : (binOp .neq T (.bool a) (.bool b)).run P w = .ok (.bool (!(a == b))) w := by
  simp only [binOp]
  simp [Op.equal, Op.maxDepth, run_equalIn_bool w 9999 a b h]
theorem r_eqb [hT : TBool P T] {a b : Bool} (hx : ev E x = some (.bool a)) (hy : ev E y = some (.bool b)) : Runs0 P n D E L (.binOp .eql T x y T') (.bool (a == b)) := fun c w ka s o ho => run_bin ho (ka.ev hx) (ka.ev hy) rfl (run_eq_bool w a b hT.und)
theorem r_neb [hT : TBool P T] {a b : Bool} (hx : ev E x = some (.bool a)) (hy : ev E y = some (.bool b)) : Runs0 P n D E L (.binOp .neq T x y T') (.bool (!(a == b))) := fun c w ka s o ho => run_bin ho (ka.ev hx) (ka.ev hy) rfl (run_ne_bool w a b hT.und)
end
/-- a zone that began as all that there was: nothing below has turned -/
theorem zone_below {W w : World} {h1 : Zh} {N : List Fa} (hr : Rx [.zone true (World.zh W)] W w (.zone true h1 :: N)) (hl : LeZ (World.zh W) h1) : Below W.heap.size W w := by
  refine ⟨hr.os, hr.tape, hr.output, hr.size, fun k hk => ?_⟩
  obtain ⟨o, ho⟩ : ∃ o, W.heap[k]? = some o := ⟨_, Array.getElem?_eq_getElem hk⟩
  rw [ho]
  exact hr.ok (.zone true h1) (List.mem_cons_self ..) k o (hl.le k o ho)
theorem Fx.all (W : World) : Fx W [.zone true (World.zh W)] := ⟨fun f hf => by rw [List.mem_singleton.1 hf]; exact fun k o ho => ho, List.pairwise_singleton _ _⟩
end Go.Proofs.YtdfeimdhlagebaaGreatDoor
/- U51 -/
namespace Go.Proofs.YtdfeimdhlagebaaGreatDoor
set_option linter.unusedSimpArgs false
set_option linter.unusedVariables false
open Go.RowKit
instance : TBool Tryz.prog 4 := ⟨Tryz.underlying4⟩
theorem New_no (i : Int) (h : ¬ (0 ≤ i ∧ i ≤ 256)) : Spec Tryz.prog 47 [.int .i64 i].toArray [] [] (fun _ : Unit => .tuple #[.pointer none, .int .i64 4]) (fun _ => []) := by
  refine spec_of Tryz.func47 rfl (n := 15) rfl rfl ?_
  intro W
  by_cases h0 : i < 0
  · refine h_seq ?_
    refine h_reg ?_
    refine h_op (r_assign rfl) ?_
    refine h_op (r_assign rfl) ?_
    refine h_nil ?_
    refine q_then ?_
    refine h_seq ?_
    refine h_seq ?_
    refine h_reg ?_
    refine h_op (r_move rfl) ?_
    refine h_op (r_bool (r_lss rfl rfl) (decide_eq_true h0)) ?_
    refine h_op (r_move rfl) ?_
    refine h_opOff ?_
    refine h_opOff ?_
    refine h_op (r_pick rfl rfl) ?_
    refine h_nil ?_
    refine q_then ?_
    refine h_condT rfl ?_
    refine h_seq ?_
    refine h_reg ?_
    refine h_op (r_assign rfl) ?_
    refine h_op (r_assign rfl) ?_
    refine h_nil ?_
    refine q_then ?_
    refine h_ret ?_
    refine q_thenR ?_
    exact h_ret2 rfl rfl rfl fun w s => ⟨(), rfl, s.res (List.nil_sublist _) (by simp)⟩
  · refine h_seq ?_
    refine h_reg ?_
    refine h_op (r_assign rfl) ?_
    refine h_op (r_assign rfl) ?_
    refine h_nil ?_
    refine q_then ?_
    refine h_seq ?_
    refine h_seq ?_
    refine h_reg ?_
    refine h_op (r_move rfl) ?_
    refine h_op (r_bool (r_lss rfl rfl) (decide_eq_false h0)) ?_
    refine h_op (r_move rfl) ?_
    refine h_op (r_move rfl) ?_
    refine h_op (r_bool (r_gtr rfl rfl) (decide_eq_true (by omega))) ?_
    refine h_op (r_pick rfl rfl) ?_
    refine h_nil ?_
    refine q_then ?_
    refine h_condT rfl ?_
    refine h_seq ?_
    refine h_reg ?_
    refine h_op (r_assign rfl) ?_
    refine h_op (r_assign rfl) ?_
    refine h_nil ?_
    refine q_then ?_
    refine h_ret ?_
    refine q_thenR ?_
    exact h_ret2 rfl rfl rfl fun w s => ⟨(), rfl, s.res (List.nil_sublist _) (by simp)⟩
theorem Hash_no (i : Int) (h : ¬ (0 ≤ i ∧ i ≤ 256)) : Spec Tryz.prog 11 [.int .i64 i].toArray [] [] (fun _ : Unit => .pointer none) (fun _ => []) := by
  refine spec_of Tryz.func11 rfl (n := 13) rfl rfl ?_
  intro W
  refine h_seq ?_
  refine h_reg ?_
  refine h_op (r_assign rfl) ?_
  refine h_nil ?_
  refine q_then ?_
  refine h_seq ?_
  refine h_reg ?_
  refine h_op (r_move rfl) ?_
  refine h_call ((New_no i h).comes) rfl rfl rfl fun _ => ?_
  refine h_op (r_move rfl) ?_
  refine h_op (r_extract rfl rfl) ?_
  refine h_op (r_extract rfl rfl) ?_
  refine h_op (r_assign rfl) ?_
  refine h_op (r_assign rfl) ?_
  refine h_nil ?_
  refine q_then ?_
  refine h_seq ?_
  refine h_seq ?_
  refine h_reg ?_
  refine h_op (r_move rfl) ?_
  refine h_op (r_neq rfl rfl) ?_
  refine h_nil ?_
  refine q_then ?_
  refine h_yes rfl ((by decide)) ?_
  refine h_seq ?_
  refine h_reg ?_
  refine h_op (r_assign rfl) ?_
  refine h_nil ?_
  refine q_then ?_
  refine h_ret ?_
  refine q_thenR ?_
  exact h_ret1 rfl rfl fun w s => ⟨(), rfl, s.res (List.nil_sublist _) (by simp)⟩
theorem Few_long (l : List En) (B : Option Addr) (c : Nat) (hl : 12 < l.length) : Spec Tryz.prog 44 [.slice B l.length c].toArray [.rd B (ents l)] [] (fun _ : Unit => .bool (fewM l)) (fun _ => []) := by
  unfold fewM
  rw [decide_eq_false (by omega), Bool.false_and]
  refine spec_of Tryz.func44 rfl (n := 20) rfl rfl ?_
  intro W
  refine h_seq ?_
  refine h_reg ?_
  refine h_op (r_assign rfl) ?_
  refine h_nil ?_
  refine q_then ?_
  refine h_seq ?_
  refine h_seq ?_
  refine h_reg ?_
  refine h_op (r_move rfl) ?_
  refine h_op (r_len rfl) ?_
  refine h_op (r_gtr rfl rfl) ?_
  refine h_nil ?_
  refine q_then ?_
  refine h_yes rfl ((by omega)) ?_
  refine h_seq ?_
  refine h_reg ?_
  refine h_op (r_assign rfl) ?_
  refine h_nil ?_
  refine q_then ?_
  refine h_ret ?_
  refine q_thenR ?_
  exact h_ret1 rfl rfl fun w s => ⟨(), rfl, s.res (List.nil_sublist _) (by simp)⟩
theorem Few_any (l : List En) (B : Option Addr) (c : Nat) : Spec Tryz.prog 44 [.slice B l.length c].toArray [.rd B (ents l)] [] (fun _ : Unit => .bool (fewM l)) (fun _ => []) := by
  by_cases hl : 12 < l.length
  · exact Few_long l B c hl
  · exact Few_s l B c (by omega)
theorem Tree_bits (i : Int) (hi : ¬ (0 ≤ i ∧ i ≤ 256)) (l : List En) (B : Option Addr) (c : Nat) : Spec Tryz.prog 10 [.int .i64 i, .slice B l.length c].toArray [] [] (fun _ : Unit => .tuple #[.slice none 0 0, .pointer none, .bool false]) (fun _ => []) := by
  refine spec_of Tryz.func10 rfl (n := 27) rfl rfl ?_
  intro W
  refine h_seq ?_
  refine h_reg ?_
  refine h_op (r_assign rfl) ?_
  refine h_op (r_assign rfl) ?_
  refine h_op (r_assign rfl) ?_
  refine h_nil ?_
  refine q_then ?_
  refine h_seq ?_
  refine h_seq ?_
  refine h_reg ?_
  refine h_op (r_move rfl) ?_
  refine h_call ((Right_no i hi).comes) rfl rfl rfl fun _ => ?_
  refine h_op (r_not rfl) ?_
  refine h_op (r_move rfl) ?_
  refine h_opOff ?_
  refine h_opOff ?_
  refine h_opOff ?_
  refine h_op (r_pick rfl rfl) ?_
  refine h_nil ?_
  refine q_then ?_
  refine h_condT rfl ?_
  refine h_seq ?_
  refine h_reg ?_
  refine h_op (r_assign rfl) ?_
  refine h_op (r_assign rfl) ?_
  refine h_op (r_assign rfl) ?_
  refine h_nil ?_
  refine q_then ?_
  refine h_ret ?_
  refine q_thenR ?_
  exact h_ret3 rfl rfl rfl rfl fun w s => ⟨(), rfl, s.res (List.nil_sublist _) (by simp)⟩
theorem Tree_few (n : Nat) (hn : n ≤ 256) (l : List En) (B : Option Addr) (c : Nat) (hf : fewM l = false) : Spec Tryz.prog 10 [.int .i64 (n : Int), .slice B l.length c].toArray [.rd B (ents l)] [] (fun _ : Unit => .tuple #[.slice none 0 0, .pointer none, .bool false]) (fun _ => []) := by
  refine spec_of Tryz.func10 rfl (n := 27) rfl rfl ?_
  intro W
  refine h_seq ?_
  refine h_reg ?_
  refine h_op (r_assign rfl) ?_
  refine h_op (r_assign rfl) ?_
  refine h_op (r_assign rfl) ?_
  refine h_nil ?_
  refine q_then ?_
  refine h_seq ?_
  refine h_seq ?_
  refine h_reg ?_
  refine h_op (r_move rfl) ?_
  refine h_call ((Right_yes n hn).comes) rfl rfl rfl fun _ => ?_
  refine h_op (r_not rfl) ?_
  refine h_op (r_move rfl) ?_
  refine h_op (r_move rfl) ?_
  refine h_call ((Few_any l B c).comes) rfl rfl rfl fun _ => ?_
  rw [hf]
  refine h_op (r_not rfl) ?_
  refine h_op (r_pick rfl rfl) ?_
  refine h_nil ?_
  refine q_then ?_
  refine h_condT rfl ?_
  refine h_seq ?_
  refine h_reg ?_
  refine h_op (r_assign rfl) ?_
  refine h_op (r_assign rfl) ?_
  refine h_op (r_assign rfl) ?_
  refine h_nil ?_
  refine q_then ?_
  refine h_ret ?_
  refine q_thenR ?_
  exact h_ret3 rfl rfl rfl rfl fun w s => ⟨(), rfl, s.res (List.nil_sublist _) (by simp)⟩
/-- entries whose values lie in memory -/
def SlsZ (h : Zh) (l : List En) : Prop := ∀ e ∈ l, SlZ h e.e.value e.val
theorem SlsZ.few {h : Zh} {l : List En} (x : SlsZ h l) (hf : fewM l = true) : ValsZ h l := fun e he => by
  unfold fewM at hf
  rw [Bool.and_eq_true, List.all_eq_true] at hf
  have h1 := of_decide_eq_true (hf.2 e he)
  have h2 := (x e he).len
  exact ⟨x e he, by omega⟩
theorem ValsZ.few {h h' : Zh} {l : List En} (x : ValsZ h l) (hl : LeZ h h') : ValsZ h' (ofM l) := (ValsZ.of x).mono hl
/-- the tree of a map, along a key's way -/
structure WayM (key : B32) (m : List En) (D : Nat) : Prop where
  way : WayTo key (mkT m 0) D
  last : (atM key m D).length ≤ 1
  more : ∀ i, i < D → 1 < (atM key m i).length
  on : ∀ i, i ≤ D → wayK key (mkT m 0) i = mkT (atM key m i) i
theorem wayM {key : B32} {m : List En} (h : Alike m 0) : ∃ D, WayM key m D := by
  obtain ⟨D, a, b, c, d, e⟩ := wayTo_mkT (key := key) h
  exact ⟨D, a, c, d, e⟩
theorem WayM.sib {key : B32} {m : List En} {D : Nat} (w : WayM key m D) : ∀ i, i < D → sibK key (mkT m 0) i = mkT (sibM key m i) (i + 1) := fun i hi => by
  unfold sibK
  have hle := w.way.le
  rw [w.on i (by omega), mkT_two (w.more i hi) (by omega)]
  unfold sibM
  cases bitAt key i <;> rfl
theorem WayM.lastOk {key : B32} {m : List En} {D : Nat} (w : WayM key m D) : LastOk key (mkT m 0) D := by
  intro i hi
  have hle := w.way.le
  rw [w.sib i (by omega), mkT_kind _ (by omega)]
  have h1 := w.more i (by omega)
  have h2 := w.last
  rw [hi] at h2
  change (part (atM key m i) i (bitAt key i)).length ≤ 1 at h2
  have h3 := part_len (atM key m i) i
  show min (part (atM key m i) i (!bitAt key i)).length 2 ≠ 0
  cases hb : bitAt key i <;> rw [hb] at h2 <;> simp only [Bool.not_true, Bool.not_false] <;> omega
theorem prf_eq (n : Nat) (key : B32) (t : Tr) (D : Nat) (A A' : Option Addr) (c c' : Nat) (ss : List B32) : eqP (prfK n key t D A c) (prfK n key t D A' c') ss ss := ⟨rfl, rfl, rfl, rfl, rfl⟩
theorem rEqual_same (n : Nat) (key : B32) (t : Tr) (D : Nat) (hD : D ≤ 256) (A A' : Option Addr) (c c' : Nat) : Spec Tryz.prog 39 [.agg (prfK n key t D A c).cells.toArray, .agg (prfK n key t D A' c').cells.toArray].toArray [.rd A (dgs (rsK n key t D)), .rd A' (dgs (rsK n key t D))] [] (fun _ : Unit => .bool true) (fun _ => []) := by
  have hl := rsK_len n key t D
  have hd := dsK_len key t D
  have := rEqual_s (prfK n key t D A c) (prfK n key t D A' c') (rsK n key t D) (rsK n key t D) hl.symm hl.symm (by omega) (by omega)
  rw [decide_eq_true (prf_eq n key t D A A' c c' _)] at this
  exact this
section
variable (h : Zh) [hT : RdZ h (some ⟨0, 0, none⟩) hashT]
theorem ProofProves_s (i : Int) (l : List En) (B : Option Addr) (c : Nat) [hB : RdZ h B (ents l)] (hv : SlsZ h l) (key : B32) : Spec Tryz.prog 8 [.int .i64 i, .slice B l.length c, .agg key.cells.toArray].toArray [] [.zone true h] (fun _ : {x : Zh // LeZ h x} => .bool true) (fun x => [.zone true x.1]) := by
  refine spec_of Tryz.func8 rfl (n := 35) rfl rfl ?_
  intro W
  by_cases hi : 0 ≤ i ∧ i ≤ 256
  · obtain ⟨n, rfl⟩ : ∃ n : Nat, i = (n : Int) := ⟨i.toNat, by omega⟩
    have hn : n ≤ 256 := by omega
    by_cases hf : fewM l = true
    · have hvl := hv.few hf
      have hal : Alike (ofM l) 0 := Alike.start (ofM_nodup l)
      obtain ⟨D, hw⟩ := wayM (key := key) hal
      have hD := hw.way.le
      have hlm : (ofM l).length ≤ 12 := Nat.le_trans (ofM_len l) (by unfold fewM at hf; rw [Bool.and_eq_true, decide_eq_true_eq] at hf; exact hf.1)
      refine h_seq ?_
      refine h_reg ?_
      refine h_opX (x_box rfl) fun g5 => ?_
      refine h_op (r_assign rfl) ?_
      refine h_nil ?_
      refine q_then ?_
      refine h_seq ?_
      refine h_reg ?_
      refine h_op (r_move rfl) ?_
      refine h_op (r_move rfl) ?_
      refine h_call ((Tree_yes n hn l B c hf h hvl).comes) rfl rfl rfl fun ⟨⟨h1, q1, A1, c1⟩, hle1, ht1⟩ => ?_
      dsimp only at hle1 ht1 ⊢
      refine h_freezeO (.slice A1 (ofM l).length c1) fun h2 B2 c2 e2 hle2 hlen2 hnil2 hz2 hr2 => ?_
      injection e2 with e2 _ e3
      subst e2 e3
      have hT2 : RdZ h2 (some ⟨0, 0, none⟩) hashT := (hT.mono hle1).mono hz2
      refine h_op (r_move rfl) ?_
      refine h_op (r_extract rfl rfl) ?_
      refine h_op (r_extract rfl rfl) ?_
      refine h_op (r_extract rfl rfl) ?_
      refine h_op (r_assign rfl) ?_
      refine h_op (r_assign rfl) ?_
      refine h_op (r_assign rfl) ?_
      refine h_nil ?_
      refine q_then ?_
      refine h_seq ?_
      refine h_reg ?_
      refine h_op (r_move rfl) ?_
      refine h_call ((Hash_s n hn).comes) rfl rfl rfl fun ⟨gh, gc⟩ => ?_
      dsimp only
      refine h_op (r_assign rfl) ?_
      refine h_nil ?_
      refine q_then ?_
      refine h_seq ?_
      refine h_seq ?_
      refine h_reg ?_
      refine h_op (r_move rfl) ?_
      refine h_op (r_not rfl) ?_
      refine h_nil ?_
      refine q_then ?_
      refine h_condF rfl ?_
      refine h_skip ?_
      refine q_then ?_
      refine h_seq ?_
      refine ha_start [.blk g5 key.cells 24] [] mixed (same) ?_
      refine ha_one 0 ?_
      refine ho_C 0 rfl ((alive15_s h2).comes) rfl rfl rfl (fun _ => same) fun ⟨h3, hle3⟩ => ?_
      refine ha_takeP 1 rfl (r_move rfl) ?_
      refine ha_takeP 2 rfl (r_move rfl) ?_
      refine ha_takeP 3 rfl (r_move rfl) ?_
      refine ha_take 4 rfl (r_loadr rfl) ?_
      refine ha_takeP 6 rfl (r_move rfl) ?_
      refine ha_takeP 7 rfl (r_move rfl) ?_
      refine ha_take 8 rfl (r_loadr rfl) ?_
      refine ha_one 5 ?_
      refine ho_C 5 rfl ((Prove_s n hn gh gc 0 (by decide) h3 (mkT (ofM l) 0) q1 key D hw.way).comes) rfl rfl rfl (fun _ => same) fun ⟨A28, c28⟩ => ?_
      refine ha_one 9 ?_
      refine ho_C 9 rfl ((rProve_s n hn h3 (ofM l) A1 c1 ((ValsZ.few hvl (hle1.trans hz2)).mono hle3) hal key D hD hw.last hw.more (by omega) (mkT (ofM l) 0) hw.sib (hw.on D (Nat.le_refl _))).comes) rfl rfl rfl (fun _ => same) fun ⟨⟨h4, A32, c32⟩, hle4⟩ => ?_
      refine ha_one 10 ?_
      refine ho_C 10 rfl ((rEqual_same n key (mkT (ofM l) 0) D hD A28 A32 c28 c32).comes) rfl rfl rfl (fun _ => same) fun _ => ?_
      refine ha_takeP 11 rfl (r_pick rfl rfl) ?_
      refine ha_takeP 12 rfl (r_assign rfl) ?_
      refine ha_done (by kernel_rfl) ?_
      refine q_then ?_
      refine h_ret ?_
      exact h_ret1 rfl rfl fun w s => ⟨⟨h4, ((hle1.trans hz2).trans hle3).trans hle4⟩, rfl, (same (L' := [.zone true h4]) w s).res (List.Sublist.refl _) (by simp [Fa.wr])⟩
    · refine h_seq ?_
      refine h_reg ?_
      refine h_opX (x_box rfl) fun g5 => ?_
      refine h_op (r_assign rfl) ?_
      refine h_nil ?_
      refine q_then ?_
      refine h_seq ?_
      refine h_reg ?_
      refine h_op (r_move rfl) ?_
      refine h_op (r_move rfl) ?_
      refine h_call ((Tree_few n hn l B c (by simpa using hf)).comes) rfl rfl rfl fun _ => ?_
      refine h_op (r_move rfl) ?_
      refine h_op (r_extract rfl rfl) ?_
      refine h_op (r_extract rfl rfl) ?_
      refine h_op (r_extract rfl rfl) ?_
      refine h_op (r_assign rfl) ?_
      refine h_op (r_assign rfl) ?_
      refine h_op (r_assign rfl) ?_
      refine h_nil ?_
      refine q_then ?_
      refine h_seq ?_
      refine h_reg ?_
      refine h_op (r_move rfl) ?_
      refine h_call ((Hash_s n hn).comes) rfl rfl rfl fun ⟨gh, gc⟩ => ?_
      dsimp only
      refine h_op (r_assign rfl) ?_
      refine h_nil ?_
      refine q_then ?_
      refine h_seq ?_
      refine h_seq ?_
      refine h_reg ?_
      refine h_op (r_move rfl) ?_
      refine h_op (r_not rfl) ?_
      refine h_nil ?_
      refine q_then ?_
      refine h_condT rfl ?_
      refine h_seq ?_
      refine h_reg ?_
      refine h_call ((alive15_s h).comes) rfl rfl rfl fun ⟨h1, hle1⟩ => ?_
      dsimp only
      refine h_op (r_assign rfl) ?_
      refine h_nil ?_
      refine q_then ?_
      refine h_ret ?_
      refine q_thenR ?_
      exact h_ret1 rfl rfl fun w s => ⟨⟨h1, hle1⟩, rfl, (same (L' := [.zone true h1]) w s).res (List.Sublist.refl _) (by simp [Fa.wr])⟩
  · refine h_seq ?_
    refine h_reg ?_
    refine h_opX (x_box rfl) fun g5 => ?_
    refine h_op (r_assign rfl) ?_
    refine h_nil ?_
    refine q_then ?_
    refine h_seq ?_
    refine h_reg ?_
    refine h_op (r_move rfl) ?_
    refine h_op (r_move rfl) ?_
    refine h_call ((Tree_bits i hi l B c).comes) rfl rfl rfl fun _ => ?_
    refine h_op (r_move rfl) ?_
    refine h_op (r_extract rfl rfl) ?_
    refine h_op (r_extract rfl rfl) ?_
    refine h_op (r_extract rfl rfl) ?_
    refine h_op (r_assign rfl) ?_
    refine h_op (r_assign rfl) ?_
    refine h_op (r_assign rfl) ?_
    refine h_nil ?_
    refine q_then ?_
    refine h_seq ?_
    refine h_reg ?_
    refine h_op (r_move rfl) ?_
    refine h_call ((Hash_no i hi).comes) rfl rfl rfl fun _ => ?_
    refine h_op (r_assign rfl) ?_
    refine h_nil ?_
    refine q_then ?_
    refine h_seq ?_
    refine h_seq ?_
    refine h_reg ?_
    refine h_op (r_move rfl) ?_
    refine h_op (r_not rfl) ?_
    refine h_nil ?_
    refine q_then ?_
    refine h_condT rfl ?_
    refine h_seq ?_
    refine h_reg ?_
    refine h_call ((alive15_s h).comes) rfl rfl rfl fun ⟨h1, hle1⟩ => ?_
    dsimp only
    refine h_op (r_assign rfl) ?_
    refine h_nil ?_
    refine q_then ?_
    refine h_ret ?_
    refine q_thenR ?_
    exact h_ret1 rfl rfl fun w s => ⟨⟨h1, hle1⟩, rfl, (same (L' := [.zone true h1]) w s).res (List.Sublist.refl _) (by simp [Fa.wr])⟩
end
end Go.Proofs.YtdfeimdhlagebaaGreatDoor
/- U18 -/
namespace Go.Proofs.YtdfeimdhlagebaaGreatDoor
set_option linter.unusedSimpArgs false
set_option linter.unusedVariables false
open Go.RowKit
def endP (p : Proof) : List UInt8 := if p.kind = 1 then preL p.leaf else preE
theorem endP_len (p : Proof) : (endP p).length ≤ 65 := by
  unfold endP
  split
  · rw [preL_len]; exact Nat.le_refl _
  · decide
theorem end_s (p : Proof) : Spec Tryz.prog 108 [.agg p.cells.toArray].toArray [] [] (fun u : Nat × Nat => .slice (some ⟨u.1, 0, none⟩) (endP p).length u.2) (fun u => [.own (.slice (some ⟨u.1, 0, none⟩) (endP p).length u.2) (endP p).length 5 1 (bc (endP p))]) := by
  refine spec_of Tryz.func108 rfl (n := 10) rfl rfl ?_
  intro W
  refine h_seq ?_
  refine h_reg ?_
  refine h_opX (x_box rfl) fun g1 => ?_
  refine h_op (r_assign rfl) ?_
  refine h_nil ?_
  refine q_then ?_
  refine h_seq ?_
  refine h_seq ?_
  refine h_reg ?_
  refine h_op (r_field rfl) ?_
  refine h_op (r_loadc rfl) ?_
  refine h_op (r_eql rfl rfl) ?_
  refine h_nil ?_
  refine q_then ?_
  refine h_cond rfl (fun h => ?_) (fun h => ?_)
  · rw [show endP p = preL p.leaf from if_pos h]
    refine h_seq ?_
    refine h_reg ?_
    refine h_op (r_field rfl) ?_
    refine h_op (r_loadr rfl) ?_
    refine h_call ((pLeaf_s p.leaf).comes) rfl rfl rfl fun ⟨g, c⟩ => ?_
    dsimp only
    refine h_op (r_assign rfl) ?_
    refine h_nil ?_
    refine q_then ?_
    refine h_ret ?_
    refine q_thenR ?_
    exact h_ret1 rfl rfl fun w s => ⟨(g, c), rfl, s.res ((List.nil_sublist _).cons_cons _) (by simp [Fa.wr])⟩
  · rw [show endP p = preE from if_neg h]
    refine h_skip ?_
    refine q_then ?_
    refine h_seq ?_
    refine h_reg ?_
    refine h_call (pEmpty_s.comes) rfl rfl rfl fun ⟨g, c⟩ => ?_
    dsimp only
    refine h_op (r_assign rfl) ?_
    refine h_nil ?_
    refine q_then ?_
    refine h_ret ?_
    exact h_ret1 rfl rfl fun w s => ⟨(g, c), rfl, s.res ((List.nil_sublist _).cons_cons _) (by simp [Fa.wr])⟩
theorem End_s (p : Proof) (n : Nat) (hn : n ≤ 256) (gh gc k : Nat) (hk : k ≤ 1000000000000) : Spec Tryz.prog 70 [.pointer (some ⟨gh, 0, none⟩), .agg p.cells.toArray].toArray [.rd (some ⟨gh, 0, none⟩) [.pointer (some ⟨gc, 0, none⟩), .int .i64 (n : Int)], .rd (some ⟨0, 0, none⟩) hashT] [.blk gc [.int .i64 (k : Int)] 166] (fun _ : Unit => .agg (sumB n (endP p)).cells.toArray) (fun _ => [.blk gc [.int .i64 ((k + 1 : Nat) : Int)] 166]) := by
  have hl := endP_len p
  refine spec_of Tryz.func70 rfl (n := 9) rfl rfl ?_
  intro W
  refine h_seq ?_
  refine h_reg ?_
  refine h_opX (x_box rfl) fun g3 => ?_
  refine h_opX (x_alloc) fun g4 => ?_
  refine h_nil ?_
  refine q_then ?_
  refine h_seq ?_
  refine h_reg ?_
  refine h_op (r_move rfl) ?_
  refine h_op (r_loadr rfl) ?_
  refine h_call ((end_s p).comes) rfl rfl rfl fun ⟨g, c⟩ => ?_
  dsimp only
  refine h_call ((HSum_s n hn gh gc k hk (endP p) (some ⟨g, 0, none⟩) c (fun h => by cases h) (by omega)).comes) rfl rfl rfl fun _ => ?_
  refine h_opS (s_storer rfl rfl) ?_
  refine h_nil ?_
  refine q_then ?_
  refine h_ret ?_
  exact h_ret1 rfl (rv_row rfl) fun w s => ⟨(), rfl, (same w s).res (List.Sublist.refl _) (by simp [Fa.wr])⟩
theorem Backward_s (A : Option Addr) (N c : Nat) : Spec Tryz.prog 143 [.slice A N c].toArray [] [] (fun g : Nat => .func (.func 164) #[] [.pointer (some ⟨g, 0, none⟩)].toArray) (fun g => [.blk g [.slice A N c] 34]) := by
  refine spec_of Tryz.func143 rfl (n := 4) rfl rfl ?_
  intro W
  refine h_seq ?_
  refine h_reg ?_
  refine h_opX (x_box1 rfl) fun g1 => ?_
  refine h_op (r_assign rfl) ?_
  refine h_nil ?_
  refine q_then ?_
  refine h_seq ?_
  refine h_reg ?_
  refine h_op (r_func rfl rfl) ?_
  refine h_op (r_assign rfl) ?_
  refine h_nil ?_
  refine q_then ?_
  refine h_ret ?_
  exact h_ret1 rfl rfl fun w s => ⟨g1, rfl, s.res (List.Sublist.refl _) (by simp [Fa.wr])⟩
theorem Backward_it (ds : List B32) (b o c g1 : Nat) (hl : ds.length ≤ 1000000) : IterG Tryz.prog 164 [.pointer (some ⟨g1, 0, none⟩)] [.rd (some ⟨g1, 0, none⟩) [.slice (some ⟨b, o, none⟩) ds.length c], .rd (some ⟨b, o, none⟩) (dgs ds)] [] ds.length (fun k (_ : Unit) => [.int .i64 ((ds.length - 1 - k : Nat) : Int), .agg (ds.getD (ds.length - 1 - k) zB32).cells.toArray]) (fun _ _ => []) [] := by
  refine iter_ofG Tryz.func164 rfl (n := 19) rfl rfl ?_
  intro l J Rm m0 W hJw hRm hy h0
  refine h_seq ?_
  refine h_reg ?_
  refine h_op (r_loadc rfl) ?_
  refine h_op (r_len rfl) ?_
  refine h_op (r_sub rfl rfl) ?_
  refine h_op (r_assign rfl) ?_
  refine h_nil ?_
  refine q_then ?_
  refine h_block ?_
  refine h_loop (fun (s : Nat × List Fa) => s.1 ≤ ds.length ∧ J s.1 s.2) (fun (s : Nat × List Fa) => [(3, .int .i64 ((ds.length : Int) - 1 - (s.1 : Int))), (0, .func (.yield l) #[] #[]), (1, .pointer (some ⟨g1, 0, none⟩))]) (fun (s : Nat × List Fa) => .rd (some ⟨g1, 0, none⟩) [.slice (some ⟨b, o, none⟩) ds.length c] :: .rd (some ⟨b, o, none⟩) (dgs ds) :: (s.2 ++ Rm)) (fun (s : Nat × List Fa) => ds.length - s.1) (0, m0) ((show 0 ≤ ds.length ∧ J 0 m0 from ⟨by omega, h0⟩)) ⟨aI rfl (by dsimp only; omega), rfl, rfl, trivial⟩ (fun _ s => s) ?_
  rintro ⟨k, mm⟩ ⟨hk, hJ⟩
  dsimp only at hk hJ ⊢
  refine h_seq ?_
  refine h_seq ?_
  refine h_reg ?_
  refine h_op (r_move rfl) ?_
  refine h_op (r_geq rfl rfl) ?_
  refine h_nil ?_
  refine q_then ?_
  refine h_cond rfl (fun h => ?_) (fun h => ?_)
  · have hk2 : k < ds.length := by omega
    refine h_E (E' := [(3, .int .i64 ((ds.length - 1 - k : Nat) : Int)), (0, .func (.yield l) #[] #[]), (1, .pointer (some ⟨g1, 0, none⟩))]) ⟨aI rfl (by omega), rfl, rfl, trivial⟩ ?_
    refine h_skip ?_
    refine q_then ?_
    refine h_seq ?_
    refine h_block ?_
    refine h_seq ?_
    refine h_reg ?_
    refine h_op (r_move rfl) ?_
    refine h_op (r_move rfl) ?_
    refine h_op (r_loadc rfl) ?_
    refine h_op (r_move rfl) ?_
    refine h_op (r_idx rfl rfl) ?_
    refine h_op (r_nthr rfl (out := (ds.getD (ds.length - 1 - k) zB32).cells) (B32.cells_length _) (dgs_at (by omega))) ?_
    refine h_yield (hy k () mm hk2 hJ) hRm rfl rfl fun m' hJ' => ?_
    refine h_op (r_not rfl) ?_
    refine h_nil ?_
    refine q_then ?_
    refine h_condF rfl ?_
    refine h_skip ?_
    refine q_block ?_
    refine q_then ?_
    refine h_reg ?_
    refine h_op (r_move rfl) ?_
    refine h_op (r_sub rfl rfl) ?_
    refine h_op (r_assign rfl) ?_
    refine h_nil ?_
    exact h_back (k + 1, m') ((show k + 1 ≤ ds.length ∧ J (k + 1) m' from ⟨by omega, hJ'⟩)) ((show ds.length - (k + 1) < ds.length - k by omega)) ⟨aI rfl (by omega), rfl, rfl, trivial⟩ (fun _ s => s)
  · obtain rfl : k = ds.length := by omega
    refine h_exit ?_
    refine q_thenE ?_
    refine q_thenE ?_
    refine q_blockE ?_
    refine h_end ?_
    exact h_ret0 rfl fun w s => ⟨_, mm, rfl, hJ, s.res (((List.sublist_append_left _ _).cons _).cons _) (hJw _ _ hJ)⟩
theorem ways_s (gh : Value) (p : Proof) (A : Option Addr) (N c : Nat) (key : B32) (hg : gh.cells = #[gh]) : Spec Tryz.prog 106 [gh, .agg p.cells.toArray, .slice A N c, .agg key.cells.toArray].toArray [] [] (fun u : Nat × Nat × Nat × Nat => .func (.func 142) #[] [.pointer (some ⟨u.1, 0, none⟩), .pointer (some ⟨u.2.1, 0, none⟩), .pointer (some ⟨u.2.2.1, 0, none⟩), .pointer (some ⟨u.2.2.2, 0, none⟩)].toArray) (fun u => [.blk u.1 p.cells 36, .blk u.2.1 [gh] 28, .blk u.2.2.1 [.slice A N c] 34, .blk u.2.2.2 key.cells 24]) := by
  refine spec_of Tryz.func106 rfl (n := 10) rfl rfl ?_
  intro W
  refine h_seq ?_
  refine h_reg ?_
  refine h_opX (x_box1 rfl hg) fun g4 => ?_
  refine h_opX (x_box rfl) fun g5 => ?_
  refine h_opX (x_box1 rfl) fun g6 => ?_
  refine h_opX (x_box rfl) fun g7 => ?_
  refine h_op (r_assign rfl) ?_
  refine h_nil ?_
  refine q_then ?_
  refine h_seq ?_
  refine h_reg ?_
  refine h_op (r_func rfl rfl) ?_
  refine h_op (r_assign rfl) ?_
  refine h_nil ?_
  refine q_then ?_
  refine h_ret ?_
  exact h_ret1 rfl rfl fun w s => ⟨(g5, g4, g6, g7), rfl, (same w s).res (List.Sublist.refl _) (by simp [Fa.wr])⟩
end Go.Proofs.YtdfeimdhlagebaaGreatDoor
/- U19 -/
namespace Go.Proofs.YtdfeimdhlagebaaGreatDoor
set_option linter.unusedSimpArgs false
set_option linter.unusedVariables false
open Go.RowKit
/-- the preimages along the way, from the end on -/
def wayP (n : Nat) (key : B32) (ds : List B32) (pre : List UInt8) : Nat → List UInt8
  | 0 => pre
  | k + 1 => if bitAt key (ds.length - 1 - k) then preN (ds.getD (ds.length - 1 - k) zB32) (sumB n (wayP n key ds pre k)) else preN (sumB n (wayP n key ds pre k)) (ds.getD (ds.length - 1 - k) zB32)
theorem wayP_len (n : Nat) (key : B32) (ds : List B32) (pre : List UInt8) (h : pre.length ≤ 65) : ∀ k, (wayP n key ds pre k).length ≤ 65
  | 0 => h
  | k + 1 => by
    rw [wayP]
    split <;> rw [preN_len] <;> exact Nat.le_refl _
theorem Bit_y (b : B32) (i : Nat) (hi : i < 256) (h : bitAt b i = true) : Spec Tryz.prog 79 [.agg b.cells.toArray, .int .i64 (i : Int)].toArray [] [] (fun _ : Unit => .int .i64 1) (fun _ => []) := by
  have := Bit_s b i hi
  rwa [show bitN b i = 1 by unfold bitN; rw [h]; rfl] at this
theorem Bit_n (b : B32) (i : Nat) (hi : i < 256) (h : ¬ bitAt b i = true) : Spec Tryz.prog 79 [.agg b.cells.toArray, .int .i64 (i : Int)].toArray [] [] (fun _ : Unit => .int .i64 0) (fun _ => []) := by
  have := Bit_s b i hi
  rwa [show bitN b i = 0 by unfold bitN; rw [if_neg h]] at this
instance (a b : B32) : Row (a.cells ++ b.cells) 64 := ⟨by rw [List.length_append, B32.cells_length, B32.cells_length], fun v hv => (List.mem_append.1 hv).elim (B32.cells_one a v) (B32.cells_one b v)⟩
instance (a b c : B32) : SetAt (a.cells ++ b.cells) 0 c.cells (c.cells ++ b.cells) := ⟨by rw [List.take_zero, List.nil_append, Nat.zero_add, B32.cells_length, List.drop_append, List.drop_of_length_le (by rw [B32.cells_length]; exact Nat.le_refl _), B32.cells_length, Nat.sub_self, List.drop_zero, List.nil_append], by simp [B32.cells_length]⟩
instance (a b c : B32) : SetAt (a.cells ++ b.cells) 32 c.cells (a.cells ++ c.cells) := ⟨by rw [List.take_append_of_le_length (by rw [B32.cells_length]; exact Nat.le_refl _), List.take_of_length_le (by rw [B32.cells_length]; exact Nat.le_refl _), List.drop_of_length_le (by simp [B32.cells_length]), List.append_nil], by simp [B32.cells_length]⟩
instance (a b : B32) : RowAt (a.cells ++ b.cells) 0 32 a.cells := ⟨fun j v hv => by rw [Nat.zero_add, List.getElem?_append_left (List.getElem?_eq_some_iff.1 hv).1]; exact hv, B32.cells_length a⟩
instance (a b : B32) : RowAt (a.cells ++ b.cells) 32 32 b.cells := ⟨fun j v hv => by rw [List.getElem?_append_right (by rw [B32.cells_length]; omega), B32.cells_length, Nat.add_sub_cancel_left]; exact hv, B32.cells_length b⟩
instance : TZ Tryz.prog 140 (zB32.cells ++ zB32.cells) := ⟨⟨.agg (zB32.cells ++ zB32.cells).toArray, by kernel_rfl, rfl⟩⟩
instance : TB Tryz.prog 140 (zB32.cells ++ zB32.cells) (plArr 32) := ⟨fun w ps cells h => run_build_array Tryz.underlying140 (z := (zB32.cells ++ zB32.cells).toArray) (n := 64) (by kernel_rfl) (s := 32) (by kernel_rfl) h⟩
/-! tails -/
class TakeTl (m L : List Fa) (M : outParam (List Fa)) : Prop where
  perm : L.Perm (m ++ M)
instance (m R : List Fa) : TakeTl m (m ++ R) R := ⟨List.Perm.refl _⟩
instance (priority := 100) (m : List Fa) (f : Fa) (L M : List Fa) [h : TakeTl m L M] : TakeTl m (f :: L) (f :: M) := ⟨(h.perm.cons f).trans List.perm_middle.symm⟩
instance (priority := 5) (m L M : List Fa) [h : TakeTl m L M] : Take m L M := ⟨h.perm⟩
class RmOk (Rm : List Fa) : Prop where
  ok : ∀ r ∈ Rm, r.wr = false
instance (Rm : List Fa) [h : RmOk Rm] : Rds Rm Rm := ⟨fun hw r hr => ⟨h.ok r hr, hw.ok r hr, fun k hk => ⟨r, hr, hk⟩⟩⟩
instance (priority := 5) (Rm : List Fa) (f : Fa) (L : List Fa) [RmOk Rm] [h : Rds L Rm] : Rds (f :: L) Rm := ⟨fun hw r hr => by
  obtain ⟨h1, h2, h3⟩ := h.ok hw.tail r hr
  exact ⟨h1, h2, fun k hk => let ⟨g, hg, hgk⟩ := h3 k hk; ⟨g, List.mem_cons_of_mem _ hg, hgk⟩⟩⟩
theorem Sx.mid {A : List Fa} {W w : World} {pre m l R : List Fa} (s : Sx A W w (pre ++ (m ++ (l ++ R)))) : Sx A W w (pre ++ (l ++ (m ++ R))) := s.perm (List.Perm.append_left _ (by
  rw [← List.append_assoc, ← List.append_assoc]
  exact List.Perm.append_right _ List.perm_append_comm))
/-- what the walk has at round k -/
def wayF (n : Nat) (key : B32) (ds : List B32) (pre : List UInt8) (gc k0 g6 g7 k : Nat) (m : List Fa) (u : Nat × Nat) : List Fa :=
  .blk g6 [.slice (some ⟨u.1, 0, none⟩) (wayP n key ds pre k).length u.2] 38 :: .blk g7 (sumB n (wayP n key ds pre k)).cells 31 :: .own (.slice (some ⟨u.1, 0, none⟩) (wayP n key ds pre k).length u.2) (wayP n key ds pre k).length 5 1 (bc (wayP n key ds pre k)) :: .blk gc [.int .i64 ((k0 + k + 1 : Nat) : Int)] 166 :: m
theorem wayF_wr {n : Nat} {key : B32} {ds : List B32} {pre : List UInt8} {gc k0 g6 g7 k : Nat} {m : List Fa} {u : Nat × Nat} (h : ∀ f ∈ m, f.wr = true) : ∀ f ∈ wayF n key ds pre gc k0 g6 g7 k m u, f.wr = true := by
  intro f hf
  unfold wayF at hf
  simp only [List.mem_cons] at hf
  rcases hf with rfl | rfl | rfl | rfl | hf
  · rfl
  · rfl
  · rfl
  · rfl
  · exact h f hf
abbrev wayR (p : Proof) (n : Nat) (key : B32) (ds : List B32) (gh gc b o c a1 a2 a3 a4 : Nat) : List Fa :=
  [.rd (some ⟨a1, 0, none⟩) p.cells, .rd (some ⟨a2, 0, none⟩) [.pointer (some ⟨gh, 0, none⟩)], .rd (some ⟨a3, 0, none⟩) [.slice (some ⟨b, o, none⟩) ds.length c], .rd (some ⟨a4, 0, none⟩) key.cells, .rd (some ⟨gh, 0, none⟩) [.pointer (some ⟨gc, 0, none⟩), .int .i64 (n : Int)], .rd (some ⟨b, o, none⟩) (dgs ds), .rd (some ⟨0, 0, none⟩) hashT]
theorem ways_it (p : Proof) (n : Nat) (hn : n ≤ 256) (key : B32) (ds : List B32) (hds : ds.length ≤ 256) (gh gc k0 b o c a1 a2 a3 a4 : Nat) (hk0 : k0 ≤ 900000000000) : IterG Tryz.prog 142 [.pointer (some ⟨a1, 0, none⟩), .pointer (some ⟨a2, 0, none⟩), .pointer (some ⟨a3, 0, none⟩), .pointer (some ⟨a4, 0, none⟩)] [.rd (some ⟨a1, 0, none⟩) p.cells, .rd (some ⟨a2, 0, none⟩) [.pointer (some ⟨gh, 0, none⟩)], .rd (some ⟨a3, 0, none⟩) [.slice (some ⟨b, o, none⟩) ds.length c], .rd (some ⟨a4, 0, none⟩) key.cells, .rd (some ⟨gh, 0, none⟩) [.pointer (some ⟨gc, 0, none⟩), .int .i64 (n : Int)], .rd (some ⟨b, o, none⟩) (dgs ds), .rd (some ⟨0, 0, none⟩) hashT] [.blk gc [.int .i64 (k0 : Int)] 166] (ds.length + 1)
    (fun k (u : Nat × Nat) => [.slice (some ⟨u.1, 0, none⟩) (wayP n key ds (endP p) k).length u.2, .agg (sumB n (wayP n key ds (endP p) k)).cells.toArray])
    (fun k (u : Nat × Nat) => [.own (.slice (some ⟨u.1, 0, none⟩) (wayP n key ds (endP p) k).length u.2) (wayP n key ds (endP p) k).length 5 1 (bc (wayP n key ds (endP p) k))])
    [.blk gc [.int .i64 ((k0 + ds.length + 1 : Nat) : Int)] 166] := by
  have hel := endP_len p
  have hE := end_s p
  generalize hpre : endP p = pre at *
  have hwl := wayP_len n key ds pre hel
  refine iter_ofG Tryz.func142 rfl (n := 45) rfl rfl ?_
  intro l J Rm m0 W hJw hRm hy h0
  have hRI : RmOk Rm := ⟨hRm⟩
  refine h_seq ?_
  refine h_reg ?_
  refine h_opX (x_box1 rfl) fun g5 => ?_
  refine h_nil ?_
  refine q_then ?_
  refine h_seq ?_
  refine h_reg ?_
  refine h_op (r_loadr rfl) ?_
  refine h_call (hE.comes) rfl rfl rfl fun ⟨gP, cP⟩ => ?_
  dsimp only
  refine h_opX (x_alloc) fun g6 => ?_
  refine h_opS (s_store rfl rfl rfl) ?_
  refine h_nil ?_
  refine q_then ?_
  refine h_seq ?_
  refine h_reg ?_
  refine h_op (r_loadc rfl) ?_
  refine h_op (r_loadc rfl) ?_
  refine h_call ((HSum_s n hn gh gc k0 (by omega) pre (some ⟨gP, 0, none⟩) cP (fun h => by cases h) (by omega)).comes) rfl rfl rfl fun _ => ?_
  refine h_opX (x_alloc) fun g7 => ?_
  refine h_opS (s_storer rfl rfl) ?_
  refine h_nil ?_
  refine q_then ?_
  refine h_seq ?_
  refine h_seq ?_
  refine h_reg ?_
  refine h_op (r_loadc rfl) ?_
  refine h_call ((Backward_s (some ⟨b, o, none⟩) ds.length c).comes) rfl rfl rfl fun g17 => ?_
  refine h_nil ?_
  refine q_then ?_
  refine h_block ?_
  change H _ _ _ _ _ (_ :: .blk g7 (sumB n (wayP n key ds pre 0)).cells _ :: .blk gc [.int .i64 ((k0 + 0 + 1 : Nat) : Int)] _ :: .blk g6 [.slice (some ⟨gP, 0, none⟩) (wayP n key ds pre 0).length cP] _ :: .own (.slice (some ⟨gP, 0, none⟩) (wayP n key ds pre 0).length cP) (wayP n key ds pre 0).length _ _ (bc (wayP n key ds pre 0)) :: _) _
  refine h_rangeG (Backward_it ds b o c g17 (by omega)) rfl (fun k mm => ∃ (u : Nat × Nat) (m1 : List Fa), mm = wayF n key ds pre gc k0 g6 g7 k m1 u ∧ J k m1) (.blk g6 [.slice (some ⟨gP, 0, none⟩) (wayP n key ds pre 0).length cP] 38 :: .blk g7 (sumB n (wayP n key ds pre 0)).cells 31 :: .own (.slice (some ⟨gP, 0, none⟩) (wayP n key ds pre 0).length cP) (wayP n key ds pre 0).length 5 1 (bc (wayP n key ds pre 0)) :: .blk gc [.int .i64 ((k0 + 0 + 1 : Nat) : Int)] 166 :: m0) (.rd (some ⟨g5, 0, none⟩) [.func (.yield l) #[] #[]] :: .rd (some ⟨a2, 0, none⟩) [.pointer (some ⟨gh, 0, none⟩)] :: .rd (some ⟨a4, 0, none⟩) key.cells :: .rd (some ⟨gh, 0, none⟩) [.pointer (some ⟨gc, 0, none⟩), .int .i64 (n : Int)] :: .rd (some ⟨0, 0, none⟩) hashT :: Rm) (by rintro k mm ⟨u, m1, rfl, hJ⟩; exact wayF_wr (hJw _ _ hJ)) ⟨(gP, cP), m0, rfl, h0⟩ rfl (fun _ _ => rfl) ?_ ?_
  · intro ll rr k _ mm W1 hr hrp hkN hJ2
    obtain ⟨⟨g, c'⟩, m1, rfl, hJ⟩ := hJ2
    unfold wayF
    simp only [List.nil_append, List.cons_append]
    refine h_L (fun w s => Sx.mid (pre := [_, _, _, _, _]) (m := m1) (l := [.rd (some ⟨g5, 0, none⟩) [.func (.yield l) #[] #[]], .rd (some ⟨a2, 0, none⟩) [.pointer (some ⟨gh, 0, none⟩)], .rd (some ⟨a4, 0, none⟩) key.cells, .rd (some ⟨gh, 0, none⟩) [.pointer (some ⟨gc, 0, none⟩), .int .i64 (n : Int)], .rd (some ⟨0, 0, none⟩) hashT]) (R := Rm) s) ?_
    simp only [List.nil_append, List.cons_append]
    refine h_seq ?_
    refine h_reg ?_
    refine h_op (r_assign rfl) ?_
    refine h_nil ?_
    refine q_then ?_
    refine h_reg ?_
    refine h_opX (x_alloc) fun g9 => ?_
    refine h_opS (s_storer rfl rfl) ?_
    refine h_nil ?_
    refine q_then ?_
    refine h_begin hr ?_
    refine h_block ?_
    refine h_seq ?_
    refine h_seq ?_
    refine h_reg ?_
    refine h_op (r_loadc rfl) ?_
    refine h_op (r_loadc rfl) ?_
    refine h_op (r_loadr rfl) ?_
    refine h_yield (hy k (g, c') m1 (by omega) hJ) hRm rfl rfl fun m' hJ' => ?_
    refine h_op (r_not rfl) ?_
    refine h_nil ?_
    refine q_then ?_
    refine h_condF rfl ?_
    refine h_skip ?_
    refine q_then ?_
    refine h_seq ?_
    refine h_reg ?_
    refine h_op (r_loadr rfl) ?_
    refine h_op (r_loadr rfl) ?_
    refine h_op (r_build rfl) ?_
    refine h_opX (x_alloc) fun g10 => ?_
    refine h_opS (s_storer rfl rfl) ?_
    refine h_nil ?_
    refine q_then ?_
    refine h_seq ?_
    have hwr2 : ∀ (g37 c37 : Nat), ∀ f ∈ (.blk g6 [.slice (some ⟨g37, 0, none⟩) (wayP n key ds pre (k + 1)).length c37] 38 :: .blk g7 (sumB n (wayP n key ds pre (k + 1))).cells 31 :: .own (.slice (some ⟨g37, 0, none⟩) (wayP n key ds pre (k + 1)).length c37) (wayP n key ds pre (k + 1)).length 5 1 (bc (wayP n key ds pre (k + 1))) :: .blk gc [.int .i64 ((k0 + k + 1 + 1 : Nat) : Int)] 166 :: m'), f.wr = true := fun g37 c37 f hf => by
      simp only [List.mem_cons] at hf
      rcases hf with rfl | rfl | rfl | rfl | hf
      · rfl
      · rfl
      · rfl
      · rfl
      · exact hJw _ _ hJ' f hf
    by_cases hb : bitAt key (ds.length - 1 - k) = true
    · have hw1 : wayP n key ds pre (k + 1) = preN (ds.getD (ds.length - 1 - k) zB32) (sumB n (wayP n key ds pre k)) := by rw [wayP, if_pos hb]
      refine ha_start [.rd (some ⟨a4, 0, none⟩) key.cells, .blk g7 (sumB n (wayP n key ds pre k)).cells 31] [] mixed (same) ?_
      refine ha_take 0 rfl (r_loadr rfl) ?_
      refine ha_takeP 1 rfl (r_move rfl) ?_
      refine ha_take 3 rfl (r_loadr rfl) ?_
      refine ha_one 2 ?_
      refine ho_C 2 rfl ((Bit_y key (ds.length - 1 - k) (by omega) hb).comes) rfl rfl rfl (fun _ => same) fun _ => ?_
      refine ha_takeP 4 rfl (r_idxA rfl rfl) ?_
      refine ha_one 5 ?_
      refine ho_SL 5 rfl (s_storer rfl rfl) ?_
      refine q_then ?_
      refine h_seq ?_
      refine h_reg ?_
      refine h_op (r_idxA rfl rfl) ?_
      refine h_op (r_loadr rfl) ?_
      refine h_op (r_idxA rfl rfl) ?_
      refine h_op (r_loadr rfl) ?_
      refine h_call ((pNode_s (ds.getD (ds.length - 1 - k) zB32) (sumB n (wayP n key ds pre k))).comes) rfl rfl rfl fun ⟨g37, c37⟩ => ?_
      dsimp only
      rw [← hw1]
      have hl1 := hwl (k + 1)
      refine h_opS (s_store rfl rfl rfl) ?_
      refine h_nil ?_
      refine q_then ?_
      refine h_reg ?_
      refine h_op (r_loadc rfl) ?_
      refine h_op (r_loadc rfl) ?_
      refine h_call ((HSum_s n hn gh gc (k0 + k + 1) (by omega) (wayP n key ds pre (k + 1)) (some ⟨g37, 0, none⟩) c37 (fun h => by cases h) (by omega)).comes) rfl rfl rfl fun _ => ?_
      refine h_opS (s_storer rfl rfl) ?_
      refine h_nil ?_
      refine q_block ?_
      exact h_endround (.blk g6 [.slice (some ⟨g37, 0, none⟩) (wayP n key ds pre (k + 1)).length c37] 38 :: .blk g7 (sumB n (wayP n key ds pre (k + 1))).cells 31 :: .own (.slice (some ⟨g37, 0, none⟩) (wayP n key ds pre (k + 1)).length c37) (wayP n key ds pre (k + 1)).length 5 1 (bc (wayP n key ds pre (k + 1))) :: .blk gc [.int .i64 ((k0 + k + 1 + 1 : Nat) : Int)] 166 :: m') hr hrp ⟨(g37, c37), m', by rw [show k0 + (k + 1) + 1 = k0 + k + 1 + 1 by omega], hJ'⟩ (hwr2 g37 c37)
    · have hw1 : wayP n key ds pre (k + 1) = preN (sumB n (wayP n key ds pre k)) (ds.getD (ds.length - 1 - k) zB32) := by rw [wayP, if_neg hb]
      refine ha_start [.rd (some ⟨a4, 0, none⟩) key.cells, .blk g7 (sumB n (wayP n key ds pre k)).cells 31] [] mixed (same) ?_
      refine ha_take 0 rfl (r_loadr rfl) ?_
      refine ha_takeP 1 rfl (r_move rfl) ?_
      refine ha_take 3 rfl (r_loadr rfl) ?_
      refine ha_one 2 ?_
      refine ho_C 2 rfl ((Bit_n key (ds.length - 1 - k) (by omega) hb).comes) rfl rfl rfl (fun _ => same) fun _ => ?_
      refine ha_takeP 4 rfl (r_idxA rfl rfl) ?_
      refine ha_one 5 ?_
      refine ho_SL 5 rfl (s_storer rfl rfl) ?_
      refine q_then ?_
      refine h_seq ?_
      refine h_reg ?_
      refine h_op (r_idxA rfl rfl) ?_
      refine h_op (r_loadr rfl) ?_
      refine h_op (r_idxA rfl rfl) ?_
      refine h_op (r_loadr rfl) ?_
      refine h_call ((pNode_s (sumB n (wayP n key ds pre k)) (ds.getD (ds.length - 1 - k) zB32)).comes) rfl rfl rfl fun ⟨g37, c37⟩ => ?_
      dsimp only
      rw [← hw1]
      have hl1 := hwl (k + 1)
      refine h_opS (s_store rfl rfl rfl) ?_
      refine h_nil ?_
      refine q_then ?_
      refine h_reg ?_
      refine h_op (r_loadc rfl) ?_
      refine h_op (r_loadc rfl) ?_
      refine h_call ((HSum_s n hn gh gc (k0 + k + 1) (by omega) (wayP n key ds pre (k + 1)) (some ⟨g37, 0, none⟩) c37 (fun h => by cases h) (by omega)).comes) rfl rfl rfl fun _ => ?_
      refine h_opS (s_storer rfl rfl) ?_
      refine h_nil ?_
      refine q_block ?_
      exact h_endround (.blk g6 [.slice (some ⟨g37, 0, none⟩) (wayP n key ds pre (k + 1)).length c37] 38 :: .blk g7 (sumB n (wayP n key ds pre (k + 1))).cells 31 :: .own (.slice (some ⟨g37, 0, none⟩) (wayP n key ds pre (k + 1)).length c37) (wayP n key ds pre (k + 1)).length 5 1 (bc (wayP n key ds pre (k + 1))) :: .blk gc [.int .i64 ((k0 + k + 1 + 1 : Nat) : Int)] 166 :: m') hr hrp ⟨(g37, c37), m', by rw [show k0 + (k + 1) + 1 = k0 + k + 1 + 1 by omega], hJ'⟩ (hwr2 g37 c37)
  · intro bb mm hJ2
    obtain ⟨⟨g, c'⟩, m1, rfl, hJ⟩ := hJ2
    unfold wayF
    refine q_block ?_
    refine q_then ?_
    simp only [List.nil_append, List.cons_append]
    refine h_L (fun w s => Sx.mid (pre := [_, _, _, _]) (m := m1) (l := [.obj bb (.deferred (some [])), .blk g17 [.slice (some ⟨b, o, none⟩) ds.length c] 34, .blk g5 [.func (.yield l) #[] #[]] 203, .rd (some ⟨a1, 0, none⟩) p.cells, .rd (some ⟨a2, 0, none⟩) [.pointer (some ⟨gh, 0, none⟩)], .rd (some ⟨a3, 0, none⟩) [.slice (some ⟨b, o, none⟩) ds.length c], .rd (some ⟨a4, 0, none⟩) key.cells, .rd (some ⟨gh, 0, none⟩) [.pointer (some ⟨gc, 0, none⟩), .int .i64 (n : Int)], .rd (some ⟨b, o, none⟩) (dgs ds), .rd (some ⟨0, 0, none⟩) hashT]) (R := Rm) s) ?_
    simp only [List.nil_append, List.cons_append]
    refine h_reg ?_
    refine h_op (r_loadc rfl) ?_
    refine h_op (r_loadc rfl) ?_
    refine h_op (r_loadr rfl) ?_
    refine h_yield (hy ds.length (g, c') m1 (by omega) hJ) hRm rfl rfl fun m' hJ' => ?_
    refine h_nil ?_
    refine h_end ?_
    refine h_mark ?_
    exact h_ret0 rfl fun w s => ⟨_, m', rfl, hJ', (same w s).res (List.Sublist.refl _) (by intro f hf; simp only [List.mem_cons, List.cons_append, List.nil_append] at hf; exact hf.elim (fun h => by rw [h]; rfl) (hJw _ _ hJ' f))⟩
end Go.Proofs.YtdfeimdhlagebaaGreatDoor
