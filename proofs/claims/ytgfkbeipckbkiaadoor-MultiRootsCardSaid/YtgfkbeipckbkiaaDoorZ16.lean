/- law19.alive: it is true; multiproofs: the reference's Digest and Preimage; law19: MultiChecks, MultiRoots are true (joined texts: U81 U68 U82) -/
import Derived.Test.YtgfkbeipckbkiaaDoorZ15
set_option linter.all false
/- U81 -/
namespace Go.Proofs.YtgfkbeipckbkiaaDoor
set_option linter.unusedSimpArgs false
set_option linter.unusedVariables false
open Go.RowKit
def L1 : List En := [⟨⟨zB32, ⟨none, 0, 0⟩⟩, []⟩]
def ts1 : Nat → Tr
  | 0 => .nil
  | _ => .leaf zB32 []
theorem puts1 : Puts L1 ts1 := by
  intro i e he
  match i, he with
  | 0, he =>
    obtain rfl : _ = e := Option.some.inj he
    exact ⟨by decide, 0, ⟨by omega, (by intro h; cases h), (fun i hi => by omega)⟩, (fun k' v' h => by cases h), rfl⟩
  | i + 1, he => cases he
theorem vals1 (h : Zh) : ValsZ h L1 := by
  intro e he
  simp only [L1, List.mem_cons, List.not_mem_nil, or_false] at he
  subst he
  exact ⟨slz_nil h, by decide⟩
theorem rd1_pre {L : List Fa} {A : Option Addr} {cs ds : List Value} (h : Rd1 L (.rd A (cs ++ ds))) : Rd1 L (.rd A cs) := ⟨fun hw => by
  obtain ⟨h1, h2, h3⟩ := h.ok hw
  refine ⟨rfl, fun j v hv => h2 j v ?_, fun k hk => h3 k ⟨fun e => hk.1 (List.append_eq_nil_iff.1 e).1, hk.2⟩⟩
  rw [List.getElem?_append_left (List.getElem?_eq_some_iff.1 hv).1]
  exact hv⟩
instance (L : List Fa) (A : Option Addr) [h : Rd1 L (.rd A (ents L15))] : Rd1 L (.rd A (ents L1)) := rd1_pre (ds := ents (L15.drop 1)) h
theorem its_pre {h : Zh} {A : Option Addr} {l m : List Item} (hr : RdZ h A (its (l ++ m))) : RdZ h A (its l) := ⟨fun j v hv => hr.at_ j v (by
  rw [← its_app, List.getElem?_append_left (List.getElem?_eq_some_iff.1 hv).1]
  exact hv)⟩
abbrev lf1 : Item := ⟨1, zB32, leafOf 256 zB32 []⟩
abbrev lf2 : Item := ⟨1, zB32, leafOf 256 (kB 255) []⟩
theorem add1 : addT 256 (.leaf zB32 []) [kB 7, kB 9] 0 = [lf1] := rfl
abbrev S19 : Sub := .two (.one lf1) (.one lf2)
abbrev ks19 : List B32 := [zB32, kB 255]
theorem keys0 : keysB ks19 0 false = [zB32] := by decide +kernel
theorem keys1 : keysB ks19 0 true = [kB 255] := by decide +kernel
theorem sub19 : subT 256 T15 ks19 0 = S19 := by
  show Sub.two (subT 256 (.leaf zB32 []) (keysB ks19 0 false) 1) (subT 256 (.leaf (kB 255) []) (keysB ks19 0 true) 1) = _
  rw [keys0, keys1]
  rfl
theorem add19 : addT 256 T15 ks19 0 = [innerI, lf1, lf2] := by rw [addT_flat, sub19]; rfl
theorem parse19 : parseM [innerI, lf1, lf2] = .ok S19 := by
  have h1 : S19.ok := by rw [← sub19]; exact subT_ok ..
  exact flat_parse h1 (by decide)
theorem parse19b : parseM [innerI, lf1] = .error 5 := by
  unfold parseM
  have e : readM 256 [innerI, lf1] = none := by
    show readM (255 + 1) [innerI, lf1] = none
    unfold readM
    rw [if_pos rfl]
    have e1 : readM 255 [lf1] = some (.one lf1, []) := rfl
    rw [e1]
    rfl
  rw [e, if_pos (show [innerI, lf1].all kindOk = true from rfl)]
theorem ends19 : endsM S19 ks19 0 = ([(lf1, 1), (lf2, 1)], true) := by
  unfold endsM
  rw [keys0, keys1]
  rfl
theorem mkT15 : mkT L15 0 = T15 := by
  rw [mkT_two (by decide) (by decide)]
  have b0 : bitAt zB32 0 = false := by decide +kernel
  have b1 : bitAt (kB 255) 0 = true := by decide +kernel
  have h1 : part L15 0 false = [⟨⟨zB32, ⟨none, 0, 0⟩⟩, []⟩] := by simp [part, L15, En.key, b0, b1]
  have h2 : part L15 0 true = [⟨⟨kB 255, ⟨none, 0, 0⟩⟩, []⟩] := by simp [part, L15, En.key, b0, b1]
  rw [h1, h2, mkT_one _ (by decide), mkT_one _ (by decide)]
  rfl
theorem alike15 : Alike L15 0 := Alike.start (by decide)
theorem root19 : rootM 256 L15 0 = dgS 256 S19 := by
  unfold rootM
  rw [mkT15, ← sub19, subT_dg]
theorem keysE79 : keysE [kB 7, kB 9] = 0 := by decide +kernel
theorem keysE19 : keysE ks19 = 0 := by decide +kernel
theorem chk19 (h : Zh) (A : Option Addr) (c : Nat) [hr : RdZ h A (its [innerI, lf1, lf2])] (hc : 3 ≤ c) : Spec Tryd.prog 17 [.slice A 3 c].toArray [.zone false h] [] (fun _ : Unit => .int .i64 0) (fun _ => []) := by
  have := mCheck_s h [innerI, lf1, lf2] A c hc (by decide)
  rw [show checkM [innerI, lf1, lf2] = 0 by unfold checkM; rw [parse19]] at this
  exact this
theorem chk19b (h : Zh) (A : Option Addr) (c : Nat) [hr : RdZ h A (its [innerI, lf1])] (hc : 2 ≤ c) : Spec Tryd.prog 17 [.slice A 2 c].toArray [.zone false h] [] (fun _ : Unit => .int .i64 5) (fun _ => []) := by
  have := mCheck_s h [innerI, lf1] A c hc (by decide)
  rw [show checkM [innerI, lf1] = 5 by unfold checkM; rw [parse19b]] at this
  exact this
theorem alive19_s (h : Zh) [hT : RdZ h (some ⟨1, 0, none⟩) hashT] : Spec Tryd.prog 16 ([] : List Value).toArray [] [.zone true h] (fun _ : {x : Zh // LeZ h x} => .bool true) (fun x => [.zone true x.1]) := by
  refine spec_of Tryd.func16 rfl (n := 140) rfl rfl ?_
  intro W
  refine h_seq ?_
  refine h_reg ?_
  refine h_op (r_assign rfl) ?_
  refine h_nil ?_
  refine q_then ?_
  refine h_seq ?_
  refine h_reg ?_
  refine h_call ((Hash_s 256 (by decide)).comes) rfl rfl rfl fun ⟨gh, gc⟩ => ?_
  dsimp only
  refine h_op (r_assign rfl) ?_
  refine h_nil ?_
  refine q_then ?_
  refine h_seq ?_
  refine h_seq ?_
  refine h_reg ?_
  refine h_op (r_move rfl) ?_
  refine h_op (r_nilR rfl rfl) ?_
  refine h_nil ?_
  refine q_then ?_
  refine h_condF rfl ?_
  refine h_skip ?_
  refine q_then ?_
  refine h_seq ?_
  refine h_reg ?_
  refine h_op (r_build rfl) ?_
  refine h_op (r_build (out := (kB 255).cells) rfl (hf := ⟨fill_kB 255⟩)) ?_
  refine h_op (r_build rfl) ?_
  refine h_opX (x_bsl rfl rfl) fun g19 => ?_
  refine h_op (r_assign rfl) ?_
  refine h_nil ?_
  refine q_then ?_
  refine h_seq ?_
  change H _ _ _ _ _ (.own _ _ _ _ (ents L15) :: _) _
  have ht0 : TrZ 256 h (ts1 0) none := ⟨rfl⟩
  refine h_reg ?_
  refine h_op (r_move rfl) ?_
  refine h_op (r_move rfl) ?_
  refine h_op (r_move rfl) ?_
  refine h_op (r_slHb rfl rfl) ?_
  refine h_call ((PAll_s 256 (by decide) gh gc 0 h L1 (by decide) (vals1 h) ts1 puts1 none (some ⟨g19, 0, none⟩) 2).comes) rfl rfl rfl fun ⟨⟨h1, q1, k1⟩, hle1, ht1, hk1⟩ => ?_
  dsimp only at hle1 ht1 hk1 ⊢
  have hT1 : RdZ h1 (some ⟨1, 0, none⟩) hashT := hT.mono hle1
  have hk1' : k1 ≤ 0 + 1600 * 1 := hk1
  refine h_op (r_build (out := (kB 7).cells) rfl (hf := ⟨fill_kB 7⟩)) ?_
  refine h_op (r_build (out := (kB 9).cells) rfl (hf := ⟨fill_kB 9⟩)) ?_
  refine h_opX (x_bsl rfl rfl) fun g28 => ?_
  change H _ _ _ _ _ (.own _ _ _ _ (dgs [kB 7, kB 9]) :: _) _
  refine h_freezeO (.slice (some ⟨g28, 0, none⟩) 2 2) fun h2 B2 c2 e2 hle2 hlen2 hnil2 hz2 hr2 => ?_
  injection e2 with e2 _ e2'
  subst e2 e2'
  have hT2 : RdZ h2 (some ⟨1, 0, none⟩) hashT := hT1.mono hz2
  have hP1 := mProve_s h2 [kB 7, kB 9] (some ⟨g28, 0, none⟩) 2 256 (by decide) gh gc k1 (by omega) (.leaf zB32 []) q1 ⟨ht1.ok.mono hz2⟩ (by decide) keysE79 (by decide) (by decide)
  rw [add1] at hP1
  refine h_call (hP1.comes) rfl rfl rfl fun ⟨A29, c29⟩ => ?_
  dsimp only
  change H _ _ _ _ _ (.own (.slice A29 1 c29) 1 _ _ (its [lf1]) :: _) _
  refine h_freezeO (.slice A29 1 c29) fun h3 B3 c3 e3 hle3 hlen3 hnil3 hz3 hr3 => ?_
  injection e3 with e3 _ e3'
  subst e3 e3'
  obtain ⟨b3, o3, rfl, _⟩ := hr3.at_ 0 (.int .i64 1) rfl
  have hT3 : RdZ h3 (some ⟨1, 0, none⟩) hashT := hT2.mono hz3
  have ht3 : TrZ 256 h3 (ts15 0) none := ⟨rfl⟩
  refine h_op (r_move rfl) ?_
  refine h_op (r_extract rfl rfl) ?_
  refine h_op (r_extract rfl rfl) ?_
  refine h_op (r_assign rfl) ?_
  refine h_op (r_assign rfl) ?_
  refine h_nil ?_
  refine q_then ?_
  refine h_seq ?_
  refine h_reg ?_
  refine h_op (r_move rfl) ?_
  refine h_op (r_move rfl) ?_
  refine h_op (r_move rfl) ?_
  refine h_call ((PAll_s 256 (by decide) gh gc k1 h3 L15 (by show k1 + 1600 * 2 ≤ _; omega) (vals15 h3) ts15 puts15 none (some ⟨g19, 0, none⟩) 2).comes) rfl rfl rfl fun ⟨⟨h4, q4, k4⟩, hle4, ht4', hk4⟩ => ?_
  dsimp only at hle4 ht4' hk4 ⊢
  have ht4 : TrZ 256 h4 T15 q4 := ht4'
  have hT4 : RdZ h4 (some ⟨1, 0, none⟩) hashT := hT3.mono hle4
  have hk4' : k4 ≤ k1 + 1600 * 2 := hk4
  refine h_op (r_build rfl) ?_
  refine h_op (r_build (out := (kB 255).cells) rfl (hf := ⟨fill_kB 255⟩)) ?_
  refine h_opX (x_bsl rfl rfl) fun g39 => ?_
  change H _ _ _ _ _ (.own _ _ _ _ (dgs ks19) :: _) _
  refine h_freezeO (.slice (some ⟨g39, 0, none⟩) 2 2) fun h5 B5 c5 e5 hle5 hlen5 hnil5 hz5 hr5 => ?_
  injection e5 with e5 _ e5'
  subst e5 e5'
  have hT5 : RdZ h5 (some ⟨1, 0, none⟩) hashT := hT4.mono hz5
  have hPr := mProve_s h5 ks19 (some ⟨g39, 0, none⟩) 2 256 (by decide) gh gc k4 (by omega) T15 q4 ⟨ht4.ok.mono hz5⟩ (by decide) keysE19 (by decide) (by decide)
  rw [add19] at hPr
  refine h_call (hPr.comes) rfl rfl rfl fun ⟨A40, c40⟩ => ?_
  dsimp only
  change H _ _ _ _ _ (.own (.slice A40 3 c40) 3 _ _ (its [innerI, lf1, lf2]) :: _) _
  refine h_freezeO (.slice A40 3 c40) fun h6 B6 c6 e6 hle6 hlen6 hnil6 hz6 hr6 => ?_
  injection e6 with e6 _ e6'
  subst e6 e6'
  obtain ⟨b6, o6, rfl, _⟩ := hr6.at_ 0 (.int .i64 2) rfl
  have hT6 : RdZ h6 (some ⟨1, 0, none⟩) hashT := hT5.mono hz6
  have hrn : RdZ h6 none (dgs []) := RdZ.nil _ _
  have hPb := mProve_bad ([] : List B32) none 0 none gh (by decide) (by decide)
  rw [show keysE [] = 10 from rfl] at hPb
  refine h_op (r_move rfl) ?_
  refine h_op (r_extract rfl rfl) ?_
  refine h_op (r_extract rfl rfl) ?_
  refine h_op (r_assign rfl) ?_
  refine h_op (r_assign rfl) ?_
  refine h_nil ?_
  refine q_then ?_
  refine h_seq ?_
  refine h_reg ?_
  refine h_op (r_move rfl) ?_
  refine h_call (hPb.comes) rfl rfl rfl fun _ => ?_
  refine h_op (r_move rfl) ?_
  refine h_op (r_extract rfl rfl) ?_
  refine h_op (r_extract rfl rfl) ?_
  refine h_op (r_assign rfl) ?_
  refine h_op (r_assign rfl) ?_
  refine h_nil ?_
  refine q_then ?_
  refine h_seq ?_
  refine h_reg ?_
  refine h_op (r_move rfl) ?_
  refine h_op (r_build rfl) ?_
  refine h_op (r_build (out := (kB 255).cells) rfl (hf := ⟨fill_kB 255⟩)) ?_
  refine h_opX (x_bsl rfl rfl) fun g52 => ?_
  change H _ _ _ _ _ (.own _ _ _ _ (dgs ks19) :: _) _
  refine h_freezeO (.slice (some ⟨g52, 0, none⟩) 2 2) fun h7 B7 c7 e7 hle7 hlen7 hnil7 hz7 hr7 => ?_
  injection e7 with e7 _ e7'
  subst e7 e7'
  have hT7 : RdZ h7 (some ⟨1, 0, none⟩) hashT := hT6.mono hz7
  have hEn := Ends_s h7 [innerI, lf1, lf2] (some ⟨b6, o6, none⟩) c40 hle6 (by decide) ks19 (some ⟨g52, 0, none⟩) 2 S19 parse19 (by decide) (by decide) keysE19 _ _ ends19
  simp only [↓reduceIte] at hEn
  refine h_call (hEn.comes) rfl rfl rfl fun ⟨A53, c53⟩ => ?_
  dsimp only
  change H _ _ _ _ _ (.own (.slice A53 2 c53) 2 _ _ (endC [(lf1, 1), (lf2, 1)]) :: _) _
  refine h_freezeO (.slice A53 2 c53) fun h8 B8 c8 e8 hle8 hlen8 hnil8 hz8 hr8 => ?_
  injection e8 with e8 _ e8'
  subst e8 e8'
  obtain ⟨b8, o8, rfl, _⟩ := hr8.at_ 0 (.int .i64 1) rfl
  have hT8 : RdZ h8 (some ⟨1, 0, none⟩) hashT := hT7.mono hz8
  have hRo := mRoot_s h8 256 (by decide) gh gc k4 (by omega) [innerI, lf1, lf2] (some ⟨b6, o6, none⟩) c40 hle6 (by decide) S19 parse19
  have hRr := Root_any 256 (by decide) h8 (d := 0) (by decide) alike15 (by decide) (vals15 h8) (some ⟨g19, 0, none⟩) 2
  rw [root19] at hRr
  have hr8c : RdZ h8 (some ⟨b8, o8 + 98, none⟩) (End.cells ⟨lf2, 1⟩) := hr8.part (n := 98) (.mk' (pre := End.cells ⟨lf1, 1⟩) (post := []) rfl (End.cells_length _) (End.cells_length _))
  have hr8b : RdZ h8 (some ⟨b6, o6, none⟩) (its [innerI, lf1, lf2]) := inferInstance
  refine h_op (r_move rfl) ?_
  refine h_op (r_extract rfl rfl) ?_
  refine h_op (r_extract rfl rfl) ?_
  refine h_op (r_assign rfl) ?_
  refine h_op (r_assign rfl) ?_
  refine h_nil ?_
  refine q_then ?_
  refine h_seq ?_
  refine h_reg ?_
  refine h_op (r_move rfl) ?_
  refine h_op (r_move rfl) ?_
  refine h_call (hRo.comes) rfl rfl rfl fun _ => ?_
  refine h_op (r_move rfl) ?_
  refine h_op (r_extract rfl rfl) ?_
  refine h_op (r_extract rfl rfl) ?_
  refine h_opX (x_alloc) fun g11 => ?_
  refine h_opS (s_storer rfl rfl) ?_
  refine h_op (r_assign rfl) ?_
  refine h_nil ?_
  refine q_then ?_
  refine h_seq ?_
  refine ha_start [.zone true h8, .blk g11 (dgS 256 S19).cells 41] [] mixed (same) ?_
  refine ha_takeP 0 rfl (r_move rfl) ?_
  refine ha_takeP 1 rfl (r_len rfl) ?_
  refine ha_takeP 2 rfl (r_bool (r_eql rfl rfl) rfl) ?_
  refine ha_takeP 3 rfl (r_move rfl) ?_
  refine ha_takeP 4 rfl (r_move rfl) ?_
  refine ha_takeP 5 rfl (r_idx rfl rfl (hm := by simp)) ?_
  refine ha_takeP 6 rfl (r_field rfl) ?_
  refine ha_take 7 rfl (r_nth rfl (its_kind (l := [lf1]) (k := 0) rfl)) ?_
  refine ha_takeP 8 rfl (r_bool (r_eql rfl rfl) rfl) ?_
  refine ha_takeP 9 rfl (r_pick rfl rfl) ?_
  refine ha_takeP 10 rfl (r_move rfl) ?_
  refine ha_takeP 11 rfl (r_move rfl) ?_
  refine ha_takeP 12 rfl (r_bool (r_eql rfl rfl) rfl) ?_
  refine ha_takeP 13 rfl (r_pick rfl rfl) ?_
  refine ha_takeP 14 rfl (r_move rfl) ?_
  refine ha_takeP 15 rfl (r_move rfl) ?_
  refine ha_takeP 16 rfl (r_len rfl) ?_
  refine ha_takeP 17 rfl (r_bool (r_eql rfl rfl) rfl) ?_
  refine ha_takeP 18 rfl (r_pick rfl rfl) ?_
  refine ha_takeP 19 rfl (r_move rfl) ?_
  refine ha_takeP 20 rfl (r_move rfl) ?_
  refine ha_takeP 21 rfl (r_idx rfl rfl (hm := by simp)) ?_
  refine ha_takeP 22 rfl (r_field rfl) ?_
  refine ha_take 23 rfl (r_nth rfl (its_kind (l := [innerI, lf1, lf2]) (k := 0) rfl)) ?_
  refine ha_takeP 24 rfl (r_bool (r_eql rfl rfl) rfl) ?_
  refine ha_takeP 25 rfl (r_pick rfl rfl) ?_
  refine ha_takeP 26 rfl (r_move rfl) ?_
  refine ha_takeP 27 rfl (r_move rfl) ?_
  refine ha_takeP 28 rfl (r_idx rfl rfl (hm := by simp)) ?_
  refine ha_takeP 29 rfl (r_field rfl) ?_
  refine ha_take 30 rfl (r_nth rfl (its_kind (l := [innerI, lf1, lf2]) (k := 2) rfl)) ?_
  refine ha_takeP 31 rfl (r_bool (r_eql rfl rfl) rfl) ?_
  refine ha_takeP 32 rfl (r_pick rfl rfl) ?_
  refine ha_takeP 33 rfl (r_move rfl) ?_
  refine ha_takeP 34 rfl (r_move rfl) ?_
  refine ha_takeP 35 rfl (r_bool (r_eql rfl rfl) rfl) ?_
  refine ha_takeP 36 rfl (r_pick rfl rfl) ?_
  refine ha_takeP 37 rfl (r_move rfl) ?_
  refine ha_takeP 38 rfl (r_move rfl) ?_
  refine ha_takeP 39 rfl (r_bool (r_eql rfl rfl) rfl) ?_
  refine ha_takeP 40 rfl (r_pick rfl rfl) ?_
  refine ha_takeP 41 rfl (r_move rfl) ?_
  refine ha_takeP 42 rfl (r_move rfl) ?_
  refine ha_one 43 ?_
  refine ho_C 43 rfl ((chk19 h8 (some ⟨b6, o6, none⟩) c40 hle6).comes) rfl rfl rfl (fun _ => same) fun _ => ?_
  refine ha_takeP 44 rfl (r_bool (r_eql rfl rfl) rfl) ?_
  refine ha_takeP 45 rfl (r_pick rfl rfl) ?_
  refine ha_takeP 46 rfl (r_move rfl) ?_
  refine ha_takeP 47 rfl (r_move rfl) ?_
  refine ha_takeP 48 rfl (r_slHb rfl rfl) ?_
  refine ha_one 49 ?_
  refine ho_C 49 rfl ((chk19b h8 (some ⟨b6, o6, none⟩) c40 (hr := its_pre (l := [innerI, lf1]) (m := [lf2]) hr8b) (by omega)).comes) rfl rfl rfl (fun _ => same) fun _ => ?_
  refine ha_takeP 50 rfl (r_bool (r_eql rfl rfl) rfl) ?_
  refine ha_takeP 51 rfl (r_pick rfl rfl) ?_
  refine ha_takeP 52 rfl (r_move rfl) ?_
  refine ha_takeP 53 rfl (r_move rfl) ?_
  refine ha_takeP 54 rfl (r_len rfl) ?_
  refine ha_takeP 55 rfl (r_bool (r_eql rfl rfl) rfl) ?_
  refine ha_takeP 56 rfl (r_pick rfl rfl) ?_
  refine ha_takeP 57 rfl (r_move rfl) ?_
  refine ha_takeP 58 rfl (r_move rfl) ?_
  refine ha_takeP 59 rfl (r_idx rfl rfl (hm := by simp)) ?_
  refine ha_takeP 60 rfl (r_field rfl) ?_
  refine ha_take 61 rfl (r_loadc (cs := End.cells ⟨lf2, 1⟩) (off := 97) rfl) ?_
  refine ha_takeP 62 rfl (r_bool (r_eql rfl rfl) rfl) ?_
  refine ha_takeP 63 rfl (r_pick rfl rfl) ?_
  refine ha_takeP 64 rfl (r_move rfl) ?_
  refine ha_takeP 65 rfl (r_move rfl) ?_
  refine ha_takeP 66 rfl (r_bool (r_eql rfl rfl) rfl) ?_
  refine ha_takeP 67 rfl (r_pick rfl rfl) ?_
  refine ha_takeP 68 rfl (r_move rfl) ?_
  refine ha_take 69 rfl (r_loadr rfl) ?_
  refine ha_takeP 70 rfl (r_move rfl) ?_
  refine ha_one 71 ?_
  refine ho_C 71 rfl (hRr.comes) rfl rfl rfl (fun _ => same) fun _ => ?_
  refine ha_takeP 72 rfl (r_bool (r_eqr rfl rfl) (decide_eq_true rfl)) ?_
  refine ha_takeP 73 rfl (r_pick rfl rfl) ?_
  refine ha_takeP 74 rfl (r_move rfl) ?_
  refine ha_takeP 75 rfl (r_move rfl) ?_
  refine ha_takeP 76 rfl (r_bool (r_eql rfl rfl) rfl) ?_
  refine ha_takeP 77 rfl (r_pick rfl rfl) ?_
  refine ha_takeP 78 rfl (r_assign rfl) ?_
  refine ha_done (by kernel_rfl) ?_
  refine q_then ?_
  refine h_ret ?_
  exact h_ret1 rfl rfl fun w s => ⟨⟨h8, (((((hle1.trans hz2).trans hz3).trans hle4).trans hz5).trans hz6).trans (hz7.trans hz8)⟩, rfl, (same (L' := [.zone true h8]) w s).res (List.Sublist.refl _) (by simp [Fa.wr])⟩
end Go.Proofs.YtgfkbeipckbkiaaDoor
/- U68 -/
namespace Go.Proofs.YtgfkbeipckbkiaaDoor
set_option linter.unusedSimpArgs false
set_option linter.unusedVariables false
open Go.RowKit
def preS (n : Nat) : Sub → List UInt8
  | .one x => preI x
  | .two l r => preN (dgS n l) (dgS n r)
theorem preS_len (n : Nat) (t : Sub) : (preS n t).length ≤ 65 := by
  cases t with
  | one x => exact preI_len x
  | two l r => show (preN _ _).length ≤ 65; rw [preN_len]; exact Nat.le_refl _
/-- what is read at an index -/
theorem readM_at {d : Nat} {l : List Item} {at_ : Nat} {t : Sub} {r : List Item} (h : readM d (l.drop at_) = some (t, r)) : ∃ x, l[at_]? = some x ∧ ((x.kind ≠ 2 ∧ t = .one x ∧ r = l.drop (at_ + 1)) ∨ (x.kind = 2 ∧ ∃ d' t1 t2 m, d = d' + 1 ∧ t = .two t1 t2 ∧ at_ + 1 ≤ m ∧ m ≤ l.length ∧ readM d' (l.drop (at_ + 1)) = some (t1, l.drop m) ∧ readM d' (l.drop m) = some (t2, r))) := by
  cases hx : l[at_]? with
  | none =>
    rw [List.drop_of_length_le (List.getElem?_eq_none_iff.1 hx)] at h
    cases d <;> cases h
  | some x =>
    refine ⟨x, rfl, ?_⟩
    have hat := (List.getElem?_eq_some_iff.1 hx).1
    rw [drop_get hx] at h
    by_cases hk : x.kind = 2
    · match d, h with
      | 0, h => unfold readM at h; rw [if_pos hk] at h; cases h
      | d + 1, h =>
        unfold readM at h
        rw [if_pos hk] at h
        obtain ⟨p, hp, h⟩ := Option.bind_eq_some_iff.1 h
        obtain ⟨q, hq, h⟩ := Option.bind_eq_some_iff.1 h
        obtain ⟨t1, r1⟩ := p
        obtain ⟨t2, r2⟩ := q
        obtain ⟨m, hm0, hml, rfl⟩ := readM_suffix d _ t1 r1 hp
        rw [List.length_drop] at hml
        simp only [Option.some.injEq, Prod.mk.injEq] at h
        rw [List.drop_drop] at hp hq
        refine .inr ⟨hk, d, t1, t2, at_ + 1 + m, rfl, h.1.symm, by omega, by omega, hp, ?_⟩
        rw [← h.2]
        exact hq
    · have h' : readM d (x :: l.drop (at_ + 1)) = some (.one x, l.drop (at_ + 1)) := by cases d <;> (unfold readM; rw [if_neg hk])
      rw [h'] at h
      simp only [Option.some.injEq, Prod.mk.injEq] at h
      exact .inl ⟨hk, h.1.symm, h.2.symm⟩
section
variable (n : Nat) (hn : n ≤ 256) (l : List Item) (A : Option Addr) (c : Nat) (hl : l.length ≤ 1000000) (hok : l.all kindOk = true)
def RDig (d at_ : Nat) (t : Sub) : Prop := Spec Tryd.prog 21 [.int .i64 (n : Int), .slice A l.length c, .int .i64 (at_ : Int), .int .i64 (256 - (d : Int))].toArray [.rd A (its l)] [] (fun _ : Unit => .agg (dgS n t).cells.toArray) (fun _ => [])
def RPre (d at_ : Nat) (t : Sub) : Prop := Spec Tryd.prog 45 [.int .i64 (n : Int), .slice A l.length c, .int .i64 (at_ : Int), .int .i64 (256 - (d : Int))].toArray [.rd A (its l)] [] (fun u : Nat × Nat => .slice (some ⟨u.1, 0, none⟩) (preS n t).length u.2) (fun u => [.own (.slice (some ⟨u.1, 0, none⟩) (preS n t).length u.2) (preS n t).length 5 1 (bc (preS n t))])
include hl hok
theorem rPre_one (d at_ : Nat) (x : Item) (hx : l[at_]? = some x) (hk2 : x.kind ≠ 2) (hk3 : x.kind ≠ 3) : RPre n l A c d at_ (.one x) := by
  have hat : at_ < l.length := (List.getElem?_eq_some_iff.1 hx).1
  have hki := its_kind hx
  have hlf := its_lf hx
  have hkd : x.kind = 0 ∨ x.kind = 1 := by
    have := List.all_eq_true.1 hok x (List.mem_of_getElem? hx)
    unfold kindOk at this
    simp at this
    omega
  show Spec _ _ _ _ _ (fun u : Nat × Nat => .slice (some ⟨u.1, 0, none⟩) (preI x).length u.2) (fun u => [.own (.slice (some ⟨u.1, 0, none⟩) (preI x).length u.2) (preI x).length 5 1 (bc (preI x))])
  refine spec_of Tryd.func45 rfl (n := 46) rfl rfl ?_
  intro W
  refine h_pure (φ := ∃ b o, A = some ⟨b, o, none⟩) (fun w s => Rd.some (s.ok (.rd A (its l)) (by simp)) (by rw [its_len]; omega)) ?_
  rintro ⟨b, o, rfl⟩
  by_cases h1 : x.kind = 1
  · rw [show preI x = preL x.leaf from if_pos h1]
    refine h_seq ?_
    refine h_reg ?_
    refine h_op (r_assign rfl) ?_
    refine h_nil ?_
    refine q_then ?_
    refine h_seq ?_
    refine h_seq ?_
    refine h_reg ?_
    refine h_op (r_move rfl) ?_
    refine h_op (r_move rfl) ?_
    refine h_op (r_idx rfl rfl) ?_
    refine h_op (r_field rfl) ?_
    refine h_op (r_nth rfl hki) ?_
    refine h_nil ?_
    refine q_then ?_
    refine h_block ?_
    refine h_seq ?_
    refine h_reg ?_
    refine h_op (r_bool (r_eql rfl rfl) (decide_eq_false (by omega))) ?_
    refine h_op (r_assign rfl) ?_
    refine h_nil ?_
    refine q_then ?_
    refine h_condF rfl ?_
    refine h_seq ?_
    refine h_reg ?_
    refine h_op (r_bool (r_eql rfl rfl) (decide_eq_true h1)) ?_
    refine h_op (r_assign rfl) ?_
    refine h_nil ?_
    refine q_then ?_
    refine h_condT rfl ?_
    refine h_seq ?_
    refine h_reg ?_
    refine h_op (r_move rfl) ?_
    refine h_op (r_move rfl) ?_
    refine h_op (r_idx rfl rfl) ?_
    refine h_op (r_field rfl (O' := o + (at_ * 97 + 33)) (by omega)) ?_
    refine h_op (r_nthr rfl (out := x.leaf.cells) (Leaf.cells_length _) hlf) ?_
    refine h_call ((rLeaf_s x.leaf).comes) rfl rfl rfl fun ⟨g25, c25⟩ => ?_
    refine h_op (r_assign rfl) ?_
    refine h_nil ?_
    refine q_then ?_
    refine h_ret ?_
    refine q_blockR ?_
    refine q_thenR ?_
    exact h_ret1 rfl rfl fun w s => ⟨(g25, c25), rfl, (same w s).res (List.Sublist.refl _) (by simp [Fa.wr])⟩
  · rw [show preI x = [3] from if_neg h1, show ([3] : List UInt8).length = 1 from rfl]
    refine h_seq ?_
    refine h_reg ?_
    refine h_op (r_assign rfl) ?_
    refine h_nil ?_
    refine q_then ?_
    refine h_seq ?_
    refine h_seq ?_
    refine h_reg ?_
    refine h_op (r_move rfl) ?_
    refine h_op (r_move rfl) ?_
    refine h_op (r_idx rfl rfl) ?_
    refine h_op (r_field rfl) ?_
    refine h_op (r_nth rfl hki) ?_
    refine h_nil ?_
    refine q_then ?_
    refine h_block ?_
    refine h_seq ?_
    refine h_reg ?_
    refine h_op (r_bool (r_eql rfl rfl) (decide_eq_true (by omega))) ?_
    refine h_op (r_assign rfl) ?_
    refine h_nil ?_
    refine q_then ?_
    refine h_condT rfl ?_
    refine h_seq ?_
    refine h_reg ?_
    refine h_opX (x_bslV (ys := [.int .u8 3]) (bc [3]) rfl rfl (bc_one _)) fun g17 => ?_
    refine h_op (r_assign rfl) ?_
    refine h_nil ?_
    refine q_then ?_
    refine h_ret ?_
    refine q_blockR ?_
    refine q_thenR ?_
    exact h_ret1 rfl rfl fun w s => ⟨(g17, 1), rfl, (same (L' := [.own (.slice (some ⟨g17, 0, none⟩) 1 1) 1 5 1 (bc [3])]) w s).res (List.Sublist.refl _) (by simp [Fa.wr])⟩
omit hok in
theorem rPre_two (d at_ : Nat) (hd : d < 256) (x : Item) (hx : l[at_]? = some x) (hk2 : x.kind = 2) (t1 t2 : Sub) (m : Nat) (h1 : readM d (l.drop (at_ + 1)) = some (t1, l.drop m)) (hm : at_ + 1 ≤ m ∧ m ≤ l.length) (hD1 : RDig n l A c d (at_ + 1) t1) (hD2 : RDig n l A c d m t2) : RPre n l A c (d + 1) at_ (.two t1 t2) := by
  have hat : at_ < l.length := (List.getElem?_eq_some_iff.1 hx).1
  have hki := its_kind hx
  have hSk := Skip_s l A c hl d (by omega) (at_ + 1)
  rw [h1, show skipI l (some (t1, l.drop m)) = (m : Int) by simp only [skipI, List.length_drop]; omega] at hSk
  unfold RDig at hD1 hD2
  show Spec _ _ _ _ _ (fun u : Nat × Nat => .slice (some ⟨u.1, 0, none⟩) (preN (dgS n t1) (dgS n t2)).length u.2) (fun u => [.own (.slice (some ⟨u.1, 0, none⟩) (preN (dgS n t1) (dgS n t2)).length u.2) (preN (dgS n t1) (dgS n t2)).length 5 1 (bc (preN (dgS n t1) (dgS n t2)))])
  refine spec_of Tryd.func45 rfl (n := 46) rfl rfl ?_
  intro W
  refine h_pure (φ := ∃ b o, A = some ⟨b, o, none⟩) (fun w s => Rd.some (s.ok (.rd A (its l)) (by simp)) (by rw [its_len]; omega)) ?_
  rintro ⟨b, o, rfl⟩
  refine h_seq ?_
  refine h_reg ?_
  refine h_op (r_assign rfl) ?_
  refine h_nil ?_
  refine q_then ?_
  refine h_seq ?_
  refine h_seq ?_
  refine h_reg ?_
  refine h_op (r_move rfl) ?_
  refine h_op (r_move rfl) ?_
  refine h_op (r_idx rfl rfl) ?_
  refine h_op (r_field rfl) ?_
  refine h_op (r_nth rfl hki) ?_
  refine h_nil ?_
  refine q_then ?_
  refine h_block ?_
  refine h_seq ?_
  refine h_reg ?_
  refine h_op (r_bool (r_eql rfl rfl) (decide_eq_false (by omega))) ?_
  refine h_op (r_assign rfl) ?_
  refine h_nil ?_
  refine q_then ?_
  refine h_condF rfl ?_
  refine h_seq ?_
  refine h_reg ?_
  refine h_op (r_bool (r_eql rfl rfl) (decide_eq_false (by omega))) ?_
  refine h_op (r_assign rfl) ?_
  refine h_nil ?_
  refine q_then ?_
  refine h_condF rfl ?_
  refine h_skip ?_
  refine q_block ?_
  refine q_then ?_
  refine h_seq ?_
  refine h_reg ?_
  refine h_op (r_move rfl) ?_
  refine h_op (r_move rfl) ?_
  refine h_op (r_int (r_add rfl rfl) (show _ = ((at_ + 1 : Nat) : Int) by omega)) ?_
  refine h_op (r_move rfl) ?_
  refine h_op (r_int (r_add rfl rfl) (show _ = 256 - (d : Int) by omega)) ?_
  refine h_call (hSk.comes) rfl rfl rfl fun _ => ?_
  refine h_op (r_assign rfl) ?_
  refine h_nil ?_
  refine q_then ?_
  refine h_seq ?_
  refine h_reg ?_
  refine h_op (r_move rfl) ?_
  refine h_op (r_move rfl) ?_
  refine h_op (r_move rfl) ?_
  refine h_op (r_int (r_add rfl rfl) (show _ = ((at_ + 1 : Nat) : Int) by omega)) ?_
  refine h_op (r_move rfl) ?_
  refine h_op (r_int (r_add rfl rfl) (show _ = 256 - (d : Int) by omega)) ?_
  refine h_call (hD1.comes) rfl rfl rfl fun _ => ?_
  refine h_op (r_move rfl) ?_
  refine h_op (r_move rfl) ?_
  refine h_op (r_move rfl) ?_
  refine h_op (r_move rfl) ?_
  refine h_op (r_int (r_add rfl rfl) (show _ = 256 - (d : Int) by omega)) ?_
  refine h_call (hD2.comes) rfl rfl rfl fun _ => ?_
  refine h_call ((rNode_s (dgS n t1) (dgS n t2)).comes) rfl rfl rfl fun ⟨g45, c45⟩ => ?_
  refine h_op (r_assign rfl) ?_
  refine h_nil ?_
  refine q_then ?_
  refine h_ret ?_
  exact h_ret1 rfl rfl fun w s => ⟨(g45, c45), rfl, (same w s).res (List.Sublist.refl _) (by simp [Fa.wr])⟩
include hn
omit hok hn in
theorem rDig_3 (d at_ : Nat) (x : Item) (hx : l[at_]? = some x) (hk3 : x.kind = 3) : RDig n l A c d at_ (.one x) := by
  have hat : at_ < l.length := (List.getElem?_eq_some_iff.1 hx).1
  have hki := its_kind hx
  have hdg := its_dg hx
  unfold RDig
  rw [show dgS n (.one x) = x.digest from if_pos hk3]
  refine spec_of Tryd.func21 rfl (n := 27) rfl rfl ?_
  intro W
  refine h_pure (φ := ∃ b o, A = some ⟨b, o, none⟩) (fun w s => Rd.some (s.ok (.rd A (its l)) (by simp)) (by rw [its_len]; omega)) ?_
  rintro ⟨b, o, rfl⟩
  refine h_seq ?_
  refine h_reg ?_
  refine h_opX (x_alloc) fun g8 => ?_
  refine h_nil ?_
  refine q_then ?_
  refine h_seq ?_
  refine h_seq ?_
  refine h_reg ?_
  refine h_op (r_move rfl) ?_
  refine h_op (r_move rfl) ?_
  refine h_op (r_idx rfl rfl) ?_
  refine h_op (r_field rfl) ?_
  refine h_op (r_nth rfl hki) ?_
  refine h_op (r_bool (r_eql rfl rfl) (decide_eq_true hk3)) ?_
  refine h_nil ?_
  refine q_then ?_
  refine h_condT rfl ?_
  refine h_seq ?_
  refine h_reg ?_
  refine h_op (r_move rfl) ?_
  refine h_op (r_move rfl) ?_
  refine h_op (r_idx rfl rfl) ?_
  refine h_op (r_field rfl (O' := o + (at_ * 97 + 1)) (by omega)) ?_
  refine h_op (r_nthr rfl (out := x.digest.cells) (B32.cells_length _) hdg) ?_
  refine h_opS (s_storer rfl rfl) ?_
  refine h_nil ?_
  refine q_then ?_
  refine h_ret ?_
  refine q_thenR ?_
  exact h_ret1 rfl (rv_row rfl) fun w s => ⟨(), rfl, s.res (List.nil_sublist _) (by simp)⟩
omit hok in
theorem rDig_pre (d at_ : Nat) (x : Item) (hx : l[at_]? = some x) (hk3 : x.kind ≠ 3) (t : Sub) (ht : dgS n t = sumB n (preS n t)) (hP : RPre n l A c d at_ t) : RDig n l A c d at_ t := by
  have hat : at_ < l.length := (List.getElem?_eq_some_iff.1 hx).1
  have hki := its_kind hx
  have hpl := preS_len n t
  unfold RPre at hP
  unfold RDig
  rw [ht]
  refine spec_of Tryd.func21 rfl (n := 27) rfl rfl ?_
  intro W
  refine h_pure (φ := ∃ b o, A = some ⟨b, o, none⟩) (fun w s => Rd.some (s.ok (.rd A (its l)) (by simp)) (by rw [its_len]; omega)) ?_
  rintro ⟨b, o, rfl⟩
  refine h_seq ?_
  refine h_reg ?_
  refine h_opX (x_alloc) fun g8 => ?_
  refine h_nil ?_
  refine q_then ?_
  refine h_seq ?_
  refine h_seq ?_
  refine h_reg ?_
  refine h_op (r_move rfl) ?_
  refine h_op (r_move rfl) ?_
  refine h_op (r_idx rfl rfl) ?_
  refine h_op (r_field rfl) ?_
  refine h_op (r_nth rfl hki) ?_
  refine h_op (r_bool (r_eql rfl rfl) (decide_eq_false hk3)) ?_
  refine h_nil ?_
  refine q_then ?_
  refine h_condF rfl ?_
  refine h_skip ?_
  refine q_then ?_
  refine h_seq ?_
  refine h_reg ?_
  refine h_op (r_move rfl) ?_
  refine h_op (r_move rfl) ?_
  refine h_op (r_move rfl) ?_
  refine h_op (r_move rfl) ?_
  refine h_op (r_move rfl) ?_
  refine h_call (hP.comes) rfl rfl rfl fun ⟨g25, c25⟩ => ?_
  refine h_call ((refSum5_s n hn (preS n t) (some ⟨g25, 0, none⟩) c25 (fun h => by cases h) (by omega)).comes) rfl rfl rfl fun _ => ?_
  refine h_opS (s_storer rfl rfl) ?_
  refine h_nil ?_
  refine q_then ?_
  refine h_ret ?_
  exact h_ret1 rfl (rv_row rfl) fun w s => ⟨(), rfl, s.res (List.nil_sublist _) (by simp)⟩
theorem rDig_s : ∀ (t : Sub) (d : Nat), d ≤ 256 → ∀ (at_ : Nat) (r : List Item), readM d (l.drop at_) = some (t, r) → RDig n l A c d at_ t
  | .one x, d, hd, at_, r, h => by
    obtain ⟨y, hy, ⟨hk, e, _⟩ | ⟨_, d', t1, t2, m, _, e, _⟩⟩ := readM_at h
    · injection e with e
      subst e
      by_cases h3 : x.kind = 3
      · exact rDig_3 n l A c hl d at_ x hy h3
      · exact rDig_pre n hn l A c hl d at_ x hy h3 _ (if_neg h3) (rPre_one n l A c hl hok d at_ x hy hk h3)
    · cases e
  | .two t1 t2, d, hd, at_, r, h => by
    obtain ⟨y, hy, ⟨hk, e, _⟩ | ⟨hk, d', t1', t2', m, rfl, e, hm1, hm2, h1, h2⟩⟩ := readM_at h
    · cases e
    · injection e with e1 e2
      subst e1 e2
      have i1 := rDig_s t1 d' (by omega) (at_ + 1) _ h1
      have i2 := rDig_s t2 d' (by omega) m _ h2
      exact rDig_pre n hn l A c hl (d' + 1) at_ y hy (by omega) _ rfl (rPre_two n l A c hl d' at_ (by omega) y hy hk t1 t2 m h1 ⟨hm1, hm2⟩ i1 i2)
end
end Go.Proofs.YtgfkbeipckbkiaaDoor
/- U82 -/
namespace Go.Proofs.YtgfkbeipckbkiaaDoor
set_option linter.unusedSimpArgs false
set_option linter.unusedVariables false
open Go.RowKit
theorem checkM_ok {l : List Item} {t : Sub} (h : parseM l = .ok t) : checkM l = 0 := by unfold checkM; rw [h]
theorem checkM_bad {l : List Item} {e : Int} (h : parseM l = .error e) : checkM l = e := by unfold checkM; rw [h]
theorem parse_err {l : List Item} {e : Int} (h : parseM l = .error e) : e ≠ 0 := by
  unfold parseM at h
  split at h
  · split at h
    · split at h
      · cases h
      · injection h with h; omega
    · injection h with h; omega
  · injection h with h; omega
section
variable (h : Zh) [hT : RdZ h (some ⟨1, 0, none⟩) hashT] (l : List Item) (A : Option Addr) (c : Nat) [hr : RdZ h A (its l)] (hc : l.length ≤ c)
include hc
theorem MultiChecks_s : Spec Tryd.prog 4 [.slice A l.length c].toArray [] [.zone true h] (fun _ : {x : Zh // LeZ h x} => .bool true) (fun x => [.zone true x.1]) := by
  have hF := Few19_s l A c
  refine spec_of Tryd.func4 rfl (n := 15) rfl rfl ?_
  intro W
  by_cases hl : l.length ≤ 1200
  · rw [if_pos hl] at hF
    refine h_seq ?_
    refine h_reg ?_
    refine h_op (r_assign rfl) ?_
    refine h_nil ?_
    refine q_then ?_
    refine h_seq ?_
    refine h_seq ?_
    refine h_reg ?_
    refine h_op (r_move rfl) ?_
    refine h_call (hF.comes) rfl rfl rfl fun _ => ?_
    refine h_op (r_bool (r_eql rfl rfl) rfl) ?_
    refine h_nil ?_
    refine q_then ?_
    refine h_condF rfl ?_
    refine h_skip ?_
    refine q_then ?_
    refine h_seq ?_
    refine h_reg ?_
    refine h_call ((alive19_s h).comes) rfl rfl rfl fun ⟨h1, hle1⟩ => ?_
    dsimp only
    refine h_op (r_move rfl) ?_
    refine h_op (r_move rfl) ?_
    refine h_call ((mCheck_s h1 l A c hc (by omega)).comes) rfl rfl rfl fun _ => ?_
    refine h_op (r_move rfl) ?_
    refine h_call ((rCheck19_s l A c (by omega)).comes) rfl rfl rfl fun _ => ?_
    refine h_op (r_bool (r_eql rfl rfl) (decide_eq_true rfl)) ?_
    refine h_op (r_pick rfl rfl) ?_
    refine h_op (r_assign rfl) ?_
    refine h_nil ?_
    refine q_then ?_
    refine h_ret ?_
    exact h_ret1 rfl rfl fun w s => ⟨⟨h1, hle1⟩, rfl, (same (L' := [.zone true h1]) w s).res (List.Sublist.refl _) (by simp [Fa.wr])⟩
  · rw [if_neg hl] at hF
    refine h_seq ?_
    refine h_reg ?_
    refine h_op (r_assign rfl) ?_
    refine h_nil ?_
    refine q_then ?_
    refine h_seq ?_
    refine h_seq ?_
    refine h_reg ?_
    refine h_op (r_move rfl) ?_
    refine h_call (hF.comes) rfl rfl rfl fun _ => ?_
    refine h_op (r_bool (r_eql rfl rfl) rfl) ?_
    refine h_nil ?_
    refine q_then ?_
    refine h_condT rfl ?_
    refine h_seq ?_
    refine h_reg ?_
    refine h_call ((alive19_s h).comes) rfl rfl rfl fun ⟨h1, hle1⟩ => ?_
    refine h_op (r_assign rfl) ?_
    refine h_nil ?_
    refine q_then ?_
    refine h_ret ?_
    refine q_thenR ?_
    exact h_ret1 rfl rfl fun w s => ⟨⟨h1, hle1⟩, rfl, (same (L' := [.zone true h1]) w s).res (List.Sublist.refl _) (by simp [Fa.wr])⟩
theorem MultiRoots_s (i : Int) : Spec Tryd.prog 5 [.int .i64 i, .slice A l.length c].toArray [] [.zone true h] (fun _ : {x : Zh // LeZ h x} => .bool true) (fun x => [.zone true x.1]) := by
  have hF := Few19_s l A c
  have hC := rCheck19_s l A c
  refine spec_of Tryd.func5 rfl (n := 55) rfl rfl ?_
  intro W
  by_cases hi : 0 ≤ i ∧ i ≤ 256
  · obtain ⟨n, rfl⟩ : ∃ n : Nat, i = (n : Int) := ⟨i.toNat, by omega⟩
    have hn : n ≤ 256 := by omega
    by_cases hl : l.length ≤ 1200
    · rw [if_pos hl] at hF
      have hC := hC (by omega)
      refine h_seq ?_
      refine h_reg ?_
      refine h_op (r_assign rfl) ?_
      refine h_nil ?_
      refine q_then ?_
      refine h_seq ?_
      refine h_seq ?_
      refine h_reg ?_
      refine h_op (r_move rfl) ?_
      refine h_call ((Right_yes n hn).comes) rfl rfl rfl fun _ => ?_
      refine h_op (r_not rfl) ?_
      refine h_op (r_move rfl) ?_
      refine h_op (r_move rfl) ?_
      refine h_call (hF.comes) rfl rfl rfl fun _ => ?_
      refine h_op (r_bool (r_eql rfl rfl) rfl) ?_
      refine h_op (r_pick rfl rfl) ?_
      refine h_nil ?_
      refine q_then ?_
      refine h_condF rfl ?_
      refine h_skip ?_
      refine q_then ?_
      refine h_seq ?_
      refine h_reg ?_
      refine h_op (r_move rfl) ?_
      refine h_call ((Hash_s n hn).comes) rfl rfl rfl fun ⟨gh, gc⟩ => ?_
      dsimp only
      refine h_op (r_assign rfl) ?_
      refine h_nil ?_
      refine q_then ?_
      refine h_seq ?_
      refine h_seq ?_
      refine h_reg ?_
      refine h_op (r_move rfl) ?_
      refine h_op (r_nilR rfl rfl) ?_
      refine h_nil ?_
      refine q_then ?_
      refine h_condF rfl ?_
      refine h_skip ?_
      refine q_then ?_
      refine h_seq ?_
      refine h_reg ?_
      refine h_op (r_move rfl) ?_
      refine h_op (r_move rfl) ?_
      rcases hp : parseM l with e | t
      · have he := parse_err hp
        rw [checkM_bad hp] at hC
        refine h_call ((mRoot_bad h l A c hc (by omega) e hp he gh).comes) rfl rfl rfl fun _ => ?_
        refine h_op (r_move rfl) ?_
        refine h_op (r_extract rfl rfl) ?_
        refine h_op (r_extract rfl rfl) ?_
        refine h_opX (x_alloc) fun g6 => ?_
        refine h_opS (s_storer rfl rfl) ?_
        refine h_op (r_assign rfl) ?_
        refine h_nil ?_
        refine q_then ?_
        refine h_seq ?_
        refine h_seq ?_
        refine h_reg ?_
        refine h_op (r_move rfl) ?_
        refine h_call (hC.comes) rfl rfl rfl fun _ => ?_
        refine h_op (r_assign rfl) ?_
        refine h_nil ?_
        refine q_then ?_
        refine h_seq ?_
        refine h_reg ?_
        refine h_op (r_move rfl) ?_
        refine h_op (r_neq rfl rfl) ?_
        refine h_nil ?_
        refine q_then ?_
        refine h_yes rfl (he) ?_
        refine h_seq ?_
        refine h_reg ?_
        refine h_call ((alive19_s h).comes) rfl rfl rfl fun ⟨h1, hle1⟩ => ?_
        dsimp only
        refine h_op (r_move rfl) ?_
        refine h_op (r_loadr rfl) ?_
        refine h_op (r_build rfl) ?_
        refine h_op (r_bool (r_eqr rfl rfl) (decide_eq_true rfl)) ?_
        refine h_op (r_pick rfl rfl) ?_
        refine h_op (r_move rfl) ?_
        refine h_op (r_move rfl) ?_
        refine h_op (r_move rfl) ?_
        refine h_op (r_bool (r_eql rfl rfl) (decide_eq_true rfl)) ?_
        refine h_op (r_pick rfl rfl) ?_
        refine h_op (r_assign rfl) ?_
        refine h_nil ?_
        refine q_then ?_
        refine h_ret ?_
        refine q_thenR ?_
        exact h_ret1 rfl rfl fun w s => ⟨⟨h1, hle1⟩, rfl, (same (L' := [.zone true h1]) w s).res (List.Sublist.refl _) (by simp [Fa.wr])⟩
      · have hD := rDig_s n hn l A c (by omega) (parse_ok hp).2.1 t 256 (by omega) 0 [] (parse_ok hp).1
        unfold RDig at hD
        rw [checkM_ok hp] at hC
        refine h_call ((mRoot_s h n hn gh gc 0 (by decide) l A c hc (by omega) t hp).comes) rfl rfl rfl fun _ => ?_
        refine h_op (r_move rfl) ?_
        refine h_op (r_extract rfl rfl) ?_
        refine h_op (r_extract rfl rfl) ?_
        refine h_opX (x_alloc) fun g6 => ?_
        refine h_opS (s_storer rfl rfl) ?_
        refine h_op (r_assign rfl) ?_
        refine h_nil ?_
        refine q_then ?_
        refine h_seq ?_
        refine h_seq ?_
        refine h_reg ?_
        refine h_op (r_move rfl) ?_
        refine h_call (hC.comes) rfl rfl rfl fun _ => ?_
        refine h_op (r_assign rfl) ?_
        refine h_nil ?_
        refine q_then ?_
        refine h_seq ?_
        refine h_reg ?_
        refine h_op (r_move rfl) ?_
        refine h_op (r_neq rfl rfl) ?_
        refine h_nil ?_
        refine q_then ?_
        refine h_no rfl ((fun h => h rfl)) ?_
        refine h_skip ?_
        refine q_then ?_
        refine h_seq ?_
        refine ha_start [.blk g6 (dgS n t).cells 41] [] mixed (same) ?_
        refine ha_one 0 ?_
        refine ho_C 0 rfl ((alive19_s h).comes) rfl rfl rfl (fun _ => same) fun ⟨h1, hle1⟩ => ?_
        refine ha_takeP 1 rfl (r_move rfl) ?_
        refine ha_takeP 2 rfl (r_move rfl) ?_
        refine ha_takeP 3 rfl (r_bool (r_eql rfl rfl) rfl) ?_
        refine ha_takeP 4 rfl (r_pick rfl rfl) ?_
        refine ha_takeP 5 rfl (r_move rfl) ?_
        refine ha_take 6 rfl (r_loadr rfl) ?_
        refine ha_takeP 7 rfl (r_move rfl) ?_
        refine ha_takeP 8 rfl (r_move rfl) ?_
        refine ha_one 9 ?_
        refine ho_C 9 rfl (hD.comes) rfl rfl rfl (fun _ => same) fun _ => ?_
        refine ha_takeP 10 rfl (r_bool (r_eqr rfl rfl) (decide_eq_true rfl)) ?_
        refine ha_takeP 11 rfl (r_pick rfl rfl) ?_
        refine ha_takeP 12 rfl (r_assign rfl) ?_
        refine ha_done (by kernel_rfl) ?_
        refine q_then ?_
        refine h_ret ?_
        exact h_ret1 rfl rfl fun w s => ⟨⟨h1, hle1⟩, rfl, (same (L' := [.zone true h1]) w s).res (List.Sublist.refl _) (by simp [Fa.wr])⟩
    · rw [if_neg hl] at hF
      refine h_seq ?_
      refine h_reg ?_
      refine h_op (r_assign rfl) ?_
      refine h_nil ?_
      refine q_then ?_
      refine h_seq ?_
      refine h_seq ?_
      refine h_reg ?_
      refine h_op (r_move rfl) ?_
      refine h_call ((Right_yes n hn).comes) rfl rfl rfl fun _ => ?_
      refine h_op (r_not rfl) ?_
      refine h_op (r_move rfl) ?_
      refine h_op (r_move rfl) ?_
      refine h_call (hF.comes) rfl rfl rfl fun _ => ?_
      refine h_op (r_bool (r_eql rfl rfl) rfl) ?_
      refine h_op (r_pick rfl rfl) ?_
      refine h_nil ?_
      refine q_then ?_
      refine h_condT rfl ?_
      refine h_seq ?_
      refine h_reg ?_
      refine h_call ((alive19_s h).comes) rfl rfl rfl fun ⟨h1, hle1⟩ => ?_
      refine h_op (r_assign rfl) ?_
      refine h_nil ?_
      refine q_then ?_
      refine h_ret ?_
      refine q_thenR ?_
      exact h_ret1 rfl rfl fun w s => ⟨⟨h1, hle1⟩, rfl, (same (L' := [.zone true h1]) w s).res (List.Sublist.refl _) (by simp [Fa.wr])⟩
  · refine h_seq ?_
    refine h_reg ?_
    refine h_op (r_assign rfl) ?_
    refine h_nil ?_
    refine q_then ?_
    refine h_seq ?_
    refine h_seq ?_
    refine h_reg ?_
    refine h_op (r_move rfl) ?_
    refine h_call ((Right_no i hi).comes) rfl rfl rfl fun _ => ?_
    refine h_op (r_not rfl) ?_
    refine h_op (r_move rfl) ?_
    refine h_opOff ?_
    refine h_opOff ?_
    refine h_opOff ?_
    refine h_op (r_pick rfl rfl) ?_
    refine h_nil ?_
    refine q_then ?_
    refine h_condT rfl ?_
    refine h_seq ?_
    refine h_reg ?_
    refine h_call ((alive19_s h).comes) rfl rfl rfl fun ⟨h1, hle1⟩ => ?_
    refine h_op (r_assign rfl) ?_
    refine h_nil ?_
    refine q_then ?_
    refine h_ret ?_
    refine q_thenR ?_
    exact h_ret1 rfl rfl fun w s => ⟨⟨h1, hle1⟩, rfl, (same (L' := [.zone true h1]) w s).res (List.Sublist.refl _) (by simp [Fa.wr])⟩
end
end Go.Proofs.YtgfkbeipckbkiaaDoor
