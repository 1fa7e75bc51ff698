/- law22: ExtractBatch is true; What is asked of the whole program, once for all frames of a great seat; a row's facts put together (joined texts: U154 TF) -/
import Derived.Test.YtjhocljhhpkiiaaGreatDoorF16
import Derived.Handed
import Derived.JoinedOf
import Derived.SevenTiedAt
set_option linter.all false
/- U154 -/
namespace Go.Proofs.YtjhocljhhpkiiaaGreatDoor
open Go.RowKit
theorem few_vb {h : Zh} {l : List CB} (hz : ClsZ h l) (hf : fewC l = true) : ∀ x ∈ l, x.vb.length ≤ 70000 := fun x hx => by
 unfold fewC at hf
 rw [Bool.and_eq_true] at hf
 have h1 := List.all_eq_true.1 hf.2 x hx
 unfold shC at h1
 rw [decide_eq_true_eq] at h1
 have h2 := (hz x hx).2.len
 omega
theorem pres_mem {n : Nat} {key : B32} {t : Sub} {d : Nat} : ∀ w ∈ t.pres n key d, w.length ≤ 65 := fun w h => by
 obtain ⟨s, -, rfl⟩ := List.mem_map.1 h
 exact preS_len n s
def fv : Option Nat → Int
 | some j => (j : Int)
 | none => -1
def FalseAt (m : List En) (l : List CB) (k : Nat) : Option Nat → Prop
 | none => ∀ j, j < k → trueC m (l.getD j zCB).c (l.getD j zCB).kb (l.getD j zCB).vb = true
 | some f => f < k ∧ trueC m (l.getD f zCB).c (l.getD f zCB).kb (l.getD f zCB).vb = false ∧ ∀ j, j < f → trueC m (l.getD j zCB).c (l.getD j zCB).kb (l.getD j zCB).vb = true
theorem FalseAt.step {m : List En} {l : List CB} {k f : Nat} (h : FalseAt m l k (some f)) : FalseAt m l (k + 1) (some f) := ⟨by have := h.1; omega, h.2⟩
theorem FalseAt.yes {m : List En} {l : List CB} {k : Nat} (h : FalseAt m l k none) (hk : trueC m (l.getD k zCB).c (l.getD k zCB).kb (l.getD k zCB).vb = true) : FalseAt m l (k + 1) none := fun j hj => (Nat.lt_or_ge j k).elim (h j) fun h8 => by
 obtain rfl : j = k := by omega
 exact hk
theorem FalseAt.no {m : List En} {l : List CB} {k : Nat} (h : FalseAt m l k none) (hk : trueC m (l.getD k zCB).c (l.getD k zCB).kb (l.getD k zCB).vb = false) : FalseAt m l (k + 1) (some k) := ⟨Nat.lt_succ_self k, hk, h⟩
theorem FalseAt.find_none {m : List En} {l : List CB} (h : FalseAt m l l.length none) : (l.find? fun x => !trueC m x.c x.kb x.vb) = none := by
 rw [List.find?_eq_none]
 intro x hx
 obtain ⟨j, hj⟩ := List.mem_iff_getElem?.1 hx
 have := h j (List.getElem?_eq_some_iff.1 hj).1
 rw [List.getD_eq_getElem?_getD, hj] at this
 simpa using this
theorem FalseAt.find_some {m : List En} {l : List CB} {f : Nat} (h : FalseAt m l l.length (some f)) : (l.find? fun x => !trueC m x.c x.kb x.vb) = some (l.getD f zCB) := by
 refine find_first (i := f) (getD_get zCB h.1) (by rw [h.2.1]; rfl) fun j hj y hy => ?_
 have := h.2.2 j hj
 rw [List.getD_eq_getElem?_getD, hy] at this
 simpa using this
section
variable (h : Zh) [hT : RdZ h (some ⟨1, 0, none⟩) hashT]
theorem ExtractBatch_s (i : Int) (l : List En) (B : Option Addr) (c' : Nat) [hB : RdZ h B (ents l)] (hv : SlsZ h l) (cl : List CB) (A : Option Addr) (c : Nat) [hr : RdZ h A (cbs cl)] (hcl : cl.length ≤ 9223372036854775807) (hz : ClsZ h cl) (its0 : List Item) (I : Option Addr) (icc : Nat) (hic : its0.length ≤ icc) [hI : RdZ h I (its its0)] : Spec Tryz.prog 7 [.int .i64 i, .slice B l.length c', .agg [.slice A cl.length c, .slice I its0.length icc].toArray].toArray [] [.zone true h] (fun _ : {x : Zh // LeZ h x} => .bool true) (fun x => [.zone true x.1]) := by
 have hFi := Few19_s its0 I icc
 have hFw := fun z (hz' : LeZ h z) => few22_s z cl A c (hr := hr.mono hz') hcl
 refine spec_of Tryz.func7 rfl (n := 181) rfl rfl ?_
 intro W
 by_cases hi : 0 ≤ i ∧ i ≤ 256
 ·obtain ⟨n, rfl⟩ : ∃ n : Nat, i = (n : Int) := ⟨i.toNat, by omega⟩
  have hn : n ≤ 256 := by omega
  by_cases hf : fewM l = true
  ·have hvl := hv.few hf
   have hal : Alike (ofM l) 0 := Alike.start (ofM_nodup l)
   have hlm : (ofM l).length ≤ 12 := Nat.le_trans (ofM_len l) (by unfold fewM at hf; rw [Bool.and_eq_true, decide_eq_true_eq] at hf; exact hf.1)
   refine yR ?_
   refine h_opX (x_box rfl) fun g5 => ?_
   refine yS rfl ?_
   refine yN ?_
   refine yR ?_
   refine yM rfl ?_
   refine yM rfl ?_
   refine h_call ((Tree_yes n hn l B c' hf h hvl).comes) rfl rfl rfl fun ⟨⟨h1, q1, A1, c1⟩, hle1, ht1⟩ => ?_
   dsimp only at hle1 ht1 ⊢
   refine h_freezeO (.slice A1 (ofM l).length c1) fun h2 B2 c2 e2 hle2 hlen2 hnil2 hz2 hr2 => ?_
   injection e2 with e2 _ e3
   subst e2 e3
   have hz02 := hle1.trans hz2
   have hT2 : RdZ h2 (some ⟨1, 0, none⟩) hashT := hT.mono hz02
   have ht2 : TrZ n h2 (mkT (ofM l) 0) q1 := ⟨ht1.ok.mono hz2⟩
   have hA2 : RdZ h2 A (cbs cl) := hr.mono hz02
   have hI2 : RdZ h2 I (its its0) := hI.mono hz02
   refine yM rfl ?_
   refine h_op (r_extract rfl rfl) ?_
   refine h_op (r_extract rfl rfl) ?_
   refine h_op (r_extract rfl rfl) ?_
   refine yS rfl ?_
   refine yS rfl ?_
   refine yS rfl ?_
   refine yN ?_
   refine yR ?_
   refine yM rfl ?_
   refine h_call ((Hash_s n hn).comes) rfl rfl rfl fun ⟨gh, gc⟩ => ?_
   dsimp only
   by_cases hfc : fewC cl = true
   ·have hFw := hFw h2 hz02
    rw [hfc] at hFw
    obtain ⟨hll, hvb⟩ := fewC_ok hz hfc
    have hvb7 := few_vb hz hfc
    by_cases hil : its0.length ≤ 1200
    ·rw [if_pos hil] at hFi
     refine yS rfl ?_
     refine yN ?_
     refine h_seq ?_
     refine yR ?_
     refine yM rfl ?_
     refine h_op (r_not rfl) ?_
     refine yM rfl ?_
     refine h_op (r_field rfl) ?_
     refine h_op (r_loadc rfl) ?_
     refine h_call (hFw.comes) rfl rfl rfl fun _ => ?_
     refine h_op (r_not rfl) ?_
     refine h_op (r_pick rfl rfl) ?_
     refine yM rfl ?_
     refine h_op (r_field rfl) ?_
     refine h_op (r_loadc rfl) ?_
     refine h_call (hFi.comes) rfl rfl rfl fun _ => ?_
     refine h_op (r_bool (r_eql rfl rfl) rfl) ?_
     refine h_op (r_pick rfl rfl) ?_
     refine yN ?_
     refine h_condF rfl ?_
     refine h_skip ?_
     refine q_then ?_
     refine yR ?_
     refine yM rfl ?_
     refine yM rfl ?_
     refine h_op (r_field rfl) ?_
     refine h_op (r_loadc rfl) ?_
     refine h_op (r_field rfl) ?_
     refine h_op (r_loadc rfl) ?_
     obtain ⟨o, ho⟩ : ∃ o, batchR n (ofM l) cl its0 = o := ⟨_, rfl⟩
     have hvl2 := ValsZ.few hvl hz02
     have hBt := xBatch_s n hn h2 gh gc 0 (by decide) (ofM l) hal q1 (fun e he => by have := (hvl2 e he).2; omega) its0 I icc hic (by omega) cl A c (hz.mono hz02) hvb (by omega) o ho
     unfold batchR at ho
     obtain ⟨r, hR⟩ : ∃ r, claimsR cl = r := ⟨_, rfl⟩
     rcases r with _ | ⟨j, e⟩
     ·rcases hp : parseM its0 with e | t
      ·rw [show accM n (dgT n (mkT (ofM l) 0)) cl its0 = false by unfold accM; rw [hp]; exact Bool.and_false _] at ho
       obtain rfl : none = o := ho
       refine h_call (hBt.comes) rfl rfl rfl fun ⟨⟨h3, X, Y, k3⟩, hz3, hXY, hk3⟩ => ?_
       dsimp only at hz3 hXY hk3 ⊢
       have hz03 := hz02.trans hz3
       have hT3 : RdZ h3 (some ⟨1, 0, none⟩) hashT := hT.mono hz03
       have hA3 : RdZ h3 A (cbs cl) := hr.mono hz03
       have hI3 : RdZ h3 I (its its0) := hI.mono hz03
       have hC3 := hz.mono hz03
       have hr3 : RdZ h3 A1 (ents (ofM l)) := hr2.mono hz3
       have hv3 := hvl2.mono hz3
       refine yM rfl ?_
       refine h_op (r_extract rfl rfl) ?_
       refine h_op (r_extract rfl rfl) ?_
       refine h_op (r_extract rfl rfl) ?_
       refine yS rfl ?_
       refine yS rfl ?_
       refine yS rfl ?_
       refine yN ?_
       refine yR ?_
       refine h_op (r_field rfl) ?_
       refine h_op (r_loadc rfl) ?_
       refine h_call ((rClaims21_s h3 cl A c (by omega) hC3 _ hR).comes) rfl rfl rfl fun _ => ?_
       refine yM rfl ?_
       refine h_op (r_extract rfl rfl) ?_
       refine h_op (r_extract rfl rfl) ?_
       refine yS rfl ?_
       refine yS rfl ?_
       refine yN ?_
       refine h_seq ?_
       refine yR ?_
       refine yM rfl ?_
       refine h_op (r_bool (r_eql rfl rfl) rfl) ?_
       refine yM rfl ?_
       refine h_op (r_field rfl) ?_
       refine h_op (r_loadc rfl) ?_
       refine h_call ((rCheck19_s its0 I icc (by omega)).comes) rfl rfl rfl fun _ => ?_
       have hne := parse_err hp
       rw [checkM_bad hp]
       refine h_op (r_bool (r_eql rfl rfl) (decide_eq_false hne)) ?_
       refine h_op (r_pick rfl rfl) ?_
       refine yN ?_
       refine h_condF rfl ?_
       refine h_reg ?_
       refine yS rfl ?_
       refine yN ?_
       refine yR ?_
       refine yS rfl ?_
       refine yN ?_
       refine h_seq ?_
       refine yR ?_
       refine h_op (r_field rfl) ?_
       refine h_op (r_loadc rfl) ?_
       refine h_op (r_len rfl) ?_
       refine yM rfl ?_
       refine yN ?_
       refine h_block ?_
       refine h_loop (fun (s : Nat × Option Nat) => s.1 ≤ cl.length ∧ FalseAt (ofM l) cl s.1 s.2) (fun (s : Nat × Option Nat) => [(89, .int .i64 (s.1 : Int)), (88, .int .i64 (cl.length : Int)), (87, .slice A cl.length c), (16, .int .i64 (fv s.2)), (15, .int .i64 (1 : Int)), (13, .bool false), (12, .slice none 0 0), (11, .slice none 0 0), (7, .slice A1 (ofM l).length c1), (5, .pointer (some ⟨g5, 0, none⟩)), (0, .int .i64 (n : Int))]) (fun (s : Nat × Option Nat) => [.zone true h3, .blk g5 [.slice A cl.length c, .slice I its0.length icc] 70]) (fun (s : Nat × Option Nat) => cl.length - s.1) (0, none) (⟨Nat.zero_le _, fun j hj => absurd hj (Nat.not_lt_zero _)⟩) ⟨rfl, rfl, rfl, rfl, rfl, rfl, rfl, rfl, rfl, rfl, rfl, trivial⟩ (same) ?_
       rintro ⟨k, f⟩ ⟨hk, hfa⟩
       dsimp only at hk hfa ⊢
       refine yR ?_
       refine h_op (r_lss rfl rfl) ?_
       refine yN ?_
       refine h_seq ?_
       refine h_cond rfl (fun hlt => ?_) (fun hlt => ?_)
       ·have hk2 : k < cl.length := by omega
        have hx := getD_get zCB hk2
        have hTr := rTrue22_s h3 (ofM l) A1 c1 hv3 (by omega) (cl.getD k zCB).c (cl.getD k zCB).kb (cl.getD k zCB).vb (hK := (hC3.get hk2).1) (hV := (hC3.get hk2).2)
        obtain ⟨b, o', rfl, -⟩ := hA3.at_ (k * 3) _ (cbs_at hx 0 _ rfl)
        rcases f with _ | j0
        ·obtain ⟨tv, htv⟩ : ∃ tv, trueC (ofM l) (cl.getD k zCB).c (cl.getD k zCB).kb (cl.getD k zCB).vb = tv := ⟨_, rfl⟩
         rw [htv] at hTr
         cases tv
         ·refine h_skip ?_
          refine q_then ?_
          refine h_seq ?_
          refine h_block ?_
          refine yR ?_
          refine yM rfl ?_
          refine h_op (r_idx rfl rfl) ?_
          refine h_op (r_nthr rfl (out := (cl.getD k zCB).c.cells) (Claim.cells_length _) (cbs_at hx)) ?_
          refine h_opX (x_alloc) fun g18 => ?_
          refine yS rfl ?_
          refine h_opS (s_storer rfl rfl) ?_
          refine yN ?_
          refine yR ?_
          refine yM rfl ?_
          refine h_op (r_bool (r_lss rfl rfl) (show decide (fv none < 0) = true from rfl)) ?_
          refine yM rfl ?_
          refine yM rfl ?_
          refine h_op (r_loadr rfl) ?_
          refine h_call (hTr.comes) rfl rfl rfl fun _ => ?_
          refine h_op (r_not rfl) ?_
          refine h_op (r_pick rfl rfl) ?_
          refine yN ?_
          refine h_condT rfl ?_
          refine h_reg ?_
          refine yM rfl ?_
          refine yS rfl ?_
          refine h_nil ?_
          refine q_block ?_
          refine q_then ?_
          refine h_reg ?_
          refine h_op (r_add rfl rfl) ?_
          refine yM rfl ?_
          refine h_nil ?_
          exact h_back (k + 1, some k) (⟨hk2, hfa.no htv⟩) ((show cl.length - (k + 1) < cl.length - k by omega)) ⟨rfl, rfl, rfl, rfl, rfl, rfl, rfl, rfl, rfl, rfl, rfl, trivial⟩ (same)
         ·refine h_skip ?_
          refine q_then ?_
          refine h_seq ?_
          refine h_block ?_
          refine yR ?_
          refine yM rfl ?_
          refine h_op (r_idx rfl rfl) ?_
          refine h_op (r_nthr rfl (out := (cl.getD k zCB).c.cells) (Claim.cells_length _) (cbs_at hx)) ?_
          refine h_opX (x_alloc) fun g18 => ?_
          refine yS rfl ?_
          refine h_opS (s_storer rfl rfl) ?_
          refine yN ?_
          refine yR ?_
          refine yM rfl ?_
          refine h_op (r_bool (r_lss rfl rfl) (show decide (fv none < 0) = true from rfl)) ?_
          refine yM rfl ?_
          refine yM rfl ?_
          refine h_op (r_loadr rfl) ?_
          refine h_call (hTr.comes) rfl rfl rfl fun _ => ?_
          refine h_op (r_not rfl) ?_
          refine h_op (r_pick rfl rfl) ?_
          refine yN ?_
          refine h_condF rfl ?_
          refine h_skip ?_
          refine q_block ?_
          refine q_then ?_
          refine h_reg ?_
          refine h_op (r_add rfl rfl) ?_
          refine yM rfl ?_
          refine h_nil ?_
          exact h_back (k + 1, none) (⟨hk2, hfa.yes htv⟩) ((show cl.length - (k + 1) < cl.length - k by omega)) ⟨rfl, rfl, rfl, rfl, rfl, rfl, rfl, rfl, rfl, rfl, rfl, trivial⟩ (same)
        ·refine h_skip ?_
         refine q_then ?_
         refine h_seq ?_
         refine h_block ?_
         refine yR ?_
         refine yM rfl ?_
         refine h_op (r_idx rfl rfl) ?_
         refine h_op (r_nthr rfl (out := (cl.getD k zCB).c.cells) (Claim.cells_length _) (cbs_at hx)) ?_
         refine h_opX (x_alloc) fun g18 => ?_
         refine yS rfl ?_
         refine h_opS (s_storer rfl rfl) ?_
         refine yN ?_
         refine yR ?_
         refine yM rfl ?_
         refine h_op (r_bool (r_lss rfl rfl) (show decide (fv (some j0) < 0) = false from decide_eq_false (by show ¬ ((j0 : Nat) : Int) < 0; omega))) ?_
         refine yM rfl ?_
         refine h_opOff ?_
         refine h_opOff ?_
         refine h_opOff ?_
         refine h_opOff ?_
         refine h_op (r_pick rfl rfl) ?_
         refine yN ?_
         refine h_condF rfl ?_
         refine h_skip ?_
         refine q_block ?_
         refine q_then ?_
         refine h_reg ?_
         refine h_op (r_add rfl rfl) ?_
         refine yM rfl ?_
         refine h_nil ?_
         exact h_back (k + 1, some j0) (⟨hk2, hfa.step⟩) ((show cl.length - (k + 1) < cl.length - k by omega)) ⟨rfl, rfl, rfl, rfl, rfl, rfl, rfl, rfl, rfl, rfl, rfl, trivial⟩ (same)
       ·obtain rfl : k = cl.length := by omega
        refine h_exit ?_
        refine q_thenE ?_
        refine q_thenE ?_
        refine q_blockE ?_
        refine q_then ?_
        refine h_seq ?_
        refine yR ?_
        refine yM rfl ?_
        refine h_op (r_bool (r_neq rfl rfl) rfl) ?_
        refine yM rfl ?_
        refine h_opOff ?_
        refine h_opOff ?_
        refine h_op (r_pick rfl rfl) ?_
        refine yN ?_
        refine h_condT rfl ?_
        refine yR ?_
        refine h_call ((alive22_s h3).comes) rfl rfl rfl fun ⟨h4, hz4⟩ => ?_
        dsimp only
        refine yM rfl ?_
        refine yM rfl ?_
        refine h_op (r_not rfl) ?_
        refine h_op (r_pick rfl rfl) ?_
        refine yM rfl ?_
        refine yM rfl ?_
        refine h_op (r_len rfl) ?_
        refine h_op (r_bool (r_eql rfl rfl) rfl) ?_
        refine h_op (r_pick rfl rfl) ?_
        refine yM rfl ?_
        refine yM rfl ?_
        refine h_op (r_len rfl) ?_
        refine h_op (r_bool (r_eql rfl rfl) rfl) ?_
        refine h_op (r_pick rfl rfl) ?_
        refine yS rfl ?_
        refine yN ?_
        refine h_ret ?_
        refine q_thenR ?_
        exact h_ret1 rfl rfl fun w s => ⟨⟨h4, hz03.trans hz4⟩, rfl, (same (L' := [.zone true h4]) w s).res (List.Sublist.refl _) (by simp [Fa.wr])⟩
      ·obtain ⟨r, hS⟩ : ∃ r, showR n (dgT n (mkT (ofM l) 0)) cl t = r := ⟨_, rfl⟩
       rcases r with _ | ⟨j, e⟩
       ·have ha : accM n (dgT n (mkT (ofM l) 0)) cl its0 = true := by
         unfold accM
         rw [hp, decide_eq_true hR]
         dsimp only
         rw [hS]
         rfl
        rw [ha, if_pos rfl, hp] at ho
        obtain ⟨fd, hfd⟩ : ∃ fd, (cl.find? fun x => !trueC (ofM l) x.c x.kb x.vb) = fd := ⟨_, rfl⟩
        rw [hfd] at ho
        rcases fd with _ | x0
        ·obtain rfl : none = o := ho
         refine h_call (hBt.comes) rfl rfl rfl fun ⟨⟨h3, X, Y, k3⟩, hz3, hXY, hk3⟩ => ?_
         dsimp only at hz3 hXY hk3 ⊢
         have hz03 := hz02.trans hz3
         have hT3 : RdZ h3 (some ⟨1, 0, none⟩) hashT := hT.mono hz03
         have hA3 : RdZ h3 A (cbs cl) := hr.mono hz03
         have hI3 : RdZ h3 I (its its0) := hI.mono hz03
         have hC3 := hz.mono hz03
         have hr3 : RdZ h3 A1 (ents (ofM l)) := hr2.mono hz3
         have hv3 := hvl2.mono hz3
         refine yM rfl ?_
         refine h_op (r_extract rfl rfl) ?_
         refine h_op (r_extract rfl rfl) ?_
         refine h_op (r_extract rfl rfl) ?_
         refine yS rfl ?_
         refine yS rfl ?_
         refine yS rfl ?_
         refine yN ?_
         refine yR ?_
         refine h_op (r_field rfl) ?_
         refine h_op (r_loadc rfl) ?_
         refine h_call ((rClaims21_s h3 cl A c (by omega) hC3 _ hR).comes) rfl rfl rfl fun _ => ?_
         refine yM rfl ?_
         refine h_op (r_extract rfl rfl) ?_
         refine h_op (r_extract rfl rfl) ?_
         refine yS rfl ?_
         refine yS rfl ?_
         refine yN ?_
         refine h_seq ?_
         refine yR ?_
         refine yM rfl ?_
         refine h_op (r_bool (r_eql rfl rfl) rfl) ?_
         refine yM rfl ?_
         refine h_op (r_field rfl) ?_
         refine h_op (r_loadc rfl) ?_
         refine h_call ((rCheck19_s its0 I icc (by omega)).comes) rfl rfl rfl fun _ => ?_
         rw [checkM_ok hp]
         refine h_op (r_bool (r_eql rfl rfl) rfl) ?_
         refine h_op (r_pick rfl rfl) ?_
         refine yN ?_
         refine h_condT rfl ?_
         have hRo := Root_any n hn h3 (show 0 ≤ 256 by omega) hal (by omega) hv3 A1 c1
         rw [show rootM n (ofM l) 0 = dgT n (mkT (ofM l) 0) from rfl] at hRo
         refine ha_start [.blk g5 [.slice A cl.length c, .slice I its0.length icc] 70] [] mixed (same) ?_
         refine ha_takeP 0 rfl (r_move rfl) ?_
         refine ha_takeP 1 rfl (r_move rfl) ?_
         refine ha_takeP 2 rfl (r_move rfl) ?_
         refine ha_takeP 4 rfl (r_field rfl) ?_
         refine ha_take 5 rfl (r_loadc rfl) ?_
         refine ha_takeP 6 rfl (r_field rfl) ?_
         refine ha_take 7 rfl (r_loadc rfl) ?_
         refine ha_one 3 ?_
         refine ho_C 3 rfl (hRo.comes) rfl rfl rfl (fun xx => same) fun _ => ?_
         refine ha_one 8 ?_
         refine ho_C 8 rfl ((rLast21_s n hn h3 cl A c hC3 hvb (dgT n (mkT (ofM l) 0)) hR its0 I icc (by omega) t hp _ hS).comes) rfl rfl rfl (fun xx => same) fun _ => ?_
         refine ha_takeP 9 rfl (r_move rfl) ?_
         refine ha_takeP 10 rfl (r_extract rfl rfl) ?_
         refine ha_takeP 11 rfl (r_extract rfl rfl) ?_
         refine ha_takeP 12 rfl (r_assign rfl) ?_
         refine ha_done (by kernel_rfl) ?_
         refine q_then ?_
         refine yR ?_
         refine yS rfl ?_
         refine yN ?_
         refine h_seq ?_
         refine yR ?_
         refine h_op (r_field rfl) ?_
         refine h_op (r_loadc rfl) ?_
         refine h_op (r_len rfl) ?_
         refine yM rfl ?_
         refine yN ?_
         refine h_block ?_
         refine h_loop (fun (s : Nat × Option Nat) => s.1 ≤ cl.length ∧ FalseAt (ofM l) cl s.1 s.2) (fun (s : Nat × Option Nat) => [(89, .int .i64 (s.1 : Int)), (88, .int .i64 (cl.length : Int)), (87, .slice A cl.length c), (16, .int .i64 (fv s.2)), (15, .int .i64 (0 : Int)), (13, .bool false), (12, .slice none 0 0), (11, .slice none 0 0), (7, .slice A1 (ofM l).length c1), (5, .pointer (some ⟨g5, 0, none⟩)), (0, .int .i64 (n : Int))]) (fun (s : Nat × Option Nat) => [.zone true h3, .blk g5 [.slice A cl.length c, .slice I its0.length icc] 70]) (fun (s : Nat × Option Nat) => cl.length - s.1) (0, none) (⟨Nat.zero_le _, fun j hj => absurd hj (Nat.not_lt_zero _)⟩) ⟨rfl, rfl, rfl, rfl, rfl, rfl, rfl, rfl, rfl, rfl, rfl, trivial⟩ (same) ?_
         rintro ⟨k, f⟩ ⟨hk, hfa⟩
         dsimp only at hk hfa ⊢
         refine yR ?_
         refine h_op (r_lss rfl rfl) ?_
         refine yN ?_
         refine h_seq ?_
         refine h_cond rfl (fun hlt => ?_) (fun hlt => ?_)
         ·have hk2 : k < cl.length := by omega
          have hx := getD_get zCB hk2
          have hTr := rTrue22_s h3 (ofM l) A1 c1 hv3 (by omega) (cl.getD k zCB).c (cl.getD k zCB).kb (cl.getD k zCB).vb (hK := (hC3.get hk2).1) (hV := (hC3.get hk2).2)
          obtain ⟨b, o', rfl, -⟩ := hA3.at_ (k * 3) _ (cbs_at hx 0 _ rfl)
          rcases f with _ | j0
          ·obtain ⟨tv, htv⟩ : ∃ tv, trueC (ofM l) (cl.getD k zCB).c (cl.getD k zCB).kb (cl.getD k zCB).vb = tv := ⟨_, rfl⟩
           rw [htv] at hTr
           cases tv
           ·refine h_skip ?_
            refine q_then ?_
            refine h_seq ?_
            refine h_block ?_
            refine yR ?_
            refine yM rfl ?_
            refine h_op (r_idx rfl rfl) ?_
            refine h_op (r_nthr rfl (out := (cl.getD k zCB).c.cells) (Claim.cells_length _) (cbs_at hx)) ?_
            refine h_opX (x_alloc) fun g18 => ?_
            refine yS rfl ?_
            refine h_opS (s_storer rfl rfl) ?_
            refine yN ?_
            refine yR ?_
            refine yM rfl ?_
            refine h_op (r_bool (r_lss rfl rfl) (show decide (fv none < 0) = true from rfl)) ?_
            refine yM rfl ?_
            refine yM rfl ?_
            refine h_op (r_loadr rfl) ?_
            refine h_call (hTr.comes) rfl rfl rfl fun _ => ?_
            refine h_op (r_not rfl) ?_
            refine h_op (r_pick rfl rfl) ?_
            refine yN ?_
            refine h_condT rfl ?_
            refine h_reg ?_
            refine yM rfl ?_
            refine yS rfl ?_
            refine h_nil ?_
            refine q_block ?_
            refine q_then ?_
            refine h_reg ?_
            refine h_op (r_add rfl rfl) ?_
            refine yM rfl ?_
            refine h_nil ?_
            exact h_back (k + 1, some k) (⟨hk2, hfa.no htv⟩) ((show cl.length - (k + 1) < cl.length - k by omega)) ⟨rfl, rfl, rfl, rfl, rfl, rfl, rfl, rfl, rfl, rfl, rfl, trivial⟩ (same)
           ·refine h_skip ?_
            refine q_then ?_
            refine h_seq ?_
            refine h_block ?_
            refine yR ?_
            refine yM rfl ?_
            refine h_op (r_idx rfl rfl) ?_
            refine h_op (r_nthr rfl (out := (cl.getD k zCB).c.cells) (Claim.cells_length _) (cbs_at hx)) ?_
            refine h_opX (x_alloc) fun g18 => ?_
            refine yS rfl ?_
            refine h_opS (s_storer rfl rfl) ?_
            refine yN ?_
            refine yR ?_
            refine yM rfl ?_
            refine h_op (r_bool (r_lss rfl rfl) (show decide (fv none < 0) = true from rfl)) ?_
            refine yM rfl ?_
            refine yM rfl ?_
            refine h_op (r_loadr rfl) ?_
            refine h_call (hTr.comes) rfl rfl rfl fun _ => ?_
            refine h_op (r_not rfl) ?_
            refine h_op (r_pick rfl rfl) ?_
            refine yN ?_
            refine h_condF rfl ?_
            refine h_skip ?_
            refine q_block ?_
            refine q_then ?_
            refine h_reg ?_
            refine h_op (r_add rfl rfl) ?_
            refine yM rfl ?_
            refine h_nil ?_
            exact h_back (k + 1, none) (⟨hk2, hfa.yes htv⟩) ((show cl.length - (k + 1) < cl.length - k by omega)) ⟨rfl, rfl, rfl, rfl, rfl, rfl, rfl, rfl, rfl, rfl, rfl, trivial⟩ (same)
          ·refine h_skip ?_
           refine q_then ?_
           refine h_seq ?_
           refine h_block ?_
           refine yR ?_
           refine yM rfl ?_
           refine h_op (r_idx rfl rfl) ?_
           refine h_op (r_nthr rfl (out := (cl.getD k zCB).c.cells) (Claim.cells_length _) (cbs_at hx)) ?_
           refine h_opX (x_alloc) fun g18 => ?_
           refine yS rfl ?_
           refine h_opS (s_storer rfl rfl) ?_
           refine yN ?_
           refine yR ?_
           refine yM rfl ?_
           refine h_op (r_bool (r_lss rfl rfl) (show decide (fv (some j0) < 0) = false from decide_eq_false (by show ¬ ((j0 : Nat) : Int) < 0; omega))) ?_
           refine yM rfl ?_
           refine h_opOff ?_
           refine h_opOff ?_
           refine h_opOff ?_
           refine h_opOff ?_
           refine h_op (r_pick rfl rfl) ?_
           refine yN ?_
           refine h_condF rfl ?_
           refine h_skip ?_
           refine q_block ?_
           refine q_then ?_
           refine h_reg ?_
           refine h_op (r_add rfl rfl) ?_
           refine yM rfl ?_
           refine h_nil ?_
           exact h_back (k + 1, some j0) (⟨hk2, hfa.step⟩) ((show cl.length - (k + 1) < cl.length - k by omega)) ⟨rfl, rfl, rfl, rfl, rfl, rfl, rfl, rfl, rfl, rfl, rfl, trivial⟩ (same)
         ·obtain rfl : k = cl.length := by omega
          rcases f with _ | j0
          ·refine h_exit ?_
           refine q_thenE ?_
           refine q_thenE ?_
           refine q_blockE ?_
           refine q_then ?_
           refine h_seq ?_
           refine yR ?_
           refine yM rfl ?_
           refine h_op (r_bool (r_neq rfl rfl) rfl) ?_
           refine yM rfl ?_
           refine yM rfl ?_
           refine h_op (r_bool (r_lss rfl rfl) (show decide (fv none < 0) = true from rfl)) ?_
           refine h_op (r_pick rfl rfl) ?_
           refine yN ?_
           refine h_condT rfl ?_
           refine yR ?_
           refine h_call ((alive22_s h3).comes) rfl rfl rfl fun ⟨h4, hz4⟩ => ?_
           dsimp only
           refine yM rfl ?_
           refine yM rfl ?_
           refine h_op (r_not rfl) ?_
           refine h_op (r_pick rfl rfl) ?_
           refine yM rfl ?_
           refine yM rfl ?_
           refine h_op (r_len rfl) ?_
           refine h_op (r_bool (r_eql rfl rfl) rfl) ?_
           refine h_op (r_pick rfl rfl) ?_
           refine yM rfl ?_
           refine yM rfl ?_
           refine h_op (r_len rfl) ?_
           refine h_op (r_bool (r_eql rfl rfl) rfl) ?_
           refine h_op (r_pick rfl rfl) ?_
           refine yS rfl ?_
           refine yN ?_
           refine h_ret ?_
           refine q_thenR ?_
           exact h_ret1 rfl rfl fun w s => ⟨⟨h4, hz03.trans hz4⟩, rfl, (same (L' := [.zone true h4]) w s).res (List.Sublist.refl _) (by simp [Fa.wr])⟩
          ·exact absurd (hfd.symm.trans hfa.find_some) (by simp)
        ·obtain ⟨⟨x, y⟩, hxy⟩ : ∃ xy, pairF n (ofM l) x0 (t.pres n (keyOf x0.kb) 0) = xy := ⟨_, rfl⟩
         replace ho : some (pairF n (ofM l) x0 (t.pres n (keyOf x0.kb) 0)) = o := ho
         rw [hxy] at ho
         obtain rfl : some (x, y) = o := ho
         refine h_call (hBt.comes) rfl rfl rfl fun ⟨⟨h3, X, Y, k3⟩, hz3, hXY, hk3⟩ => ?_
         dsimp only at hz3 hXY hk3 ⊢
         have hz03 := hz02.trans hz3
         have hT3 : RdZ h3 (some ⟨1, 0, none⟩) hashT := hT.mono hz03
         have hA3 : RdZ h3 A (cbs cl) := hr.mono hz03
         have hI3 : RdZ h3 I (its its0) := hI.mono hz03
         have hC3 := hz.mono hz03
         have hr3 : RdZ h3 A1 (ents (ofM l)) := hr2.mono hz3
         have hv3 := hvl2.mono hz3
         refine yM rfl ?_
         refine h_op (r_extract rfl rfl) ?_
         refine h_op (r_extract rfl rfl) ?_
         refine h_op (r_extract rfl rfl) ?_
         refine yS rfl ?_
         refine yS rfl ?_
         refine yS rfl ?_
         refine yN ?_
         refine yR ?_
         refine h_op (r_field rfl) ?_
         refine h_op (r_loadc rfl) ?_
         obtain ⟨hX, hY⟩ := hXY x y rfl
         refine h_call ((rClaims21_s h3 cl A c (by omega) hC3 _ hR).comes) rfl rfl rfl fun _ => ?_
         refine yM rfl ?_
         refine h_op (r_extract rfl rfl) ?_
         refine h_op (r_extract rfl rfl) ?_
         refine yS rfl ?_
         refine yS rfl ?_
         refine yN ?_
         refine h_seq ?_
         refine yR ?_
         refine yM rfl ?_
         refine h_op (r_bool (r_eql rfl rfl) rfl) ?_
         refine yM rfl ?_
         refine h_op (r_field rfl) ?_
         refine h_op (r_loadc rfl) ?_
         refine h_call ((rCheck19_s its0 I icc (by omega)).comes) rfl rfl rfl fun _ => ?_
         rw [checkM_ok hp]
         refine h_op (r_bool (r_eql rfl rfl) rfl) ?_
         refine h_op (r_pick rfl rfl) ?_
         refine yN ?_
         refine h_condT rfl ?_
         have hRo := Root_any n hn h3 (show 0 ≤ 256 by omega) hal (by omega) hv3 A1 c1
         rw [show rootM n (ofM l) 0 = dgT n (mkT (ofM l) 0) from rfl] at hRo
         refine ha_start [.blk g5 [.slice A cl.length c, .slice I its0.length icc] 70] [] mixed (same) ?_
         refine ha_takeP 0 rfl (r_move rfl) ?_
         refine ha_takeP 1 rfl (r_move rfl) ?_
         refine ha_takeP 2 rfl (r_move rfl) ?_
         refine ha_takeP 4 rfl (r_field rfl) ?_
         refine ha_take 5 rfl (r_loadc rfl) ?_
         refine ha_takeP 6 rfl (r_field rfl) ?_
         refine ha_take 7 rfl (r_loadc rfl) ?_
         refine ha_one 3 ?_
         refine ho_C 3 rfl (hRo.comes) rfl rfl rfl (fun xx => same) fun _ => ?_
         refine ha_one 8 ?_
         refine ho_C 8 rfl ((rLast21_s n hn h3 cl A c hC3 hvb (dgT n (mkT (ofM l) 0)) hR its0 I icc (by omega) t hp _ hS).comes) rfl rfl rfl (fun xx => same) fun _ => ?_
         refine ha_takeP 9 rfl (r_move rfl) ?_
         refine ha_takeP 10 rfl (r_extract rfl rfl) ?_
         refine ha_takeP 11 rfl (r_extract rfl rfl) ?_
         refine ha_takeP 12 rfl (r_assign rfl) ?_
         refine ha_done (by kernel_rfl) ?_
         refine q_then ?_
         refine yR ?_
         refine yS rfl ?_
         refine yN ?_
         refine h_seq ?_
         refine yR ?_
         refine h_op (r_field rfl) ?_
         refine h_op (r_loadc rfl) ?_
         refine h_op (r_len rfl) ?_
         refine yM rfl ?_
         refine yN ?_
         refine h_block ?_
         refine h_loop (fun (s : Nat × Option Nat) => s.1 ≤ cl.length ∧ FalseAt (ofM l) cl s.1 s.2) (fun (s : Nat × Option Nat) => [(89, .int .i64 (s.1 : Int)), (88, .int .i64 (cl.length : Int)), (87, .slice A cl.length c), (16, .int .i64 (fv s.2)), (15, .int .i64 (0 : Int)), (13, .bool true), (12, .slice Y.1 y.length Y.2), (11, .slice X.1 x.length X.2), (7, .slice A1 (ofM l).length c1), (5, .pointer (some ⟨g5, 0, none⟩)), (0, .int .i64 (n : Int))]) (fun (s : Nat × Option Nat) => [.zone true h3, .blk g5 [.slice A cl.length c, .slice I its0.length icc] 70]) (fun (s : Nat × Option Nat) => cl.length - s.1) (0, none) (⟨Nat.zero_le _, fun j hj => absurd hj (Nat.not_lt_zero _)⟩) ⟨rfl, rfl, rfl, rfl, rfl, rfl, rfl, rfl, rfl, rfl, rfl, trivial⟩ (same) ?_
         rintro ⟨k, f⟩ ⟨hk, hfa⟩
         dsimp only at hk hfa ⊢
         refine yR ?_
         refine h_op (r_lss rfl rfl) ?_
         refine yN ?_
         refine h_seq ?_
         refine h_cond rfl (fun hlt => ?_) (fun hlt => ?_)
         ·have hk2 : k < cl.length := by omega
          have hx := getD_get zCB hk2
          have hTr := rTrue22_s h3 (ofM l) A1 c1 hv3 (by omega) (cl.getD k zCB).c (cl.getD k zCB).kb (cl.getD k zCB).vb (hK := (hC3.get hk2).1) (hV := (hC3.get hk2).2)
          obtain ⟨b, o', rfl, -⟩ := hA3.at_ (k * 3) _ (cbs_at hx 0 _ rfl)
          rcases f with _ | j0
          ·obtain ⟨tv, htv⟩ : ∃ tv, trueC (ofM l) (cl.getD k zCB).c (cl.getD k zCB).kb (cl.getD k zCB).vb = tv := ⟨_, rfl⟩
           rw [htv] at hTr
           cases tv
           ·refine h_skip ?_
            refine q_then ?_
            refine h_seq ?_
            refine h_block ?_
            refine yR ?_
            refine yM rfl ?_
            refine h_op (r_idx rfl rfl) ?_
            refine h_op (r_nthr rfl (out := (cl.getD k zCB).c.cells) (Claim.cells_length _) (cbs_at hx)) ?_
            refine h_opX (x_alloc) fun g18 => ?_
            refine yS rfl ?_
            refine h_opS (s_storer rfl rfl) ?_
            refine yN ?_
            refine yR ?_
            refine yM rfl ?_
            refine h_op (r_bool (r_lss rfl rfl) (show decide (fv none < 0) = true from rfl)) ?_
            refine yM rfl ?_
            refine yM rfl ?_
            refine h_op (r_loadr rfl) ?_
            refine h_call (hTr.comes) rfl rfl rfl fun _ => ?_
            refine h_op (r_not rfl) ?_
            refine h_op (r_pick rfl rfl) ?_
            refine yN ?_
            refine h_condT rfl ?_
            refine h_reg ?_
            refine yM rfl ?_
            refine yS rfl ?_
            refine h_nil ?_
            refine q_block ?_
            refine q_then ?_
            refine h_reg ?_
            refine h_op (r_add rfl rfl) ?_
            refine yM rfl ?_
            refine h_nil ?_
            exact h_back (k + 1, some k) (⟨hk2, hfa.no htv⟩) ((show cl.length - (k + 1) < cl.length - k by omega)) ⟨rfl, rfl, rfl, rfl, rfl, rfl, rfl, rfl, rfl, rfl, rfl, trivial⟩ (same)
           ·refine h_skip ?_
            refine q_then ?_
            refine h_seq ?_
            refine h_block ?_
            refine yR ?_
            refine yM rfl ?_
            refine h_op (r_idx rfl rfl) ?_
            refine h_op (r_nthr rfl (out := (cl.getD k zCB).c.cells) (Claim.cells_length _) (cbs_at hx)) ?_
            refine h_opX (x_alloc) fun g18 => ?_
            refine yS rfl ?_
            refine h_opS (s_storer rfl rfl) ?_
            refine yN ?_
            refine yR ?_
            refine yM rfl ?_
            refine h_op (r_bool (r_lss rfl rfl) (show decide (fv none < 0) = true from rfl)) ?_
            refine yM rfl ?_
            refine yM rfl ?_
            refine h_op (r_loadr rfl) ?_
            refine h_call (hTr.comes) rfl rfl rfl fun _ => ?_
            refine h_op (r_not rfl) ?_
            refine h_op (r_pick rfl rfl) ?_
            refine yN ?_
            refine h_condF rfl ?_
            refine h_skip ?_
            refine q_block ?_
            refine q_then ?_
            refine h_reg ?_
            refine h_op (r_add rfl rfl) ?_
            refine yM rfl ?_
            refine h_nil ?_
            exact h_back (k + 1, none) (⟨hk2, hfa.yes htv⟩) ((show cl.length - (k + 1) < cl.length - k by omega)) ⟨rfl, rfl, rfl, rfl, rfl, rfl, rfl, rfl, rfl, rfl, rfl, trivial⟩ (same)
          ·refine h_skip ?_
           refine q_then ?_
           refine h_seq ?_
           refine h_block ?_
           refine yR ?_
           refine yM rfl ?_
           refine h_op (r_idx rfl rfl) ?_
           refine h_op (r_nthr rfl (out := (cl.getD k zCB).c.cells) (Claim.cells_length _) (cbs_at hx)) ?_
           refine h_opX (x_alloc) fun g18 => ?_
           refine yS rfl ?_
           refine h_opS (s_storer rfl rfl) ?_
           refine yN ?_
           refine yR ?_
           refine yM rfl ?_
           refine h_op (r_bool (r_lss rfl rfl) (show decide (fv (some j0) < 0) = false from decide_eq_false (by show ¬ ((j0 : Nat) : Int) < 0; omega))) ?_
           refine yM rfl ?_
           refine h_opOff ?_
           refine h_opOff ?_
           refine h_opOff ?_
           refine h_opOff ?_
           refine h_op (r_pick rfl rfl) ?_
           refine yN ?_
           refine h_condF rfl ?_
           refine h_skip ?_
           refine q_block ?_
           refine q_then ?_
           refine h_reg ?_
           refine h_op (r_add rfl rfl) ?_
           refine yM rfl ?_
           refine h_nil ?_
           exact h_back (k + 1, some j0) (⟨hk2, hfa.step⟩) ((show cl.length - (k + 1) < cl.length - k by omega)) ⟨rfl, rfl, rfl, rfl, rfl, rfl, rfl, rfl, rfl, rfl, rfl, trivial⟩ (same)
         ·obtain rfl : k = cl.length := by omega
          rcases f with _ | j0
          ·exact absurd (hfd.symm.trans hfa.find_none) (by simp)
          ·obtain rfl : x0 = cl.getD j0 zCB := Option.some.inj (hfd.symm.trans hfa.find_some)
           have hj0 := hfa.1
           have hcol := batch_col n hal cl its0 t hp ha j0 hj0 hfa.2.1 x y hxy
           have hgl := (getS_ok hv3 (keyOf (cl.getD j0 zCB).kb)).2
           have hxg := getD_get zCB hj0
           have hv7 := hvb7 _ (List.mem_of_getElem? hxg)
           have hk32 := keysC_mem32 hR hC3 j0 hj0
           obtain ⟨hKx, hVx⟩ := hC3.get hj0
           have hkn := hKx.len
           have hsh := accM_ok ha
           have hk3 := show_kind hp hS hj0
           have hst := At.start hp
           have hwd := way_depth (keyOf (cl.getD j0 zCB).kb) t 0 0
           have hht := hst.ht
           have hwl := pres_len n (keyOf (cl.getD j0 zCB).kb) t 0 0
           have hok := (parse_ok hp).2.1
           have hWy := Way_s its0 I icc (by omega) t hp (keyOf (cl.getD j0 zCB).kb)
           have hwM := wayM_dep hal (keyOf (cl.getD j0 zCB).kb)
           have hmem := fun w hw => pres_mem (n := n) (key := keyOf (cl.getD j0 zCB).kb) (t := t) (d := 0) w hw
           have hKr : RdZ h3 (cl.getD j0 zCB).c.key.A (keyOf (cl.getD j0 zCB).kb).cells := by rw [keyOf_cells hk32]; exact hKx.rd
           obtain ⟨bK, oK, hKA, -⟩ := hKr.at_ 0 _ (List.getElem?_eq_getElem (by rw [B32.cells_length]; decide))
           rw [hKA] at hKr
           have hpos : 0 < its0.length := by
            have h1 := (parse_flat hp).1
            have h2 := t.sz_pos
            rw [h1, Sub.flat_len]
            exact h2
           have hAt : ∀ k p : Nat, (t.way (keyOf (cl.getD j0 zCB).kb) 0 0)[k]? = some p → ∃ s, (t.pres n (keyOf (cl.getD j0 zCB).kb) 0)[k]? = some (preS n s) ∧ Spec Tryz.prog 43 [.int .i64 (n : Int), .slice I its0.length icc, .int .i64 (p : Int), .int .i64 ((k : Nat) : Int)].toArray [.rd I (its its0)] [] (fun u : Nat × Nat => .slice (some ⟨u.1, 0, none⟩) (preS n s).length u.2) (fun u => [.own (.slice (some ⟨u.1, 0, none⟩) (preS n s).length u.2) (preS n s).length 5 1 (bc (preS n s))]) := by
            intro k p hpk
            have hklt := (List.getElem?_eq_some_iff.1 hpk).1
            obtain ⟨s, hs1, hs2⟩ := way_at (keyOf (cl.getD j0 zCB).kb) hst hpk
            obtain ⟨rest, hrd, _⟩ := hs2.read
            have hne : ∀ y, s = .one y → y.kind ≠ 3 := fun y hy => by rw [hy] at hs1; rw [ways_end (keyOf (cl.getD j0 zCB).kb) t 0 k y hs1]; exact hk3
            have hRP := rPre19_s n hn its0 I icc (by omega) hok s (256 - (0 + k)) (by omega) p rest hrd hne
            unfold RPre at hRP
            rw [show (256 : Int) - ((256 - (0 + k) : Nat) : Int) = ((k : Nat) : Int) by omega] at hRP
            refine ⟨s, ?_, hRP⟩
            unfold Sub.pres
            rw [List.getElem?_map, hs1]
            rfl
           unfold pairF at hxy
           have hFd := fun z (hz' : LeZ h3 z) ys W' cw (hY' : RdZ z W' (svs ys)) hys N hN hNl => rFind22_n n hn z (ofM l) A1 c1 (hB := hr3.mono hz') (hv3.mono hz') hal (by omega) (cl.getD j0 zCB).c (cl.getD j0 zCB).kb (cl.getD j0 zCB).vb (hK := hKx.mono hz') (hV := hVx.mono hz') hk32 (by omega) (depK (keyOf (cl.getD j0 zCB).kb) (ofM l)) hwM ys (t.pres n (keyOf (cl.getD j0 zCB).kb) 0) W' cw N (hY := hY') hys hN hNl x y hxy
           obtain ⟨hxl, hyl⟩ := findP_len hxy (N := 10000001) (fun w hw => Nat.le_trans (wayPre_mem w hw) (by decide)) (fun w hw => Nat.le_trans (hmem w hw) (by decide)) (by unfold preV; rw [List.length_cons]; omega) (by unfold preV; rw [List.length_cons]; omega)
           obtain ⟨bI, oI, rfl, -⟩ := hI3.at_ 0 _ (List.getElem?_eq_getElem (by rw [its_len]; omega))
           obtain ⟨bA, oA, rfl, -⟩ := hA3.at_ (j0 * 3) _ (cbs_at hxg 0 _ rfl)
           generalize hway : t.way (keyOf (cl.getD j0 zCB).kb) 0 0 = way at *
           generalize t.pres n (keyOf (cl.getD j0 zCB).kb) 0 = pl at *
           rw [show fv (some j0) = ((j0 : Nat) : Int) from rfl]
           refine h_exit ?_
           refine q_thenE ?_
           refine q_thenE ?_
           refine q_blockE ?_
           refine q_then ?_
           refine h_seq ?_
           refine yR ?_
           refine yM rfl ?_
           refine h_op (r_bool (r_neq rfl rfl) rfl) ?_
           refine yM rfl ?_
           refine yM rfl ?_
           refine h_op (r_bool (r_lss rfl rfl) (show decide (((j0 : Nat) : Int) < 0) = false from decide_eq_false (by show ¬ ((j0 : Nat) : Int) < 0; omega))) ?_
           refine h_op (r_pick rfl rfl) ?_
           refine yN ?_
           refine h_condF rfl ?_
           refine h_skip ?_
           refine q_then ?_
           refine yR ?_
           refine h_op (r_field rfl) ?_
           refine h_op (r_loadc rfl) ?_
           refine yM rfl ?_
           refine h_op (r_idx rfl rfl) ?_
           refine h_op (r_nthr rfl (out := (cl.getD j0 zCB).c.cells) (Claim.cells_length _) (cbs_at hxg)) ?_
           refine h_opX (x_alloc) fun g19 => ?_
           refine h_opS (s_storer rfl rfl) ?_
           refine yN ?_
           refine yR ?_
           refine yS rfl ?_
           refine yN ?_
           refine h_seq ?_
           refine h_seq ?_
           refine ha_start [.zone true h3, .blk g19 (cl.getD j0 zCB).c.cells 25, .blk g5 [.slice (some ⟨bA, oA, none⟩) cl.length c, .slice (some ⟨bI, oI, none⟩) its0.length icc] 70] [] mixed (same) ?_
           refine ha_takeP 0 rfl (r_field rfl) ?_
           refine ha_take 1 rfl (r_loadc rfl) ?_
           refine ha_takeP 2 rfl (r_field rfl) ?_
           refine ha_take 3 rfl (r_as (r_loadc rfl) (show _ = Value.slice (some ⟨bK, oK, none⟩) (cl.getD j0 zCB).c.key.n (cl.getD j0 zCB).c.key.c by rw [hKA])) ?_
           refine ha_takeP 4 rfl (r_arr rfl (hm := show 32 ≤ (cl.getD j0 zCB).c.key.n by omega)) ?_
           refine ha_take 5 rfl (r_loadr rfl) ?_
           refine ha_takeP 8 rfl (r_move rfl) ?_
           refine ha_one 6 ?_
           refine ho_C 6 rfl (hWy.comes) rfl rfl rfl (fun xx => same) fun ⟨g136, c136⟩ => ?_
           refine ha_takeP 7 rfl (r_len rfl) ?_
           refine ha_done (by kernel_rfl) ?_
           refine q_then ?_
           refine h_block ?_
           dsimp only
           refine h_nil_own 23 1 (xs := svs ([] : List Seg)) rfl ?_
           refine h_loop (fun (s : Zh × List Seg × Option Addr × Nat) => LeZ h3 s.1 ∧ s.2.1.length ≤ way.length ∧ SegsZ s.1 s.2.1 (pl.take s.2.1.length)) (fun (s : Zh × List Seg × Option Addr × Nat) => [(138, .int .i64 (s.2.1.length : Int)), (137, .int .i64 (way.length : Int)), (136, .slice (some ⟨g136, 0, none⟩) way.length c136), (20, .slice s.2.2.1 s.2.1.length s.2.2.2), (19, .pointer (some ⟨g19, 0, none⟩)), (13, .bool true), (12, .slice Y.1 y.length Y.2), (11, .slice X.1 x.length X.2), (7, .slice A1 (ofM l).length c1), (5, .pointer (some ⟨g5, 0, none⟩)), (0, .int .i64 (n : Int))]) (fun (s : Zh × List Seg × Option Addr × Nat) => [.own (.slice s.2.2.1 s.2.1.length s.2.2.2) s.2.1.length 23 1 (svs s.2.1), .zone true s.1, .own (.slice (some ⟨g136, 0, none⟩) way.length c136) way.length 3 1 (ic way), .blk g19 (cl.getD j0 zCB).c.cells 25, .blk g5 [.slice (some ⟨bA, oA, none⟩) cl.length c, .slice (some ⟨bI, oI, none⟩) its0.length icc] 70]) (fun (s : Zh × List Seg × Option Addr × Nat) => way.length - s.2.1.length) (h3, [], none, 0) (⟨LeZ.refl h3, Nat.zero_le _, ⟨rfl, fun x hx => by cases hx⟩⟩) ⟨rfl, rfl, rfl, rfl, rfl, rfl, rfl, rfl, rfl, rfl, rfl, trivial⟩ (same) ?_
           rintro ⟨z, xs, W', cw⟩ ⟨hzz, hxk, hsz⟩
           dsimp only at hzz hxk hsz ⊢
           have hIz : RdZ z (some ⟨bI, oI, none⟩) (its its0) := hI3.mono hzz
           refine yR ?_
           refine h_op (r_lss rfl rfl) ?_
           refine yN ?_
           refine h_seq ?_
           refine h_cond rfl (fun hlt => ?_) (fun hlt => ?_)
           ·have hk2 : xs.length < way.length := by omega
            obtain ⟨p, hpk⟩ : ∃ p, way[xs.length]? = some p := ⟨_, List.getElem?_eq_getElem hk2⟩
            obtain ⟨s, hs1, hRP⟩ := hAt xs.length p hpk
            have hgp : way.getD xs.length 0 = p := by rw [List.getD_eq_getElem?_getD, hpk]; rfl
            refine h_skip ?_
            refine q_then ?_
            refine h_seq ?_
            refine h_block ?_
            refine yR ?_
            refine yM rfl ?_
            refine h_op (r_idx rfl rfl) ?_
            refine h_op (r_int (r_nth rfl (ic_at hk2)) (show _ = ((p : Nat) : Int) by rw [hgp])) ?_
            refine yS rfl ?_
            refine yS rfl ?_
            refine yN ?_
            refine h_reg ?_
            refine yM rfl ?_
            refine yM rfl ?_
            refine h_op (r_field rfl) ?_
            refine h_op (r_loadc rfl) ?_
            refine yM rfl ?_
            refine yM rfl ?_
            refine h_call (hRP.comes) rfl rfl rfl fun ⟨g149, c149⟩ => ?_
            refine h_opX (x_bsl rfl rfl) fun g150 => ?_
            refine h_opX (x_app rfl rfl (k := 1)) fun ⟨g151, c151⟩ => ?_
            refine yS rfl ?_
            refine h_nil ?_
            refine q_block ?_
            refine q_then ?_
            refine h_reg ?_
            refine h_op (r_add rfl rfl) ?_
            refine yM rfl ?_
            refine h_nil ?_
            dsimp only
            change H _ _ _ _ _ (.own _ _ _ _ (svs xs ++ [sv (some ⟨g149, 0, none⟩, c149, preS n s)]) :: _) _
            rw [svs_app1]
            refine h_freezeO (.slice (some ⟨g149, 0, none⟩) (preS n s).length c149) fun z2 B2 c2 e2 hle2 hlen2 hnil2 hz2 hrr => ?_
            injection e2 with e2 _ e3
            subst e2 e3
            have hlx : xs.length + 1 = (xs ++ [((some ⟨g149, 0, none⟩, c149, preS n s) : Seg)]).length := by rw [List.length_append]; rfl
            have hsn := hsz.snoc hz2 (c := c149) hrr
            rw [show pl.take xs.length ++ [preS n s] = pl.take (xs.length + 1) by rw [List.take_add_one, hs1]; rfl] at hsn
            exact h_back (z2, xs ++ [((some ⟨g149, 0, none⟩, c149, preS n s) : Seg)], some ⟨g151, 0, none⟩, c151) (⟨hzz.trans hz2, by dsimp only; rw [← hlx]; omega, by dsimp only; rw [← hlx]; exact hsn⟩) ((by dsimp only; rw [← hlx]; omega)) ⟨aI rfl (by dsimp only; rw [← hlx]; omega), rfl, rfl, by dsimp only; rw [← hlx]; rfl, rfl, rfl, rfl, rfl, rfl, rfl, rfl, trivial⟩ ((fun w s => by dsimp only; rw [← hlx]; exact same w s))
           ·have hxl2 : xs.length = way.length := by omega
            rw [hxl2, List.take_of_length_le (by omega)] at hsz
            rw [hxl2]
            refine h_freezeO (.slice W' way.length cw) fun z2 B2 c2 e2 hle2 hlen2 hnil2 hz2 hrr => ?_
            injection e2 with e2 _ e3
            subst e2 e3
            have hzz2 := hzz.trans hz2
            have hFd := hFd z2 hzz2 xs W' cw hrr (hsz.mono hz2) way.length (by omega) (by omega)
            refine h_exit ?_
            refine q_thenE ?_
            refine q_thenE ?_
            refine q_blockE ?_
            refine q_then ?_
            refine yR ?_
            refine yM rfl ?_
            refine yM rfl ?_
            refine h_op (r_loadr rfl) ?_
            refine yM rfl ?_
            refine h_call (hFd.comes) rfl rfl rfl fun ⟨⟨h5, X5, Y5⟩, hz5, hX5, hY5⟩ => ?_
            dsimp only at hz5 hX5 hY5 ⊢
            have hz35 := hzz2.trans hz5
            refine yM rfl ?_
            refine h_op (r_extract rfl rfl) ?_
            refine h_op (r_extract rfl rfl) ?_
            refine yS rfl ?_
            refine yS rfl ?_
            refine yN ?_
            refine yR ?_
            refine h_call ((alive22_s h5 (hT := hT3.mono hz35)).comes) rfl rfl rfl fun ⟨h6, hz6⟩ => ?_
            dsimp only
            have hX6 := hX.mono (hz35.trans hz6)
            have hY6 := hY.mono (hz35.trans hz6)
            have rX6 := hX6.rd
            have rY6 := hY6.rd
            have rX56 := (hX5.mono hz6).rd
            have rY56 := (hY5.mono hz6).rd
            have hS1 := rSame_s x x X.1 X5.1 X.2 X5.2 (by omega)
            have hS2 := rSame_s y y Y.1 Y5.1 Y.2 Y5.2 (by omega)
            have hCo := rCollide22_s n hn x y X.1 Y.1 X.2 Y.2 hX6.nil hY6.nil (by omega) (by omega)
            rw [hcol] at hCo
            rw [decide_eq_true rfl] at hS1 hS2
            refine yM rfl ?_
            refine yM rfl ?_
            refine h_op (r_pick rfl rfl) ?_
            refine yM rfl ?_
            refine yM rfl ?_
            refine yM rfl ?_
            refine h_call (hS1.comes) rfl rfl rfl fun _ => ?_
            refine h_op (r_pick rfl rfl) ?_
            refine yM rfl ?_
            refine yM rfl ?_
            refine yM rfl ?_
            refine h_call (hS2.comes) rfl rfl rfl fun _ => ?_
            refine h_op (r_pick rfl rfl) ?_
            refine yM rfl ?_
            refine yM rfl ?_
            refine yM rfl ?_
            refine yM rfl ?_
            refine h_call (hCo.comes) rfl rfl rfl fun _ => ?_
            refine h_op (r_pick rfl rfl) ?_
            refine yS rfl ?_
            refine yN ?_
            refine h_ret ?_
            exact h_ret1 rfl rfl fun w s => ⟨⟨h6, hz03.trans (hz35.trans hz6)⟩, rfl, (same (L' := [.zone true h6]) w s).res (List.Sublist.refl _) (by simp [Fa.wr])⟩
       ·rw [show accM n (dgT n (mkT (ofM l) 0)) cl its0 = false by unfold accM; rw [hp]; dsimp only; rw [hS]; exact Bool.and_false _] at ho
        obtain rfl : none = o := ho
        have hne := showR_nz hS
        refine h_call (hBt.comes) rfl rfl rfl fun ⟨⟨h3, X, Y, k3⟩, hz3, hXY, hk3⟩ => ?_
        dsimp only at hz3 hXY hk3 ⊢
        have hz03 := hz02.trans hz3
        have hT3 : RdZ h3 (some ⟨1, 0, none⟩) hashT := hT.mono hz03
        have hA3 : RdZ h3 A (cbs cl) := hr.mono hz03
        have hI3 : RdZ h3 I (its its0) := hI.mono hz03
        have hC3 := hz.mono hz03
        have hr3 : RdZ h3 A1 (ents (ofM l)) := hr2.mono hz3
        have hv3 := hvl2.mono hz3
        refine yM rfl ?_
        refine h_op (r_extract rfl rfl) ?_
        refine h_op (r_extract rfl rfl) ?_
        refine h_op (r_extract rfl rfl) ?_
        refine yS rfl ?_
        refine yS rfl ?_
        refine yS rfl ?_
        refine yN ?_
        refine yR ?_
        refine h_op (r_field rfl) ?_
        refine h_op (r_loadc rfl) ?_
        refine h_call ((rClaims21_s h3 cl A c (by omega) hC3 _ hR).comes) rfl rfl rfl fun _ => ?_
        refine yM rfl ?_
        refine h_op (r_extract rfl rfl) ?_
        refine h_op (r_extract rfl rfl) ?_
        refine yS rfl ?_
        refine yS rfl ?_
        refine yN ?_
        refine h_seq ?_
        refine yR ?_
        refine yM rfl ?_
        refine h_op (r_bool (r_eql rfl rfl) rfl) ?_
        refine yM rfl ?_
        refine h_op (r_field rfl) ?_
        refine h_op (r_loadc rfl) ?_
        refine h_call ((rCheck19_s its0 I icc (by omega)).comes) rfl rfl rfl fun _ => ?_
        rw [checkM_ok hp]
        refine h_op (r_bool (r_eql rfl rfl) rfl) ?_
        refine h_op (r_pick rfl rfl) ?_
        refine yN ?_
        refine h_condT rfl ?_
        have hRo := Root_any n hn h3 (show 0 ≤ 256 by omega) hal (by omega) hv3 A1 c1
        rw [show rootM n (ofM l) 0 = dgT n (mkT (ofM l) 0) from rfl] at hRo
        refine ha_start [.blk g5 [.slice A cl.length c, .slice I its0.length icc] 70] [] mixed (same) ?_
        refine ha_takeP 0 rfl (r_move rfl) ?_
        refine ha_takeP 1 rfl (r_move rfl) ?_
        refine ha_takeP 2 rfl (r_move rfl) ?_
        refine ha_takeP 4 rfl (r_field rfl) ?_
        refine ha_take 5 rfl (r_loadc rfl) ?_
        refine ha_takeP 6 rfl (r_field rfl) ?_
        refine ha_take 7 rfl (r_loadc rfl) ?_
        refine ha_one 3 ?_
        refine ho_C 3 rfl (hRo.comes) rfl rfl rfl (fun xx => same) fun _ => ?_
        refine ha_one 8 ?_
        refine ho_C 8 rfl ((rLast21_s n hn h3 cl A c hC3 hvb (dgT n (mkT (ofM l) 0)) hR its0 I icc (by omega) t hp _ hS).comes) rfl rfl rfl (fun xx => same) fun _ => ?_
        refine ha_takeP 9 rfl (r_move rfl) ?_
        refine ha_takeP 10 rfl (r_extract rfl rfl) ?_
        refine ha_takeP 11 rfl (r_extract rfl rfl) ?_
        refine ha_takeP 12 rfl (r_assign rfl) ?_
        refine ha_done (by kernel_rfl) ?_
        refine q_then ?_
        refine yR ?_
        refine yS rfl ?_
        refine yN ?_
        refine h_seq ?_
        refine yR ?_
        refine h_op (r_field rfl) ?_
        refine h_op (r_loadc rfl) ?_
        refine h_op (r_len rfl) ?_
        refine yM rfl ?_
        refine yN ?_
        refine h_block ?_
        refine h_loop (fun (s : Nat × Option Nat) => s.1 ≤ cl.length ∧ FalseAt (ofM l) cl s.1 s.2) (fun (s : Nat × Option Nat) => [(89, .int .i64 (s.1 : Int)), (88, .int .i64 (cl.length : Int)), (87, .slice A cl.length c), (16, .int .i64 (fv s.2)), (15, .int .i64 e), (13, .bool false), (12, .slice none 0 0), (11, .slice none 0 0), (7, .slice A1 (ofM l).length c1), (5, .pointer (some ⟨g5, 0, none⟩)), (0, .int .i64 (n : Int))]) (fun (s : Nat × Option Nat) => [.zone true h3, .blk g5 [.slice A cl.length c, .slice I its0.length icc] 70]) (fun (s : Nat × Option Nat) => cl.length - s.1) (0, none) (⟨Nat.zero_le _, fun j hj => absurd hj (Nat.not_lt_zero _)⟩) ⟨rfl, rfl, rfl, rfl, rfl, rfl, rfl, rfl, rfl, rfl, rfl, trivial⟩ (same) ?_
        rintro ⟨k, f⟩ ⟨hk, hfa⟩
        dsimp only at hk hfa ⊢
        refine yR ?_
        refine h_op (r_lss rfl rfl) ?_
        refine yN ?_
        refine h_seq ?_
        refine h_cond rfl (fun hlt => ?_) (fun hlt => ?_)
        ·have hk2 : k < cl.length := by omega
         have hx := getD_get zCB hk2
         have hTr := rTrue22_s h3 (ofM l) A1 c1 hv3 (by omega) (cl.getD k zCB).c (cl.getD k zCB).kb (cl.getD k zCB).vb (hK := (hC3.get hk2).1) (hV := (hC3.get hk2).2)
         obtain ⟨b, o', rfl, -⟩ := hA3.at_ (k * 3) _ (cbs_at hx 0 _ rfl)
         rcases f with _ | j0
         ·obtain ⟨tv, htv⟩ : ∃ tv, trueC (ofM l) (cl.getD k zCB).c (cl.getD k zCB).kb (cl.getD k zCB).vb = tv := ⟨_, rfl⟩
          rw [htv] at hTr
          cases tv
          ·refine h_skip ?_
           refine q_then ?_
           refine h_seq ?_
           refine h_block ?_
           refine yR ?_
           refine yM rfl ?_
           refine h_op (r_idx rfl rfl) ?_
           refine h_op (r_nthr rfl (out := (cl.getD k zCB).c.cells) (Claim.cells_length _) (cbs_at hx)) ?_
           refine h_opX (x_alloc) fun g18 => ?_
           refine yS rfl ?_
           refine h_opS (s_storer rfl rfl) ?_
           refine yN ?_
           refine yR ?_
           refine yM rfl ?_
           refine h_op (r_bool (r_lss rfl rfl) (show decide (fv none < 0) = true from rfl)) ?_
           refine yM rfl ?_
           refine yM rfl ?_
           refine h_op (r_loadr rfl) ?_
           refine h_call (hTr.comes) rfl rfl rfl fun _ => ?_
           refine h_op (r_not rfl) ?_
           refine h_op (r_pick rfl rfl) ?_
           refine yN ?_
           refine h_condT rfl ?_
           refine h_reg ?_
           refine yM rfl ?_
           refine yS rfl ?_
           refine h_nil ?_
           refine q_block ?_
           refine q_then ?_
           refine h_reg ?_
           refine h_op (r_add rfl rfl) ?_
           refine yM rfl ?_
           refine h_nil ?_
           exact h_back (k + 1, some k) (⟨hk2, hfa.no htv⟩) ((show cl.length - (k + 1) < cl.length - k by omega)) ⟨rfl, rfl, rfl, rfl, rfl, rfl, rfl, rfl, rfl, rfl, rfl, trivial⟩ (same)
          ·refine h_skip ?_
           refine q_then ?_
           refine h_seq ?_
           refine h_block ?_
           refine yR ?_
           refine yM rfl ?_
           refine h_op (r_idx rfl rfl) ?_
           refine h_op (r_nthr rfl (out := (cl.getD k zCB).c.cells) (Claim.cells_length _) (cbs_at hx)) ?_
           refine h_opX (x_alloc) fun g18 => ?_
           refine yS rfl ?_
           refine h_opS (s_storer rfl rfl) ?_
           refine yN ?_
           refine yR ?_
           refine yM rfl ?_
           refine h_op (r_bool (r_lss rfl rfl) (show decide (fv none < 0) = true from rfl)) ?_
           refine yM rfl ?_
           refine yM rfl ?_
           refine h_op (r_loadr rfl) ?_
           refine h_call (hTr.comes) rfl rfl rfl fun _ => ?_
           refine h_op (r_not rfl) ?_
           refine h_op (r_pick rfl rfl) ?_
           refine yN ?_
           refine h_condF rfl ?_
           refine h_skip ?_
           refine q_block ?_
           refine q_then ?_
           refine h_reg ?_
           refine h_op (r_add rfl rfl) ?_
           refine yM rfl ?_
           refine h_nil ?_
           exact h_back (k + 1, none) (⟨hk2, hfa.yes htv⟩) ((show cl.length - (k + 1) < cl.length - k by omega)) ⟨rfl, rfl, rfl, rfl, rfl, rfl, rfl, rfl, rfl, rfl, rfl, trivial⟩ (same)
         ·refine h_skip ?_
          refine q_then ?_
          refine h_seq ?_
          refine h_block ?_
          refine yR ?_
          refine yM rfl ?_
          refine h_op (r_idx rfl rfl) ?_
          refine h_op (r_nthr rfl (out := (cl.getD k zCB).c.cells) (Claim.cells_length _) (cbs_at hx)) ?_
          refine h_opX (x_alloc) fun g18 => ?_
          refine yS rfl ?_
          refine h_opS (s_storer rfl rfl) ?_
          refine yN ?_
          refine yR ?_
          refine yM rfl ?_
          refine h_op (r_bool (r_lss rfl rfl) (show decide (fv (some j0) < 0) = false from decide_eq_false (by show ¬ ((j0 : Nat) : Int) < 0; omega))) ?_
          refine yM rfl ?_
          refine h_opOff ?_
          refine h_opOff ?_
          refine h_opOff ?_
          refine h_opOff ?_
          refine h_op (r_pick rfl rfl) ?_
          refine yN ?_
          refine h_condF rfl ?_
          refine h_skip ?_
          refine q_block ?_
          refine q_then ?_
          refine h_reg ?_
          refine h_op (r_add rfl rfl) ?_
          refine yM rfl ?_
          refine h_nil ?_
          exact h_back (k + 1, some j0) (⟨hk2, hfa.step⟩) ((show cl.length - (k + 1) < cl.length - k by omega)) ⟨rfl, rfl, rfl, rfl, rfl, rfl, rfl, rfl, rfl, rfl, rfl, trivial⟩ (same)
        ·obtain rfl : k = cl.length := by omega
         refine h_exit ?_
         refine q_thenE ?_
         refine q_thenE ?_
         refine q_blockE ?_
         refine q_then ?_
         refine h_seq ?_
         refine yR ?_
         refine yM rfl ?_
         refine h_op (r_bool (r_neq rfl rfl) (decide_eq_true hne)) ?_
         refine yM rfl ?_
         refine h_opOff ?_
         refine h_opOff ?_
         refine h_op (r_pick rfl rfl) ?_
         refine yN ?_
         refine h_condT rfl ?_
         refine yR ?_
         refine h_call ((alive22_s h3).comes) rfl rfl rfl fun ⟨h4, hz4⟩ => ?_
         dsimp only
         refine yM rfl ?_
         refine yM rfl ?_
         refine h_op (r_not rfl) ?_
         refine h_op (r_pick rfl rfl) ?_
         refine yM rfl ?_
         refine yM rfl ?_
         refine h_op (r_len rfl) ?_
         refine h_op (r_bool (r_eql rfl rfl) rfl) ?_
         refine h_op (r_pick rfl rfl) ?_
         refine yM rfl ?_
         refine yM rfl ?_
         refine h_op (r_len rfl) ?_
         refine h_op (r_bool (r_eql rfl rfl) rfl) ?_
         refine h_op (r_pick rfl rfl) ?_
         refine yS rfl ?_
         refine yN ?_
         refine h_ret ?_
         refine q_thenR ?_
         exact h_ret1 rfl rfl fun w s => ⟨⟨h4, hz03.trans hz4⟩, rfl, (same (L' := [.zone true h4]) w s).res (List.Sublist.refl _) (by simp [Fa.wr])⟩
     ·rw [show accM n (dgT n (mkT (ofM l) 0)) cl its0 = false by unfold accM; rw [decide_eq_false (by rw [hR]; simp)]; exact Bool.false_and _] at ho
      obtain rfl : none = o := ho
      have hne := claimsR_nz hR
      refine h_call (hBt.comes) rfl rfl rfl fun ⟨⟨h3, X, Y, k3⟩, hz3, hXY, hk3⟩ => ?_
      dsimp only at hz3 hXY hk3 ⊢
      have hz03 := hz02.trans hz3
      have hT3 : RdZ h3 (some ⟨1, 0, none⟩) hashT := hT.mono hz03
      have hA3 : RdZ h3 A (cbs cl) := hr.mono hz03
      have hI3 : RdZ h3 I (its its0) := hI.mono hz03
      have hC3 := hz.mono hz03
      have hr3 : RdZ h3 A1 (ents (ofM l)) := hr2.mono hz3
      have hv3 := hvl2.mono hz3
      refine yM rfl ?_
      refine h_op (r_extract rfl rfl) ?_
      refine h_op (r_extract rfl rfl) ?_
      refine h_op (r_extract rfl rfl) ?_
      refine yS rfl ?_
      refine yS rfl ?_
      refine yS rfl ?_
      refine yN ?_
      refine yR ?_
      refine h_op (r_field rfl) ?_
      refine h_op (r_loadc rfl) ?_
      refine h_call ((rClaims21_s h3 cl A c (by omega) hC3 _ hR).comes) rfl rfl rfl fun _ => ?_
      refine yM rfl ?_
      refine h_op (r_extract rfl rfl) ?_
      refine h_op (r_extract rfl rfl) ?_
      refine yS rfl ?_
      refine yS rfl ?_
      refine yN ?_
      refine h_seq ?_
      refine yR ?_
      refine yM rfl ?_
      refine h_op (r_bool (r_eql rfl rfl) (decide_eq_false hne)) ?_
      refine yM rfl ?_
      refine h_opOff ?_
      refine h_opOff ?_
      refine h_opOff ?_
      refine h_opOff ?_
      refine h_op (r_pick rfl rfl) ?_
      refine yN ?_
      refine h_condF rfl ?_
      refine h_reg ?_
      refine yS rfl ?_
      refine yN ?_
      refine yR ?_
      refine yS rfl ?_
      refine yN ?_
      refine h_seq ?_
      refine yR ?_
      refine h_op (r_field rfl) ?_
      refine h_op (r_loadc rfl) ?_
      refine h_op (r_len rfl) ?_
      refine yM rfl ?_
      refine yN ?_
      refine h_block ?_
      refine h_loop (fun (s : Nat × Option Nat) => s.1 ≤ cl.length ∧ FalseAt (ofM l) cl s.1 s.2) (fun (s : Nat × Option Nat) => [(89, .int .i64 (s.1 : Int)), (88, .int .i64 (cl.length : Int)), (87, .slice A cl.length c), (16, .int .i64 (fv s.2)), (15, .int .i64 (1 : Int)), (13, .bool false), (12, .slice none 0 0), (11, .slice none 0 0), (7, .slice A1 (ofM l).length c1), (5, .pointer (some ⟨g5, 0, none⟩)), (0, .int .i64 (n : Int))]) (fun (s : Nat × Option Nat) => [.zone true h3, .blk g5 [.slice A cl.length c, .slice I its0.length icc] 70]) (fun (s : Nat × Option Nat) => cl.length - s.1) (0, none) (⟨Nat.zero_le _, fun j hj => absurd hj (Nat.not_lt_zero _)⟩) ⟨rfl, rfl, rfl, rfl, rfl, rfl, rfl, rfl, rfl, rfl, rfl, trivial⟩ (same) ?_
      rintro ⟨k, f⟩ ⟨hk, hfa⟩
      dsimp only at hk hfa ⊢
      refine yR ?_
      refine h_op (r_lss rfl rfl) ?_
      refine yN ?_
      refine h_seq ?_
      refine h_cond rfl (fun hlt => ?_) (fun hlt => ?_)
      ·have hk2 : k < cl.length := by omega
       have hx := getD_get zCB hk2
       have hTr := rTrue22_s h3 (ofM l) A1 c1 hv3 (by omega) (cl.getD k zCB).c (cl.getD k zCB).kb (cl.getD k zCB).vb (hK := (hC3.get hk2).1) (hV := (hC3.get hk2).2)
       obtain ⟨b, o', rfl, -⟩ := hA3.at_ (k * 3) _ (cbs_at hx 0 _ rfl)
       rcases f with _ | j0
       ·obtain ⟨tv, htv⟩ : ∃ tv, trueC (ofM l) (cl.getD k zCB).c (cl.getD k zCB).kb (cl.getD k zCB).vb = tv := ⟨_, rfl⟩
        rw [htv] at hTr
        cases tv
        ·refine h_skip ?_
         refine q_then ?_
         refine h_seq ?_
         refine h_block ?_
         refine yR ?_
         refine yM rfl ?_
         refine h_op (r_idx rfl rfl) ?_
         refine h_op (r_nthr rfl (out := (cl.getD k zCB).c.cells) (Claim.cells_length _) (cbs_at hx)) ?_
         refine h_opX (x_alloc) fun g18 => ?_
         refine yS rfl ?_
         refine h_opS (s_storer rfl rfl) ?_
         refine yN ?_
         refine yR ?_
         refine yM rfl ?_
         refine h_op (r_bool (r_lss rfl rfl) (show decide (fv none < 0) = true from rfl)) ?_
         refine yM rfl ?_
         refine yM rfl ?_
         refine h_op (r_loadr rfl) ?_
         refine h_call (hTr.comes) rfl rfl rfl fun _ => ?_
         refine h_op (r_not rfl) ?_
         refine h_op (r_pick rfl rfl) ?_
         refine yN ?_
         refine h_condT rfl ?_
         refine h_reg ?_
         refine yM rfl ?_
         refine yS rfl ?_
         refine h_nil ?_
         refine q_block ?_
         refine q_then ?_
         refine h_reg ?_
         refine h_op (r_add rfl rfl) ?_
         refine yM rfl ?_
         refine h_nil ?_
         exact h_back (k + 1, some k) (⟨hk2, hfa.no htv⟩) ((show cl.length - (k + 1) < cl.length - k by omega)) ⟨rfl, rfl, rfl, rfl, rfl, rfl, rfl, rfl, rfl, rfl, rfl, trivial⟩ (same)
        ·refine h_skip ?_
         refine q_then ?_
         refine h_seq ?_
         refine h_block ?_
         refine yR ?_
         refine yM rfl ?_
         refine h_op (r_idx rfl rfl) ?_
         refine h_op (r_nthr rfl (out := (cl.getD k zCB).c.cells) (Claim.cells_length _) (cbs_at hx)) ?_
         refine h_opX (x_alloc) fun g18 => ?_
         refine yS rfl ?_
         refine h_opS (s_storer rfl rfl) ?_
         refine yN ?_
         refine yR ?_
         refine yM rfl ?_
         refine h_op (r_bool (r_lss rfl rfl) (show decide (fv none < 0) = true from rfl)) ?_
         refine yM rfl ?_
         refine yM rfl ?_
         refine h_op (r_loadr rfl) ?_
         refine h_call (hTr.comes) rfl rfl rfl fun _ => ?_
         refine h_op (r_not rfl) ?_
         refine h_op (r_pick rfl rfl) ?_
         refine yN ?_
         refine h_condF rfl ?_
         refine h_skip ?_
         refine q_block ?_
         refine q_then ?_
         refine h_reg ?_
         refine h_op (r_add rfl rfl) ?_
         refine yM rfl ?_
         refine h_nil ?_
         exact h_back (k + 1, none) (⟨hk2, hfa.yes htv⟩) ((show cl.length - (k + 1) < cl.length - k by omega)) ⟨rfl, rfl, rfl, rfl, rfl, rfl, rfl, rfl, rfl, rfl, rfl, trivial⟩ (same)
       ·refine h_skip ?_
        refine q_then ?_
        refine h_seq ?_
        refine h_block ?_
        refine yR ?_
        refine yM rfl ?_
        refine h_op (r_idx rfl rfl) ?_
        refine h_op (r_nthr rfl (out := (cl.getD k zCB).c.cells) (Claim.cells_length _) (cbs_at hx)) ?_
        refine h_opX (x_alloc) fun g18 => ?_
        refine yS rfl ?_
        refine h_opS (s_storer rfl rfl) ?_
        refine yN ?_
        refine yR ?_
        refine yM rfl ?_
        refine h_op (r_bool (r_lss rfl rfl) (show decide (fv (some j0) < 0) = false from decide_eq_false (by show ¬ ((j0 : Nat) : Int) < 0; omega))) ?_
        refine yM rfl ?_
        refine h_opOff ?_
        refine h_opOff ?_
        refine h_opOff ?_
        refine h_opOff ?_
        refine h_op (r_pick rfl rfl) ?_
        refine yN ?_
        refine h_condF rfl ?_
        refine h_skip ?_
        refine q_block ?_
        refine q_then ?_
        refine h_reg ?_
        refine h_op (r_add rfl rfl) ?_
        refine yM rfl ?_
        refine h_nil ?_
        exact h_back (k + 1, some j0) (⟨hk2, hfa.step⟩) ((show cl.length - (k + 1) < cl.length - k by omega)) ⟨rfl, rfl, rfl, rfl, rfl, rfl, rfl, rfl, rfl, rfl, rfl, trivial⟩ (same)
      ·obtain rfl : k = cl.length := by omega
       refine h_exit ?_
       refine q_thenE ?_
       refine q_thenE ?_
       refine q_blockE ?_
       refine q_then ?_
       refine h_seq ?_
       refine yR ?_
       refine yM rfl ?_
       refine h_op (r_bool (r_neq rfl rfl) rfl) ?_
       refine yM rfl ?_
       refine h_opOff ?_
       refine h_opOff ?_
       refine h_op (r_pick rfl rfl) ?_
       refine yN ?_
       refine h_condT rfl ?_
       refine yR ?_
       refine h_call ((alive22_s h3).comes) rfl rfl rfl fun ⟨h4, hz4⟩ => ?_
       dsimp only
       refine yM rfl ?_
       refine yM rfl ?_
       refine h_op (r_not rfl) ?_
       refine h_op (r_pick rfl rfl) ?_
       refine yM rfl ?_
       refine yM rfl ?_
       refine h_op (r_len rfl) ?_
       refine h_op (r_bool (r_eql rfl rfl) rfl) ?_
       refine h_op (r_pick rfl rfl) ?_
       refine yM rfl ?_
       refine yM rfl ?_
       refine h_op (r_len rfl) ?_
       refine h_op (r_bool (r_eql rfl rfl) rfl) ?_
       refine h_op (r_pick rfl rfl) ?_
       refine yS rfl ?_
       refine yN ?_
       refine h_ret ?_
       refine q_thenR ?_
       exact h_ret1 rfl rfl fun w s => ⟨⟨h4, hz03.trans hz4⟩, rfl, (same (L' := [.zone true h4]) w s).res (List.Sublist.refl _) (by simp [Fa.wr])⟩
    ·rw [if_neg hil] at hFi
     refine yS rfl ?_
     refine yN ?_
     refine h_seq ?_
     refine yR ?_
     refine yM rfl ?_
     refine h_op (r_not rfl) ?_
     refine yM rfl ?_
     refine h_op (r_field rfl) ?_
     refine h_op (r_loadc rfl) ?_
     refine h_call (hFw.comes) rfl rfl rfl fun _ => ?_
     refine h_op (r_not rfl) ?_
     refine h_op (r_pick rfl rfl) ?_
     refine yM rfl ?_
     refine h_op (r_field rfl) ?_
     refine h_op (r_loadc rfl) ?_
     refine h_call (hFi.comes) rfl rfl rfl fun _ => ?_
     refine h_op (r_bool (r_eql rfl rfl) rfl) ?_
     refine h_op (r_pick rfl rfl) ?_
     refine yN ?_
     refine h_condT rfl ?_
     refine yR ?_
     refine h_call ((alive22_s h2).comes) rfl rfl rfl fun ⟨h3, hz3⟩ => ?_
     dsimp only
     refine yS rfl ?_
     refine yN ?_
     refine h_ret ?_
     refine q_thenR ?_
     exact h_ret1 rfl rfl fun w s => ⟨⟨h3, hz02.trans hz3⟩, rfl, (same (L' := [.zone true h3]) w s).res (List.Sublist.refl _) (by simp [Fa.wr])⟩
   ·have hFw := hFw h2 hz02
    rw [show fewC cl = false by simpa using hfc] at hFw
    refine yS rfl ?_
    refine yN ?_
    refine h_seq ?_
    refine yR ?_
    refine yM rfl ?_
    refine h_op (r_not rfl) ?_
    refine yM rfl ?_
    refine h_op (r_field rfl) ?_
    refine h_op (r_loadc rfl) ?_
    refine h_call (hFw.comes) rfl rfl rfl fun _ => ?_
    refine h_op (r_not rfl) ?_
    refine h_op (r_pick rfl rfl) ?_
    refine yM rfl ?_
    refine h_opOff ?_
    refine h_opOff ?_
    refine h_opOff ?_
    refine h_opOff ?_
    refine h_op (r_pick rfl rfl) ?_
    refine yN ?_
    refine h_condT rfl ?_
    refine yR ?_
    refine h_call ((alive22_s h2).comes) rfl rfl rfl fun ⟨h3, hz3⟩ => ?_
    dsimp only
    refine yS rfl ?_
    refine yN ?_
    refine h_ret ?_
    refine q_thenR ?_
    exact h_ret1 rfl rfl fun w s => ⟨⟨h3, hz02.trans hz3⟩, rfl, (same (L' := [.zone true h3]) w s).res (List.Sublist.refl _) (by simp [Fa.wr])⟩
  ·refine h_seq ?_
   refine h_reg ?_
   refine h_opX (x_box rfl) fun g5 => ?_
   refine yS rfl ?_
   refine yN ?_
   refine yR ?_
   refine yM rfl ?_
   refine yM rfl ?_
   refine h_call ((Tree_few n hn l B c' (by simpa using hf)).comes) rfl rfl rfl fun _ => ?_
   refine yM rfl ?_
   refine h_op (r_extract rfl rfl) ?_
   refine h_op (r_extract rfl rfl) ?_
   refine h_op (r_extract rfl rfl) ?_
   refine yS rfl ?_
   refine yS rfl ?_
   refine yS rfl ?_
   refine yN ?_
   refine yR ?_
   refine yM rfl ?_
   refine h_call ((Hash_s n hn).comes) rfl rfl rfl fun ⟨gh, gc⟩ => ?_
   dsimp only
   refine yS rfl ?_
   refine yN ?_
   refine h_seq ?_
   refine yR ?_
   refine yM rfl ?_
   refine h_op (r_not rfl) ?_
   refine yM rfl ?_
   refine h_opOff ?_
   refine h_opOff ?_
   refine h_opOff ?_
   refine h_opOff ?_
   refine h_op (r_pick rfl rfl) ?_
   refine yM rfl ?_
   refine h_opOff ?_
   refine h_opOff ?_
   refine h_opOff ?_
   refine h_opOff ?_
   refine h_op (r_pick rfl rfl) ?_
   refine yN ?_
   refine h_condT rfl ?_
   refine yR ?_
   refine h_call ((alive22_s h).comes) rfl rfl rfl fun ⟨h3, hz3⟩ => ?_
   dsimp only
   refine yS rfl ?_
   refine yN ?_
   refine h_ret ?_
   refine q_thenR ?_
   exact h_ret1 rfl rfl fun w s => ⟨⟨h3, hz3⟩, rfl, (same (L' := [.zone true h3]) w s).res (List.Sublist.refl _) (by simp [Fa.wr])⟩
 ·refine h_seq ?_
  refine h_reg ?_
  refine h_opX (x_box rfl) fun g5 => ?_
  refine yS rfl ?_
  refine yN ?_
  refine yR ?_
  refine yM rfl ?_
  refine yM rfl ?_
  refine h_call ((Tree_bits i hi l B c').comes) rfl rfl rfl fun _ => ?_
  refine yM rfl ?_
  refine h_op (r_extract rfl rfl) ?_
  refine h_op (r_extract rfl rfl) ?_
  refine h_op (r_extract rfl rfl) ?_
  refine yS rfl ?_
  refine yS rfl ?_
  refine yS rfl ?_
  refine yN ?_
  refine yR ?_
  refine yM rfl ?_
  refine h_call ((Hash_no i hi).comes) rfl rfl rfl fun _ => ?_
  refine yS rfl ?_
  refine yN ?_
  refine h_seq ?_
  refine yR ?_
  refine yM rfl ?_
  refine h_op (r_not rfl) ?_
  refine yM rfl ?_
  refine h_opOff ?_
  refine h_opOff ?_
  refine h_opOff ?_
  refine h_opOff ?_
  refine h_op (r_pick rfl rfl) ?_
  refine yM rfl ?_
  refine h_opOff ?_
  refine h_opOff ?_
  refine h_opOff ?_
  refine h_opOff ?_
  refine h_op (r_pick rfl rfl) ?_
  refine yN ?_
  refine h_condT rfl ?_
  refine yR ?_
  refine h_call ((alive22_s h).comes) rfl rfl rfl fun ⟨h3, hz3⟩ => ?_
  dsimp only
  refine yS rfl ?_
  refine yN ?_
  refine h_ret ?_
  refine q_thenR ?_
  exact h_ret1 rfl rfl fun w s => ⟨⟨h3, hz3⟩, rfl, (same (L' := [.zone true h3]) w s).res (List.Sublist.refl _) (by simp [Fa.wr])⟩
end
end Go.Proofs.YtjhocljhhpkiiaaGreatDoor
/- TF -/
namespace Go.Proofs.YtjhocljhhpkiiaaGreatDoor
open Go.RowKit Go.ChangeShapes Go.WideShapes
theorem sf_maps : mapsRowed Tryz.prog = true := by kernel_rfl
theorem sf_enter : Tryz.prog.mayEnter = true := by kernel_rfl
theorem sf_keys : Tryz.prog.plainKeys = true := by kernel_rfl
theorem sf_heard : Tryz.prog.stopsHeard = true := by kernel_rfl
theorem sf_lifts : Tryz.prog.liftsFinal = false := by kernel_rfl
theorem sf_looks : Tryz.prog.looks [] = true := by kernel_rfl
theorem beqT {a b c : Bool} (ha : a = c) (hb : b = c) : (a == b) = true := by rw [ha, hb]; exact beq_self_eq_true c
theorem andT {a b : Bool} (ha : a = true) (hb : b = true) : (a && b) = true := by rw [ha, hb]; rfl
end Go.Proofs.YtjhocljhhpkiiaaGreatDoor
