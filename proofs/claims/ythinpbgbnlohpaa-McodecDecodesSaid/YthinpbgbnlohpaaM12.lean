/- mcodec.Decode. -/
import Derived.Test.YthinpbgbnlohpaaD1
import Derived.WalkMore
namespace Go.Proofs.Ythinpbgbnlohpaa
set_option linter.unusedSimpArgs false
set_option linter.unusedVariables false
open Go.RowKit
attribute [local irreducible] wpStill wpList
def cntK (l : List UInt8) (k : Nat) : Nat := ((l.drop 2).take k).foldl (fun c b => c * 256 + b.toNat) 0
theorem cntK_succ (l : List UInt8) (k : Nat) (h : 2 + k < l.length) : cntK l (k + 1) = cntK l k * 256 + (l.getD (2 + k) 0).toNat := by
  unfold cntK
  rw [List.take_add_one, List.foldl_append]
  have : (l.drop 2)[k]? = some (l.getD (2 + k) 0) := by rw [List.getElem?_drop]; simp [List.getD, h]
  rw [this]
  rfl
theorem cntK_lt (l : List UInt8) (h : 6 ≤ l.length) : ∀ k, k ≤ 4 → cntK l k < 256 ^ k
  | 0, _ => by simp [cntK]
  | k + 1, hk => by
    rw [cntK_succ l k (by omega)]
    have := cntK_lt l h k (by omega)
    have hb := (l.getD (2 + k) 0).toNat_lt
    rw [Nat.pow_succ]
    omega
theorem cntK_four (l : List UInt8) (h : 6 ≤ l.length) : cntK l 4 = cntM l := by
  rw [cntK_succ l 3 (by omega), cntK_succ l 2 (by omega), cntK_succ l 1 (by omega), cntK_succ l 0 (by omega)]
  have : cntK l 0 = 0 := by simp [cntK]
  rw [this]
  simp only [cntM, show 2 + 0 = 2 from rfl, show 2 + 1 = 3 from rfl, show 2 + 2 = 4 from rfl, show 2 + 3 = 5 from rfl]
  omega
theorem payN_1 {x : UInt8} (h : (x.toNat : Int) = 1) : payN x = 64 := by unfold payN payloadF; rw [if_pos h]; rfl
theorem payN_3 {x : UInt8} (h : (x.toNat : Int) = 3) : payN x = 32 := by unfold payN payloadF; rw [h]; rfl
theorem u8_eq {b c : UInt8} (h : (b.toNat : Int) = (c.toNat : Int)) : b = c := UInt8.toNat_inj.1 (by omega)
set_option maxRecDepth 100000 in
set_option maxHeartbeats 1000000 in
theorem Decode_any (l : List UInt8) (A : Option Addr) (cap : Nat) (hl : l.length ≤ 100000) (hcap : l.length ≤ cap) (w : World) (hr : Rd w A (bc l)) :
    Calls Try.prog 18 #[.slice A l.length cap] w (DecPost l w) := by
  by_cases h6 : l.length < 6
  · have hres := Lib.hid (show decRes l = (5, []) by unfold decRes; rw [if_pos h6])
    go_enter Try.func18, Try.ntmps18
    go_wp2_with fail
    go_step3
    go_wp2_with fail
    rw [Exit.noGoto_ret]
    go_ret2
    exact DecPost.bad hres.out (brefl _)
  · obtain ⟨b, o, rfl, hblt, hrg⟩ := hr.open_ (by rw [bc_length]; omega)
    have hcell : ∀ k, k < l.length → w.cell? ⟨b, o + k, none⟩ = some (.int .u8 (l.getD k 0).toNat) := fun k hk => hrg k _ (bc_get l k hk)
    have hc0 := hcell 0 (by omega)
    have hc1 := hcell 1 (by omega)
    rw [Nat.add_zero] at hc0
    by_cases h0 : l.getD 0 0 ≠ 1
    · have hres := Lib.hid (show decRes l = (6, []) by unfold decRes; rw [if_neg h6, if_pos h0])
      have hne : (((l.getD 0 0).toNat : Int) != 1) = true := by
        rw [bne_iff_ne]; intro hh; exact h0 (u8_eq (c := 1) hh)
      clear h0
      generalize l.getD 0 0 = b0 at *
      go_enter Try.func18, Try.ntmps18
      go_wp2_with fail; go_step3
      go_wp2_with fail
      rw [Exit.noGoto_ret]
      go_ret2
      exact DecPost.bad hres.out (brefl _)
    · by_cases h1 : l.getD 1 0 ≠ 2
      · have hres := Lib.hid (show decRes l = (7, []) by unfold decRes; rw [if_neg h6, if_neg h0, if_pos h1])
        have hne : (((l.getD 1 0).toNat : Int) != 2) = true := by
          rw [bne_iff_ne]; intro hh; exact h1 (u8_eq (c := 2) hh)
        have h0' : l.getD 0 0 = 1 := by simpa using h0
        rw [h0'] at hc0
        clear h0 h1 h0'
        generalize l.getD 1 0 = b1 at *
        go_enter Try.func18, Try.ntmps18
        go_wp2_with fail; go_step3
        go_wp2_with fail
        rw [Exit.noGoto_ret]
        go_ret2
        exact DecPost.bad hres.out (brefl _)
      · have h0' : l.getD 0 0 = 1 := by simpa using h0
        have h1' : l.getD 1 0 = 2 := by simpa using h1
        rw [h0'] at hc0
        rw [h1'] at hc1
        have H0 := Lib.hid h0; have H1 := Lib.hid h1; have H6 := Lib.hid h6
        clear h0 h1 h0' h1'
        go_enter Try.func18, Try.ntmps18
        go_wp2_with fail; go_step3
        go_wp2_with fail
        go_loopw [4, 28] (fun c i wr => ∃ k : Nat, k ≤ 4 ∧ i = .int .i64 k ∧ c = .int .i64 (cntK l k) ∧ wr = w) (fun _ i _ => 4 - (intOf i).toNat)
        case atStart => exact ⟨0, by omega, rfl, by simp [cntK], rfl⟩
        case round =>
          obtain ⟨k, hk, rfl, rfl, hw⟩ := hrel
          obtain rfl := hw.symm
          by_cases hlt : k < 4
          · have hck := hcell (2 + k) (by omega)
            rw [← Nat.add_assoc] at hck
            have HC := Lib.hid (cntK_succ l k (by omega))
            have hclt : cntK l k < 4294967296 := Nat.lt_of_lt_of_le (cntK_lt l (by omega) k hk) (Nat.pow_le_pow_right (by omega) hk)
            have hb := (l.getD (2 + k) 0).toNat_lt
            have HO := Lib.hid (i64_or_byte (cntK l k) (l.getD (2 + k) 0).toNat hclt (by omega))
            generalize cntK l k = c at *
            generalize l.getD (2 + k) 0 = x at *
            clear hcell
            go_wp2_with fail
            refine ⟨⟨k + 1, by omega, by go_num, ?_, trivial⟩, by simp [intOf]; omega⟩
            rw [HC.out, HO.out]
          · obtain rfl : k = 4 := by omega
            have hA := cut_Rd (i := 6) (size := 1) hr (by rw [bc_length, Nat.mul_one]) hcap (by omega)
            rw [Nat.mul_one, ← bc_drop] at hA
            have hcnt := cntK_four l (by omega)
            rw [hcnt]
            have hcm : cntM l < 4294967296 := by
              rw [← hcnt]; exact cntK_lt l (by omega) 4 (by omega)
            clear hcnt hcell hc0 hc1 hlt
            generalize hc' : cntM l = cm at *
            have HCM := Lib.hid hc'; clear hc'
            go_wp2_with ((with_reducible refine gSlice ?_); refine wpl_run rfl (cutN_l 6 rfl Try.underlying25 size5 rfl rfl (by omega)) ?_)
            go_step3
            go_wp2_with fail
            go_loopw [7, 8] (fun v s wr => ∃ (k : Nat) (o : List Item) (A1 : Option Addr) (c1 : Nat), k ≤ l.length ∧ l.length - k ≤ c1 ∧ s = .slice A1 (l.length - k) c1 ∧ Rd w A1 (bc (l.drop k)) ∧ o.length ≤ k ∧ wr.ownsRow w.heap.size 61 97 v o.length (o.flatMap Item.cells) ∧ full (l.drop 6) = (full (l.drop k)).map (o ++ ·) ∧ Below w.heap.size w wr) (fun _ s _ => match s with | .slice _ n _ => n | _ => 0)
            case atStart => exact ⟨6, [], _, cap - 6, by omega, by omega, rfl, hA, by simp, own_nil _ _ _ _, by simp, brefl _⟩
            case round =>
              obtain ⟨k, o, A1, c1, hk, hc1, rfl, hRR, hok, hown, hf, hb⟩ := hrel
              have hR := hRR.below hb
              have HF := Lib.hid hf; clear hf
              have HOWN := Lib.hid hown
              obtain ⟨A2, c2, rfl, hc2, hR2⟩ := own_Rd hown
              clear hown hA
              by_cases hlt : k < l.length
              · by_cases hcnt : o.length < cm
                · have hlenk : (bc (l.drop k)).length = l.length - k := by rw [bc_length, List.length_drop]
                  have hR1 := cut_Rd (i := 1) (size := 1) hR (by rw [hlenk, Nat.mul_one]) hc1 (by omega)
                  have hdr : l.drop k = l.getD k 0 :: l.drop (k + 1) := by
                    rw [List.drop_eq_getElem_cons hlt]; simp [List.getD, hlt]
                  rw [hdr] at hR
                  obtain ⟨b1, o1, rfl, _, hrg1⟩ := hR.open_ (by rw [bc_length]; simp)
                  have hcx : wr.cell? ⟨b1, o1, none⟩ = some (.int .u8 (l.getD k 0).toNat) := hrg1 0 _ (by simp [bc])
                  have HST := Lib.hid (full_step HF.out hlt)
                  have hple := payN_le (l.getD k 0)
                  have PL := payload_any (l.getD k 0).toNat wr
                  rw [payN_eq] at PL
                  have hx1 : ((l.getD k 0).toNat : Int) = 1 → payN (l.getD k 0) = 64 := fun h => payN_1 h
                  have hx3 : ((l.getD k 0).toNat : Int) = 3 → payN (l.getD k 0) = 32 := fun h => payN_3 h
                  clear hdr hR hrg1
                  generalize l.getD k 0 = x at *
                  generalize payN x = p at *
                  have hx256 : x.toNat < 256 := x.toNat_lt
                  by_cases hfit : l.length - (k + 1) < p
                  · have hres := Lib.hid (decRes_bad (HST.out.trans (if_pos hfit)) H6.out H0.out H1.out)
                    clear hx1 hx3
                    go_wp2_with fail
                    refine PL.mono ?_
                    rintro e w3 ⟨rfl, rfl⟩
                    go_wp2_with fail
                    rw [Exit.noGoto_ret]
                    go_ret2
                    exact DecPost.bad hres.out hb
                  · have HNEW := Lib.hid (HST.out.trans (if_neg hfit))
                    have hlp : ((l.drop (k + 1)).take p).length = p := by simp; omega
                    have IT := item_any x.toNat ((l.drop (k + 1)).take p) (cutA (some ⟨b1, o1, none⟩) c1 1 1) (c1 - 1) (by rw [hlp]; omega) (by rw [hlp]; omega) (fun h => by rw [hlp]; exact Nat.le_of_eq (hx1 h).symm) (fun h => by rw [hlp]; exact Nat.le_of_eq (hx3 h).symm) wr (by
                      have := hR1.take_ p
                      rw [Nat.mul_one, ← bc_drop, ← bc_take, List.drop_drop] at this
                      exact this)
                    rw [hlp] at IT
                    have hR2' := cut_Rd (i := 1 + p) (size := 1) hRR (by rw [hlenk, Nat.mul_one]) hc1 (by omega)
                    rw [Nat.mul_one, ← bc_drop, List.drop_drop] at hR2'
                    have HR2 := Lib.hid hR2'
                    clear hx1 hx3 hR1 hR2' hRR hlp hR2
                    go_wp2_with fail
                    refine PL.mono ?_
                    rintro e w3 ⟨rfl, rfl⟩
                    go_wp2_with ((with_reducible refine gSlice ?_); refine wpl_run rfl (cutN_lh 1 (1 + p) rfl Try.underlying25 size5 rfl rfl (by rw [show ((1 + p : Nat) : Int) = 1 + (p : Int) by omega]; rfl) (by omega) (by omega)) ?_; rw [Nat.add_sub_cancel_left])
                    refine IT.mono ?_
                    rintro e w4 ⟨rfl, hb4⟩
                    have HO := Lib.hid (own_below HOWN.out hb4)
                    have HB := bthen hb hb4
                    generalize itemOf (x.toNat : Int) ((l.drop (k + 1)).take p) 0 = y at *
                    clear HOWN hb hb4 hc2
                    go_wp2_with (first | ((with_reducible refine gBuildSlice ?_); refine wplBuildRows rfl elI (parts := [(0, _)]) rfl Item.cells_length [y] rfl (by omega) (by omega) rfl ?_) | (at_builtin; refine wplAppend rfl _ _ rfl elI rfl (own_alloc HO.out _) rfl (fun h => by cases h) (by simp [Item.cells_length]) (Rd_at _ _ ([y].flatMap Item.cells) _ (by simp)) (by intro u hu; simp only [List.flatMap_cons, List.flatMap_nil, List.append_nil] at hu; exact Item.cells_one _ u hu) (by omega) (balloc HB _).size ?_; intro va wa hoa hga; replace HB := grow_below (balloc HB _) (own_alloc HO.out _) hga (Nat.le_refl _) (balloc HB _).size; replace HO := Lib.hid hoa; clear hoa hga) | ((with_reducible refine gSlice ?_); refine wpl_run rfl (cutN_l (1 + p) rfl Try.underlying25 size5 rfl (by rw [show ((1 + p : Nat) : Int) = 1 + (p : Int) by omega]; rfl) (by omega)) ?_))
                    have HOo := HO.out
                    refine ⟨⟨k + (1 + p), o ++ [y], cutA (some ⟨b1, o1, none⟩) c1 (1 + p) 1, c1 - (1 + p), by omega, by omega, by rw [Nat.sub_sub], HR2.out, by simp; omega, by simpa using HOo, ?_, HB⟩, ?_⟩
                    · rw [HNEW.out, Nat.add_assoc]
                    · simp
                      omega
                · have hres := Lib.hid (decRes_over HF.out hlt (by rw [HCM.out]; omega) H6.out H0.out H1.out)
                  go_wp2_with fail
                  rw [Exit.noGoto_ret]
                  go_ret2
                  exact DecPost.bad hres.out hb
              · have hfull := Lib.hid (full_done HF.out (by omega))
                have hres0 := Lib.hid (decRes_some hfull.out H6.out H0.out H1.out)
                by_cases hne : o.length = cm
                · have CK := Check_any o A2 c2 (by omega) hc2 wr hR2
                  by_cases hck : checkM o = 0
                  · have hres := Lib.hid (show decRes l = (0, o) by rw [hres0.out, if_pos ⟨by rw [HCM.out]; exact hne, hck⟩])
                    rw [hck] at CK
                    clear hck
                    subst hne
                    go_wp2_with fail
                    refine CK.mono ?_
                    rintro e w3 ⟨rfl, hb3⟩
                    go_wp2_with fail
                    rw [Exit.noGoto_ret]
                    go_ret2
                    exact DecPost.good hres.out (own_below HOWN.out hb3) (bthen hb hb3)
                  · have hres := Lib.hid (show decRes l = (5, []) by rw [hres0.out, if_neg (fun hh => hck hh.2)])
                    have hckb : (checkM o != 0) = true := by simpa using hck
                    clear hck
                    subst hne
                    go_wp2_with fail
                    refine CK.mono ?_
                    rintro e w3 ⟨rfl, hb3⟩
                    go_wp2_with fail
                    rw [Exit.noGoto_ret]
                    go_ret2
                    exact DecPost.bad hres.out (bthen hb hb3)
                · have hres := Lib.hid (show decRes l = (5, []) by rw [hres0.out, if_neg (fun hh => hne (by rw [← HCM.out]; exact hh.1))])
                  have hneb : ((o.length : Int) != (cm : Int)) = true := by rw [bne_iff_ne]; omega
                  clear hne
                  go_wp2_with fail
                  rw [Exit.noGoto_ret]
                  go_ret2
                  exact DecPost.bad hres.out hb
end Go.Proofs.Ythinpbgbnlohpaa
