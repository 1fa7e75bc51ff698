/- the reference's Decode of multiproofs. -/
import Derived.Test.YthinpbgbnlohpaaM12
import Derived.Test.YthinpbgbnlohpaaM7
import Derived.Laws.Runes
namespace Go.Proofs.Ythinpbgbnlohpaa
set_option linter.unusedSimpArgs false
set_option linter.unusedVariables false
open Go.RowKit
attribute [local irreducible] wpStill wpList
theorem blk_lt {w : World} {g : Nat} {o : Obj} (h : w.heap[g]? = some o) : g < w.heap.size := (Array.getElem?_eq_some_iff.1 h).1
theorem own_belowB {w w1 : World} {B base : Nat} {e : TypeId} {size n : Nat} {v : Value} {xs : List Value} (h : w.ownsRow base e size v n xs) (hb : Below B w w1) (hv : ∀ k, v.ownBlock = some k → k < B) : w1.ownsRow base e size v n xs := by
  refine ⟨h.1, ?_⟩
  rcases h.2 with hn | ⟨g, cap, cur, rfl, hb', hgg, rest⟩
  · exact .inl hn
  · refine .inr ⟨g, cap, cur, rfl, hb', ?_, rest⟩
    rw [hb.block g (hv g rfl)]
    exact hgg
theorem part_cut (l : List UInt8) (i p j : Nat) (hj : j + 32 ≤ p) (hp : i + p ≤ l.length) : part32 ((l.drop i).take p) j = part32 l (i + j) := by
  apply Subtype.ext
  rw [part32_val _ _ (by simp; omega), part32_val _ _ (by omega)]
  rw [List.drop_take, List.drop_drop, List.take_take]
  congr 1
  omega
set_option maxRecDepth 100000 in
set_option maxHeartbeats 1000000 in
theorem refDecode_any (l : List UInt8) (A : Option Addr) (cap : Nat) (hl : l.length ≤ 100000) (w : World) (hr : Rd w A (bc l)) :
    Calls Try.prog 21 #[.slice A l.length cap] w (DecPost l w) := by
  by_cases h6 : l.length < 6
  · have hres := Lib.hid (show decRes l = (5, []) by unfold decRes; rw [if_pos h6])
    go_enter Try.func21, Try.ntmps21
    go_wp2
    go_ret2
    exact DecPost.bad hres.out (brefl _)
  · obtain ⟨b, o, rfl, hblt, hrg⟩ := hr.open_ (by rw [bc_length]; omega)
    have hcell : ∀ k, k < l.length → w.cell? ⟨b, o + k, none⟩ = some (.int .u8 (l.getD k 0).toNat) := fun k hk => hrg k _ (bc_get l k hk)
    have hc0 := hcell 0 (by omega)
    have hc1 := hcell 1 (by omega)
    rw [Nat.add_zero] at hc0
    by_cases h0 : l.getD 0 0 ≠ 1
    · have hres := Lib.hid (show decRes l = (6, []) by unfold decRes; rw [if_neg h6, if_pos h0])
      have hne : (((l.getD 0 0).toNat : Int) != 1) = true := by
        rw [bne_iff_ne]; intro hh; exact h0 (u8_eq (c := 1) hh)
      clear h0
      generalize l.getD 0 0 = b0 at *
      go_enter Try.func21, Try.ntmps21
      go_wp2
      go_ret2
      exact DecPost.bad hres.out (brefl _)
    · by_cases h1 : l.getD 1 0 ≠ 2
      · have hres := Lib.hid (show decRes l = (7, []) by unfold decRes; rw [if_neg h6, if_neg h0, if_pos h1])
        have hne : (((l.getD 1 0).toNat : Int) != 2) = true := by
          rw [bne_iff_ne]; intro hh; exact h1 (u8_eq (c := 2) hh)
        have h0' : l.getD 0 0 = 1 := by simpa using h0
        rw [h0'] at hc0
        clear h0 h1 h0'
        generalize l.getD 1 0 = b1 at *
        go_enter Try.func21, Try.ntmps21
        go_wp2
        go_ret2
        exact DecPost.bad hres.out (brefl _)
      · have h0' : l.getD 0 0 = 1 := by simpa using h0
        have h1' : l.getD 1 0 = 2 := by simpa using h1
        rw [h0'] at hc0
        rw [h1'] at hc1
        have H0 := Lib.hid h0; have H1 := Lib.hid h1; have H6 := Lib.hid h6
        clear h0 h1 h0' h1'
        go_enter Try.func21, Try.ntmps21
        go_wp2
        clear hc0 hc1
        go_loopw [4, 5] (fun v i wr => ∃ (k : Nat) (it : List Item), 6 ≤ k ∧ k ≤ l.length ∧ i = .int .i64 k ∧ it.length ≤ k ∧ wr.ownsRow w.heap.size 61 97 v it.length (it.flatMap Item.cells) ∧ full (l.drop 6) = (full (l.drop k)).map (it ++ ·) ∧ Below w.heap.size w wr) (fun _ i _ => l.length - (intOf i).toNat)
        case atStart => exact ⟨6, [], by omega, by omega, rfl, by simp, own_nil _ _ _ _, by simp, brefl _⟩
        case round =>
          obtain ⟨k, it, hk6, hk, rfl, hit, hown, hf, hb⟩ := hrel
          have HF := Lib.hid hf; clear hf
          have HOWN := Lib.hid hown; clear hown
          by_cases hlt : k < l.length
          · have hcx : wr.cell? ⟨b, o + k, none⟩ = some (.int .u8 (l.getD k 0).toNat) := (hb.cell (by simpa using hblt)).trans (hcell k hlt)
            have HST := Lib.hid (full_step HF.out hlt)
            have PT : ∀ (j : Int) (i : Nat) (wv : World), j = (i : Int) → i + 32 ≤ l.length → Below w.heap.size w wv → Calls Try.prog 37 #[.slice (some ⟨b, o, none⟩) l.length cap, .int .i64 j] wv fun e w' => e = .returned (.agg (part32 l i).cells.toArray) ∧ Below wv.heap.size wv w' := fun j i wv hj hi hbv => by
              subst hj; exact Part_any l _ cap i (by omega) hi wv ((Rd.mk hrg).below hbv)
            generalize l.getD k 0 = x at *
            have hx256 : x.toNat < 256 := x.toNat_lt
            by_cases k1 : (x.toNat : Int) = 1
            · rw [payN_1 k1] at HST
              rw [k1] at hcx
              have HX := Lib.hid k1; clear k1 hcell
              by_cases hfit : l.length - (k + 1) < 64
              · have hres := Lib.hid (decRes_bad (HST.out.trans (if_pos hfit)) H6.out H0.out H1.out)
                have HBg := balloc (brefl wr) (.cells (Item.cells ⟨1, zB32, zLeaf⟩).toArray 61)
                have hk0 : (wr.alloc (.cells (Item.cells ⟨1, zB32, zLeaf⟩).toArray 61)).cell? ⟨wr.heap.size, 0, none⟩ = some (.int .i64 1) := by simp [Item.cells]
                go_wp2_with (first | ((with_reducible refine gBuild (T := 61) ?_); refine wpl_runG ?_ (exItem0 rfl rfl) ?_; (focus (simp [Region.wanted, yielded]; done))) | ((with_reducible refine gAlloc (T := 61) ?_); refine copyItem rfl rfl rfl _ rfl _ rfl rfl _ rfl rfl ?_))
                go_ret2
                exact DecPost.bad hres.out (bthen hb HBg)
              · have HNEW := Lib.hid (HST.out.trans (if_neg hfit))
                have HBg := balloc (brefl wr) (.cells (Item.cells ⟨1, zB32, zLeaf⟩).toArray 61)
                have HG := Lib.hid (heap_alloc_new wr (.cells (Item.cells ⟨1, zB32, zLeaf⟩).toArray 61))
                have hk0 : (wr.alloc (.cells (Item.cells ⟨1, zB32, zLeaf⟩).toArray 61)).cell? ⟨wr.heap.size, 0, none⟩ = some (.int .i64 1) := by simp [Item.cells]
                go_wp2_with (first | ((with_reducible refine gBuild (T := 61) ?_); refine wpl_runG ?_ (exItem0 rfl rfl) ?_; (focus (simp [Region.wanted, yielded]; done))) | ((with_reducible refine gAlloc (T := 61) ?_); refine copyItem rfl rfl rfl _ rfl _ rfl rfl _ rfl rfl ?_))
                refine (PT _ (k + 1) _ ?_ (by omega) (bthen hb HBg)).mono ?_
                · omega
                rintro e w3 ⟨rfl, hb3⟩
                replace HG := Lib.hid ((hb3.block _ (by simp)).trans HG.out)
                replace HBg := bthen HBg hb3
                clear hb3 hk0
                go_wp2_with fail
                refine (PT _ (k + 1 + 32) _ ?_ (by omega) (bthen hb HBg)).mono ?_
                · omega
                rintro e w4 ⟨rfl, hb4⟩
                replace HG := Lib.hid ((hb4.block _ (blk_lt HG.out)).trans HG.out)
                replace HBg := bthen HBg hb4
                clear hb4
                have hit1 := Lib.hid (show itemOf (x.toNat : Int) ((l.drop (k + 1)).take 64) 0 = ⟨1, zB32, ⟨part32 l (k + 1), part32 l (k + 1 + 32)⟩⟩ by
                  unfold itemOf
                  rw [if_pos HX.out, part_cut l (k + 1) 64 0 (by omega) (by omega), part_cut l (k + 1) 64 (0 + 32) (by omega) (by omega)])
                rw [hit1.out] at HNEW
                generalize part32 l (k + 1) = p1 at *
                generalize part32 l (k + 1 + 32) = p2 at *
                go_wp2_with (first | ((with_reducible refine gBuild (T := 45) ?_); refine wpl_runG ?_ (exLeaf01 rfl rfl rfl) ?_; (focus (simp [Region.wanted, yielded]; done))) | ((with_reducible refine gStore (T := 45) ?_); refine wplStoreMid rfl rfl rfl (cs := (Leaf.cells ⟨p1, p2⟩)) rfl HG.out (by rw [Leaf.cells_length]; exact size45) (by rw [Leaf.cells_length, List.size_toArray, Item.cells_length]; omega) (Leaf.cells_one _) ?_; intro w2 h21 h22 h23 h24; rw [Item.set2] at h21; replace HG := Lib.hid h21; replace HBg := h24 _ _ HBg (Nat.le_refl _); have hk0 := (blk_cells h21).1 0; rw [Item.cells_at0] at hk0; clear h21 h22 h23 h24) | ((with_reducible refine gLoad (T := 61) ?_); refine wLoadItem _ rfl ?_ _ _ rfl _ (blk_range HG.out) ?_; (focus (simp [Region.wanted, yielded]; done)); have HO := Lib.hid (own_below HOWN.out HBg); have HB := bthen hb HBg) | ((with_reducible refine gBuildSlice ?_); refine wplBuildRows rfl elI (parts := [(0, _)]) rfl Item.cells_length [⟨1, zB32, ⟨p1, p2⟩⟩] rfl (by omega) (by omega) rfl ?_) | (at_builtin; refine wplAppend rfl _ _ rfl elI rfl (own_alloc HO.out _) rfl (fun h => by cases h) (by simp [Item.cells_length]) (Rd_at _ _ ([(⟨1, zB32, ⟨p1, p2⟩⟩ : Item)].flatMap Item.cells) _ (by simp)) (by intro u hu; simp only [List.flatMap_cons, List.flatMap_nil, List.append_nil] at hu; exact Item.cells_one _ u hu) (by omega) (balloc HB _).size ?_; intro va wa hoa hga; replace HB := grow_below (balloc HB _) (own_alloc HO.out _) hga (Nat.le_refl _) (balloc HB _).size; replace HO := Lib.hid hoa; clear hoa hga))
                have HOo := HO.out
                refine ⟨⟨k + 1 + 64, it ++ [⟨1, zB32, ⟨p1, p2⟩⟩], by omega, by omega, by go_num, by simp; omega, by simpa using HOo, HNEW.out, HB⟩, by simp [intOf]; omega⟩
            · by_cases k3 : (x.toNat : Int) = 3
              · rw [payN_3 k3] at HST
                rw [k3] at hcx
                have HX := Lib.hid k3; clear k1 k3 hcell
                have HBg := balloc (brefl wr) (.cells (Item.cells ⟨3, zB32, zLeaf⟩).toArray 61)
                have HG := Lib.hid (heap_alloc_new wr (.cells (Item.cells ⟨3, zB32, zLeaf⟩).toArray 61))
                have hk0 : (wr.alloc (.cells (Item.cells ⟨3, zB32, zLeaf⟩).toArray 61)).cell? ⟨wr.heap.size, 0, none⟩ = some (.int .i64 3) := by simp [Item.cells]
                by_cases hfit : l.length - (k + 1) < 32
                · have hres := Lib.hid (decRes_bad (HST.out.trans (if_pos hfit)) H6.out H0.out H1.out)
                  go_wp2_with (first | ((with_reducible refine gBuild (T := 61) ?_); refine wpl_runG ?_ (exItem0 rfl rfl) ?_; (focus (simp [Region.wanted, yielded]; done))) | ((with_reducible refine gAlloc (T := 61) ?_); refine copyItem rfl rfl rfl _ rfl _ rfl rfl _ rfl rfl ?_))
                  go_ret2
                  exact DecPost.bad hres.out (bthen hb HBg)
                · have HNEW := Lib.hid (HST.out.trans (if_neg hfit))
                  go_wp2_with (first | ((with_reducible refine gBuild (T := 61) ?_); refine wpl_runG ?_ (exItem0 rfl rfl) ?_; (focus (simp [Region.wanted, yielded]; done))) | ((with_reducible refine gAlloc (T := 61) ?_); refine copyItem rfl rfl rfl _ rfl _ rfl rfl _ rfl rfl ?_))
                  refine (PT _ (k + 1) _ ?_ (by omega) (bthen hb HBg)).mono ?_
                  · omega
                  rintro e w3 ⟨rfl, hb3⟩
                  replace HG := Lib.hid ((hb3.block _ (by simp)).trans HG.out)
                  replace HBg := bthen HBg hb3
                  clear hb3 hk0
                  have hit1 := Lib.hid (show itemOf (x.toNat : Int) ((l.drop (k + 1)).take 32) 0 = ⟨3, part32 l (k + 1), zLeaf⟩ by
                    unfold itemOf
                    rw [if_neg (by rw [HX.out]; decide), if_pos HX.out, part_cut l (k + 1) 32 0 (by omega) (by omega)])
                  rw [hit1.out] at HNEW
                  generalize part32 l (k + 1) = p1 at *
                  go_wp2_with (first | ((with_reducible refine gStore (T := 43) ?_); refine wplStoreMid rfl rfl rfl (cs := (B32.cells p1)) rfl HG.out (by rw [B32.cells_length]; exact size43) (by rw [B32.cells_length, List.size_toArray, Item.cells_length]; omega) (B32.cells_one _) ?_; intro w2 h21 h22 h23 h24; rw [Item.set1] at h21; replace HG := Lib.hid h21; replace HBg := h24 _ _ HBg (Nat.le_refl _); have hk0 := (blk_cells h21).1 0; rw [Item.cells_at0] at hk0; clear h21 h22 h23 h24) | ((with_reducible refine gLoad (T := 61) ?_); refine wLoadItem _ rfl ?_ _ _ rfl _ (blk_range HG.out) ?_; (focus (simp [Region.wanted, yielded]; done)); have HO := Lib.hid (own_below HOWN.out HBg); have HB := bthen hb HBg) | ((with_reducible refine gBuildSlice ?_); refine wplBuildRows rfl elI (parts := [(0, _)]) rfl Item.cells_length [⟨3, p1, zLeaf⟩] rfl (by omega) (by omega) rfl ?_) | (at_builtin; refine wplAppend rfl _ _ rfl elI rfl (own_alloc HO.out _) rfl (fun h => by cases h) (by simp [Item.cells_length]) (Rd_at _ _ ([(⟨3, p1, zLeaf⟩ : Item)].flatMap Item.cells) _ (by simp)) (by intro u hu; simp only [List.flatMap_cons, List.flatMap_nil, List.append_nil] at hu; exact Item.cells_one _ u hu) (by omega) (balloc HB _).size ?_; intro va wa hoa hga; replace HB := grow_below (balloc HB _) (own_alloc HO.out _) hga (Nat.le_refl _) (balloc HB _).size; replace HO := Lib.hid hoa; clear hoa hga))
                  have HOo := HO.out
                  refine ⟨⟨k + 1 + 32, it ++ [⟨3, p1, zLeaf⟩], by omega, by omega, by go_num, by simp; omega, by simpa using HOo, HNEW.out, HB⟩, by simp [intOf]; omega⟩
              · have hp0 : payN x = 0 := by unfold payN payloadF; rw [if_neg k1, if_neg k3]; rfl
                rw [hp0, if_neg (by omega)] at HST
                have e1 : ((x.toNat : Int) == 1) = false := by simpa using k1
                have e3 : ((x.toNat : Int) == 3) = false := by simpa using k3
                have hit1 := Lib.hid (show itemOf (x.toNat : Int) ((l.drop (k + 1)).take 0) 0 = ⟨x.toNat, zB32, zLeaf⟩ by
                  unfold itemOf
                  rw [if_neg k1, if_neg k3])
                rw [hit1.out] at HST
                clear k1 k3 hcell hp0
                have HBg := balloc (brefl wr) (.cells (Item.cells ⟨x.toNat, zB32, zLeaf⟩).toArray 61)
                have HG := Lib.hid (heap_alloc_new wr (.cells (Item.cells ⟨x.toNat, zB32, zLeaf⟩).toArray 61))
                have hk0 : (wr.alloc (.cells (Item.cells ⟨x.toNat, zB32, zLeaf⟩).toArray 61)).cell? ⟨wr.heap.size, 0, none⟩ = some (.int .i64 x.toNat) := by simp [Item.cells]
                go_wp2_with (first | ((with_reducible refine gBuild (T := 61) ?_); refine wpl_runG ?_ (exItem0 rfl rfl) ?_; (focus (simp [Region.wanted, yielded]; done))) | ((with_reducible refine gAlloc (T := 61) ?_); refine copyItem rfl rfl rfl _ rfl _ rfl rfl _ rfl rfl ?_) | ((with_reducible refine gLoad (T := 61) ?_); refine wLoadItem _ rfl ?_ _ _ rfl _ (blk_range HG.out) ?_; (focus (simp [Region.wanted, yielded]; done)); have HO := Lib.hid (own_below HOWN.out HBg); have HB := bthen hb HBg) | ((with_reducible refine gBuildSlice ?_); refine wplBuildRows rfl elI (parts := [(0, _)]) rfl Item.cells_length [⟨x.toNat, zB32, zLeaf⟩] rfl (by omega) (by omega) rfl ?_) | (at_builtin; refine wplAppend rfl _ _ rfl elI rfl (own_alloc HO.out _) rfl (fun h => by cases h) (by simp [Item.cells_length]) (Rd_at _ _ ([(⟨x.toNat, zB32, zLeaf⟩ : Item)].flatMap Item.cells) _ (by simp)) (by intro u hu; simp only [List.flatMap_cons, List.flatMap_nil, List.append_nil] at hu; exact Item.cells_one _ u hu) (by omega) (balloc HB _).size ?_; intro va wa hoa hga; replace HB := grow_below (balloc HB _) (own_alloc HO.out _) hga (Nat.le_refl _) (balloc HB _).size; replace HO := Lib.hid hoa; clear hoa hga))
                have HOo := HO.out
                refine ⟨⟨k + 1, it ++ [⟨x.toNat, zB32, zLeaf⟩], by omega, by omega, by go_num, by simp; omega, by simpa using HOo, HST.out, HB⟩, by simp [intOf]; omega⟩
          · have hfull := Lib.hid (full_done HF.out (by omega))
            have hres0 := Lib.hid (decRes_some hfull.out H6.out H0.out H1.out)
            obtain ⟨A2, c2', rfl, hc2', hR2⟩ := own_Rd HOWN.out
            have g2 := (hb.cell (by simpa using hblt)).trans (hcell 2 (by omega))
            have g3 := (hb.cell (by simpa using hblt)).trans (hcell 3 (by omega))
            have g4 := (hb.cell (by simpa using hblt)).trans (hcell 4 (by omega))
            have g5 := (hb.cell (by simpa using hblt)).trans (hcell 5 (by omega))
            have HCM := Lib.hid (show cntM l = 16777216 * (l.getD 2 0).toNat + 65536 * (l.getD 3 0).toNat + 256 * (l.getD 4 0).toNat + (l.getD 5 0).toNat from rfl)
            have t2 := (l.getD 2 0).toNat_lt
            have t3 := (l.getD 3 0).toNat_lt
            have t4 := (l.getD 4 0).toNat_lt
            have t5 := (l.getD 5 0).toNat_lt
            clear hcell
            generalize l.getD 2 0 = c2 at *
            generalize l.getD 3 0 = c3 at *
            generalize l.getD 4 0 = c4 at *
            generalize l.getD 5 0 = c5 at *
            go_wp2_with fail
            replace g2 : wr.drew.cell? _ = _ := g2
            replace g3 : wr.drew.cell? _ = _ := g3
            replace g4 : wr.drew.cell? _ = _ := g4
            replace g5 : wr.drew.cell? _ = _ := g5
            have j2 : (2 : Int) < (l.length : Int) := by omega
            have j3 : (3 : Int) < (l.length : Int) := by omega
            have j4 : (4 : Int) < (l.length : Int) := by omega
            have j5 : (5 : Int) < (l.length : Int) := by omega
            refine wp_region_still_lit follows (by kernel_rfl) ?_
            repeat still_step
            refine wpStill_nil ?_
            obtain ⟨cm, hcm⟩ : ∃ cm : Nat, cm = 16777216 * c2.toNat + 65536 * c3.toNat + 256 * c4.toNat + c5.toNat := ⟨_, rfl⟩
            have hw : IntKind.i64.wrap (IntKind.i64.wrap (IntKind.i64.wrap (IntKind.i64.wrap (16777216 * IntKind.i64.wrap (c2.toNat : Int)) + IntKind.i64.wrap (65536 * IntKind.i64.wrap (c3.toNat : Int))) + IntKind.i64.wrap (256 * IntKind.i64.wrap (c4.toNat : Int))) + IntKind.i64.wrap (c5.toNat : Int)) = (cm : Int) := by
              rw [wrap_small (c2.toNat : Int) (by omega) (by omega), wrap_small (c3.toNat : Int) (by omega) (by omega), wrap_small (c4.toNat : Int) (by omega) (by omega), wrap_small (c5.toNat : Int) (by omega) (by omega), wrap_small (16777216 * (c2.toNat : Int)) (by omega) (by omega), wrap_small (65536 * (c3.toNat : Int)) (by omega) (by omega), wrap_small (256 * (c4.toNat : Int)) (by omega) (by omega), wrap_small (16777216 * (c2.toNat : Int) + 65536 * (c3.toNat : Int)) (by omega) (by omega), wrap_small (16777216 * (c2.toNat : Int) + 65536 * (c3.toNat : Int) + 256 * (c4.toNat : Int)) (by omega) (by omega), wrap_small (16777216 * (c2.toNat : Int) + 65536 * (c3.toNat : Int) + 256 * (c4.toNat : Int) + (c5.toNat : Int)) (by omega) (by omega)]
              omega
            rw [hw]
            have hcmL : cntM l = cm := by rw [HCM.out, hcm]
            replace HCM := Lib.hid hcmL
            replace hb := hb.drew
            replace HOWN : Hid (wr.drew.ownsRow _ _ _ _ _ _) := HOWN
            replace hR2 : Rd wr.drew _ _ := hR2
            clear hw hcmL g2 g3 g4 g5 j2 j3 j4 j5 hcm t2 t3 t4 t5
            by_cases hne : it.length = cm
            · have CK := refCheck_any it A2 c2' (by omega) wr.drew hR2
              by_cases hck : checkM it = 0
              · have hres := Lib.hid (show decRes l = (0, it) by rw [hres0.out, if_pos ⟨by rw [HCM.out]; exact hne, hck⟩])
                rw [hck] at CK
                clear hck
                subst hne
                go_wp2_with fail
                refine CK.mono ?_
                rintro e w3 ⟨rfl, hb3⟩
                go_wp2_with fail
                go_ret2
                exact DecPost.good hres.out (own_below HOWN.out hb3) (bthen hb hb3)
              · have hres := Lib.hid (show decRes l = (5, []) by rw [hres0.out, if_neg (fun hh => hck hh.2)])
                have hckb : (checkM it != 0) = true := by simpa using hck
                clear hck
                subst hne
                go_wp2_with fail
                refine CK.mono ?_
                rintro e w3 ⟨rfl, hb3⟩
                go_wp2_with fail
                go_ret2
                exact DecPost.bad hres.out (bthen hb hb3)
            · have hres := Lib.hid (show decRes l = (5, []) by rw [hres0.out, if_neg (fun hh => hne (by rw [← HCM.out]; exact hh.1))])
              have hneb : ((cm : Int) != (it.length : Int)) = true := by rw [bne_iff_ne]; omega
              clear hne
              go_wp2_with fail
              go_ret2
              exact DecPost.bad hres.out hb
end Go.Proofs.Ythinpbgbnlohpaa
