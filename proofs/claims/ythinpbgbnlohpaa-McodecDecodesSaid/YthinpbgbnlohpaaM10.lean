/- the reference's Encode of multiproofs. -/
import Derived.Test.YthinpbgbnlohpaaM8
namespace Go.Proofs.Ythinpbgbnlohpaa
set_option linter.unusedSimpArgs false
set_option linter.unusedVariables false
open Go.RowKit
attribute [local irreducible] wpStill wpList

theorem own_open {w : World} {base : Nat} {e : TypeId} {size n : Nat} {v : Value} {xs : List Value} (h : w.ownsRow base e size v n xs) (hx : 0 < xs.length) : ∃ g cap, v = .slice (some ⟨g, 0, none⟩) n cap ∧ n ≤ cap ∧ base ≤ g ∧ w.rangeAt g 0 xs := by
  have h' := h
  rcases h.2 with ⟨rfl, rfl⟩ | ⟨g, cap, cur, rfl, hg, hh, hn, hm, hs, ht⟩
  · have := h.1
    omega
  · obtain ⟨A, c, e1, _, hr⟩ := own_Rd h'
    injection e1 with e1 e2 e3
    subst e1
    exact ⟨g, cap, rfl, hn, hg, hr.range⟩

set_option maxRecDepth 100000 in
set_option maxHeartbeats 1000000 in
theorem refEncode_any (l : List Item) (A : Option Addr) (cap : Nat) (hl : l.length ≤ 100000) (w : World) (hr : Rd w A (l.flatMap Item.cells)) :
    Calls Try.prog 17 #[.slice A l.length cap] w (BytesPost (encM l) w) := by
  go_enter Try.func17, Try.ntmps17
  go_wp2
  go_loopw [4, 5] (fun v i wr => ∃ k : Nat, k ≤ l.length ∧ i = .int .i64 k ∧ wr.ownsRow w.heap.size 5 1 v (6 + ((l.take k).flatMap encItem).length) (bc (encHead l.length ++ (l.take k).flatMap encItem)) ∧ Below w.heap.size w wr) (fun _ i _ => l.length - (intOf i).toNat)
  case atStart =>
    refine ⟨0, by omega, rfl, ?_, balloc (brefl _) _⟩
    have := own_lit w w.heap.size 5 1 6 (bc (encHead l.length)) (Nat.le_refl _) (by omega) rfl
    have e1 : ((l.length : Int) / 16777216) % 256 = (l.length : Int) / 16777216 := by omega
    have e2 : ((l.length : Int) / 65536) % 256 = (l.length : Int) / 65536 := by omega
    simpa [encHead, bc, ub_val, e1, e2] using this
  case round =>
    obtain ⟨k, hk, rfl, hown, HB⟩ := hrel
    have HO := Lib.hid hown; clear hown
    by_cases hlt : k < l.length
    · have hx : l[k]? = some l[k] := by simp [hlt]
      generalize l[k] = x at hx
      obtain ⟨b, o, rfl, hrx⟩ := items_at (hr.below HB) hx
      have HR := Lib.hid (show ∀ w', Below w.heap.size w w' → w'.rangeAt b (o + k * 97) x.cells from fun w' hb' => by
        obtain ⟨b', o', e, h⟩ := items_at (hr.below hb') hx
        injection e with e; injection e with e1 e2; subst e1; subst e2; exact h)
      have HS := Lib.hid (flat_step (f := encItem) l k x hx)
      have HLEN := Lib.hid (encLen_le l k)
      have hle := HLEN.out
      generalize hM : ((l.take k).flatMap encItem).length = M at *
      have HM := Lib.hid hM; clear hM
      by_cases k1 : x.kind = 1
      · have he : encItem x = ub 1 :: (x.leaf.key.1 ++ x.leaf.value.1) := by simp [encItem, k1]
        have HK := Lib.hid (show ∀ w', Below w.heap.size w w' → w'.cell? ⟨b, o + k * 97, none⟩ = some (.int .i64 1) from fun w' hb' => HR.out w' hb' 0 _ (by simp [Item.cells, k1]))
        have HL := Lib.hid (show ∀ w', Below w.heap.size w w' → w'.rangeAt b (o + k * 97 + 33) x.leaf.cells from fun w' hb' => (Item.ranges (HR.out w' hb')).2.1)
        have HE := Lib.hid he; clear he k1
        have hk0 := HK.out _ HB
        go_wp2_with (first | ((with_reducible refine gLoad (T := 45) ?_); refine wLoadLeaf _ rfl ?_ _ _ rfl x.leaf (HL.out _ HB) ?_; (focus (simp [Region.wanted, yielded]; done))) | (at_builtin; refine wplAppend rfl _ _ rfl elB rfl (own_alloc HO.out _) rfl (fun h => by cases h) rfl (Rd_at _ _ [.int .u8 _] _ (by simp)) (by simp [Value.oneCell']) (by omega) (balloc HB _).size ?_; intro va wa hoa hga; replace HB := grow_below (balloc HB _) (own_alloc HO.out _) hga (Nat.le_refl _) (balloc HB _).size; replace HO := Lib.hid hoa; replace hk0 := HK.out _ HB; clear hoa hga) | (at_builtin; refine wplAppend rfl _ _ rfl elB rfl HO.out rfl (fun h => by cases h) (by rw [bc_length, List.length_append, x.leaf.key.2, x.leaf.value.2]) (Rd.mk HV.out) (bc_one _) (by omega) HB.size ?_; intro va wa hoa hga; replace HB := grow_below HB HO.out hga (Nat.le_refl _) HB.size; replace HO := Lib.hid hoa; replace hk0 := HK.out _ HB; clear hoa hga))
        refine (Leaf_any x.leaf _).mono ?_
        rintro e w2 ⟨v2, rfl, ho2, hb2⟩
        replace HO := Lib.hid (own_below HO.out hb2)
        replace HB := bthen HB hb2
        replace hk0 := HK.out _ HB
        have hl65 : (0 :: (x.leaf.key.1 ++ x.leaf.value.1)).length = 65 := by simp [x.leaf.key.2, x.leaf.value.2]
        rw [hl65] at ho2
        obtain ⟨g, c2, rfl, hc2, hg2, hrg⟩ := own_open ho2 (by rw [bc_length, hl65]; omega)
        have HV := Lib.hid (show w2.rangeAt g 1 (bc (x.leaf.key.1 ++ x.leaf.value.1)) from rangeAt_drop hrg 1)
        clear ho2 hrg hg2 hl65 hb2
        go_wp2_with (first | (at_builtin; refine wplAppend rfl _ _ rfl elB rfl HO.out rfl (fun h => by cases h) (by rw [bc_length, List.length_append, x.leaf.key.2, x.leaf.value.2]) (Rd.mk HV.out) (bc_one _) (by omega) HB.size ?_; intro va wa hoa hga; replace HB := grow_below HB HO.out hga (Nat.le_refl _) HB.size; replace HO := Lib.hid hoa; replace hk0 := HK.out _ HB; clear hoa hga))
        refine ⟨⟨k + 1, by omega, by go_num, ?_, HB⟩, by simp [intOf]; omega⟩
        exact enc_own HO.out HM.out HS.out (by rw [HE.out]; simp [x.leaf.key.2, x.leaf.value.2]) (by rw [HE.out]; simp [bc, ub_val, B32.cells])
      · by_cases k3 : x.kind = 3
        · have he : encItem x = ub 3 :: x.digest.1 := by simp [encItem, k3]
          have HK := Lib.hid (show ∀ w', Below w.heap.size w w' → w'.cell? ⟨b, o + k * 97, none⟩ = some (.int .i64 3) from fun w' hb' => HR.out w' hb' 0 _ (by simp [Item.cells, k3]))
          have HD := Lib.hid (show ∀ w', Below w.heap.size w w' → w'.rangeAt b (o + k * 97 + 1) x.digest.cells from fun w' hb' => (Item.ranges (HR.out w' hb')).1)
          have HE := Lib.hid he; clear he k3 k1
          have hk0 := HK.out _ HB
          go_wp2_with (first | (at_builtin; refine wplAppend rfl _ _ rfl elB rfl (own_alloc HO.out _) rfl (fun h => by cases h) rfl (Rd_at _ _ [.int .u8 _] _ (by simp)) (by simp [Value.oneCell']) (by omega) (balloc HB _).size ?_; intro va wa hoa hga; replace HB := grow_below (balloc HB _) (own_alloc HO.out _) hga (Nat.le_refl _) (balloc HB _).size; replace HO := Lib.hid hoa; replace hk0 := HK.out _ HB; clear hoa hga) | (at_builtin; refine wplAppend rfl _ _ rfl elB rfl HO.out rfl (fun h => by cases h) (by rw [B32.cells_length]) (Rd.mk (HD.out _ HB)) (B32.cells_one _) (by omega) HB.size ?_; intro va wa hoa hga; replace HB := grow_below HB HO.out hga (Nat.le_refl _) HB.size; replace HO := Lib.hid hoa; clear hoa hga))
          refine ⟨⟨k + 1, by omega, by go_num, ?_, HB⟩, by simp [intOf]; omega⟩
          exact enc_own HO.out HM.out HS.out (by rw [HE.out]; simp [x.digest.2]) (by rw [HE.out]; simp [bc, ub_val, B32.cells])
        · have he : encItem x = [ub x.kind] := by simp [encItem, k1, k3]
          have e1 : (x.kind == 1) = false := by simpa using k1
          have e3 : (x.kind == 3) = false := by simpa using k3
          have HK := Lib.hid (show ∀ w', Below w.heap.size w w' → w'.cell? ⟨b, o + k * 97, none⟩ = some (.int .i64 x.kind) from fun w' hb' => HR.out w' hb' 0 _ (by simp [Item.cells]))
          have HE := Lib.hid he; clear he k3 k1
          have hk0 := HK.out _ HB
          go_wp2_with (first | (at_builtin; refine wplAppend rfl _ _ rfl elB rfl (own_alloc HO.out _) rfl (fun h => by cases h) rfl (Rd_at _ _ [.int .u8 _] _ (by simp)) (by simp [Value.oneCell']) (by omega) (balloc HB _).size ?_; intro va wa hoa hga; replace HB := grow_below (balloc HB _) (own_alloc HO.out _) hga (Nat.le_refl _) (balloc HB _).size; replace HO := Lib.hid hoa; replace hk0 := HK.out _ HB; clear hoa hga))
          refine ⟨⟨k + 1, by omega, by go_num, ?_, HB⟩, by simp [intOf]; omega⟩
          exact enc_own HO.out HM.out HS.out (by rw [HE.out]; simp) (by rw [HE.out]; simp [bc, ub_val])
    · go_wp2
      go_ret
      obtain rfl : k = l.length := by omega
      rw [List.take_length] at HO
      refine ⟨_, rfl, ?_, HB⟩
      have e : (encM l).length = 6 + (l.flatMap encItem).length := by unfold encM; rw [List.length_append]; rfl
      rw [e]
      exact HO.out
end Go.Proofs.Ythinpbgbnlohpaa
