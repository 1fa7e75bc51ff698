/- The laws of layer 20, walked. -/
import Derived.Test.YthinpbgbnlohpaaD2
import Derived.Test.YthinpbgbnlohpaaM9
import Derived.Test.YthinpbgbnlohpaaM10
import Derived.Test.YthinpbgbnlohpaaM14
namespace Go.Proofs.Ythinpbgbnlohpaa
set_option linter.unusedSimpArgs false
set_option linter.unusedVariables false
open Go.RowKit
attribute [local irreducible] wpStill wpList
theorem sizeM_enc {l : List Item} (h : checkM l = 0) : sizeM l = ((encM l).length : Int) := by
  have e : (encM l).length = 6 + (l.flatMap encItem).length := by unfold encM; rw [List.length_append]; rfl
  have hs : ∀ m : List Item, sizeSum m = ((m.flatMap encItem).length : Int) := by
    intro m
    induction m with
    | nil => rfl
    | cons x m ih =>
      have hx : ((encItem x).length : Int) = 1 + payloadF x.kind := by
        unfold encItem payloadF
        by_cases k1 : x.kind = 1
        · simp [k1, x.leaf.key.2, x.leaf.value.2]
        · by_cases k3 : x.kind = 3
          · simp [k3, x.digest.2]
          · simp [k1, k3]
      have hsum : sizeSum (x :: m) = sizeSum m + (1 + payloadF x.kind) := by
        unfold sizeSum
        simp
        omega
      rw [hsum, ih, List.flatMap_cons, List.length_append, ← hx]
      omega
  rw [sizeM, if_pos h, hs, e]
  omega
theorem BytesPost.open_ {l : List UInt8} {w w' : World} {e : Ending} (h : BytesPost l w e w') : ∃ A c, e = .returned (.slice A l.length c) ∧ l.length ≤ c ∧ (A = none → c = 0) ∧ Rd w' A (bc l) ∧ Below w.heap.size w w' := by
  obtain ⟨v, rfl, ho, hb⟩ := h
  have ho' := ho
  obtain ⟨A, c, rfl, hc, hr⟩ := own_Rd ho
  refine ⟨A, c, rfl, hc, ?_, hr, hb⟩
  rintro rfl
  rcases ho'.2 with ⟨h, _⟩ | ⟨g, cap, cur, h, _⟩
  · injection h
  · cases h
set_option maxRecDepth 100000 in
set_option maxHeartbeats 1000000 in
theorem lawEncodes (l : List Item) (A : Option Addr) (cap : Nat) (hcap : l.length ≤ cap) (w : World) (hr : Rd w A (l.flatMap Item.cells)) :
    Calls Try.prog 3 #[.slice A l.length cap] w (BoolPost true w) := by
  have FW := Few_any l A cap w
  by_cases hfew : l.length ≤ 1200
  · rw [if_pos hfew] at FW
    go_enter Try.func3, Try.ntmps3
    go_wp2_with fail
    refine FW.mono ?_
    rintro e w1 ⟨rfl, rfl⟩
    go_wp2_with fail
    have EN := Encode_any l A cap (by omega) hcap w hr
    by_cases hc : checkM l = 0
    · refine EN.mono ?_
      intro e w2 h2
      obtain ⟨A2, c2, rfl, hc2, hr2, -, hb2⟩ := h2.ok hc
      clear h2
      have SZ := sizeM_enc hc
      go_wp2_with fail
      have CK := refCheck_any l A cap (by omega) w2 (hr.below hb2)
      rw [hc] at CK
      refine CK.mono ?_
      rintro e w3 ⟨rfl, hb3⟩
      replace hr2 := hr2.below hb3
      replace hb3 := bthen hb2 hb3
      clear hb2 CK EN FW
      have HC := Lib.hid hc; clear hc
      go_wp2_with fail
      refine (alive_any w3).mono ?_
      rintro e w4 ⟨rfl, hb4⟩
      replace hr2 := hr2.below hb4
      replace hb4 := bthen hb3 hb4
      clear hb3
      go_wp2_with fail
      refine (refEncode_any l A cap (by omega) w4 (hr.below hb4)).mono ?_
      intro e w5 h5
      obtain ⟨A5, c5, rfl, hc5, -, hr5, hb5⟩ := h5.open_
      clear h5
      replace hr2 := hr2.below hb5
      replace hb5 := bthen hb4 hb5
      clear hb4
      have LE := encM_len l
      go_wp2_with fail
      have SM := same_any (encM l) (encM l) A2 A5 c2 c5 (by omega) w5 hr2 hr5
      rw [decide_eq_true rfl] at SM
      refine SM.mono ?_
      rintro e w6 ⟨rfl, hb6⟩
      replace hb6 := bthen hb5 hb6
      clear hb5 SM
      go_wp2_with fail
      have SI := Size_any l A cap (by omega) hcap w6 (hr.below hb6)
      rw [SZ] at SI
      refine SI.mono ?_
      rintro e w7 ⟨rfl, hb7⟩
      clear SI SZ
      go_wp2_with fail
      go_ret
      exact ⟨rfl, bthen hb6 hb7⟩
    · refine EN.mono ?_
      intro e w2 h2
      unfold EncPost at h2
      rw [if_neg hc] at h2
      obtain ⟨rfl, hb2⟩ := h2
      have hcb : (checkM l != 0) = true := by simpa using hc
      have hsz : sizeM l = 0 := by simp [sizeM, hc]
      have HC := Lib.hid hc
      have HSZ := Lib.hid hsz
      clear EN FW hc hsz
      go_wp2_with fail
      refine (refCheck_any l A cap (by omega) w2 (hr.below hb2)).mono ?_
      rintro e w3 ⟨rfl, hb3⟩
      replace hb3 := bthen hb2 hb3
      clear hb2
      go_wp2_with fail
      refine (alive_any w3).mono ?_
      rintro e w4 ⟨rfl, hb4⟩
      replace hb4 := bthen hb3 hb4
      clear hb3
      go_wp2_with fail
      have SI := Size_any l A cap (by omega) hcap w4 (hr.below hb4)
      rw [HSZ.out] at SI
      refine SI.mono ?_
      rintro e w7 ⟨rfl, hb7⟩
      clear SI
      go_wp2_with fail
      go_ret
      exact ⟨rfl, bthen hb4 hb7⟩
  · rw [if_neg hfew] at FW
    clear hfew
    go_enter Try.func3, Try.ntmps3
    go_wp2_with fail
    refine FW.mono ?_
    rintro e w1 ⟨rfl, rfl⟩
    go_wp2_with fail
    refine (alive_any w).mono ?_
    rintro e w2 ⟨rfl, hb⟩
    go_wp2_with fail
    go_ret
    exact ⟨rfl, hb⟩
set_option maxRecDepth 100000 in
set_option maxHeartbeats 1000000 in
theorem lawCanonical (b : List UInt8) (A : Option Addr) (cap : Nat) (hcap : b.length ≤ cap) (w : World) (hr : Rd w A (bc b)) :
    Calls Try.prog 5 #[.slice A b.length cap] w (BoolPost true w) := by
  by_cases hlen : b.length ≤ 20000
  · have hg : ¬ (20000 : Int) < b.length := by omega
    go_enter Try.func5, Try.ntmps5
    go_wp2_with fail
    refine (Decode_any b A cap (by omega) hcap w hr).mono ?_
    intro e w1 h1
    obtain ⟨A1, c1, rfl, hc1, hr1, hb1⟩ := h1.open_
    clear h1
    rcases dec_cases b with ⟨hne, hnil⟩ | ⟨h0, hck, henc⟩
    · have hneb : ((decRes b).1 != 0) = true := by simpa using hne
      rw [hnil] at hc1 hr1 ⊢
      clear hne
      go_wp2_with fail
      refine (alive_any w1).mono ?_
      rintro e w4 ⟨rfl, hb4⟩
      go_wp2_with fail
      go_ret
      exact ⟨rfl, bthen hb1 hb4⟩
    · rw [h0]
      have hl2 := encM_len (decRes b).2
      rw [henc] at hl2
      generalize (decRes b).2 = l at *
      clear h0
      go_wp2_with fail
      refine (Encode_any l A1 c1 (by omega) hc1 w1 hr1).mono ?_
      intro e w2 h2
      obtain ⟨A2, c2, rfl, hc2, hr2, -, hb2⟩ := h2.ok hck
      rw [henc] at hr2 hc2 ⊢
      have HE := Lib.hid henc; have HC := Lib.hid hck
      clear h2 henc hck
      replace hb2 := bthen hb1 hb2
      go_wp2_with fail
      refine (alive_any w2).mono ?_
      rintro e w4 ⟨rfl, hb4⟩
      replace hr2 := hr2.below hb4
      replace hb4 := bthen hb2 hb4
      go_wp2_with fail
      have SM := same_any b b A A2 cap c2 (by omega) w4 (hr.below hb4) hr2
      rw [decide_eq_true rfl] at SM
      refine SM.mono ?_
      rintro e w6 ⟨rfl, hb6⟩
      clear SM
      go_wp2_with fail
      go_ret
      exact ⟨rfl, bthen hb4 hb6⟩
  · have hg : (20000 : Int) < b.length := by omega
    clear hlen
    go_enter Try.func5, Try.ntmps5
    go_wp2_with fail
    refine (alive_any w).mono ?_
    rintro e w2 ⟨rfl, hb⟩
    go_wp2_with fail
    go_ret
    exact ⟨rfl, hb⟩
set_option maxRecDepth 100000 in
set_option maxHeartbeats 1000000 in
theorem lawDecodes (b : List UInt8) (A : Option Addr) (cap : Nat) (hcap : b.length ≤ cap) (hA : A = none → cap = 0) (w : World) (hr : Rd w A (bc b)) :
    Calls Try.prog 6 #[.slice A b.length cap] w (BoolPost true w) := by
  by_cases hlen : b.length ≤ 20000
  · have hg : ¬ (20000 : Int) < b.length := by omega
    go_enter Try.func6, Try.ntmps6
    go_wp2_with fail
    refine (Clone_any b A cap hA (by omega) hcap w hr).mono ?_
    intro e w1 h1
    obtain ⟨A1, c1, rfl, hc1, -, hr1, hb1⟩ := h1.open_
    clear h1
    go_wp2_with fail
    refine (Decode_any b A1 c1 (by omega) hc1 w1 hr1).mono ?_
    intro e w2 h2
    obtain ⟨A2, c2, rfl, hc2, hr2, hb2⟩ := h2.open_
    clear h2
    replace hr1 := hr1.below hb2
    replace hb2 := bthen hb1 hb2
    go_wp2_with fail
    refine (refDecode_any b A cap (by omega) w2 (hr.below hb2)).mono ?_
    intro e w3 h3
    obtain ⟨A3, c3, rfl, hc3, hr3, hb3⟩ := h3.open_
    clear h3
    replace hr1 := hr1.below hb3
    replace hr2 := hr2.below hb3
    replace hb3 := bthen hb2 hb3
    have hl2 : (decRes b).2.length ≤ 1000000000 := by
      rcases dec_cases b with ⟨_, hnil⟩ | ⟨_, _, henc⟩
      · rw [hnil]; simp
      · have := encM_len (decRes b).2
        rw [henc] at this
        omega
    go_wp2_with fail
    refine (alive_any w3).mono ?_
    rintro e w4 ⟨rfl, hb4⟩
    replace hr1 := hr1.below hb4
    replace hr2 := hr2.below hb4
    replace hr3 := hr3.below hb4
    replace hb4 := bthen hb3 hb4
    clear hb1 hb2 hb3
    generalize (decRes b).2 = l at *
    generalize (decRes b).1 = er at *
    go_wp2_with fail
    have SI := sameItems_any l l A2 A3 c2 c3 hl2 w4 hr2 hr3
    rw [decide_eq_true rfl] at SI
    refine SI.mono ?_
    rintro e w5 ⟨rfl, hb5⟩
    replace hr1 := hr1.below hb5
    replace hb5 := bthen hb4 hb5
    clear SI
    go_wp2_with fail
    have SM := same_any b b A A1 cap c1 (by omega) w5 (hr.below hb5) hr1
    rw [decide_eq_true rfl] at SM
    refine SM.mono ?_
    rintro e w6 ⟨rfl, hb6⟩
    clear SM
    go_wp2_with fail
    go_ret
    exact ⟨rfl, bthen hb5 hb6⟩
  · have hg : (20000 : Int) < b.length := by omega
    clear hlen
    go_enter Try.func6, Try.ntmps6
    go_wp2_with fail
    refine (alive_any w).mono ?_
    rintro e w2 ⟨rfl, hb⟩
    go_wp2_with fail
    go_ret
    exact ⟨rfl, hb⟩
theorem Rd_other {w w' : World} {A : Option Addr} {cs : List Value} {g : Nat} (h : Rd w A cs) (hk : ∀ k, k ≠ g → w'.heap[k]? = w.heap[k]?) (hA : ∀ b o, A = some ⟨b, o, none⟩ → b ≠ g) : Rd w' A cs := fun j v hv => by
  obtain ⟨b, o, e, hc⟩ := h j v hv
  exact ⟨b, o, e, by rw [World.cell?_of_block (w := w) (hk b (hA b o e))]; exact hc⟩
theorem own_block {w : World} {base n : Nat} {A : Option Addr} {c : Nat} {b : List UInt8} (h : w.ownsRow base 5 1 (.slice A n c) n (bc b)) (hx : 0 < (bc b).length) : ∃ (g : Nat) (cur : Array Value), A = some ⟨g, 0, none⟩ ∧ base ≤ g ∧ w.heap[g]? = some (.cells cur 5 (0, 0)) ∧ n ≤ cur.size ∧ ∀ k, k < n → w.cell? ⟨g, k, none⟩ = some (.int .u8 (b.getD k 0).toNat) := by
  have hl := h.1
  obtain ⟨g, cap, e, _, hg, hr⟩ := own_open h hx
  injection e with e1 e2 e3
  subst e1
  rcases h.2 with ⟨h1, h2⟩ | ⟨g', cap', cur, h1, hg', hh, hn, hm, hs, ht⟩
  · cases h1
  · injection h1 with h1 _ _
    injection h1 with h1
    injection h1 with h1 _ _
    subst h1
    refine ⟨g, cur, rfl, hg, hh, by omega, fun k hk => ?_⟩
    · have := hr k _ (bc_get b k (by rw [bc_length] at hl; omega))
      rwa [Nat.zero_add] at this
set_option maxRecDepth 100000 in
set_option maxHeartbeats 1000000 in
theorem lawInverts (l : List Item) (i : Nat) (hi : i < 65536) (A : Option Addr) (cap : Nat) (hcap : l.length ≤ cap) (w : World) (hr : Rd w A (l.flatMap Item.cells)) :
    Calls Try.prog 4 #[.slice A l.length cap, .int .u16 i] w (BoolPost true w) := by
  have FW := Few_any l A cap w
  by_cases hfew : l.length ≤ 1200
  · rw [if_pos hfew] at FW
    go_enter Try.func4, Try.ntmps4
    go_wp2_with fail
    refine FW.mono ?_
    rintro e w1 ⟨rfl, rfl⟩
    go_wp2_with fail
    have CK := refCheck_any l A cap (by omega) w hr
    by_cases hc : checkM l = 0
    · rw [hc] at CK
      refine CK.mono ?_
      rintro e w1 ⟨rfl, hb1⟩
      clear CK FW
      go_wp2_with fail
      refine (Encode_any l A cap (by omega) hcap w1 (hr.below hb1)).mono ?_
      intro e w2 h2
      obtain ⟨A2, c2, rfl, hc2, hr2, hown2, hb2⟩ := h2.ok hc
      have hd := dec_enc hc (by omega)
      have hl2 := encM_len l
      have hpos : 6 ≤ (encM l).length := by
        have e : (encM l).length = 6 + (l.flatMap encItem).length := by unfold encM; rw [List.length_append]; rfl
        omega
      clear h2 hc
      generalize encM l = b at *
      go_wp2_with fail
      refine (Decode_any b A2 c2 (by omega) hc2 w2 hr2).mono ?_
      intro e w3 h3
      obtain ⟨v3, rfl, hown3, hb3⟩ := h3
      simp only [hd] at hown3 ⊢
      clear hd
      obtain ⟨A3, c3, rfl, hc3, hr3⟩ := own_Rd hown3
      obtain ⟨g, cur, rfl, hg1, hg2, hcur, hcells⟩ := own_block hown2 (by rw [bc_length]; omega)
      have hgW : w3.heap[g]? = some (.cells cur 5 (0, 0)) := (hb3.block g (Array.getElem?_eq_some_iff.1 hg2).1).trans hg2
      have hk : i % b.length < b.length := Nat.mod_lt _ (by omega)
      have hmod : ((i : Int).tmod (b.length : Int)) = ((i % b.length : Nat) : Int) := by
        rw [Int.tmod_eq_emod_of_nonneg (by omega)]; omega
      have hcell := ((hb3.cell (p := ⟨g, i % b.length, none⟩) (Array.getElem?_eq_some_iff.1 hg2).1).trans (hcells (i % b.length) hk))
      generalize i % b.length = k at *
      clear hcells hg2
      go_wp2_with ((with_reducible refine gStore (T := 5) ?_); refine wplStoreCell rfl rfl rfl rfl hgW size5 (by omega) rfl ?_; intro w4 h41 h42 h43 h44)
      have hglt := (hown2.lt g rfl).2
      have hr4 : Rd w4 A3 (l.flatMap Item.cells) := Rd_other hr3 h43 (fun b' o' hA => by
        subst hA
        have := (hown3.lt b' rfl).1
        omega)
      replace hb2 := bthen hb1 hb2
      have hb4 := h44 _ _ (bthen hb2 hb3) (by have := hb1.size; omega)
      clear h41 h42 h43 h44 hgW hr2 hr3 hown2 hown3 hb3 hb1 hb2 hcell hmod
      go_wp2_with fail
      refine (alive_any w4).mono ?_
      rintro e w5 ⟨rfl, hb5⟩
      replace hr4 := hr4.below hb5
      replace hb5 := bthen hb4 hb5
      go_wp2_with fail
      have SI := sameItems_any l l A3 A c3 cap (by omega) w5 hr4 (hr.below hb5)
      rw [decide_eq_true rfl] at SI
      refine SI.mono ?_
      rintro e w6 ⟨rfl, hb6⟩
      clear SI
      go_wp2_with fail
      go_ret
      exact ⟨rfl, bthen hb5 hb6⟩
    · have hcb : (checkM l != 0) = true := by simpa using hc
      have HC := Lib.hid hc
      clear hc
      refine CK.mono ?_
      rintro e w1 ⟨rfl, hb1⟩
      clear CK FW
      go_wp2_with fail
      refine (alive_any w1).mono ?_
      rintro e w2 ⟨rfl, hb⟩
      go_wp2_with fail
      go_ret
      exact ⟨rfl, bthen hb1 hb⟩
  · rw [if_neg hfew] at FW
    clear hfew
    go_enter Try.func4, Try.ntmps4
    go_wp2_with fail
    refine FW.mono ?_
    rintro e w1 ⟨rfl, rfl⟩
    go_wp2_with fail
    refine (alive_any w).mono ?_
    rintro e w2 ⟨rfl, hb⟩
    go_wp2_with fail
    go_ret
    exact ⟨rfl, hb⟩
end Go.Proofs.Ythinpbgbnlohpaa
