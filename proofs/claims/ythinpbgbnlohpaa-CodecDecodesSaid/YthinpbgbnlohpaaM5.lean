/- the reference's comparisons of bytes and of items. -/
import Derived.Test.YthinpbgbnlohpaaT1
namespace Go.Proofs.Ythinpbgbnlohpaa
set_option linter.unusedSimpArgs false
set_option linter.unusedVariables false
open Go.RowKit

def BoolPost (p : Bool) (w : World) (e : Ending) (w' : World) : Prop := e = .returned (.bool p) ∧ Below w.heap.size w w'
theorem ret_bool {a b : Bool} (h : a = b) : Ending.returned (.bool a) = .returned (.bool b) := by rw [h]
theorem bytes_at {w : World} {A : Option Addr} {l : List UInt8} (h : Rd w A (bc l)) {k : Nat} (hk : k < l.length) : ∃ b o, A = some ⟨b, o, none⟩ ∧ w.cell? ⟨b, o + k, none⟩ = some (.int .u8 (l.getD k 0).toNat) :=
  h k _ (bc_get l k hk)
theorem eq_of_takes {α : Type} {l m : List α} (hn : l.length = m.length) (h : l.take l.length = m.take l.length) : l = m := by
  rw [List.take_length] at h
  rw [h, hn, List.take_length]
theorem take_snoc {α : Type} (l : List α) (k : Nat) (d : α) (h : k < l.length) : l.take (k + 1) = l.take k ++ [l.getD k d] := by
  rw [List.take_add_one]
  simp [List.getD, h]
set_option maxRecDepth 100000 in
set_option maxHeartbeats 400000 in
theorem same_any (l m : List UInt8) (A B : Option Addr) (ca cb : Nat) (hl : l.length ≤ 1000000000) (w : World) (hr : Rd w A (bc l)) (hs : Rd w B (bc m)) :
    Calls Try.prog 16 #[.slice A l.length ca, .slice B m.length cb] w (BoolPost (decide (l = m)) w) := by
  by_cases hn : l.length = m.length
  · rw [← hn]
    have HN := Lib.hid hn; clear hn
    go_enter Try.func16, Try.ntmps16
    go_wp2
    go_loopw [5] (fun i wr => ∃ k : Nat, k ≤ l.length ∧ i = .int .i64 k ∧ l.take k = m.take k ∧ Below w.heap.size w wr) (fun i _ => l.length - (intOf i).toNat)
    case atStart => exact ⟨0, by omega, rfl, by simp, Below.refl _ _⟩
    case round =>
      obtain ⟨k, hk, rfl, ht, hb⟩ := hrel
      have HT := Lib.hid ht; clear ht
      by_cases hlt : k < l.length
      · obtain ⟨b, o, rfl, hcl⟩ := bytes_at (hr.below hb) hlt
        obtain ⟨b', o', rfl, hcm⟩ := bytes_at (hs.below hb) (k := k) (by rw [← HN.out]; exact hlt)
        have s1 := Lib.hid (take_snoc l k 0 hlt)
        have s2 := Lib.hid (take_snoc m k 0 (by rw [← HN.out]; exact hlt))
        by_cases he : l.getD k 0 = m.getD k 0
        · rw [← he] at hcm s2
          clear he
          generalize l.getD k 0 = x at *
          go_wp2
          go_quiet (fail)
          go_wp2
          refine ⟨⟨k + 1, by omega, by go_num, by rw [s1.out, s2.out, HT.out], bdrewN hb _⟩, by simp [intOf]; omega⟩
        · have hne : ¬ l = m := fun h => he (by rw [h])
          have hne2 : (((l.getD k 0).toNat : Int) != ((m.getD k 0).toNat : Int)) = true := by
            rw [bne_iff_ne]; intro h; exact he (UInt8.toNat_inj.1 (by omega))
          generalize l.getD k 0 = x at *
          generalize m.getD k 0 = y at *
          have HE := Lib.hid hne; clear hne he
          go_wp2
          go_quiet (fail)
          go_wp2
          go_ret
          exact ⟨ret_bool (by simp [HE.out]), bdrewN hb _⟩
      · go_wp2
        go_ret
        obtain rfl : k = l.length := by omega
        exact ⟨ret_bool (by simp [eq_of_takes HN.out HT.out]), hb⟩
  · have hne : ¬ l = m := fun h => hn (by rw [h])
    have hne2 : ((l.length : Int) != (m.length : Int)) = true := by rw [bne_iff_ne]; omega
    have HE := Lib.hid hne; clear hne hn
    go_enter Try.func16, Try.ntmps16
    go_wp2
    go_ret
    exact ⟨ret_bool (by simp [HE.out]), Below.refl _ _⟩

theorem items_at {w : World} {A : Option Addr} {l : List Item} (h : Rd w A (l.flatMap Item.cells)) {k : Nat} {x : Item} (hx : l[k]? = some x) : ∃ b o, A = some ⟨b, o, none⟩ ∧ w.rangeAt b (o + k * 97) x.cells := by
  have hk := (List.getElem?_eq_some_iff.1 hx).1
  obtain ⟨b, o, rfl, _, h'⟩ := h.open_ (by rw [flat_length Item.cells_length]; omega)
  exact ⟨b, o, rfl, rangeAt_flat Item.cells_length h' hx⟩
set_option maxRecDepth 100000 in
set_option maxHeartbeats 400000 in
theorem sameItems_any (l m : List Item) (A B : Option Addr) (ca cb : Nat) (hl : l.length ≤ 1000000000) (w : World) (hr : Rd w A (l.flatMap Item.cells)) (hs : Rd w B (m.flatMap Item.cells)) :
    Calls Try.prog 19 #[.slice A l.length ca, .slice B m.length cb] w (BoolPost (decide (l = m)) w) := by
  by_cases hn : l.length = m.length
  · rw [← hn]
    have HN := Lib.hid hn; clear hn
    go_enter Try.func19, Try.ntmps19
    go_wp2
    go_loopw [5] (fun i wr => ∃ k : Nat, k ≤ l.length ∧ i = .int .i64 k ∧ l.take k = m.take k ∧ Below w.heap.size w wr) (fun i _ => l.length - (intOf i).toNat)
    case atStart => exact ⟨0, by omega, rfl, by simp, Below.refl _ _⟩
    case round =>
      obtain ⟨k, hk, rfl, ht, hb⟩ := hrel
      have HT := Lib.hid ht; clear ht
      by_cases hlt : k < l.length
      · have hlt2 : k < m.length := by rw [← HN.out]; exact hlt
        obtain ⟨b, o, rfl, hcl⟩ := items_at (hr.below hb) (k := k) (x := l[k]) (by simp [hlt])
        obtain ⟨b', o', rfl, hcm⟩ := items_at (hs.below hb) (k := k) (x := m[k]) (by simp [hlt2])
        have s1 := Lib.hid (take_snoc l k zItem hlt)
        have s2 := Lib.hid (take_snoc m k zItem hlt2)
        have g1 : l.getD k zItem = l[k] := by simp [List.getD, hlt]
        have g2 : m.getD k zItem = m[k] := by simp [List.getD, hlt2]
        rw [g1] at s1
        rw [g2] at s2
        have HE := Lib.hid (show ¬ l[k] = m[k] → ¬ l = m from fun h e => h (by subst e; rfl))
        clear g1 g2
        generalize l[k] = x at *
        generalize m[k] = y at *
        have hcl' : (wr.drew).rangeAt b (o + k * 97) x.cells := hcl
        have hcm' : (wr.drew).rangeAt b' (o' + k * 97) y.cells := hcm
        go_wp2
        refine wp_region_still_lit follows (by kernel_rfl) ?_
        still_step
        still_step
        still_step
        refine stillLoadItem rfl _ rfl b (o + k * 97) rfl x hcl' ?_
        still_step
        still_step
        still_step
        refine stillLoadItem rfl _ rfl b' (o' + k * 97) rfl y hcm' ?_
        refine wpStill_run rfl (ex_neq rfl rfl rfl Try.eqGuardType61 (neqItem x y)) ?_
        refine wpStill_nil ?_
        by_cases he : x = y
        · subst he
          have hd : (!decide (x = x)) = false := by simp
          rw [hd]
          go_wp2
          refine ⟨⟨k + 1, by omega, by go_num, by rw [s1.out, s2.out, HT.out], bdrew hb⟩, by simp [intOf]; omega⟩
        · have hd : (!decide (x = y)) = true := by simp [he]
          have HE' := Lib.hid (HE.out he)
          clear he
          rw [hd]
          go_wp2
          go_ret
          exact ⟨ret_bool (by simp [HE'.out]), bdrew hb⟩
      · go_wp2
        go_ret
        obtain rfl : k = l.length := by omega
        exact ⟨ret_bool (by simp [eq_of_takes HN.out HT.out]), hb⟩
  · have hne : ¬ l = m := fun h => hn (by rw [h])
    have hne2 : ((l.length : Int) != (m.length : Int)) = true := by rw [bne_iff_ne]; omega
    have HE := Lib.hid hne; clear hne hn
    go_enter Try.func19, Try.ntmps19
    go_wp2
    go_ret
    exact ⟨ret_bool (by simp [HE.out]), Below.refl _ _⟩
end Go.Proofs.Ythinpbgbnlohpaa
