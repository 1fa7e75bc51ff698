/- the reference's Skip and Check. -/
import Derived.Test.YthinpbgbnlohpaaM4
import Derived.Test.YthinpbgbnlohpaaM6
namespace Go.Proofs.Ythinpbgbnlohpaa
set_option linter.unusedSimpArgs false
set_option linter.unusedVariables false
open Go.RowKit
attribute [local irreducible] wpStill

theorem readM_suffix : ∀ (d : Nat) (l : List Item) (t : Sub) (rest : List Item), readM d l = some (t, rest) → ∃ n, 0 < n ∧ n ≤ l.length ∧ rest = l.drop n
  | _, [], t, rest, h => by cases ‹Nat› <;> simp [readM] at h
  | 0, x :: l, t, rest, h => by
    simp only [readM] at h
    split at h
    · cases h
    · simp only [Option.some.injEq, Prod.mk.injEq] at h
      exact ⟨1, by omega, by simp, by simp [h.2]⟩
  | d + 1, x :: l, t, rest, h => by
    simp only [readM] at h
    split at h
    · obtain ⟨p, hp, h⟩ := Option.bind_eq_some_iff.1 h
      obtain ⟨q, hq, h⟩ := Option.bind_eq_some_iff.1 h
      obtain ⟨n, hn0, hn, e1⟩ := readM_suffix d l p.1 p.2 hp
      obtain ⟨m, hm0, hm, e2⟩ := readM_suffix d p.2 q.1 q.2 hq
      simp only [Option.some.injEq, Prod.mk.injEq] at h
      rw [e1, List.length_drop] at hm
      refine ⟨n + m + 1, by omega, by simp; omega, ?_⟩
      rw [← h.2, e2, e1, List.drop_drop]
      rfl
    · simp only [Option.some.injEq, Prod.mk.injEq] at h
      exact ⟨1, by omega, by simp, by simp [h.2]⟩
/-- the index behind what was read -/
def skipI (l : List Item) (r : Option (Sub × List Item)) : Int := match r with | none => -1 | some p => (l.length : Int) - p.2.length

theorem Skip_neg (l : List Item) (A : Option Addr) (cap : Nat) (depth : Int) (w : World) :
    Calls Try.prog 33 #[.slice A l.length cap, .int .i64 (-1), .int .i64 depth] w (IntPost (-1) w) := by
  go_enter Try.func33, Try.ntmps33
  go_wp2
  go_ret
  exact ⟨rfl, brefl _⟩
theorem Skip_end (l : List Item) (A : Option Addr) (cap at_ : Nat) (hat : l.length ≤ at_) (depth : Int) (w : World) :
    Calls Try.prog 33 #[.slice A l.length cap, .int .i64 at_, .int .i64 depth] w (IntPost (-1) w) := by
  have h1 : ¬ (at_ : Int) < 0 := by omega
  have h2 : (l.length : Int) ≤ at_ := by omega
  go_enter Try.func33, Try.ntmps33
  go_wp2
  go_ret
  exact ⟨rfl, brefl _⟩
set_option maxHeartbeats 400000 in
theorem Skip_one (l : List Item) (b o cap at_ d : Nat) (x : Item) (hx : l[at_]? = some x) (hl : l.length ≤ 100000) (hd : d ≤ 256) (w : World) (hc : w.cell? ⟨b, o + at_ * 97, none⟩ = some (.int .i64 x.kind)) (hk : (x.kind == 2) = false) :
    Calls Try.prog 33 #[.slice (some ⟨b, o, none⟩) l.length cap, .int .i64 at_, .int .i64 (256 - d)] w (IntPost (at_ + 1) w) := by
  have h1 : ¬ (at_ : Int) < 0 := by omega
  have hlt := (List.getElem?_eq_some_iff.1 hx).1
  have h2 : ¬ (l.length : Int) ≤ at_ := by omega
  have hk2 : (x.kind != 2) = true := by simpa using hk
  clear hx
  go_enter Try.func33, Try.ntmps33
  go_wp2
  go_ret
  exact ⟨rfl, brefl _⟩
set_option maxHeartbeats 400000 in
theorem Skip_deep (l : List Item) (b o cap at_ : Nat) (x : Item) (hx : l[at_]? = some x) (w : World) (hc : w.cell? ⟨b, o + at_ * 97, none⟩ = some (.int .i64 x.kind)) (hk : (x.kind == 2) = true) :
    Calls Try.prog 33 #[.slice (some ⟨b, o, none⟩) l.length cap, .int .i64 at_, .int .i64 256] w (IntPost (-1) w) := by
  have h1 : ¬ (at_ : Int) < 0 := by omega
  have hlt := (List.getElem?_eq_some_iff.1 hx).1
  have h2 : ¬ (l.length : Int) ≤ at_ := by omega
  clear hx
  go_enter Try.func33, Try.ntmps33
  go_wp2
  go_ret
  exact ⟨rfl, brefl _⟩
set_option maxHeartbeats 400000 in
theorem Skip_two (l : List Item) (b o cap at_ d : Nat) (x : Item) (hx : l[at_]? = some x) (hl : l.length ≤ 100000) (hd : d < 256) (w : World) (hc : w.cell? ⟨b, o + at_ * 97, none⟩ = some (.int .i64 x.kind)) (hk : (x.kind == 2) = true)
    (r1 r2 : Int) (C1 : ∀ W, Below w.heap.size w W → Calls Try.prog 33 #[.slice (some ⟨b, o, none⟩) l.length cap, .int .i64 (at_ + 1), .int .i64 (256 - d)] W (IntPost r1 W))
    (C2 : ∀ W, Below w.heap.size w W → Calls Try.prog 33 #[.slice (some ⟨b, o, none⟩) l.length cap, .int .i64 r1, .int .i64 (256 - d)] W (IntPost r2 W)) :
    Calls Try.prog 33 #[.slice (some ⟨b, o, none⟩) l.length cap, .int .i64 at_, .int .i64 (256 - (d + 1))] w (IntPost r2 w) := by
  have h1 : ¬ (at_ : Int) < 0 := by omega
  have hlt := (List.getElem?_eq_some_iff.1 hx).1
  have h2 : ¬ (l.length : Int) ≤ at_ := by omega
  have hk2 : (x.kind != 2) = false := by simpa using hk
  clear hx
  have h3 : ¬ (255 : Int) < 256 - (d + 1) := by omega
  have HC1 := Lib.hid C1; clear C1
  have HC2 := Lib.hid C2; clear C2
  have e : (256 : Int) - (d + 1) + 1 = 256 - d := by omega
  go_enter Try.func33, Try.ntmps33
  go_wp2_with fail
  refine (HC1.out _ (brefl _)).mono ?_
  rintro e w1 ⟨rfl, hb1⟩
  go_wp2_with fail
  refine (HC2.out _ hb1).mono ?_
  rintro e w2 ⟨rfl, hb2⟩
  go_wp2
  go_ret
  exact ⟨rfl, bthen hb1 hb2⟩
theorem Skip_any (l : List Item) (hl : l.length ≤ 100000) (A : Option Addr) (cap : Nat) (w0 : World) (hr : Rd w0 A (l.flatMap Item.cells)) : ∀ (d : Nat), d ≤ 256 → ∀ (at_ : Nat) (I : Int), I = at_ → ∀ (w : World), Below w0.heap.size w0 w →
    Calls Try.prog 33 #[.slice A l.length cap, .int .i64 I, .int .i64 (256 - d)] w (IntPost (skipI l (readM d (l.drop at_))) w) := by
  intro d
  induction d with
  | zero =>
    intro _ at_ I hI w h0
    subst hI
    by_cases hlt : at_ < l.length
    · have hx : l[at_]? = some l[at_] := by simp [hlt]
      have hd : l.drop at_ = l[at_] :: l.drop (at_ + 1) := List.drop_eq_getElem_cons hlt
      obtain ⟨b, o, rfl, hrx⟩ := items_at (hr.below h0) hx
      have hc := hrx 0 _ (Item.cells_at0' _)
      rw [hd]
      by_cases hk : l[at_].kind = 2
      · have e : skipI l (readM 0 (l[at_] :: l.drop (at_ + 1))) = -1 := by simp [readM, hk, skipI]
        rw [e]
        simpa using Skip_deep l b o cap at_ _ hx w hc (by simp [hk])
      · have e : skipI l (readM 0 (l[at_] :: l.drop (at_ + 1))) = at_ + 1 := by simp [readM, hk, skipI]; omega
        rw [e]
        exact Skip_one l b o cap at_ 0 _ hx hl (by omega) w hc (by simp [hk])
    · have e : skipI l (readM 0 (l.drop at_)) = -1 := by rw [List.drop_of_length_le (by omega)]; simp [readM, skipI]
      rw [e]
      exact Skip_end l A cap at_ (by omega) _ w
  | succ d ih =>
    intro hd256 at_ I hI w h0
    subst hI
    by_cases hlt : at_ < l.length
    · have hx : l[at_]? = some l[at_] := by simp [hlt]
      have hd : l.drop at_ = l[at_] :: l.drop (at_ + 1) := List.drop_eq_getElem_cons hlt
      obtain ⟨b, o, rfl, hrx⟩ := items_at (hr.below h0) hx
      have hc := hrx 0 _ (Item.cells_at0' _)
      rw [hd]
      by_cases hk : l[at_].kind = 2
      · have C1 := fun W hW => ih (by omega) (at_ + 1) (at_ + 1) (by simp) W (bthen h0 hW)
        cases h1 : readM d (l.drop (at_ + 1)) with
        | none =>
          rw [h1] at C1
          have e : skipI l (readM (d + 1) (l[at_] :: l.drop (at_ + 1))) = -1 := by simp [readM, hk, skipI, h1]
          rw [e]
          have := Skip_two l b o cap at_ d _ hx hl (by omega) w hc (by simp [hk]) (-1) (-1) C1 (fun W _ => Skip_neg l _ cap _ W)
          simpa using this
        | some p =>
          rw [h1] at C1
          obtain ⟨n, hn0, hn, e1⟩ := readM_suffix d _ p.1 p.2 h1
          rw [List.length_drop] at hn
          rw [List.drop_drop] at e1
          have hlen : (l.length : Int) - p.2.length = ((at_ + 1 + n : Nat) : Int) := by
            rw [e1, List.length_drop]; omega
          have C2 := fun W hW => ih (by omega) (at_ + 1 + n) ((l.length : Int) - p.2.length) hlen W (bthen h0 hW)
          rw [← e1] at C2
          have e : skipI l (readM (d + 1) (l[at_] :: l.drop (at_ + 1))) = skipI l (readM d p.2) := by
            simp only [readM, hk, if_true, h1, Option.bind_some]
            cases h2 : readM d p.2 <;> simp [skipI]
          rw [e]
          have := Skip_two l b o cap at_ d _ hx hl (by omega) w hc (by simp [hk]) _ _ C1 C2
          simpa using this
      · have e : skipI l (readM (d + 1) (l[at_] :: l.drop (at_ + 1))) = at_ + 1 := by simp [readM, hk, skipI]; omega
        rw [e]
        have := Skip_one l b o cap at_ (d + 1) _ hx hl (by omega) w hc (by simp [hk])
        simpa using this
    · have e : skipI l (readM (d + 1) (l.drop at_)) = -1 := by rw [List.drop_of_length_le (by omega)]; simp [readM, skipI]
      rw [e]
      exact Skip_end l A cap at_ (by omega) _ w

/-- what the reference's Check computes -/
theorem checkM_eq (l : List Item) : checkM l = if l.all kindOk then (if l.all cleanItem then (if l.length = 0 ∨ skipI l (readM 256 l) ≠ l.length then 5 else 0) else 5) else 7 := by
  unfold checkM parseM
  by_cases h1 : l.all kindOk = true
  · rw [if_pos h1, if_pos h1]
    by_cases h2 : l.all cleanItem = true
    · rw [if_pos h2]
      cases h3 : readM 256 l with
      | none =>
        have : (skipI l none) ≠ (l.length : Int) := by simp only [skipI]; omega
        simp [this]
      | some p =>
        obtain ⟨t, rest⟩ := p
        obtain ⟨n, hn0, hn, e1⟩ := readM_suffix 256 l t rest h3
        cases rest with
        | nil =>
          have h0 : l.length ≠ 0 := by omega
          have hs : skipI l (some (t, [])) = l.length := by simp [skipI]
          simp [h2, h0, hs]
        | cons y rest =>
          have hs : skipI l (some (t, y :: rest)) ≠ l.length := by simp only [skipI, List.length_cons]; omega
          simp [hs]
    · have h2' : l.all cleanItem = false := by simpa using h2
      rw [if_neg h2]
      cases h3 : readM 256 l with
      | none => rfl
      | some p =>
        obtain ⟨t, rest⟩ := p
        cases rest <;> simp [h2']
  · rw [if_neg h1, if_neg h1]
set_option maxRecDepth 100000 in
set_option maxHeartbeats 4000000 in
theorem refCheck_any (l : List Item) (A : Option Addr) (cap : Nat) (hl : l.length ≤ 100000) (w : World) (hr : Rd w A (l.flatMap Item.cells)) :
    Calls Try.prog 14 #[.slice A l.length cap] w (IntPost (checkM l) w) := by
  have HM := Lib.hid (checkM_eq l)
  have SK := fun W hW => Skip_any l hl A cap w hr 256 (by omega) 0 0 rfl W hW
  simp only [List.drop_zero] at SK
  have HSK := Lib.hid SK; clear SK
  go_enter Try.func14, Try.ntmps14
  go_wp2_with (first | ((with_reducible refine gAlloc (T := 43) ?_); refine wplAllocZ rfl rfl zero43 ?_) | ((with_reducible refine gAlloc (T := 45) ?_); refine wplAllocZ rfl rfl zero45 ?_))
  go_loopw [5] (fun i wr => ∃ k : Nat, k ≤ l.length ∧ i = .int .i64 k ∧ (l.take k).all kindOk = true ∧ wr.rangeAt w.heap.size 0 zB32.cells ∧ wr.rangeAt (w.heap.size + 1) 0 zLeaf.cells ∧ Below w.heap.size w wr) (fun i _ => l.length - (intOf i).toNat)
  case atStart =>
    refine ⟨0, by omega, rfl, by simp, ?_, ?_, balloc (balloc (brefl _) _) _⟩
    · exact rangeAt_below (rangeAt_new' w zB32.cells _) (balloc (brefl _) _)
    · have := rangeAt_new' (w.alloc (.cells zB32.cells.toArray 43)) zLeaf.cells 45
      rwa [World.size_alloc] at this
  case round =>
    obtain ⟨k, hk, rfl, hok, hZ1, hZ2, hb⟩ := hrel
    have HOK := Lib.hid hok; clear hok
    by_cases hlt : k < l.length
    · have hx : l[k]? = some l[k] := by simp [hlt]
      generalize l[k] = x at hx
      obtain ⟨b, o, rfl, hrx⟩ := items_at (hr.below hb) hx
      have hc := hrx 0 _ (Item.cells_at0' _)
      rw [Nat.add_zero] at hc
      have HK1 := Lib.hid (all_take kindOk l k x hx)
      by_cases h0 : 0 ≤ x.kind
      · by_cases h3 : x.kind ≤ 3
        · have hko : kindOk x = true := by simp [kindOk, h0, h3]
          have HK2 := Lib.hid (show (l.take (k + 1)).all kindOk = true by rw [HK1.out, HOK.out, hko]; rfl)
          clear hko
          go_wp2
          exact ⟨⟨k + 1, by omega, by go_num, HK2.out, hZ1, hZ2, hb⟩, by simp [intOf]; omega⟩
        · have hko : kindOk x = false := by simp [kindOk]; omega
          have hm : checkM l = 7 := by
            rw [checkM_eq, if_neg]
            intro ha
            have := List.all_eq_true.1 ha x (List.mem_of_getElem? hx)
            rw [hko] at this
            cases this
          have HM' := Lib.hid hm; clear hm hko
          go_wp2
          go_ret
          exact ⟨ret_int HM'.out.symm, hb⟩
      · have hko : kindOk x = false := by simp [kindOk]; omega
        have hm : checkM l = 7 := by
          rw [checkM_eq, if_neg]
          intro ha
          have := List.all_eq_true.1 ha x (List.mem_of_getElem? hx)
          rw [hko] at this
          cases this
        have HM' := Lib.hid hm; clear hm hko
        go_wp2
        go_ret
        exact ⟨ret_int HM'.out.symm, hb⟩
    · have hok' : l.all kindOk = true := by
        have := HOK.out
        rwa [List.take_of_length_le (by omega)] at this
      have HOK' := Lib.hid hok'; clear hok' HOK
      go_wp2_with fail
      clear hlt
      go_loopw [6] (fun i wr => ∃ k : Nat, k ≤ l.length ∧ i = .int .i64 k ∧ (l.take k).all cleanItem = true ∧ wr.rangeAt w.heap.size 0 zB32.cells ∧ wr.rangeAt (w.heap.size + 1) 0 zLeaf.cells ∧ Below w.heap.size w wr) (fun i _ => l.length - (intOf i).toNat)
      case atStart => exact ⟨0, by omega, rfl, by simp, hZ1, hZ2, hb⟩
      case round =>
        clear hZ1 hZ2 hb hk
        obtain ⟨k, hk, rfl, hcl, hZ1, hZ2, hb⟩ := hrel
        have HCL := Lib.hid hcl; clear hcl
        by_cases hlt : k < l.length
        · have hx : l[k]? = some l[k] := by simp [hlt]
          generalize l[k] = x at hx
          obtain ⟨b, o, rfl, hrx⟩ := items_at (hr.below hb) hx
          have hc := hrx 0 _ (Item.cells_at0' _)
          rw [Nat.add_zero] at hc
          obtain ⟨hD, hL, _, _⟩ := Item.ranges hrx
          have HK1 := Lib.hid (all_take cleanItem l k x hx)
          have HBAD := Lib.hid (show cleanItem x = false → checkM l = 5 from fun h => by
            rw [checkM_eq, if_pos HOK'.out, if_neg]
            intro ha
            have := List.all_eq_true.1 ha x (List.mem_of_getElem? hx)
            rw [h] at this
            cases this)
          have hw : wr.drew.rangeAt b (o + k * 97 + 1) x.digest.cells := hD
          have hw2 : wr.drew.rangeAt b (o + k * 97 + 33) x.leaf.cells := hL
          have hz1 : wr.drew.rangeAt w.heap.size 0 zB32.cells := hZ1
          have hz2 : wr.drew.rangeAt (w.heap.size + 1) 0 zLeaf.cells := hZ2
          clear hrx hD hL
          have n3 : (x.kind != 3) = !(x.kind == 3) := rfl
          have n1 : (x.kind != 1) = !(x.kind == 1) := rfl
          have hcw : wr.drew.cell? ⟨b, o + k * 97, none⟩ = some (.int .i64 x.kind) := hc
          have H13 := Lib.hid (show (x.kind == 3) = true → (x.kind == 1) = false from fun h => by simp at h ⊢; omega)
          rcases Bool.eq_false_or_eq_true (x.kind == 3) with e3 | e3
          · have e1 := H13.out e3
            have E3 := Lib.hid e3
            have E1 := Lib.hid e1
            rw [e3] at n3
            rw [e1] at n1
            simp only [Bool.not_true, Bool.not_false] at n3 n1
            clear e1 e3
            by_cases hlz : x.leaf = zLeaf
            · have EL := Lib.hid hlz; clear hlz
              go_wp2_with fail
              refine wp_region_still_lit follows (by kernel_rfl) ?_
              (refine wpStill_run rfl (ex_move rfl rfl) ?_; simp only [Act.put, Act.eval, List.setIfInBounds_toArray, List.set_cons_zero, List.set_cons_succ, Array.getD_eq_getD_getElem?, List.getElem?_toArray, List.getElem?_cons_zero, List.getElem?_cons_succ, Option.getD_some])
              (refine wpStill_run rfl (ex_move rfl rfl) ?_; simp only [Act.put, Act.eval, List.setIfInBounds_toArray, List.set_cons_zero, List.set_cons_succ, Array.getD_eq_getD_getElem?, List.getElem?_toArray, List.getElem?_cons_zero, List.getElem?_cons_succ, Option.getD_some])
              (refine wpStill_run rfl (ex_index rfl Try.underlying22 size61 rfl rfl (by omega) (by omega)) ?_; simp only [Act.put, Act.eval, List.setIfInBounds_toArray, List.set_cons_zero, List.set_cons_succ, Array.getD_eq_getD_getElem?, List.getElem?_toArray, List.getElem?_cons_zero, List.getElem?_cons_succ, Option.getD_some])
              (refine wpStill_run rfl (exItemKind rfl rfl) ?_; simp only [Act.put, Act.eval, List.setIfInBounds_toArray, List.set_cons_zero, List.set_cons_succ, Array.getD_eq_getD_getElem?, List.getElem?_toArray, List.getElem?_cons_zero, List.getElem?_cons_succ, Option.getD_some])
              (refine wpStill_run rfl (ex_load_cell rfl rfl hcw Try.underlying3 rfl) ?_; simp only [Act.put, Act.eval, List.setIfInBounds_toArray, List.set_cons_zero, List.set_cons_succ, Array.getD_eq_getD_getElem?, List.getElem?_toArray, List.getElem?_cons_zero, List.getElem?_cons_succ, Option.getD_some])
              (refine wpStill_run rfl (ex_neqI rfl rfl rfl n3) ?_; simp only [Act.put, Act.eval, List.setIfInBounds_toArray, List.set_cons_zero, List.set_cons_succ, Array.getD_eq_getD_getElem?, List.getElem?_toArray, List.getElem?_cons_zero, List.getElem?_cons_succ, Option.getD_some])
              (refine wpStill_run rfl (ex_move rfl rfl) ?_; simp only [Act.put, Act.eval, List.setIfInBounds_toArray, List.set_cons_zero, List.set_cons_succ, Array.getD_eq_getD_getElem?, List.getElem?_toArray, List.getElem?_cons_zero, List.getElem?_cons_succ, Option.getD_some])
              (refine wpStill_skip (by kernel_rfl) ?_; simp only [Act.put, Act.eval, List.setIfInBounds_toArray, List.set_cons_zero, List.set_cons_succ, Array.getD_eq_getD_getElem?, List.getElem?_toArray, List.getElem?_cons_zero, List.getElem?_cons_succ, Option.getD_some])
              (refine wpStill_skip (by kernel_rfl) ?_; simp only [Act.put, Act.eval, List.setIfInBounds_toArray, List.set_cons_zero, List.set_cons_succ, Array.getD_eq_getD_getElem?, List.getElem?_toArray, List.getElem?_cons_zero, List.getElem?_cons_succ, Option.getD_some])
              (refine wpStill_skip (by kernel_rfl) ?_; simp only [Act.put, Act.eval, List.setIfInBounds_toArray, List.set_cons_zero, List.set_cons_succ, Array.getD_eq_getD_getElem?, List.getElem?_toArray, List.getElem?_cons_zero, List.getElem?_cons_succ, Option.getD_some])
              (refine wpStill_skip (by kernel_rfl) ?_; simp only [Act.put, Act.eval, List.setIfInBounds_toArray, List.set_cons_zero, List.set_cons_succ, Array.getD_eq_getD_getElem?, List.getElem?_toArray, List.getElem?_cons_zero, List.getElem?_cons_succ, Option.getD_some])
              (refine wpStill_skip (by kernel_rfl) ?_; simp only [Act.put, Act.eval, List.setIfInBounds_toArray, List.set_cons_zero, List.set_cons_succ, Array.getD_eq_getD_getElem?, List.getElem?_toArray, List.getElem?_cons_zero, List.getElem?_cons_succ, Option.getD_some])
              (refine wpStill_skip (by kernel_rfl) ?_; simp only [Act.put, Act.eval, List.setIfInBounds_toArray, List.set_cons_zero, List.set_cons_succ, Array.getD_eq_getD_getElem?, List.getElem?_toArray, List.getElem?_cons_zero, List.getElem?_cons_succ, Option.getD_some])
              (refine wpStill_skip (by kernel_rfl) ?_; simp only [Act.put, Act.eval, List.setIfInBounds_toArray, List.set_cons_zero, List.set_cons_succ, Array.getD_eq_getD_getElem?, List.getElem?_toArray, List.getElem?_cons_zero, List.getElem?_cons_succ, Option.getD_some])
              (refine wpStill_run rfl (ex_pick rfl rfl rfl) ?_; simp only [Act.put, Act.eval, List.setIfInBounds_toArray, List.set_cons_zero, List.set_cons_succ, Array.getD_eq_getD_getElem?, List.getElem?_toArray, List.getElem?_cons_zero, List.getElem?_cons_succ, Option.getD_some])
              (refine wpStill_run rfl (ex_move rfl rfl) ?_; simp only [Act.put, Act.eval, List.setIfInBounds_toArray, List.set_cons_zero, List.set_cons_succ, Array.getD_eq_getD_getElem?, List.getElem?_toArray, List.getElem?_cons_zero, List.getElem?_cons_succ, Option.getD_some])
              (refine wpStill_runG (by kernel_rfl) (ex_move rfl rfl) ?_; simp only [Act.put, Act.eval, List.setIfInBounds_toArray, List.set_cons_zero, List.set_cons_succ, Array.getD_eq_getD_getElem?, List.getElem?_toArray, List.getElem?_cons_zero, List.getElem?_cons_succ, Option.getD_some])
              (refine wpStill_runG (by kernel_rfl) (ex_move rfl rfl) ?_; simp only [Act.put, Act.eval, List.setIfInBounds_toArray, List.set_cons_zero, List.set_cons_succ, Array.getD_eq_getD_getElem?, List.getElem?_toArray, List.getElem?_cons_zero, List.getElem?_cons_succ, Option.getD_some])
              (refine wpStill_runG (by kernel_rfl) (ex_index rfl Try.underlying22 size61 rfl rfl (by omega) (by omega)) ?_; simp only [Act.put, Act.eval, List.setIfInBounds_toArray, List.set_cons_zero, List.set_cons_succ, Array.getD_eq_getD_getElem?, List.getElem?_toArray, List.getElem?_cons_zero, List.getElem?_cons_succ, Option.getD_some])
              (refine wpStill_runG (by kernel_rfl) (exItemKind rfl rfl) ?_; simp only [Act.put, Act.eval, List.setIfInBounds_toArray, List.set_cons_zero, List.set_cons_succ, Array.getD_eq_getD_getElem?, List.getElem?_toArray, List.getElem?_cons_zero, List.getElem?_cons_succ, Option.getD_some])
              (refine wpStill_runG (by kernel_rfl) (ex_load_cell rfl rfl hcw Try.underlying3 rfl) ?_; simp only [Act.put, Act.eval, List.setIfInBounds_toArray, List.set_cons_zero, List.set_cons_succ, Array.getD_eq_getD_getElem?, List.getElem?_toArray, List.getElem?_cons_zero, List.getElem?_cons_succ, Option.getD_some])
              (refine wpStill_runG (by kernel_rfl) (ex_neqI rfl rfl rfl n1) ?_; simp only [Act.put, Act.eval, List.setIfInBounds_toArray, List.set_cons_zero, List.set_cons_succ, Array.getD_eq_getD_getElem?, List.getElem?_toArray, List.getElem?_cons_zero, List.getElem?_cons_succ, Option.getD_some])
              (refine wpStill_runG (by kernel_rfl) (ex_move rfl rfl) ?_; simp only [Act.put, Act.eval, List.setIfInBounds_toArray, List.set_cons_zero, List.set_cons_succ, Array.getD_eq_getD_getElem?, List.getElem?_toArray, List.getElem?_cons_zero, List.getElem?_cons_succ, Option.getD_some])
              (refine wpStill_runG (by kernel_rfl) (ex_move rfl rfl) ?_; simp only [Act.put, Act.eval, List.setIfInBounds_toArray, List.set_cons_zero, List.set_cons_succ, Array.getD_eq_getD_getElem?, List.getElem?_toArray, List.getElem?_cons_zero, List.getElem?_cons_succ, Option.getD_some])
              (refine wpStill_runG (by kernel_rfl) (ex_move rfl rfl) ?_; simp only [Act.put, Act.eval, List.setIfInBounds_toArray, List.set_cons_zero, List.set_cons_succ, Array.getD_eq_getD_getElem?, List.getElem?_toArray, List.getElem?_cons_zero, List.getElem?_cons_succ, Option.getD_some])
              (refine wpStill_runG (by kernel_rfl) (ex_index rfl Try.underlying22 size61 rfl rfl (by omega) (by omega)) ?_; simp only [Act.put, Act.eval, List.setIfInBounds_toArray, List.set_cons_zero, List.set_cons_succ, Array.getD_eq_getD_getElem?, List.getElem?_toArray, List.getElem?_cons_zero, List.getElem?_cons_succ, Option.getD_some])
              (refine wpStill_runG (by kernel_rfl) (exItemLeaf rfl rfl) ?_; simp only [Act.put, Act.eval, List.setIfInBounds_toArray, List.set_cons_zero, List.set_cons_succ, Array.getD_eq_getD_getElem?, List.getElem?_toArray, List.getElem?_cons_zero, List.getElem?_cons_succ, Option.getD_some])
              (refine wpStill_runG (by kernel_rfl) (ex_load_row rfl rfl hw2 Try.underlying45 rfl (by rw [Leaf.cells_length]; exact size45)) ?_; simp only [Act.put, Act.eval, List.setIfInBounds_toArray, List.set_cons_zero, List.set_cons_succ, Array.getD_eq_getD_getElem?, List.getElem?_toArray, List.getElem?_cons_zero, List.getElem?_cons_succ, Option.getD_some])
              (refine wpStill_runG (by kernel_rfl) (ex_load_row rfl rfl hz2 Try.underlying45 rfl (by rw [Leaf.cells_length]; exact size45)) ?_; simp only [Act.put, Act.eval, List.setIfInBounds_toArray, List.set_cons_zero, List.set_cons_succ, Array.getD_eq_getD_getElem?, List.getElem?_toArray, List.getElem?_cons_zero, List.getElem?_cons_succ, Option.getD_some])
              (refine wpStill_runG (by kernel_rfl) (ex_neq rfl rfl rfl Try.eqGuardType45 ((neqLeaf x.leaf zLeaf).trans (by rw [show (!decide (x.leaf = zLeaf)) = false by simp [EL.out]]))) ?_; simp only [Act.put, Act.eval, List.setIfInBounds_toArray, List.set_cons_zero, List.set_cons_succ, Array.getD_eq_getD_getElem?, List.getElem?_toArray, List.getElem?_cons_zero, List.getElem?_cons_succ, Option.getD_some])
              (refine wpStill_runG (by kernel_rfl) (ex_pick rfl rfl rfl) ?_; simp only [Act.put, Act.eval, List.setIfInBounds_toArray, List.set_cons_zero, List.set_cons_succ, Array.getD_eq_getD_getElem?, List.getElem?_toArray, List.getElem?_cons_zero, List.getElem?_cons_succ, Option.getD_some])
              (refine wpStill_run rfl (ex_pick rfl rfl rfl) ?_; simp only [Act.put, Act.eval, List.setIfInBounds_toArray, List.set_cons_zero, List.set_cons_succ, Array.getD_eq_getD_getElem?, List.getElem?_toArray, List.getElem?_cons_zero, List.getElem?_cons_succ, Option.getD_some])
              refine wpStill_nil ?_
              go_wp2
              refine ⟨⟨k + 1, by omega, by go_num, by rw [HK1.out, HCL.out]; simp [cleanItem, E3.out, E1.out, EL.out], hZ1, hZ2, bdrew hb⟩, by simp [intOf]; omega⟩
            · have EL := Lib.hid hlz; clear hlz
              go_wp2_with fail
              refine wp_region_still_lit follows (by kernel_rfl) ?_
              (refine wpStill_run rfl (ex_move rfl rfl) ?_; simp only [Act.put, Act.eval, List.setIfInBounds_toArray, List.set_cons_zero, List.set_cons_succ, Array.getD_eq_getD_getElem?, List.getElem?_toArray, List.getElem?_cons_zero, List.getElem?_cons_succ, Option.getD_some])
              (refine wpStill_run rfl (ex_move rfl rfl) ?_; simp only [Act.put, Act.eval, List.setIfInBounds_toArray, List.set_cons_zero, List.set_cons_succ, Array.getD_eq_getD_getElem?, List.getElem?_toArray, List.getElem?_cons_zero, List.getElem?_cons_succ, Option.getD_some])
              (refine wpStill_run rfl (ex_index rfl Try.underlying22 size61 rfl rfl (by omega) (by omega)) ?_; simp only [Act.put, Act.eval, List.setIfInBounds_toArray, List.set_cons_zero, List.set_cons_succ, Array.getD_eq_getD_getElem?, List.getElem?_toArray, List.getElem?_cons_zero, List.getElem?_cons_succ, Option.getD_some])
              (refine wpStill_run rfl (exItemKind rfl rfl) ?_; simp only [Act.put, Act.eval, List.setIfInBounds_toArray, List.set_cons_zero, List.set_cons_succ, Array.getD_eq_getD_getElem?, List.getElem?_toArray, List.getElem?_cons_zero, List.getElem?_cons_succ, Option.getD_some])
              (refine wpStill_run rfl (ex_load_cell rfl rfl hcw Try.underlying3 rfl) ?_; simp only [Act.put, Act.eval, List.setIfInBounds_toArray, List.set_cons_zero, List.set_cons_succ, Array.getD_eq_getD_getElem?, List.getElem?_toArray, List.getElem?_cons_zero, List.getElem?_cons_succ, Option.getD_some])
              (refine wpStill_run rfl (ex_neqI rfl rfl rfl n3) ?_; simp only [Act.put, Act.eval, List.setIfInBounds_toArray, List.set_cons_zero, List.set_cons_succ, Array.getD_eq_getD_getElem?, List.getElem?_toArray, List.getElem?_cons_zero, List.getElem?_cons_succ, Option.getD_some])
              (refine wpStill_run rfl (ex_move rfl rfl) ?_; simp only [Act.put, Act.eval, List.setIfInBounds_toArray, List.set_cons_zero, List.set_cons_succ, Array.getD_eq_getD_getElem?, List.getElem?_toArray, List.getElem?_cons_zero, List.getElem?_cons_succ, Option.getD_some])
              (refine wpStill_skip (by kernel_rfl) ?_; simp only [Act.put, Act.eval, List.setIfInBounds_toArray, List.set_cons_zero, List.set_cons_succ, Array.getD_eq_getD_getElem?, List.getElem?_toArray, List.getElem?_cons_zero, List.getElem?_cons_succ, Option.getD_some])
              (refine wpStill_skip (by kernel_rfl) ?_; simp only [Act.put, Act.eval, List.setIfInBounds_toArray, List.set_cons_zero, List.set_cons_succ, Array.getD_eq_getD_getElem?, List.getElem?_toArray, List.getElem?_cons_zero, List.getElem?_cons_succ, Option.getD_some])
              (refine wpStill_skip (by kernel_rfl) ?_; simp only [Act.put, Act.eval, List.setIfInBounds_toArray, List.set_cons_zero, List.set_cons_succ, Array.getD_eq_getD_getElem?, List.getElem?_toArray, List.getElem?_cons_zero, List.getElem?_cons_succ, Option.getD_some])
              (refine wpStill_skip (by kernel_rfl) ?_; simp only [Act.put, Act.eval, List.setIfInBounds_toArray, List.set_cons_zero, List.set_cons_succ, Array.getD_eq_getD_getElem?, List.getElem?_toArray, List.getElem?_cons_zero, List.getElem?_cons_succ, Option.getD_some])
              (refine wpStill_skip (by kernel_rfl) ?_; simp only [Act.put, Act.eval, List.setIfInBounds_toArray, List.set_cons_zero, List.set_cons_succ, Array.getD_eq_getD_getElem?, List.getElem?_toArray, List.getElem?_cons_zero, List.getElem?_cons_succ, Option.getD_some])
              (refine wpStill_skip (by kernel_rfl) ?_; simp only [Act.put, Act.eval, List.setIfInBounds_toArray, List.set_cons_zero, List.set_cons_succ, Array.getD_eq_getD_getElem?, List.getElem?_toArray, List.getElem?_cons_zero, List.getElem?_cons_succ, Option.getD_some])
              (refine wpStill_skip (by kernel_rfl) ?_; simp only [Act.put, Act.eval, List.setIfInBounds_toArray, List.set_cons_zero, List.set_cons_succ, Array.getD_eq_getD_getElem?, List.getElem?_toArray, List.getElem?_cons_zero, List.getElem?_cons_succ, Option.getD_some])
              (refine wpStill_run rfl (ex_pick rfl rfl rfl) ?_; simp only [Act.put, Act.eval, List.setIfInBounds_toArray, List.set_cons_zero, List.set_cons_succ, Array.getD_eq_getD_getElem?, List.getElem?_toArray, List.getElem?_cons_zero, List.getElem?_cons_succ, Option.getD_some])
              (refine wpStill_run rfl (ex_move rfl rfl) ?_; simp only [Act.put, Act.eval, List.setIfInBounds_toArray, List.set_cons_zero, List.set_cons_succ, Array.getD_eq_getD_getElem?, List.getElem?_toArray, List.getElem?_cons_zero, List.getElem?_cons_succ, Option.getD_some])
              (refine wpStill_runG (by kernel_rfl) (ex_move rfl rfl) ?_; simp only [Act.put, Act.eval, List.setIfInBounds_toArray, List.set_cons_zero, List.set_cons_succ, Array.getD_eq_getD_getElem?, List.getElem?_toArray, List.getElem?_cons_zero, List.getElem?_cons_succ, Option.getD_some])
              (refine wpStill_runG (by kernel_rfl) (ex_move rfl rfl) ?_; simp only [Act.put, Act.eval, List.setIfInBounds_toArray, List.set_cons_zero, List.set_cons_succ, Array.getD_eq_getD_getElem?, List.getElem?_toArray, List.getElem?_cons_zero, List.getElem?_cons_succ, Option.getD_some])
              (refine wpStill_runG (by kernel_rfl) (ex_index rfl Try.underlying22 size61 rfl rfl (by omega) (by omega)) ?_; simp only [Act.put, Act.eval, List.setIfInBounds_toArray, List.set_cons_zero, List.set_cons_succ, Array.getD_eq_getD_getElem?, List.getElem?_toArray, List.getElem?_cons_zero, List.getElem?_cons_succ, Option.getD_some])
              (refine wpStill_runG (by kernel_rfl) (exItemKind rfl rfl) ?_; simp only [Act.put, Act.eval, List.setIfInBounds_toArray, List.set_cons_zero, List.set_cons_succ, Array.getD_eq_getD_getElem?, List.getElem?_toArray, List.getElem?_cons_zero, List.getElem?_cons_succ, Option.getD_some])
              (refine wpStill_runG (by kernel_rfl) (ex_load_cell rfl rfl hcw Try.underlying3 rfl) ?_; simp only [Act.put, Act.eval, List.setIfInBounds_toArray, List.set_cons_zero, List.set_cons_succ, Array.getD_eq_getD_getElem?, List.getElem?_toArray, List.getElem?_cons_zero, List.getElem?_cons_succ, Option.getD_some])
              (refine wpStill_runG (by kernel_rfl) (ex_neqI rfl rfl rfl n1) ?_; simp only [Act.put, Act.eval, List.setIfInBounds_toArray, List.set_cons_zero, List.set_cons_succ, Array.getD_eq_getD_getElem?, List.getElem?_toArray, List.getElem?_cons_zero, List.getElem?_cons_succ, Option.getD_some])
              (refine wpStill_runG (by kernel_rfl) (ex_move rfl rfl) ?_; simp only [Act.put, Act.eval, List.setIfInBounds_toArray, List.set_cons_zero, List.set_cons_succ, Array.getD_eq_getD_getElem?, List.getElem?_toArray, List.getElem?_cons_zero, List.getElem?_cons_succ, Option.getD_some])
              (refine wpStill_runG (by kernel_rfl) (ex_move rfl rfl) ?_; simp only [Act.put, Act.eval, List.setIfInBounds_toArray, List.set_cons_zero, List.set_cons_succ, Array.getD_eq_getD_getElem?, List.getElem?_toArray, List.getElem?_cons_zero, List.getElem?_cons_succ, Option.getD_some])
              (refine wpStill_runG (by kernel_rfl) (ex_move rfl rfl) ?_; simp only [Act.put, Act.eval, List.setIfInBounds_toArray, List.set_cons_zero, List.set_cons_succ, Array.getD_eq_getD_getElem?, List.getElem?_toArray, List.getElem?_cons_zero, List.getElem?_cons_succ, Option.getD_some])
              (refine wpStill_runG (by kernel_rfl) (ex_index rfl Try.underlying22 size61 rfl rfl (by omega) (by omega)) ?_; simp only [Act.put, Act.eval, List.setIfInBounds_toArray, List.set_cons_zero, List.set_cons_succ, Array.getD_eq_getD_getElem?, List.getElem?_toArray, List.getElem?_cons_zero, List.getElem?_cons_succ, Option.getD_some])
              (refine wpStill_runG (by kernel_rfl) (exItemLeaf rfl rfl) ?_; simp only [Act.put, Act.eval, List.setIfInBounds_toArray, List.set_cons_zero, List.set_cons_succ, Array.getD_eq_getD_getElem?, List.getElem?_toArray, List.getElem?_cons_zero, List.getElem?_cons_succ, Option.getD_some])
              (refine wpStill_runG (by kernel_rfl) (ex_load_row rfl rfl hw2 Try.underlying45 rfl (by rw [Leaf.cells_length]; exact size45)) ?_; simp only [Act.put, Act.eval, List.setIfInBounds_toArray, List.set_cons_zero, List.set_cons_succ, Array.getD_eq_getD_getElem?, List.getElem?_toArray, List.getElem?_cons_zero, List.getElem?_cons_succ, Option.getD_some])
              (refine wpStill_runG (by kernel_rfl) (ex_load_row rfl rfl hz2 Try.underlying45 rfl (by rw [Leaf.cells_length]; exact size45)) ?_; simp only [Act.put, Act.eval, List.setIfInBounds_toArray, List.set_cons_zero, List.set_cons_succ, Array.getD_eq_getD_getElem?, List.getElem?_toArray, List.getElem?_cons_zero, List.getElem?_cons_succ, Option.getD_some])
              (refine wpStill_runG (by kernel_rfl) (ex_neq rfl rfl rfl Try.eqGuardType45 ((neqLeaf x.leaf zLeaf).trans (by rw [show (!decide (x.leaf = zLeaf)) = true by simp [EL.out]]))) ?_; simp only [Act.put, Act.eval, List.setIfInBounds_toArray, List.set_cons_zero, List.set_cons_succ, Array.getD_eq_getD_getElem?, List.getElem?_toArray, List.getElem?_cons_zero, List.getElem?_cons_succ, Option.getD_some])
              (refine wpStill_runG (by kernel_rfl) (ex_pick rfl rfl rfl) ?_; simp only [Act.put, Act.eval, List.setIfInBounds_toArray, List.set_cons_zero, List.set_cons_succ, Array.getD_eq_getD_getElem?, List.getElem?_toArray, List.getElem?_cons_zero, List.getElem?_cons_succ, Option.getD_some])
              (refine wpStill_run rfl (ex_pick rfl rfl rfl) ?_; simp only [Act.put, Act.eval, List.setIfInBounds_toArray, List.set_cons_zero, List.set_cons_succ, Array.getD_eq_getD_getElem?, List.getElem?_toArray, List.getElem?_cons_zero, List.getElem?_cons_succ, Option.getD_some])
              refine wpStill_nil ?_
              go_wp2
              go_ret
              exact ⟨ret_int (HBAD.out (by simp [cleanItem, E3.out, E1.out, EL.out])).symm, bdrew hb⟩
          · have E3 := Lib.hid e3
            rw [e3] at n3
            simp only [Bool.not_false] at n3
            clear e3
            by_cases hdz : x.digest = zB32
            · have ED := Lib.hid hdz; clear hdz
              rcases Bool.eq_false_or_eq_true (x.kind == 1) with e1 | e1
              · have E1 := Lib.hid e1
                rw [e1] at n1
                simp only [Bool.not_true] at n1
                clear e1
                go_wp2_with fail
                refine wp_region_still_lit follows (by kernel_rfl) ?_
                (refine wpStill_run rfl (ex_move rfl rfl) ?_; simp only [Act.put, Act.eval, List.setIfInBounds_toArray, List.set_cons_zero, List.set_cons_succ, Array.getD_eq_getD_getElem?, List.getElem?_toArray, List.getElem?_cons_zero, List.getElem?_cons_succ, Option.getD_some])
                (refine wpStill_run rfl (ex_move rfl rfl) ?_; simp only [Act.put, Act.eval, List.setIfInBounds_toArray, List.set_cons_zero, List.set_cons_succ, Array.getD_eq_getD_getElem?, List.getElem?_toArray, List.getElem?_cons_zero, List.getElem?_cons_succ, Option.getD_some])
                (refine wpStill_run rfl (ex_index rfl Try.underlying22 size61 rfl rfl (by omega) (by omega)) ?_; simp only [Act.put, Act.eval, List.setIfInBounds_toArray, List.set_cons_zero, List.set_cons_succ, Array.getD_eq_getD_getElem?, List.getElem?_toArray, List.getElem?_cons_zero, List.getElem?_cons_succ, Option.getD_some])
                (refine wpStill_run rfl (exItemKind rfl rfl) ?_; simp only [Act.put, Act.eval, List.setIfInBounds_toArray, List.set_cons_zero, List.set_cons_succ, Array.getD_eq_getD_getElem?, List.getElem?_toArray, List.getElem?_cons_zero, List.getElem?_cons_succ, Option.getD_some])
                (refine wpStill_run rfl (ex_load_cell rfl rfl hcw Try.underlying3 rfl) ?_; simp only [Act.put, Act.eval, List.setIfInBounds_toArray, List.set_cons_zero, List.set_cons_succ, Array.getD_eq_getD_getElem?, List.getElem?_toArray, List.getElem?_cons_zero, List.getElem?_cons_succ, Option.getD_some])
                (refine wpStill_run rfl (ex_neqI rfl rfl rfl n3) ?_; simp only [Act.put, Act.eval, List.setIfInBounds_toArray, List.set_cons_zero, List.set_cons_succ, Array.getD_eq_getD_getElem?, List.getElem?_toArray, List.getElem?_cons_zero, List.getElem?_cons_succ, Option.getD_some])
                (refine wpStill_run rfl (ex_move rfl rfl) ?_; simp only [Act.put, Act.eval, List.setIfInBounds_toArray, List.set_cons_zero, List.set_cons_succ, Array.getD_eq_getD_getElem?, List.getElem?_toArray, List.getElem?_cons_zero, List.getElem?_cons_succ, Option.getD_some])
                (refine wpStill_runG (by kernel_rfl) (ex_move rfl rfl) ?_; simp only [Act.put, Act.eval, List.setIfInBounds_toArray, List.set_cons_zero, List.set_cons_succ, Array.getD_eq_getD_getElem?, List.getElem?_toArray, List.getElem?_cons_zero, List.getElem?_cons_succ, Option.getD_some])
                (refine wpStill_runG (by kernel_rfl) (ex_move rfl rfl) ?_; simp only [Act.put, Act.eval, List.setIfInBounds_toArray, List.set_cons_zero, List.set_cons_succ, Array.getD_eq_getD_getElem?, List.getElem?_toArray, List.getElem?_cons_zero, List.getElem?_cons_succ, Option.getD_some])
                (refine wpStill_runG (by kernel_rfl) (ex_index rfl Try.underlying22 size61 rfl rfl (by omega) (by omega)) ?_; simp only [Act.put, Act.eval, List.setIfInBounds_toArray, List.set_cons_zero, List.set_cons_succ, Array.getD_eq_getD_getElem?, List.getElem?_toArray, List.getElem?_cons_zero, List.getElem?_cons_succ, Option.getD_some])
                (refine wpStill_runG (by kernel_rfl) (exItemDigest rfl rfl) ?_; simp only [Act.put, Act.eval, List.setIfInBounds_toArray, List.set_cons_zero, List.set_cons_succ, Array.getD_eq_getD_getElem?, List.getElem?_toArray, List.getElem?_cons_zero, List.getElem?_cons_succ, Option.getD_some])
                (refine wpStill_runG (by kernel_rfl) (ex_load_row rfl rfl hw Try.underlying43 rfl (by rw [B32.cells_length]; exact size43)) ?_; simp only [Act.put, Act.eval, List.setIfInBounds_toArray, List.set_cons_zero, List.set_cons_succ, Array.getD_eq_getD_getElem?, List.getElem?_toArray, List.getElem?_cons_zero, List.getElem?_cons_succ, Option.getD_some])
                (refine wpStill_runG (by kernel_rfl) (ex_load_row rfl rfl hz1 Try.underlying43 rfl (by rw [B32.cells_length]; exact size43)) ?_; simp only [Act.put, Act.eval, List.setIfInBounds_toArray, List.set_cons_zero, List.set_cons_succ, Array.getD_eq_getD_getElem?, List.getElem?_toArray, List.getElem?_cons_zero, List.getElem?_cons_succ, Option.getD_some])
                (refine wpStill_runG (by kernel_rfl) (ex_neq rfl rfl rfl Try.eqGuardType43 ((neqDigest x.digest zB32).trans (by rw [show (!decide (x.digest = zB32)) = false by simp [ED.out]]))) ?_; simp only [Act.put, Act.eval, List.setIfInBounds_toArray, List.set_cons_zero, List.set_cons_succ, Array.getD_eq_getD_getElem?, List.getElem?_toArray, List.getElem?_cons_zero, List.getElem?_cons_succ, Option.getD_some])
                (refine wpStill_run rfl (ex_pick rfl rfl rfl) ?_; simp only [Act.put, Act.eval, List.setIfInBounds_toArray, List.set_cons_zero, List.set_cons_succ, Array.getD_eq_getD_getElem?, List.getElem?_toArray, List.getElem?_cons_zero, List.getElem?_cons_succ, Option.getD_some])
                (refine wpStill_run rfl (ex_move rfl rfl) ?_; simp only [Act.put, Act.eval, List.setIfInBounds_toArray, List.set_cons_zero, List.set_cons_succ, Array.getD_eq_getD_getElem?, List.getElem?_toArray, List.getElem?_cons_zero, List.getElem?_cons_succ, Option.getD_some])
                (refine wpStill_runG (by kernel_rfl) (ex_move rfl rfl) ?_; simp only [Act.put, Act.eval, List.setIfInBounds_toArray, List.set_cons_zero, List.set_cons_succ, Array.getD_eq_getD_getElem?, List.getElem?_toArray, List.getElem?_cons_zero, List.getElem?_cons_succ, Option.getD_some])
                (refine wpStill_runG (by kernel_rfl) (ex_move rfl rfl) ?_; simp only [Act.put, Act.eval, List.setIfInBounds_toArray, List.set_cons_zero, List.set_cons_succ, Array.getD_eq_getD_getElem?, List.getElem?_toArray, List.getElem?_cons_zero, List.getElem?_cons_succ, Option.getD_some])
                (refine wpStill_runG (by kernel_rfl) (ex_index rfl Try.underlying22 size61 rfl rfl (by omega) (by omega)) ?_; simp only [Act.put, Act.eval, List.setIfInBounds_toArray, List.set_cons_zero, List.set_cons_succ, Array.getD_eq_getD_getElem?, List.getElem?_toArray, List.getElem?_cons_zero, List.getElem?_cons_succ, Option.getD_some])
                (refine wpStill_runG (by kernel_rfl) (exItemKind rfl rfl) ?_; simp only [Act.put, Act.eval, List.setIfInBounds_toArray, List.set_cons_zero, List.set_cons_succ, Array.getD_eq_getD_getElem?, List.getElem?_toArray, List.getElem?_cons_zero, List.getElem?_cons_succ, Option.getD_some])
                (refine wpStill_runG (by kernel_rfl) (ex_load_cell rfl rfl hcw Try.underlying3 rfl) ?_; simp only [Act.put, Act.eval, List.setIfInBounds_toArray, List.set_cons_zero, List.set_cons_succ, Array.getD_eq_getD_getElem?, List.getElem?_toArray, List.getElem?_cons_zero, List.getElem?_cons_succ, Option.getD_some])
                (refine wpStill_runG (by kernel_rfl) (ex_neqI rfl rfl rfl n1) ?_; simp only [Act.put, Act.eval, List.setIfInBounds_toArray, List.set_cons_zero, List.set_cons_succ, Array.getD_eq_getD_getElem?, List.getElem?_toArray, List.getElem?_cons_zero, List.getElem?_cons_succ, Option.getD_some])
                (refine wpStill_runG (by kernel_rfl) (ex_move rfl rfl) ?_; simp only [Act.put, Act.eval, List.setIfInBounds_toArray, List.set_cons_zero, List.set_cons_succ, Array.getD_eq_getD_getElem?, List.getElem?_toArray, List.getElem?_cons_zero, List.getElem?_cons_succ, Option.getD_some])
                (refine wpStill_skip (by kernel_rfl) ?_; simp only [Act.put, Act.eval, List.setIfInBounds_toArray, List.set_cons_zero, List.set_cons_succ, Array.getD_eq_getD_getElem?, List.getElem?_toArray, List.getElem?_cons_zero, List.getElem?_cons_succ, Option.getD_some])
                (refine wpStill_skip (by kernel_rfl) ?_; simp only [Act.put, Act.eval, List.setIfInBounds_toArray, List.set_cons_zero, List.set_cons_succ, Array.getD_eq_getD_getElem?, List.getElem?_toArray, List.getElem?_cons_zero, List.getElem?_cons_succ, Option.getD_some])
                (refine wpStill_skip (by kernel_rfl) ?_; simp only [Act.put, Act.eval, List.setIfInBounds_toArray, List.set_cons_zero, List.set_cons_succ, Array.getD_eq_getD_getElem?, List.getElem?_toArray, List.getElem?_cons_zero, List.getElem?_cons_succ, Option.getD_some])
                (refine wpStill_skip (by kernel_rfl) ?_; simp only [Act.put, Act.eval, List.setIfInBounds_toArray, List.set_cons_zero, List.set_cons_succ, Array.getD_eq_getD_getElem?, List.getElem?_toArray, List.getElem?_cons_zero, List.getElem?_cons_succ, Option.getD_some])
                (refine wpStill_skip (by kernel_rfl) ?_; simp only [Act.put, Act.eval, List.setIfInBounds_toArray, List.set_cons_zero, List.set_cons_succ, Array.getD_eq_getD_getElem?, List.getElem?_toArray, List.getElem?_cons_zero, List.getElem?_cons_succ, Option.getD_some])
                (refine wpStill_skip (by kernel_rfl) ?_; simp only [Act.put, Act.eval, List.setIfInBounds_toArray, List.set_cons_zero, List.set_cons_succ, Array.getD_eq_getD_getElem?, List.getElem?_toArray, List.getElem?_cons_zero, List.getElem?_cons_succ, Option.getD_some])
                (refine wpStill_skip (by kernel_rfl) ?_; simp only [Act.put, Act.eval, List.setIfInBounds_toArray, List.set_cons_zero, List.set_cons_succ, Array.getD_eq_getD_getElem?, List.getElem?_toArray, List.getElem?_cons_zero, List.getElem?_cons_succ, Option.getD_some])
                (refine wpStill_runG (by kernel_rfl) (ex_pick rfl rfl rfl) ?_; simp only [Act.put, Act.eval, List.setIfInBounds_toArray, List.set_cons_zero, List.set_cons_succ, Array.getD_eq_getD_getElem?, List.getElem?_toArray, List.getElem?_cons_zero, List.getElem?_cons_succ, Option.getD_some])
                (refine wpStill_run rfl (ex_pick rfl rfl rfl) ?_; simp only [Act.put, Act.eval, List.setIfInBounds_toArray, List.set_cons_zero, List.set_cons_succ, Array.getD_eq_getD_getElem?, List.getElem?_toArray, List.getElem?_cons_zero, List.getElem?_cons_succ, Option.getD_some])
                refine wpStill_nil ?_
                go_wp2
                refine ⟨⟨k + 1, by omega, by go_num, by rw [HK1.out, HCL.out]; simp [cleanItem, E3.out, ED.out, E1.out], hZ1, hZ2, bdrew hb⟩, by simp [intOf]; omega⟩
              · have E1 := Lib.hid e1
                rw [e1] at n1
                simp only [Bool.not_false] at n1
                clear e1
                by_cases hlz : x.leaf = zLeaf
                · have EL := Lib.hid hlz; clear hlz
                  go_wp2_with fail
                  refine wp_region_still_lit follows (by kernel_rfl) ?_
                  (refine wpStill_run rfl (ex_move rfl rfl) ?_; simp only [Act.put, Act.eval, List.setIfInBounds_toArray, List.set_cons_zero, List.set_cons_succ, Array.getD_eq_getD_getElem?, List.getElem?_toArray, List.getElem?_cons_zero, List.getElem?_cons_succ, Option.getD_some])
                  (refine wpStill_run rfl (ex_move rfl rfl) ?_; simp only [Act.put, Act.eval, List.setIfInBounds_toArray, List.set_cons_zero, List.set_cons_succ, Array.getD_eq_getD_getElem?, List.getElem?_toArray, List.getElem?_cons_zero, List.getElem?_cons_succ, Option.getD_some])
                  (refine wpStill_run rfl (ex_index rfl Try.underlying22 size61 rfl rfl (by omega) (by omega)) ?_; simp only [Act.put, Act.eval, List.setIfInBounds_toArray, List.set_cons_zero, List.set_cons_succ, Array.getD_eq_getD_getElem?, List.getElem?_toArray, List.getElem?_cons_zero, List.getElem?_cons_succ, Option.getD_some])
                  (refine wpStill_run rfl (exItemKind rfl rfl) ?_; simp only [Act.put, Act.eval, List.setIfInBounds_toArray, List.set_cons_zero, List.set_cons_succ, Array.getD_eq_getD_getElem?, List.getElem?_toArray, List.getElem?_cons_zero, List.getElem?_cons_succ, Option.getD_some])
                  (refine wpStill_run rfl (ex_load_cell rfl rfl hcw Try.underlying3 rfl) ?_; simp only [Act.put, Act.eval, List.setIfInBounds_toArray, List.set_cons_zero, List.set_cons_succ, Array.getD_eq_getD_getElem?, List.getElem?_toArray, List.getElem?_cons_zero, List.getElem?_cons_succ, Option.getD_some])
                  (refine wpStill_run rfl (ex_neqI rfl rfl rfl n3) ?_; simp only [Act.put, Act.eval, List.setIfInBounds_toArray, List.set_cons_zero, List.set_cons_succ, Array.getD_eq_getD_getElem?, List.getElem?_toArray, List.getElem?_cons_zero, List.getElem?_cons_succ, Option.getD_some])
                  (refine wpStill_run rfl (ex_move rfl rfl) ?_; simp only [Act.put, Act.eval, List.setIfInBounds_toArray, List.set_cons_zero, List.set_cons_succ, Array.getD_eq_getD_getElem?, List.getElem?_toArray, List.getElem?_cons_zero, List.getElem?_cons_succ, Option.getD_some])
                  (refine wpStill_runG (by kernel_rfl) (ex_move rfl rfl) ?_; simp only [Act.put, Act.eval, List.setIfInBounds_toArray, List.set_cons_zero, List.set_cons_succ, Array.getD_eq_getD_getElem?, List.getElem?_toArray, List.getElem?_cons_zero, List.getElem?_cons_succ, Option.getD_some])
                  (refine wpStill_runG (by kernel_rfl) (ex_move rfl rfl) ?_; simp only [Act.put, Act.eval, List.setIfInBounds_toArray, List.set_cons_zero, List.set_cons_succ, Array.getD_eq_getD_getElem?, List.getElem?_toArray, List.getElem?_cons_zero, List.getElem?_cons_succ, Option.getD_some])
                  (refine wpStill_runG (by kernel_rfl) (ex_index rfl Try.underlying22 size61 rfl rfl (by omega) (by omega)) ?_; simp only [Act.put, Act.eval, List.setIfInBounds_toArray, List.set_cons_zero, List.set_cons_succ, Array.getD_eq_getD_getElem?, List.getElem?_toArray, List.getElem?_cons_zero, List.getElem?_cons_succ, Option.getD_some])
                  (refine wpStill_runG (by kernel_rfl) (exItemDigest rfl rfl) ?_; simp only [Act.put, Act.eval, List.setIfInBounds_toArray, List.set_cons_zero, List.set_cons_succ, Array.getD_eq_getD_getElem?, List.getElem?_toArray, List.getElem?_cons_zero, List.getElem?_cons_succ, Option.getD_some])
                  (refine wpStill_runG (by kernel_rfl) (ex_load_row rfl rfl hw Try.underlying43 rfl (by rw [B32.cells_length]; exact size43)) ?_; simp only [Act.put, Act.eval, List.setIfInBounds_toArray, List.set_cons_zero, List.set_cons_succ, Array.getD_eq_getD_getElem?, List.getElem?_toArray, List.getElem?_cons_zero, List.getElem?_cons_succ, Option.getD_some])
                  (refine wpStill_runG (by kernel_rfl) (ex_load_row rfl rfl hz1 Try.underlying43 rfl (by rw [B32.cells_length]; exact size43)) ?_; simp only [Act.put, Act.eval, List.setIfInBounds_toArray, List.set_cons_zero, List.set_cons_succ, Array.getD_eq_getD_getElem?, List.getElem?_toArray, List.getElem?_cons_zero, List.getElem?_cons_succ, Option.getD_some])
                  (refine wpStill_runG (by kernel_rfl) (ex_neq rfl rfl rfl Try.eqGuardType43 ((neqDigest x.digest zB32).trans (by rw [show (!decide (x.digest = zB32)) = false by simp [ED.out]]))) ?_; simp only [Act.put, Act.eval, List.setIfInBounds_toArray, List.set_cons_zero, List.set_cons_succ, Array.getD_eq_getD_getElem?, List.getElem?_toArray, List.getElem?_cons_zero, List.getElem?_cons_succ, Option.getD_some])
                  (refine wpStill_run rfl (ex_pick rfl rfl rfl) ?_; simp only [Act.put, Act.eval, List.setIfInBounds_toArray, List.set_cons_zero, List.set_cons_succ, Array.getD_eq_getD_getElem?, List.getElem?_toArray, List.getElem?_cons_zero, List.getElem?_cons_succ, Option.getD_some])
                  (refine wpStill_run rfl (ex_move rfl rfl) ?_; simp only [Act.put, Act.eval, List.setIfInBounds_toArray, List.set_cons_zero, List.set_cons_succ, Array.getD_eq_getD_getElem?, List.getElem?_toArray, List.getElem?_cons_zero, List.getElem?_cons_succ, Option.getD_some])
                  (refine wpStill_runG (by kernel_rfl) (ex_move rfl rfl) ?_; simp only [Act.put, Act.eval, List.setIfInBounds_toArray, List.set_cons_zero, List.set_cons_succ, Array.getD_eq_getD_getElem?, List.getElem?_toArray, List.getElem?_cons_zero, List.getElem?_cons_succ, Option.getD_some])
                  (refine wpStill_runG (by kernel_rfl) (ex_move rfl rfl) ?_; simp only [Act.put, Act.eval, List.setIfInBounds_toArray, List.set_cons_zero, List.set_cons_succ, Array.getD_eq_getD_getElem?, List.getElem?_toArray, List.getElem?_cons_zero, List.getElem?_cons_succ, Option.getD_some])
                  (refine wpStill_runG (by kernel_rfl) (ex_index rfl Try.underlying22 size61 rfl rfl (by omega) (by omega)) ?_; simp only [Act.put, Act.eval, List.setIfInBounds_toArray, List.set_cons_zero, List.set_cons_succ, Array.getD_eq_getD_getElem?, List.getElem?_toArray, List.getElem?_cons_zero, List.getElem?_cons_succ, Option.getD_some])
                  (refine wpStill_runG (by kernel_rfl) (exItemKind rfl rfl) ?_; simp only [Act.put, Act.eval, List.setIfInBounds_toArray, List.set_cons_zero, List.set_cons_succ, Array.getD_eq_getD_getElem?, List.getElem?_toArray, List.getElem?_cons_zero, List.getElem?_cons_succ, Option.getD_some])
                  (refine wpStill_runG (by kernel_rfl) (ex_load_cell rfl rfl hcw Try.underlying3 rfl) ?_; simp only [Act.put, Act.eval, List.setIfInBounds_toArray, List.set_cons_zero, List.set_cons_succ, Array.getD_eq_getD_getElem?, List.getElem?_toArray, List.getElem?_cons_zero, List.getElem?_cons_succ, Option.getD_some])
                  (refine wpStill_runG (by kernel_rfl) (ex_neqI rfl rfl rfl n1) ?_; simp only [Act.put, Act.eval, List.setIfInBounds_toArray, List.set_cons_zero, List.set_cons_succ, Array.getD_eq_getD_getElem?, List.getElem?_toArray, List.getElem?_cons_zero, List.getElem?_cons_succ, Option.getD_some])
                  (refine wpStill_runG (by kernel_rfl) (ex_move rfl rfl) ?_; simp only [Act.put, Act.eval, List.setIfInBounds_toArray, List.set_cons_zero, List.set_cons_succ, Array.getD_eq_getD_getElem?, List.getElem?_toArray, List.getElem?_cons_zero, List.getElem?_cons_succ, Option.getD_some])
                  (refine wpStill_runG (by kernel_rfl) (ex_move rfl rfl) ?_; simp only [Act.put, Act.eval, List.setIfInBounds_toArray, List.set_cons_zero, List.set_cons_succ, Array.getD_eq_getD_getElem?, List.getElem?_toArray, List.getElem?_cons_zero, List.getElem?_cons_succ, Option.getD_some])
                  (refine wpStill_runG (by kernel_rfl) (ex_move rfl rfl) ?_; simp only [Act.put, Act.eval, List.setIfInBounds_toArray, List.set_cons_zero, List.set_cons_succ, Array.getD_eq_getD_getElem?, List.getElem?_toArray, List.getElem?_cons_zero, List.getElem?_cons_succ, Option.getD_some])
                  (refine wpStill_runG (by kernel_rfl) (ex_index rfl Try.underlying22 size61 rfl rfl (by omega) (by omega)) ?_; simp only [Act.put, Act.eval, List.setIfInBounds_toArray, List.set_cons_zero, List.set_cons_succ, Array.getD_eq_getD_getElem?, List.getElem?_toArray, List.getElem?_cons_zero, List.getElem?_cons_succ, Option.getD_some])
                  (refine wpStill_runG (by kernel_rfl) (exItemLeaf rfl rfl) ?_; simp only [Act.put, Act.eval, List.setIfInBounds_toArray, List.set_cons_zero, List.set_cons_succ, Array.getD_eq_getD_getElem?, List.getElem?_toArray, List.getElem?_cons_zero, List.getElem?_cons_succ, Option.getD_some])
                  (refine wpStill_runG (by kernel_rfl) (ex_load_row rfl rfl hw2 Try.underlying45 rfl (by rw [Leaf.cells_length]; exact size45)) ?_; simp only [Act.put, Act.eval, List.setIfInBounds_toArray, List.set_cons_zero, List.set_cons_succ, Array.getD_eq_getD_getElem?, List.getElem?_toArray, List.getElem?_cons_zero, List.getElem?_cons_succ, Option.getD_some])
                  (refine wpStill_runG (by kernel_rfl) (ex_load_row rfl rfl hz2 Try.underlying45 rfl (by rw [Leaf.cells_length]; exact size45)) ?_; simp only [Act.put, Act.eval, List.setIfInBounds_toArray, List.set_cons_zero, List.set_cons_succ, Array.getD_eq_getD_getElem?, List.getElem?_toArray, List.getElem?_cons_zero, List.getElem?_cons_succ, Option.getD_some])
                  (refine wpStill_runG (by kernel_rfl) (ex_neq rfl rfl rfl Try.eqGuardType45 ((neqLeaf x.leaf zLeaf).trans (by rw [show (!decide (x.leaf = zLeaf)) = false by simp [EL.out]]))) ?_; simp only [Act.put, Act.eval, List.setIfInBounds_toArray, List.set_cons_zero, List.set_cons_succ, Array.getD_eq_getD_getElem?, List.getElem?_toArray, List.getElem?_cons_zero, List.getElem?_cons_succ, Option.getD_some])
                  (refine wpStill_runG (by kernel_rfl) (ex_pick rfl rfl rfl) ?_; simp only [Act.put, Act.eval, List.setIfInBounds_toArray, List.set_cons_zero, List.set_cons_succ, Array.getD_eq_getD_getElem?, List.getElem?_toArray, List.getElem?_cons_zero, List.getElem?_cons_succ, Option.getD_some])
                  (refine wpStill_run rfl (ex_pick rfl rfl rfl) ?_; simp only [Act.put, Act.eval, List.setIfInBounds_toArray, List.set_cons_zero, List.set_cons_succ, Array.getD_eq_getD_getElem?, List.getElem?_toArray, List.getElem?_cons_zero, List.getElem?_cons_succ, Option.getD_some])
                  refine wpStill_nil ?_
                  go_wp2
                  refine ⟨⟨k + 1, by omega, by go_num, by rw [HK1.out, HCL.out]; simp [cleanItem, E3.out, ED.out, E1.out, EL.out], hZ1, hZ2, bdrew hb⟩, by simp [intOf]; omega⟩
                · have EL := Lib.hid hlz; clear hlz
                  go_wp2_with fail
                  refine wp_region_still_lit follows (by kernel_rfl) ?_
                  (refine wpStill_run rfl (ex_move rfl rfl) ?_; simp only [Act.put, Act.eval, List.setIfInBounds_toArray, List.set_cons_zero, List.set_cons_succ, Array.getD_eq_getD_getElem?, List.getElem?_toArray, List.getElem?_cons_zero, List.getElem?_cons_succ, Option.getD_some])
                  (refine wpStill_run rfl (ex_move rfl rfl) ?_; simp only [Act.put, Act.eval, List.setIfInBounds_toArray, List.set_cons_zero, List.set_cons_succ, Array.getD_eq_getD_getElem?, List.getElem?_toArray, List.getElem?_cons_zero, List.getElem?_cons_succ, Option.getD_some])
                  (refine wpStill_run rfl (ex_index rfl Try.underlying22 size61 rfl rfl (by omega) (by omega)) ?_; simp only [Act.put, Act.eval, List.setIfInBounds_toArray, List.set_cons_zero, List.set_cons_succ, Array.getD_eq_getD_getElem?, List.getElem?_toArray, List.getElem?_cons_zero, List.getElem?_cons_succ, Option.getD_some])
                  (refine wpStill_run rfl (exItemKind rfl rfl) ?_; simp only [Act.put, Act.eval, List.setIfInBounds_toArray, List.set_cons_zero, List.set_cons_succ, Array.getD_eq_getD_getElem?, List.getElem?_toArray, List.getElem?_cons_zero, List.getElem?_cons_succ, Option.getD_some])
                  (refine wpStill_run rfl (ex_load_cell rfl rfl hcw Try.underlying3 rfl) ?_; simp only [Act.put, Act.eval, List.setIfInBounds_toArray, List.set_cons_zero, List.set_cons_succ, Array.getD_eq_getD_getElem?, List.getElem?_toArray, List.getElem?_cons_zero, List.getElem?_cons_succ, Option.getD_some])
                  (refine wpStill_run rfl (ex_neqI rfl rfl rfl n3) ?_; simp only [Act.put, Act.eval, List.setIfInBounds_toArray, List.set_cons_zero, List.set_cons_succ, Array.getD_eq_getD_getElem?, List.getElem?_toArray, List.getElem?_cons_zero, List.getElem?_cons_succ, Option.getD_some])
                  (refine wpStill_run rfl (ex_move rfl rfl) ?_; simp only [Act.put, Act.eval, List.setIfInBounds_toArray, List.set_cons_zero, List.set_cons_succ, Array.getD_eq_getD_getElem?, List.getElem?_toArray, List.getElem?_cons_zero, List.getElem?_cons_succ, Option.getD_some])
                  (refine wpStill_runG (by kernel_rfl) (ex_move rfl rfl) ?_; simp only [Act.put, Act.eval, List.setIfInBounds_toArray, List.set_cons_zero, List.set_cons_succ, Array.getD_eq_getD_getElem?, List.getElem?_toArray, List.getElem?_cons_zero, List.getElem?_cons_succ, Option.getD_some])
                  (refine wpStill_runG (by kernel_rfl) (ex_move rfl rfl) ?_; simp only [Act.put, Act.eval, List.setIfInBounds_toArray, List.set_cons_zero, List.set_cons_succ, Array.getD_eq_getD_getElem?, List.getElem?_toArray, List.getElem?_cons_zero, List.getElem?_cons_succ, Option.getD_some])
                  (refine wpStill_runG (by kernel_rfl) (ex_index rfl Try.underlying22 size61 rfl rfl (by omega) (by omega)) ?_; simp only [Act.put, Act.eval, List.setIfInBounds_toArray, List.set_cons_zero, List.set_cons_succ, Array.getD_eq_getD_getElem?, List.getElem?_toArray, List.getElem?_cons_zero, List.getElem?_cons_succ, Option.getD_some])
                  (refine wpStill_runG (by kernel_rfl) (exItemDigest rfl rfl) ?_; simp only [Act.put, Act.eval, List.setIfInBounds_toArray, List.set_cons_zero, List.set_cons_succ, Array.getD_eq_getD_getElem?, List.getElem?_toArray, List.getElem?_cons_zero, List.getElem?_cons_succ, Option.getD_some])
                  (refine wpStill_runG (by kernel_rfl) (ex_load_row rfl rfl hw Try.underlying43 rfl (by rw [B32.cells_length]; exact size43)) ?_; simp only [Act.put, Act.eval, List.setIfInBounds_toArray, List.set_cons_zero, List.set_cons_succ, Array.getD_eq_getD_getElem?, List.getElem?_toArray, List.getElem?_cons_zero, List.getElem?_cons_succ, Option.getD_some])
                  (refine wpStill_runG (by kernel_rfl) (ex_load_row rfl rfl hz1 Try.underlying43 rfl (by rw [B32.cells_length]; exact size43)) ?_; simp only [Act.put, Act.eval, List.setIfInBounds_toArray, List.set_cons_zero, List.set_cons_succ, Array.getD_eq_getD_getElem?, List.getElem?_toArray, List.getElem?_cons_zero, List.getElem?_cons_succ, Option.getD_some])
                  (refine wpStill_runG (by kernel_rfl) (ex_neq rfl rfl rfl Try.eqGuardType43 ((neqDigest x.digest zB32).trans (by rw [show (!decide (x.digest = zB32)) = false by simp [ED.out]]))) ?_; simp only [Act.put, Act.eval, List.setIfInBounds_toArray, List.set_cons_zero, List.set_cons_succ, Array.getD_eq_getD_getElem?, List.getElem?_toArray, List.getElem?_cons_zero, List.getElem?_cons_succ, Option.getD_some])
                  (refine wpStill_run rfl (ex_pick rfl rfl rfl) ?_; simp only [Act.put, Act.eval, List.setIfInBounds_toArray, List.set_cons_zero, List.set_cons_succ, Array.getD_eq_getD_getElem?, List.getElem?_toArray, List.getElem?_cons_zero, List.getElem?_cons_succ, Option.getD_some])
                  (refine wpStill_run rfl (ex_move rfl rfl) ?_; simp only [Act.put, Act.eval, List.setIfInBounds_toArray, List.set_cons_zero, List.set_cons_succ, Array.getD_eq_getD_getElem?, List.getElem?_toArray, List.getElem?_cons_zero, List.getElem?_cons_succ, Option.getD_some])
                  (refine wpStill_runG (by kernel_rfl) (ex_move rfl rfl) ?_; simp only [Act.put, Act.eval, List.setIfInBounds_toArray, List.set_cons_zero, List.set_cons_succ, Array.getD_eq_getD_getElem?, List.getElem?_toArray, List.getElem?_cons_zero, List.getElem?_cons_succ, Option.getD_some])
                  (refine wpStill_runG (by kernel_rfl) (ex_move rfl rfl) ?_; simp only [Act.put, Act.eval, List.setIfInBounds_toArray, List.set_cons_zero, List.set_cons_succ, Array.getD_eq_getD_getElem?, List.getElem?_toArray, List.getElem?_cons_zero, List.getElem?_cons_succ, Option.getD_some])
                  (refine wpStill_runG (by kernel_rfl) (ex_index rfl Try.underlying22 size61 rfl rfl (by omega) (by omega)) ?_; simp only [Act.put, Act.eval, List.setIfInBounds_toArray, List.set_cons_zero, List.set_cons_succ, Array.getD_eq_getD_getElem?, List.getElem?_toArray, List.getElem?_cons_zero, List.getElem?_cons_succ, Option.getD_some])
                  (refine wpStill_runG (by kernel_rfl) (exItemKind rfl rfl) ?_; simp only [Act.put, Act.eval, List.setIfInBounds_toArray, List.set_cons_zero, List.set_cons_succ, Array.getD_eq_getD_getElem?, List.getElem?_toArray, List.getElem?_cons_zero, List.getElem?_cons_succ, Option.getD_some])
                  (refine wpStill_runG (by kernel_rfl) (ex_load_cell rfl rfl hcw Try.underlying3 rfl) ?_; simp only [Act.put, Act.eval, List.setIfInBounds_toArray, List.set_cons_zero, List.set_cons_succ, Array.getD_eq_getD_getElem?, List.getElem?_toArray, List.getElem?_cons_zero, List.getElem?_cons_succ, Option.getD_some])
                  (refine wpStill_runG (by kernel_rfl) (ex_neqI rfl rfl rfl n1) ?_; simp only [Act.put, Act.eval, List.setIfInBounds_toArray, List.set_cons_zero, List.set_cons_succ, Array.getD_eq_getD_getElem?, List.getElem?_toArray, List.getElem?_cons_zero, List.getElem?_cons_succ, Option.getD_some])
                  (refine wpStill_runG (by kernel_rfl) (ex_move rfl rfl) ?_; simp only [Act.put, Act.eval, List.setIfInBounds_toArray, List.set_cons_zero, List.set_cons_succ, Array.getD_eq_getD_getElem?, List.getElem?_toArray, List.getElem?_cons_zero, List.getElem?_cons_succ, Option.getD_some])
                  (refine wpStill_runG (by kernel_rfl) (ex_move rfl rfl) ?_; simp only [Act.put, Act.eval, List.setIfInBounds_toArray, List.set_cons_zero, List.set_cons_succ, Array.getD_eq_getD_getElem?, List.getElem?_toArray, List.getElem?_cons_zero, List.getElem?_cons_succ, Option.getD_some])
                  (refine wpStill_runG (by kernel_rfl) (ex_move rfl rfl) ?_; simp only [Act.put, Act.eval, List.setIfInBounds_toArray, List.set_cons_zero, List.set_cons_succ, Array.getD_eq_getD_getElem?, List.getElem?_toArray, List.getElem?_cons_zero, List.getElem?_cons_succ, Option.getD_some])
                  (refine wpStill_runG (by kernel_rfl) (ex_index rfl Try.underlying22 size61 rfl rfl (by omega) (by omega)) ?_; simp only [Act.put, Act.eval, List.setIfInBounds_toArray, List.set_cons_zero, List.set_cons_succ, Array.getD_eq_getD_getElem?, List.getElem?_toArray, List.getElem?_cons_zero, List.getElem?_cons_succ, Option.getD_some])
                  (refine wpStill_runG (by kernel_rfl) (exItemLeaf rfl rfl) ?_; simp only [Act.put, Act.eval, List.setIfInBounds_toArray, List.set_cons_zero, List.set_cons_succ, Array.getD_eq_getD_getElem?, List.getElem?_toArray, List.getElem?_cons_zero, List.getElem?_cons_succ, Option.getD_some])
                  (refine wpStill_runG (by kernel_rfl) (ex_load_row rfl rfl hw2 Try.underlying45 rfl (by rw [Leaf.cells_length]; exact size45)) ?_; simp only [Act.put, Act.eval, List.setIfInBounds_toArray, List.set_cons_zero, List.set_cons_succ, Array.getD_eq_getD_getElem?, List.getElem?_toArray, List.getElem?_cons_zero, List.getElem?_cons_succ, Option.getD_some])
                  (refine wpStill_runG (by kernel_rfl) (ex_load_row rfl rfl hz2 Try.underlying45 rfl (by rw [Leaf.cells_length]; exact size45)) ?_; simp only [Act.put, Act.eval, List.setIfInBounds_toArray, List.set_cons_zero, List.set_cons_succ, Array.getD_eq_getD_getElem?, List.getElem?_toArray, List.getElem?_cons_zero, List.getElem?_cons_succ, Option.getD_some])
                  (refine wpStill_runG (by kernel_rfl) (ex_neq rfl rfl rfl Try.eqGuardType45 ((neqLeaf x.leaf zLeaf).trans (by rw [show (!decide (x.leaf = zLeaf)) = true by simp [EL.out]]))) ?_; simp only [Act.put, Act.eval, List.setIfInBounds_toArray, List.set_cons_zero, List.set_cons_succ, Array.getD_eq_getD_getElem?, List.getElem?_toArray, List.getElem?_cons_zero, List.getElem?_cons_succ, Option.getD_some])
                  (refine wpStill_runG (by kernel_rfl) (ex_pick rfl rfl rfl) ?_; simp only [Act.put, Act.eval, List.setIfInBounds_toArray, List.set_cons_zero, List.set_cons_succ, Array.getD_eq_getD_getElem?, List.getElem?_toArray, List.getElem?_cons_zero, List.getElem?_cons_succ, Option.getD_some])
                  (refine wpStill_run rfl (ex_pick rfl rfl rfl) ?_; simp only [Act.put, Act.eval, List.setIfInBounds_toArray, List.set_cons_zero, List.set_cons_succ, Array.getD_eq_getD_getElem?, List.getElem?_toArray, List.getElem?_cons_zero, List.getElem?_cons_succ, Option.getD_some])
                  refine wpStill_nil ?_
                  go_wp2
                  go_ret
                  exact ⟨ret_int (HBAD.out (by simp [cleanItem, E3.out, ED.out, E1.out, EL.out])).symm, bdrew hb⟩
            · have ED := Lib.hid hdz; clear hdz
              clear n1
              go_wp2_with fail
              refine wp_region_still_lit follows (by kernel_rfl) ?_
              (refine wpStill_run rfl (ex_move rfl rfl) ?_; simp only [Act.put, Act.eval, List.setIfInBounds_toArray, List.set_cons_zero, List.set_cons_succ, Array.getD_eq_getD_getElem?, List.getElem?_toArray, List.getElem?_cons_zero, List.getElem?_cons_succ, Option.getD_some])
              (refine wpStill_run rfl (ex_move rfl rfl) ?_; simp only [Act.put, Act.eval, List.setIfInBounds_toArray, List.set_cons_zero, List.set_cons_succ, Array.getD_eq_getD_getElem?, List.getElem?_toArray, List.getElem?_cons_zero, List.getElem?_cons_succ, Option.getD_some])
              (refine wpStill_run rfl (ex_index rfl Try.underlying22 size61 rfl rfl (by omega) (by omega)) ?_; simp only [Act.put, Act.eval, List.setIfInBounds_toArray, List.set_cons_zero, List.set_cons_succ, Array.getD_eq_getD_getElem?, List.getElem?_toArray, List.getElem?_cons_zero, List.getElem?_cons_succ, Option.getD_some])
              (refine wpStill_run rfl (exItemKind rfl rfl) ?_; simp only [Act.put, Act.eval, List.setIfInBounds_toArray, List.set_cons_zero, List.set_cons_succ, Array.getD_eq_getD_getElem?, List.getElem?_toArray, List.getElem?_cons_zero, List.getElem?_cons_succ, Option.getD_some])
              (refine wpStill_run rfl (ex_load_cell rfl rfl hcw Try.underlying3 rfl) ?_; simp only [Act.put, Act.eval, List.setIfInBounds_toArray, List.set_cons_zero, List.set_cons_succ, Array.getD_eq_getD_getElem?, List.getElem?_toArray, List.getElem?_cons_zero, List.getElem?_cons_succ, Option.getD_some])
              (refine wpStill_run rfl (ex_neqI rfl rfl rfl n3) ?_; simp only [Act.put, Act.eval, List.setIfInBounds_toArray, List.set_cons_zero, List.set_cons_succ, Array.getD_eq_getD_getElem?, List.getElem?_toArray, List.getElem?_cons_zero, List.getElem?_cons_succ, Option.getD_some])
              (refine wpStill_run rfl (ex_move rfl rfl) ?_; simp only [Act.put, Act.eval, List.setIfInBounds_toArray, List.set_cons_zero, List.set_cons_succ, Array.getD_eq_getD_getElem?, List.getElem?_toArray, List.getElem?_cons_zero, List.getElem?_cons_succ, Option.getD_some])
              (refine wpStill_runG (by kernel_rfl) (ex_move rfl rfl) ?_; simp only [Act.put, Act.eval, List.setIfInBounds_toArray, List.set_cons_zero, List.set_cons_succ, Array.getD_eq_getD_getElem?, List.getElem?_toArray, List.getElem?_cons_zero, List.getElem?_cons_succ, Option.getD_some])
              (refine wpStill_runG (by kernel_rfl) (ex_move rfl rfl) ?_; simp only [Act.put, Act.eval, List.setIfInBounds_toArray, List.set_cons_zero, List.set_cons_succ, Array.getD_eq_getD_getElem?, List.getElem?_toArray, List.getElem?_cons_zero, List.getElem?_cons_succ, Option.getD_some])
              (refine wpStill_runG (by kernel_rfl) (ex_index rfl Try.underlying22 size61 rfl rfl (by omega) (by omega)) ?_; simp only [Act.put, Act.eval, List.setIfInBounds_toArray, List.set_cons_zero, List.set_cons_succ, Array.getD_eq_getD_getElem?, List.getElem?_toArray, List.getElem?_cons_zero, List.getElem?_cons_succ, Option.getD_some])
              (refine wpStill_runG (by kernel_rfl) (exItemDigest rfl rfl) ?_; simp only [Act.put, Act.eval, List.setIfInBounds_toArray, List.set_cons_zero, List.set_cons_succ, Array.getD_eq_getD_getElem?, List.getElem?_toArray, List.getElem?_cons_zero, List.getElem?_cons_succ, Option.getD_some])
              (refine wpStill_runG (by kernel_rfl) (ex_load_row rfl rfl hw Try.underlying43 rfl (by rw [B32.cells_length]; exact size43)) ?_; simp only [Act.put, Act.eval, List.setIfInBounds_toArray, List.set_cons_zero, List.set_cons_succ, Array.getD_eq_getD_getElem?, List.getElem?_toArray, List.getElem?_cons_zero, List.getElem?_cons_succ, Option.getD_some])
              (refine wpStill_runG (by kernel_rfl) (ex_load_row rfl rfl hz1 Try.underlying43 rfl (by rw [B32.cells_length]; exact size43)) ?_; simp only [Act.put, Act.eval, List.setIfInBounds_toArray, List.set_cons_zero, List.set_cons_succ, Array.getD_eq_getD_getElem?, List.getElem?_toArray, List.getElem?_cons_zero, List.getElem?_cons_succ, Option.getD_some])
              (refine wpStill_runG (by kernel_rfl) (ex_neq rfl rfl rfl Try.eqGuardType43 ((neqDigest x.digest zB32).trans (by rw [show (!decide (x.digest = zB32)) = true by simp [ED.out]]))) ?_; simp only [Act.put, Act.eval, List.setIfInBounds_toArray, List.set_cons_zero, List.set_cons_succ, Array.getD_eq_getD_getElem?, List.getElem?_toArray, List.getElem?_cons_zero, List.getElem?_cons_succ, Option.getD_some])
              (refine wpStill_run rfl (ex_pick rfl rfl rfl) ?_; simp only [Act.put, Act.eval, List.setIfInBounds_toArray, List.set_cons_zero, List.set_cons_succ, Array.getD_eq_getD_getElem?, List.getElem?_toArray, List.getElem?_cons_zero, List.getElem?_cons_succ, Option.getD_some])
              (refine wpStill_run rfl (ex_move rfl rfl) ?_; simp only [Act.put, Act.eval, List.setIfInBounds_toArray, List.set_cons_zero, List.set_cons_succ, Array.getD_eq_getD_getElem?, List.getElem?_toArray, List.getElem?_cons_zero, List.getElem?_cons_succ, Option.getD_some])
              (refine wpStill_skip (by kernel_rfl) ?_; simp only [Act.put, Act.eval, List.setIfInBounds_toArray, List.set_cons_zero, List.set_cons_succ, Array.getD_eq_getD_getElem?, List.getElem?_toArray, List.getElem?_cons_zero, List.getElem?_cons_succ, Option.getD_some])
              (refine wpStill_skip (by kernel_rfl) ?_; simp only [Act.put, Act.eval, List.setIfInBounds_toArray, List.set_cons_zero, List.set_cons_succ, Array.getD_eq_getD_getElem?, List.getElem?_toArray, List.getElem?_cons_zero, List.getElem?_cons_succ, Option.getD_some])
              (refine wpStill_skip (by kernel_rfl) ?_; simp only [Act.put, Act.eval, List.setIfInBounds_toArray, List.set_cons_zero, List.set_cons_succ, Array.getD_eq_getD_getElem?, List.getElem?_toArray, List.getElem?_cons_zero, List.getElem?_cons_succ, Option.getD_some])
              (refine wpStill_skip (by kernel_rfl) ?_; simp only [Act.put, Act.eval, List.setIfInBounds_toArray, List.set_cons_zero, List.set_cons_succ, Array.getD_eq_getD_getElem?, List.getElem?_toArray, List.getElem?_cons_zero, List.getElem?_cons_succ, Option.getD_some])
              (refine wpStill_skip (by kernel_rfl) ?_; simp only [Act.put, Act.eval, List.setIfInBounds_toArray, List.set_cons_zero, List.set_cons_succ, Array.getD_eq_getD_getElem?, List.getElem?_toArray, List.getElem?_cons_zero, List.getElem?_cons_succ, Option.getD_some])
              (refine wpStill_skip (by kernel_rfl) ?_; simp only [Act.put, Act.eval, List.setIfInBounds_toArray, List.set_cons_zero, List.set_cons_succ, Array.getD_eq_getD_getElem?, List.getElem?_toArray, List.getElem?_cons_zero, List.getElem?_cons_succ, Option.getD_some])
              (refine wpStill_skip (by kernel_rfl) ?_; simp only [Act.put, Act.eval, List.setIfInBounds_toArray, List.set_cons_zero, List.set_cons_succ, Array.getD_eq_getD_getElem?, List.getElem?_toArray, List.getElem?_cons_zero, List.getElem?_cons_succ, Option.getD_some])
              (refine wpStill_skip (by kernel_rfl) ?_; simp only [Act.put, Act.eval, List.setIfInBounds_toArray, List.set_cons_zero, List.set_cons_succ, Array.getD_eq_getD_getElem?, List.getElem?_toArray, List.getElem?_cons_zero, List.getElem?_cons_succ, Option.getD_some])
              (refine wpStill_skip (by kernel_rfl) ?_; simp only [Act.put, Act.eval, List.setIfInBounds_toArray, List.set_cons_zero, List.set_cons_succ, Array.getD_eq_getD_getElem?, List.getElem?_toArray, List.getElem?_cons_zero, List.getElem?_cons_succ, Option.getD_some])
              (refine wpStill_skip (by kernel_rfl) ?_; simp only [Act.put, Act.eval, List.setIfInBounds_toArray, List.set_cons_zero, List.set_cons_succ, Array.getD_eq_getD_getElem?, List.getElem?_toArray, List.getElem?_cons_zero, List.getElem?_cons_succ, Option.getD_some])
              (refine wpStill_skip (by kernel_rfl) ?_; simp only [Act.put, Act.eval, List.setIfInBounds_toArray, List.set_cons_zero, List.set_cons_succ, Array.getD_eq_getD_getElem?, List.getElem?_toArray, List.getElem?_cons_zero, List.getElem?_cons_succ, Option.getD_some])
              (refine wpStill_skip (by kernel_rfl) ?_; simp only [Act.put, Act.eval, List.setIfInBounds_toArray, List.set_cons_zero, List.set_cons_succ, Array.getD_eq_getD_getElem?, List.getElem?_toArray, List.getElem?_cons_zero, List.getElem?_cons_succ, Option.getD_some])
              (refine wpStill_skip (by kernel_rfl) ?_; simp only [Act.put, Act.eval, List.setIfInBounds_toArray, List.set_cons_zero, List.set_cons_succ, Array.getD_eq_getD_getElem?, List.getElem?_toArray, List.getElem?_cons_zero, List.getElem?_cons_succ, Option.getD_some])
              (refine wpStill_skip (by kernel_rfl) ?_; simp only [Act.put, Act.eval, List.setIfInBounds_toArray, List.set_cons_zero, List.set_cons_succ, Array.getD_eq_getD_getElem?, List.getElem?_toArray, List.getElem?_cons_zero, List.getElem?_cons_succ, Option.getD_some])
              (refine wpStill_skip (by kernel_rfl) ?_; simp only [Act.put, Act.eval, List.setIfInBounds_toArray, List.set_cons_zero, List.set_cons_succ, Array.getD_eq_getD_getElem?, List.getElem?_toArray, List.getElem?_cons_zero, List.getElem?_cons_succ, Option.getD_some])
              (refine wpStill_run rfl (ex_pick rfl rfl rfl) ?_; simp only [Act.put, Act.eval, List.setIfInBounds_toArray, List.set_cons_zero, List.set_cons_succ, Array.getD_eq_getD_getElem?, List.getElem?_toArray, List.getElem?_cons_zero, List.getElem?_cons_succ, Option.getD_some])
              refine wpStill_nil ?_
              go_wp2
              go_ret
              exact ⟨ret_int (HBAD.out (by simp [cleanItem, E3.out, ED.out])).symm, bdrew hb⟩
        · have hcl' : l.all cleanItem = true := by
            have := HCL.out
            rwa [List.take_of_length_le (by omega)] at this
          have HCL' := Lib.hid hcl'; clear hcl' HCL
          have hm : checkM l = if l.length = 0 ∨ skipI l (readM 256 l) ≠ l.length then 5 else 0 := by rw [HM.out, if_pos HOK'.out, if_pos HCL'.out]
          have HM2 := Lib.hid hm; clear hm
          by_cases hz : l.length = 0
          · have hz' : ((l.length : Int) == 0) = true := by rw [beq_iff_eq]; omega
            have HM3 := Lib.hid (show checkM l = 5 by rw [HM2.out, if_pos (Or.inl hz)])
            clear hz
            go_wp2
            go_ret
            exact ⟨ret_int HM3.out.symm, hb⟩
          · have hz' : ((l.length : Int) == 0) = false := by rw [beq_eq_false_iff_ne]; omega
            have HZ := Lib.hid hz; clear hz
            go_wp2_with fail
            have SK := HSK.out _ hb
            generalize skipI l (readM 256 l) = r at *
            by_cases hs : r = l.length
            · have hs' : (r != (l.length : Int)) = false := by simp [hs]
              have HM3 := Lib.hid (show checkM l = 0 by rw [HM2.out, if_neg]; intro h; rcases h with h | h; exact HZ.out h; exact h hs)
              clear hs
              refine SK.mono ?_
              rintro e w1 ⟨rfl, hb1⟩
              go_wp2
              go_ret
              exact ⟨ret_int HM3.out.symm, bthen hb hb1⟩
            · have hs' : (r != (l.length : Int)) = true := by simp [hs]
              have HM3 := Lib.hid (show checkM l = 5 by rw [HM2.out, if_pos (Or.inr hs)])
              clear hs
              refine SK.mono ?_
              rintro e w1 ⟨rfl, hb1⟩
              go_wp2
              go_ret
              exact ⟨ret_int HM3.out.symm, bthen hb hb1⟩
end Go.Proofs.Ythinpbgbnlohpaa
