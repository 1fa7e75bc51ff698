/- multi.read: what it returns and that nothing old is changed. -/
import Derived.Test.YthinpbgbnlohpaaT1
namespace Go.Proofs.Ythinpbgbnlohpaa
set_option linter.unusedSimpArgs false
set_option linter.unusedVariables false
open Go.RowKit

inductive Sub where
  | one (x : Item)
  | two (l r : Sub)
def Sub.tag : Sub → TypeId
  | .one _ => 95
  | .two _ _ => 97
def Sub.val : Sub → Value
  | .one x => .agg x.cells.toArray
  | .two l r => .agg #[.iface l.tag l.val, .iface r.tag r.val]
/-- the subtree that items begin with, with at most d levels of inner nodes -/
def readM : Nat → List Item → Option (Sub × List Item)
  | _, [] => none
  | 0, x :: rest => if x.kind = 2 then none else some (.one x, rest)
  | d + 1, x :: rest => if x.kind = 2 then (readM d rest).bind fun p => (readM d p.2).bind fun q => some (.two p.1 q.1, q.2) else some (.one x, rest)

def ReadPost (r : Option (Sub × List Item)) (w0 w : World) (e : Ending) (w' : World) : Prop :=
  match r with
  | none => e = .returned (.tuple #[.nilIface, .slice none 0 0]) ∧ Below w.heap.size w w'
  | some (t, l) => ∃ A' cap', e = .returned (.tuple #[.iface t.tag t.val, .slice A' l.length cap']) ∧ l.length ≤ cap' ∧ Rd w0 A' (l.flatMap Item.cells) ∧ Below w.heap.size w w'

theorem read_nil (A : Option Addr) (cap d : Nat) (depth : Int) (w0 w : World) :
    Calls Try.prog 47 #[.slice A 0 cap, .int .i64 depth] w (ReadPost (readM d []) w0 w) := by
  go_enter Try.func47, Try.ntmps47
  go_wp2
  go_ret2
  have hm : readM d [] = none := by cases d <;> rfl
  rw [hm]
  exact ⟨rfl, Below.refl _ _⟩

set_option maxRecDepth 100000 in
set_option maxHeartbeats 400000 in
theorem read_one (d : Nat) (x : Item) (l : List Item) (b o cap : Nat) (depth : Int) (hcap : l.length + 1 ≤ cap) (w0 w : World) (h0 : Below w0.heap.size w0 w) (hr : w0.rangeAt b o ((x :: l).flatMap Item.cells)) (hk : ¬ x.kind = 2) :
    Calls Try.prog 47 #[.slice (some ⟨b, o, none⟩) (l.length + 1) cap, .int .i64 depth] w (ReadPost (readM d (x :: l)) w0 w) := by
  have hrx0 := rangeAt_flat (k := 0) (x := x) Item.cells_length hr rfl
  simp only [Nat.zero_mul, Nat.add_zero] at hrx0
  have hrx := rangeAt_below hrx0 h0
  have hk' : (x.kind != 2) = true := by simpa using hk
  go_enter Try.func47, Try.ntmps47
  go_wp2
  have hb0 : Below w.heap.size w w.drew := (Below.refl _ _).drew
  ((refine heldQ (S := Below w.heap.size w) follows (HQ.mk fun _ _ _ _ _ h => h) (fun hQ => ?_)); (refine takeQ 0 hQ rfl (by kernel_rfl) (by kernel_rfl) (by kernel_rfl) (yields_of rfl (fun wS hwS => ex_move rfl rfl)) hb0 ?_; simp only [Act.put, Act.eval, List.setIfInBounds_toArray, List.set_cons_zero, List.set_cons_succ, Array.getD_eq_getD_getElem?, List.getElem?_toArray, List.getElem?_cons_zero, List.getElem?_cons_succ, Option.getD_some]); (refine takeQ 1 hQ rfl (by kernel_rfl) (by kernel_rfl) (by kernel_rfl) (yields_of rfl (fun wS hwS => ex_index rfl Try.underlying22 size61 rfl rfl (by decide) (by omega))) hb0 ?_; simp only [Act.put, Act.eval, List.setIfInBounds_toArray, List.set_cons_zero, List.set_cons_succ, Array.getD_eq_getD_getElem?, List.getElem?_toArray, List.getElem?_cons_zero, List.getElem?_cons_succ, Option.getD_some]); (refine takeQ 2 hQ rfl (by kernel_rfl) (by kernel_rfl) (by kernel_rfl) (yields_of rfl (fun wS hwS => ex_load_row rfl rfl (rangeAt_below hrx hwS) Try.underlying61 rfl (itemLen x))) hb0 ?_; simp only [Act.put, Act.eval, List.setIfInBounds_toArray, List.set_cons_zero, List.set_cons_succ, Array.getD_eq_getD_getElem?, List.getElem?_toArray, List.getElem?_cons_zero, List.getElem?_cons_succ, Option.getD_some]); (refine takeQ 3 hQ rfl (by kernel_rfl) (by kernel_rfl) (by kernel_rfl) (yields_of rfl (fun wS hwS => ex_move rfl rfl)) hb0 ?_; simp only [Act.put, Act.eval, List.setIfInBounds_toArray, List.set_cons_zero, List.set_cons_succ, Array.getD_eq_getD_getElem?, List.getElem?_toArray, List.getElem?_cons_zero, List.getElem?_cons_succ, Option.getD_some]); (refine takeQ 4 hQ rfl (by kernel_rfl) (by kernel_rfl) (by kernel_rfl) (yields_of rfl (fun wS hwS => cut_l rfl Try.underlying22 size61 rfl rfl (by decide) (by omega))) hb0 ?_; simp only [Act.put, Act.eval, List.setIfInBounds_toArray, List.set_cons_zero, List.set_cons_succ, Array.getD_eq_getD_getElem?, List.getElem?_toArray, List.getElem?_cons_zero, List.getElem?_cons_succ, Option.getD_some]); (refine heldOne 5 rfl (by kernel_rfl) rfl (ex_alloc rfl (z := .agg zItem.cells.toArray) zero61') (hb0.alloc (by exact Nat.le_refl _) _) ?_; simp only [Act.put, Act.eval, List.setIfInBounds_toArray, List.set_cons_zero, List.set_cons_succ, Array.getD_eq_getD_getElem?, List.getElem?_toArray, List.getElem?_cons_zero, List.getElem?_cons_succ, Option.getD_some]); (refine heldOne_skip 6 rfl (by kernel_rfl) rfl (ex_store_new (w := w.drew) rfl rfl rfl (itemSize x) (by simp [Value.cells, Item.cells_length]) (all_oneCell_toArray (Item.cells_one x))) (hb0.alloc (by exact Nat.le_refl _) _) ?_; simp only [Act.put, Act.eval, List.setIfInBounds_toArray, List.set_cons_zero, List.set_cons_succ, Array.getD_eq_getD_getElem?, List.getElem?_toArray, List.getElem?_cons_zero, List.getElem?_cons_succ, Option.getD_some]); (refine heldOne 7 rfl (by kernel_rfl) rfl (ex_assign rfl rfl) (hb0.alloc (by exact Nat.le_refl _) _) ?_; simp only [Act.put, Act.eval, List.setIfInBounds_toArray, List.set_cons_zero, List.set_cons_succ, Array.getD_eq_getD_getElem?, List.getElem?_toArray, List.getElem?_cons_zero, List.getElem?_cons_succ, Option.getD_some]); (refine wpAnyH_done (by kernel_rfl) ?_ _))
  go_wp2_with (first | (refine loadItem rfl _ rfl _ _ rfl x ?_ ?_) | (refine wplBuildEnd rfl _ rfl x rfl ?_))
  · exact rangeAt_new' w _ _
  go_ret2
  have hm : readM d (x :: l) = some (.one x, l) := by cases d <;> simp [readM, hk]
  rw [hm]
  refine ⟨cutA (some ⟨b, o, none⟩) cap 1 97, cap - 1, rfl, by omega, ?_, hb0.alloc (by exact Nat.le_refl _) _⟩
  have h1 := cut_Rd (n := l.length + 1) (c := cap) (i := 1) (size := 97) (Rd.mk hr) (by rw [flat_length Item.cells_length]; rfl) hcap (by omega)
  rw [flat_drop Item.cells_length] at h1
  exact h1

set_option maxRecDepth 100000 in
set_option maxHeartbeats 400000 in
theorem read_deep (x : Item) (l : List Item) (b o cap : Nat) (hcap : l.length + 1 ≤ cap) (w0 w : World) (h0 : Below w0.heap.size w0 w) (hr : w0.rangeAt b o ((x :: l).flatMap Item.cells)) (hk : x.kind = 2) :
    Calls Try.prog 47 #[.slice (some ⟨b, o, none⟩) (l.length + 1) cap, .int .i64 256] w (ReadPost (readM 0 (x :: l)) w0 w) := by
  have hrx0 := rangeAt_flat (k := 0) (x := x) Item.cells_length hr rfl
  simp only [Nat.zero_mul, Nat.add_zero] at hrx0
  have hrx := rangeAt_below hrx0 h0
  have hk' : (x.kind != 2) = false := by simpa using hk
  have HK := Lib.hid hk; clear hk
  go_enter Try.func47, Try.ntmps47
  go_wp2
  have hb0 : Below w.heap.size w w.drew := (Below.refl _ _).drew
  ((refine heldQ (S := Below w.heap.size w) follows (HQ.mk fun _ _ _ _ _ h => h) (fun hQ => ?_)); (refine takeQ 0 hQ rfl (by kernel_rfl) (by kernel_rfl) (by kernel_rfl) (yields_of rfl (fun wS hwS => ex_move rfl rfl)) hb0 ?_; simp only [Act.put, Act.eval, List.setIfInBounds_toArray, List.set_cons_zero, List.set_cons_succ, Array.getD_eq_getD_getElem?, List.getElem?_toArray, List.getElem?_cons_zero, List.getElem?_cons_succ, Option.getD_some]); (refine takeQ 1 hQ rfl (by kernel_rfl) (by kernel_rfl) (by kernel_rfl) (yields_of rfl (fun wS hwS => ex_index rfl Try.underlying22 size61 rfl rfl (by decide) (by omega))) hb0 ?_; simp only [Act.put, Act.eval, List.setIfInBounds_toArray, List.set_cons_zero, List.set_cons_succ, Array.getD_eq_getD_getElem?, List.getElem?_toArray, List.getElem?_cons_zero, List.getElem?_cons_succ, Option.getD_some]); (refine takeQ 2 hQ rfl (by kernel_rfl) (by kernel_rfl) (by kernel_rfl) (yields_of rfl (fun wS hwS => ex_load_row rfl rfl (rangeAt_below hrx hwS) Try.underlying61 rfl (itemLen x))) hb0 ?_; simp only [Act.put, Act.eval, List.setIfInBounds_toArray, List.set_cons_zero, List.set_cons_succ, Array.getD_eq_getD_getElem?, List.getElem?_toArray, List.getElem?_cons_zero, List.getElem?_cons_succ, Option.getD_some]); (refine takeQ 3 hQ rfl (by kernel_rfl) (by kernel_rfl) (by kernel_rfl) (yields_of rfl (fun wS hwS => ex_move rfl rfl)) hb0 ?_; simp only [Act.put, Act.eval, List.setIfInBounds_toArray, List.set_cons_zero, List.set_cons_succ, Array.getD_eq_getD_getElem?, List.getElem?_toArray, List.getElem?_cons_zero, List.getElem?_cons_succ, Option.getD_some]); (refine takeQ 4 hQ rfl (by kernel_rfl) (by kernel_rfl) (by kernel_rfl) (yields_of rfl (fun wS hwS => cut_l rfl Try.underlying22 size61 rfl rfl (by decide) (by omega))) hb0 ?_; simp only [Act.put, Act.eval, List.setIfInBounds_toArray, List.set_cons_zero, List.set_cons_succ, Array.getD_eq_getD_getElem?, List.getElem?_toArray, List.getElem?_cons_zero, List.getElem?_cons_succ, Option.getD_some]); (refine heldOne 5 rfl (by kernel_rfl) rfl (ex_alloc rfl (z := .agg zItem.cells.toArray) zero61') (hb0.alloc (by exact Nat.le_refl _) _) ?_; simp only [Act.put, Act.eval, List.setIfInBounds_toArray, List.set_cons_zero, List.set_cons_succ, Array.getD_eq_getD_getElem?, List.getElem?_toArray, List.getElem?_cons_zero, List.getElem?_cons_succ, Option.getD_some]); (refine heldOne_skip 6 rfl (by kernel_rfl) rfl (ex_store_new (w := w.drew) rfl rfl rfl (itemSize x) (by simp [Value.cells, Item.cells_length]) (all_oneCell_toArray (Item.cells_one x))) (hb0.alloc (by exact Nat.le_refl _) _) ?_; simp only [Act.put, Act.eval, List.setIfInBounds_toArray, List.set_cons_zero, List.set_cons_succ, Array.getD_eq_getD_getElem?, List.getElem?_toArray, List.getElem?_cons_zero, List.getElem?_cons_succ, Option.getD_some]); (refine heldOne 7 rfl (by kernel_rfl) rfl (ex_assign rfl rfl) (hb0.alloc (by exact Nat.le_refl _) _) ?_; simp only [Act.put, Act.eval, List.setIfInBounds_toArray, List.set_cons_zero, List.set_cons_succ, Array.getD_eq_getD_getElem?, List.getElem?_toArray, List.getElem?_cons_zero, List.getElem?_cons_succ, Option.getD_some]); (refine wpAnyH_done (by kernel_rfl) ?_ _))
  go_wp2
  go_ret2
  have hm : readM 0 (x :: l) = none := by simp [readM, HK.out]
  rw [hm]
  exact ⟨rfl, hb0.alloc (by exact Nat.le_refl _) _⟩

set_option maxRecDepth 100000 in
set_option maxHeartbeats 1000000 in
theorem read_two (d : Nat) (hd : d < 256) (ih : ∀ (l : List Item) (A : Option Addr) (cap : Nat) (depth : Int) (w0 w : World), depth = 256 - d → l.length ≤ cap → Below w0.heap.size w0 w → Rd w0 A (l.flatMap Item.cells) → Calls Try.prog 47 #[.slice A l.length cap, .int .i64 depth] w (ReadPost (readM d l) w0 w))
    (x : Item) (l : List Item) (b o cap : Nat) (hcap : l.length + 1 ≤ cap) (w0 w : World) (h0 : Below w0.heap.size w0 w) (hr : w0.rangeAt b o ((x :: l).flatMap Item.cells)) (hk : x.kind = 2) :
    Calls Try.prog 47 #[.slice (some ⟨b, o, none⟩) (l.length + 1) cap, .int .i64 (256 - (d + 1))] w (ReadPost (readM (d + 1) (x :: l)) w0 w) := by
  have hrx0 := rangeAt_flat (k := 0) (x := x) Item.cells_length hr rfl
  simp only [Nat.zero_mul, Nat.add_zero] at hrx0
  have hrx := rangeAt_below hrx0 h0
  have hk' : (x.kind != 2) = false := by simpa using hk
  have HK := Lib.hid hk; clear hk
  have IH := Lib.hid ih; clear ih
  go_enter Try.func47, Try.ntmps47
  go_wp2
  have hb0 : Below w.heap.size w w.drew := (Below.refl _ _).drew
  ((refine heldQ (S := Below w.heap.size w) follows (HQ.mk fun _ _ _ _ _ h => h) (fun hQ => ?_)); (refine takeQ 0 hQ rfl (by kernel_rfl) (by kernel_rfl) (by kernel_rfl) (yields_of rfl (fun wS hwS => ex_move rfl rfl)) hb0 ?_; simp only [Act.put, Act.eval, List.setIfInBounds_toArray, List.set_cons_zero, List.set_cons_succ, Array.getD_eq_getD_getElem?, List.getElem?_toArray, List.getElem?_cons_zero, List.getElem?_cons_succ, Option.getD_some]); (refine takeQ 1 hQ rfl (by kernel_rfl) (by kernel_rfl) (by kernel_rfl) (yields_of rfl (fun wS hwS => ex_index rfl Try.underlying22 size61 rfl rfl (by decide) (by omega))) hb0 ?_; simp only [Act.put, Act.eval, List.setIfInBounds_toArray, List.set_cons_zero, List.set_cons_succ, Array.getD_eq_getD_getElem?, List.getElem?_toArray, List.getElem?_cons_zero, List.getElem?_cons_succ, Option.getD_some]); (refine takeQ 2 hQ rfl (by kernel_rfl) (by kernel_rfl) (by kernel_rfl) (yields_of rfl (fun wS hwS => ex_load_row rfl rfl (rangeAt_below hrx hwS) Try.underlying61 rfl (itemLen x))) hb0 ?_; simp only [Act.put, Act.eval, List.setIfInBounds_toArray, List.set_cons_zero, List.set_cons_succ, Array.getD_eq_getD_getElem?, List.getElem?_toArray, List.getElem?_cons_zero, List.getElem?_cons_succ, Option.getD_some]); (refine takeQ 3 hQ rfl (by kernel_rfl) (by kernel_rfl) (by kernel_rfl) (yields_of rfl (fun wS hwS => ex_move rfl rfl)) hb0 ?_; simp only [Act.put, Act.eval, List.setIfInBounds_toArray, List.set_cons_zero, List.set_cons_succ, Array.getD_eq_getD_getElem?, List.getElem?_toArray, List.getElem?_cons_zero, List.getElem?_cons_succ, Option.getD_some]); (refine takeQ 4 hQ rfl (by kernel_rfl) (by kernel_rfl) (by kernel_rfl) (yields_of rfl (fun wS hwS => cut_l rfl Try.underlying22 size61 rfl rfl (by decide) (by omega))) hb0 ?_; simp only [Act.put, Act.eval, List.setIfInBounds_toArray, List.set_cons_zero, List.set_cons_succ, Array.getD_eq_getD_getElem?, List.getElem?_toArray, List.getElem?_cons_zero, List.getElem?_cons_succ, Option.getD_some]); (refine heldOne 5 rfl (by kernel_rfl) rfl (ex_alloc rfl (z := .agg zItem.cells.toArray) zero61') (hb0.alloc (by exact Nat.le_refl _) _) ?_; simp only [Act.put, Act.eval, List.setIfInBounds_toArray, List.set_cons_zero, List.set_cons_succ, Array.getD_eq_getD_getElem?, List.getElem?_toArray, List.getElem?_cons_zero, List.getElem?_cons_succ, Option.getD_some]); (refine heldOne_skip 6 rfl (by kernel_rfl) rfl (ex_store_new (w := w.drew) rfl rfl rfl (itemSize x) (by simp [Value.cells, Item.cells_length]) (all_oneCell_toArray (Item.cells_one x))) (hb0.alloc (by exact Nat.le_refl _) _) ?_; simp only [Act.put, Act.eval, List.setIfInBounds_toArray, List.set_cons_zero, List.set_cons_succ, Array.getD_eq_getD_getElem?, List.getElem?_toArray, List.getElem?_cons_zero, List.getElem?_cons_succ, Option.getD_some]); (refine heldOne 7 rfl (by kernel_rfl) rfl (ex_assign rfl rfl) (hb0.alloc (by exact Nat.le_refl _) _) ?_; simp only [Act.put, Act.eval, List.setIfInBounds_toArray, List.set_cons_zero, List.set_cons_succ, Array.getD_eq_getD_getElem?, List.getElem?_toArray, List.getElem?_cons_zero, List.getElem?_cons_succ, Option.getD_some]); (refine wpAnyH_done (by kernel_rfl) ?_ _))
  go_wp2
  refine wp_loop_rounds 3 ?_
  rw [rounds_succ]
  go_wp2_with fail
  have h1 := cut_Rd (n := l.length + 1) (c := cap) (i := 1) (size := 97) (Rd.mk hr) (by rw [flat_length Item.cells_length]; rfl) hcap (by omega)
  rw [flat_drop Item.cells_length] at h1
  have IH1 := fun W hW => IH.out l (cutA (some ⟨b, o, none⟩) cap 1 97) (cap - 1) (256 - (d + 1) + 1) w0 W (by omega) (by omega) hW h1
  rcases hm1 : readM d l with _ | ⟨t1, l1⟩
  · rw [hm1] at IH1
    have hm : readM (d + 1) (x :: l) = none := by simp [readM, HK.out, hm1]
    have HM := Lib.hid hm; clear hm hm1
    refine (IH1 _ ?_).mono ?_
    · exact h0.trans ((((Below.refl _ _).alloc (by exact h0.size) _).alloc (by simp; have := h0.size; omega) _).drew)
    rintro e w1 ⟨rfl, hb1⟩
    obtain ⟨hg1, hc1, hf1⟩ := blk_at (w.heap.size + 1) #[.nilIface, .nilIface] 97 (by exact heap_alloc2_new _ _ _) hb1
    go_wp2
    go_ret2
    rw [HM.out]
    exact ⟨rfl, bset (bthen (bdrew (balloc (balloc (brefl _) _) _)) hb1) (by simp) _⟩
  · rw [hm1] at IH1
    refine (IH1 _ ?_).mono ?_
    · exact bthen h0 (bdrew (balloc (balloc (brefl _) _) _))
    rintro e w1 ⟨A1, c1, rfl, hl1, hr1, hb1⟩
    obtain ⟨hg1, hc1, hf1⟩ := blk_at (w.heap.size + 1) #[.nilIface, .nilIface] 97 (by exact heap_alloc2_new _ _ _) hb1
    go_wp2
    rw [rounds_succ]
    go_wp2_with fail
    have IH2 := fun W hW => IH.out l1 A1 c1 (256 - (d + 1) + 1) w0 W (by omega) hl1 hW hr1
    rcases hm2 : readM d l1 with _ | ⟨t2, l2⟩
    · rw [hm2] at IH2
      have hm : readM (d + 1) (x :: l) = none := by simp [readM, HK.out, hm1, hm2]
      have HM := Lib.hid hm; clear hm hm1 hm2
      refine (IH2 _ ?_).mono ?_
      · exact bthen h0 (bset (bthen (bdrew (balloc (balloc (brefl _) _) _)) hb1) (by simp) _)
      rintro e w2 ⟨rfl, hb2⟩
      obtain ⟨hg2, hc2, hf2⟩ := blk_at (w.heap.size + 1) #[.iface t1.tag t1.val, .nilIface] 97 (by exact heap_setCell_same _ _ _ _ _ _ hg1) hb2
      go_wp2
      go_ret2
      rw [HM.out]
      exact ⟨rfl, bset (bthen (bset (bthen (bdrew (balloc (balloc (brefl _) _) _)) hb1) (by simp) _) hb2) (by simp) _⟩
    · rw [hm2] at IH2
      have hm : readM (d + 1) (x :: l) = some (.two t1 t2, l2) := by simp [readM, HK.out, hm1, hm2]
      have HM := Lib.hid hm; clear hm hm1 hm2
      refine (IH2 _ ?_).mono ?_
      · exact bthen h0 (bset (bthen (bdrew (balloc (balloc (brefl _) _) _)) hb1) (by simp) _)
      rintro e w2 ⟨A2, c2, rfl, hl2, hr2, hb2⟩
      obtain ⟨hg2, hc2, hf2⟩ := blk_at (w.heap.size + 1) #[.iface t1.tag t1.val, .nilIface] 97 (by exact heap_setCell_same _ _ _ _ _ _ hg1) hb2
      go_wp2
      rw [rounds_succ]
      go_wp2
      go_ret2
      rw [HM.out]
      exact ⟨A2, c2, rfl, hl2, hr2, bset (bthen (bset (bthen (bdrew (balloc (balloc (brefl _) _) _)) hb1) (by simp) _) hb2) (by simp) _⟩

theorem read_any : ∀ (d : Nat), d ≤ 256 → ∀ (l : List Item) (A : Option Addr) (cap : Nat) (depth : Int) (w0 w : World), depth = 256 - d → l.length ≤ cap → Below w0.heap.size w0 w → Rd w0 A (l.flatMap Item.cells) →
    Calls Try.prog 47 #[.slice A l.length cap, .int .i64 depth] w (ReadPost (readM d l) w0 w)
  | d, _, [], A, cap, depth, w0, w, _, _, _, _ => read_nil A cap d depth w0 w
  | d, hd, x :: l, A, cap, depth, w0, w, he, hcap, h0, hr => by
    obtain ⟨b, o, rfl, _, hr'⟩ := hr.open_ (by rw [flat_length Item.cells_length]; simp)
    by_cases hk : x.kind = 2
    · subst he
      match d, hd with
      | 0, _ => exact read_deep x l b o cap hcap w0 w h0 hr' hk
      | d + 1, hd => 
        have := read_two d (by omega) (read_any d (by omega)) x l b o cap hcap w0 w h0 hr' hk
        simpa using this
    · exact read_one d x l b o cap depth hcap w0 w h0 hr' hk
end Go.Proofs.Ythinpbgbnlohpaa
