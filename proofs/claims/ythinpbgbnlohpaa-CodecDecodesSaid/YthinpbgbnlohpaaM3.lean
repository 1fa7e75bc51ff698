/- multi.parse and multi.Check. -/
import Derived.Test.YthinpbgbnlohpaaM2
namespace Go.Proofs.Ythinpbgbnlohpaa
set_option linter.unusedSimpArgs false
set_option linter.unusedVariables false
open Go.RowKit

/-- the kind is one of the four -/
def kindOk (x : Item) : Bool := decide (0 ≤ x.kind) && decide (x.kind ≤ 3)
/-- fields that have no meaning are zero -/
def cleanItem (x : Item) : Bool := (x.kind == 3 || decide (x.digest = zB32)) && (x.kind == 1 || decide (x.leaf = zLeaf))
def parseM (l : List Item) : Except Int Sub :=
  if l.all kindOk then
    match readM 256 l with
    | some (t, []) => if l.all cleanItem then .ok t else .error 5
    | _ => .error 5
  else .error 7

def ParsePost (r : Except Int Sub) (w : World) (e : Ending) (w' : World) : Prop :=
  match r with
  | .ok t => e = .returned (.tuple #[.iface t.tag t.val, .int .i64 0]) ∧ Below w.heap.size w w'
  | .error c => e = .returned (.tuple #[.nilIface, .int .i64 c]) ∧ Below w.heap.size w w'
theorem all_take {α : Type} (p : α → Bool) (l : List α) (k : Nat) (x : α) (h : l[k]? = some x) : (l.take (k + 1)).all p = ((l.take k).all p && p x) := by
  rw [List.take_add_one, h, List.all_append]
  simp
set_option maxRecDepth 100000 in
set_option maxHeartbeats 400000 in
theorem parse_any (l : List Item) (A : Option Addr) (cap : Nat) (hl : l.length ≤ 100000) (hcap : l.length ≤ cap) (w : World) (hr : Rd w A (l.flatMap Item.cells)) :
    Calls Try.prog 42 #[.slice A l.length cap] w (ParsePost (parseM l) w) := by
  go_enter Try.func42, Try.ntmps42
  go_wp2
  go_loopw [4, 11] (fun c i wr => ∃ k : Nat, k ≤ l.length ∧ i = .int .i64 k ∧ (l.take k).all kindOk = true ∧ c = .bool ((l.take k).all cleanItem) ∧ Below w.heap.size w wr) (fun _ i _ => l.length - (intOf i).toNat)
  case atStart => exact ⟨0, by omega, rfl, by simp, by simp, Below.refl _ _⟩
  case round =>
    obtain ⟨k, hk, rfl, hok, rfl, hb⟩ := hrel
    by_cases hlt : k < l.length
    · have hx : l[k]? = some l[k] := by simp [hlt]
      generalize l[k] = x at hx
      obtain ⟨b, o, rfl, hbw, hr'⟩ := hr.open_ (by rw [flat_length Item.cells_length]; omega)
      have hrx := rangeAt_below (rangeAt_flat Item.cells_length hr' hx) hb
      obtain ⟨hD, hL, _, _⟩ := Item.ranges (rangeAt_new' wr x.cells 61)
      simp only [Nat.zero_add] at hD hL
      have hk1 := all_take kindOk l k x hx
      have hk2 := all_take cleanItem l k x hx
      generalize hc : (l.take k).all cleanItem = c at hk2
      clear hc
      have HK1 := Lib.hid hk1; have HK2 := Lib.hid hk2; have HOK := Lib.hid hok; clear hk1 hk2 hok
      by_cases h0 : 0 ≤ x.kind ∧ x.kind ≤ 3
      · obtain ⟨h0, h3⟩ := h0
        have HK1' := HK1.out; rw [HOK.out, Bool.true_and] at HK1'
        have hko : kindOk x = true := by simp [kindOk, h0, h3]
        rw [hko] at HK1'
        have HK1'' := Lib.hid HK1'; clear HK1' hko
        cases c
        · go_wp2_with (first | ((with_reducible refine gLoad (T := 61) ?_); refine wLoadItem _ rfl ?_ _ _ rfl x hrx ?_; (focus (first | (simp [Region.wanted, yielded]; done) | (simp [Region.wanted, yielded, *]; done)))) | ((with_reducible refine gAlloc (T := 61) ?_); refine copyItem rfl rfl rfl _ rfl _ rfl rfl x rfl rfl ?_) | ((with_reducible refine gLoad (T := 43) ?_); refine wLoadDigest _ rfl ?_ _ _ rfl x.digest hD ?_; (focus (first | (simp [Region.wanted, yielded]; done) | (simp [Region.wanted, yielded, *]; done)))) | ((with_reducible refine gLoad (T := 45) ?_); refine wLoadLeaf _ rfl ?_ _ _ rfl x.leaf hL ?_; (focus (first | (simp [Region.wanted, yielded]; done) | (simp [Region.wanted, yielded, *]; done)))) | ((with_reducible refine gBuild (T := 43) ?_); refine wZeroDigest rfl ?_ ?_; (focus (first | (simp [Region.wanted, yielded]; done) | (simp [Region.wanted, yielded, *]; done)))) | ((with_reducible refine gBuild (T := 45) ?_); refine wZeroLeaf rfl ?_ ?_; (focus (first | (simp [Region.wanted, yielded]; done) | (simp [Region.wanted, yielded, *]; done)))) | ((with_reducible refine gBin (b := .eql) (T := 43) ?_); refine wEqlDigest _ _ _ rfl ?_ x.digest zB32 rfl rfl ?_; (focus (first | (simp [Region.wanted, yielded]; done) | (simp [Region.wanted, yielded, *]; done)))) | ((with_reducible refine gBin (b := .eql) (T := 45) ?_); refine wEqlLeaf _ _ _ rfl ?_ x.leaf zLeaf rfl rfl ?_; (focus (first | (simp [Region.wanted, yielded]; done) | (simp [Region.wanted, yielded, *]; done)))))
          exact ⟨⟨k + 1, by omega, by go_num, HK1''.out, by rw [HK2.out]; rfl, hb.alloc hb.size _⟩, by simp [intOf]; omega⟩
        · rcases Bool.eq_false_or_eq_true (x.kind == 3) with e3 | e3 <;> rcases Bool.eq_false_or_eq_true (x.kind == 1) with e1 | e1
          · exfalso; simp at e1 e3; omega
          all_goals
            go_wp2_with (first | ((with_reducible refine gLoad (T := 61) ?_); refine wLoadItem _ rfl ?_ _ _ rfl x hrx ?_; (focus (first | (simp [Region.wanted, yielded]; done) | (simp [Region.wanted, yielded, *]; done)))) | ((with_reducible refine gAlloc (T := 61) ?_); refine copyItem rfl rfl rfl _ rfl _ rfl rfl x rfl rfl ?_) | ((with_reducible refine gLoad (T := 43) ?_); refine wLoadDigest _ rfl ?_ _ _ rfl x.digest hD ?_; (focus (first | (simp [Region.wanted, yielded]; done) | (simp [Region.wanted, yielded, *]; done)))) | ((with_reducible refine gLoad (T := 45) ?_); refine wLoadLeaf _ rfl ?_ _ _ rfl x.leaf hL ?_; (focus (first | (simp [Region.wanted, yielded]; done) | (simp [Region.wanted, yielded, *]; done)))) | ((with_reducible refine gBuild (T := 43) ?_); refine wZeroDigest rfl ?_ ?_; (focus (first | (simp [Region.wanted, yielded]; done) | (simp [Region.wanted, yielded, *]; done)))) | ((with_reducible refine gBuild (T := 45) ?_); refine wZeroLeaf rfl ?_ ?_; (focus (first | (simp [Region.wanted, yielded]; done) | (simp [Region.wanted, yielded, *]; done)))) | ((with_reducible refine gBin (b := .eql) (T := 43) ?_); refine wEqlDigest _ _ _ rfl ?_ x.digest zB32 rfl rfl ?_; (focus (first | (simp [Region.wanted, yielded]; done) | (simp [Region.wanted, yielded, *]; done)))) | ((with_reducible refine gBin (b := .eql) (T := 45) ?_); refine wEqlLeaf _ _ _ rfl ?_ x.leaf zLeaf rfl rfl ?_; (focus (first | (simp [Region.wanted, yielded]; done) | (simp [Region.wanted, yielded, *]; done)))))
            all_goals
              refine ⟨⟨k + 1, by omega, by go_num, HK1''.out, ?_, hb.alloc hb.size _⟩, by simp [intOf]; omega⟩
              rw [HK2.out]
              simp [cleanItem, *]
      · have hko : kindOk x = false := by simp [kindOk]; omega
        have hm : parseM l = .error 7 := by
          unfold parseM
          rw [if_neg]
          intro ha
          have := List.all_eq_true.1 ha x (List.mem_of_getElem? hx)
          rw [hko] at this
          cases this
        have HM := Lib.hid hm; clear hm hko
        by_cases h1 : 0 ≤ x.kind
        · have h3 : 3 < x.kind := by omega
          clear h0
          go_wp2_with (first | ((with_reducible refine gLoad (T := 61) ?_); refine wLoadItem _ rfl ?_ _ _ rfl x hrx ?_; (focus (first | (simp [Region.wanted, yielded]; done) | (simp [Region.wanted, yielded, *]; done)))) | ((with_reducible refine gAlloc (T := 61) ?_); refine copyItem rfl rfl rfl _ rfl _ rfl rfl x rfl rfl ?_) | ((with_reducible refine gLoad (T := 43) ?_); refine wLoadDigest _ rfl ?_ _ _ rfl x.digest hD ?_; (focus (first | (simp [Region.wanted, yielded]; done) | (simp [Region.wanted, yielded, *]; done)))) | ((with_reducible refine gLoad (T := 45) ?_); refine wLoadLeaf _ rfl ?_ _ _ rfl x.leaf hL ?_; (focus (first | (simp [Region.wanted, yielded]; done) | (simp [Region.wanted, yielded, *]; done)))) | ((with_reducible refine gBuild (T := 43) ?_); refine wZeroDigest rfl ?_ ?_; (focus (first | (simp [Region.wanted, yielded]; done) | (simp [Region.wanted, yielded, *]; done)))) | ((with_reducible refine gBuild (T := 45) ?_); refine wZeroLeaf rfl ?_ ?_; (focus (first | (simp [Region.wanted, yielded]; done) | (simp [Region.wanted, yielded, *]; done)))) | ((with_reducible refine gBin (b := .eql) (T := 43) ?_); refine wEqlDigest _ _ _ rfl ?_ x.digest zB32 rfl rfl ?_; (focus (first | (simp [Region.wanted, yielded]; done) | (simp [Region.wanted, yielded, *]; done)))) | ((with_reducible refine gBin (b := .eql) (T := 45) ?_); refine wEqlLeaf _ _ _ rfl ?_ x.leaf zLeaf rfl rfl ?_; (focus (first | (simp [Region.wanted, yielded]; done) | (simp [Region.wanted, yielded, *]; done)))))
          go_ret2
          rw [HM.out]
          exact ⟨rfl, hb.alloc hb.size _⟩
        · clear h0
          go_wp2_with (first | ((with_reducible refine gLoad (T := 61) ?_); refine wLoadItem _ rfl ?_ _ _ rfl x hrx ?_; (focus (first | (simp [Region.wanted, yielded]; done) | (simp [Region.wanted, yielded, *]; done)))) | ((with_reducible refine gAlloc (T := 61) ?_); refine copyItem rfl rfl rfl _ rfl _ rfl rfl x rfl rfl ?_) | ((with_reducible refine gLoad (T := 43) ?_); refine wLoadDigest _ rfl ?_ _ _ rfl x.digest hD ?_; (focus (first | (simp [Region.wanted, yielded]; done) | (simp [Region.wanted, yielded, *]; done)))) | ((with_reducible refine gLoad (T := 45) ?_); refine wLoadLeaf _ rfl ?_ _ _ rfl x.leaf hL ?_; (focus (first | (simp [Region.wanted, yielded]; done) | (simp [Region.wanted, yielded, *]; done)))) | ((with_reducible refine gBuild (T := 43) ?_); refine wZeroDigest rfl ?_ ?_; (focus (first | (simp [Region.wanted, yielded]; done) | (simp [Region.wanted, yielded, *]; done)))) | ((with_reducible refine gBuild (T := 45) ?_); refine wZeroLeaf rfl ?_ ?_; (focus (first | (simp [Region.wanted, yielded]; done) | (simp [Region.wanted, yielded, *]; done)))) | ((with_reducible refine gBin (b := .eql) (T := 43) ?_); refine wEqlDigest _ _ _ rfl ?_ x.digest zB32 rfl rfl ?_; (focus (first | (simp [Region.wanted, yielded]; done) | (simp [Region.wanted, yielded, *]; done)))) | ((with_reducible refine gBin (b := .eql) (T := 45) ?_); refine wEqlLeaf _ _ _ rfl ?_ x.leaf zLeaf rfl rfl ?_; (focus (first | (simp [Region.wanted, yielded]; done) | (simp [Region.wanted, yielded, *]; done)))))
          go_ret2
          rw [HM.out]
          exact ⟨rfl, hb.alloc hb.size _⟩
    · have hkl : k = l.length := by omega
      rw [hkl, List.take_length] at hok
      rw [hkl, List.take_length]
      have HOK := Lib.hid hok; clear hok
      have hlt' : ¬ (k : Int) < l.length := by omega
      go_wp2_with fail
      have R := fun W hW => read_any 256 (by omega) l A cap 0 w W (by omega) hcap hW hr
      rcases hm1 : readM 256 l with _ | ⟨t, rest⟩
      · rw [hm1] at R
        have hm : parseM l = .error 5 := by simp [parseM, HOK.out, hm1]
        have HM := Lib.hid hm; clear hm hm1
        refine (R _ hb).mono ?_
        rintro e w1 ⟨rfl, hb1⟩
        cases l.all cleanItem
        all_goals
          go_wp2
          go_ret2
          rw [HM.out]
          exact ⟨rfl, bthen hb hb1⟩
      · rw [hm1] at R
        refine (R _ hb).mono ?_
        rintro e w1 ⟨A', c', rfl, hl', hr', hb1⟩
        rcases rest with _ | ⟨y, rest⟩
        · cases hc : l.all cleanItem
          · have hm : parseM l = .error 5 := by simp [parseM, HOK.out, hm1, hc]
            have HM := Lib.hid hm; clear hm hm1
            go_wp2
            go_ret2
            rw [HM.out]
            exact ⟨rfl, bthen hb hb1⟩
          · have hm : parseM l = .ok t := by simp [parseM, HOK.out, hm1, hc]
            have HM := Lib.hid hm; clear hm hm1
            go_wp2
            go_ret2
            rw [HM.out]
            exact ⟨rfl, bthen hb hb1⟩
        · have hm : parseM l = .error 5 := by simp [parseM, HOK.out, hm1]
          have HM := Lib.hid hm; clear hm hm1
          cases l.all cleanItem
          all_goals
            go_wp2
            go_ret2
            rw [HM.out]
            exact ⟨rfl, bthen hb hb1⟩
end Go.Proofs.Ythinpbgbnlohpaa
