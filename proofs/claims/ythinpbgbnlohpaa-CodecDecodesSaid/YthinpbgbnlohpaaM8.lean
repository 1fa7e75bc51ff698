/- mcodec.Encode. -/
import Derived.Test.YthinpbgbnlohpaaM4
import Derived.Test.YthinpbgbnlohpaaM6
namespace Go.Proofs.Ythinpbgbnlohpaa
set_option linter.unusedSimpArgs false
set_option linter.unusedVariables false
open Go.RowKit
attribute [local irreducible] wpStill wpList

/-- a number as a byte -/
def ub (n : Int) : UInt8 := UInt8.ofNat (n % 256).toNat
theorem ub_val (n : Int) : ((ub n).toNat : Int) = n % 256 := by
  unfold ub
  rw [UInt8.toNat_ofNat']
  omega
def encItem (x : Item) : List UInt8 := ub x.kind :: (if x.kind = 1 then x.leaf.key.1 ++ x.leaf.value.1 else if x.kind = 3 then x.digest.1 else [])
def encHead (n : Nat) : List UInt8 := [1, 2, ub (n / 16777216), ub (n / 65536), ub (n / 256), ub n]
def encM (l : List Item) : List UInt8 := encHead l.length ++ l.flatMap encItem
theorem encItem_le (x : Item) : (encItem x).length ≤ 65 := by
  unfold encItem
  split
  · simp [x.leaf.key.2, x.leaf.value.2]
  · split <;> simp [x.digest.2]
theorem encLen_le (l : List Item) (k : Nat) : ((l.take k).flatMap encItem).length ≤ 65 * l.length := by
  have h : ∀ m : List Item, (m.flatMap encItem).length ≤ 65 * m.length := by
    intro m
    induction m with
    | nil => simp
    | cons x m ih => have := encItem_le x; simp only [List.flatMap_cons, List.length_append, List.length_cons]; omega
  have h1 := h (l.take k)
  have h2 : (l.take k).length ≤ l.length := by simp; omega
  omega
theorem flat_step {α β : Type} {f : α → List β} (l : List α) (k : Nat) (x : α) (h : l[k]? = some x) : (l.take (k + 1)).flatMap f = (l.take k).flatMap f ++ f x := by
  rw [List.take_add_one, h, List.flatMap_append]
  simp
theorem enc_own {w : World} {s n M : Nat} {v : Value} {r : List Value} {h a b c : List UInt8} (h1 : w.ownsRow s 5 1 v n r) (hM : a.length = M) (hS : c = a ++ b) (hn : n = 6 + M + b.length) (hrr : r = bc (h ++ a) ++ bc b) : w.ownsRow s 5 1 v (6 + c.length) (bc (h ++ c)) := by
  subst hS; subst hM; subst hn; subst hrr
  rw [List.length_append, ← List.append_assoc, bc_append, ← Nat.add_assoc]
  exact h1
def EncPost (l : List Item) (w : World) (e : Ending) (w' : World) : Prop :=
  if checkM l = 0 then ∃ v, e = .returned (.tuple #[v, .int .i64 0]) ∧ w'.ownsRow w.heap.size 5 1 v (encM l).length (bc (encM l)) ∧ Below w.heap.size w w'
  else e = .returned (.tuple #[.slice none 0 0, .int .i64 (checkM l)]) ∧ Below w.heap.size w w'
set_option maxRecDepth 100000 in
set_option maxHeartbeats 1000000 in
theorem Encode_any (l : List Item) (A : Option Addr) (cap : Nat) (hl : l.length ≤ 100000) (hcap : l.length ≤ cap) (w : World) (hr : Rd w A (l.flatMap Item.cells)) :
    Calls Try.prog 13 #[.slice A l.length cap] w (EncPost l w) := by
  have CK := Check_any l A cap hl hcap w hr
  by_cases hc : checkM l = 0
  · have hsz : sizeM l = 6 + sizeSum l := by simp [sizeM, hc]
    have hss := sizeSum_le l
    rw [hc] at CK
    have HC := Lib.hid hc; clear hc
    go_enter Try.func13, Try.ntmps13
    go_wp2_with fail
    refine CK.mono ?_
    rintro e w1 ⟨rfl, hb1⟩
    go_wp2_with fail
    have SZ := Size_any l A cap hl hcap w1 (hr.below hb1)
    rw [hsz] at SZ
    clear hsz
    refine SZ.mono ?_
    rintro e w2 ⟨rfl, hb2⟩
    have hb := bthen hb1 hb2
    clear hb1 hb2
    obtain ⟨N, hN⟩ : ∃ N : Nat, (N : Int) = 6 + sizeSum l := ⟨(6 + sizeSum l).toNat, by omega⟩
    rw [← hN]
    have hNl : N ≤ 6500006 := by omega
    clear hN hss
    obtain ⟨i0, hi, hz0, hz1, hz2⟩ := info_parts elB.hi
    go_wp2_with (first | ((with_reducible refine gMake (T := 25) ?_); refine wpList_make_own w2 rfl _ _ 25 rfl w2.heap.size 5 i0 (.int .u8 0) 1 Try.underlying25 hi hz0 hz1 .i64 .i64 _ N rfl rfl rfl (by rw [hz2]; omega) (by unfold maxLen; omega) (Nat.le_refl _) ?_; intro w3 hown3 hg3; have hB3 : Below w2.heap.size w2 w3 := (brefl w2).grown hg3 (Nat.le_refl _) (fun k h => by cases h)) | (at_builtin; refine wplAppend rfl _ _ rfl elB rfl (own_alloc hown3 _) rfl (fun h => by cases h) rfl (Rd_lit w3 [.int .u8 1, .int .u8 2] _) (by simp [Value.oneCell']) (by omega) (by have := hB3.size; simp; omega) ?_; intro w4v w4 hown4 hg4; have hB4 := grow_below (balloc hB3 _) (own_alloc hown3 _) hg4 (Nat.le_refl _) (balloc hB3 _).size; have HO := Lib.hid hown4; clear hown4 hown3 hg3 hg4))
    have HB := hB4; clear hB4
    refine wp_loop_rounds 5 ?_
    rw [rounds_succ]
    go_wp2_with (first | (at_builtin; refine wplAppend rfl _ _ rfl elB rfl (own_alloc HO.out _) rfl (fun h => by cases h) rfl (Rd_at _ _ [.int .u8 _] _ (by simp)) (by simp [Value.oneCell']) (by omega) (balloc HB _).size ?_; intro va wa hoa hga; replace HB := grow_below (balloc HB _) (own_alloc HO.out _) hga (Nat.le_refl _) (balloc HB _).size; replace HO := Lib.hid hoa; clear hoa hga))
    rw [rounds_succ]
    go_wp2_with (first | (at_builtin; refine wplAppend rfl _ _ rfl elB rfl (own_alloc HO.out _) rfl (fun h => by cases h) rfl (Rd_at _ _ [.int .u8 _] _ (by simp)) (by simp [Value.oneCell']) (by omega) (balloc HB _).size ?_; intro va wa hoa hga; replace HB := grow_below (balloc HB _) (own_alloc HO.out _) hga (Nat.le_refl _) (balloc HB _).size; replace HO := Lib.hid hoa; clear hoa hga))
    rw [rounds_succ]
    go_wp2_with (first | (at_builtin; refine wplAppend rfl _ _ rfl elB rfl (own_alloc HO.out _) rfl (fun h => by cases h) rfl (Rd_at _ _ [.int .u8 _] _ (by simp)) (by simp [Value.oneCell']) (by omega) (balloc HB _).size ?_; intro va wa hoa hga; replace HB := grow_below (balloc HB _) (own_alloc HO.out _) hga (Nat.le_refl _) (balloc HB _).size; replace HO := Lib.hid hoa; clear hoa hga))
    rw [rounds_succ]
    go_wp2_with (first | (at_builtin; refine wplAppend rfl _ _ rfl elB rfl (own_alloc HO.out _) rfl (fun h => by cases h) rfl (Rd_at _ _ [.int .u8 _] _ (by simp)) (by simp [Value.oneCell']) (by omega) (balloc HB _).size ?_; intro va wa hoa hga; replace HB := grow_below (balloc HB _) (own_alloc HO.out _) hga (Nat.le_refl _) (balloc HB _).size; replace HO := Lib.hid hoa; clear hoa hga))
    rw [rounds_succ]
    go_wp2_with fail
    have hob : wa.ownsRow w2.heap.size 5 1 va (6 + 0) (bc (encHead l.length ++ (l.take 0).flatMap encItem)) := by
      have := HO.out
      have e1 : ((l.length : Int) / 16777216) % 256 = (l.length : Int) / 16777216 := by omega
      have e2 : ((l.length : Int) / 65536) % 256 = (l.length : Int) / 65536 := by omega
      simpa [encHead, bc, ub_val, e1, e2] using this
    clear HO
    have HB0 := HB
    go_loopw [5, 34] (fun v i wr => ∃ k : Nat, k ≤ l.length ∧ i = .int .i64 k ∧ wr.ownsRow w2.heap.size 5 1 v (6 + ((l.take k).flatMap encItem).length) (bc (encHead l.length ++ (l.take k).flatMap encItem)) ∧ Below w2.heap.size w2 wr) (fun _ i _ => l.length - (intOf i).toNat)
    case atStart => exact ⟨0, by omega, rfl, by simpa using hob, HB⟩
    case round =>
      clear hob HB HB0
      obtain ⟨k, hk, rfl, hown, HB⟩ := hrel
      by_cases hlt : k < l.length
      · have hx : l[k]? = some l[k] := by simp [hlt]
        generalize l[k] = x at hx
        obtain ⟨b, o, rfl, hrx⟩ := items_at (hr.below (bthen hb HB)) hx
        have HS := Lib.hid (flat_step (f := encItem) l k x hx)
        have HLEN := Lib.hid (encLen_le l k)
        have hle := HLEN.out
        generalize hM : ((l.take k).flatMap encItem).length = M at *
        have HM := Lib.hid hM; clear hM
        have HO := Lib.hid hown; clear hown
        have HI := Lib.hid (heap_alloc_new wr (.cells x.cells.toArray 61))
        have hk0 : (wr.alloc (.cells x.cells.toArray 61)).cell? ⟨wr.heap.size, 0, none⟩ = some (.int .i64 x.kind) := by simp [Item.cells]
        by_cases k1 : x.kind = 1
        · have he : encItem x = ub 1 :: (x.leaf.key.1 ++ x.leaf.value.1) := by simp [encItem, k1]
          rw [k1] at hk0
          have HK0 := Lib.hid (show x.cells.toArray[0]? = some (.int .i64 1) by simp [Item.cells, k1])
          have HE := Lib.hid he; clear he k1
          go_wp2_with (first | ((with_reducible refine gLoad (T := 61) ?_); refine wLoadItem _ rfl ?_ _ _ rfl x hrx ?_; (focus (first | (simp [Region.wanted, yielded]; done) | (simp [Region.wanted, yielded, *]; done)))) | ((with_reducible refine gAlloc (T := 61) ?_); refine copyItem rfl rfl rfl _ rfl _ rfl rfl x rfl rfl ?_; replace HO := Lib.hid (own_alloc HO.out (.cells x.cells.toArray 61)); replace HB := balloc HB (.cells x.cells.toArray 61)) | (at_builtin; refine wplAppend rfl _ _ rfl elB rfl (own_alloc HO.out _) rfl (fun h => by cases h) rfl (Rd_at _ _ [.int .u8 _] _ (by simp)) (by simp [Value.oneCell']) (by omega) (balloc HB _).size ?_; intro va wa hoa hga; replace HI := Lib.hid (grow_blk (alloc_blk HI.out _) hga (own_ne_type HO.out HI.out (by decide))); replace hk0 := ((blk_cells HI.out).1 0).trans HK0.out; replace HB := grow_below (balloc HB _) (own_alloc HO.out _) hga (Nat.le_refl _) (balloc HB _).size; replace HO := Lib.hid hoa; clear hoa hga))
          obtain ⟨_, _, hK, hV⟩ := Item.ranges (blk_range HI.out)
          have HOd : wa.drew.ownsRow w2.heap.size 5 1 va _ _ := HO.out
          have HId : wa.drew.heap[_]? = _ := HI.out
          have HBd := HB.drew
          (refine heldQ (S := fun _ => True) follows (HQ.mk fun _ _ _ _ _ h => h) (fun hQ => ?_))
          (refine takeQ 0 hQ rfl (by kernel_rfl) (by kernel_rfl) (by kernel_rfl) (yields_of rfl (fun wS hwS => ex_move rfl rfl)) trivial ?_; simp only [Act.put, Act.eval, List.setIfInBounds_toArray, List.set_cons_zero, List.set_cons_succ, Array.getD_eq_getD_getElem?, List.getElem?_toArray, List.getElem?_cons_zero, List.getElem?_cons_succ, Option.getD_some])
          (refine takeQ 1 hQ rfl (by kernel_rfl) (by kernel_rfl) (by kernel_rfl) (yields_of rfl (fun wS hwS => exItemLeaf rfl rfl)) trivial ?_; simp only [Act.put, Act.eval, List.setIfInBounds_toArray, List.set_cons_zero, List.set_cons_succ, Array.getD_eq_getD_getElem?, List.getElem?_toArray, List.getElem?_cons_zero, List.getElem?_cons_succ, Option.getD_some])
          (refine takeQ 2 hQ rfl (by kernel_rfl) (by kernel_rfl) (by kernel_rfl) (yields_of rfl (fun wS hwS => exLeafKey rfl rfl)) trivial ?_; simp only [Act.put, Act.eval, List.setIfInBounds_toArray, List.set_cons_zero, List.set_cons_succ, Array.getD_eq_getD_getElem?, List.getElem?_toArray, List.getElem?_cons_zero, List.getElem?_cons_succ, Option.getD_some])
          (refine takeQ 3 hQ rfl (by kernel_rfl) (by kernel_rfl) (by kernel_rfl) (yields_of rfl (fun wS hwS => ex_slice_array rfl rfl Try.underlying42 size5 (by decide))) trivial ?_; simp only [Act.put, Act.eval, List.setIfInBounds_toArray, List.set_cons_zero, List.set_cons_succ, Array.getD_eq_getD_getElem?, List.getElem?_toArray, List.getElem?_cons_zero, List.getElem?_cons_succ, Option.getD_some])
          (refine takeQ 5 hQ rfl (by kernel_rfl) (by kernel_rfl) (by kernel_rfl) (yields_of rfl (fun wS hwS => exItemLeaf rfl rfl)) trivial ?_; simp only [Act.put, Act.eval, List.setIfInBounds_toArray, List.set_cons_zero, List.set_cons_succ, Array.getD_eq_getD_getElem?, List.getElem?_toArray, List.getElem?_cons_zero, List.getElem?_cons_succ, Option.getD_some])
          (refine takeQ 6 hQ rfl (by kernel_rfl) (by kernel_rfl) (by kernel_rfl) (yields_of rfl (fun wS hwS => exLeafValue rfl rfl)) trivial ?_; simp only [Act.put, Act.eval, List.setIfInBounds_toArray, List.set_cons_zero, List.set_cons_succ, Array.getD_eq_getD_getElem?, List.getElem?_toArray, List.getElem?_cons_zero, List.getElem?_cons_succ, Option.getD_some])
          (refine takeQ 7 hQ rfl (by kernel_rfl) (by kernel_rfl) (by kernel_rfl) (yields_of rfl (fun wS hwS => ex_slice_array rfl rfl Try.underlying43 size5 (by decide))) trivial ?_; simp only [Act.put, Act.eval, List.setIfInBounds_toArray, List.set_cons_zero, List.set_cons_succ, Array.getD_eq_getD_getElem?, List.getElem?_toArray, List.getElem?_cons_zero, List.getElem?_cons_succ, Option.getD_some])
          refine heldAppend (v := va) 4 rfl (by kernel_rfl) rfl _ _ rfl elB rfl HOd rfl (fun h => by cases h) (by rw [B32.cells_length]) (Rd.mk hK) (B32.cells_one _) (by omega) HBd.size (fun _ _ => trivial) ?_
          intro v5 w5 ho5 hg5
          have HI5 := Lib.hid (grow_blk HId hg5 (own_ne_type HOd HId (by decide)))
          have HB5 := grow_below HBd HOd hg5 (Nat.le_refl _) HBd.size
          clear HO HB hk0 hg5 HI hK hV HOd HId HBd
          obtain ⟨_, _, hK, hV⟩ := Item.ranges (blk_range HI5.out)
          simp only [Act.put, Act.eval, List.setIfInBounds_toArray, List.set_cons_zero, List.set_cons_succ, Array.getD_eq_getD_getElem?, List.getElem?_toArray, List.getElem?_cons_zero, List.getElem?_cons_succ, Option.getD_some]
          refine heldAppend (v := v5) 8 rfl (by kernel_rfl) rfl _ _ rfl elB rfl ho5 rfl (fun h => by cases h) (by rw [B32.cells_length]) (Rd.mk hV) (B32.cells_one _) (by omega) HB5.size (fun _ _ => trivial) ?_
          intro v6 w6 ho6 hg6
          have HB6 := grow_below HB5 ho5 hg6 (Nat.le_refl _) HB5.size
          have HO6 := Lib.hid ho6
          clear HB5 ho5 ho6 hg6 hK hV
          simp only [Act.put, Act.eval, List.setIfInBounds_toArray, List.set_cons_zero, List.set_cons_succ, Array.getD_eq_getD_getElem?, List.getElem?_toArray, List.getElem?_cons_zero, List.getElem?_cons_succ, Option.getD_some]
          (refine heldOne 9 rfl (by kernel_rfl) rfl (ex_assign rfl rfl) trivial ?_; simp only [Act.put, Act.eval, List.setIfInBounds_toArray, List.set_cons_zero, List.set_cons_succ, Array.getD_eq_getD_getElem?, List.getElem?_toArray, List.getElem?_cons_zero, List.getElem?_cons_succ, Option.getD_some])
          (refine wpAnyH_done (by kernel_rfl) ?_ _)
          go_wp2
          refine ⟨⟨k + 1, by omega, by go_num, ?_, HB6⟩, by simp [intOf]; omega⟩
          exact enc_own HO6.out HM.out HS.out (by rw [HE.out]; simp [x.leaf.key.2, x.leaf.value.2]) (by rw [HE.out]; simp [bc, ub_val, B32.cells])
        · by_cases k3 : x.kind = 3
          · have he : encItem x = ub 3 :: x.digest.1 := by simp [encItem, k3]
            rw [k3] at hk0
            have HK0 := Lib.hid (show x.cells.toArray[0]? = some (.int .i64 3) by simp [Item.cells, k3])
            have HE := Lib.hid he; clear he k3 k1
            go_wp2_with (first | ((with_reducible refine gLoad (T := 61) ?_); refine wLoadItem _ rfl ?_ _ _ rfl x hrx ?_; (focus (first | (simp [Region.wanted, yielded]; done) | (simp [Region.wanted, yielded, *]; done)))) | ((with_reducible refine gAlloc (T := 61) ?_); refine copyItem rfl rfl rfl _ rfl _ rfl rfl x rfl rfl ?_; replace HO := Lib.hid (own_alloc HO.out (.cells x.cells.toArray 61)); replace HB := balloc HB (.cells x.cells.toArray 61)) | (at_builtin; refine wplAppend rfl _ _ rfl elB rfl (own_alloc HO.out _) rfl (fun h => by cases h) rfl (Rd_at _ _ [.int .u8 _] _ (by simp)) (by simp [Value.oneCell']) (by omega) (balloc HB _).size ?_; intro va wa hoa hga; replace HI := Lib.hid (grow_blk (alloc_blk HI.out _) hga (own_ne_type HO.out HI.out (by decide))); replace hk0 := ((blk_cells HI.out).1 0).trans HK0.out; replace HB := grow_below (balloc HB _) (own_alloc HO.out _) hga (Nat.le_refl _) (balloc HB _).size; replace HO := Lib.hid hoa; clear hoa hga) | (at_builtin; refine wplAppend rfl _ _ rfl elB rfl HO.out rfl (fun h => by cases h) (by rw [B32.cells_length]) (Rd.mk (Item.ranges (blk_range HI.out)).1) (B32.cells_one _) (by omega) HB.size ?_; intro va wa hoa hga; replace HB := grow_below HB HO.out hga (Nat.le_refl _) HB.size; replace HO := Lib.hid hoa; clear hoa hga))
            refine ⟨⟨k + 1, by omega, by go_num, ?_, HB⟩, by simp [intOf]; omega⟩
            exact enc_own HO.out HM.out HS.out (by rw [HE.out]; simp [x.digest.2]) (by rw [HE.out]; simp [bc, ub_val, B32.cells])
          · have he : encItem x = [ub x.kind] := by simp [encItem, k1, k3]
            have e1 : (x.kind == 1) = false := by simpa using k1
            have e3 : (x.kind == 3) = false := by simpa using k3
            have HK0 := Lib.hid (show x.cells.toArray[0]? = some (.int .i64 x.kind) by simp [Item.cells])
            have HE := Lib.hid he; clear he k3 k1
            go_wp2_with (first | ((with_reducible refine gLoad (T := 61) ?_); refine wLoadItem _ rfl ?_ _ _ rfl x hrx ?_; (focus (first | (simp [Region.wanted, yielded]; done) | (simp [Region.wanted, yielded, *]; done)))) | ((with_reducible refine gAlloc (T := 61) ?_); refine copyItem rfl rfl rfl _ rfl _ rfl rfl x rfl rfl ?_; replace HO := Lib.hid (own_alloc HO.out (.cells x.cells.toArray 61)); replace HB := balloc HB (.cells x.cells.toArray 61)) | (at_builtin; refine wplAppend rfl _ _ rfl elB rfl (own_alloc HO.out _) rfl (fun h => by cases h) rfl (Rd_at _ _ [.int .u8 _] _ (by simp)) (by simp [Value.oneCell']) (by omega) (balloc HB _).size ?_; intro va wa hoa hga; replace HI := Lib.hid (grow_blk (alloc_blk HI.out _) hga (own_ne_type HO.out HI.out (by decide))); replace hk0 := ((blk_cells HI.out).1 0).trans HK0.out; replace HB := grow_below (balloc HB _) (own_alloc HO.out _) hga (Nat.le_refl _) (balloc HB _).size; replace HO := Lib.hid hoa; clear hoa hga))
            refine ⟨⟨k + 1, by omega, by go_num, ?_, HB⟩, by simp [intOf]; omega⟩
            exact enc_own HO.out HM.out HS.out (by rw [HE.out]; simp) (by rw [HE.out]; simp [bc, ub_val])
      · go_wp2
        go_ret2
        unfold EncPost
        rw [if_pos HC.out]
        obtain rfl : k = l.length := by omega
        rw [List.take_length] at hown
        refine ⟨_, rfl, ?_, bthen hb HB⟩
        have := own_base hown (base' := w.heap.size) hb.size
        have e : (encM l).length = 6 + (l.flatMap encItem).length := by unfold encM; rw [List.length_append]; rfl
        rw [e]
        exact this
  · have hne : (checkM l != 0) = true := by simpa using hc
    have HC := Lib.hid hc; clear hc
    go_enter Try.func13, Try.ntmps13
    go_wp2_with fail
    refine CK.mono ?_
    rintro e w1 ⟨rfl, hb1⟩
    go_wp2
    go_ret2
    unfold EncPost
    rw [if_neg HC.out]
    exact ⟨rfl, hb1⟩
end Go.Proofs.Ythinpbgbnlohpaa
