/- Laws of my own, part 5: an argument that is a slice of bytes or of items, opened; a law's post out of 'nothing below has turned'. -/
import Derived.Test.YthinpbgbnlohpaaB1
import Derived.Carry
import Derived.Deep.Slices
import Derived.OpenShut
import Derived.ChangeSame
import Derived.ProofKit
namespace Go.Proofs.Ythinpbgbnlohpaa
set_option linter.unusedSimpArgs false
set_option linter.unusedVariables false
open Go.RowKit Go.ChangeShapes Go.WideShapes
section
variable {H : Type} {enc : TypeId × Value → H} {P : Program} {w : World} {base : Nat} {spare : Nat → Bool} {held : Bool} {fuel : Nat} {t : TypeId} {cs : List Value} {x : DataW H × List MemPlace}
def toByte : Value → UInt8 | .int _ n => UInt8.ofNat n.toNat | _ => 0
theorem toByte_int {n : Int} (h0 : 0 ≤ n) (h1 : n ≤ 255) : (Value.int .u8 (toByte (.int .u8 n)).toNat) = .int .u8 n := by
  unfold toByte
  have : (UInt8.ofNat n.toNat).toNat = n.toNat := by rw [UInt8.toNat_ofNat']; omega
  rw [this]
  congr 1
  omega
theorem bytes_of (cs : List Value) (h : ∀ i, i < cs.length → ∃ n, cs[i]? = some (.int .u8 n) ∧ 0 ≤ n ∧ n ≤ 255) : cs = bc (cs.map toByte) := by
  apply List.ext_getElem?
  intro i
  by_cases hi : i < cs.length
  · obtain ⟨n, hn, h0, h1⟩ := h i hi
    simp only [bc, List.getElem?_map, hn, Option.map_some, toByte_int h0 h1]
  · rw [List.getElem?_eq_none (by omega), List.getElem?_eq_none (by simp [bc]; omega)]
theorem dec_B32 {e : TypeId} (ht : P.underlying t = some (.array 32 e)) (hc : P.cellsOf t = 32) (he : P.underlying e = some (.int .u8)) (hce : P.cellsOf e = 1) (h : DataW.trod enc P w base spare held fuel t cs = some x) : ∃ y : B32, cs = y.cells := by
  obtain ⟨xs, m, rfl, _, hl, hxl, hx⟩ := DataW.trod_array ht h
  rw [hc] at hl
  have hb := bytes_of cs (fun i hi => by
    have h1 := hx i (by omega)
    rw [List.getElem?_eq_getElem (by omega), hce, Nat.mul_one] at h1
    obtain ⟨n, hn, _, hw⟩ := DataW.trod_int he h1
    have := bounds_u8 hw
    refine ⟨n, ?_, this.1, this.2⟩
    have h2 := congrArg (fun l => l[0]?) hn
    simpa using h2)
  exact ⟨⟨cs.map toByte, by simp [hl]⟩, hb⟩
theorem dec_Leaf {f0 f1 : Field} {e : TypeId} (ht : P.underlying t = some (.struct #[f0, f1])) (hc : P.cellsOf t = 64) (o0 : f0.offset = 0) (o1 : f1.offset = 32) (h0 : P.underlying f0.type = some (.array 32 e)) (h1 : P.underlying f1.type = some (.array 32 e)) (c0 : P.cellsOf f0.type = 32) (c1 : P.cellsOf f1.type = 32)
    (he : P.underlying e = some (.int .u8)) (hce : P.cellsOf e = 1) (h : DataW.trod enc P w base spare held fuel t cs = some x) : ∃ y : Leaf, cs = y.cells := by
  obtain ⟨xs, n, rfl, _, hl, hxl, hx⟩ := DataW.trod_struct ht h
  simp only [List.size_toArray, List.length_cons, List.length_nil] at hxl
  have g0 := hx 0 f0 rfl
  have g1 := hx 1 f1 rfl
  rw [List.getElem?_eq_getElem (by omega)] at g0 g1
  rw [o0, c0, List.drop_zero] at g0
  rw [o1, c1] at g1
  obtain ⟨y0, e0⟩ := dec_B32 h0 c0 he hce g0
  obtain ⟨y1, e1⟩ := dec_B32 h1 c1 he hce g1
  refine ⟨⟨y0, y1⟩, ?_⟩
  rw [hc] at hl
  unfold Leaf.cells
  simp only [← e0, ← e1]
  rw [List.take_of_length_le (l := cs.drop 32) (by simp; omega), List.take_append_drop]
theorem dec_Item {f0 f1 f2 g0 g1 : Field} {e : TypeId} (ht : P.underlying t = some (.struct #[f0, f1, f2])) (hc : P.cellsOf t = 97) (o0 : f0.offset = 0) (o1 : f1.offset = 1) (o2 : f2.offset = 33) (h0 : P.underlying f0.type = some (.int .i64)) (c0 : P.cellsOf f0.type = 1) (h1 : P.underlying f1.type = some (.array 32 e)) (c1 : P.cellsOf f1.type = 32)
    (h2 : P.underlying f2.type = some (.struct #[g0, g1])) (c2 : P.cellsOf f2.type = 64) (p0 : g0.offset = 0) (p1 : g1.offset = 32) (q0 : P.underlying g0.type = some (.array 32 e)) (q1 : P.underlying g1.type = some (.array 32 e)) (d0 : P.cellsOf g0.type = 32) (d1 : P.cellsOf g1.type = 32)
    (he : P.underlying e = some (.int .u8)) (hce : P.cellsOf e = 1) (h : DataW.trod enc P w base spare held fuel t cs = some x) : ∃ y : Item, cs = y.cells ∧ -9223372036854775808 ≤ y.kind ∧ y.kind ≤ 9223372036854775807 := by
  obtain ⟨xs, n, rfl, _, hl, hxl, hx⟩ := DataW.trod_struct ht h
  simp only [List.size_toArray, List.length_cons, List.length_nil] at hxl
  have k0 := hx 0 f0 rfl
  have k1 := hx 1 f1 rfl
  have k2 := hx 2 f2 rfl
  rw [List.getElem?_eq_getElem (by omega)] at k0 k1 k2
  rw [o0, c0, List.drop_zero] at k0
  rw [o1, c1] at k1
  rw [o2, c2] at k2
  obtain ⟨m, e0, _, hw⟩ := DataW.trod_int h0 k0
  obtain ⟨y1, e1⟩ := dec_B32 h1 c1 he hce k1
  obtain ⟨y2, e2⟩ := dec_Leaf h2 c2 p0 p1 q0 q1 d0 d1 he hce k2
  rw [hc] at hl
  have hb := bounds_i64 hw
  refine ⟨⟨m, y1, y2⟩, ?_, hb.1, hb.2⟩
  have r1 : cs = cs.take 1 ++ ((cs.drop 1).take 32 ++ (cs.drop 33).take 64) := by
    rw [List.take_of_length_le (l := cs.drop 33) (by simp; omega)]
    have : cs.drop 33 = (cs.drop 1).drop 32 := by rw [List.drop_drop]
    rw [this, List.take_append_drop, List.take_append_drop]
  rw [r1, e0, e1, e2]
  rfl
theorem rows_at {α : Type} {f : α → List Value} {n : Nat} (hf : ∀ y, (f y).length = n) (hn : 0 < n) : ∀ (l : List α) (j : Nat) (y : α), l[j / n]? = some y → (l.flatMap f)[j]? = (f y)[j % n]?
  | [], j, y, h => by simp at h
  | z :: l, j, y, h => by
    rw [List.flatMap_cons]
    by_cases hj : j < n
    · rw [Nat.div_eq_of_lt hj] at h
      obtain rfl : z = y := by simpa using h
      rw [Nat.mod_eq_of_lt hj, List.getElem?_append_left (by rw [hf]; exact hj)]
    · obtain ⟨k, rfl⟩ : ∃ k, j = k + n := ⟨j - n, by omega⟩
      rw [Nat.add_div_right _ hn, List.getElem?_cons_succ] at h
      rw [List.getElem?_append_right (by rw [hf]; omega), hf, Nat.add_sub_cancel, Nat.add_mod_right]
      exact rows_at hf hn l k y h
theorem spot_none {a : Addr} {v : Value} (h : w.cell? a = some v) : a = ⟨a.block, a.off, none⟩ := by
  obtain ⟨b, o, s⟩ := a
  cases s with
  | none => rfl
  | some s =>
    unfold World.cell? at h
    simp only [Option.isSome_some, if_true] at h
    split at h <;> cases h
/-- a slice whose elements read as rows of n cells -/
theorem open_rows {α : Type} [Inhabited α] {f : α → List Value} {n : Nat} (hf : ∀ y, (f y).length = n) (hn : 0 < n) {e : TypeId} (ht : P.underlying t = some (.slice e)) (hc : P.cellsOf e = n) (q : α → Prop) (dec : ∀ (fuel : Nat) (cs : List Value) (x : DataW H × List MemPlace), DataW.trod enc P w base spare held fuel e cs = some x → ∃ y, cs = f y ∧ q y)
    {v : Value} {d : DataW H} {ps : List MemPlace} {r : Reach} {b0 : Nat} (hval : Value.okWide P w r b0 t v) (hd : DataW.Trod enc P w base spare held t v d ps) :
    ∃ (l : List α) (A : Option Addr) (cap : Nat), v = .slice A l.length cap ∧ l.length ≤ cap ∧ cap ≤ maxLen ∧ (A = none → cap = 0) ∧ Rd w A (l.flatMap f) ∧ ∀ y ∈ l, q y := by
  obtain ⟨a, len, cap, rfl⟩ := okWide_slice ht hval
  obtain ⟨fuel, hfu⟩ := hd
  rcases Deep.open_slice ht hfu with ⟨h, _⟩ | ⟨a', len', cap', m, k, D, Pl, hcs, hba, hlc, hmax, hm, _, hel⟩
  · simp [Value.cells] at h
    obtain ⟨rfl, rfl, rfl⟩ := h
    exact ⟨[], none, 0, rfl, Nat.le_refl _, Nat.zero_le _, fun _ => rfl, Rd.nil _ _, fun y hy => by cases hy⟩
  · simp [Value.cells] at hcs
    obtain ⟨rfl, rfl, rfl⟩ := hcs
    have hlm : len ≤ m := by rw [hm]; split <;> omega
    have hch : ∀ i, i < len → ∃ y : α, (w.cells? base (a'.add (i * n)) n = some (f y)) ∧ q y := fun i hi => by
      obtain ⟨cs', h1, h2⟩ := hel i (by omega)
      rw [hc] at h1
      obtain ⟨y, rfl, hq⟩ := dec _ _ _ h2
      exact ⟨y, h1, hq⟩
    obtain ⟨g, hg⟩ := Deep.choose_lt hch
    have hcell : ∀ i, i < len → ∀ j u, (f (g i))[j]? = some u → w.cell? ((a'.add (i * n)).add j) = some u := fun i hi j u hu => by
      have h1 := (hg i hi).1
      unfold World.cells? at h1
      split at h1
      · have hj : j < n := by rw [← hf (g i)]; exact (List.getElem?_eq_some_iff.1 hu).1
        have := mapM_some_get h1 j j (by simp [hj])
        rw [hu] at this
        exact this
      · cases h1
    refine ⟨(List.range len).map g, some a', cap, by simp, by simpa using hlc, hmax, (fun h => by cases h), ?_, ?_⟩
    · intro j u hu
      have hlen : ((List.range len).map g).length = len := by simp
      have hj : j < len * n := by
        have := (List.getElem?_eq_some_iff.1 hu).1
        rw [flat_length hf, hlen] at this
        exact this
      have hi : j / n < len := (Nat.div_lt_iff_lt_mul hn).2 hj
      have hu' : (f (g (j / n)))[j % n]? = some u := by
        rw [← hu]
        exact (rows_at hf hn ((List.range len).map g) j (g (j / n)) (by simp [hi])).symm
      have h0 : 0 < len := Nat.lt_of_le_of_lt (Nat.zero_le _) hi
      have hz : ∃ u0, (f (g 0))[0]? = some u0 := ⟨(f (g 0))[0]'(by rw [hf]; exact hn), List.getElem?_eq_getElem _⟩
      obtain ⟨u0, hu0⟩ := hz
      have hs := hcell 0 h0 0 u0 hu0
      have hs' : w.cell? a' = some u0 := by simpa [Addr.add] using hs
      have ha := spot_none hs'
      refine ⟨a'.block, a'.off, by rw [← ha], ?_⟩
      have h2 := hcell (j / n) hi (j % n) u hu'
      rw [ha, Addr.add_mid, Addr.add_mid, Nat.add_assoc, Nat.div_add_mod'] at h2
      exact h2
    · intro y hy
      simp only [List.mem_map, List.mem_range] at hy
      obtain ⟨i, hi, rfl⟩ := hy
      exact (hg i hi).2
theorem byteOf_bc (l : List UInt8) : l.flatMap (fun b => [Value.int .u8 b.toNat]) = bc l := by
  induction l with
  | nil => rfl
  | cons x l ih => simp [bc] at ih ⊢; exact ih
theorem open_bytes {e : TypeId} (ht : P.underlying t = some (.slice e)) (he : P.underlying e = some (.int .u8)) (hc : P.cellsOf e = 1)
    {v : Value} {d : DataW H} {ps : List MemPlace} {r : Reach} {b0 : Nat} (hval : Value.okWide P w r b0 t v) (hd : DataW.Trod enc P w base spare held t v d ps) :
    ∃ (l : List UInt8) (A : Option Addr) (cap : Nat), v = .slice A l.length cap ∧ l.length ≤ cap ∧ cap ≤ maxLen ∧ (A = none → cap = 0) ∧ Rd w A (bc l) := by
  obtain ⟨l, A, cap, h1, h2, h3, h4, h5, _⟩ := open_rows (f := fun b : UInt8 => [Value.int .u8 b.toNat]) (fun _ => rfl) Nat.one_pos ht hc (fun _ => True) (fun fuel cs x h => by
    obtain ⟨n, rfl, _, hw⟩ := DataW.trod_int he h
    have := bounds_u8 hw
    exact ⟨toByte (.int .u8 n), by rw [toByte_int this.1 this.2], trivial⟩) hval hd
  rw [byteOf_bc] at h5
  exact ⟨l, A, cap, h1, h2, h3, h4, h5⟩
end
end Go.Proofs.Ythinpbgbnlohpaa
