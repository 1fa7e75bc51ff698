/- Laws of my own, part 7: a slice inside a struct, opened. -/
import Derived.Test.YthinpbgbnlohpaaB5
namespace Go.Proofs.Ythinpbgbnlohpaa
set_option linter.unusedSimpArgs false
set_option linter.unusedVariables false
open Go.RowKit Go.ChangeShapes Go.WideShapes
section
variable {H : Type} {enc : TypeId × Value → H} {P : Program} {w : World} {base : Nat} {spare : Nat → Bool} {held : Bool} {t : TypeId}
/-- a slice whose elements read as rows of n cells -/
theorem open_rows_t {α : Type} [Inhabited α] {f : α → List Value} {n : Nat} (hf : ∀ y, (f y).length = n) (hn : 0 < n) {e : TypeId} (ht : P.underlying t = some (.slice e)) (hc : P.cellsOf e = n) (q : α → Prop) (dec : ∀ (fuel : Nat) (cs : List Value) (x : DataW H × List MemPlace), DataW.trod enc P w base spare held fuel e cs = some x → ∃ y, cs = f y ∧ q y)
    {fuel : Nat} {cs : List Value} {x : DataW H × List MemPlace} (hfu : DataW.trod enc P w base spare held fuel t cs = some x) :
    ∃ (l : List α) (A : Option Addr) (cap : Nat), cs = [.slice A l.length cap] ∧ l.length ≤ cap ∧ cap ≤ maxLen ∧ (A = none → cap = 0) ∧ Rd w A (l.flatMap f) ∧ ∀ y ∈ l, q y := by
  rcases Deep.open_slice ht hfu with ⟨rfl, _⟩ | ⟨a', len, cap, m, k, D, Pl, rfl, hba, hlc, hmax, hm, _, hel⟩
  · exact ⟨[], none, 0, rfl, Nat.le_refl _, Nat.zero_le _, fun _ => rfl, Rd.nil _ _, fun y hy => by cases hy⟩
  · have hlm : len ≤ m := by rw [hm]; split <;> omega
    have hch : ∀ i, i < len → ∃ y : α, (w.cells? base (a'.add (i * n)) n = some (f y)) ∧ q y := fun i hi => by
      obtain ⟨cs', h1, h2⟩ := hel i (by omega)
      rw [hc] at h1
      obtain ⟨y, rfl, hq⟩ := dec _ _ _ h2
      exact ⟨y, h1, hq⟩
    obtain ⟨g, hg⟩ := Deep.choose_lt hch
    have hcell : ∀ i, i < len → ∀ j u, (f (g i))[j]? = some u → w.cell? ((a'.add (i * n)).add j) = some u := fun i hi j u hu => by
      have h1 := (hg i hi).1
      unfold World.cells? at h1
      split at h1
      · have hj : j < n := by rw [← hf (g i)]; exact (List.getElem?_eq_some_iff.1 hu).1
        have := mapM_some_get h1 j j (by simp [hj])
        rw [hu] at this
        exact this
      · cases h1
    refine ⟨(List.range len).map g, some a', cap, by simp, by simpa using hlc, hmax, (fun h => by cases h), ?_, ?_⟩
    · intro j u hu
      have hlen : ((List.range len).map g).length = len := by simp
      have hj : j < len * n := by
        have := (List.getElem?_eq_some_iff.1 hu).1
        rw [flat_length hf, hlen] at this
        exact this
      have hi : j / n < len := (Nat.div_lt_iff_lt_mul hn).2 hj
      have hu' : (f (g (j / n)))[j % n]? = some u := by
        rw [← hu]
        exact (rows_at hf hn ((List.range len).map g) j (g (j / n)) (by simp [hi])).symm
      have h0 : 0 < len := Nat.lt_of_le_of_lt (Nat.zero_le _) hi
      have hz : ∃ u0, (f (g 0))[0]? = some u0 := ⟨(f (g 0))[0]'(by rw [hf]; exact hn), List.getElem?_eq_getElem _⟩
      obtain ⟨u0, hu0⟩ := hz
      have hs := hcell 0 h0 0 u0 hu0
      have hs' : w.cell? a' = some u0 := by simpa [Addr.add] using hs
      have ha := spot_none hs'
      refine ⟨a'.block, a'.off, by rw [← ha], ?_⟩
      have h2 := hcell (j / n) hi (j % n) u hu'
      rw [ha, Addr.add_mid, Addr.add_mid, Nat.add_assoc, Nat.div_add_mod'] at h2
      exact h2
    · intro y hy
      simp only [List.mem_map, List.mem_range] at hy
      obtain ⟨i, hi, rfl⟩ := hy
      exact (hg i hi).2
end
end Go.Proofs.Ythinpbgbnlohpaa
