/- An argument that is a proof, opened. -/
import Derived.Test.YthinpbgbnlohpaaB7
import Derived.Test.YthinpbgbnlohpaaT3
import Derived.Test.YthinpbgbnlohpaaM31
namespace Go.Proofs.Ythinpbgbnlohpaa
set_option linter.unusedSimpArgs false
set_option linter.unusedVariables false
open Go.RowKit Go.ChangeShapes Go.WideShapes
section
variable {H : Type} {enc : TypeId × Value → H} {w : World} {base : Nat} {spare : Nat → Bool} {held : Bool} {v : Value} {d : DataW H} {ps : List MemPlace} {r : Reach} {b0 : Nat}
theorem cells48 : Try.prog.cellsOf 48 = 99 := by kernel_rfl
theorem cells46 : Try.prog.cellsOf 46 = 1 := by kernel_rfl
theorem cells41 : Try.prog.cellsOf 41 = 32 := by kernel_rfl
theorem proofFields : ∃ f1 f2 f3 f4 f5 : Field, Try.prog.underlying 48 = some (.struct #[f1, f2, f3, f4, f5]) ∧ f1.type = 3 ∧ f2.type = 3 ∧ f3.type = 45 ∧ f4.type = 41 ∧ f5.type = 46 ∧ f1.offset = 0 ∧ f2.offset = 1 ∧ f3.offset = 2 ∧ f4.offset = 66 ∧ f5.offset = 98 :=
  ⟨_, _, _, _, _, Try.underlying48, rfl, rfl, rfl, rfl, rfl, rfl, rfl, rfl, rfl, rfl⟩
set_option maxRecDepth 100000 in
theorem openProof (hval : Value.okWide Try.prog w r b0 48 v) (hd : DataW.Trod enc Try.prog w base spare held 48 v d ps) :
    ∃ (p : Proof) (q : List B32), v = .agg p.cells.toArray ∧ p.sibs.n = q.length ∧ Rd w p.sibs.A (dc q) := by
  obtain ⟨f1, f2, f3, f4, f5, hT, t1, t2, t3, t4, t5, o1, o2, o3, o4, o5⟩ := proofFields
  obtain ⟨g1, g2, hL, -, -, s1, s2, p1, p2⟩ := leafFields
  obtain ⟨cs, rfl, -⟩ := okWide_struct hT hval
  obtain ⟨fuel, hf⟩ := hd
  obtain ⟨cs⟩ := cs
  have hf' : DataW.trod enc Try.prog w base spare held fuel 48 cs = some (d, ps) := by simpa [Value.cells] using hf
  obtain ⟨xs, n, -, -, hl, hxl, hx⟩ := DataW.trod_struct hT hf'
  rw [cells48] at hl
  have hxl' : xs.length = 5 := hxl
  have k1 := hx 0 f1 rfl
  have k2 := hx 1 f2 rfl
  have k3 := hx 2 f3 rfl
  have k4 := hx 3 f4 rfl
  have k5 := hx 4 f5 rfl
  rw [List.getElem?_eq_getElem (by omega)] at k1 k2 k3 k4 k5
  rw [o1, t1, cells3, List.drop_zero] at k1
  rw [o2, t2, cells3] at k2
  rw [o3, t3, cells45] at k3
  rw [o4, t4, cells41] at k4
  rw [o5, t5, cells46] at k5
  obtain ⟨m1, e1, -, -⟩ := DataW.trod_int Try.underlying3 k1
  obtain ⟨m2, e2, -, -⟩ := DataW.trod_int Try.underlying3 k2
  obtain ⟨y3, e3⟩ := dec_Leaf hL cells45 p1 p2 (by rw [s1]; exact Try.underlying42) (by rw [s2]; exact Try.underlying43) (by rw [s1]; exact cells42) (by rw [s2]; exact cells43) Try.underlying5 cells5 k3
  obtain ⟨y4, e4⟩ := dec_B32 Try.underlying41 cells41 Try.underlying5 cells5 k4
  have : Inhabited B32 := ⟨zB32⟩
  obtain ⟨q, A, c, e5, -, -, -, hr, -⟩ := open_rows_t B32.cells_length (by omega) Try.underlying46 cells43 (fun _ => True) (fun fuel cs x h => (dec_B32 Try.underlying43 cells43 Try.underlying5 cells5 h).imp fun _ h => ⟨h, trivial⟩) k5
  refine ⟨⟨m1, m2, y3, y4, ⟨A, q.length, c⟩⟩, q, ?_, rfl, hr⟩
  have r1 : cs = cs.take 1 ++ ((cs.drop 1).take 1 ++ ((cs.drop 2).take 64 ++ ((cs.drop 66).take 32 ++ (cs.drop 98).take 1))) := by
    rw [List.take_of_length_le (l := cs.drop 98) (by simp; omega)]
    rw [show cs.drop 98 = (cs.drop 66).drop 32 by rw [List.drop_drop], List.take_append_drop]
    rw [show cs.drop 66 = (cs.drop 2).drop 64 by rw [List.drop_drop], List.take_append_drop]
    rw [show cs.drop 2 = (cs.drop 1).drop 1 by rw [List.drop_drop], List.take_append_drop, List.take_append_drop]
  rw [r1, e1, e2, e3, e4, e5]
  rfl
end
end Go.Proofs.Ythinpbgbnlohpaa
