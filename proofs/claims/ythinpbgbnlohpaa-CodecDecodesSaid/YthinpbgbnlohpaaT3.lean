/- Arguments of this translation, opened. -/
import Derived.Test.YthinpbgbnlohpaaB6
import Derived.Test.YthinpbgbnlohpaaT1
namespace Go.Proofs.Ythinpbgbnlohpaa
set_option linter.unusedSimpArgs false
set_option linter.unusedVariables false
open Go.RowKit Go.ChangeShapes Go.WideShapes
section
variable {H : Type} {enc : TypeId × Value → H} {w : World} {base : Nat} {spare : Nat → Bool} {held : Bool} {v : Value} {d : DataW H} {ps : List MemPlace} {r : Reach} {b0 : Nat}
theorem cells61 : Try.prog.cellsOf 61 = 97 := by kernel_rfl
theorem cells3 : Try.prog.cellsOf 3 = 1 := by kernel_rfl
theorem cells43 : Try.prog.cellsOf 43 = 32 := by kernel_rfl
theorem cells42 : Try.prog.cellsOf 42 = 32 := by kernel_rfl
theorem cells45 : Try.prog.cellsOf 45 = 64 := by kernel_rfl
theorem cells5 : Try.prog.cellsOf 5 = 1 := by kernel_rfl
set_option maxRecDepth 100000 in
theorem openItems (hval : Value.okWide Try.prog w r b0 22 v) (hd : DataW.Trod enc Try.prog w base spare held 22 v d ps) :
    ∃ (l : List Item) (A : Option Addr) (cap : Nat), v = .slice A l.length cap ∧ l.length ≤ cap ∧ cap ≤ maxLen ∧ (A = none → cap = 0) ∧ Rd w A (l.flatMap Item.cells) ∧ ∀ y ∈ l, -9223372036854775808 ≤ y.kind ∧ y.kind ≤ 9223372036854775807 := by
  obtain ⟨f1, f2, f3, hT, -, -, -, t1, t2, t3, o1, o2, o3⟩ := itemFields
  obtain ⟨g1, g2, hL, -, -, s1, s2, p1, p2⟩ := leafFields
  have : Inhabited Item := ⟨zItem⟩
  exact open_rows Item.cells_length (by omega) Try.underlying22 cells61 (fun y => -9223372036854775808 ≤ y.kind ∧ y.kind ≤ 9223372036854775807) (fun fuel cs x h => dec_Item hT cells61 o1 o2 o3 (by rw [t1]; exact Try.underlying3) (by rw [t1]; exact cells3) (by rw [t2]; exact Try.underlying43) (by rw [t2]; exact cells43) (by rw [t3]; exact hL) (by rw [t3]; exact cells45) p1 p2 (by rw [s1]; exact Try.underlying42) (by rw [s2]; exact Try.underlying43) (by rw [s1]; exact cells42) (by rw [s2]; exact cells43) Try.underlying5 cells5 h) hval hd
set_option maxRecDepth 100000 in
theorem openBytes (hval : Value.okWide Try.prog w r b0 25 v) (hd : DataW.Trod enc Try.prog w base spare held 25 v d ps) :
    ∃ (l : List UInt8) (A : Option Addr) (cap : Nat), v = .slice A l.length cap ∧ l.length ≤ cap ∧ cap ≤ maxLen ∧ (A = none → cap = 0) ∧ Rd w A (bc l) :=
  open_bytes Try.underlying25 Try.underlying5 cells5 hval hd
theorem laidOut : laidOutB Try.prog = true := by kernel_rfl
theorem own : ownKnob Try.prog.godebug = none := by kernel_rfl
end
end Go.Proofs.Ythinpbgbnlohpaa
