/-
  DERIVED. GIVEN WITH THE SEED: THE CARDS: each row of YtfjlpndohnianaaDoorRows.lean that lists a variable, with what it lists TIED to the program's text (the seventh form; the later family's looks); each row that meets fmt, with fmt's text TOLD by the authors' own Lean function (tested against real Go, not proved from fmt's source: count such statements apart). THE CARD IS WHAT COUNTS. Prove the row's statement (the work); the ties are given (YtfjlpndohnianaaDoorTie.lean); close each card by the builder's one call (the guide's Derived/Test/ToyasCard.lean, 'card_holds'). Laid BY PROGRAM, IN A SANDBOX (cutbox-door.mjs). By AI agents, Wed Nov 11 2026. No macro, syntax, notation, axiom, sorry.
-/
import Derived.Test.YtfjlpndohnianaaDoorRows
import GoSem.ClaimSeven
namespace Go.Proofs.YtfjlpndohnianaaDoor
namespace Rows

/-- THE TIED CARD OF 'sparsetreelaw16.FoldEnds'. -/
def foldEndsCard : Claim7 := { stood := { row := foldEndsRow, standIns := [], harness := (true, "9ad17dac03e1f1ffa34d6e9efa9cce5f8d2d3a1896d82497ad4127d569b50002"), looks := false }, kinds := [], alts := [], laidByText := true, laidKinds := [.data], laidTests := true, laidLooks := .later }
def FoldEndsCardSaid : Prop := Claim7.holds Tryd.pinned (.plain (OpenSpec.ofChange foldEndsSpec)) foldEndsCard

/-- THE TIED CARD OF 'sparsetreelaw16.FoldPreimages'. -/
def foldPreimagesCard : Claim7 := { stood := { row := foldPreimagesRow, standIns := [], harness := (true, "9ad17dac03e1f1ffa34d6e9efa9cce5f8d2d3a1896d82497ad4127d569b50002"), looks := false }, kinds := [], alts := [], laidByText := true, laidKinds := [.data], laidTests := true, laidLooks := .later }
def FoldPreimagesCardSaid : Prop := Claim7.holds Tryd.pinned (.plain (OpenSpec.ofChange foldPreimagesSpec)) foldPreimagesCard

/-- THE TIED CARD OF 'sparsetreelaw16.FoldForgets'. -/
def foldForgetsCard : Claim7 := { stood := { row := foldForgetsRow, standIns := [], harness := (true, "9ad17dac03e1f1ffa34d6e9efa9cce5f8d2d3a1896d82497ad4127d569b50002"), looks := false }, kinds := [], alts := [], laidByText := true, laidKinds := [.data], laidTests := true, laidLooks := .later }
def FoldForgetsCardSaid : Prop := Claim7.holds Tryd.pinned (.plain (OpenSpec.ofChange foldForgetsSpec)) foldForgetsCard

/-- THE TIED CARD OF 'sparsetreelaw16.FoldWorks'. -/
def foldWorksCard : Claim7 := { stood := { row := foldWorksRow, standIns := [], harness := (true, "9ad17dac03e1f1ffa34d6e9efa9cce5f8d2d3a1896d82497ad4127d569b50002"), looks := false }, kinds := [], alts := [], laidByText := true, laidKinds := [.data], laidTests := true, laidLooks := .later }
def FoldWorksCardSaid : Prop := Claim7.holds Tryd.pinned (.plain (OpenSpec.ofChange foldWorksSpec)) foldWorksCard

/-- THE TIED CARD OF 'sparsetreelaw16.FoldSteps'. -/
def foldStepsCard : Claim7 := { stood := { row := foldStepsRow, standIns := [], harness := (true, "9ad17dac03e1f1ffa34d6e9efa9cce5f8d2d3a1896d82497ad4127d569b50002"), looks := false }, kinds := [], alts := [], laidByText := true, laidKinds := [.data], laidTests := true, laidLooks := .later }
def FoldStepsCardSaid : Prop := Claim7.holds Tryd.pinned (.plain (OpenSpec.ofChange foldStepsSpec)) foldStepsCard

/-- THE SECOND FORM's CARD OF 'sparsetreelaw16.FoldEnds'. -/
def foldEndsUptoCard : Claim7 := { stood := { row := foldEndsUptoRow, standIns := [], harness := (true, "9ad17dac03e1f1ffa34d6e9efa9cce5f8d2d3a1896d82497ad4127d569b50002"), looks := false }, kinds := [], alts := [], laidByText := true, laidKinds := [.data], laidTests := true, laidLooks := .later }
def FoldEndsUptoCardSaid : Prop := Claim7.holds Tryd.pinned (.plain (OpenSpec.upto foldEndsSpec)) foldEndsUptoCard

/-- THE SECOND FORM's CARD OF 'sparsetreelaw16.FoldPreimages'. -/
def foldPreimagesUptoCard : Claim7 := { stood := { row := foldPreimagesUptoRow, standIns := [], harness := (true, "9ad17dac03e1f1ffa34d6e9efa9cce5f8d2d3a1896d82497ad4127d569b50002"), looks := false }, kinds := [], alts := [], laidByText := true, laidKinds := [.data], laidTests := true, laidLooks := .later }
def FoldPreimagesUptoCardSaid : Prop := Claim7.holds Tryd.pinned (.plain (OpenSpec.upto foldPreimagesSpec)) foldPreimagesUptoCard

/-- THE SECOND FORM's CARD OF 'sparsetreelaw16.FoldForgets'. -/
def foldForgetsUptoCard : Claim7 := { stood := { row := foldForgetsUptoRow, standIns := [], harness := (true, "9ad17dac03e1f1ffa34d6e9efa9cce5f8d2d3a1896d82497ad4127d569b50002"), looks := false }, kinds := [], alts := [], laidByText := true, laidKinds := [.data], laidTests := true, laidLooks := .later }
def FoldForgetsUptoCardSaid : Prop := Claim7.holds Tryd.pinned (.plain (OpenSpec.upto foldForgetsSpec)) foldForgetsUptoCard

/-- THE SECOND FORM's CARD OF 'sparsetreelaw16.FoldWorks'. -/
def foldWorksUptoCard : Claim7 := { stood := { row := foldWorksUptoRow, standIns := [], harness := (true, "9ad17dac03e1f1ffa34d6e9efa9cce5f8d2d3a1896d82497ad4127d569b50002"), looks := false }, kinds := [], alts := [], laidByText := true, laidKinds := [.data], laidTests := true, laidLooks := .later }
def FoldWorksUptoCardSaid : Prop := Claim7.holds Tryd.pinned (.plain (OpenSpec.upto foldWorksSpec)) foldWorksUptoCard

/-- THE SECOND FORM's CARD OF 'sparsetreelaw16.FoldSteps'. -/
def foldStepsUptoCard : Claim7 := { stood := { row := foldStepsUptoRow, standIns := [], harness := (true, "9ad17dac03e1f1ffa34d6e9efa9cce5f8d2d3a1896d82497ad4127d569b50002"), looks := false }, kinds := [], alts := [], laidByText := true, laidKinds := [.data], laidTests := true, laidLooks := .later }
def FoldStepsUptoCardSaid : Prop := Claim7.holds Tryd.pinned (.plain (OpenSpec.upto foldStepsSpec)) foldStepsUptoCard
end Rows
end Go.Proofs.YtfjlpndohnianaaDoor
