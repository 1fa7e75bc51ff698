/-
  DERIVED. GIVEN WITH THE SEED: THE CARDS: each row of YtdfeimdhlagebaaGreatDoorRows.lean that lists a variable, with what it lists TIED to the program's text (the seventh form; the later family's looks); each row that meets fmt, with fmt's text TOLD by the authors' own Lean function (tested against real Go, not proved from fmt's source: count such statements apart). THE CARD IS WHAT COUNTS. Prove the row's statement (the work); the ties are given (YtdfeimdhlagebaaGreatDoorTie.lean); close each card by the builder's one call (the guide's Derived/Test/ToyasCard.lean, 'card_holds'). Laid BY PROGRAM, IN A SANDBOX (cutbox-door.mjs). By AI agents, Wed Nov 11 2026. No macro, syntax, notation, axiom, sorry.
-/
import Derived.Test.YtdfeimdhlagebaaGreatDoorRows
import GoSem.ClaimSeven
namespace Go.Proofs.YtdfeimdhlagebaaGreatDoor
namespace Rows

/-- THE TIED CARD OF 'sparsetreelaw17.CodecIsShort'. -/
def codecIsShortCard : Claim7 := { stood := { row := codecIsShortRow, standIns := [], harness := (true, "c5796134b0dac6b6e96998ae7a757f1d933d0d928b6aa4a2bc4098cd831faa8c"), looks := true }, kinds := [], alts := [], laidByText := true, laidKinds := [.data], laidTests := true, laidLooks := .later }
def CodecIsShortCardSaid : Prop := Claim7.holds Tryz.pinned (.plain (OpenSpec.ofChange codecIsShortSpec)) codecIsShortCard

/-- THE TIED CARD OF 'sparsetreelaw19.MultiProves'. -/
def multiProvesCard : Claim7 := { stood := { row := multiProvesRow, standIns := [], harness := (true, "c5796134b0dac6b6e96998ae7a757f1d933d0d928b6aa4a2bc4098cd831faa8c"), looks := true }, kinds := [], alts := [], laidByText := true, laidKinds := [.data], laidTests := true, laidLooks := .later }
def MultiProvesCardSaid : Prop := Claim7.holds Tryz.pinned (.plain (OpenSpec.ofChange multiProvesSpec)) multiProvesCard

/-- THE TIED CARD OF 'sparsetreelaw16.FoldLeads'. -/
def foldLeadsCard : Claim7 := { stood := { row := foldLeadsRow, standIns := [], harness := (true, "c5796134b0dac6b6e96998ae7a757f1d933d0d928b6aa4a2bc4098cd831faa8c"), looks := true }, kinds := [], alts := [], laidByText := true, laidKinds := [.data], laidTests := true, laidLooks := .later }
def FoldLeadsCardSaid : Prop := Claim7.holds Tryz.pinned (.plain (OpenSpec.ofChange foldLeadsSpec)) foldLeadsCard

/-- THE TIED CARD OF 'sparsetreelaw19.MultiLeads'. -/
def multiLeadsCard : Claim7 := { stood := { row := multiLeadsRow, standIns := [], harness := (true, "c5796134b0dac6b6e96998ae7a757f1d933d0d928b6aa4a2bc4098cd831faa8c"), looks := true }, kinds := [], alts := [], laidByText := true, laidKinds := [.data], laidTests := true, laidLooks := .later }
def MultiLeadsCardSaid : Prop := Claim7.holds Tryz.pinned (.plain (OpenSpec.ofChange multiLeadsSpec)) multiLeadsCard

/-- THE TIED CARD OF 'sparsetreelaw19.MultiPreimages'. -/
def multiPreimagesCard : Claim7 := { stood := { row := multiPreimagesRow, standIns := [], harness := (true, "c5796134b0dac6b6e96998ae7a757f1d933d0d928b6aa4a2bc4098cd831faa8c"), looks := true }, kinds := [], alts := [], laidByText := true, laidKinds := [.data], laidTests := true, laidLooks := .later }
def MultiPreimagesCardSaid : Prop := Claim7.holds Tryz.pinned (.plain (OpenSpec.ofChange multiPreimagesSpec)) multiPreimagesCard

/-- THE TIED CARD OF 'sparsetreelaw15.ProofProves'. -/
def proofProvesCard : Claim7 := { stood := { row := proofProvesRow, standIns := [], harness := (true, "c5796134b0dac6b6e96998ae7a757f1d933d0d928b6aa4a2bc4098cd831faa8c"), looks := true }, kinds := [], alts := [], laidByText := true, laidKinds := [.data], laidTests := true, laidLooks := .later }
def ProofProvesCardSaid : Prop := Claim7.holds Tryz.pinned (.plain (OpenSpec.ofChange proofProvesSpec)) proofProvesCard

/-- THE TIED CARD OF 'sparsetreelaw15.ProofIsTrue'. -/
def proofIsTrueCard : Claim7 := { stood := { row := proofIsTrueRow, standIns := [], harness := (true, "c5796134b0dac6b6e96998ae7a757f1d933d0d928b6aa4a2bc4098cd831faa8c"), looks := true }, kinds := [], alts := [], laidByText := true, laidKinds := [.data], laidTests := true, laidLooks := .later }
def ProofIsTrueCardSaid : Prop := Claim7.holds Tryz.pinned (.plain (OpenSpec.ofChange proofIsTrueSpec)) proofIsTrueCard

/-- THE SECOND FORM's CARD OF 'sparsetreelaw17.CodecIsShort'. -/
def codecIsShortUptoCard : Claim7 := { stood := { row := codecIsShortUptoRow, standIns := [], harness := (true, "c5796134b0dac6b6e96998ae7a757f1d933d0d928b6aa4a2bc4098cd831faa8c"), looks := true }, kinds := [], alts := [], laidByText := true, laidKinds := [.data], laidTests := true, laidLooks := .later }
def CodecIsShortUptoCardSaid : Prop := Claim7.holds Tryz.pinned (.plain (OpenSpec.upto codecIsShortSpec)) codecIsShortUptoCard

/-- THE SECOND FORM's CARD OF 'sparsetreelaw19.MultiProves'. -/
def multiProvesUptoCard : Claim7 := { stood := { row := multiProvesUptoRow, standIns := [], harness := (true, "c5796134b0dac6b6e96998ae7a757f1d933d0d928b6aa4a2bc4098cd831faa8c"), looks := true }, kinds := [], alts := [], laidByText := true, laidKinds := [.data], laidTests := true, laidLooks := .later }
def MultiProvesUptoCardSaid : Prop := Claim7.holds Tryz.pinned (.plain (OpenSpec.upto multiProvesSpec)) multiProvesUptoCard

/-- THE SECOND FORM's CARD OF 'sparsetreelaw16.FoldLeads'. -/
def foldLeadsUptoCard : Claim7 := { stood := { row := foldLeadsUptoRow, standIns := [], harness := (true, "c5796134b0dac6b6e96998ae7a757f1d933d0d928b6aa4a2bc4098cd831faa8c"), looks := true }, kinds := [], alts := [], laidByText := true, laidKinds := [.data], laidTests := true, laidLooks := .later }
def FoldLeadsUptoCardSaid : Prop := Claim7.holds Tryz.pinned (.plain (OpenSpec.upto foldLeadsSpec)) foldLeadsUptoCard

/-- THE SECOND FORM's CARD OF 'sparsetreelaw19.MultiLeads'. -/
def multiLeadsUptoCard : Claim7 := { stood := { row := multiLeadsUptoRow, standIns := [], harness := (true, "c5796134b0dac6b6e96998ae7a757f1d933d0d928b6aa4a2bc4098cd831faa8c"), looks := true }, kinds := [], alts := [], laidByText := true, laidKinds := [.data], laidTests := true, laidLooks := .later }
def MultiLeadsUptoCardSaid : Prop := Claim7.holds Tryz.pinned (.plain (OpenSpec.upto multiLeadsSpec)) multiLeadsUptoCard

/-- THE SECOND FORM's CARD OF 'sparsetreelaw19.MultiPreimages'. -/
def multiPreimagesUptoCard : Claim7 := { stood := { row := multiPreimagesUptoRow, standIns := [], harness := (true, "c5796134b0dac6b6e96998ae7a757f1d933d0d928b6aa4a2bc4098cd831faa8c"), looks := true }, kinds := [], alts := [], laidByText := true, laidKinds := [.data], laidTests := true, laidLooks := .later }
def MultiPreimagesUptoCardSaid : Prop := Claim7.holds Tryz.pinned (.plain (OpenSpec.upto multiPreimagesSpec)) multiPreimagesUptoCard

/-- THE SECOND FORM's CARD OF 'sparsetreelaw15.ProofProves'. -/
def proofProvesUptoCard : Claim7 := { stood := { row := proofProvesUptoRow, standIns := [], harness := (true, "c5796134b0dac6b6e96998ae7a757f1d933d0d928b6aa4a2bc4098cd831faa8c"), looks := true }, kinds := [], alts := [], laidByText := true, laidKinds := [.data], laidTests := true, laidLooks := .later }
def ProofProvesUptoCardSaid : Prop := Claim7.holds Tryz.pinned (.plain (OpenSpec.upto proofProvesSpec)) proofProvesUptoCard

/-- THE SECOND FORM's CARD OF 'sparsetreelaw15.ProofIsTrue'. -/
def proofIsTrueUptoCard : Claim7 := { stood := { row := proofIsTrueUptoRow, standIns := [], harness := (true, "c5796134b0dac6b6e96998ae7a757f1d933d0d928b6aa4a2bc4098cd831faa8c"), looks := true }, kinds := [], alts := [], laidByText := true, laidKinds := [.data], laidTests := true, laidLooks := .later }
def ProofIsTrueUptoCardSaid : Prop := Claim7.holds Tryz.pinned (.plain (OpenSpec.upto proofIsTrueSpec)) proofIsTrueUptoCard
end Rows
end Go.Proofs.YtdfeimdhlagebaaGreatDoor
