/-
  DERIVED. GIVEN WITH THE SEED: THE CARDS: each row of YtgfkbeipckbkiaaGreatDoorRows.lean that lists a variable, with what it lists TIED to the program's text (the seventh form; the later family's looks); each row that meets fmt, with fmt's text TOLD by the authors' own Lean function (tested against real Go, not proved from fmt's source: count such statements apart). THE CARD IS WHAT COUNTS. Prove the row's statement (the work); the ties are given (YtgfkbeipckbkiaaGreatDoorTie.lean); close each card by the builder's one call (the guide's Derived/Test/ToyasCard.lean, 'card_holds'). Laid BY PROGRAM, IN A SANDBOX (cutbox-door.mjs). By AI agents, Wed Nov 11 2026. No macro, syntax, notation, axiom, sorry.
-/
import Derived.Test.YtgfkbeipckbkiaaGreatDoorRows
import GoSem.ClaimSeven
namespace Go.Proofs.YtgfkbeipckbkiaaGreatDoor
namespace Rows

/-- THE TIED CARD OF 'sparsetreelaw19.MultiProves'. -/
def multiProvesCard : Claim7 := { stood := { row := multiProvesRow, standIns := [], harness := (true, "9d7c7cbe3c9cf4be2ca191e360bb3a35ffc731c08a708012086128d6b5afdadd"), looks := true }, kinds := [], alts := [], laidByText := true, laidKinds := [.data], laidTests := true, laidLooks := .later }
def MultiProvesCardSaid : Prop := Claim7.holds Tryz.pinned (.plain (OpenSpec.ofChange multiProvesSpec)) multiProvesCard

/-- THE TIED CARD OF 'sparsetreelaw19.MultiLeads'. -/
def multiLeadsCard : Claim7 := { stood := { row := multiLeadsRow, standIns := [], harness := (true, "9d7c7cbe3c9cf4be2ca191e360bb3a35ffc731c08a708012086128d6b5afdadd"), looks := true }, kinds := [], alts := [], laidByText := true, laidKinds := [.data], laidTests := true, laidLooks := .later }
def MultiLeadsCardSaid : Prop := Claim7.holds Tryz.pinned (.plain (OpenSpec.ofChange multiLeadsSpec)) multiLeadsCard

/-- THE TIED CARD OF 'sparsetreelaw19.MultiPreimages'. -/
def multiPreimagesCard : Claim7 := { stood := { row := multiPreimagesRow, standIns := [], harness := (true, "9d7c7cbe3c9cf4be2ca191e360bb3a35ffc731c08a708012086128d6b5afdadd"), looks := true }, kinds := [], alts := [], laidByText := true, laidKinds := [.data], laidTests := true, laidLooks := .later }
def MultiPreimagesCardSaid : Prop := Claim7.holds Tryz.pinned (.plain (OpenSpec.ofChange multiPreimagesSpec)) multiPreimagesCard

/-- THE TIED CARD OF 'sparsetreelaw18.VerifyExplains'. -/
def verifyExplainsCard : Claim7 := { stood := { row := verifyExplainsRow, standIns := [], harness := (true, "9d7c7cbe3c9cf4be2ca191e360bb3a35ffc731c08a708012086128d6b5afdadd"), looks := true }, kinds := [], alts := [], laidByText := true, laidKinds := [.handle, .data], laidTests := true, laidLooks := .later }
def VerifyExplainsCardSaid : Prop := Claim7.holds Tryz.pinned (.plain (OpenSpec.ofChange verifyExplainsSpec)) verifyExplainsCard

/-- THE TIED CARD OF 'sparsetreelaw18.VerifyClaims'. -/
def verifyClaimsCard : Claim7 := { stood := { row := verifyClaimsRow, standIns := [], harness := (true, "9d7c7cbe3c9cf4be2ca191e360bb3a35ffc731c08a708012086128d6b5afdadd"), looks := true }, kinds := [], alts := [], laidByText := true, laidKinds := [.handle, .data], laidTests := true, laidLooks := .later }
def VerifyClaimsCardSaid : Prop := Claim7.holds Tryz.pinned (.plain (OpenSpec.ofChange verifyClaimsSpec)) verifyClaimsCard

/-- THE TIED CARD OF 'sparsetreelaw18.VerifyAccepts'. -/
def verifyAcceptsCard : Claim7 := { stood := { row := verifyAcceptsRow, standIns := [], harness := (true, "9d7c7cbe3c9cf4be2ca191e360bb3a35ffc731c08a708012086128d6b5afdadd"), looks := true }, kinds := [], alts := [], laidByText := true, laidKinds := [.handle, .data], laidTests := true, laidLooks := .later }
def VerifyAcceptsCardSaid : Prop := Claim7.holds Tryz.pinned (.plain (OpenSpec.ofChange verifyAcceptsSpec)) verifyAcceptsCard

/-- THE TIED CARD OF 'sparsetreelaw18.VerifyChecks'. -/
def verifyChecksCard : Claim7 := { stood := { row := verifyChecksRow, standIns := [], harness := (true, "9d7c7cbe3c9cf4be2ca191e360bb3a35ffc731c08a708012086128d6b5afdadd"), looks := true }, kinds := [], alts := [], laidByText := true, laidKinds := [.handle, .data], laidTests := true, laidLooks := .later }
def VerifyChecksCardSaid : Prop := Claim7.holds Tryz.pinned (.plain (OpenSpec.ofChange verifyChecksSpec)) verifyChecksCard

/-- THE TIED CARD OF 'sparsetreelaw18.VerifyCompletes'. -/
def verifyCompletesCard : Claim7 := { stood := { row := verifyCompletesRow, standIns := [], harness := (true, "9d7c7cbe3c9cf4be2ca191e360bb3a35ffc731c08a708012086128d6b5afdadd"), looks := true }, kinds := [], alts := [], laidByText := true, laidKinds := [.handle, .data], laidTests := true, laidLooks := .later }
def VerifyCompletesCardSaid : Prop := Claim7.holds Tryz.pinned (.plain (OpenSpec.ofChange verifyCompletesSpec)) verifyCompletesCard

/-- THE TIED CARD OF 'sparsetreelaw18.VerifyRefuses'. -/
def verifyRefusesCard : Claim7 := { stood := { row := verifyRefusesRow, standIns := [], harness := (true, "9d7c7cbe3c9cf4be2ca191e360bb3a35ffc731c08a708012086128d6b5afdadd"), looks := true }, kinds := [], alts := [], laidByText := true, laidKinds := [.handle, .data], laidTests := true, laidLooks := .later }
def VerifyRefusesCardSaid : Prop := Claim7.holds Tryz.pinned (.plain (OpenSpec.ofChange verifyRefusesSpec)) verifyRefusesCard

/-- THE SECOND FORM's CARD OF 'sparsetreelaw19.MultiProves'. -/
def multiProvesUptoCard : Claim7 := { stood := { row := multiProvesUptoRow, standIns := [], harness := (true, "9d7c7cbe3c9cf4be2ca191e360bb3a35ffc731c08a708012086128d6b5afdadd"), looks := true }, kinds := [], alts := [], laidByText := true, laidKinds := [.data], laidTests := true, laidLooks := .later }
def MultiProvesUptoCardSaid : Prop := Claim7.holds Tryz.pinned (.plain (OpenSpec.upto multiProvesSpec)) multiProvesUptoCard

/-- THE SECOND FORM's CARD OF 'sparsetreelaw19.MultiLeads'. -/
def multiLeadsUptoCard : Claim7 := { stood := { row := multiLeadsUptoRow, standIns := [], harness := (true, "9d7c7cbe3c9cf4be2ca191e360bb3a35ffc731c08a708012086128d6b5afdadd"), looks := true }, kinds := [], alts := [], laidByText := true, laidKinds := [.data], laidTests := true, laidLooks := .later }
def MultiLeadsUptoCardSaid : Prop := Claim7.holds Tryz.pinned (.plain (OpenSpec.upto multiLeadsSpec)) multiLeadsUptoCard

/-- THE SECOND FORM's CARD OF 'sparsetreelaw19.MultiPreimages'. -/
def multiPreimagesUptoCard : Claim7 := { stood := { row := multiPreimagesUptoRow, standIns := [], harness := (true, "9d7c7cbe3c9cf4be2ca191e360bb3a35ffc731c08a708012086128d6b5afdadd"), looks := true }, kinds := [], alts := [], laidByText := true, laidKinds := [.data], laidTests := true, laidLooks := .later }
def MultiPreimagesUptoCardSaid : Prop := Claim7.holds Tryz.pinned (.plain (OpenSpec.upto multiPreimagesSpec)) multiPreimagesUptoCard

/-- THE SECOND FORM's CARD OF 'sparsetreelaw18.VerifyExplains'. -/
def verifyExplainsUptoCard : Claim7 := { stood := { row := verifyExplainsUptoRow, standIns := [], harness := (true, "9d7c7cbe3c9cf4be2ca191e360bb3a35ffc731c08a708012086128d6b5afdadd"), looks := true }, kinds := [], alts := [], laidByText := true, laidKinds := [.handle, .data], laidTests := true, laidLooks := .later }
def VerifyExplainsUptoCardSaid : Prop := Claim7.holds Tryz.pinned (.plain (OpenSpec.upto verifyExplainsSpec)) verifyExplainsUptoCard

/-- THE SECOND FORM's CARD OF 'sparsetreelaw18.VerifyClaims'. -/
def verifyClaimsUptoCard : Claim7 := { stood := { row := verifyClaimsUptoRow, standIns := [], harness := (true, "9d7c7cbe3c9cf4be2ca191e360bb3a35ffc731c08a708012086128d6b5afdadd"), looks := true }, kinds := [], alts := [], laidByText := true, laidKinds := [.handle, .data], laidTests := true, laidLooks := .later }
def VerifyClaimsUptoCardSaid : Prop := Claim7.holds Tryz.pinned (.plain (OpenSpec.upto verifyClaimsSpec)) verifyClaimsUptoCard

/-- THE SECOND FORM's CARD OF 'sparsetreelaw18.VerifyAccepts'. -/
def verifyAcceptsUptoCard : Claim7 := { stood := { row := verifyAcceptsUptoRow, standIns := [], harness := (true, "9d7c7cbe3c9cf4be2ca191e360bb3a35ffc731c08a708012086128d6b5afdadd"), looks := true }, kinds := [], alts := [], laidByText := true, laidKinds := [.handle, .data], laidTests := true, laidLooks := .later }
def VerifyAcceptsUptoCardSaid : Prop := Claim7.holds Tryz.pinned (.plain (OpenSpec.upto verifyAcceptsSpec)) verifyAcceptsUptoCard

/-- THE SECOND FORM's CARD OF 'sparsetreelaw18.VerifyChecks'. -/
def verifyChecksUptoCard : Claim7 := { stood := { row := verifyChecksUptoRow, standIns := [], harness := (true, "9d7c7cbe3c9cf4be2ca191e360bb3a35ffc731c08a708012086128d6b5afdadd"), looks := true }, kinds := [], alts := [], laidByText := true, laidKinds := [.handle, .data], laidTests := true, laidLooks := .later }
def VerifyChecksUptoCardSaid : Prop := Claim7.holds Tryz.pinned (.plain (OpenSpec.upto verifyChecksSpec)) verifyChecksUptoCard

/-- THE SECOND FORM's CARD OF 'sparsetreelaw18.VerifyCompletes'. -/
def verifyCompletesUptoCard : Claim7 := { stood := { row := verifyCompletesUptoRow, standIns := [], harness := (true, "9d7c7cbe3c9cf4be2ca191e360bb3a35ffc731c08a708012086128d6b5afdadd"), looks := true }, kinds := [], alts := [], laidByText := true, laidKinds := [.handle, .data], laidTests := true, laidLooks := .later }
def VerifyCompletesUptoCardSaid : Prop := Claim7.holds Tryz.pinned (.plain (OpenSpec.upto verifyCompletesSpec)) verifyCompletesUptoCard

/-- THE SECOND FORM's CARD OF 'sparsetreelaw18.VerifyRefuses'. -/
def verifyRefusesUptoCard : Claim7 := { stood := { row := verifyRefusesUptoRow, standIns := [], harness := (true, "9d7c7cbe3c9cf4be2ca191e360bb3a35ffc731c08a708012086128d6b5afdadd"), looks := true }, kinds := [], alts := [], laidByText := true, laidKinds := [.handle, .data], laidTests := true, laidLooks := .later }
def VerifyRefusesUptoCardSaid : Prop := Claim7.holds Tryz.pinned (.plain (OpenSpec.upto verifyRefusesSpec)) verifyRefusesUptoCard
end Rows
end Go.Proofs.YtgfkbeipckbkiaaGreatDoor
