/-
  DERIVED. GIVEN WITH THE SEED: THE CARDS: each row of YtjhocljhhpkiiaaGreatDoorRows.lean that lists a variable, with what it lists TIED to the program's text (the seventh form; the later family's looks); each row that meets fmt, with fmt's text TOLD by the authors' own Lean function (tested against real Go, not proved from fmt's source: count such statements apart). THE CARD IS WHAT COUNTS. Prove the row's statement (the work); the ties are given (YtjhocljhhpkiiaaGreatDoorTie.lean); close each card by the builder's one call (the guide's Derived/Test/ToyasCard.lean, 'card_holds'). Laid BY PROGRAM, IN A SANDBOX (cutbox-door.mjs). By AI agents, Wed Nov 11 2026. No macro, syntax, notation, axiom, sorry.
-/
import Derived.Test.YtjhocljhhpkiiaaGreatDoorRows
import GoSem.ClaimSeven
namespace Go.Proofs.YtjhocljhhpkiiaaGreatDoor
namespace Rows

/-- THE TIED CARD OF 'sparsetreelaw22.ExtractTrue'. -/
def extractTrueCard : Claim7 := { stood := { row := extractTrueRow, standIns := [], harness := (true, "d395e73bcff0ae2fd7317d5eaa32ab42dbe43f5b6e9f4c9385e47a92116dad32"), looks := true }, kinds := [], alts := [], laidByText := true, laidKinds := [.data], laidTests := true, laidLooks := .later }
def ExtractTrueCardSaid : Prop := Claim7.holds Tryz.pinned (.plain (OpenSpec.ofChange extractTrueSpec)) extractTrueCard

/-- THE TIED CARD OF 'sparsetreelaw22.ExtractWays'. -/
def extractWaysCard : Claim7 := { stood := { row := extractWaysRow, standIns := [], harness := (true, "d395e73bcff0ae2fd7317d5eaa32ab42dbe43f5b6e9f4c9385e47a92116dad32"), looks := true }, kinds := [], alts := [], laidByText := true, laidKinds := [.data], laidTests := true, laidLooks := .later }
def ExtractWaysCardSaid : Prop := Claim7.holds Tryz.pinned (.plain (OpenSpec.ofChange extractWaysSpec)) extractWaysCard

/-- THE TIED CARD OF 'sparsetreelaw22.ExtractCollides'. -/
def extractCollidesCard : Claim7 := { stood := { row := extractCollidesRow, standIns := [], harness := (true, "d395e73bcff0ae2fd7317d5eaa32ab42dbe43f5b6e9f4c9385e47a92116dad32"), looks := true }, kinds := [], alts := [], laidByText := true, laidKinds := [.data], laidTests := true, laidLooks := .later }
def ExtractCollidesCardSaid : Prop := Claim7.holds Tryz.pinned (.plain (OpenSpec.ofChange extractCollidesSpec)) extractCollidesCard

/-- THE TIED CARD OF 'sparsetreelaw22.ExtractSingle'. -/
def extractSingleCard : Claim7 := { stood := { row := extractSingleRow, standIns := [], harness := (true, "d395e73bcff0ae2fd7317d5eaa32ab42dbe43f5b6e9f4c9385e47a92116dad32"), looks := true }, kinds := [], alts := [], laidByText := true, laidKinds := [.data], laidTests := true, laidLooks := .later }
def ExtractSingleCardSaid : Prop := Claim7.holds Tryz.pinned (.plain (OpenSpec.ofChange extractSingleSpec)) extractSingleCard

/-- THE TIED CARD OF 'sparsetreelaw22.ExtractBatch'. -/
def extractBatchCard : Claim7 := { stood := { row := extractBatchRow, standIns := [], harness := (true, "d395e73bcff0ae2fd7317d5eaa32ab42dbe43f5b6e9f4c9385e47a92116dad32"), looks := true }, kinds := [], alts := [], laidByText := true, laidKinds := [.data], laidTests := true, laidLooks := .later }
def ExtractBatchCardSaid : Prop := Claim7.holds Tryz.pinned (.plain (OpenSpec.ofChange extractBatchSpec)) extractBatchCard

/-- THE TIED CARD OF 'sparsetreelaw22.ExtractSound'. -/
def extractSoundCard : Claim7 := { stood := { row := extractSoundRow, standIns := [], harness := (true, "d395e73bcff0ae2fd7317d5eaa32ab42dbe43f5b6e9f4c9385e47a92116dad32"), looks := true }, kinds := [], alts := [], laidByText := true, laidKinds := [.data], laidTests := true, laidLooks := .later }
def ExtractSoundCardSaid : Prop := Claim7.holds Tryz.pinned (.plain (OpenSpec.ofChange extractSoundSpec)) extractSoundCard

/-- THE TIED CARD OF 'sparsetreelaw21.MverifyExplains'. -/
def mverifyExplainsCard : Claim7 := { stood := { row := mverifyExplainsRow, standIns := [], harness := (true, "d395e73bcff0ae2fd7317d5eaa32ab42dbe43f5b6e9f4c9385e47a92116dad32"), looks := true }, kinds := [], alts := [], laidByText := true, laidKinds := [.handle, .data], laidTests := true, laidLooks := .later }
def MverifyExplainsCardSaid : Prop := Claim7.holds Tryz.pinned (.plain (OpenSpec.ofChange mverifyExplainsSpec)) mverifyExplainsCard

/-- THE TIED CARD OF 'sparsetreelaw21.MverifyAccepts'. -/
def mverifyAcceptsCard : Claim7 := { stood := { row := mverifyAcceptsRow, standIns := [], harness := (true, "d395e73bcff0ae2fd7317d5eaa32ab42dbe43f5b6e9f4c9385e47a92116dad32"), looks := true }, kinds := [], alts := [], laidByText := true, laidKinds := [.handle, .data], laidTests := true, laidLooks := .later }
def MverifyAcceptsCardSaid : Prop := Claim7.holds Tryz.pinned (.plain (OpenSpec.ofChange mverifyAcceptsSpec)) mverifyAcceptsCard

/-- THE TIED CARD OF 'sparsetreelaw21.MverifyChecks'. -/
def mverifyChecksCard : Claim7 := { stood := { row := mverifyChecksRow, standIns := [], harness := (true, "d395e73bcff0ae2fd7317d5eaa32ab42dbe43f5b6e9f4c9385e47a92116dad32"), looks := true }, kinds := [], alts := [], laidByText := true, laidKinds := [.handle, .data], laidTests := true, laidLooks := .later }
def MverifyChecksCardSaid : Prop := Claim7.holds Tryz.pinned (.plain (OpenSpec.ofChange mverifyChecksSpec)) mverifyChecksCard

/-- THE TIED CARD OF 'sparsetreelaw21.MverifyClaims'. -/
def mverifyClaimsCard : Claim7 := { stood := { row := mverifyClaimsRow, standIns := [], harness := (true, "d395e73bcff0ae2fd7317d5eaa32ab42dbe43f5b6e9f4c9385e47a92116dad32"), looks := true }, kinds := [], alts := [], laidByText := true, laidKinds := [.handle, .data], laidTests := true, laidLooks := .later }
def MverifyClaimsCardSaid : Prop := Claim7.holds Tryz.pinned (.plain (OpenSpec.ofChange mverifyClaimsSpec)) mverifyClaimsCard

/-- THE TIED CARD OF 'sparsetreelaw21.MverifyCompletes'. -/
def mverifyCompletesCard : Claim7 := { stood := { row := mverifyCompletesRow, standIns := [], harness := (true, "d395e73bcff0ae2fd7317d5eaa32ab42dbe43f5b6e9f4c9385e47a92116dad32"), looks := true }, kinds := [], alts := [], laidByText := true, laidKinds := [.handle, .data], laidTests := true, laidLooks := .later }
def MverifyCompletesCardSaid : Prop := Claim7.holds Tryz.pinned (.plain (OpenSpec.ofChange mverifyCompletesSpec)) mverifyCompletesCard

/-- THE TIED CARD OF 'sparsetreelaw21.MverifyRefuses'. -/
def mverifyRefusesCard : Claim7 := { stood := { row := mverifyRefusesRow, standIns := [], harness := (true, "d395e73bcff0ae2fd7317d5eaa32ab42dbe43f5b6e9f4c9385e47a92116dad32"), looks := true }, kinds := [], alts := [], laidByText := true, laidKinds := [.handle, .data], laidTests := true, laidLooks := .later }
def MverifyRefusesCardSaid : Prop := Claim7.holds Tryz.pinned (.plain (OpenSpec.ofChange mverifyRefusesSpec)) mverifyRefusesCard

/-- THE SECOND FORM's CARD OF 'sparsetreelaw22.ExtractTrue'. -/
def extractTrueUptoCard : Claim7 := { stood := { row := extractTrueUptoRow, standIns := [], harness := (true, "d395e73bcff0ae2fd7317d5eaa32ab42dbe43f5b6e9f4c9385e47a92116dad32"), looks := true }, kinds := [], alts := [], laidByText := true, laidKinds := [.data], laidTests := true, laidLooks := .later }
def ExtractTrueUptoCardSaid : Prop := Claim7.holds Tryz.pinned (.plain (OpenSpec.upto extractTrueSpec)) extractTrueUptoCard

/-- THE SECOND FORM's CARD OF 'sparsetreelaw22.ExtractWays'. -/
def extractWaysUptoCard : Claim7 := { stood := { row := extractWaysUptoRow, standIns := [], harness := (true, "d395e73bcff0ae2fd7317d5eaa32ab42dbe43f5b6e9f4c9385e47a92116dad32"), looks := true }, kinds := [], alts := [], laidByText := true, laidKinds := [.data], laidTests := true, laidLooks := .later }
def ExtractWaysUptoCardSaid : Prop := Claim7.holds Tryz.pinned (.plain (OpenSpec.upto extractWaysSpec)) extractWaysUptoCard

/-- THE SECOND FORM's CARD OF 'sparsetreelaw22.ExtractCollides'. -/
def extractCollidesUptoCard : Claim7 := { stood := { row := extractCollidesUptoRow, standIns := [], harness := (true, "d395e73bcff0ae2fd7317d5eaa32ab42dbe43f5b6e9f4c9385e47a92116dad32"), looks := true }, kinds := [], alts := [], laidByText := true, laidKinds := [.data], laidTests := true, laidLooks := .later }
def ExtractCollidesUptoCardSaid : Prop := Claim7.holds Tryz.pinned (.plain (OpenSpec.upto extractCollidesSpec)) extractCollidesUptoCard

/-- THE SECOND FORM's CARD OF 'sparsetreelaw22.ExtractSingle'. -/
def extractSingleUptoCard : Claim7 := { stood := { row := extractSingleUptoRow, standIns := [], harness := (true, "d395e73bcff0ae2fd7317d5eaa32ab42dbe43f5b6e9f4c9385e47a92116dad32"), looks := true }, kinds := [], alts := [], laidByText := true, laidKinds := [.data], laidTests := true, laidLooks := .later }
def ExtractSingleUptoCardSaid : Prop := Claim7.holds Tryz.pinned (.plain (OpenSpec.upto extractSingleSpec)) extractSingleUptoCard

/-- THE SECOND FORM's CARD OF 'sparsetreelaw22.ExtractBatch'. -/
def extractBatchUptoCard : Claim7 := { stood := { row := extractBatchUptoRow, standIns := [], harness := (true, "d395e73bcff0ae2fd7317d5eaa32ab42dbe43f5b6e9f4c9385e47a92116dad32"), looks := true }, kinds := [], alts := [], laidByText := true, laidKinds := [.data], laidTests := true, laidLooks := .later }
def ExtractBatchUptoCardSaid : Prop := Claim7.holds Tryz.pinned (.plain (OpenSpec.upto extractBatchSpec)) extractBatchUptoCard

/-- THE SECOND FORM's CARD OF 'sparsetreelaw22.ExtractSound'. -/
def extractSoundUptoCard : Claim7 := { stood := { row := extractSoundUptoRow, standIns := [], harness := (true, "d395e73bcff0ae2fd7317d5eaa32ab42dbe43f5b6e9f4c9385e47a92116dad32"), looks := true }, kinds := [], alts := [], laidByText := true, laidKinds := [.data], laidTests := true, laidLooks := .later }
def ExtractSoundUptoCardSaid : Prop := Claim7.holds Tryz.pinned (.plain (OpenSpec.upto extractSoundSpec)) extractSoundUptoCard

/-- THE SECOND FORM's CARD OF 'sparsetreelaw21.MverifyExplains'. -/
def mverifyExplainsUptoCard : Claim7 := { stood := { row := mverifyExplainsUptoRow, standIns := [], harness := (true, "d395e73bcff0ae2fd7317d5eaa32ab42dbe43f5b6e9f4c9385e47a92116dad32"), looks := true }, kinds := [], alts := [], laidByText := true, laidKinds := [.handle, .data], laidTests := true, laidLooks := .later }
def MverifyExplainsUptoCardSaid : Prop := Claim7.holds Tryz.pinned (.plain (OpenSpec.upto mverifyExplainsSpec)) mverifyExplainsUptoCard

/-- THE SECOND FORM's CARD OF 'sparsetreelaw21.MverifyAccepts'. -/
def mverifyAcceptsUptoCard : Claim7 := { stood := { row := mverifyAcceptsUptoRow, standIns := [], harness := (true, "d395e73bcff0ae2fd7317d5eaa32ab42dbe43f5b6e9f4c9385e47a92116dad32"), looks := true }, kinds := [], alts := [], laidByText := true, laidKinds := [.handle, .data], laidTests := true, laidLooks := .later }
def MverifyAcceptsUptoCardSaid : Prop := Claim7.holds Tryz.pinned (.plain (OpenSpec.upto mverifyAcceptsSpec)) mverifyAcceptsUptoCard

/-- THE SECOND FORM's CARD OF 'sparsetreelaw21.MverifyChecks'. -/
def mverifyChecksUptoCard : Claim7 := { stood := { row := mverifyChecksUptoRow, standIns := [], harness := (true, "d395e73bcff0ae2fd7317d5eaa32ab42dbe43f5b6e9f4c9385e47a92116dad32"), looks := true }, kinds := [], alts := [], laidByText := true, laidKinds := [.handle, .data], laidTests := true, laidLooks := .later }
def MverifyChecksUptoCardSaid : Prop := Claim7.holds Tryz.pinned (.plain (OpenSpec.upto mverifyChecksSpec)) mverifyChecksUptoCard

/-- THE SECOND FORM's CARD OF 'sparsetreelaw21.MverifyClaims'. -/
def mverifyClaimsUptoCard : Claim7 := { stood := { row := mverifyClaimsUptoRow, standIns := [], harness := (true, "d395e73bcff0ae2fd7317d5eaa32ab42dbe43f5b6e9f4c9385e47a92116dad32"), looks := true }, kinds := [], alts := [], laidByText := true, laidKinds := [.handle, .data], laidTests := true, laidLooks := .later }
def MverifyClaimsUptoCardSaid : Prop := Claim7.holds Tryz.pinned (.plain (OpenSpec.upto mverifyClaimsSpec)) mverifyClaimsUptoCard

/-- THE SECOND FORM's CARD OF 'sparsetreelaw21.MverifyCompletes'. -/
def mverifyCompletesUptoCard : Claim7 := { stood := { row := mverifyCompletesUptoRow, standIns := [], harness := (true, "d395e73bcff0ae2fd7317d5eaa32ab42dbe43f5b6e9f4c9385e47a92116dad32"), looks := true }, kinds := [], alts := [], laidByText := true, laidKinds := [.handle, .data], laidTests := true, laidLooks := .later }
def MverifyCompletesUptoCardSaid : Prop := Claim7.holds Tryz.pinned (.plain (OpenSpec.upto mverifyCompletesSpec)) mverifyCompletesUptoCard

/-- THE SECOND FORM's CARD OF 'sparsetreelaw21.MverifyRefuses'. -/
def mverifyRefusesUptoCard : Claim7 := { stood := { row := mverifyRefusesUptoRow, standIns := [], harness := (true, "d395e73bcff0ae2fd7317d5eaa32ab42dbe43f5b6e9f4c9385e47a92116dad32"), looks := true }, kinds := [], alts := [], laidByText := true, laidKinds := [.handle, .data], laidTests := true, laidLooks := .later }
def MverifyRefusesUptoCardSaid : Prop := Claim7.holds Tryz.pinned (.plain (OpenSpec.upto mverifyRefusesSpec)) mverifyRefusesUptoCard
end Rows
end Go.Proofs.YtjhocljhhpkiiaaGreatDoor
