/-
  DERIVED. GIVEN WITH THE SEED: THE CARDS: each row of YtdfeimdhlagebaaDoorRows.lean that lists a variable, with what it lists TIED to the program's text (the seventh form; the later family's looks); each row that meets fmt, with fmt's text TOLD by the authors' own Lean function (tested against real Go, not proved from fmt's source: count such statements apart). THE CARD IS WHAT COUNTS. Prove the row's statement (the work); the ties are given (YtdfeimdhlagebaaDoorTie.lean); close each card by the builder's one call (the guide's Derived/Test/ToyasCard.lean, 'card_holds'). Laid BY PROGRAM, IN A SANDBOX (cutbox-door.mjs). By AI agents, Wed Nov 11 2026. No macro, syntax, notation, axiom, sorry.
-/
import Derived.Test.YtdfeimdhlagebaaDoorRows
import GoSem.ClaimSeven
namespace Go.Proofs.YtdfeimdhlagebaaDoor
namespace Rows

/-- THE TIED CARD OF 'sparsetreelaw20.McodecShares'. -/
def mcodecSharesCard : Claim7 := { stood := { row := mcodecSharesRow, standIns := [], harness := (true, "ce774aded98339133cfe3944d43f6c2608080ee9419a3397f82d0a95ece62431"), looks := true }, kinds := [], alts := [], laidByText := true, laidKinds := [.data], laidTests := true, laidLooks := .later }
def McodecSharesCardSaid : Prop := Claim7.holds Tryd.pinned (.plain (OpenSpec.ofChange mcodecSharesSpec)) mcodecSharesCard

/-- THE TIED CARD OF 'sparsetreelaw19.MultiChecks'. -/
def multiChecksCard : Claim7 := { stood := { row := multiChecksRow, standIns := [], harness := (true, "ce774aded98339133cfe3944d43f6c2608080ee9419a3397f82d0a95ece62431"), looks := true }, kinds := [], alts := [], laidByText := true, laidKinds := [.data], laidTests := true, laidLooks := .later }
def MultiChecksCardSaid : Prop := Claim7.holds Tryd.pinned (.plain (OpenSpec.ofChange multiChecksSpec)) multiChecksCard

/-- THE TIED CARD OF 'sparsetreelaw19.MultiRoots'. -/
def multiRootsCard : Claim7 := { stood := { row := multiRootsRow, standIns := [], harness := (true, "ce774aded98339133cfe3944d43f6c2608080ee9419a3397f82d0a95ece62431"), looks := true }, kinds := [], alts := [], laidByText := true, laidKinds := [.data], laidTests := true, laidLooks := .later }
def MultiRootsCardSaid : Prop := Claim7.holds Tryd.pinned (.plain (OpenSpec.ofChange multiRootsSpec)) multiRootsCard

/-- THE TIED CARD OF 'sparsetreelaw19.MultiEnds'. -/
def multiEndsCard : Claim7 := { stood := { row := multiEndsRow, standIns := [], harness := (true, "ce774aded98339133cfe3944d43f6c2608080ee9419a3397f82d0a95ece62431"), looks := true }, kinds := [], alts := [], laidByText := true, laidKinds := [.data], laidTests := true, laidLooks := .later }
def MultiEndsCardSaid : Prop := Claim7.holds Tryd.pinned (.plain (OpenSpec.ofChange multiEndsSpec)) multiEndsCard

/-- THE TIED CARD OF 'sparsetreelaw15.ProofChecks'. -/
def proofChecksCard : Claim7 := { stood := { row := proofChecksRow, standIns := [], harness := (true, "ce774aded98339133cfe3944d43f6c2608080ee9419a3397f82d0a95ece62431"), looks := true }, kinds := [], alts := [], laidByText := true, laidKinds := [.data], laidTests := true, laidLooks := .later }
def ProofChecksCardSaid : Prop := Claim7.holds Tryd.pinned (.plain (OpenSpec.ofChange proofChecksSpec)) proofChecksCard

/-- THE TIED CARD OF 'sparsetreelaw15.ProofSupports'. -/
def proofSupportsCard : Claim7 := { stood := { row := proofSupportsRow, standIns := [], harness := (true, "ce774aded98339133cfe3944d43f6c2608080ee9419a3397f82d0a95ece62431"), looks := true }, kinds := [], alts := [], laidByText := true, laidKinds := [.data], laidTests := true, laidLooks := .later }
def ProofSupportsCardSaid : Prop := Claim7.holds Tryd.pinned (.plain (OpenSpec.ofChange proofSupportsSpec)) proofSupportsCard

/-- THE TIED CARD OF 'sparsetreelaw15.ProofCopies'. -/
def proofCopiesCard : Claim7 := { stood := { row := proofCopiesRow, standIns := [], harness := (true, "ce774aded98339133cfe3944d43f6c2608080ee9419a3397f82d0a95ece62431"), looks := true }, kinds := [], alts := [], laidByText := true, laidKinds := [.data], laidTests := true, laidLooks := .later }
def ProofCopiesCardSaid : Prop := Claim7.holds Tryd.pinned (.plain (OpenSpec.ofChange proofCopiesSpec)) proofCopiesCard

/-- THE TIED CARD OF 'sparsetreelaw15.ProofExpands'. -/
def proofExpandsCard : Claim7 := { stood := { row := proofExpandsRow, standIns := [], harness := (true, "ce774aded98339133cfe3944d43f6c2608080ee9419a3397f82d0a95ece62431"), looks := true }, kinds := [], alts := [], laidByText := true, laidKinds := [.data], laidTests := true, laidLooks := .later }
def ProofExpandsCardSaid : Prop := Claim7.holds Tryd.pinned (.plain (OpenSpec.ofChange proofExpandsSpec)) proofExpandsCard

/-- THE SECOND FORM's CARD OF 'sparsetreelaw20.McodecShares'. -/
def mcodecSharesUptoCard : Claim7 := { stood := { row := mcodecSharesUptoRow, standIns := [], harness := (true, "ce774aded98339133cfe3944d43f6c2608080ee9419a3397f82d0a95ece62431"), looks := true }, kinds := [], alts := [], laidByText := true, laidKinds := [.data], laidTests := true, laidLooks := .later }
def McodecSharesUptoCardSaid : Prop := Claim7.holds Tryd.pinned (.plain (OpenSpec.upto mcodecSharesSpec)) mcodecSharesUptoCard

/-- THE SECOND FORM's CARD OF 'sparsetreelaw19.MultiChecks'. -/
def multiChecksUptoCard : Claim7 := { stood := { row := multiChecksUptoRow, standIns := [], harness := (true, "ce774aded98339133cfe3944d43f6c2608080ee9419a3397f82d0a95ece62431"), looks := true }, kinds := [], alts := [], laidByText := true, laidKinds := [.data], laidTests := true, laidLooks := .later }
def MultiChecksUptoCardSaid : Prop := Claim7.holds Tryd.pinned (.plain (OpenSpec.upto multiChecksSpec)) multiChecksUptoCard

/-- THE SECOND FORM's CARD OF 'sparsetreelaw19.MultiRoots'. -/
def multiRootsUptoCard : Claim7 := { stood := { row := multiRootsUptoRow, standIns := [], harness := (true, "ce774aded98339133cfe3944d43f6c2608080ee9419a3397f82d0a95ece62431"), looks := true }, kinds := [], alts := [], laidByText := true, laidKinds := [.data], laidTests := true, laidLooks := .later }
def MultiRootsUptoCardSaid : Prop := Claim7.holds Tryd.pinned (.plain (OpenSpec.upto multiRootsSpec)) multiRootsUptoCard

/-- THE SECOND FORM's CARD OF 'sparsetreelaw19.MultiEnds'. -/
def multiEndsUptoCard : Claim7 := { stood := { row := multiEndsUptoRow, standIns := [], harness := (true, "ce774aded98339133cfe3944d43f6c2608080ee9419a3397f82d0a95ece62431"), looks := true }, kinds := [], alts := [], laidByText := true, laidKinds := [.data], laidTests := true, laidLooks := .later }
def MultiEndsUptoCardSaid : Prop := Claim7.holds Tryd.pinned (.plain (OpenSpec.upto multiEndsSpec)) multiEndsUptoCard

/-- THE SECOND FORM's CARD OF 'sparsetreelaw15.ProofChecks'. -/
def proofChecksUptoCard : Claim7 := { stood := { row := proofChecksUptoRow, standIns := [], harness := (true, "ce774aded98339133cfe3944d43f6c2608080ee9419a3397f82d0a95ece62431"), looks := true }, kinds := [], alts := [], laidByText := true, laidKinds := [.data], laidTests := true, laidLooks := .later }
def ProofChecksUptoCardSaid : Prop := Claim7.holds Tryd.pinned (.plain (OpenSpec.upto proofChecksSpec)) proofChecksUptoCard

/-- THE SECOND FORM's CARD OF 'sparsetreelaw15.ProofSupports'. -/
def proofSupportsUptoCard : Claim7 := { stood := { row := proofSupportsUptoRow, standIns := [], harness := (true, "ce774aded98339133cfe3944d43f6c2608080ee9419a3397f82d0a95ece62431"), looks := true }, kinds := [], alts := [], laidByText := true, laidKinds := [.data], laidTests := true, laidLooks := .later }
def ProofSupportsUptoCardSaid : Prop := Claim7.holds Tryd.pinned (.plain (OpenSpec.upto proofSupportsSpec)) proofSupportsUptoCard

/-- THE SECOND FORM's CARD OF 'sparsetreelaw15.ProofCopies'. -/
def proofCopiesUptoCard : Claim7 := { stood := { row := proofCopiesUptoRow, standIns := [], harness := (true, "ce774aded98339133cfe3944d43f6c2608080ee9419a3397f82d0a95ece62431"), looks := true }, kinds := [], alts := [], laidByText := true, laidKinds := [.data], laidTests := true, laidLooks := .later }
def ProofCopiesUptoCardSaid : Prop := Claim7.holds Tryd.pinned (.plain (OpenSpec.upto proofCopiesSpec)) proofCopiesUptoCard

/-- THE SECOND FORM's CARD OF 'sparsetreelaw15.ProofExpands'. -/
def proofExpandsUptoCard : Claim7 := { stood := { row := proofExpandsUptoRow, standIns := [], harness := (true, "ce774aded98339133cfe3944d43f6c2608080ee9419a3397f82d0a95ece62431"), looks := true }, kinds := [], alts := [], laidByText := true, laidKinds := [.data], laidTests := true, laidLooks := .later }
def ProofExpandsUptoCardSaid : Prop := Claim7.holds Tryd.pinned (.plain (OpenSpec.upto proofExpandsSpec)) proofExpandsUptoCard
end Rows
end Go.Proofs.YtdfeimdhlagebaaDoor
