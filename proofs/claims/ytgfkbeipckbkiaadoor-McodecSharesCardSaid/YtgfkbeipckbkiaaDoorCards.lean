/-
  DERIVED. GIVEN WITH THE SEED: THE CARDS: each row of YtgfkbeipckbkiaaDoorRows.lean that lists a variable, with what it lists TIED to the program's text (the seventh form; the later family's looks); each row that meets fmt, with fmt's text TOLD by the authors' own Lean function (tested against real Go, not proved from fmt's source: count such statements apart). THE CARD IS WHAT COUNTS. Prove the row's statement (the work); the ties are given (YtgfkbeipckbkiaaDoorTie.lean); close each card by the builder's one call (the guide's Derived/Test/ToyasCard.lean, 'card_holds'). Laid BY PROGRAM, IN A SANDBOX (cutbox-door.mjs). By AI agents, Wed Nov 11 2026. No macro, syntax, notation, axiom, sorry.
-/
import Derived.Test.YtgfkbeipckbkiaaDoorRows
import GoSem.ClaimSeven
namespace Go.Proofs.YtgfkbeipckbkiaaDoor
namespace Rows

/-- THE TIED CARD OF 'sparsetreelaw20.McodecShares'. -/
def mcodecSharesCard : Claim7 := { stood := { row := mcodecSharesRow, standIns := [], harness := (true, "ca9f55a4028ec7995ab1db3f2aa866d28cf1ff6d3e6a92c269191d0667093696"), looks := true }, kinds := [], alts := [], laidByText := true, laidKinds := [.data], laidTests := true, laidLooks := .later }
def McodecSharesCardSaid : Prop := Claim7.holds Tryd.pinned (.plain (OpenSpec.ofChange mcodecSharesSpec)) mcodecSharesCard

/-- THE TIED CARD OF 'sparsetreelaw19.MultiChecks'. -/
def multiChecksCard : Claim7 := { stood := { row := multiChecksRow, standIns := [], harness := (true, "ca9f55a4028ec7995ab1db3f2aa866d28cf1ff6d3e6a92c269191d0667093696"), looks := true }, kinds := [], alts := [], laidByText := true, laidKinds := [.data], laidTests := true, laidLooks := .later }
def MultiChecksCardSaid : Prop := Claim7.holds Tryd.pinned (.plain (OpenSpec.ofChange multiChecksSpec)) multiChecksCard

/-- THE TIED CARD OF 'sparsetreelaw19.MultiRoots'. -/
def multiRootsCard : Claim7 := { stood := { row := multiRootsRow, standIns := [], harness := (true, "ca9f55a4028ec7995ab1db3f2aa866d28cf1ff6d3e6a92c269191d0667093696"), looks := true }, kinds := [], alts := [], laidByText := true, laidKinds := [.data], laidTests := true, laidLooks := .later }
def MultiRootsCardSaid : Prop := Claim7.holds Tryd.pinned (.plain (OpenSpec.ofChange multiRootsSpec)) multiRootsCard

/-- THE TIED CARD OF 'sparsetreelaw19.MultiEnds'. -/
def multiEndsCard : Claim7 := { stood := { row := multiEndsRow, standIns := [], harness := (true, "ca9f55a4028ec7995ab1db3f2aa866d28cf1ff6d3e6a92c269191d0667093696"), looks := true }, kinds := [], alts := [], laidByText := true, laidKinds := [.data], laidTests := true, laidLooks := .later }
def MultiEndsCardSaid : Prop := Claim7.holds Tryd.pinned (.plain (OpenSpec.ofChange multiEndsSpec)) multiEndsCard

/-- THE SECOND FORM's CARD OF 'sparsetreelaw20.McodecShares'. -/
def mcodecSharesUptoCard : Claim7 := { stood := { row := mcodecSharesUptoRow, standIns := [], harness := (true, "ca9f55a4028ec7995ab1db3f2aa866d28cf1ff6d3e6a92c269191d0667093696"), looks := true }, kinds := [], alts := [], laidByText := true, laidKinds := [.data], laidTests := true, laidLooks := .later }
def McodecSharesUptoCardSaid : Prop := Claim7.holds Tryd.pinned (.plain (OpenSpec.upto mcodecSharesSpec)) mcodecSharesUptoCard

/-- THE SECOND FORM's CARD OF 'sparsetreelaw19.MultiChecks'. -/
def multiChecksUptoCard : Claim7 := { stood := { row := multiChecksUptoRow, standIns := [], harness := (true, "ca9f55a4028ec7995ab1db3f2aa866d28cf1ff6d3e6a92c269191d0667093696"), looks := true }, kinds := [], alts := [], laidByText := true, laidKinds := [.data], laidTests := true, laidLooks := .later }
def MultiChecksUptoCardSaid : Prop := Claim7.holds Tryd.pinned (.plain (OpenSpec.upto multiChecksSpec)) multiChecksUptoCard

/-- THE SECOND FORM's CARD OF 'sparsetreelaw19.MultiRoots'. -/
def multiRootsUptoCard : Claim7 := { stood := { row := multiRootsUptoRow, standIns := [], harness := (true, "ca9f55a4028ec7995ab1db3f2aa866d28cf1ff6d3e6a92c269191d0667093696"), looks := true }, kinds := [], alts := [], laidByText := true, laidKinds := [.data], laidTests := true, laidLooks := .later }
def MultiRootsUptoCardSaid : Prop := Claim7.holds Tryd.pinned (.plain (OpenSpec.upto multiRootsSpec)) multiRootsUptoCard

/-- THE SECOND FORM's CARD OF 'sparsetreelaw19.MultiEnds'. -/
def multiEndsUptoCard : Claim7 := { stood := { row := multiEndsUptoRow, standIns := [], harness := (true, "ca9f55a4028ec7995ab1db3f2aa866d28cf1ff6d3e6a92c269191d0667093696"), looks := true }, kinds := [], alts := [], laidByText := true, laidKinds := [.data], laidTests := true, laidLooks := .later }
def MultiEndsUptoCardSaid : Prop := Claim7.holds Tryd.pinned (.plain (OpenSpec.upto multiEndsSpec)) multiEndsUptoCard
end Rows
end Go.Proofs.YtgfkbeipckbkiaaDoor
