/-
  DERIVED. GIVEN WITH THE SEED: THE CARDS: each row of YtjhlbbgikccclaaGreatDoorRows.lean that lists a variable, with what it lists TIED to the program's text (the seventh form; the later family's looks); each row that meets fmt, with fmt's text TOLD by the authors' own Lean function (tested against real Go, not proved from fmt's source: count such statements apart). THE CARD IS WHAT COUNTS. Prove the row's statement (the work); the ties are given (YtjhlbbgikccclaaGreatDoorTie.lean); close each card by the builder's one call (the guide's Derived/Test/ToyasCard.lean, 'card_holds'). Laid BY PROGRAM, IN A SANDBOX (cutbox-door.mjs). By AI agents, Wed Nov 11 2026. No macro, syntax, notation, axiom, sorry.
-/
import Derived.Test.YtjhlbbgikccclaaGreatDoorRows
import GoSem.ClaimSeven
namespace Go.Proofs.YtjhlbbgikccclaaGreatDoor
namespace Rows

/-- THE TIED CARD OF 'sparsetreetop.TopDiffs'. -/
def topDiffsCard : Claim7 := { stood := { row := topDiffsRow, standIns := [], harness := (true, "f8814f12fe56d467bf846aab8ec1e8cc8c7ae026668ba950626896e3821a6754"), looks := true }, kinds := [], alts := [], laidByText := true, laidKinds := [.handle, .data], laidTests := true, laidLooks := .later }
def TopDiffsCardSaid : Prop := Claim7.holds Tryz.pinned (.plain (OpenSpec.ofChange topDiffsSpec)) topDiffsCard

/-- THE TIED CARD OF 'sparsetreetop.TopSound'. -/
def topSoundCard : Claim7 := { stood := { row := topSoundRow, standIns := [], harness := (true, "f8814f12fe56d467bf846aab8ec1e8cc8c7ae026668ba950626896e3821a6754"), looks := true }, kinds := [], alts := [], laidByText := true, laidKinds := [.handle, .data], laidTests := true, laidLooks := .later }
def TopSoundCardSaid : Prop := Claim7.holds Tryz.pinned (.plain (OpenSpec.ofChange topSoundSpec)) topSoundCard

/-- THE TIED CARD OF 'sparsetreetop.TopSoundBatch'. -/
def topSoundBatchCard : Claim7 := { stood := { row := topSoundBatchRow, standIns := [], harness := (true, "f8814f12fe56d467bf846aab8ec1e8cc8c7ae026668ba950626896e3821a6754"), looks := true }, kinds := [], alts := [], laidByText := true, laidKinds := [.handle, .data], laidTests := true, laidLooks := .later }
def TopSoundBatchCardSaid : Prop := Claim7.holds Tryz.pinned (.plain (OpenSpec.ofChange topSoundBatchSpec)) topSoundBatchCard

/-- THE TIED CARD OF 'sparsetreelaw13.TreeForgets'. -/
def treeForgetsCard : Claim7 := { stood := { row := treeForgetsRow, standIns := [], harness := (true, "f8814f12fe56d467bf846aab8ec1e8cc8c7ae026668ba950626896e3821a6754"), looks := true }, kinds := [], alts := [], laidByText := true, laidKinds := [.handle, .data], laidTests := true, laidLooks := .later }
def TreeForgetsCardSaid : Prop := Claim7.holds Tryz.pinned (.plain (OpenSpec.ofChange treeForgetsSpec)) treeForgetsCard

/-- THE TIED CARD OF 'sparsetreelaw13.TreeShows'. -/
def treeShowsCard : Claim7 := { stood := { row := treeShowsRow, standIns := [], harness := (true, "f8814f12fe56d467bf846aab8ec1e8cc8c7ae026668ba950626896e3821a6754"), looks := true }, kinds := [], alts := [], laidByText := true, laidKinds := [.handle, .data], laidTests := true, laidLooks := .later }
def TreeShowsCardSaid : Prop := Claim7.holds Tryz.pinned (.plain (OpenSpec.ofChange treeShowsSpec)) treeShowsCard

/-- THE TIED CARD OF 'sparsetreelaw13.TreeRuns'. -/
def treeRunsCard : Claim7 := { stood := { row := treeRunsRow, standIns := [], harness := (true, "f8814f12fe56d467bf846aab8ec1e8cc8c7ae026668ba950626896e3821a6754"), looks := true }, kinds := [], alts := [], laidByText := true, laidKinds := [.handle, .data], laidTests := true, laidLooks := .later }
def TreeRunsCardSaid : Prop := Claim7.holds Tryz.pinned (.plain (OpenSpec.ofChange treeRunsSpec)) treeRunsCard

/-- THE TIED CARD OF 'sparsetreelaw13.TreeApplies'. -/
def treeAppliesCard : Claim7 := { stood := { row := treeAppliesRow, standIns := [], harness := (true, "f8814f12fe56d467bf846aab8ec1e8cc8c7ae026668ba950626896e3821a6754"), looks := true }, kinds := [], alts := [], laidByText := true, laidKinds := [.handle, .data], laidTests := true, laidLooks := .later }
def TreeAppliesCardSaid : Prop := Claim7.holds Tryz.pinned (.plain (OpenSpec.ofChange treeAppliesSpec)) treeAppliesCard

/-- THE TIED CARD OF 'sparsetreelaw13.TreeClones'. -/
def treeClonesCard : Claim7 := { stood := { row := treeClonesRow, standIns := [], harness := (true, "f8814f12fe56d467bf846aab8ec1e8cc8c7ae026668ba950626896e3821a6754"), looks := true }, kinds := [], alts := [], laidByText := true, laidKinds := [.handle, .data], laidTests := true, laidLooks := .later }
def TreeClonesCardSaid : Prop := Claim7.holds Tryz.pinned (.plain (OpenSpec.ofChange treeClonesSpec)) treeClonesCard

/-- THE TIED CARD OF 'sparsetreelaw13.TreeNil'. -/
def treeNilCard : Claim7 := { stood := { row := treeNilRow, standIns := [], harness := (true, "f8814f12fe56d467bf846aab8ec1e8cc8c7ae026668ba950626896e3821a6754"), looks := true }, kinds := [], alts := [], laidByText := true, laidKinds := [.handle, .data], laidTests := true, laidLooks := .later }
def TreeNilCardSaid : Prop := Claim7.holds Tryz.pinned (.plain (OpenSpec.ofChange treeNilSpec)) treeNilCard

/-- THE SECOND FORM's CARD OF 'sparsetreetop.TopDiffs'. -/
def topDiffsUptoCard : Claim7 := { stood := { row := topDiffsUptoRow, standIns := [], harness := (true, "f8814f12fe56d467bf846aab8ec1e8cc8c7ae026668ba950626896e3821a6754"), looks := true }, kinds := [], alts := [], laidByText := true, laidKinds := [.handle, .data], laidTests := true, laidLooks := .later }
def TopDiffsUptoCardSaid : Prop := Claim7.holds Tryz.pinned (.plain (OpenSpec.upto topDiffsSpec)) topDiffsUptoCard

/-- THE SECOND FORM's CARD OF 'sparsetreetop.TopSound'. -/
def topSoundUptoCard : Claim7 := { stood := { row := topSoundUptoRow, standIns := [], harness := (true, "f8814f12fe56d467bf846aab8ec1e8cc8c7ae026668ba950626896e3821a6754"), looks := true }, kinds := [], alts := [], laidByText := true, laidKinds := [.handle, .data], laidTests := true, laidLooks := .later }
def TopSoundUptoCardSaid : Prop := Claim7.holds Tryz.pinned (.plain (OpenSpec.upto topSoundSpec)) topSoundUptoCard

/-- THE SECOND FORM's CARD OF 'sparsetreetop.TopSoundBatch'. -/
def topSoundBatchUptoCard : Claim7 := { stood := { row := topSoundBatchUptoRow, standIns := [], harness := (true, "f8814f12fe56d467bf846aab8ec1e8cc8c7ae026668ba950626896e3821a6754"), looks := true }, kinds := [], alts := [], laidByText := true, laidKinds := [.handle, .data], laidTests := true, laidLooks := .later }
def TopSoundBatchUptoCardSaid : Prop := Claim7.holds Tryz.pinned (.plain (OpenSpec.upto topSoundBatchSpec)) topSoundBatchUptoCard

/-- THE SECOND FORM's CARD OF 'sparsetreelaw13.TreeForgets'. -/
def treeForgetsUptoCard : Claim7 := { stood := { row := treeForgetsUptoRow, standIns := [], harness := (true, "f8814f12fe56d467bf846aab8ec1e8cc8c7ae026668ba950626896e3821a6754"), looks := true }, kinds := [], alts := [], laidByText := true, laidKinds := [.handle, .data], laidTests := true, laidLooks := .later }
def TreeForgetsUptoCardSaid : Prop := Claim7.holds Tryz.pinned (.plain (OpenSpec.upto treeForgetsSpec)) treeForgetsUptoCard

/-- THE SECOND FORM's CARD OF 'sparsetreelaw13.TreeShows'. -/
def treeShowsUptoCard : Claim7 := { stood := { row := treeShowsUptoRow, standIns := [], harness := (true, "f8814f12fe56d467bf846aab8ec1e8cc8c7ae026668ba950626896e3821a6754"), looks := true }, kinds := [], alts := [], laidByText := true, laidKinds := [.handle, .data], laidTests := true, laidLooks := .later }
def TreeShowsUptoCardSaid : Prop := Claim7.holds Tryz.pinned (.plain (OpenSpec.upto treeShowsSpec)) treeShowsUptoCard

/-- THE SECOND FORM's CARD OF 'sparsetreelaw13.TreeRuns'. -/
def treeRunsUptoCard : Claim7 := { stood := { row := treeRunsUptoRow, standIns := [], harness := (true, "f8814f12fe56d467bf846aab8ec1e8cc8c7ae026668ba950626896e3821a6754"), looks := true }, kinds := [], alts := [], laidByText := true, laidKinds := [.handle, .data], laidTests := true, laidLooks := .later }
def TreeRunsUptoCardSaid : Prop := Claim7.holds Tryz.pinned (.plain (OpenSpec.upto treeRunsSpec)) treeRunsUptoCard

/-- THE SECOND FORM's CARD OF 'sparsetreelaw13.TreeApplies'. -/
def treeAppliesUptoCard : Claim7 := { stood := { row := treeAppliesUptoRow, standIns := [], harness := (true, "f8814f12fe56d467bf846aab8ec1e8cc8c7ae026668ba950626896e3821a6754"), looks := true }, kinds := [], alts := [], laidByText := true, laidKinds := [.handle, .data], laidTests := true, laidLooks := .later }
def TreeAppliesUptoCardSaid : Prop := Claim7.holds Tryz.pinned (.plain (OpenSpec.upto treeAppliesSpec)) treeAppliesUptoCard

/-- THE SECOND FORM's CARD OF 'sparsetreelaw13.TreeClones'. -/
def treeClonesUptoCard : Claim7 := { stood := { row := treeClonesUptoRow, standIns := [], harness := (true, "f8814f12fe56d467bf846aab8ec1e8cc8c7ae026668ba950626896e3821a6754"), looks := true }, kinds := [], alts := [], laidByText := true, laidKinds := [.handle, .data], laidTests := true, laidLooks := .later }
def TreeClonesUptoCardSaid : Prop := Claim7.holds Tryz.pinned (.plain (OpenSpec.upto treeClonesSpec)) treeClonesUptoCard

/-- THE SECOND FORM's CARD OF 'sparsetreelaw13.TreeNil'. -/
def treeNilUptoCard : Claim7 := { stood := { row := treeNilUptoRow, standIns := [], harness := (true, "f8814f12fe56d467bf846aab8ec1e8cc8c7ae026668ba950626896e3821a6754"), looks := true }, kinds := [], alts := [], laidByText := true, laidKinds := [.handle, .data], laidTests := true, laidLooks := .later }
def TreeNilUptoCardSaid : Prop := Claim7.holds Tryz.pinned (.plain (OpenSpec.upto treeNilSpec)) treeNilUptoCard
end Rows
end Go.Proofs.YtjhlbbgikccclaaGreatDoor
