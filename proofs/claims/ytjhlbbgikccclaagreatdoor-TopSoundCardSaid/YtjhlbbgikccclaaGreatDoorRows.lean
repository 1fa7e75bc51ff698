/-
  NARROWER THAN 'FOR EVERY INPUT', by the rows' own cells (each row's printed sentence says how): TopDiffs: laid · TopSound: laid · TopSoundBatch: laid · TreeForgets: laid · TreeShows: laid · TreeRuns: laid · TreeApplies: laid · TreeClones: laid · TreeNil: laid.
  DERIVED. THE GIVEN ROWS OF THIS SEAT. 9 by the template 'for every input the law returns true; each argument reads behind the call as it read before'; 0 by the template 'total and deterministic' (their statements: YtjhlbbgikccclaaGreatDoorTotals.lean).
  GIVEN WITH THE SEED: the statements are not yours to turn. If you find one false, say at which input.
  Laid BY PROGRAM, IN A SANDBOX (cutbox-rows.mjs): the forced cells as the released guide's own fill.sh prints them over the translation a814ded1ab0fb2ab… (all of the seat's roots in one cut). By AI agents, Wed Nov 11 2026. No macro, syntax, notation, axiom, sorry.
-/
import Derived.Test.YtjhlbbgikccclaaGreatDoorChecked
import GoSem.Claim
import GoSem.ClaimJoined
import GoSem.ClaimMapViews
import Derived.JoinedTies
import Derived.KernelRfl
namespace Go.Proofs.YtjhlbbgikccclaaGreatDoor
/- THE CELL 'sum', in the pinned program and in every row, IS THE sha256 OF THE DUMP (.gsa) THAT YtjhlbbgikccclaaGreatDoorProg.lean LOADS. Nothing in Lean hashes anything: it is a label: what it is worth is what the hold of that sum in a sandbox is worth. -/
noncomputable def Tryz.pinned : Pinned := { name := "ytjhlbbgikccclaagreatdoor", sum := "a814ded1ab0fb2abcdaf6122d2f05f61085bd5d84db1d15ef98fde48fb754492", checked := Tryz.checked }
namespace Rows
def none {H : Type} : Left H := { results := [], args := [] }

/- WHAT THE LISTED PACKAGE-LEVEL VARIABLES READ AS WHEN THE CALL BEGINS. Each datum BY PROGRAM (the guide's laid-datum.mjs) off the statement by which the dump's own 'gosem.cut.vars' lays the variable. In a bare row this is a premise. The card (YtjhlbbgikccclaaGreatDoorCards.lean) ties it to the program's text. -/
def laid_errors_errorType {H : Type} : DataW H := .iface "internal/reflectlite.rtype" (.agg [.ptr (.lit (.string [101, 114, 114, 111, 114]))])
def laid_sparsetree_sha_rounds {H : Type} : DataW H := .agg [.lit (.int .u32 1116352408), .lit (.int .u32 1899447441), .lit (.int .u32 3049323471), .lit (.int .u32 3921009573), .lit (.int .u32 961987163), .lit (.int .u32 1508970993), .lit (.int .u32 2453635748), .lit (.int .u32 2870763221), .lit (.int .u32 3624381080), .lit (.int .u32 310598401), .lit (.int .u32 607225278), .lit (.int .u32 1426881987), .lit (.int .u32 1925078388), .lit (.int .u32 2162078206), .lit (.int .u32 2614888103), .lit (.int .u32 3248222580), .lit (.int .u32 3835390401), .lit (.int .u32 4022224774), .lit (.int .u32 264347078), .lit (.int .u32 604807628), .lit (.int .u32 770255983), .lit (.int .u32 1249150122), .lit (.int .u32 1555081692), .lit (.int .u32 1996064986), .lit (.int .u32 2554220882), .lit (.int .u32 2821834349), .lit (.int .u32 2952996808), .lit (.int .u32 3210313671), .lit (.int .u32 3336571891), .lit (.int .u32 3584528711), .lit (.int .u32 113926993), .lit (.int .u32 338241895), .lit (.int .u32 666307205), .lit (.int .u32 773529912), .lit (.int .u32 1294757372), .lit (.int .u32 1396182291), .lit (.int .u32 1695183700), .lit (.int .u32 1986661051), .lit (.int .u32 2177026350), .lit (.int .u32 2456956037), .lit (.int .u32 2730485921), .lit (.int .u32 2820302411), .lit (.int .u32 3259730800), .lit (.int .u32 3345764771), .lit (.int .u32 3516065817), .lit (.int .u32 3600352804), .lit (.int .u32 4094571909), .lit (.int .u32 275423344), .lit (.int .u32 430227734), .lit (.int .u32 506948616), .lit (.int .u32 659060556), .lit (.int .u32 883997877), .lit (.int .u32 958139571), .lit (.int .u32 1322822218), .lit (.int .u32 1537002063), .lit (.int .u32 1747873779), .lit (.int .u32 1955562222), .lit (.int .u32 2024104815), .lit (.int .u32 2227730452), .lit (.int .u32 2361852424), .lit (.int .u32 2428436474), .lit (.int .u32 2756734187), .lit (.int .u32 3204031479), .lit (.int .u32 3329325298)]

/-- 'sparsetreetop.TopDiffs': WHATEVER THE INPUT: true; the input reads as it did. -/
def topDiffsSpec : ChangeSpec := { name := "topDiffs", fn := fun _ => fun
  | [d1, d2, d3] => { results := [.lit (.bool true)], args := [d1, d2, d3] }
  | _ => none }
def topDiffsRow : OpenClaim := { program := "ytjhlbbgikccclaagreatdoor", sum := "a814ded1ab0fb2abcdaf6122d2f05f61085bd5d84db1d15ef98fde48fb754492", func := "sparsetree/sparsetreetop.TopDiffs", spec := "topDiffs", inPlace := ["internal/reflectlite.ValueOf", "(internal/reflectlite.Value).Type", "(internal/reflectlite.Value).IsNil", "internal/reflectlite.TypeOf", "(internal/reflectlite.Value).Elem", "(internal/reflectlite.Value).Set", "internal/bytealg.Compare", "slices.overlaps[sparsetree/batch.Change]"], unfollowed := true, recurses := true, named := ["sparsetree/sha.rounds", "errors.errorType"], plainKeys := false, apart := false, laid := [("errors.errorType", laid_errors_errorType), ("sparsetree/sha.rounds", laid_sparsetree_sha_rounds)] }
def TopDiffsSaid : Prop := topDiffsRow.holds Tryz.pinned (OpenSpec.ofChange topDiffsSpec)

/-- ITS FALSE NEIGHBOUR: 'it returns false'. Refute it at one input. -/
def topDiffsWrong : ChangeSpec := { name := "topDiffs", fn := fun _ => fun
  | [d1, d2, d3] => { results := [.lit (.bool false)], args := [d1, d2, d3] }
  | _ => none }
def TopDiffsWrongFalsely : Prop := topDiffsRow.holds Tryz.pinned (OpenSpec.ofChange topDiffsWrong)

/-- 'sparsetreetop.TopSound': WHATEVER THE INPUT: true; the input reads as it did. -/
def topSoundSpec : ChangeSpec := { name := "topSound", fn := fun _ => fun
  | [d1, d2, d3] => { results := [.lit (.bool true)], args := [d1, d2, d3] }
  | _ => none }
def topSoundRow : OpenClaim := { program := "ytjhlbbgikccclaagreatdoor", sum := "a814ded1ab0fb2abcdaf6122d2f05f61085bd5d84db1d15ef98fde48fb754492", func := "sparsetree/sparsetreetop.TopSound", spec := "topSound", inPlace := ["internal/reflectlite.ValueOf", "(internal/reflectlite.Value).Type", "(internal/reflectlite.Value).IsNil", "internal/reflectlite.TypeOf", "(internal/reflectlite.Value).Elem", "(internal/reflectlite.Value).Set", "internal/bytealg.Compare", "slices.overlaps[sparsetree/batch.Change]"], unfollowed := true, recurses := true, named := ["sparsetree/sha.rounds", "errors.errorType"], plainKeys := false, apart := false, laid := [("errors.errorType", laid_errors_errorType), ("sparsetree/sha.rounds", laid_sparsetree_sha_rounds)] }
def TopSoundSaid : Prop := topSoundRow.holds Tryz.pinned (OpenSpec.ofChange topSoundSpec)

/-- ITS FALSE NEIGHBOUR: 'it returns false'. Refute it at one input. -/
def topSoundWrong : ChangeSpec := { name := "topSound", fn := fun _ => fun
  | [d1, d2, d3] => { results := [.lit (.bool false)], args := [d1, d2, d3] }
  | _ => none }
def TopSoundWrongFalsely : Prop := topSoundRow.holds Tryz.pinned (OpenSpec.ofChange topSoundWrong)

/-- 'sparsetreetop.TopSoundBatch': WHATEVER THE INPUT: true; the input reads as it did. -/
def topSoundBatchSpec : ChangeSpec := { name := "topSoundBatch", fn := fun _ => fun
  | [d1, d2, d3] => { results := [.lit (.bool true)], args := [d1, d2, d3] }
  | _ => none }
def topSoundBatchRow : OpenClaim := { program := "ytjhlbbgikccclaagreatdoor", sum := "a814ded1ab0fb2abcdaf6122d2f05f61085bd5d84db1d15ef98fde48fb754492", func := "sparsetree/sparsetreetop.TopSoundBatch", spec := "topSoundBatch", inPlace := ["internal/reflectlite.ValueOf", "(internal/reflectlite.Value).Type", "(internal/reflectlite.Value).IsNil", "internal/reflectlite.TypeOf", "(internal/reflectlite.Value).Elem", "(internal/reflectlite.Value).Set", "internal/bytealg.Compare", "slices.overlaps[sparsetree/batch.Change]"], unfollowed := true, recurses := true, named := ["sparsetree/sha.rounds", "errors.errorType"], plainKeys := false, apart := false, laid := [("errors.errorType", laid_errors_errorType), ("sparsetree/sha.rounds", laid_sparsetree_sha_rounds)] }
def TopSoundBatchSaid : Prop := topSoundBatchRow.holds Tryz.pinned (OpenSpec.ofChange topSoundBatchSpec)

/-- ITS FALSE NEIGHBOUR: 'it returns false'. Refute it at one input. -/
def topSoundBatchWrong : ChangeSpec := { name := "topSoundBatch", fn := fun _ => fun
  | [d1, d2, d3] => { results := [.lit (.bool false)], args := [d1, d2, d3] }
  | _ => none }
def TopSoundBatchWrongFalsely : Prop := topSoundBatchRow.holds Tryz.pinned (OpenSpec.ofChange topSoundBatchWrong)

/-- 'sparsetreelaw13.TreeForgets': WHATEVER THE INPUT: true; the input reads as it did. -/
def treeForgetsSpec : ChangeSpec := { name := "treeForgets", fn := fun _ => fun
  | [d1, d2] => { results := [.lit (.bool true)], args := [d1, d2] }
  | _ => none }
def treeForgetsRow : OpenClaim := { program := "ytjhlbbgikccclaagreatdoor", sum := "a814ded1ab0fb2abcdaf6122d2f05f61085bd5d84db1d15ef98fde48fb754492", func := "sparsetree/sparsetreelaw13.TreeForgets", spec := "treeForgets", inPlace := ["internal/reflectlite.ValueOf", "(internal/reflectlite.Value).Type", "(internal/reflectlite.Value).IsNil", "internal/reflectlite.TypeOf", "(internal/reflectlite.Value).Elem", "(internal/reflectlite.Value).Set", "internal/bytealg.Compare", "slices.overlaps[sparsetree/batch.Change]"], unfollowed := true, recurses := true, named := ["sparsetree/sha.rounds", "errors.errorType"], plainKeys := false, apart := false, laid := [("errors.errorType", laid_errors_errorType), ("sparsetree/sha.rounds", laid_sparsetree_sha_rounds)] }
def TreeForgetsSaid : Prop := treeForgetsRow.holds Tryz.pinned (OpenSpec.ofChange treeForgetsSpec)

/-- ITS FALSE NEIGHBOUR: 'it returns false'. Refute it at one input. -/
def treeForgetsWrong : ChangeSpec := { name := "treeForgets", fn := fun _ => fun
  | [d1, d2] => { results := [.lit (.bool false)], args := [d1, d2] }
  | _ => none }
def TreeForgetsWrongFalsely : Prop := treeForgetsRow.holds Tryz.pinned (OpenSpec.ofChange treeForgetsWrong)

/-- 'sparsetreelaw13.TreeShows': WHATEVER THE INPUT: true; the input reads as it did. -/
def treeShowsSpec : ChangeSpec := { name := "treeShows", fn := fun _ => fun
  | [d1, d2, d3] => { results := [.lit (.bool true)], args := [d1, d2, d3] }
  | _ => none }
def treeShowsRow : OpenClaim := { program := "ytjhlbbgikccclaagreatdoor", sum := "a814ded1ab0fb2abcdaf6122d2f05f61085bd5d84db1d15ef98fde48fb754492", func := "sparsetree/sparsetreelaw13.TreeShows", spec := "treeShows", inPlace := ["internal/reflectlite.ValueOf", "(internal/reflectlite.Value).Type", "(internal/reflectlite.Value).IsNil", "internal/reflectlite.TypeOf", "(internal/reflectlite.Value).Elem", "(internal/reflectlite.Value).Set", "internal/bytealg.Compare", "slices.overlaps[sparsetree/batch.Change]"], unfollowed := true, recurses := true, named := ["sparsetree/sha.rounds", "errors.errorType"], plainKeys := false, apart := false, laid := [("errors.errorType", laid_errors_errorType), ("sparsetree/sha.rounds", laid_sparsetree_sha_rounds)] }
def TreeShowsSaid : Prop := treeShowsRow.holds Tryz.pinned (OpenSpec.ofChange treeShowsSpec)

/-- ITS FALSE NEIGHBOUR: 'it returns false'. Refute it at one input. -/
def treeShowsWrong : ChangeSpec := { name := "treeShows", fn := fun _ => fun
  | [d1, d2, d3] => { results := [.lit (.bool false)], args := [d1, d2, d3] }
  | _ => none }
def TreeShowsWrongFalsely : Prop := treeShowsRow.holds Tryz.pinned (OpenSpec.ofChange treeShowsWrong)

/-- 'sparsetreelaw13.TreeRuns': WHATEVER THE INPUT: true; the input reads as it did. -/
def treeRunsSpec : ChangeSpec := { name := "treeRuns", fn := fun _ => fun
  | [d1, d2] => { results := [.lit (.bool true)], args := [d1, d2] }
  | _ => none }
def treeRunsRow : OpenClaim := { program := "ytjhlbbgikccclaagreatdoor", sum := "a814ded1ab0fb2abcdaf6122d2f05f61085bd5d84db1d15ef98fde48fb754492", func := "sparsetree/sparsetreelaw13.TreeRuns", spec := "treeRuns", inPlace := ["internal/reflectlite.ValueOf", "(internal/reflectlite.Value).Type", "(internal/reflectlite.Value).IsNil", "internal/reflectlite.TypeOf", "(internal/reflectlite.Value).Elem", "(internal/reflectlite.Value).Set", "internal/bytealg.Compare", "slices.overlaps[sparsetree/batch.Change]"], unfollowed := true, recurses := true, named := ["sparsetree/sha.rounds", "errors.errorType"], plainKeys := false, apart := false, laid := [("errors.errorType", laid_errors_errorType), ("sparsetree/sha.rounds", laid_sparsetree_sha_rounds)] }
def TreeRunsSaid : Prop := treeRunsRow.holds Tryz.pinned (OpenSpec.ofChange treeRunsSpec)

/-- ITS FALSE NEIGHBOUR: 'it returns false'. Refute it at one input. -/
def treeRunsWrong : ChangeSpec := { name := "treeRuns", fn := fun _ => fun
  | [d1, d2] => { results := [.lit (.bool false)], args := [d1, d2] }
  | _ => none }
def TreeRunsWrongFalsely : Prop := treeRunsRow.holds Tryz.pinned (OpenSpec.ofChange treeRunsWrong)

/-- 'sparsetreelaw13.TreeApplies': WHATEVER THE INPUT: true; the input reads as it did. -/
def treeAppliesSpec : ChangeSpec := { name := "treeApplies", fn := fun _ => fun
  | [d1, d2, d3] => { results := [.lit (.bool true)], args := [d1, d2, d3] }
  | _ => none }
def treeAppliesRow : OpenClaim := { program := "ytjhlbbgikccclaagreatdoor", sum := "a814ded1ab0fb2abcdaf6122d2f05f61085bd5d84db1d15ef98fde48fb754492", func := "sparsetree/sparsetreelaw13.TreeApplies", spec := "treeApplies", inPlace := ["internal/reflectlite.ValueOf", "(internal/reflectlite.Value).Type", "(internal/reflectlite.Value).IsNil", "internal/reflectlite.TypeOf", "(internal/reflectlite.Value).Elem", "(internal/reflectlite.Value).Set", "internal/bytealg.Compare", "slices.overlaps[sparsetree/batch.Change]"], unfollowed := true, recurses := true, named := ["sparsetree/sha.rounds", "errors.errorType"], plainKeys := false, apart := false, laid := [("errors.errorType", laid_errors_errorType), ("sparsetree/sha.rounds", laid_sparsetree_sha_rounds)] }
def TreeAppliesSaid : Prop := treeAppliesRow.holds Tryz.pinned (OpenSpec.ofChange treeAppliesSpec)

/-- ITS FALSE NEIGHBOUR: 'it returns false'. Refute it at one input. -/
def treeAppliesWrong : ChangeSpec := { name := "treeApplies", fn := fun _ => fun
  | [d1, d2, d3] => { results := [.lit (.bool false)], args := [d1, d2, d3] }
  | _ => none }
def TreeAppliesWrongFalsely : Prop := treeAppliesRow.holds Tryz.pinned (OpenSpec.ofChange treeAppliesWrong)

/-- 'sparsetreelaw13.TreeClones': WHATEVER THE INPUT: true; the input reads as it did. -/
def treeClonesSpec : ChangeSpec := { name := "treeClones", fn := fun _ => fun
  | [d1, d2, d3] => { results := [.lit (.bool true)], args := [d1, d2, d3] }
  | _ => none }
def treeClonesRow : OpenClaim := { program := "ytjhlbbgikccclaagreatdoor", sum := "a814ded1ab0fb2abcdaf6122d2f05f61085bd5d84db1d15ef98fde48fb754492", func := "sparsetree/sparsetreelaw13.TreeClones", spec := "treeClones", inPlace := ["internal/reflectlite.ValueOf", "(internal/reflectlite.Value).Type", "(internal/reflectlite.Value).IsNil", "internal/reflectlite.TypeOf", "(internal/reflectlite.Value).Elem", "(internal/reflectlite.Value).Set", "internal/bytealg.Compare", "slices.overlaps[sparsetree/batch.Change]"], unfollowed := true, recurses := true, named := ["sparsetree/sha.rounds", "errors.errorType"], plainKeys := false, apart := false, laid := [("errors.errorType", laid_errors_errorType), ("sparsetree/sha.rounds", laid_sparsetree_sha_rounds)] }
def TreeClonesSaid : Prop := treeClonesRow.holds Tryz.pinned (OpenSpec.ofChange treeClonesSpec)

/-- ITS FALSE NEIGHBOUR: 'it returns false'. Refute it at one input. -/
def treeClonesWrong : ChangeSpec := { name := "treeClones", fn := fun _ => fun
  | [d1, d2, d3] => { results := [.lit (.bool false)], args := [d1, d2, d3] }
  | _ => none }
def TreeClonesWrongFalsely : Prop := treeClonesRow.holds Tryz.pinned (OpenSpec.ofChange treeClonesWrong)

/-- 'sparsetreelaw13.TreeNil': WHATEVER THE INPUT: true; the input reads as it did. -/
def treeNilSpec : ChangeSpec := { name := "treeNil", fn := fun _ => fun
  | [d1, d2] => { results := [.lit (.bool true)], args := [d1, d2] }
  | _ => none }
def treeNilRow : OpenClaim := { program := "ytjhlbbgikccclaagreatdoor", sum := "a814ded1ab0fb2abcdaf6122d2f05f61085bd5d84db1d15ef98fde48fb754492", func := "sparsetree/sparsetreelaw13.TreeNil", spec := "treeNil", inPlace := ["internal/reflectlite.ValueOf", "(internal/reflectlite.Value).Type", "(internal/reflectlite.Value).IsNil", "internal/reflectlite.TypeOf", "(internal/reflectlite.Value).Elem", "(internal/reflectlite.Value).Set", "internal/bytealg.Compare", "slices.overlaps[sparsetree/batch.Change]"], unfollowed := true, recurses := true, named := ["sparsetree/sha.rounds", "errors.errorType"], plainKeys := false, apart := false, laid := [("errors.errorType", laid_errors_errorType), ("sparsetree/sha.rounds", laid_sparsetree_sha_rounds)] }
def TreeNilSaid : Prop := treeNilRow.holds Tryz.pinned (OpenSpec.ofChange treeNilSpec)

/-- ITS FALSE NEIGHBOUR: 'it returns false'. Refute it at one input. -/
def treeNilWrong : ChangeSpec := { name := "treeNil", fn := fun _ => fun
  | [d1, d2] => { results := [.lit (.bool false)], args := [d1, d2] }
  | _ => none }
def TreeNilWrongFalsely : Prop := treeNilRow.holds Tryz.pinned (OpenSpec.ofChange treeNilWrong)

/- THE SECOND FORM. 'bulk': how many values and letters a reading holds, each counted each time it is reached (what is shared counts as often as it is met; a slice's spare places count too). A statement '..UptoSaid' is the law's where the arguments, and the package variables that the reading takes, are together of bulk at most 1048576: NARROWER than '..Said'. Prove '..Said' where nothing that the law and all that it calls make is longer than what came in: it says more and counts as full. Else prove '..UptoSaid'. A law counts once. -/
mutual
def uptoBulk {H : Type} : DataW H → Nat
  | .lit (.string bytes) => bytes.length + 1
  | .lit _ => 1
  | .nil => 1
  | .ptr d => uptoBulk d + 1
  | .slice elems spare => uptoBulkAll elems + uptoBulkAll spare + 1
  | .agg parts => uptoBulkAll parts + 1
  | .iface _ d => uptoBulk d + 1
  | .map entries => uptoBulkEntries entries + 1
  | .held _ => 1
def uptoBulkAll {H : Type} : List (DataW H) → Nat
  | [] => 0
  | d :: r => uptoBulk d + uptoBulkAll r
def uptoBulkEntries {H : Type} : List (Lit × DataW H) → Nat
  | [] => 0
  | x :: r => uptoBulkEntry x + uptoBulkEntries r
def uptoBulkEntry {H : Type} : Lit × DataW H → Nat
  | (.string bytes, d) => bytes.length + uptoBulk d + 1
  | (_, d) => uptoBulk d + 1
 end
def uptoSmall : (H : Type) → List (DataW H) → Bool := fun _ ds => decide (uptoBulkAll ds ≤ 1048576)
def OpenSpec.upto (s : _root_.Go.ChangeSpec) : _root_.Go.OpenSpec := { _root_.Go.OpenSpec.ofChange s with cond := some uptoSmall }

/-- 'sparsetreetop.TopDiffs', WHERE WHAT IT READS IS OF BULK AT MOST 1048576: true; the input reads as it did. -/
def topDiffsUptoRow : OpenClaim := { program := "ytjhlbbgikccclaagreatdoor", sum := "a814ded1ab0fb2abcdaf6122d2f05f61085bd5d84db1d15ef98fde48fb754492", func := "sparsetree/sparsetreetop.TopDiffs", spec := "topDiffs", inPlace := ["internal/reflectlite.ValueOf", "(internal/reflectlite.Value).Type", "(internal/reflectlite.Value).IsNil", "internal/reflectlite.TypeOf", "(internal/reflectlite.Value).Elem", "(internal/reflectlite.Value).Set", "internal/bytealg.Compare", "slices.overlaps[sparsetree/batch.Change]"], unfollowed := true, recurses := true, named := ["sparsetree/sha.rounds", "errors.errorType"], plainKeys := false, apart := false, laid := [("errors.errorType", laid_errors_errorType), ("sparsetree/sha.rounds", laid_sparsetree_sha_rounds)], narrowed := true }
def TopDiffsUptoSaid : Prop := topDiffsUptoRow.holds Tryz.pinned (OpenSpec.upto topDiffsSpec)

/-- 'sparsetreetop.TopSound', WHERE WHAT IT READS IS OF BULK AT MOST 1048576: true; the input reads as it did. -/
def topSoundUptoRow : OpenClaim := { program := "ytjhlbbgikccclaagreatdoor", sum := "a814ded1ab0fb2abcdaf6122d2f05f61085bd5d84db1d15ef98fde48fb754492", func := "sparsetree/sparsetreetop.TopSound", spec := "topSound", inPlace := ["internal/reflectlite.ValueOf", "(internal/reflectlite.Value).Type", "(internal/reflectlite.Value).IsNil", "internal/reflectlite.TypeOf", "(internal/reflectlite.Value).Elem", "(internal/reflectlite.Value).Set", "internal/bytealg.Compare", "slices.overlaps[sparsetree/batch.Change]"], unfollowed := true, recurses := true, named := ["sparsetree/sha.rounds", "errors.errorType"], plainKeys := false, apart := false, laid := [("errors.errorType", laid_errors_errorType), ("sparsetree/sha.rounds", laid_sparsetree_sha_rounds)], narrowed := true }
def TopSoundUptoSaid : Prop := topSoundUptoRow.holds Tryz.pinned (OpenSpec.upto topSoundSpec)

/-- 'sparsetreetop.TopSoundBatch', WHERE WHAT IT READS IS OF BULK AT MOST 1048576: true; the input reads as it did. -/
def topSoundBatchUptoRow : OpenClaim := { program := "ytjhlbbgikccclaagreatdoor", sum := "a814ded1ab0fb2abcdaf6122d2f05f61085bd5d84db1d15ef98fde48fb754492", func := "sparsetree/sparsetreetop.TopSoundBatch", spec := "topSoundBatch", inPlace := ["internal/reflectlite.ValueOf", "(internal/reflectlite.Value).Type", "(internal/reflectlite.Value).IsNil", "internal/reflectlite.TypeOf", "(internal/reflectlite.Value).Elem", "(internal/reflectlite.Value).Set", "internal/bytealg.Compare", "slices.overlaps[sparsetree/batch.Change]"], unfollowed := true, recurses := true, named := ["sparsetree/sha.rounds", "errors.errorType"], plainKeys := false, apart := false, laid := [("errors.errorType", laid_errors_errorType), ("sparsetree/sha.rounds", laid_sparsetree_sha_rounds)], narrowed := true }
def TopSoundBatchUptoSaid : Prop := topSoundBatchUptoRow.holds Tryz.pinned (OpenSpec.upto topSoundBatchSpec)

/-- 'sparsetreelaw13.TreeForgets', WHERE WHAT IT READS IS OF BULK AT MOST 1048576: true; the input reads as it did. -/
def treeForgetsUptoRow : OpenClaim := { program := "ytjhlbbgikccclaagreatdoor", sum := "a814ded1ab0fb2abcdaf6122d2f05f61085bd5d84db1d15ef98fde48fb754492", func := "sparsetree/sparsetreelaw13.TreeForgets", spec := "treeForgets", inPlace := ["internal/reflectlite.ValueOf", "(internal/reflectlite.Value).Type", "(internal/reflectlite.Value).IsNil", "internal/reflectlite.TypeOf", "(internal/reflectlite.Value).Elem", "(internal/reflectlite.Value).Set", "internal/bytealg.Compare", "slices.overlaps[sparsetree/batch.Change]"], unfollowed := true, recurses := true, named := ["sparsetree/sha.rounds", "errors.errorType"], plainKeys := false, apart := false, laid := [("errors.errorType", laid_errors_errorType), ("sparsetree/sha.rounds", laid_sparsetree_sha_rounds)], narrowed := true }
def TreeForgetsUptoSaid : Prop := treeForgetsUptoRow.holds Tryz.pinned (OpenSpec.upto treeForgetsSpec)

/-- 'sparsetreelaw13.TreeShows', WHERE WHAT IT READS IS OF BULK AT MOST 1048576: true; the input reads as it did. -/
def treeShowsUptoRow : OpenClaim := { program := "ytjhlbbgikccclaagreatdoor", sum := "a814ded1ab0fb2abcdaf6122d2f05f61085bd5d84db1d15ef98fde48fb754492", func := "sparsetree/sparsetreelaw13.TreeShows", spec := "treeShows", inPlace := ["internal/reflectlite.ValueOf", "(internal/reflectlite.Value).Type", "(internal/reflectlite.Value).IsNil", "internal/reflectlite.TypeOf", "(internal/reflectlite.Value).Elem", "(internal/reflectlite.Value).Set", "internal/bytealg.Compare", "slices.overlaps[sparsetree/batch.Change]"], unfollowed := true, recurses := true, named := ["sparsetree/sha.rounds", "errors.errorType"], plainKeys := false, apart := false, laid := [("errors.errorType", laid_errors_errorType), ("sparsetree/sha.rounds", laid_sparsetree_sha_rounds)], narrowed := true }
def TreeShowsUptoSaid : Prop := treeShowsUptoRow.holds Tryz.pinned (OpenSpec.upto treeShowsSpec)

/-- 'sparsetreelaw13.TreeRuns', WHERE WHAT IT READS IS OF BULK AT MOST 1048576: true; the input reads as it did. -/
def treeRunsUptoRow : OpenClaim := { program := "ytjhlbbgikccclaagreatdoor", sum := "a814ded1ab0fb2abcdaf6122d2f05f61085bd5d84db1d15ef98fde48fb754492", func := "sparsetree/sparsetreelaw13.TreeRuns", spec := "treeRuns", inPlace := ["internal/reflectlite.ValueOf", "(internal/reflectlite.Value).Type", "(internal/reflectlite.Value).IsNil", "internal/reflectlite.TypeOf", "(internal/reflectlite.Value).Elem", "(internal/reflectlite.Value).Set", "internal/bytealg.Compare", "slices.overlaps[sparsetree/batch.Change]"], unfollowed := true, recurses := true, named := ["sparsetree/sha.rounds", "errors.errorType"], plainKeys := false, apart := false, laid := [("errors.errorType", laid_errors_errorType), ("sparsetree/sha.rounds", laid_sparsetree_sha_rounds)], narrowed := true }
def TreeRunsUptoSaid : Prop := treeRunsUptoRow.holds Tryz.pinned (OpenSpec.upto treeRunsSpec)

/-- 'sparsetreelaw13.TreeApplies', WHERE WHAT IT READS IS OF BULK AT MOST 1048576: true; the input reads as it did. -/
def treeAppliesUptoRow : OpenClaim := { program := "ytjhlbbgikccclaagreatdoor", sum := "a814ded1ab0fb2abcdaf6122d2f05f61085bd5d84db1d15ef98fde48fb754492", func := "sparsetree/sparsetreelaw13.TreeApplies", spec := "treeApplies", inPlace := ["internal/reflectlite.ValueOf", "(internal/reflectlite.Value).Type", "(internal/reflectlite.Value).IsNil", "internal/reflectlite.TypeOf", "(internal/reflectlite.Value).Elem", "(internal/reflectlite.Value).Set", "internal/bytealg.Compare", "slices.overlaps[sparsetree/batch.Change]"], unfollowed := true, recurses := true, named := ["sparsetree/sha.rounds", "errors.errorType"], plainKeys := false, apart := false, laid := [("errors.errorType", laid_errors_errorType), ("sparsetree/sha.rounds", laid_sparsetree_sha_rounds)], narrowed := true }
def TreeAppliesUptoSaid : Prop := treeAppliesUptoRow.holds Tryz.pinned (OpenSpec.upto treeAppliesSpec)

/-- 'sparsetreelaw13.TreeClones', WHERE WHAT IT READS IS OF BULK AT MOST 1048576: true; the input reads as it did. -/
def treeClonesUptoRow : OpenClaim := { program := "ytjhlbbgikccclaagreatdoor", sum := "a814ded1ab0fb2abcdaf6122d2f05f61085bd5d84db1d15ef98fde48fb754492", func := "sparsetree/sparsetreelaw13.TreeClones", spec := "treeClones", inPlace := ["internal/reflectlite.ValueOf", "(internal/reflectlite.Value).Type", "(internal/reflectlite.Value).IsNil", "internal/reflectlite.TypeOf", "(internal/reflectlite.Value).Elem", "(internal/reflectlite.Value).Set", "internal/bytealg.Compare", "slices.overlaps[sparsetree/batch.Change]"], unfollowed := true, recurses := true, named := ["sparsetree/sha.rounds", "errors.errorType"], plainKeys := false, apart := false, laid := [("errors.errorType", laid_errors_errorType), ("sparsetree/sha.rounds", laid_sparsetree_sha_rounds)], narrowed := true }
def TreeClonesUptoSaid : Prop := treeClonesUptoRow.holds Tryz.pinned (OpenSpec.upto treeClonesSpec)

/-- 'sparsetreelaw13.TreeNil', WHERE WHAT IT READS IS OF BULK AT MOST 1048576: true; the input reads as it did. -/
def treeNilUptoRow : OpenClaim := { program := "ytjhlbbgikccclaagreatdoor", sum := "a814ded1ab0fb2abcdaf6122d2f05f61085bd5d84db1d15ef98fde48fb754492", func := "sparsetree/sparsetreelaw13.TreeNil", spec := "treeNil", inPlace := ["internal/reflectlite.ValueOf", "(internal/reflectlite.Value).Type", "(internal/reflectlite.Value).IsNil", "internal/reflectlite.TypeOf", "(internal/reflectlite.Value).Elem", "(internal/reflectlite.Value).Set", "internal/bytealg.Compare", "slices.overlaps[sparsetree/batch.Change]"], unfollowed := true, recurses := true, named := ["sparsetree/sha.rounds", "errors.errorType"], plainKeys := false, apart := false, laid := [("errors.errorType", laid_errors_errorType), ("sparsetree/sha.rounds", laid_sparsetree_sha_rounds)], narrowed := true }
def TreeNilUptoSaid : Prop := treeNilUptoRow.holds Tryz.pinned (OpenSpec.upto treeNilSpec)

end Rows
end Go.Proofs.YtjhlbbgikccclaaGreatDoor
