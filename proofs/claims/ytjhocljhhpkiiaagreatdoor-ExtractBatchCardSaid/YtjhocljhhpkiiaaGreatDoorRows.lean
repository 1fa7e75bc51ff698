/-
  NARROWER THAN 'FOR EVERY INPUT', by the rows' own cells (each row's printed sentence says how): ExtractTrue: laid · ExtractWays: laid · ExtractCollides: laid · ExtractSingle: laid · ExtractBatch: laid · ExtractSound: laid · MverifyExplains: laid · MverifyAccepts: laid · MverifyChecks: laid · MverifyClaims: laid · MverifyCompletes: laid · MverifyRefuses: laid.
  DERIVED. THE GIVEN ROWS OF THIS SEAT. 12 by the template 'for every input the law returns true; each argument reads behind the call as it read before'; 0 by the template 'total and deterministic' (their statements: YtjhocljhhpkiiaaGreatDoorTotals.lean).
  GIVEN WITH THE SEED: the statements are not yours to turn. If you find one false, say at which input.
  Laid BY PROGRAM, IN A SANDBOX (cutbox-rows.mjs): the forced cells as the released guide's own fill.sh prints them over the translation 9903d5d12ae09a35… (all of the seat's roots in one cut). By AI agents, Wed Nov 11 2026. No macro, syntax, notation, axiom, sorry.
-/
import Derived.Test.YtjhocljhhpkiiaaGreatDoorChecked
import GoSem.Claim
import GoSem.ClaimJoined
import GoSem.ClaimMapViews
import Derived.JoinedTies
import Derived.KernelRfl
namespace Go.Proofs.YtjhocljhhpkiiaaGreatDoor
/- THE CELL 'sum', in the pinned program and in every row, IS THE sha256 OF THE DUMP (.gsa) THAT YtjhocljhhpkiiaaGreatDoorProg.lean LOADS. Nothing in Lean hashes anything: it is a label: what it is worth is what the hold of that sum in a sandbox is worth. -/
noncomputable def Tryz.pinned : Pinned := { name := "ytjhocljhhpkiiaagreatdoor", sum := "9903d5d12ae09a35cc05cdd54c9691985432bdd8e1adfd0c4798403bfda4afb8", checked := Tryz.checked }
namespace Rows
def none {H : Type} : Left H := { results := [], args := [] }

/- WHAT THE LISTED PACKAGE-LEVEL VARIABLES READ AS WHEN THE CALL BEGINS. Each datum BY PROGRAM (the guide's laid-datum.mjs) off the statement by which the dump's own 'gosem.cut.vars' lays the variable. In a bare row this is a premise. The card (YtjhocljhhpkiiaaGreatDoorCards.lean) ties it to the program's text. -/
def laid_sparsetree_sha_rounds {H : Type} : DataW H := .agg [.lit (.int .u32 1116352408), .lit (.int .u32 1899447441), .lit (.int .u32 3049323471), .lit (.int .u32 3921009573), .lit (.int .u32 961987163), .lit (.int .u32 1508970993), .lit (.int .u32 2453635748), .lit (.int .u32 2870763221), .lit (.int .u32 3624381080), .lit (.int .u32 310598401), .lit (.int .u32 607225278), .lit (.int .u32 1426881987), .lit (.int .u32 1925078388), .lit (.int .u32 2162078206), .lit (.int .u32 2614888103), .lit (.int .u32 3248222580), .lit (.int .u32 3835390401), .lit (.int .u32 4022224774), .lit (.int .u32 264347078), .lit (.int .u32 604807628), .lit (.int .u32 770255983), .lit (.int .u32 1249150122), .lit (.int .u32 1555081692), .lit (.int .u32 1996064986), .lit (.int .u32 2554220882), .lit (.int .u32 2821834349), .lit (.int .u32 2952996808), .lit (.int .u32 3210313671), .lit (.int .u32 3336571891), .lit (.int .u32 3584528711), .lit (.int .u32 113926993), .lit (.int .u32 338241895), .lit (.int .u32 666307205), .lit (.int .u32 773529912), .lit (.int .u32 1294757372), .lit (.int .u32 1396182291), .lit (.int .u32 1695183700), .lit (.int .u32 1986661051), .lit (.int .u32 2177026350), .lit (.int .u32 2456956037), .lit (.int .u32 2730485921), .lit (.int .u32 2820302411), .lit (.int .u32 3259730800), .lit (.int .u32 3345764771), .lit (.int .u32 3516065817), .lit (.int .u32 3600352804), .lit (.int .u32 4094571909), .lit (.int .u32 275423344), .lit (.int .u32 430227734), .lit (.int .u32 506948616), .lit (.int .u32 659060556), .lit (.int .u32 883997877), .lit (.int .u32 958139571), .lit (.int .u32 1322822218), .lit (.int .u32 1537002063), .lit (.int .u32 1747873779), .lit (.int .u32 1955562222), .lit (.int .u32 2024104815), .lit (.int .u32 2227730452), .lit (.int .u32 2361852424), .lit (.int .u32 2428436474), .lit (.int .u32 2756734187), .lit (.int .u32 3204031479), .lit (.int .u32 3329325298)]
def laid_errors_errorType {H : Type} : DataW H := .iface "internal/reflectlite.rtype" (.agg [.ptr (.lit (.string [101, 114, 114, 111, 114]))])

/-- 'sparsetreelaw22.ExtractTrue': WHATEVER THE INPUT: true; the input reads as it did. -/
def extractTrueSpec : ChangeSpec := { name := "extractTrue", fn := fun _ => fun
  | [d1, d2, d3] => { results := [.lit (.bool true)], args := [d1, d2, d3] }
  | _ => none }
def extractTrueRow : OpenClaim := { program := "ytjhocljhhpkiiaagreatdoor", sum := "9903d5d12ae09a35cc05cdd54c9691985432bdd8e1adfd0c4798403bfda4afb8", func := "sparsetree/sparsetreelaw22.ExtractTrue", spec := "extractTrue", inPlace := ["internal/bytealg.Compare"], unfollowed := true, recurses := true, named := ["sparsetree/sha.rounds"], apart := false, laid := [("sparsetree/sha.rounds", laid_sparsetree_sha_rounds)] }
def ExtractTrueSaid : Prop := extractTrueRow.holds Tryz.pinned (OpenSpec.ofChange extractTrueSpec)

/-- ITS FALSE NEIGHBOUR: 'it returns false'. Refute it at one input. -/
def extractTrueWrong : ChangeSpec := { name := "extractTrue", fn := fun _ => fun
  | [d1, d2, d3] => { results := [.lit (.bool false)], args := [d1, d2, d3] }
  | _ => none }
def ExtractTrueWrongFalsely : Prop := extractTrueRow.holds Tryz.pinned (OpenSpec.ofChange extractTrueWrong)

/-- 'sparsetreelaw22.ExtractWays': WHATEVER THE INPUT: true; the input reads as it did. -/
def extractWaysSpec : ChangeSpec := { name := "extractWays", fn := fun _ => fun
  | [d1, d2, d3] => { results := [.lit (.bool true)], args := [d1, d2, d3] }
  | _ => none }
def extractWaysRow : OpenClaim := { program := "ytjhocljhhpkiiaagreatdoor", sum := "9903d5d12ae09a35cc05cdd54c9691985432bdd8e1adfd0c4798403bfda4afb8", func := "sparsetree/sparsetreelaw22.ExtractWays", spec := "extractWays", inPlace := ["internal/bytealg.Compare"], unfollowed := true, recurses := true, named := ["sparsetree/sha.rounds"], apart := false, laid := [("sparsetree/sha.rounds", laid_sparsetree_sha_rounds)] }
def ExtractWaysSaid : Prop := extractWaysRow.holds Tryz.pinned (OpenSpec.ofChange extractWaysSpec)

/-- ITS FALSE NEIGHBOUR: 'it returns false'. Refute it at one input. -/
def extractWaysWrong : ChangeSpec := { name := "extractWays", fn := fun _ => fun
  | [d1, d2, d3] => { results := [.lit (.bool false)], args := [d1, d2, d3] }
  | _ => none }
def ExtractWaysWrongFalsely : Prop := extractWaysRow.holds Tryz.pinned (OpenSpec.ofChange extractWaysWrong)

/-- 'sparsetreelaw22.ExtractCollides': WHATEVER THE INPUT: true; the input reads as it did. -/
def extractCollidesSpec : ChangeSpec := { name := "extractCollides", fn := fun _ => fun
  | [d1, d2, d3] => { results := [.lit (.bool true)], args := [d1, d2, d3] }
  | _ => none }
def extractCollidesRow : OpenClaim := { program := "ytjhocljhhpkiiaagreatdoor", sum := "9903d5d12ae09a35cc05cdd54c9691985432bdd8e1adfd0c4798403bfda4afb8", func := "sparsetree/sparsetreelaw22.ExtractCollides", spec := "extractCollides", inPlace := ["internal/bytealg.Compare"], unfollowed := true, recurses := true, named := ["sparsetree/sha.rounds"], apart := false, laid := [("sparsetree/sha.rounds", laid_sparsetree_sha_rounds)] }
def ExtractCollidesSaid : Prop := extractCollidesRow.holds Tryz.pinned (OpenSpec.ofChange extractCollidesSpec)

/-- ITS FALSE NEIGHBOUR: 'it returns false'. Refute it at one input. -/
def extractCollidesWrong : ChangeSpec := { name := "extractCollides", fn := fun _ => fun
  | [d1, d2, d3] => { results := [.lit (.bool false)], args := [d1, d2, d3] }
  | _ => none }
def ExtractCollidesWrongFalsely : Prop := extractCollidesRow.holds Tryz.pinned (OpenSpec.ofChange extractCollidesWrong)

/-- 'sparsetreelaw22.ExtractSingle': WHATEVER THE INPUT: true; the input reads as it did. -/
def extractSingleSpec : ChangeSpec := { name := "extractSingle", fn := fun _ => fun
  | [d1, d2, d3] => { results := [.lit (.bool true)], args := [d1, d2, d3] }
  | _ => none }
def extractSingleRow : OpenClaim := { program := "ytjhocljhhpkiiaagreatdoor", sum := "9903d5d12ae09a35cc05cdd54c9691985432bdd8e1adfd0c4798403bfda4afb8", func := "sparsetree/sparsetreelaw22.ExtractSingle", spec := "extractSingle", inPlace := ["internal/bytealg.Compare"], unfollowed := true, recurses := true, named := ["sparsetree/sha.rounds"], apart := false, laid := [("sparsetree/sha.rounds", laid_sparsetree_sha_rounds)] }
def ExtractSingleSaid : Prop := extractSingleRow.holds Tryz.pinned (OpenSpec.ofChange extractSingleSpec)

/-- ITS FALSE NEIGHBOUR: 'it returns false'. Refute it at one input. -/
def extractSingleWrong : ChangeSpec := { name := "extractSingle", fn := fun _ => fun
  | [d1, d2, d3] => { results := [.lit (.bool false)], args := [d1, d2, d3] }
  | _ => none }
def ExtractSingleWrongFalsely : Prop := extractSingleRow.holds Tryz.pinned (OpenSpec.ofChange extractSingleWrong)

/-- 'sparsetreelaw22.ExtractBatch': WHATEVER THE INPUT: true; the input reads as it did. -/
def extractBatchSpec : ChangeSpec := { name := "extractBatch", fn := fun _ => fun
  | [d1, d2, d3] => { results := [.lit (.bool true)], args := [d1, d2, d3] }
  | _ => none }
def extractBatchRow : OpenClaim := { program := "ytjhocljhhpkiiaagreatdoor", sum := "9903d5d12ae09a35cc05cdd54c9691985432bdd8e1adfd0c4798403bfda4afb8", func := "sparsetree/sparsetreelaw22.ExtractBatch", spec := "extractBatch", inPlace := ["internal/bytealg.Compare"], unfollowed := true, recurses := true, named := ["sparsetree/sha.rounds"], apart := false, laid := [("sparsetree/sha.rounds", laid_sparsetree_sha_rounds)] }
def ExtractBatchSaid : Prop := extractBatchRow.holds Tryz.pinned (OpenSpec.ofChange extractBatchSpec)

/-- ITS FALSE NEIGHBOUR: 'it returns false'. Refute it at one input. -/
def extractBatchWrong : ChangeSpec := { name := "extractBatch", fn := fun _ => fun
  | [d1, d2, d3] => { results := [.lit (.bool false)], args := [d1, d2, d3] }
  | _ => none }
def ExtractBatchWrongFalsely : Prop := extractBatchRow.holds Tryz.pinned (OpenSpec.ofChange extractBatchWrong)

/-- 'sparsetreelaw22.ExtractSound': WHATEVER THE INPUT: true; the input reads as it did. -/
def extractSoundSpec : ChangeSpec := { name := "extractSound", fn := fun _ => fun
  | [d1, d2, d3] => { results := [.lit (.bool true)], args := [d1, d2, d3] }
  | _ => none }
def extractSoundRow : OpenClaim := { program := "ytjhocljhhpkiiaagreatdoor", sum := "9903d5d12ae09a35cc05cdd54c9691985432bdd8e1adfd0c4798403bfda4afb8", func := "sparsetree/sparsetreelaw22.ExtractSound", spec := "extractSound", inPlace := ["internal/bytealg.Compare"], unfollowed := true, recurses := true, named := ["sparsetree/sha.rounds"], apart := false, laid := [("sparsetree/sha.rounds", laid_sparsetree_sha_rounds)] }
def ExtractSoundSaid : Prop := extractSoundRow.holds Tryz.pinned (OpenSpec.ofChange extractSoundSpec)

/-- ITS FALSE NEIGHBOUR: 'it returns false'. Refute it at one input. -/
def extractSoundWrong : ChangeSpec := { name := "extractSound", fn := fun _ => fun
  | [d1, d2, d3] => { results := [.lit (.bool false)], args := [d1, d2, d3] }
  | _ => none }
def ExtractSoundWrongFalsely : Prop := extractSoundRow.holds Tryz.pinned (OpenSpec.ofChange extractSoundWrong)

/-- 'sparsetreelaw21.MverifyExplains': WHATEVER THE INPUT: true; the input reads as it did. -/
def mverifyExplainsSpec : ChangeSpec := { name := "mverifyExplains", fn := fun _ => fun
  | [d1, d2, d3] => { results := [.lit (.bool true)], args := [d1, d2, d3] }
  | _ => none }
def mverifyExplainsRow : OpenClaim := { program := "ytjhocljhhpkiiaagreatdoor", sum := "9903d5d12ae09a35cc05cdd54c9691985432bdd8e1adfd0c4798403bfda4afb8", func := "sparsetree/sparsetreelaw21.MverifyExplains", spec := "mverifyExplains", inPlace := ["internal/bytealg.Compare", "internal/reflectlite.ValueOf", "(internal/reflectlite.Value).Type", "(internal/reflectlite.Value).IsNil", "internal/reflectlite.TypeOf", "(internal/reflectlite.Value).Elem", "(internal/reflectlite.Value).Set"], unfollowed := true, recurses := true, named := ["sparsetree/sha.rounds", "errors.errorType"], apart := false, laid := [("errors.errorType", laid_errors_errorType), ("sparsetree/sha.rounds", laid_sparsetree_sha_rounds)] }
def MverifyExplainsSaid : Prop := mverifyExplainsRow.holds Tryz.pinned (OpenSpec.ofChange mverifyExplainsSpec)

/-- ITS FALSE NEIGHBOUR: 'it returns false'. Refute it at one input. -/
def mverifyExplainsWrong : ChangeSpec := { name := "mverifyExplains", fn := fun _ => fun
  | [d1, d2, d3] => { results := [.lit (.bool false)], args := [d1, d2, d3] }
  | _ => none }
def MverifyExplainsWrongFalsely : Prop := mverifyExplainsRow.holds Tryz.pinned (OpenSpec.ofChange mverifyExplainsWrong)

/-- 'sparsetreelaw21.MverifyAccepts': WHATEVER THE INPUT: true; the input reads as it did. -/
def mverifyAcceptsSpec : ChangeSpec := { name := "mverifyAccepts", fn := fun _ => fun
  | [d1, d2, d3] => { results := [.lit (.bool true)], args := [d1, d2, d3] }
  | _ => none }
def mverifyAcceptsRow : OpenClaim := { program := "ytjhocljhhpkiiaagreatdoor", sum := "9903d5d12ae09a35cc05cdd54c9691985432bdd8e1adfd0c4798403bfda4afb8", func := "sparsetree/sparsetreelaw21.MverifyAccepts", spec := "mverifyAccepts", inPlace := ["internal/bytealg.Compare", "internal/reflectlite.ValueOf", "(internal/reflectlite.Value).Type", "(internal/reflectlite.Value).IsNil", "internal/reflectlite.TypeOf", "(internal/reflectlite.Value).Elem", "(internal/reflectlite.Value).Set"], unfollowed := true, recurses := true, named := ["sparsetree/sha.rounds", "errors.errorType"], apart := false, laid := [("errors.errorType", laid_errors_errorType), ("sparsetree/sha.rounds", laid_sparsetree_sha_rounds)] }
def MverifyAcceptsSaid : Prop := mverifyAcceptsRow.holds Tryz.pinned (OpenSpec.ofChange mverifyAcceptsSpec)

/-- ITS FALSE NEIGHBOUR: 'it returns false'. Refute it at one input. -/
def mverifyAcceptsWrong : ChangeSpec := { name := "mverifyAccepts", fn := fun _ => fun
  | [d1, d2, d3] => { results := [.lit (.bool false)], args := [d1, d2, d3] }
  | _ => none }
def MverifyAcceptsWrongFalsely : Prop := mverifyAcceptsRow.holds Tryz.pinned (OpenSpec.ofChange mverifyAcceptsWrong)

/-- 'sparsetreelaw21.MverifyChecks': WHATEVER THE INPUT: true; the input reads as it did. -/
def mverifyChecksSpec : ChangeSpec := { name := "mverifyChecks", fn := fun _ => fun
  | [d1, d2, d3] => { results := [.lit (.bool true)], args := [d1, d2, d3] }
  | _ => none }
def mverifyChecksRow : OpenClaim := { program := "ytjhocljhhpkiiaagreatdoor", sum := "9903d5d12ae09a35cc05cdd54c9691985432bdd8e1adfd0c4798403bfda4afb8", func := "sparsetree/sparsetreelaw21.MverifyChecks", spec := "mverifyChecks", inPlace := ["internal/bytealg.Compare", "internal/reflectlite.ValueOf", "(internal/reflectlite.Value).Type", "(internal/reflectlite.Value).IsNil", "internal/reflectlite.TypeOf", "(internal/reflectlite.Value).Elem", "(internal/reflectlite.Value).Set"], unfollowed := true, recurses := true, named := ["sparsetree/sha.rounds", "errors.errorType"], apart := false, laid := [("errors.errorType", laid_errors_errorType), ("sparsetree/sha.rounds", laid_sparsetree_sha_rounds)] }
def MverifyChecksSaid : Prop := mverifyChecksRow.holds Tryz.pinned (OpenSpec.ofChange mverifyChecksSpec)

/-- ITS FALSE NEIGHBOUR: 'it returns false'. Refute it at one input. -/
def mverifyChecksWrong : ChangeSpec := { name := "mverifyChecks", fn := fun _ => fun
  | [d1, d2, d3] => { results := [.lit (.bool false)], args := [d1, d2, d3] }
  | _ => none }
def MverifyChecksWrongFalsely : Prop := mverifyChecksRow.holds Tryz.pinned (OpenSpec.ofChange mverifyChecksWrong)

/-- 'sparsetreelaw21.MverifyClaims': WHATEVER THE INPUT: true; the input reads as it did. -/
def mverifyClaimsSpec : ChangeSpec := { name := "mverifyClaims", fn := fun _ => fun
  | [d] => { results := [.lit (.bool true)], args := [d] }
  | _ => none }
def mverifyClaimsRow : OpenClaim := { program := "ytjhocljhhpkiiaagreatdoor", sum := "9903d5d12ae09a35cc05cdd54c9691985432bdd8e1adfd0c4798403bfda4afb8", func := "sparsetree/sparsetreelaw21.MverifyClaims", spec := "mverifyClaims", inPlace := ["internal/bytealg.Compare", "internal/reflectlite.ValueOf", "(internal/reflectlite.Value).Type", "(internal/reflectlite.Value).IsNil", "internal/reflectlite.TypeOf", "(internal/reflectlite.Value).Elem", "(internal/reflectlite.Value).Set"], unfollowed := true, recurses := true, named := ["sparsetree/sha.rounds", "errors.errorType"], apart := false, laid := [("errors.errorType", laid_errors_errorType), ("sparsetree/sha.rounds", laid_sparsetree_sha_rounds)] }
def MverifyClaimsSaid : Prop := mverifyClaimsRow.holds Tryz.pinned (OpenSpec.ofChange mverifyClaimsSpec)

/-- ITS FALSE NEIGHBOUR: 'it returns false'. Refute it at one input. -/
def mverifyClaimsWrong : ChangeSpec := { name := "mverifyClaims", fn := fun _ => fun
  | [d] => { results := [.lit (.bool false)], args := [d] }
  | _ => none }
def MverifyClaimsWrongFalsely : Prop := mverifyClaimsRow.holds Tryz.pinned (OpenSpec.ofChange mverifyClaimsWrong)

/-- 'sparsetreelaw21.MverifyCompletes': WHATEVER THE INPUT: true; the input reads as it did. -/
def mverifyCompletesSpec : ChangeSpec := { name := "mverifyCompletes", fn := fun _ => fun
  | [d1, d2, d3] => { results := [.lit (.bool true)], args := [d1, d2, d3] }
  | _ => none }
def mverifyCompletesRow : OpenClaim := { program := "ytjhocljhhpkiiaagreatdoor", sum := "9903d5d12ae09a35cc05cdd54c9691985432bdd8e1adfd0c4798403bfda4afb8", func := "sparsetree/sparsetreelaw21.MverifyCompletes", spec := "mverifyCompletes", inPlace := ["internal/bytealg.Compare", "internal/reflectlite.ValueOf", "(internal/reflectlite.Value).Type", "(internal/reflectlite.Value).IsNil", "internal/reflectlite.TypeOf", "(internal/reflectlite.Value).Elem", "(internal/reflectlite.Value).Set"], unfollowed := true, recurses := true, named := ["sparsetree/sha.rounds", "errors.errorType"], apart := false, laid := [("errors.errorType", laid_errors_errorType), ("sparsetree/sha.rounds", laid_sparsetree_sha_rounds)] }
def MverifyCompletesSaid : Prop := mverifyCompletesRow.holds Tryz.pinned (OpenSpec.ofChange mverifyCompletesSpec)

/-- ITS FALSE NEIGHBOUR: 'it returns false'. Refute it at one input. -/
def mverifyCompletesWrong : ChangeSpec := { name := "mverifyCompletes", fn := fun _ => fun
  | [d1, d2, d3] => { results := [.lit (.bool false)], args := [d1, d2, d3] }
  | _ => none }
def MverifyCompletesWrongFalsely : Prop := mverifyCompletesRow.holds Tryz.pinned (OpenSpec.ofChange mverifyCompletesWrong)

/-- 'sparsetreelaw21.MverifyRefuses': WHATEVER THE INPUT: true; the input reads as it did. -/
def mverifyRefusesSpec : ChangeSpec := { name := "mverifyRefuses", fn := fun _ => fun
  | [d1, d2, d3] => { results := [.lit (.bool true)], args := [d1, d2, d3] }
  | _ => none }
def mverifyRefusesRow : OpenClaim := { program := "ytjhocljhhpkiiaagreatdoor", sum := "9903d5d12ae09a35cc05cdd54c9691985432bdd8e1adfd0c4798403bfda4afb8", func := "sparsetree/sparsetreelaw21.MverifyRefuses", spec := "mverifyRefuses", inPlace := ["internal/bytealg.Compare", "internal/reflectlite.ValueOf", "(internal/reflectlite.Value).Type", "(internal/reflectlite.Value).IsNil", "internal/reflectlite.TypeOf", "(internal/reflectlite.Value).Elem", "(internal/reflectlite.Value).Set"], unfollowed := true, recurses := true, named := ["sparsetree/sha.rounds", "errors.errorType"], apart := false, laid := [("errors.errorType", laid_errors_errorType), ("sparsetree/sha.rounds", laid_sparsetree_sha_rounds)] }
def MverifyRefusesSaid : Prop := mverifyRefusesRow.holds Tryz.pinned (OpenSpec.ofChange mverifyRefusesSpec)

/-- ITS FALSE NEIGHBOUR: 'it returns false'. Refute it at one input. -/
def mverifyRefusesWrong : ChangeSpec := { name := "mverifyRefuses", fn := fun _ => fun
  | [d1, d2, d3] => { results := [.lit (.bool false)], args := [d1, d2, d3] }
  | _ => none }
def MverifyRefusesWrongFalsely : Prop := mverifyRefusesRow.holds Tryz.pinned (OpenSpec.ofChange mverifyRefusesWrong)

/- THE SECOND FORM. 'bulk': how many values and letters a reading holds, each counted each time it is reached (what is shared counts as often as it is met; a slice's spare places count too). A statement '..UptoSaid' is the law's where the arguments, and the package variables that the reading takes, are together of bulk at most 1048576: NARROWER than '..Said'. Prove '..Said' where nothing that the law and all that it calls make is longer than what came in: it says more and counts as full. Else prove '..UptoSaid'. A law counts once. -/
mutual
def uptoBulk {H : Type} : DataW H → Nat
  | .lit (.string bytes) => bytes.length + 1
  | .lit _ => 1
  | .nil => 1
  | .ptr d => uptoBulk d + 1
  | .slice elems spare => uptoBulkAll elems + uptoBulkAll spare + 1
  | .agg parts => uptoBulkAll parts + 1
  | .iface _ d => uptoBulk d + 1
  | .map entries => uptoBulkEntries entries + 1
  | .held _ => 1
def uptoBulkAll {H : Type} : List (DataW H) → Nat
  | [] => 0
  | d :: r => uptoBulk d + uptoBulkAll r
def uptoBulkEntries {H : Type} : List (Lit × DataW H) → Nat
  | [] => 0
  | x :: r => uptoBulkEntry x + uptoBulkEntries r
def uptoBulkEntry {H : Type} : Lit × DataW H → Nat
  | (.string bytes, d) => bytes.length + uptoBulk d + 1
  | (_, d) => uptoBulk d + 1
 end
def uptoSmall : (H : Type) → List (DataW H) → Bool := fun _ ds => decide (uptoBulkAll ds ≤ 1048576)
def OpenSpec.upto (s : _root_.Go.ChangeSpec) : _root_.Go.OpenSpec := { _root_.Go.OpenSpec.ofChange s with cond := some uptoSmall }

/-- 'sparsetreelaw22.ExtractTrue', WHERE WHAT IT READS IS OF BULK AT MOST 1048576: true; the input reads as it did. -/
def extractTrueUptoRow : OpenClaim := { program := "ytjhocljhhpkiiaagreatdoor", sum := "9903d5d12ae09a35cc05cdd54c9691985432bdd8e1adfd0c4798403bfda4afb8", func := "sparsetree/sparsetreelaw22.ExtractTrue", spec := "extractTrue", inPlace := ["internal/bytealg.Compare"], unfollowed := true, recurses := true, named := ["sparsetree/sha.rounds"], apart := false, laid := [("sparsetree/sha.rounds", laid_sparsetree_sha_rounds)], narrowed := true }
def ExtractTrueUptoSaid : Prop := extractTrueUptoRow.holds Tryz.pinned (OpenSpec.upto extractTrueSpec)

/-- 'sparsetreelaw22.ExtractWays', WHERE WHAT IT READS IS OF BULK AT MOST 1048576: true; the input reads as it did. -/
def extractWaysUptoRow : OpenClaim := { program := "ytjhocljhhpkiiaagreatdoor", sum := "9903d5d12ae09a35cc05cdd54c9691985432bdd8e1adfd0c4798403bfda4afb8", func := "sparsetree/sparsetreelaw22.ExtractWays", spec := "extractWays", inPlace := ["internal/bytealg.Compare"], unfollowed := true, recurses := true, named := ["sparsetree/sha.rounds"], apart := false, laid := [("sparsetree/sha.rounds", laid_sparsetree_sha_rounds)], narrowed := true }
def ExtractWaysUptoSaid : Prop := extractWaysUptoRow.holds Tryz.pinned (OpenSpec.upto extractWaysSpec)

/-- 'sparsetreelaw22.ExtractCollides', WHERE WHAT IT READS IS OF BULK AT MOST 1048576: true; the input reads as it did. -/
def extractCollidesUptoRow : OpenClaim := { program := "ytjhocljhhpkiiaagreatdoor", sum := "9903d5d12ae09a35cc05cdd54c9691985432bdd8e1adfd0c4798403bfda4afb8", func := "sparsetree/sparsetreelaw22.ExtractCollides", spec := "extractCollides", inPlace := ["internal/bytealg.Compare"], unfollowed := true, recurses := true, named := ["sparsetree/sha.rounds"], apart := false, laid := [("sparsetree/sha.rounds", laid_sparsetree_sha_rounds)], narrowed := true }
def ExtractCollidesUptoSaid : Prop := extractCollidesUptoRow.holds Tryz.pinned (OpenSpec.upto extractCollidesSpec)

/-- 'sparsetreelaw22.ExtractSingle', WHERE WHAT IT READS IS OF BULK AT MOST 1048576: true; the input reads as it did. -/
def extractSingleUptoRow : OpenClaim := { program := "ytjhocljhhpkiiaagreatdoor", sum := "9903d5d12ae09a35cc05cdd54c9691985432bdd8e1adfd0c4798403bfda4afb8", func := "sparsetree/sparsetreelaw22.ExtractSingle", spec := "extractSingle", inPlace := ["internal/bytealg.Compare"], unfollowed := true, recurses := true, named := ["sparsetree/sha.rounds"], apart := false, laid := [("sparsetree/sha.rounds", laid_sparsetree_sha_rounds)], narrowed := true }
def ExtractSingleUptoSaid : Prop := extractSingleUptoRow.holds Tryz.pinned (OpenSpec.upto extractSingleSpec)

/-- 'sparsetreelaw22.ExtractBatch', WHERE WHAT IT READS IS OF BULK AT MOST 1048576: true; the input reads as it did. -/
def extractBatchUptoRow : OpenClaim := { program := "ytjhocljhhpkiiaagreatdoor", sum := "9903d5d12ae09a35cc05cdd54c9691985432bdd8e1adfd0c4798403bfda4afb8", func := "sparsetree/sparsetreelaw22.ExtractBatch", spec := "extractBatch", inPlace := ["internal/bytealg.Compare"], unfollowed := true, recurses := true, named := ["sparsetree/sha.rounds"], apart := false, laid := [("sparsetree/sha.rounds", laid_sparsetree_sha_rounds)], narrowed := true }
def ExtractBatchUptoSaid : Prop := extractBatchUptoRow.holds Tryz.pinned (OpenSpec.upto extractBatchSpec)

/-- 'sparsetreelaw22.ExtractSound', WHERE WHAT IT READS IS OF BULK AT MOST 1048576: true; the input reads as it did. -/
def extractSoundUptoRow : OpenClaim := { program := "ytjhocljhhpkiiaagreatdoor", sum := "9903d5d12ae09a35cc05cdd54c9691985432bdd8e1adfd0c4798403bfda4afb8", func := "sparsetree/sparsetreelaw22.ExtractSound", spec := "extractSound", inPlace := ["internal/bytealg.Compare"], unfollowed := true, recurses := true, named := ["sparsetree/sha.rounds"], apart := false, laid := [("sparsetree/sha.rounds", laid_sparsetree_sha_rounds)], narrowed := true }
def ExtractSoundUptoSaid : Prop := extractSoundUptoRow.holds Tryz.pinned (OpenSpec.upto extractSoundSpec)

/-- 'sparsetreelaw21.MverifyExplains', WHERE WHAT IT READS IS OF BULK AT MOST 1048576: true; the input reads as it did. -/
def mverifyExplainsUptoRow : OpenClaim := { program := "ytjhocljhhpkiiaagreatdoor", sum := "9903d5d12ae09a35cc05cdd54c9691985432bdd8e1adfd0c4798403bfda4afb8", func := "sparsetree/sparsetreelaw21.MverifyExplains", spec := "mverifyExplains", inPlace := ["internal/bytealg.Compare", "internal/reflectlite.ValueOf", "(internal/reflectlite.Value).Type", "(internal/reflectlite.Value).IsNil", "internal/reflectlite.TypeOf", "(internal/reflectlite.Value).Elem", "(internal/reflectlite.Value).Set"], unfollowed := true, recurses := true, named := ["sparsetree/sha.rounds", "errors.errorType"], apart := false, laid := [("errors.errorType", laid_errors_errorType), ("sparsetree/sha.rounds", laid_sparsetree_sha_rounds)], narrowed := true }
def MverifyExplainsUptoSaid : Prop := mverifyExplainsUptoRow.holds Tryz.pinned (OpenSpec.upto mverifyExplainsSpec)

/-- 'sparsetreelaw21.MverifyAccepts', WHERE WHAT IT READS IS OF BULK AT MOST 1048576: true; the input reads as it did. -/
def mverifyAcceptsUptoRow : OpenClaim := { program := "ytjhocljhhpkiiaagreatdoor", sum := "9903d5d12ae09a35cc05cdd54c9691985432bdd8e1adfd0c4798403bfda4afb8", func := "sparsetree/sparsetreelaw21.MverifyAccepts", spec := "mverifyAccepts", inPlace := ["internal/bytealg.Compare", "internal/reflectlite.ValueOf", "(internal/reflectlite.Value).Type", "(internal/reflectlite.Value).IsNil", "internal/reflectlite.TypeOf", "(internal/reflectlite.Value).Elem", "(internal/reflectlite.Value).Set"], unfollowed := true, recurses := true, named := ["sparsetree/sha.rounds", "errors.errorType"], apart := false, laid := [("errors.errorType", laid_errors_errorType), ("sparsetree/sha.rounds", laid_sparsetree_sha_rounds)], narrowed := true }
def MverifyAcceptsUptoSaid : Prop := mverifyAcceptsUptoRow.holds Tryz.pinned (OpenSpec.upto mverifyAcceptsSpec)

/-- 'sparsetreelaw21.MverifyChecks', WHERE WHAT IT READS IS OF BULK AT MOST 1048576: true; the input reads as it did. -/
def mverifyChecksUptoRow : OpenClaim := { program := "ytjhocljhhpkiiaagreatdoor", sum := "9903d5d12ae09a35cc05cdd54c9691985432bdd8e1adfd0c4798403bfda4afb8", func := "sparsetree/sparsetreelaw21.MverifyChecks", spec := "mverifyChecks", inPlace := ["internal/bytealg.Compare", "internal/reflectlite.ValueOf", "(internal/reflectlite.Value).Type", "(internal/reflectlite.Value).IsNil", "internal/reflectlite.TypeOf", "(internal/reflectlite.Value).Elem", "(internal/reflectlite.Value).Set"], unfollowed := true, recurses := true, named := ["sparsetree/sha.rounds", "errors.errorType"], apart := false, laid := [("errors.errorType", laid_errors_errorType), ("sparsetree/sha.rounds", laid_sparsetree_sha_rounds)], narrowed := true }
def MverifyChecksUptoSaid : Prop := mverifyChecksUptoRow.holds Tryz.pinned (OpenSpec.upto mverifyChecksSpec)

/-- 'sparsetreelaw21.MverifyClaims', WHERE WHAT IT READS IS OF BULK AT MOST 1048576: true; the input reads as it did. -/
def mverifyClaimsUptoRow : OpenClaim := { program := "ytjhocljhhpkiiaagreatdoor", sum := "9903d5d12ae09a35cc05cdd54c9691985432bdd8e1adfd0c4798403bfda4afb8", func := "sparsetree/sparsetreelaw21.MverifyClaims", spec := "mverifyClaims", inPlace := ["internal/bytealg.Compare", "internal/reflectlite.ValueOf", "(internal/reflectlite.Value).Type", "(internal/reflectlite.Value).IsNil", "internal/reflectlite.TypeOf", "(internal/reflectlite.Value).Elem", "(internal/reflectlite.Value).Set"], unfollowed := true, recurses := true, named := ["sparsetree/sha.rounds", "errors.errorType"], apart := false, laid := [("errors.errorType", laid_errors_errorType), ("sparsetree/sha.rounds", laid_sparsetree_sha_rounds)], narrowed := true }
def MverifyClaimsUptoSaid : Prop := mverifyClaimsUptoRow.holds Tryz.pinned (OpenSpec.upto mverifyClaimsSpec)

/-- 'sparsetreelaw21.MverifyCompletes', WHERE WHAT IT READS IS OF BULK AT MOST 1048576: true; the input reads as it did. -/
def mverifyCompletesUptoRow : OpenClaim := { program := "ytjhocljhhpkiiaagreatdoor", sum := "9903d5d12ae09a35cc05cdd54c9691985432bdd8e1adfd0c4798403bfda4afb8", func := "sparsetree/sparsetreelaw21.MverifyCompletes", spec := "mverifyCompletes", inPlace := ["internal/bytealg.Compare", "internal/reflectlite.ValueOf", "(internal/reflectlite.Value).Type", "(internal/reflectlite.Value).IsNil", "internal/reflectlite.TypeOf", "(internal/reflectlite.Value).Elem", "(internal/reflectlite.Value).Set"], unfollowed := true, recurses := true, named := ["sparsetree/sha.rounds", "errors.errorType"], apart := false, laid := [("errors.errorType", laid_errors_errorType), ("sparsetree/sha.rounds", laid_sparsetree_sha_rounds)], narrowed := true }
def MverifyCompletesUptoSaid : Prop := mverifyCompletesUptoRow.holds Tryz.pinned (OpenSpec.upto mverifyCompletesSpec)

/-- 'sparsetreelaw21.MverifyRefuses', WHERE WHAT IT READS IS OF BULK AT MOST 1048576: true; the input reads as it did. -/
def mverifyRefusesUptoRow : OpenClaim := { program := "ytjhocljhhpkiiaagreatdoor", sum := "9903d5d12ae09a35cc05cdd54c9691985432bdd8e1adfd0c4798403bfda4afb8", func := "sparsetree/sparsetreelaw21.MverifyRefuses", spec := "mverifyRefuses", inPlace := ["internal/bytealg.Compare", "internal/reflectlite.ValueOf", "(internal/reflectlite.Value).Type", "(internal/reflectlite.Value).IsNil", "internal/reflectlite.TypeOf", "(internal/reflectlite.Value).Elem", "(internal/reflectlite.Value).Set"], unfollowed := true, recurses := true, named := ["sparsetree/sha.rounds", "errors.errorType"], apart := false, laid := [("errors.errorType", laid_errors_errorType), ("sparsetree/sha.rounds", laid_sparsetree_sha_rounds)], narrowed := true }
def MverifyRefusesUptoSaid : Prop := mverifyRefusesUptoRow.holds Tryz.pinned (OpenSpec.upto mverifyRefusesSpec)

end Rows
end Go.Proofs.YtjhocljhhpkiiaaGreatDoor
