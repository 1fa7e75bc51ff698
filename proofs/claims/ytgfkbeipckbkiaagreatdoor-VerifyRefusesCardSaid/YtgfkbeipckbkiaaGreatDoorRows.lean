/-
  NARROWER THAN 'FOR EVERY INPUT', by the rows' own cells (each row's printed sentence says how): MultiProves: laid · MultiLeads: laid · MultiPreimages: laid · VerifyExplains: laid · VerifyClaims: laid · VerifyAccepts: laid · VerifyChecks: laid · VerifyCompletes: laid · VerifyRefuses: laid.
  DERIVED. THE GIVEN ROWS OF THIS SEAT. 9 by the template 'for every input the law returns true; each argument reads behind the call as it read before'; 0 by the template 'total and deterministic' (their statements: YtgfkbeipckbkiaaGreatDoorTotals.lean).
  GIVEN WITH THE SEED: the statements are not yours to turn. If you find one false, say at which input.
  Laid BY PROGRAM, IN A SANDBOX (cutbox-rows.mjs): the forced cells as the released guide's own fill.sh prints them over the translation 08bf585b6771a6c4… (all of the seat's roots in one cut). By AI agents, Wed Nov 11 2026. No macro, syntax, notation, axiom, sorry.
-/
import Derived.Test.YtgfkbeipckbkiaaGreatDoorChecked
import GoSem.Claim
import GoSem.ClaimJoined
import GoSem.ClaimMapViews
import Derived.JoinedTies
import Derived.KernelRfl
namespace Go.Proofs.YtgfkbeipckbkiaaGreatDoor
/- THE CELL 'sum', in the pinned program and in every row, IS THE sha256 OF THE DUMP (.gsa) THAT YtgfkbeipckbkiaaGreatDoorProg.lean LOADS. Nothing in Lean hashes anything: it is a label: what it is worth is what the hold of that sum in a sandbox is worth. -/
noncomputable def Tryz.pinned : Pinned := { name := "ytgfkbeipckbkiaagreatdoor", sum := "08bf585b6771a6c48069230f07ba4e71932e2caf878d1a5f348e5fe7cbc7b41a", checked := Tryz.checked }
namespace Rows
def none {H : Type} : Left H := { results := [], args := [] }

/- WHAT THE LISTED PACKAGE-LEVEL VARIABLES READ AS WHEN THE CALL BEGINS. Each datum BY PROGRAM (the guide's laid-datum.mjs) off the statement by which the dump's own 'gosem.cut.vars' lays the variable. In a bare row this is a premise. The card (YtgfkbeipckbkiaaGreatDoorCards.lean) ties it to the program's text. -/
def laid_sparsetree_sha_rounds {H : Type} : DataW H := .agg [.lit (.int .u32 1116352408), .lit (.int .u32 1899447441), .lit (.int .u32 3049323471), .lit (.int .u32 3921009573), .lit (.int .u32 961987163), .lit (.int .u32 1508970993), .lit (.int .u32 2453635748), .lit (.int .u32 2870763221), .lit (.int .u32 3624381080), .lit (.int .u32 310598401), .lit (.int .u32 607225278), .lit (.int .u32 1426881987), .lit (.int .u32 1925078388), .lit (.int .u32 2162078206), .lit (.int .u32 2614888103), .lit (.int .u32 3248222580), .lit (.int .u32 3835390401), .lit (.int .u32 4022224774), .lit (.int .u32 264347078), .lit (.int .u32 604807628), .lit (.int .u32 770255983), .lit (.int .u32 1249150122), .lit (.int .u32 1555081692), .lit (.int .u32 1996064986), .lit (.int .u32 2554220882), .lit (.int .u32 2821834349), .lit (.int .u32 2952996808), .lit (.int .u32 3210313671), .lit (.int .u32 3336571891), .lit (.int .u32 3584528711), .lit (.int .u32 113926993), .lit (.int .u32 338241895), .lit (.int .u32 666307205), .lit (.int .u32 773529912), .lit (.int .u32 1294757372), .lit (.int .u32 1396182291), .lit (.int .u32 1695183700), .lit (.int .u32 1986661051), .lit (.int .u32 2177026350), .lit (.int .u32 2456956037), .lit (.int .u32 2730485921), .lit (.int .u32 2820302411), .lit (.int .u32 3259730800), .lit (.int .u32 3345764771), .lit (.int .u32 3516065817), .lit (.int .u32 3600352804), .lit (.int .u32 4094571909), .lit (.int .u32 275423344), .lit (.int .u32 430227734), .lit (.int .u32 506948616), .lit (.int .u32 659060556), .lit (.int .u32 883997877), .lit (.int .u32 958139571), .lit (.int .u32 1322822218), .lit (.int .u32 1537002063), .lit (.int .u32 1747873779), .lit (.int .u32 1955562222), .lit (.int .u32 2024104815), .lit (.int .u32 2227730452), .lit (.int .u32 2361852424), .lit (.int .u32 2428436474), .lit (.int .u32 2756734187), .lit (.int .u32 3204031479), .lit (.int .u32 3329325298)]
def laid_errors_errorType {H : Type} : DataW H := .iface "internal/reflectlite.rtype" (.agg [.ptr (.lit (.string [101, 114, 114, 111, 114]))])

/-- 'sparsetreelaw19.MultiProves': WHATEVER THE INPUT: true; the input reads as it did. -/
def multiProvesSpec : ChangeSpec := { name := "multiProves", fn := fun _ => fun
  | [d1, d2, d3] => { results := [.lit (.bool true)], args := [d1, d2, d3] }
  | _ => none }
def multiProvesRow : OpenClaim := { program := "ytgfkbeipckbkiaagreatdoor", sum := "08bf585b6771a6c48069230f07ba4e71932e2caf878d1a5f348e5fe7cbc7b41a", func := "sparsetree/sparsetreelaw19.MultiProves", spec := "multiProves", inPlace := ["internal/bytealg.Compare"], unfollowed := true, recurses := true, named := ["sparsetree/sha.rounds"], apart := false, laid := [("sparsetree/sha.rounds", laid_sparsetree_sha_rounds)] }
def MultiProvesSaid : Prop := multiProvesRow.holds Tryz.pinned (OpenSpec.ofChange multiProvesSpec)

/-- ITS FALSE NEIGHBOUR: 'it returns false'. Refute it at one input. -/
def multiProvesWrong : ChangeSpec := { name := "multiProves", fn := fun _ => fun
  | [d1, d2, d3] => { results := [.lit (.bool false)], args := [d1, d2, d3] }
  | _ => none }
def MultiProvesWrongFalsely : Prop := multiProvesRow.holds Tryz.pinned (OpenSpec.ofChange multiProvesWrong)

/-- 'sparsetreelaw19.MultiLeads': WHATEVER THE INPUT: true; the input reads as it did. -/
def multiLeadsSpec : ChangeSpec := { name := "multiLeads", fn := fun _ => fun
  | [d1, d2, d3] => { results := [.lit (.bool true)], args := [d1, d2, d3] }
  | _ => none }
def multiLeadsRow : OpenClaim := { program := "ytgfkbeipckbkiaagreatdoor", sum := "08bf585b6771a6c48069230f07ba4e71932e2caf878d1a5f348e5fe7cbc7b41a", func := "sparsetree/sparsetreelaw19.MultiLeads", spec := "multiLeads", inPlace := ["internal/bytealg.Compare"], unfollowed := true, recurses := true, named := ["sparsetree/sha.rounds"], apart := false, laid := [("sparsetree/sha.rounds", laid_sparsetree_sha_rounds)] }
def MultiLeadsSaid : Prop := multiLeadsRow.holds Tryz.pinned (OpenSpec.ofChange multiLeadsSpec)

/-- ITS FALSE NEIGHBOUR: 'it returns false'. Refute it at one input. -/
def multiLeadsWrong : ChangeSpec := { name := "multiLeads", fn := fun _ => fun
  | [d1, d2, d3] => { results := [.lit (.bool false)], args := [d1, d2, d3] }
  | _ => none }
def MultiLeadsWrongFalsely : Prop := multiLeadsRow.holds Tryz.pinned (OpenSpec.ofChange multiLeadsWrong)

/-- 'sparsetreelaw19.MultiPreimages': WHATEVER THE INPUT: true; the input reads as it did. -/
def multiPreimagesSpec : ChangeSpec := { name := "multiPreimages", fn := fun _ => fun
  | [d1, d2, d3] => { results := [.lit (.bool true)], args := [d1, d2, d3] }
  | _ => none }
def multiPreimagesRow : OpenClaim := { program := "ytgfkbeipckbkiaagreatdoor", sum := "08bf585b6771a6c48069230f07ba4e71932e2caf878d1a5f348e5fe7cbc7b41a", func := "sparsetree/sparsetreelaw19.MultiPreimages", spec := "multiPreimages", inPlace := ["internal/bytealg.Compare"], unfollowed := true, recurses := true, named := ["sparsetree/sha.rounds"], apart := false, laid := [("sparsetree/sha.rounds", laid_sparsetree_sha_rounds)] }
def MultiPreimagesSaid : Prop := multiPreimagesRow.holds Tryz.pinned (OpenSpec.ofChange multiPreimagesSpec)

/-- ITS FALSE NEIGHBOUR: 'it returns false'. Refute it at one input. -/
def multiPreimagesWrong : ChangeSpec := { name := "multiPreimages", fn := fun _ => fun
  | [d1, d2, d3] => { results := [.lit (.bool false)], args := [d1, d2, d3] }
  | _ => none }
def MultiPreimagesWrongFalsely : Prop := multiPreimagesRow.holds Tryz.pinned (OpenSpec.ofChange multiPreimagesWrong)

/-- 'sparsetreelaw18.VerifyExplains': WHATEVER THE INPUT: true; the input reads as it did. -/
def verifyExplainsSpec : ChangeSpec := { name := "verifyExplains", fn := fun _ => fun
  | [d1, d2, d3] => { results := [.lit (.bool true)], args := [d1, d2, d3] }
  | _ => none }
def verifyExplainsRow : OpenClaim := { program := "ytgfkbeipckbkiaagreatdoor", sum := "08bf585b6771a6c48069230f07ba4e71932e2caf878d1a5f348e5fe7cbc7b41a", func := "sparsetree/sparsetreelaw18.VerifyExplains", spec := "verifyExplains", inPlace := ["internal/reflectlite.ValueOf", "(internal/reflectlite.Value).Type", "(internal/reflectlite.Value).IsNil", "internal/reflectlite.TypeOf", "(internal/reflectlite.Value).Elem", "(internal/reflectlite.Value).Set"], unfollowed := true, recurses := true, named := ["sparsetree/sha.rounds", "errors.errorType"], apart := false, laid := [("errors.errorType", laid_errors_errorType), ("sparsetree/sha.rounds", laid_sparsetree_sha_rounds)] }
def VerifyExplainsSaid : Prop := verifyExplainsRow.holds Tryz.pinned (OpenSpec.ofChange verifyExplainsSpec)

/-- ITS FALSE NEIGHBOUR: 'it returns false'. Refute it at one input. -/
def verifyExplainsWrong : ChangeSpec := { name := "verifyExplains", fn := fun _ => fun
  | [d1, d2, d3] => { results := [.lit (.bool false)], args := [d1, d2, d3] }
  | _ => none }
def VerifyExplainsWrongFalsely : Prop := verifyExplainsRow.holds Tryz.pinned (OpenSpec.ofChange verifyExplainsWrong)

/-- 'sparsetreelaw18.VerifyClaims': WHATEVER THE INPUT: true; the input reads as it did. -/
def verifyClaimsSpec : ChangeSpec := { name := "verifyClaims", fn := fun _ => fun
  | [d] => { results := [.lit (.bool true)], args := [d] }
  | _ => none }
def verifyClaimsRow : OpenClaim := { program := "ytgfkbeipckbkiaagreatdoor", sum := "08bf585b6771a6c48069230f07ba4e71932e2caf878d1a5f348e5fe7cbc7b41a", func := "sparsetree/sparsetreelaw18.VerifyClaims", spec := "verifyClaims", inPlace := ["internal/reflectlite.ValueOf", "(internal/reflectlite.Value).Type", "(internal/reflectlite.Value).IsNil", "internal/reflectlite.TypeOf", "(internal/reflectlite.Value).Elem", "(internal/reflectlite.Value).Set"], unfollowed := true, recurses := true, named := ["sparsetree/sha.rounds", "errors.errorType"], apart := false, laid := [("errors.errorType", laid_errors_errorType), ("sparsetree/sha.rounds", laid_sparsetree_sha_rounds)] }
def VerifyClaimsSaid : Prop := verifyClaimsRow.holds Tryz.pinned (OpenSpec.ofChange verifyClaimsSpec)

/-- ITS FALSE NEIGHBOUR: 'it returns false'. Refute it at one input. -/
def verifyClaimsWrong : ChangeSpec := { name := "verifyClaims", fn := fun _ => fun
  | [d] => { results := [.lit (.bool false)], args := [d] }
  | _ => none }
def VerifyClaimsWrongFalsely : Prop := verifyClaimsRow.holds Tryz.pinned (OpenSpec.ofChange verifyClaimsWrong)

/-- 'sparsetreelaw18.VerifyAccepts': WHATEVER THE INPUT: true; the input reads as it did. -/
def verifyAcceptsSpec : ChangeSpec := { name := "verifyAccepts", fn := fun _ => fun
  | [d1, d2, d3] => { results := [.lit (.bool true)], args := [d1, d2, d3] }
  | _ => none }
def verifyAcceptsRow : OpenClaim := { program := "ytgfkbeipckbkiaagreatdoor", sum := "08bf585b6771a6c48069230f07ba4e71932e2caf878d1a5f348e5fe7cbc7b41a", func := "sparsetree/sparsetreelaw18.VerifyAccepts", spec := "verifyAccepts", inPlace := ["internal/reflectlite.ValueOf", "(internal/reflectlite.Value).Type", "(internal/reflectlite.Value).IsNil", "internal/reflectlite.TypeOf", "(internal/reflectlite.Value).Elem", "(internal/reflectlite.Value).Set"], unfollowed := true, recurses := true, named := ["sparsetree/sha.rounds", "errors.errorType"], apart := false, laid := [("errors.errorType", laid_errors_errorType), ("sparsetree/sha.rounds", laid_sparsetree_sha_rounds)] }
def VerifyAcceptsSaid : Prop := verifyAcceptsRow.holds Tryz.pinned (OpenSpec.ofChange verifyAcceptsSpec)

/-- ITS FALSE NEIGHBOUR: 'it returns false'. Refute it at one input. -/
def verifyAcceptsWrong : ChangeSpec := { name := "verifyAccepts", fn := fun _ => fun
  | [d1, d2, d3] => { results := [.lit (.bool false)], args := [d1, d2, d3] }
  | _ => none }
def VerifyAcceptsWrongFalsely : Prop := verifyAcceptsRow.holds Tryz.pinned (OpenSpec.ofChange verifyAcceptsWrong)

/-- 'sparsetreelaw18.VerifyChecks': WHATEVER THE INPUT: true; the input reads as it did. -/
def verifyChecksSpec : ChangeSpec := { name := "verifyChecks", fn := fun _ => fun
  | [d1, d2, d3] => { results := [.lit (.bool true)], args := [d1, d2, d3] }
  | _ => none }
def verifyChecksRow : OpenClaim := { program := "ytgfkbeipckbkiaagreatdoor", sum := "08bf585b6771a6c48069230f07ba4e71932e2caf878d1a5f348e5fe7cbc7b41a", func := "sparsetree/sparsetreelaw18.VerifyChecks", spec := "verifyChecks", inPlace := ["internal/reflectlite.ValueOf", "(internal/reflectlite.Value).Type", "(internal/reflectlite.Value).IsNil", "internal/reflectlite.TypeOf", "(internal/reflectlite.Value).Elem", "(internal/reflectlite.Value).Set"], unfollowed := true, recurses := true, named := ["sparsetree/sha.rounds", "errors.errorType"], apart := false, laid := [("errors.errorType", laid_errors_errorType), ("sparsetree/sha.rounds", laid_sparsetree_sha_rounds)] }
def VerifyChecksSaid : Prop := verifyChecksRow.holds Tryz.pinned (OpenSpec.ofChange verifyChecksSpec)

/-- ITS FALSE NEIGHBOUR: 'it returns false'. Refute it at one input. -/
def verifyChecksWrong : ChangeSpec := { name := "verifyChecks", fn := fun _ => fun
  | [d1, d2, d3] => { results := [.lit (.bool false)], args := [d1, d2, d3] }
  | _ => none }
def VerifyChecksWrongFalsely : Prop := verifyChecksRow.holds Tryz.pinned (OpenSpec.ofChange verifyChecksWrong)

/-- 'sparsetreelaw18.VerifyCompletes': WHATEVER THE INPUT: true; the input reads as it did. -/
def verifyCompletesSpec : ChangeSpec := { name := "verifyCompletes", fn := fun _ => fun
  | [d1, d2, d3] => { results := [.lit (.bool true)], args := [d1, d2, d3] }
  | _ => none }
def verifyCompletesRow : OpenClaim := { program := "ytgfkbeipckbkiaagreatdoor", sum := "08bf585b6771a6c48069230f07ba4e71932e2caf878d1a5f348e5fe7cbc7b41a", func := "sparsetree/sparsetreelaw18.VerifyCompletes", spec := "verifyCompletes", inPlace := ["internal/reflectlite.ValueOf", "(internal/reflectlite.Value).Type", "(internal/reflectlite.Value).IsNil", "internal/reflectlite.TypeOf", "(internal/reflectlite.Value).Elem", "(internal/reflectlite.Value).Set"], unfollowed := true, recurses := true, named := ["sparsetree/sha.rounds", "errors.errorType"], apart := false, laid := [("errors.errorType", laid_errors_errorType), ("sparsetree/sha.rounds", laid_sparsetree_sha_rounds)] }
def VerifyCompletesSaid : Prop := verifyCompletesRow.holds Tryz.pinned (OpenSpec.ofChange verifyCompletesSpec)

/-- ITS FALSE NEIGHBOUR: 'it returns false'. Refute it at one input. -/
def verifyCompletesWrong : ChangeSpec := { name := "verifyCompletes", fn := fun _ => fun
  | [d1, d2, d3] => { results := [.lit (.bool false)], args := [d1, d2, d3] }
  | _ => none }
def VerifyCompletesWrongFalsely : Prop := verifyCompletesRow.holds Tryz.pinned (OpenSpec.ofChange verifyCompletesWrong)

/-- 'sparsetreelaw18.VerifyRefuses': WHATEVER THE INPUT: true; the input reads as it did. -/
def verifyRefusesSpec : ChangeSpec := { name := "verifyRefuses", fn := fun _ => fun
  | [d1, d2, d3] => { results := [.lit (.bool true)], args := [d1, d2, d3] }
  | _ => none }
def verifyRefusesRow : OpenClaim := { program := "ytgfkbeipckbkiaagreatdoor", sum := "08bf585b6771a6c48069230f07ba4e71932e2caf878d1a5f348e5fe7cbc7b41a", func := "sparsetree/sparsetreelaw18.VerifyRefuses", spec := "verifyRefuses", inPlace := ["internal/reflectlite.ValueOf", "(internal/reflectlite.Value).Type", "(internal/reflectlite.Value).IsNil", "internal/reflectlite.TypeOf", "(internal/reflectlite.Value).Elem", "(internal/reflectlite.Value).Set"], unfollowed := true, recurses := true, named := ["sparsetree/sha.rounds", "errors.errorType"], apart := false, laid := [("errors.errorType", laid_errors_errorType), ("sparsetree/sha.rounds", laid_sparsetree_sha_rounds)] }
def VerifyRefusesSaid : Prop := verifyRefusesRow.holds Tryz.pinned (OpenSpec.ofChange verifyRefusesSpec)

/-- ITS FALSE NEIGHBOUR: 'it returns false'. Refute it at one input. -/
def verifyRefusesWrong : ChangeSpec := { name := "verifyRefuses", fn := fun _ => fun
  | [d1, d2, d3] => { results := [.lit (.bool false)], args := [d1, d2, d3] }
  | _ => none }
def VerifyRefusesWrongFalsely : Prop := verifyRefusesRow.holds Tryz.pinned (OpenSpec.ofChange verifyRefusesWrong)

/- THE SECOND FORM. 'bulk': how many values and letters a reading holds, each counted each time it is reached (what is shared counts as often as it is met; a slice's spare places count too). A statement '..UptoSaid' is the law's where the arguments, and the package variables that the reading takes, are together of bulk at most 1048576: NARROWER than '..Said'. Prove '..Said' where nothing that the law and all that it calls make is longer than what came in: it says more and counts as full. Else prove '..UptoSaid'. A law counts once. -/
mutual
def uptoBulk {H : Type} : DataW H → Nat
  | .lit (.string bytes) => bytes.length + 1
  | .lit _ => 1
  | .nil => 1
  | .ptr d => uptoBulk d + 1
  | .slice elems spare => uptoBulkAll elems + uptoBulkAll spare + 1
  | .agg parts => uptoBulkAll parts + 1
  | .iface _ d => uptoBulk d + 1
  | .map entries => uptoBulkEntries entries + 1
  | .held _ => 1
def uptoBulkAll {H : Type} : List (DataW H) → Nat
  | [] => 0
  | d :: r => uptoBulk d + uptoBulkAll r
def uptoBulkEntries {H : Type} : List (Lit × DataW H) → Nat
  | [] => 0
  | x :: r => uptoBulkEntry x + uptoBulkEntries r
def uptoBulkEntry {H : Type} : Lit × DataW H → Nat
  | (.string bytes, d) => bytes.length + uptoBulk d + 1
  | (_, d) => uptoBulk d + 1
 end
def uptoSmall : (H : Type) → List (DataW H) → Bool := fun _ ds => decide (uptoBulkAll ds ≤ 1048576)
def OpenSpec.upto (s : _root_.Go.ChangeSpec) : _root_.Go.OpenSpec := { _root_.Go.OpenSpec.ofChange s with cond := some uptoSmall }

/-- 'sparsetreelaw19.MultiProves', WHERE WHAT IT READS IS OF BULK AT MOST 1048576: true; the input reads as it did. -/
def multiProvesUptoRow : OpenClaim := { program := "ytgfkbeipckbkiaagreatdoor", sum := "08bf585b6771a6c48069230f07ba4e71932e2caf878d1a5f348e5fe7cbc7b41a", func := "sparsetree/sparsetreelaw19.MultiProves", spec := "multiProves", inPlace := ["internal/bytealg.Compare"], unfollowed := true, recurses := true, named := ["sparsetree/sha.rounds"], apart := false, laid := [("sparsetree/sha.rounds", laid_sparsetree_sha_rounds)], narrowed := true }
def MultiProvesUptoSaid : Prop := multiProvesUptoRow.holds Tryz.pinned (OpenSpec.upto multiProvesSpec)

/-- 'sparsetreelaw19.MultiLeads', WHERE WHAT IT READS IS OF BULK AT MOST 1048576: true; the input reads as it did. -/
def multiLeadsUptoRow : OpenClaim := { program := "ytgfkbeipckbkiaagreatdoor", sum := "08bf585b6771a6c48069230f07ba4e71932e2caf878d1a5f348e5fe7cbc7b41a", func := "sparsetree/sparsetreelaw19.MultiLeads", spec := "multiLeads", inPlace := ["internal/bytealg.Compare"], unfollowed := true, recurses := true, named := ["sparsetree/sha.rounds"], apart := false, laid := [("sparsetree/sha.rounds", laid_sparsetree_sha_rounds)], narrowed := true }
def MultiLeadsUptoSaid : Prop := multiLeadsUptoRow.holds Tryz.pinned (OpenSpec.upto multiLeadsSpec)

/-- 'sparsetreelaw19.MultiPreimages', WHERE WHAT IT READS IS OF BULK AT MOST 1048576: true; the input reads as it did. -/
def multiPreimagesUptoRow : OpenClaim := { program := "ytgfkbeipckbkiaagreatdoor", sum := "08bf585b6771a6c48069230f07ba4e71932e2caf878d1a5f348e5fe7cbc7b41a", func := "sparsetree/sparsetreelaw19.MultiPreimages", spec := "multiPreimages", inPlace := ["internal/bytealg.Compare"], unfollowed := true, recurses := true, named := ["sparsetree/sha.rounds"], apart := false, laid := [("sparsetree/sha.rounds", laid_sparsetree_sha_rounds)], narrowed := true }
def MultiPreimagesUptoSaid : Prop := multiPreimagesUptoRow.holds Tryz.pinned (OpenSpec.upto multiPreimagesSpec)

/-- 'sparsetreelaw18.VerifyExplains', WHERE WHAT IT READS IS OF BULK AT MOST 1048576: true; the input reads as it did. -/
def verifyExplainsUptoRow : OpenClaim := { program := "ytgfkbeipckbkiaagreatdoor", sum := "08bf585b6771a6c48069230f07ba4e71932e2caf878d1a5f348e5fe7cbc7b41a", func := "sparsetree/sparsetreelaw18.VerifyExplains", spec := "verifyExplains", inPlace := ["internal/reflectlite.ValueOf", "(internal/reflectlite.Value).Type", "(internal/reflectlite.Value).IsNil", "internal/reflectlite.TypeOf", "(internal/reflectlite.Value).Elem", "(internal/reflectlite.Value).Set"], unfollowed := true, recurses := true, named := ["sparsetree/sha.rounds", "errors.errorType"], apart := false, laid := [("errors.errorType", laid_errors_errorType), ("sparsetree/sha.rounds", laid_sparsetree_sha_rounds)], narrowed := true }
def VerifyExplainsUptoSaid : Prop := verifyExplainsUptoRow.holds Tryz.pinned (OpenSpec.upto verifyExplainsSpec)

/-- 'sparsetreelaw18.VerifyClaims', WHERE WHAT IT READS IS OF BULK AT MOST 1048576: true; the input reads as it did. -/
def verifyClaimsUptoRow : OpenClaim := { program := "ytgfkbeipckbkiaagreatdoor", sum := "08bf585b6771a6c48069230f07ba4e71932e2caf878d1a5f348e5fe7cbc7b41a", func := "sparsetree/sparsetreelaw18.VerifyClaims", spec := "verifyClaims", inPlace := ["internal/reflectlite.ValueOf", "(internal/reflectlite.Value).Type", "(internal/reflectlite.Value).IsNil", "internal/reflectlite.TypeOf", "(internal/reflectlite.Value).Elem", "(internal/reflectlite.Value).Set"], unfollowed := true, recurses := true, named := ["sparsetree/sha.rounds", "errors.errorType"], apart := false, laid := [("errors.errorType", laid_errors_errorType), ("sparsetree/sha.rounds", laid_sparsetree_sha_rounds)], narrowed := true }
def VerifyClaimsUptoSaid : Prop := verifyClaimsUptoRow.holds Tryz.pinned (OpenSpec.upto verifyClaimsSpec)

/-- 'sparsetreelaw18.VerifyAccepts', WHERE WHAT IT READS IS OF BULK AT MOST 1048576: true; the input reads as it did. -/
def verifyAcceptsUptoRow : OpenClaim := { program := "ytgfkbeipckbkiaagreatdoor", sum := "08bf585b6771a6c48069230f07ba4e71932e2caf878d1a5f348e5fe7cbc7b41a", func := "sparsetree/sparsetreelaw18.VerifyAccepts", spec := "verifyAccepts", inPlace := ["internal/reflectlite.ValueOf", "(internal/reflectlite.Value).Type", "(internal/reflectlite.Value).IsNil", "internal/reflectlite.TypeOf", "(internal/reflectlite.Value).Elem", "(internal/reflectlite.Value).Set"], unfollowed := true, recurses := true, named := ["sparsetree/sha.rounds", "errors.errorType"], apart := false, laid := [("errors.errorType", laid_errors_errorType), ("sparsetree/sha.rounds", laid_sparsetree_sha_rounds)], narrowed := true }
def VerifyAcceptsUptoSaid : Prop := verifyAcceptsUptoRow.holds Tryz.pinned (OpenSpec.upto verifyAcceptsSpec)

/-- 'sparsetreelaw18.VerifyChecks', WHERE WHAT IT READS IS OF BULK AT MOST 1048576: true; the input reads as it did. -/
def verifyChecksUptoRow : OpenClaim := { program := "ytgfkbeipckbkiaagreatdoor", sum := "08bf585b6771a6c48069230f07ba4e71932e2caf878d1a5f348e5fe7cbc7b41a", func := "sparsetree/sparsetreelaw18.VerifyChecks", spec := "verifyChecks", inPlace := ["internal/reflectlite.ValueOf", "(internal/reflectlite.Value).Type", "(internal/reflectlite.Value).IsNil", "internal/reflectlite.TypeOf", "(internal/reflectlite.Value).Elem", "(internal/reflectlite.Value).Set"], unfollowed := true, recurses := true, named := ["sparsetree/sha.rounds", "errors.errorType"], apart := false, laid := [("errors.errorType", laid_errors_errorType), ("sparsetree/sha.rounds", laid_sparsetree_sha_rounds)], narrowed := true }
def VerifyChecksUptoSaid : Prop := verifyChecksUptoRow.holds Tryz.pinned (OpenSpec.upto verifyChecksSpec)

/-- 'sparsetreelaw18.VerifyCompletes', WHERE WHAT IT READS IS OF BULK AT MOST 1048576: true; the input reads as it did. -/
def verifyCompletesUptoRow : OpenClaim := { program := "ytgfkbeipckbkiaagreatdoor", sum := "08bf585b6771a6c48069230f07ba4e71932e2caf878d1a5f348e5fe7cbc7b41a", func := "sparsetree/sparsetreelaw18.VerifyCompletes", spec := "verifyCompletes", inPlace := ["internal/reflectlite.ValueOf", "(internal/reflectlite.Value).Type", "(internal/reflectlite.Value).IsNil", "internal/reflectlite.TypeOf", "(internal/reflectlite.Value).Elem", "(internal/reflectlite.Value).Set"], unfollowed := true, recurses := true, named := ["sparsetree/sha.rounds", "errors.errorType"], apart := false, laid := [("errors.errorType", laid_errors_errorType), ("sparsetree/sha.rounds", laid_sparsetree_sha_rounds)], narrowed := true }
def VerifyCompletesUptoSaid : Prop := verifyCompletesUptoRow.holds Tryz.pinned (OpenSpec.upto verifyCompletesSpec)

/-- 'sparsetreelaw18.VerifyRefuses', WHERE WHAT IT READS IS OF BULK AT MOST 1048576: true; the input reads as it did. -/
def verifyRefusesUptoRow : OpenClaim := { program := "ytgfkbeipckbkiaagreatdoor", sum := "08bf585b6771a6c48069230f07ba4e71932e2caf878d1a5f348e5fe7cbc7b41a", func := "sparsetree/sparsetreelaw18.VerifyRefuses", spec := "verifyRefuses", inPlace := ["internal/reflectlite.ValueOf", "(internal/reflectlite.Value).Type", "(internal/reflectlite.Value).IsNil", "internal/reflectlite.TypeOf", "(internal/reflectlite.Value).Elem", "(internal/reflectlite.Value).Set"], unfollowed := true, recurses := true, named := ["sparsetree/sha.rounds", "errors.errorType"], apart := false, laid := [("errors.errorType", laid_errors_errorType), ("sparsetree/sha.rounds", laid_sparsetree_sha_rounds)], narrowed := true }
def VerifyRefusesUptoSaid : Prop := verifyRefusesUptoRow.holds Tryz.pinned (OpenSpec.upto verifyRefusesSpec)

end Rows
end Go.Proofs.YtgfkbeipckbkiaaGreatDoor
