/-
  NARROWER THAN 'FOR EVERY INPUT', by the rows' own cells (each row's printed sentence says how): CodecIsShort: laid · MultiProves: laid · FoldLeads: laid · MultiLeads: laid · MultiPreimages: laid · ProofProves: laid · ProofIsTrue: laid.
  DERIVED. THE GIVEN ROWS OF THIS SEAT. 7 by the template 'for every input the law returns true; each argument reads behind the call as it read before'; 0 by the template 'total and deterministic' (their statements: YtdfeimdhlagebaaGreatDoorTotals.lean).
  GIVEN WITH THE SEED: the statements are not yours to turn. If you find one false, say at which input.
  Laid BY PROGRAM, IN A SANDBOX (cutbox-rows.mjs): the forced cells as the released guide's own fill.sh prints them over the translation 619295bb20e42cb6… (all of the seat's roots in one cut). By AI agents, Wed Nov 11 2026. No macro, syntax, notation, axiom, sorry.
-/
import Derived.Test.YtdfeimdhlagebaaGreatDoorChecked
import GoSem.Claim
import GoSem.ClaimJoined
import GoSem.ClaimMapViews
import Derived.JoinedTies
import Derived.KernelRfl
namespace Go.Proofs.YtdfeimdhlagebaaGreatDoor
/- THE CELL 'sum', in the pinned program and in every row, IS THE sha256 OF THE DUMP (.gsa) THAT YtdfeimdhlagebaaGreatDoorProg.lean LOADS. Nothing in Lean hashes anything: it is a label: what it is worth is what the hold of that sum in a sandbox is worth. -/
noncomputable def Tryz.pinned : Pinned := { name := "ytdfeimdhlagebaagreatdoor", sum := "619295bb20e42cb6b4669337c4dfd7f58a8982f32ada7712776998e11b631ca4", checked := Tryz.checked }
namespace Rows
def none {H : Type} : Left H := { results := [], args := [] }

/- WHAT THE LISTED PACKAGE-LEVEL VARIABLES READ AS WHEN THE CALL BEGINS. Each datum BY PROGRAM (the guide's laid-datum.mjs) off the statement by which the dump's own 'gosem.cut.vars' lays the variable. In a bare row this is a premise. The card (YtdfeimdhlagebaaGreatDoorCards.lean) ties it to the program's text. -/
def laid_sparsetree_sha_rounds {H : Type} : DataW H := .agg [.lit (.int .u32 1116352408), .lit (.int .u32 1899447441), .lit (.int .u32 3049323471), .lit (.int .u32 3921009573), .lit (.int .u32 961987163), .lit (.int .u32 1508970993), .lit (.int .u32 2453635748), .lit (.int .u32 2870763221), .lit (.int .u32 3624381080), .lit (.int .u32 310598401), .lit (.int .u32 607225278), .lit (.int .u32 1426881987), .lit (.int .u32 1925078388), .lit (.int .u32 2162078206), .lit (.int .u32 2614888103), .lit (.int .u32 3248222580), .lit (.int .u32 3835390401), .lit (.int .u32 4022224774), .lit (.int .u32 264347078), .lit (.int .u32 604807628), .lit (.int .u32 770255983), .lit (.int .u32 1249150122), .lit (.int .u32 1555081692), .lit (.int .u32 1996064986), .lit (.int .u32 2554220882), .lit (.int .u32 2821834349), .lit (.int .u32 2952996808), .lit (.int .u32 3210313671), .lit (.int .u32 3336571891), .lit (.int .u32 3584528711), .lit (.int .u32 113926993), .lit (.int .u32 338241895), .lit (.int .u32 666307205), .lit (.int .u32 773529912), .lit (.int .u32 1294757372), .lit (.int .u32 1396182291), .lit (.int .u32 1695183700), .lit (.int .u32 1986661051), .lit (.int .u32 2177026350), .lit (.int .u32 2456956037), .lit (.int .u32 2730485921), .lit (.int .u32 2820302411), .lit (.int .u32 3259730800), .lit (.int .u32 3345764771), .lit (.int .u32 3516065817), .lit (.int .u32 3600352804), .lit (.int .u32 4094571909), .lit (.int .u32 275423344), .lit (.int .u32 430227734), .lit (.int .u32 506948616), .lit (.int .u32 659060556), .lit (.int .u32 883997877), .lit (.int .u32 958139571), .lit (.int .u32 1322822218), .lit (.int .u32 1537002063), .lit (.int .u32 1747873779), .lit (.int .u32 1955562222), .lit (.int .u32 2024104815), .lit (.int .u32 2227730452), .lit (.int .u32 2361852424), .lit (.int .u32 2428436474), .lit (.int .u32 2756734187), .lit (.int .u32 3204031479), .lit (.int .u32 3329325298)]

/-- 'sparsetreelaw17.CodecIsShort': WHATEVER THE INPUT: true; the input reads as it did. -/
def codecIsShortSpec : ChangeSpec := { name := "codecIsShort", fn := fun _ => fun
  | [d1, d2, d3] => { results := [.lit (.bool true)], args := [d1, d2, d3] }
  | _ => none }
def codecIsShortRow : OpenClaim := { program := "ytdfeimdhlagebaagreatdoor", sum := "619295bb20e42cb6b4669337c4dfd7f58a8982f32ada7712776998e11b631ca4", func := "sparsetree/sparsetreelaw17.CodecIsShort", spec := "codecIsShort", unfollowed := true, recurses := true, named := ["sparsetree/sha.rounds"], apart := false, laid := [("sparsetree/sha.rounds", laid_sparsetree_sha_rounds)] }
def CodecIsShortSaid : Prop := codecIsShortRow.holds Tryz.pinned (OpenSpec.ofChange codecIsShortSpec)

/-- ITS FALSE NEIGHBOUR: 'it returns false'. Refute it at one input. -/
def codecIsShortWrong : ChangeSpec := { name := "codecIsShort", fn := fun _ => fun
  | [d1, d2, d3] => { results := [.lit (.bool false)], args := [d1, d2, d3] }
  | _ => none }
def CodecIsShortWrongFalsely : Prop := codecIsShortRow.holds Tryz.pinned (OpenSpec.ofChange codecIsShortWrong)

/-- 'sparsetreelaw19.MultiProves': WHATEVER THE INPUT: true; the input reads as it did. -/
def multiProvesSpec : ChangeSpec := { name := "multiProves", fn := fun _ => fun
  | [d1, d2, d3] => { results := [.lit (.bool true)], args := [d1, d2, d3] }
  | _ => none }
def multiProvesRow : OpenClaim := { program := "ytdfeimdhlagebaagreatdoor", sum := "619295bb20e42cb6b4669337c4dfd7f58a8982f32ada7712776998e11b631ca4", func := "sparsetree/sparsetreelaw19.MultiProves", spec := "multiProves", inPlace := ["internal/bytealg.Compare"], unfollowed := true, recurses := true, named := ["sparsetree/sha.rounds"], apart := false, laid := [("sparsetree/sha.rounds", laid_sparsetree_sha_rounds)] }
def MultiProvesSaid : Prop := multiProvesRow.holds Tryz.pinned (OpenSpec.ofChange multiProvesSpec)

/-- ITS FALSE NEIGHBOUR: 'it returns false'. Refute it at one input. -/
def multiProvesWrong : ChangeSpec := { name := "multiProves", fn := fun _ => fun
  | [d1, d2, d3] => { results := [.lit (.bool false)], args := [d1, d2, d3] }
  | _ => none }
def MultiProvesWrongFalsely : Prop := multiProvesRow.holds Tryz.pinned (OpenSpec.ofChange multiProvesWrong)

/-- 'sparsetreelaw16.FoldLeads': WHATEVER THE INPUT: true; the input reads as it did. -/
def foldLeadsSpec : ChangeSpec := { name := "foldLeads", fn := fun _ => fun
  | [d1, d2, d3] => { results := [.lit (.bool true)], args := [d1, d2, d3] }
  | _ => none }
def foldLeadsRow : OpenClaim := { program := "ytdfeimdhlagebaagreatdoor", sum := "619295bb20e42cb6b4669337c4dfd7f58a8982f32ada7712776998e11b631ca4", func := "sparsetree/sparsetreelaw16.FoldLeads", spec := "foldLeads", unfollowed := true, recurses := true, named := ["sparsetree/sha.rounds"], apart := false, laid := [("sparsetree/sha.rounds", laid_sparsetree_sha_rounds)] }
def FoldLeadsSaid : Prop := foldLeadsRow.holds Tryz.pinned (OpenSpec.ofChange foldLeadsSpec)

/-- ITS FALSE NEIGHBOUR: 'it returns false'. Refute it at one input. -/
def foldLeadsWrong : ChangeSpec := { name := "foldLeads", fn := fun _ => fun
  | [d1, d2, d3] => { results := [.lit (.bool false)], args := [d1, d2, d3] }
  | _ => none }
def FoldLeadsWrongFalsely : Prop := foldLeadsRow.holds Tryz.pinned (OpenSpec.ofChange foldLeadsWrong)

/-- 'sparsetreelaw19.MultiLeads': WHATEVER THE INPUT: true; the input reads as it did. -/
def multiLeadsSpec : ChangeSpec := { name := "multiLeads", fn := fun _ => fun
  | [d1, d2, d3] => { results := [.lit (.bool true)], args := [d1, d2, d3] }
  | _ => none }
def multiLeadsRow : OpenClaim := { program := "ytdfeimdhlagebaagreatdoor", sum := "619295bb20e42cb6b4669337c4dfd7f58a8982f32ada7712776998e11b631ca4", func := "sparsetree/sparsetreelaw19.MultiLeads", spec := "multiLeads", inPlace := ["internal/bytealg.Compare"], unfollowed := true, recurses := true, named := ["sparsetree/sha.rounds"], apart := false, laid := [("sparsetree/sha.rounds", laid_sparsetree_sha_rounds)] }
def MultiLeadsSaid : Prop := multiLeadsRow.holds Tryz.pinned (OpenSpec.ofChange multiLeadsSpec)

/-- ITS FALSE NEIGHBOUR: 'it returns false'. Refute it at one input. -/
def multiLeadsWrong : ChangeSpec := { name := "multiLeads", fn := fun _ => fun
  | [d1, d2, d3] => { results := [.lit (.bool false)], args := [d1, d2, d3] }
  | _ => none }
def MultiLeadsWrongFalsely : Prop := multiLeadsRow.holds Tryz.pinned (OpenSpec.ofChange multiLeadsWrong)

/-- 'sparsetreelaw19.MultiPreimages': WHATEVER THE INPUT: true; the input reads as it did. -/
def multiPreimagesSpec : ChangeSpec := { name := "multiPreimages", fn := fun _ => fun
  | [d1, d2, d3] => { results := [.lit (.bool true)], args := [d1, d2, d3] }
  | _ => none }
def multiPreimagesRow : OpenClaim := { program := "ytdfeimdhlagebaagreatdoor", sum := "619295bb20e42cb6b4669337c4dfd7f58a8982f32ada7712776998e11b631ca4", func := "sparsetree/sparsetreelaw19.MultiPreimages", spec := "multiPreimages", inPlace := ["internal/bytealg.Compare"], unfollowed := true, recurses := true, named := ["sparsetree/sha.rounds"], apart := false, laid := [("sparsetree/sha.rounds", laid_sparsetree_sha_rounds)] }
def MultiPreimagesSaid : Prop := multiPreimagesRow.holds Tryz.pinned (OpenSpec.ofChange multiPreimagesSpec)

/-- ITS FALSE NEIGHBOUR: 'it returns false'. Refute it at one input. -/
def multiPreimagesWrong : ChangeSpec := { name := "multiPreimages", fn := fun _ => fun
  | [d1, d2, d3] => { results := [.lit (.bool false)], args := [d1, d2, d3] }
  | _ => none }
def MultiPreimagesWrongFalsely : Prop := multiPreimagesRow.holds Tryz.pinned (OpenSpec.ofChange multiPreimagesWrong)

/-- 'sparsetreelaw15.ProofProves': WHATEVER THE INPUT: true; the input reads as it did. -/
def proofProvesSpec : ChangeSpec := { name := "proofProves", fn := fun _ => fun
  | [d1, d2, d3] => { results := [.lit (.bool true)], args := [d1, d2, d3] }
  | _ => none }
def proofProvesRow : OpenClaim := { program := "ytdfeimdhlagebaagreatdoor", sum := "619295bb20e42cb6b4669337c4dfd7f58a8982f32ada7712776998e11b631ca4", func := "sparsetree/sparsetreelaw15.ProofProves", spec := "proofProves", unfollowed := true, recurses := true, named := ["sparsetree/sha.rounds"], apart := false, laid := [("sparsetree/sha.rounds", laid_sparsetree_sha_rounds)] }
def ProofProvesSaid : Prop := proofProvesRow.holds Tryz.pinned (OpenSpec.ofChange proofProvesSpec)

/-- ITS FALSE NEIGHBOUR: 'it returns false'. Refute it at one input. -/
def proofProvesWrong : ChangeSpec := { name := "proofProves", fn := fun _ => fun
  | [d1, d2, d3] => { results := [.lit (.bool false)], args := [d1, d2, d3] }
  | _ => none }
def ProofProvesWrongFalsely : Prop := proofProvesRow.holds Tryz.pinned (OpenSpec.ofChange proofProvesWrong)

/-- 'sparsetreelaw15.ProofIsTrue': WHATEVER THE INPUT: true; the input reads as it did. -/
def proofIsTrueSpec : ChangeSpec := { name := "proofIsTrue", fn := fun _ => fun
  | [d1, d2, d3] => { results := [.lit (.bool true)], args := [d1, d2, d3] }
  | _ => none }
def proofIsTrueRow : OpenClaim := { program := "ytdfeimdhlagebaagreatdoor", sum := "619295bb20e42cb6b4669337c4dfd7f58a8982f32ada7712776998e11b631ca4", func := "sparsetree/sparsetreelaw15.ProofIsTrue", spec := "proofIsTrue", unfollowed := true, recurses := true, named := ["sparsetree/sha.rounds"], apart := false, laid := [("sparsetree/sha.rounds", laid_sparsetree_sha_rounds)] }
def ProofIsTrueSaid : Prop := proofIsTrueRow.holds Tryz.pinned (OpenSpec.ofChange proofIsTrueSpec)

/-- ITS FALSE NEIGHBOUR: 'it returns false'. Refute it at one input. -/
def proofIsTrueWrong : ChangeSpec := { name := "proofIsTrue", fn := fun _ => fun
  | [d1, d2, d3] => { results := [.lit (.bool false)], args := [d1, d2, d3] }
  | _ => none }
def ProofIsTrueWrongFalsely : Prop := proofIsTrueRow.holds Tryz.pinned (OpenSpec.ofChange proofIsTrueWrong)

/- THE SECOND FORM. 'bulk': how many values and letters a reading holds, each counted each time it is reached (what is shared counts as often as it is met; a slice's spare places count too). A statement '..UptoSaid' is the law's where the arguments, and the package variables that the reading takes, are together of bulk at most 1048576: NARROWER than '..Said'. Prove '..Said' where nothing that the law and all that it calls make is longer than what came in: it says more and counts as full. Else prove '..UptoSaid'. A law counts once. -/
mutual
def uptoBulk {H : Type} : DataW H → Nat
  | .lit (.string bytes) => bytes.length + 1
  | .lit _ => 1
  | .nil => 1
  | .ptr d => uptoBulk d + 1
  | .slice elems spare => uptoBulkAll elems + uptoBulkAll spare + 1
  | .agg parts => uptoBulkAll parts + 1
  | .iface _ d => uptoBulk d + 1
  | .map entries => uptoBulkEntries entries + 1
  | .held _ => 1
def uptoBulkAll {H : Type} : List (DataW H) → Nat
  | [] => 0
  | d :: r => uptoBulk d + uptoBulkAll r
def uptoBulkEntries {H : Type} : List (Lit × DataW H) → Nat
  | [] => 0
  | x :: r => uptoBulkEntry x + uptoBulkEntries r
def uptoBulkEntry {H : Type} : Lit × DataW H → Nat
  | (.string bytes, d) => bytes.length + uptoBulk d + 1
  | (_, d) => uptoBulk d + 1
 end
def uptoSmall : (H : Type) → List (DataW H) → Bool := fun _ ds => decide (uptoBulkAll ds ≤ 1048576)
def OpenSpec.upto (s : _root_.Go.ChangeSpec) : _root_.Go.OpenSpec := { _root_.Go.OpenSpec.ofChange s with cond := some uptoSmall }

/-- 'sparsetreelaw17.CodecIsShort', WHERE WHAT IT READS IS OF BULK AT MOST 1048576: true; the input reads as it did. -/
def codecIsShortUptoRow : OpenClaim := { program := "ytdfeimdhlagebaagreatdoor", sum := "619295bb20e42cb6b4669337c4dfd7f58a8982f32ada7712776998e11b631ca4", func := "sparsetree/sparsetreelaw17.CodecIsShort", spec := "codecIsShort", unfollowed := true, recurses := true, named := ["sparsetree/sha.rounds"], apart := false, laid := [("sparsetree/sha.rounds", laid_sparsetree_sha_rounds)], narrowed := true }
def CodecIsShortUptoSaid : Prop := codecIsShortUptoRow.holds Tryz.pinned (OpenSpec.upto codecIsShortSpec)

/-- 'sparsetreelaw19.MultiProves', WHERE WHAT IT READS IS OF BULK AT MOST 1048576: true; the input reads as it did. -/
def multiProvesUptoRow : OpenClaim := { program := "ytdfeimdhlagebaagreatdoor", sum := "619295bb20e42cb6b4669337c4dfd7f58a8982f32ada7712776998e11b631ca4", func := "sparsetree/sparsetreelaw19.MultiProves", spec := "multiProves", inPlace := ["internal/bytealg.Compare"], unfollowed := true, recurses := true, named := ["sparsetree/sha.rounds"], apart := false, laid := [("sparsetree/sha.rounds", laid_sparsetree_sha_rounds)], narrowed := true }
def MultiProvesUptoSaid : Prop := multiProvesUptoRow.holds Tryz.pinned (OpenSpec.upto multiProvesSpec)

/-- 'sparsetreelaw16.FoldLeads', WHERE WHAT IT READS IS OF BULK AT MOST 1048576: true; the input reads as it did. -/
def foldLeadsUptoRow : OpenClaim := { program := "ytdfeimdhlagebaagreatdoor", sum := "619295bb20e42cb6b4669337c4dfd7f58a8982f32ada7712776998e11b631ca4", func := "sparsetree/sparsetreelaw16.FoldLeads", spec := "foldLeads", unfollowed := true, recurses := true, named := ["sparsetree/sha.rounds"], apart := false, laid := [("sparsetree/sha.rounds", laid_sparsetree_sha_rounds)], narrowed := true }
def FoldLeadsUptoSaid : Prop := foldLeadsUptoRow.holds Tryz.pinned (OpenSpec.upto foldLeadsSpec)

/-- 'sparsetreelaw19.MultiLeads', WHERE WHAT IT READS IS OF BULK AT MOST 1048576: true; the input reads as it did. -/
def multiLeadsUptoRow : OpenClaim := { program := "ytdfeimdhlagebaagreatdoor", sum := "619295bb20e42cb6b4669337c4dfd7f58a8982f32ada7712776998e11b631ca4", func := "sparsetree/sparsetreelaw19.MultiLeads", spec := "multiLeads", inPlace := ["internal/bytealg.Compare"], unfollowed := true, recurses := true, named := ["sparsetree/sha.rounds"], apart := false, laid := [("sparsetree/sha.rounds", laid_sparsetree_sha_rounds)], narrowed := true }
def MultiLeadsUptoSaid : Prop := multiLeadsUptoRow.holds Tryz.pinned (OpenSpec.upto multiLeadsSpec)

/-- 'sparsetreelaw19.MultiPreimages', WHERE WHAT IT READS IS OF BULK AT MOST 1048576: true; the input reads as it did. -/
def multiPreimagesUptoRow : OpenClaim := { program := "ytdfeimdhlagebaagreatdoor", sum := "619295bb20e42cb6b4669337c4dfd7f58a8982f32ada7712776998e11b631ca4", func := "sparsetree/sparsetreelaw19.MultiPreimages", spec := "multiPreimages", inPlace := ["internal/bytealg.Compare"], unfollowed := true, recurses := true, named := ["sparsetree/sha.rounds"], apart := false, laid := [("sparsetree/sha.rounds", laid_sparsetree_sha_rounds)], narrowed := true }
def MultiPreimagesUptoSaid : Prop := multiPreimagesUptoRow.holds Tryz.pinned (OpenSpec.upto multiPreimagesSpec)

/-- 'sparsetreelaw15.ProofProves', WHERE WHAT IT READS IS OF BULK AT MOST 1048576: true; the input reads as it did. -/
def proofProvesUptoRow : OpenClaim := { program := "ytdfeimdhlagebaagreatdoor", sum := "619295bb20e42cb6b4669337c4dfd7f58a8982f32ada7712776998e11b631ca4", func := "sparsetree/sparsetreelaw15.ProofProves", spec := "proofProves", unfollowed := true, recurses := true, named := ["sparsetree/sha.rounds"], apart := false, laid := [("sparsetree/sha.rounds", laid_sparsetree_sha_rounds)], narrowed := true }
def ProofProvesUptoSaid : Prop := proofProvesUptoRow.holds Tryz.pinned (OpenSpec.upto proofProvesSpec)

/-- 'sparsetreelaw15.ProofIsTrue', WHERE WHAT IT READS IS OF BULK AT MOST 1048576: true; the input reads as it did. -/
def proofIsTrueUptoRow : OpenClaim := { program := "ytdfeimdhlagebaagreatdoor", sum := "619295bb20e42cb6b4669337c4dfd7f58a8982f32ada7712776998e11b631ca4", func := "sparsetree/sparsetreelaw15.ProofIsTrue", spec := "proofIsTrue", unfollowed := true, recurses := true, named := ["sparsetree/sha.rounds"], apart := false, laid := [("sparsetree/sha.rounds", laid_sparsetree_sha_rounds)], narrowed := true }
def ProofIsTrueUptoSaid : Prop := proofIsTrueUptoRow.holds Tryz.pinned (OpenSpec.upto proofIsTrueSpec)

end Rows
end Go.Proofs.YtdfeimdhlagebaaGreatDoor
