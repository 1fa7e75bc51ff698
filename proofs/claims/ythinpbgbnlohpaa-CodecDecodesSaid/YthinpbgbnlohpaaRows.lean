/-
  No cell of these rows narrows 'for every input' (looked for: loops, veiled, ifaces, maps, wideKeys, modest, calm, conditions, laid).
  DERIVED. THE GIVEN ROWS OF THIS SEAT. 8 by the template 'for every input the law returns true; each argument reads behind the call as it read before'; 0 by the template 'total and deterministic' (their statements: YthinpbgbnlohpaaTotals.lean).
  GIVEN WITH THE SEED: the statements are not yours to turn. If you find one false, say at which input.
  Laid BY PROGRAM, IN A SANDBOX (cutbox-rows.mjs): the forced cells as the released guide's own fill.sh prints them over the translation e6ea6e9ff8694ff9… (all of the seat's roots in one cut). By AI agents, Wed Nov 11 2026. No macro, syntax, notation, axiom, sorry.
-/
import Derived.Test.YthinpbgbnlohpaaChecked
import GoSem.Claim
import GoSem.ClaimJoined
import GoSem.ClaimMapViews
import Derived.JoinedTies
import Derived.KernelRfl
namespace Go.Proofs.Ythinpbgbnlohpaa
/- THE CELL 'sum', in the pinned program and in every row, IS THE sha256 OF THE DUMP (.gsa) THAT YthinpbgbnlohpaaProg.lean LOADS. Nothing in Lean hashes anything: it is a label: what it is worth is what the hold of that sum in a sandbox is worth. -/
noncomputable def Try.pinned : Pinned := { name := "ythinpbgbnlohpaa", sum := "e6ea6e9ff8694ff9454d37006c9d7615d15a309c11de6073be78925a608ee6ea", checked := Try.checked }
namespace Rows
def none {H : Type} : Left H := { results := [], args := [] }

/-- 'sparsetreelaw20.McodecEncodes': WHATEVER THE INPUT: true; the input reads as it did. -/
def mcodecEncodesSpec : ChangeSpec := { name := "mcodecEncodes", fn := fun _ => fun
  | [d] => { results := [.lit (.bool true)], args := [d] }
  | _ => none }
def mcodecEncodesRow : OpenClaim := { program := "ythinpbgbnlohpaa", sum := "e6ea6e9ff8694ff9454d37006c9d7615d15a309c11de6073be78925a608ee6ea", func := "sparsetree/sparsetreelaw20.McodecEncodes", spec := "mcodecEncodes", recurses := true, apart := false }
def McodecEncodesSaid : Prop := mcodecEncodesRow.holds Try.pinned (OpenSpec.ofChange mcodecEncodesSpec)

/-- ITS FALSE NEIGHBOUR: 'it returns false'. Refute it at one input. -/
def mcodecEncodesWrong : ChangeSpec := { name := "mcodecEncodes", fn := fun _ => fun
  | [d] => { results := [.lit (.bool false)], args := [d] }
  | _ => none }
def McodecEncodesWrongFalsely : Prop := mcodecEncodesRow.holds Try.pinned (OpenSpec.ofChange mcodecEncodesWrong)

/-- 'sparsetreelaw20.McodecInverts': WHATEVER THE INPUT: true; the input reads as it did. -/
def mcodecInvertsSpec : ChangeSpec := { name := "mcodecInverts", fn := fun _ => fun
  | [d1, d2] => { results := [.lit (.bool true)], args := [d1, d2] }
  | _ => none }
def mcodecInvertsRow : OpenClaim := { program := "ythinpbgbnlohpaa", sum := "e6ea6e9ff8694ff9454d37006c9d7615d15a309c11de6073be78925a608ee6ea", func := "sparsetree/sparsetreelaw20.McodecInverts", spec := "mcodecInverts", recurses := true, apart := false }
def McodecInvertsSaid : Prop := mcodecInvertsRow.holds Try.pinned (OpenSpec.ofChange mcodecInvertsSpec)

/-- ITS FALSE NEIGHBOUR: 'it returns false'. Refute it at one input. -/
def mcodecInvertsWrong : ChangeSpec := { name := "mcodecInverts", fn := fun _ => fun
  | [d1, d2] => { results := [.lit (.bool false)], args := [d1, d2] }
  | _ => none }
def McodecInvertsWrongFalsely : Prop := mcodecInvertsRow.holds Try.pinned (OpenSpec.ofChange mcodecInvertsWrong)

/-- 'sparsetreelaw20.McodecIsCanonical': WHATEVER THE INPUT: true; the input reads as it did. -/
def mcodecIsCanonicalSpec : ChangeSpec := { name := "mcodecIsCanonical", fn := fun _ => fun
  | [d] => { results := [.lit (.bool true)], args := [d] }
  | _ => none }
def mcodecIsCanonicalRow : OpenClaim := { program := "ythinpbgbnlohpaa", sum := "e6ea6e9ff8694ff9454d37006c9d7615d15a309c11de6073be78925a608ee6ea", func := "sparsetree/sparsetreelaw20.McodecIsCanonical", spec := "mcodecIsCanonical", recurses := true, apart := false }
def McodecIsCanonicalSaid : Prop := mcodecIsCanonicalRow.holds Try.pinned (OpenSpec.ofChange mcodecIsCanonicalSpec)

/-- ITS FALSE NEIGHBOUR: 'it returns false'. Refute it at one input. -/
def mcodecIsCanonicalWrong : ChangeSpec := { name := "mcodecIsCanonical", fn := fun _ => fun
  | [d] => { results := [.lit (.bool false)], args := [d] }
  | _ => none }
def McodecIsCanonicalWrongFalsely : Prop := mcodecIsCanonicalRow.holds Try.pinned (OpenSpec.ofChange mcodecIsCanonicalWrong)

/-- 'sparsetreelaw20.McodecDecodes': WHATEVER THE INPUT: true; the input reads as it did. -/
def mcodecDecodesSpec : ChangeSpec := { name := "mcodecDecodes", fn := fun _ => fun
  | [d] => { results := [.lit (.bool true)], args := [d] }
  | _ => none }
def mcodecDecodesRow : OpenClaim := { program := "ythinpbgbnlohpaa", sum := "e6ea6e9ff8694ff9454d37006c9d7615d15a309c11de6073be78925a608ee6ea", func := "sparsetree/sparsetreelaw20.McodecDecodes", spec := "mcodecDecodes", recurses := true, apart := false }
def McodecDecodesSaid : Prop := mcodecDecodesRow.holds Try.pinned (OpenSpec.ofChange mcodecDecodesSpec)

/-- ITS FALSE NEIGHBOUR: 'it returns false'. Refute it at one input. -/
def mcodecDecodesWrong : ChangeSpec := { name := "mcodecDecodes", fn := fun _ => fun
  | [d] => { results := [.lit (.bool false)], args := [d] }
  | _ => none }
def McodecDecodesWrongFalsely : Prop := mcodecDecodesRow.holds Try.pinned (OpenSpec.ofChange mcodecDecodesWrong)

/-- 'sparsetreelaw17.CodecEncodes': WHATEVER THE INPUT: true; the input reads as it did. -/
def codecEncodesSpec : ChangeSpec := { name := "codecEncodes", fn := fun _ => fun
  | [d] => { results := [.lit (.bool true)], args := [d] }
  | _ => none }
def codecEncodesRow : OpenClaim := { program := "ythinpbgbnlohpaa", sum := "e6ea6e9ff8694ff9454d37006c9d7615d15a309c11de6073be78925a608ee6ea", func := "sparsetree/sparsetreelaw17.CodecEncodes", spec := "codecEncodes", unfollowed := true, recurses := true, apart := false }
def CodecEncodesSaid : Prop := codecEncodesRow.holds Try.pinned (OpenSpec.ofChange codecEncodesSpec)

/-- ITS FALSE NEIGHBOUR: 'it returns false'. Refute it at one input. -/
def codecEncodesWrong : ChangeSpec := { name := "codecEncodes", fn := fun _ => fun
  | [d] => { results := [.lit (.bool false)], args := [d] }
  | _ => none }
def CodecEncodesWrongFalsely : Prop := codecEncodesRow.holds Try.pinned (OpenSpec.ofChange codecEncodesWrong)

/-- 'sparsetreelaw17.CodecIsCanonical': WHATEVER THE INPUT: true; the input reads as it did. -/
def codecIsCanonicalSpec : ChangeSpec := { name := "codecIsCanonical", fn := fun _ => fun
  | [d] => { results := [.lit (.bool true)], args := [d] }
  | _ => none }
def codecIsCanonicalRow : OpenClaim := { program := "ythinpbgbnlohpaa", sum := "e6ea6e9ff8694ff9454d37006c9d7615d15a309c11de6073be78925a608ee6ea", func := "sparsetree/sparsetreelaw17.CodecIsCanonical", spec := "codecIsCanonical", unfollowed := true, recurses := true, apart := false }
def CodecIsCanonicalSaid : Prop := codecIsCanonicalRow.holds Try.pinned (OpenSpec.ofChange codecIsCanonicalSpec)

/-- ITS FALSE NEIGHBOUR: 'it returns false'. Refute it at one input. -/
def codecIsCanonicalWrong : ChangeSpec := { name := "codecIsCanonical", fn := fun _ => fun
  | [d] => { results := [.lit (.bool false)], args := [d] }
  | _ => none }
def CodecIsCanonicalWrongFalsely : Prop := codecIsCanonicalRow.holds Try.pinned (OpenSpec.ofChange codecIsCanonicalWrong)

/-- 'sparsetreelaw17.CodecKinds': WHATEVER THE INPUT: true; the input reads as it did. -/
def codecKindsSpec : ChangeSpec := { name := "codecKinds", fn := fun _ => fun
  | [d] => { results := [.lit (.bool true)], args := [d] }
  | _ => none }
def codecKindsRow : OpenClaim := { program := "ythinpbgbnlohpaa", sum := "e6ea6e9ff8694ff9454d37006c9d7615d15a309c11de6073be78925a608ee6ea", func := "sparsetree/sparsetreelaw17.CodecKinds", spec := "codecKinds", unfollowed := true, recurses := true, apart := false }
def CodecKindsSaid : Prop := codecKindsRow.holds Try.pinned (OpenSpec.ofChange codecKindsSpec)

/-- ITS FALSE NEIGHBOUR: 'it returns false'. Refute it at one input. -/
def codecKindsWrong : ChangeSpec := { name := "codecKinds", fn := fun _ => fun
  | [d] => { results := [.lit (.bool false)], args := [d] }
  | _ => none }
def CodecKindsWrongFalsely : Prop := codecKindsRow.holds Try.pinned (OpenSpec.ofChange codecKindsWrong)

/-- 'sparsetreelaw17.CodecDecodes': WHATEVER THE INPUT: true; the input reads as it did. -/
def codecDecodesSpec : ChangeSpec := { name := "codecDecodes", fn := fun _ => fun
  | [d] => { results := [.lit (.bool true)], args := [d] }
  | _ => none }
def codecDecodesRow : OpenClaim := { program := "ythinpbgbnlohpaa", sum := "e6ea6e9ff8694ff9454d37006c9d7615d15a309c11de6073be78925a608ee6ea", func := "sparsetree/sparsetreelaw17.CodecDecodes", spec := "codecDecodes", unfollowed := true, recurses := true, apart := false }
def CodecDecodesSaid : Prop := codecDecodesRow.holds Try.pinned (OpenSpec.ofChange codecDecodesSpec)

/-- ITS FALSE NEIGHBOUR: 'it returns false'. Refute it at one input. -/
def codecDecodesWrong : ChangeSpec := { name := "codecDecodes", fn := fun _ => fun
  | [d] => { results := [.lit (.bool false)], args := [d] }
  | _ => none }
def CodecDecodesWrongFalsely : Prop := codecDecodesRow.holds Try.pinned (OpenSpec.ofChange codecDecodesWrong)

/- THE SECOND FORM. 'bulk': how many values and letters a reading holds, each counted each time it is reached (what is shared counts as often as it is met; a slice's spare places count too). A statement '..UptoSaid' is the law's where the arguments, and the package variables that the reading takes, are together of bulk at most 1048576: NARROWER than '..Said'. Prove '..Said' where nothing that the law and all that it calls make is longer than what came in: it says more and counts as full. Else prove '..UptoSaid'. A law counts once. -/
mutual
def uptoBulk {H : Type} : DataW H → Nat
  | .lit (.string bytes) => bytes.length + 1
  | .lit _ => 1
  | .nil => 1
  | .ptr d => uptoBulk d + 1
  | .slice elems spare => uptoBulkAll elems + uptoBulkAll spare + 1
  | .agg parts => uptoBulkAll parts + 1
  | .iface _ d => uptoBulk d + 1
  | .map entries => uptoBulkEntries entries + 1
  | .held _ => 1
def uptoBulkAll {H : Type} : List (DataW H) → Nat
  | [] => 0
  | d :: r => uptoBulk d + uptoBulkAll r
def uptoBulkEntries {H : Type} : List (Lit × DataW H) → Nat
  | [] => 0
  | x :: r => uptoBulkEntry x + uptoBulkEntries r
def uptoBulkEntry {H : Type} : Lit × DataW H → Nat
  | (.string bytes, d) => bytes.length + uptoBulk d + 1
  | (_, d) => uptoBulk d + 1
 end
def uptoSmall : (H : Type) → List (DataW H) → Bool := fun _ ds => decide (uptoBulkAll ds ≤ 1048576)
def OpenSpec.upto (s : _root_.Go.ChangeSpec) : _root_.Go.OpenSpec := { _root_.Go.OpenSpec.ofChange s with cond := some uptoSmall }

/-- 'sparsetreelaw20.McodecEncodes', WHERE WHAT IT READS IS OF BULK AT MOST 1048576: true; the input reads as it did. -/
def mcodecEncodesUptoRow : OpenClaim := { program := "ythinpbgbnlohpaa", sum := "e6ea6e9ff8694ff9454d37006c9d7615d15a309c11de6073be78925a608ee6ea", func := "sparsetree/sparsetreelaw20.McodecEncodes", spec := "mcodecEncodes", recurses := true, apart := false, narrowed := true }
def McodecEncodesUptoSaid : Prop := mcodecEncodesUptoRow.holds Try.pinned (OpenSpec.upto mcodecEncodesSpec)

/-- 'sparsetreelaw20.McodecInverts', WHERE WHAT IT READS IS OF BULK AT MOST 1048576: true; the input reads as it did. -/
def mcodecInvertsUptoRow : OpenClaim := { program := "ythinpbgbnlohpaa", sum := "e6ea6e9ff8694ff9454d37006c9d7615d15a309c11de6073be78925a608ee6ea", func := "sparsetree/sparsetreelaw20.McodecInverts", spec := "mcodecInverts", recurses := true, apart := false, narrowed := true }
def McodecInvertsUptoSaid : Prop := mcodecInvertsUptoRow.holds Try.pinned (OpenSpec.upto mcodecInvertsSpec)

/-- 'sparsetreelaw20.McodecIsCanonical', WHERE WHAT IT READS IS OF BULK AT MOST 1048576: true; the input reads as it did. -/
def mcodecIsCanonicalUptoRow : OpenClaim := { program := "ythinpbgbnlohpaa", sum := "e6ea6e9ff8694ff9454d37006c9d7615d15a309c11de6073be78925a608ee6ea", func := "sparsetree/sparsetreelaw20.McodecIsCanonical", spec := "mcodecIsCanonical", recurses := true, apart := false, narrowed := true }
def McodecIsCanonicalUptoSaid : Prop := mcodecIsCanonicalUptoRow.holds Try.pinned (OpenSpec.upto mcodecIsCanonicalSpec)

/-- 'sparsetreelaw20.McodecDecodes', WHERE WHAT IT READS IS OF BULK AT MOST 1048576: true; the input reads as it did. -/
def mcodecDecodesUptoRow : OpenClaim := { program := "ythinpbgbnlohpaa", sum := "e6ea6e9ff8694ff9454d37006c9d7615d15a309c11de6073be78925a608ee6ea", func := "sparsetree/sparsetreelaw20.McodecDecodes", spec := "mcodecDecodes", recurses := true, apart := false, narrowed := true }
def McodecDecodesUptoSaid : Prop := mcodecDecodesUptoRow.holds Try.pinned (OpenSpec.upto mcodecDecodesSpec)

/-- 'sparsetreelaw17.CodecEncodes', WHERE WHAT IT READS IS OF BULK AT MOST 1048576: true; the input reads as it did. -/
def codecEncodesUptoRow : OpenClaim := { program := "ythinpbgbnlohpaa", sum := "e6ea6e9ff8694ff9454d37006c9d7615d15a309c11de6073be78925a608ee6ea", func := "sparsetree/sparsetreelaw17.CodecEncodes", spec := "codecEncodes", unfollowed := true, recurses := true, apart := false, narrowed := true }
def CodecEncodesUptoSaid : Prop := codecEncodesUptoRow.holds Try.pinned (OpenSpec.upto codecEncodesSpec)

/-- 'sparsetreelaw17.CodecIsCanonical', WHERE WHAT IT READS IS OF BULK AT MOST 1048576: true; the input reads as it did. -/
def codecIsCanonicalUptoRow : OpenClaim := { program := "ythinpbgbnlohpaa", sum := "e6ea6e9ff8694ff9454d37006c9d7615d15a309c11de6073be78925a608ee6ea", func := "sparsetree/sparsetreelaw17.CodecIsCanonical", spec := "codecIsCanonical", unfollowed := true, recurses := true, apart := false, narrowed := true }
def CodecIsCanonicalUptoSaid : Prop := codecIsCanonicalUptoRow.holds Try.pinned (OpenSpec.upto codecIsCanonicalSpec)

/-- 'sparsetreelaw17.CodecKinds', WHERE WHAT IT READS IS OF BULK AT MOST 1048576: true; the input reads as it did. -/
def codecKindsUptoRow : OpenClaim := { program := "ythinpbgbnlohpaa", sum := "e6ea6e9ff8694ff9454d37006c9d7615d15a309c11de6073be78925a608ee6ea", func := "sparsetree/sparsetreelaw17.CodecKinds", spec := "codecKinds", unfollowed := true, recurses := true, apart := false, narrowed := true }
def CodecKindsUptoSaid : Prop := codecKindsUptoRow.holds Try.pinned (OpenSpec.upto codecKindsSpec)

/-- 'sparsetreelaw17.CodecDecodes', WHERE WHAT IT READS IS OF BULK AT MOST 1048576: true; the input reads as it did. -/
def codecDecodesUptoRow : OpenClaim := { program := "ythinpbgbnlohpaa", sum := "e6ea6e9ff8694ff9454d37006c9d7615d15a309c11de6073be78925a608ee6ea", func := "sparsetree/sparsetreelaw17.CodecDecodes", spec := "codecDecodes", unfollowed := true, recurses := true, apart := false, narrowed := true }
def CodecDecodesUptoSaid : Prop := codecDecodesUptoRow.holds Try.pinned (OpenSpec.upto codecDecodesSpec)

end Rows
end Go.Proofs.Ythinpbgbnlohpaa
