/- The program's structs: their cells, and what stands where. Printed by gens.py. -/
import Derived.Test.YthinpbgbnlohpaaS2
namespace Go.Proofs.Ythinpbgbnlohpaa
set_option linter.unusedSimpArgs false
set_option linter.unusedVariables false
open Go.RowKit
structure Sl where
  A : Option Addr
  n : Nat
  c : Nat
theorem RowAt.mk' {cs pre out post : List Value} {off n : Nat} (h : cs = pre ++ (out ++ post)) (hp : pre.length = off) (ho : out.length = n) : RowAt cs off n out := by
  subst h; subst hp
  refine ⟨fun j v hv => ?_, ho⟩
  rw [List.getElem?_append_right (by omega), Nat.add_sub_cancel_left, List.getElem?_append_left (by have := (List.getElem?_eq_some_iff.1 hv).1; exact this)]
  exact hv
theorem CellAt.mk' {cs pre post : List Value} {off : Nat} {v : Value} (h : cs = pre ++ (v :: post)) (hp : pre.length = off) : CellAt cs off v := by
  subst h; subst hp
  exact ⟨by simp⟩
theorem SetAt.mk' {cs pre old new post out : List Value} {off : Nat} (h : cs = pre ++ (old ++ post)) (h' : out = pre ++ (new ++ post)) (hp : pre.length = off) (hl : old.length = new.length) : SetAt cs off new out := by
  subst h; subst hp; subst h'
  refine ⟨?_, by simp [hl]⟩
  rw [List.take_left, ← hl, List.drop_append, List.drop_of_length_le (by omega), Nat.add_sub_cancel_left, List.drop_left]
  simp
/-- the cells of one value -/
class VCells (v : Value) (cs : outParam (List Value)) : Prop where
  eq : v.cells = cs.toArray
instance (cs : List Value) : VCells (.agg cs.toArray) cs := ⟨rfl⟩
instance (k : IntKind) (n : Int) : VCells (.int k n) [.int k n] := ⟨rfl⟩
instance (b : Bool) : VCells (.bool b) [.bool b] := ⟨rfl⟩
instance (s : ByteArray) : VCells (.string s) [.string s] := ⟨rfl⟩
instance (p : Option Addr) : VCells (.pointer p) [.pointer p] := ⟨rfl⟩
instance (A : Option Addr) (n c : Nat) : VCells (.slice A n c) [.slice A n c] := ⟨rfl⟩
instance : VCells .nilIface [.nilIface] := ⟨rfl⟩
instance (t : TypeId) (v : Value) : VCells (.iface t v) [.iface t v] := ⟨rfl⟩
instance : VCells .nilFunc [.nilFunc] := ⟨rfl⟩
instance (f : Fn) (c d : Array Value) : VCells (.func f c d) [.func f c d] := ⟨rfl⟩
/-- part i of a struct or an array: where it stands, how many cells it has -/
class TF (P : Program) (T : TypeId) (i : Nat) (off n : outParam Nat) : Prop where
  off : ∃ d, P.underlying T = some d ∧ ((∃ fs f, d = .struct fs ∧ fs[i]? = some f ∧ f.offset = off ∧ (P.info? f.type).map (·.size) = some n) ∨ ∃ m e, d = .array m e ∧ (P.info? e).map (·.size) = some n ∧ off = i * n)
class Builds (P : Program) (T : TypeId) (cs : List Value) (ps : List (Nat × Value)) (out : outParam (List Value)) : Prop where
  eq : True

instance (x : Leaf) : Row x.cells 64 := ⟨Leaf.cells_length x, Leaf.cells_one x⟩
instance (x : Leaf) : RowAt x.cells 0 64 x.cells := .whole (Leaf.cells_length x)
instance (x y : Leaf) : SetAt x.cells 0 y.cells y.cells := .whole (by rw [Leaf.cells_length, Leaf.cells_length])
instance (x : Leaf) : RowAt x.cells 0 32 x.key.cells := .mk' (pre := []) (post := (x.value.cells)) (by simp [Leaf.cells]) (by rfl) (B32.cells_length _)
instance (x : Leaf) (y : B32) : SetAt x.cells 0 y.cells ({ x with key := y } : Leaf).cells := .mk' (pre := []) (old := x.key.cells) (post := (x.value.cells)) (by simp [Leaf.cells]) (by simp [Leaf.cells]) (by rfl) (by rw [B32.cells_length, B32.cells_length])
instance (x : Leaf) : RowAt x.cells 32 32 x.value.cells := .mk' (pre := (x.key.cells)) (post := []) (by simp [Leaf.cells]) (by simp [B32.cells_length, Leaf.cells_length, Item.cells_length]) (B32.cells_length _)
instance (x : Leaf) (y : B32) : SetAt x.cells 32 y.cells ({ x with value := y } : Leaf).cells := .mk' (pre := (x.key.cells)) (old := x.value.cells) (post := []) (by simp [Leaf.cells]) (by simp [Leaf.cells]) (by simp [B32.cells_length, Leaf.cells_length, Item.cells_length]) (by rw [B32.cells_length, B32.cells_length])
instance (x : Item) : Row x.cells 97 := ⟨Item.cells_length x, Item.cells_one x⟩
instance (x : Item) : RowAt x.cells 0 97 x.cells := .whole (Item.cells_length x)
instance (x y : Item) : SetAt x.cells 0 y.cells y.cells := .whole (by rw [Item.cells_length, Item.cells_length])
instance (x : Item) : CellAt x.cells 0 (.int .i64 x.kind) := .mk' (pre := []) (post := (x.digest.cells ++ x.leaf.cells)) (by simp [Leaf.cells, Item.cells]) (by rfl)
instance (x : Item) (y : Int) : SetAt x.cells 0 [.int .i64 y] ({ x with kind := y } : Item).cells := .mk' (pre := []) (old := [.int .i64 x.kind]) (post := (x.digest.cells ++ x.leaf.cells)) (by simp [Leaf.cells, Item.cells]) (by simp [Leaf.cells, Item.cells]) (by rfl) rfl
instance (x : Item) : RowAt x.cells 1 32 x.digest.cells := .mk' (pre := ([.int .i64 x.kind])) (post := (x.leaf.cells)) (by simp [Leaf.cells, Item.cells]) (by simp [B32.cells_length, Leaf.cells_length, Item.cells_length]) (B32.cells_length _)
instance (x : Item) (y : B32) : SetAt x.cells 1 y.cells ({ x with digest := y } : Item).cells := .mk' (pre := ([.int .i64 x.kind])) (old := x.digest.cells) (post := (x.leaf.cells)) (by simp [Leaf.cells, Item.cells]) (by simp [Leaf.cells, Item.cells]) (by simp [B32.cells_length, Leaf.cells_length, Item.cells_length]) (by rw [B32.cells_length, B32.cells_length])
instance (x : Item) : RowAt x.cells 33 64 x.leaf.cells := .mk' (pre := ([.int .i64 x.kind] ++ x.digest.cells)) (post := []) (by simp [Item.cells]) (by simp [B32.cells_length, Leaf.cells_length, Item.cells_length]) (Leaf.cells_length _)
instance (x : Item) (y : Leaf) : SetAt x.cells 33 y.cells ({ x with leaf := y } : Item).cells := .mk' (pre := ([.int .i64 x.kind] ++ x.digest.cells)) (old := x.leaf.cells) (post := []) (by simp [Item.cells]) (by simp [Item.cells]) (by simp [B32.cells_length, Leaf.cells_length, Item.cells_length]) (by rw [Leaf.cells_length, Leaf.cells_length])
instance (x : Item) : RowAt x.cells 33 32 x.leaf.key.cells := .mk' (pre := ([.int .i64 x.kind] ++ x.digest.cells)) (post := (x.leaf.value.cells)) (by simp [Leaf.cells, Item.cells]) (by simp [B32.cells_length, Leaf.cells_length, Item.cells_length]) (B32.cells_length _)
instance (x : Item) (y : B32) : SetAt x.cells 33 y.cells ({ x with leaf.key := y } : Item).cells := .mk' (pre := ([.int .i64 x.kind] ++ x.digest.cells)) (old := x.leaf.key.cells) (post := (x.leaf.value.cells)) (by simp [Leaf.cells, Item.cells]) (by simp [Leaf.cells, Item.cells]) (by simp [B32.cells_length, Leaf.cells_length, Item.cells_length]) (by rw [B32.cells_length, B32.cells_length])
instance (x : Item) : RowAt x.cells 65 32 x.leaf.value.cells := .mk' (pre := ([.int .i64 x.kind] ++ x.digest.cells ++ x.leaf.key.cells)) (post := []) (by simp [Leaf.cells, Item.cells]) (by simp [B32.cells_length, Leaf.cells_length, Item.cells_length]) (B32.cells_length _)
instance (x : Item) (y : B32) : SetAt x.cells 65 y.cells ({ x with leaf.value := y } : Item).cells := .mk' (pre := ([.int .i64 x.kind] ++ x.digest.cells ++ x.leaf.key.cells)) (old := x.leaf.value.cells) (post := []) (by simp [Leaf.cells, Item.cells]) (by simp [Leaf.cells, Item.cells]) (by simp [B32.cells_length, Leaf.cells_length, Item.cells_length]) (by rw [B32.cells_length, B32.cells_length])
structure Proof where
  kind : Int
  depth : Int
  leaf : Leaf
  bitmap : B32
  sibs : Sl
def Proof.cells (x : Proof) : List Value := [.int .i64 x.kind] ++ ([.int .i64 x.depth] ++ (x.leaf.cells ++ (x.bitmap.cells ++ ([.slice x.sibs.A x.sibs.n x.sibs.c] ++ []))))
def zProof : Proof := ⟨0, 0, zLeaf, zB32, ⟨none, 0, 0⟩⟩
theorem Proof.cells_length (x : Proof) : x.cells.length = 99 := by simp [Proof.cells, B32.cells_length, Leaf.cells_length, Item.cells_length]
theorem Proof.cells_one (x : Proof) : ∀ v ∈ x.cells, v.oneCell' = true := by
  intro v hv
  simp only [Proof.cells, List.mem_append, List.mem_singleton, List.not_mem_nil, or_false] at hv
  rcases hv with rfl | rfl | h | h | rfl
  · exact rfl
  · exact rfl
  · exact Leaf.cells_one _ v h
  · exact B32.cells_one _ v h
  · exact rfl
instance (x : Proof) : Row x.cells 99 := ⟨Proof.cells_length x, Proof.cells_one x⟩
instance (x : Proof) : RowAt x.cells 0 99 x.cells := .whole (Proof.cells_length x)
instance (x y : Proof) : SetAt x.cells 0 y.cells y.cells := .whole (by rw [Proof.cells_length, Proof.cells_length])
instance (x : Proof) : CellAt x.cells 0 (.int .i64 x.kind) := .mk' (pre := []) (post := ([.int .i64 x.depth] ++ x.leaf.cells ++ x.bitmap.cells ++ [.slice x.sibs.A x.sibs.n x.sibs.c])) (by simp [Leaf.cells, Proof.cells]) (by rfl)
instance (x : Proof) (y : Int) : SetAt x.cells 0 [.int .i64 y] ({ x with kind := y } : Proof).cells := .mk' (pre := []) (old := [.int .i64 x.kind]) (post := ([.int .i64 x.depth] ++ x.leaf.cells ++ x.bitmap.cells ++ [.slice x.sibs.A x.sibs.n x.sibs.c])) (by simp [Leaf.cells, Proof.cells]) (by simp [Leaf.cells, Proof.cells]) (by rfl) rfl
instance (x : Proof) : CellAt x.cells 1 (.int .i64 x.depth) := .mk' (pre := ([.int .i64 x.kind])) (post := (x.leaf.cells ++ x.bitmap.cells ++ [.slice x.sibs.A x.sibs.n x.sibs.c])) (by simp [Leaf.cells, Proof.cells]) (by simp [B32.cells_length, Leaf.cells_length, Item.cells_length])
instance (x : Proof) (y : Int) : SetAt x.cells 1 [.int .i64 y] ({ x with depth := y } : Proof).cells := .mk' (pre := ([.int .i64 x.kind])) (old := [.int .i64 x.depth]) (post := (x.leaf.cells ++ x.bitmap.cells ++ [.slice x.sibs.A x.sibs.n x.sibs.c])) (by simp [Leaf.cells, Proof.cells]) (by simp [Leaf.cells, Proof.cells]) (by simp [B32.cells_length, Leaf.cells_length, Item.cells_length]) rfl
instance (x : Proof) : RowAt x.cells 2 64 x.leaf.cells := .mk' (pre := ([.int .i64 x.kind] ++ [.int .i64 x.depth])) (post := (x.bitmap.cells ++ [.slice x.sibs.A x.sibs.n x.sibs.c])) (by simp [Proof.cells]) (by simp [B32.cells_length, Leaf.cells_length, Item.cells_length]) (Leaf.cells_length _)
instance (x : Proof) (y : Leaf) : SetAt x.cells 2 y.cells ({ x with leaf := y } : Proof).cells := .mk' (pre := ([.int .i64 x.kind] ++ [.int .i64 x.depth])) (old := x.leaf.cells) (post := (x.bitmap.cells ++ [.slice x.sibs.A x.sibs.n x.sibs.c])) (by simp [Proof.cells]) (by simp [Proof.cells]) (by simp [B32.cells_length, Leaf.cells_length, Item.cells_length]) (by rw [Leaf.cells_length, Leaf.cells_length])
instance (x : Proof) : RowAt x.cells 2 32 x.leaf.key.cells := .mk' (pre := ([.int .i64 x.kind] ++ [.int .i64 x.depth])) (post := (x.leaf.value.cells ++ x.bitmap.cells ++ [.slice x.sibs.A x.sibs.n x.sibs.c])) (by simp [Leaf.cells, Proof.cells]) (by simp [B32.cells_length, Leaf.cells_length, Item.cells_length]) (B32.cells_length _)
instance (x : Proof) (y : B32) : SetAt x.cells 2 y.cells ({ x with leaf.key := y } : Proof).cells := .mk' (pre := ([.int .i64 x.kind] ++ [.int .i64 x.depth])) (old := x.leaf.key.cells) (post := (x.leaf.value.cells ++ x.bitmap.cells ++ [.slice x.sibs.A x.sibs.n x.sibs.c])) (by simp [Leaf.cells, Proof.cells]) (by simp [Leaf.cells, Proof.cells]) (by simp [B32.cells_length, Leaf.cells_length, Item.cells_length]) (by rw [B32.cells_length, B32.cells_length])
instance (x : Proof) : RowAt x.cells 34 32 x.leaf.value.cells := .mk' (pre := ([.int .i64 x.kind] ++ [.int .i64 x.depth] ++ x.leaf.key.cells)) (post := (x.bitmap.cells ++ [.slice x.sibs.A x.sibs.n x.sibs.c])) (by simp [Leaf.cells, Proof.cells]) (by simp [B32.cells_length, Leaf.cells_length, Item.cells_length]) (B32.cells_length _)
instance (x : Proof) (y : B32) : SetAt x.cells 34 y.cells ({ x with leaf.value := y } : Proof).cells := .mk' (pre := ([.int .i64 x.kind] ++ [.int .i64 x.depth] ++ x.leaf.key.cells)) (old := x.leaf.value.cells) (post := (x.bitmap.cells ++ [.slice x.sibs.A x.sibs.n x.sibs.c])) (by simp [Leaf.cells, Proof.cells]) (by simp [Leaf.cells, Proof.cells]) (by simp [B32.cells_length, Leaf.cells_length, Item.cells_length]) (by rw [B32.cells_length, B32.cells_length])
instance (x : Proof) : RowAt x.cells 66 32 x.bitmap.cells := .mk' (pre := ([.int .i64 x.kind] ++ [.int .i64 x.depth] ++ x.leaf.cells)) (post := ([.slice x.sibs.A x.sibs.n x.sibs.c])) (by simp [Leaf.cells, Proof.cells]) (by simp [B32.cells_length, Leaf.cells_length, Item.cells_length]) (B32.cells_length _)
instance (x : Proof) (y : B32) : SetAt x.cells 66 y.cells ({ x with bitmap := y } : Proof).cells := .mk' (pre := ([.int .i64 x.kind] ++ [.int .i64 x.depth] ++ x.leaf.cells)) (old := x.bitmap.cells) (post := ([.slice x.sibs.A x.sibs.n x.sibs.c])) (by simp [Leaf.cells, Proof.cells]) (by simp [Leaf.cells, Proof.cells]) (by simp [B32.cells_length, Leaf.cells_length, Item.cells_length]) (by rw [B32.cells_length, B32.cells_length])
instance (x : Proof) : CellAt x.cells 98 (.slice x.sibs.A x.sibs.n x.sibs.c) := .mk' (pre := ([.int .i64 x.kind] ++ [.int .i64 x.depth] ++ x.leaf.cells ++ x.bitmap.cells)) (post := []) (by simp [Leaf.cells, Proof.cells]) (by simp [B32.cells_length, Leaf.cells_length, Item.cells_length])
instance (x : Proof) (A : Option Addr) (m c : Nat) : SetAt x.cells 98 [.slice A m c] ({ x with sibs := ⟨A, m, c⟩ } : Proof).cells := .mk' (pre := ([.int .i64 x.kind] ++ [.int .i64 x.depth] ++ x.leaf.cells ++ x.bitmap.cells)) (old := [.slice x.sibs.A x.sibs.n x.sibs.c]) (post := []) (by simp [Leaf.cells, Proof.cells]) (by simp [Leaf.cells, Proof.cells]) (by simp [B32.cells_length, Leaf.cells_length, Item.cells_length]) rfl
instance (x : Proof) (y : Sl) : SetAt x.cells 98 [.slice y.A y.n y.c] ({ x with sibs := y } : Proof).cells := .mk' (pre := ([.int .i64 x.kind] ++ [.int .i64 x.depth] ++ x.leaf.cells ++ x.bitmap.cells)) (old := [.slice x.sibs.A x.sibs.n x.sibs.c]) (post := []) (by simp [Leaf.cells, Proof.cells]) (by simp [Leaf.cells, Proof.cells]) (by simp [B32.cells_length, Leaf.cells_length, Item.cells_length]) rfl
structure Entry where
  key : B32
  value : Sl
def Entry.cells (x : Entry) : List Value := x.key.cells ++ ([.slice x.value.A x.value.n x.value.c] ++ [])
def zEntry : Entry := ⟨zB32, ⟨none, 0, 0⟩⟩
theorem Entry.cells_length (x : Entry) : x.cells.length = 33 := by simp [Entry.cells, B32.cells_length, Leaf.cells_length, Item.cells_length]
theorem Entry.cells_one (x : Entry) : ∀ v ∈ x.cells, v.oneCell' = true := by
  intro v hv
  simp only [Entry.cells, List.mem_append, List.mem_singleton, List.not_mem_nil, or_false] at hv
  rcases hv with h | rfl
  · exact B32.cells_one _ v h
  · exact rfl
instance (x : Entry) : Row x.cells 33 := ⟨Entry.cells_length x, Entry.cells_one x⟩
instance (x : Entry) : RowAt x.cells 0 33 x.cells := .whole (Entry.cells_length x)
instance (x y : Entry) : SetAt x.cells 0 y.cells y.cells := .whole (by rw [Entry.cells_length, Entry.cells_length])
instance (x : Entry) : RowAt x.cells 0 32 x.key.cells := .mk' (pre := []) (post := ([.slice x.value.A x.value.n x.value.c])) (by simp [Entry.cells]) (by rfl) (B32.cells_length _)
instance (x : Entry) (y : B32) : SetAt x.cells 0 y.cells ({ x with key := y } : Entry).cells := .mk' (pre := []) (old := x.key.cells) (post := ([.slice x.value.A x.value.n x.value.c])) (by simp [Entry.cells]) (by simp [Entry.cells]) (by rfl) (by rw [B32.cells_length, B32.cells_length])
instance (x : Entry) : CellAt x.cells 32 (.slice x.value.A x.value.n x.value.c) := .mk' (pre := (x.key.cells)) (post := []) (by simp [Entry.cells]) (by simp [B32.cells_length, Leaf.cells_length, Item.cells_length])
instance (x : Entry) (A : Option Addr) (m c : Nat) : SetAt x.cells 32 [.slice A m c] ({ x with value := ⟨A, m, c⟩ } : Entry).cells := .mk' (pre := (x.key.cells)) (old := [.slice x.value.A x.value.n x.value.c]) (post := []) (by simp [Entry.cells]) (by simp [Entry.cells]) (by simp [B32.cells_length, Leaf.cells_length, Item.cells_length]) rfl
instance (x : Entry) (y : Sl) : SetAt x.cells 32 [.slice y.A y.n y.c] ({ x with value := y } : Entry).cells := .mk' (pre := (x.key.cells)) (old := [.slice x.value.A x.value.n x.value.c]) (post := []) (by simp [Entry.cells]) (by simp [Entry.cells]) (by simp [B32.cells_length, Leaf.cells_length, Item.cells_length]) rfl
structure Claim where
  key : Sl
  value : Sl
  present : Bool
def Claim.cells (x : Claim) : List Value := [.slice x.key.A x.key.n x.key.c] ++ ([.slice x.value.A x.value.n x.value.c] ++ ([.bool x.present] ++ []))
def zClaim : Claim := ⟨⟨none, 0, 0⟩, ⟨none, 0, 0⟩, false⟩
theorem Claim.cells_length (x : Claim) : x.cells.length = 3 := by simp [Claim.cells, B32.cells_length, Leaf.cells_length, Item.cells_length]
theorem Claim.cells_one (x : Claim) : ∀ v ∈ x.cells, v.oneCell' = true := by
  intro v hv
  simp only [Claim.cells, List.mem_append, List.mem_singleton, List.not_mem_nil, or_false] at hv
  rcases hv with rfl | rfl | rfl
  · exact rfl
  · exact rfl
  · exact rfl
instance (x : Claim) : Row x.cells 3 := ⟨Claim.cells_length x, Claim.cells_one x⟩
instance (x : Claim) : RowAt x.cells 0 3 x.cells := .whole (Claim.cells_length x)
instance (x y : Claim) : SetAt x.cells 0 y.cells y.cells := .whole (by rw [Claim.cells_length, Claim.cells_length])
instance (x : Claim) : CellAt x.cells 0 (.slice x.key.A x.key.n x.key.c) := .mk' (pre := []) (post := ([.slice x.value.A x.value.n x.value.c] ++ [.bool x.present])) (by simp [Claim.cells]) (by rfl)
instance (x : Claim) (A : Option Addr) (m c : Nat) : SetAt x.cells 0 [.slice A m c] ({ x with key := ⟨A, m, c⟩ } : Claim).cells := .mk' (pre := []) (old := [.slice x.key.A x.key.n x.key.c]) (post := ([.slice x.value.A x.value.n x.value.c] ++ [.bool x.present])) (by simp [Claim.cells]) (by simp [Claim.cells]) (by rfl) rfl
instance (x : Claim) (y : Sl) : SetAt x.cells 0 [.slice y.A y.n y.c] ({ x with key := y } : Claim).cells := .mk' (pre := []) (old := [.slice x.key.A x.key.n x.key.c]) (post := ([.slice x.value.A x.value.n x.value.c] ++ [.bool x.present])) (by simp [Claim.cells]) (by simp [Claim.cells]) (by rfl) rfl
instance (x : Claim) : CellAt x.cells 1 (.slice x.value.A x.value.n x.value.c) := .mk' (pre := ([.slice x.key.A x.key.n x.key.c])) (post := ([.bool x.present])) (by simp [Claim.cells]) (by simp [B32.cells_length, Leaf.cells_length, Item.cells_length])
instance (x : Claim) (A : Option Addr) (m c : Nat) : SetAt x.cells 1 [.slice A m c] ({ x with value := ⟨A, m, c⟩ } : Claim).cells := .mk' (pre := ([.slice x.key.A x.key.n x.key.c])) (old := [.slice x.value.A x.value.n x.value.c]) (post := ([.bool x.present])) (by simp [Claim.cells]) (by simp [Claim.cells]) (by simp [B32.cells_length, Leaf.cells_length, Item.cells_length]) rfl
instance (x : Claim) (y : Sl) : SetAt x.cells 1 [.slice y.A y.n y.c] ({ x with value := y } : Claim).cells := .mk' (pre := ([.slice x.key.A x.key.n x.key.c])) (old := [.slice x.value.A x.value.n x.value.c]) (post := ([.bool x.present])) (by simp [Claim.cells]) (by simp [Claim.cells]) (by simp [B32.cells_length, Leaf.cells_length, Item.cells_length]) rfl
instance (x : Claim) : CellAt x.cells 2 (.bool x.present) := .mk' (pre := ([.slice x.key.A x.key.n x.key.c] ++ [.slice x.value.A x.value.n x.value.c])) (post := []) (by simp [Claim.cells]) (by simp [B32.cells_length, Leaf.cells_length, Item.cells_length])
instance (x : Claim) (y : Bool) : SetAt x.cells 2 [.bool y] ({ x with present := y } : Claim).cells := .mk' (pre := ([.slice x.key.A x.key.n x.key.c] ++ [.slice x.value.A x.value.n x.value.c])) (old := [.bool x.present]) (post := []) (by simp [Claim.cells]) (by simp [Claim.cells]) (by simp [B32.cells_length, Leaf.cells_length, Item.cells_length]) rfl
structure End where
  item : Item
  depth : Int
def End.cells (x : End) : List Value := x.item.cells ++ ([.int .i64 x.depth] ++ [])
def zEnd : End := ⟨zItem, 0⟩
theorem End.cells_length (x : End) : x.cells.length = 98 := by simp [End.cells, B32.cells_length, Leaf.cells_length, Item.cells_length]
theorem End.cells_one (x : End) : ∀ v ∈ x.cells, v.oneCell' = true := by
  intro v hv
  simp only [End.cells, List.mem_append, List.mem_singleton, List.not_mem_nil, or_false] at hv
  rcases hv with h | rfl
  · exact Item.cells_one _ v h
  · exact rfl
instance (x : End) : Row x.cells 98 := ⟨End.cells_length x, End.cells_one x⟩
instance (x : End) : RowAt x.cells 0 98 x.cells := .whole (End.cells_length x)
instance (x y : End) : SetAt x.cells 0 y.cells y.cells := .whole (by rw [End.cells_length, End.cells_length])
instance (x : End) : RowAt x.cells 0 97 x.item.cells := .mk' (pre := []) (post := ([.int .i64 x.depth])) (by simp [Leaf.cells, End.cells]) (by rfl) (Item.cells_length _)
instance (x : End) (y : Item) : SetAt x.cells 0 y.cells ({ x with item := y } : End).cells := .mk' (pre := []) (old := x.item.cells) (post := ([.int .i64 x.depth])) (by simp [Leaf.cells, End.cells]) (by simp [Leaf.cells, End.cells]) (by rfl) (by rw [Item.cells_length, Item.cells_length])
instance (x : End) : CellAt x.cells 0 (.int .i64 x.item.kind) := .mk' (pre := []) (post := (x.item.digest.cells ++ x.item.leaf.cells ++ [.int .i64 x.depth])) (by simp [Leaf.cells, Item.cells, End.cells]) (by rfl)
instance (x : End) (y : Int) : SetAt x.cells 0 [.int .i64 y] ({ x with item.kind := y } : End).cells := .mk' (pre := []) (old := [.int .i64 x.item.kind]) (post := (x.item.digest.cells ++ x.item.leaf.cells ++ [.int .i64 x.depth])) (by simp [Leaf.cells, Item.cells, End.cells]) (by simp [Leaf.cells, Item.cells, End.cells]) (by rfl) rfl
instance (x : End) : RowAt x.cells 1 32 x.item.digest.cells := .mk' (pre := ([.int .i64 x.item.kind])) (post := (x.item.leaf.cells ++ [.int .i64 x.depth])) (by simp [Leaf.cells, Item.cells, End.cells]) (by simp [B32.cells_length, Leaf.cells_length, Item.cells_length]) (B32.cells_length _)
instance (x : End) (y : B32) : SetAt x.cells 1 y.cells ({ x with item.digest := y } : End).cells := .mk' (pre := ([.int .i64 x.item.kind])) (old := x.item.digest.cells) (post := (x.item.leaf.cells ++ [.int .i64 x.depth])) (by simp [Leaf.cells, Item.cells, End.cells]) (by simp [Leaf.cells, Item.cells, End.cells]) (by simp [B32.cells_length, Leaf.cells_length, Item.cells_length]) (by rw [B32.cells_length, B32.cells_length])
instance (x : End) : RowAt x.cells 33 64 x.item.leaf.cells := .mk' (pre := ([.int .i64 x.item.kind] ++ x.item.digest.cells)) (post := ([.int .i64 x.depth])) (by simp [Item.cells, End.cells]) (by simp [B32.cells_length, Leaf.cells_length, Item.cells_length]) (Leaf.cells_length _)
instance (x : End) (y : Leaf) : SetAt x.cells 33 y.cells ({ x with item.leaf := y } : End).cells := .mk' (pre := ([.int .i64 x.item.kind] ++ x.item.digest.cells)) (old := x.item.leaf.cells) (post := ([.int .i64 x.depth])) (by simp [Item.cells, End.cells]) (by simp [Item.cells, End.cells]) (by simp [B32.cells_length, Leaf.cells_length, Item.cells_length]) (by rw [Leaf.cells_length, Leaf.cells_length])
instance (x : End) : RowAt x.cells 33 32 x.item.leaf.key.cells := .mk' (pre := ([.int .i64 x.item.kind] ++ x.item.digest.cells)) (post := (x.item.leaf.value.cells ++ [.int .i64 x.depth])) (by simp [Leaf.cells, Item.cells, End.cells]) (by simp [B32.cells_length, Leaf.cells_length, Item.cells_length]) (B32.cells_length _)
instance (x : End) (y : B32) : SetAt x.cells 33 y.cells ({ x with item.leaf.key := y } : End).cells := .mk' (pre := ([.int .i64 x.item.kind] ++ x.item.digest.cells)) (old := x.item.leaf.key.cells) (post := (x.item.leaf.value.cells ++ [.int .i64 x.depth])) (by simp [Leaf.cells, Item.cells, End.cells]) (by simp [Leaf.cells, Item.cells, End.cells]) (by simp [B32.cells_length, Leaf.cells_length, Item.cells_length]) (by rw [B32.cells_length, B32.cells_length])
instance (x : End) : RowAt x.cells 65 32 x.item.leaf.value.cells := .mk' (pre := ([.int .i64 x.item.kind] ++ x.item.digest.cells ++ x.item.leaf.key.cells)) (post := ([.int .i64 x.depth])) (by simp [Leaf.cells, Item.cells, End.cells]) (by simp [B32.cells_length, Leaf.cells_length, Item.cells_length]) (B32.cells_length _)
instance (x : End) (y : B32) : SetAt x.cells 65 y.cells ({ x with item.leaf.value := y } : End).cells := .mk' (pre := ([.int .i64 x.item.kind] ++ x.item.digest.cells ++ x.item.leaf.key.cells)) (old := x.item.leaf.value.cells) (post := ([.int .i64 x.depth])) (by simp [Leaf.cells, Item.cells, End.cells]) (by simp [Leaf.cells, Item.cells, End.cells]) (by simp [B32.cells_length, Leaf.cells_length, Item.cells_length]) (by rw [B32.cells_length, B32.cells_length])
instance (x : End) : CellAt x.cells 97 (.int .i64 x.depth) := .mk' (pre := (x.item.cells)) (post := []) (by simp [Leaf.cells, Item.cells, End.cells]) (by simp [B32.cells_length, Leaf.cells_length, Item.cells_length])
instance (x : End) (y : Int) : SetAt x.cells 97 [.int .i64 y] ({ x with depth := y } : End).cells := .mk' (pre := (x.item.cells)) (old := [.int .i64 x.depth]) (post := []) (by simp [Leaf.cells, Item.cells, End.cells]) (by simp [Leaf.cells, Item.cells, End.cells]) (by simp [B32.cells_length, Leaf.cells_length, Item.cells_length]) rfl
structure Update where
  key : Sl
  value : Sl
  del : Bool
def Update.cells (x : Update) : List Value := [.slice x.key.A x.key.n x.key.c] ++ ([.slice x.value.A x.value.n x.value.c] ++ ([.bool x.del] ++ []))
def zUpdate : Update := ⟨⟨none, 0, 0⟩, ⟨none, 0, 0⟩, false⟩
theorem Update.cells_length (x : Update) : x.cells.length = 3 := by simp [Update.cells, B32.cells_length, Leaf.cells_length, Item.cells_length]
theorem Update.cells_one (x : Update) : ∀ v ∈ x.cells, v.oneCell' = true := by
  intro v hv
  simp only [Update.cells, List.mem_append, List.mem_singleton, List.not_mem_nil, or_false] at hv
  rcases hv with rfl | rfl | rfl
  · exact rfl
  · exact rfl
  · exact rfl
instance (x : Update) : Row x.cells 3 := ⟨Update.cells_length x, Update.cells_one x⟩
instance (x : Update) : RowAt x.cells 0 3 x.cells := .whole (Update.cells_length x)
instance (x y : Update) : SetAt x.cells 0 y.cells y.cells := .whole (by rw [Update.cells_length, Update.cells_length])
instance (x : Update) : CellAt x.cells 0 (.slice x.key.A x.key.n x.key.c) := .mk' (pre := []) (post := ([.slice x.value.A x.value.n x.value.c] ++ [.bool x.del])) (by simp [Update.cells]) (by rfl)
instance (x : Update) (A : Option Addr) (m c : Nat) : SetAt x.cells 0 [.slice A m c] ({ x with key := ⟨A, m, c⟩ } : Update).cells := .mk' (pre := []) (old := [.slice x.key.A x.key.n x.key.c]) (post := ([.slice x.value.A x.value.n x.value.c] ++ [.bool x.del])) (by simp [Update.cells]) (by simp [Update.cells]) (by rfl) rfl
instance (x : Update) (y : Sl) : SetAt x.cells 0 [.slice y.A y.n y.c] ({ x with key := y } : Update).cells := .mk' (pre := []) (old := [.slice x.key.A x.key.n x.key.c]) (post := ([.slice x.value.A x.value.n x.value.c] ++ [.bool x.del])) (by simp [Update.cells]) (by simp [Update.cells]) (by rfl) rfl
instance (x : Update) : CellAt x.cells 1 (.slice x.value.A x.value.n x.value.c) := .mk' (pre := ([.slice x.key.A x.key.n x.key.c])) (post := ([.bool x.del])) (by simp [Update.cells]) (by simp [B32.cells_length, Leaf.cells_length, Item.cells_length])
instance (x : Update) (A : Option Addr) (m c : Nat) : SetAt x.cells 1 [.slice A m c] ({ x with value := ⟨A, m, c⟩ } : Update).cells := .mk' (pre := ([.slice x.key.A x.key.n x.key.c])) (old := [.slice x.value.A x.value.n x.value.c]) (post := ([.bool x.del])) (by simp [Update.cells]) (by simp [Update.cells]) (by simp [B32.cells_length, Leaf.cells_length, Item.cells_length]) rfl
instance (x : Update) (y : Sl) : SetAt x.cells 1 [.slice y.A y.n y.c] ({ x with value := y } : Update).cells := .mk' (pre := ([.slice x.key.A x.key.n x.key.c])) (old := [.slice x.value.A x.value.n x.value.c]) (post := ([.bool x.del])) (by simp [Update.cells]) (by simp [Update.cells]) (by simp [B32.cells_length, Leaf.cells_length, Item.cells_length]) rfl
instance (x : Update) : CellAt x.cells 2 (.bool x.del) := .mk' (pre := ([.slice x.key.A x.key.n x.key.c] ++ [.slice x.value.A x.value.n x.value.c])) (post := []) (by simp [Update.cells]) (by simp [B32.cells_length, Leaf.cells_length, Item.cells_length])
instance (x : Update) (y : Bool) : SetAt x.cells 2 [.bool y] ({ x with del := y } : Update).cells := .mk' (pre := ([.slice x.key.A x.key.n x.key.c] ++ [.slice x.value.A x.value.n x.value.c])) (old := [.bool x.del]) (post := []) (by simp [Update.cells]) (by simp [Update.cells]) (by simp [B32.cells_length, Leaf.cells_length, Item.cells_length]) rfl
structure Change where
  key : B32
  value : Sl
  del : Bool
def Change.cells (x : Change) : List Value := x.key.cells ++ ([.slice x.value.A x.value.n x.value.c] ++ ([.bool x.del] ++ []))
def zChange : Change := ⟨zB32, ⟨none, 0, 0⟩, false⟩
theorem Change.cells_length (x : Change) : x.cells.length = 34 := by simp [Change.cells, B32.cells_length, Leaf.cells_length, Item.cells_length]
theorem Change.cells_one (x : Change) : ∀ v ∈ x.cells, v.oneCell' = true := by
  intro v hv
  simp only [Change.cells, List.mem_append, List.mem_singleton, List.not_mem_nil, or_false] at hv
  rcases hv with h | rfl | rfl
  · exact B32.cells_one _ v h
  · exact rfl
  · exact rfl
instance (x : Change) : Row x.cells 34 := ⟨Change.cells_length x, Change.cells_one x⟩
instance (x : Change) : RowAt x.cells 0 34 x.cells := .whole (Change.cells_length x)
instance (x y : Change) : SetAt x.cells 0 y.cells y.cells := .whole (by rw [Change.cells_length, Change.cells_length])
instance (x : Change) : RowAt x.cells 0 32 x.key.cells := .mk' (pre := []) (post := ([.slice x.value.A x.value.n x.value.c] ++ [.bool x.del])) (by simp [Change.cells]) (by rfl) (B32.cells_length _)
instance (x : Change) (y : B32) : SetAt x.cells 0 y.cells ({ x with key := y } : Change).cells := .mk' (pre := []) (old := x.key.cells) (post := ([.slice x.value.A x.value.n x.value.c] ++ [.bool x.del])) (by simp [Change.cells]) (by simp [Change.cells]) (by rfl) (by rw [B32.cells_length, B32.cells_length])
instance (x : Change) : CellAt x.cells 32 (.slice x.value.A x.value.n x.value.c) := .mk' (pre := (x.key.cells)) (post := ([.bool x.del])) (by simp [Change.cells]) (by simp [B32.cells_length, Leaf.cells_length, Item.cells_length])
instance (x : Change) (A : Option Addr) (m c : Nat) : SetAt x.cells 32 [.slice A m c] ({ x with value := ⟨A, m, c⟩ } : Change).cells := .mk' (pre := (x.key.cells)) (old := [.slice x.value.A x.value.n x.value.c]) (post := ([.bool x.del])) (by simp [Change.cells]) (by simp [Change.cells]) (by simp [B32.cells_length, Leaf.cells_length, Item.cells_length]) rfl
instance (x : Change) (y : Sl) : SetAt x.cells 32 [.slice y.A y.n y.c] ({ x with value := y } : Change).cells := .mk' (pre := (x.key.cells)) (old := [.slice x.value.A x.value.n x.value.c]) (post := ([.bool x.del])) (by simp [Change.cells]) (by simp [Change.cells]) (by simp [B32.cells_length, Leaf.cells_length, Item.cells_length]) rfl
instance (x : Change) : CellAt x.cells 33 (.bool x.del) := .mk' (pre := (x.key.cells ++ [.slice x.value.A x.value.n x.value.c])) (post := []) (by simp [Change.cells]) (by simp [B32.cells_length, Leaf.cells_length, Item.cells_length])
instance (x : Change) (y : Bool) : SetAt x.cells 33 [.bool y] ({ x with del := y } : Change).cells := .mk' (pre := (x.key.cells ++ [.slice x.value.A x.value.n x.value.c])) (old := [.bool x.del]) (post := []) (by simp [Change.cells]) (by simp [Change.cells]) (by simp [B32.cells_length, Leaf.cells_length, Item.cells_length]) rfl
end Go.Proofs.Ythinpbgbnlohpaa
