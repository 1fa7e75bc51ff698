/- The program's structs: their cells, and what stands where. Printed by gens.py; Builds, comparisons, appends, made slices, results: over what is known of the world; Regions that draw their order, over what is known of the world; single pure operations; Slices that are built of parts, that grow, that are read: over what is known of the world; Slices that are made; what session 1's contracts leave; Shifts and ors of bytes, functions bound to a value, a slice's length in the world (joined texts: V1 S3 S4 S5 S6 S7) -/
import Derived.Test.YtjhocljhhpkiiaaGreatDoorH1
import Derived.Laws.MakeOwn
import Derived.IntWalk
set_option linter.all false
/- V1 -/
namespace Go.Proofs.YtjhocljhhpkiiaaGreatDoor
set_option linter.unusedSimpArgs false
set_option linter.unusedVariables false
open Go.RowKit
structure Sl where
  A : Option Addr
  n : Nat
  c : Nat
theorem RowAt.mk' {cs pre out post : List Value} {off n : Nat} (h : cs = pre ++ (out ++ post)) (hp : pre.length = off) (ho : out.length = n) : RowAt cs off n out := by
  subst h; subst hp
  refine ⟨fun j v hv => ?_, ho⟩
  rw [List.getElem?_append_right (by omega), Nat.add_sub_cancel_left, List.getElem?_append_left (by have := (List.getElem?_eq_some_iff.1 hv).1; exact this)]
  exact hv
theorem CellAt.mk' {cs pre post : List Value} {off : Nat} {v : Value} (h : cs = pre ++ (v :: post)) (hp : pre.length = off) : CellAt cs off v := by
  subst h; subst hp
  exact ⟨by simp⟩
theorem SetAt.mk' {cs pre old new post out : List Value} {off : Nat} (h : cs = pre ++ (old ++ post)) (h' : out = pre ++ (new ++ post)) (hp : pre.length = off) (hl : old.length = new.length) : SetAt cs off new out := by
  subst h; subst hp; subst h'
  refine ⟨?_, by simp [hl]⟩
  rw [List.take_left, ← hl, List.drop_append, List.drop_of_length_le (by omega), Nat.add_sub_cancel_left, List.drop_left]
  simp
/-- a value of one cell -/
class OneC (v : Value) : Prop where
  one : v.oneCell' = true
instance (t : TypeId) (v : Value) : OneC (.iface t v) := ⟨rfl⟩
instance : OneC .nilIface := ⟨rfl⟩
/-- the cells of one value -/
class VCells (v : Value) (cs : outParam (List Value)) : Prop where
  eq : v.cells = cs.toArray
instance (cs : List Value) : VCells (.agg cs.toArray) cs := ⟨rfl⟩
instance (k : IntKind) (n : Int) : VCells (.int k n) [.int k n] := ⟨rfl⟩
instance (b : Bool) : VCells (.bool b) [.bool b] := ⟨rfl⟩
instance (s : ByteArray) : VCells (.string s) [.string s] := ⟨rfl⟩
instance (p : Option Addr) : VCells (.pointer p) [.pointer p] := ⟨rfl⟩
instance (A : Option Addr) (n c : Nat) : VCells (.slice A n c) [.slice A n c] := ⟨rfl⟩
instance : VCells .nilIface [.nilIface] := ⟨rfl⟩
instance (t : TypeId) (v : Value) : VCells (.iface t v) [.iface t v] := ⟨rfl⟩
instance : VCells .nilFunc [.nilFunc] := ⟨rfl⟩
instance (f : Fn) (c d : Array Value) : VCells (.func f c d) [.func f c d] := ⟨rfl⟩
instance (x : Leaf) : Row x.cells 64 := ⟨Leaf.cells_length x, Leaf.cells_one x⟩
instance (x : Leaf) : RowAt x.cells 0 64 x.cells := .whole (Leaf.cells_length x)
instance (x y : Leaf) : SetAt x.cells 0 y.cells y.cells := .whole (by rw [Leaf.cells_length, Leaf.cells_length])
instance (x : Leaf) : RowAt x.cells 0 32 x.key.cells := .mk' (pre := []) (post := (x.value.cells)) (by simp [Leaf.cells]) (by rfl) (B32.cells_length _)
instance (x : Leaf) (y : B32) : SetAt x.cells 0 y.cells ({ x with key := y } : Leaf).cells := .mk' (pre := []) (old := x.key.cells) (post := (x.value.cells)) (by simp [Leaf.cells]) (by simp [Leaf.cells]) (by rfl) (by rw [B32.cells_length, B32.cells_length])
instance (x : Leaf) : RowAt x.cells 32 32 x.value.cells := .mk' (pre := (x.key.cells)) (post := []) (by simp [Leaf.cells]) (by simp [B32.cells_length, Leaf.cells_length, Item.cells_length]) (B32.cells_length _)
instance (x : Leaf) (y : B32) : SetAt x.cells 32 y.cells ({ x with value := y } : Leaf).cells := .mk' (pre := (x.key.cells)) (old := x.value.cells) (post := []) (by simp [Leaf.cells]) (by simp [Leaf.cells]) (by simp [B32.cells_length, Leaf.cells_length, Item.cells_length]) (by rw [B32.cells_length, B32.cells_length])
instance (x : Item) : Row x.cells 97 := ⟨Item.cells_length x, Item.cells_one x⟩
instance (x : Item) : RowAt x.cells 0 97 x.cells := .whole (Item.cells_length x)
instance (x y : Item) : SetAt x.cells 0 y.cells y.cells := .whole (by rw [Item.cells_length, Item.cells_length])
instance (x : Item) : CellAt x.cells 0 (.int .i64 x.kind) := .mk' (pre := []) (post := (x.digest.cells ++ x.leaf.cells)) (by simp [Leaf.cells, Item.cells]) (by rfl)
instance (x : Item) (y : Int) : SetAt x.cells 0 [.int .i64 y] ({ x with kind := y } : Item).cells := .mk' (pre := []) (old := [.int .i64 x.kind]) (post := (x.digest.cells ++ x.leaf.cells)) (by simp [Leaf.cells, Item.cells]) (by simp [Leaf.cells, Item.cells]) (by rfl) rfl
instance (x : Item) : RowAt x.cells 1 32 x.digest.cells := .mk' (pre := ([.int .i64 x.kind])) (post := (x.leaf.cells)) (by simp [Leaf.cells, Item.cells]) (by simp [B32.cells_length, Leaf.cells_length, Item.cells_length]) (B32.cells_length _)
instance (x : Item) (y : B32) : SetAt x.cells 1 y.cells ({ x with digest := y } : Item).cells := .mk' (pre := ([.int .i64 x.kind])) (old := x.digest.cells) (post := (x.leaf.cells)) (by simp [Leaf.cells, Item.cells]) (by simp [Leaf.cells, Item.cells]) (by simp [B32.cells_length, Leaf.cells_length, Item.cells_length]) (by rw [B32.cells_length, B32.cells_length])
instance (x : Item) : RowAt x.cells 33 64 x.leaf.cells := .mk' (pre := ([.int .i64 x.kind] ++ x.digest.cells)) (post := []) (by simp [Item.cells]) (by simp [B32.cells_length, Leaf.cells_length, Item.cells_length]) (Leaf.cells_length _)
instance (x : Item) (y : Leaf) : SetAt x.cells 33 y.cells ({ x with leaf := y } : Item).cells := .mk' (pre := ([.int .i64 x.kind] ++ x.digest.cells)) (old := x.leaf.cells) (post := []) (by simp [Item.cells]) (by simp [Item.cells]) (by simp [B32.cells_length, Leaf.cells_length, Item.cells_length]) (by rw [Leaf.cells_length, Leaf.cells_length])
instance (x : Item) : RowAt x.cells 33 32 x.leaf.key.cells := .mk' (pre := ([.int .i64 x.kind] ++ x.digest.cells)) (post := (x.leaf.value.cells)) (by simp [Leaf.cells, Item.cells]) (by simp [B32.cells_length, Leaf.cells_length, Item.cells_length]) (B32.cells_length _)
instance (x : Item) (y : B32) : SetAt x.cells 33 y.cells ({ x with leaf.key := y } : Item).cells := .mk' (pre := ([.int .i64 x.kind] ++ x.digest.cells)) (old := x.leaf.key.cells) (post := (x.leaf.value.cells)) (by simp [Leaf.cells, Item.cells]) (by simp [Leaf.cells, Item.cells]) (by simp [B32.cells_length, Leaf.cells_length, Item.cells_length]) (by rw [B32.cells_length, B32.cells_length])
instance (x : Item) : RowAt x.cells 65 32 x.leaf.value.cells := .mk' (pre := ([.int .i64 x.kind] ++ x.digest.cells ++ x.leaf.key.cells)) (post := []) (by simp [Leaf.cells, Item.cells]) (by simp [B32.cells_length, Leaf.cells_length, Item.cells_length]) (B32.cells_length _)
instance (x : Item) (y : B32) : SetAt x.cells 65 y.cells ({ x with leaf.value := y } : Item).cells := .mk' (pre := ([.int .i64 x.kind] ++ x.digest.cells ++ x.leaf.key.cells)) (old := x.leaf.value.cells) (post := []) (by simp [Leaf.cells, Item.cells]) (by simp [Leaf.cells, Item.cells]) (by simp [B32.cells_length, Leaf.cells_length, Item.cells_length]) (by rw [B32.cells_length, B32.cells_length])
structure Proof where
  kind : Int
  depth : Int
  leaf : Leaf
  bitmap : B32
  sibs : Sl
def Proof.cells (x : Proof) : List Value := [.int .i64 x.kind] ++ ([.int .i64 x.depth] ++ (x.leaf.cells ++ (x.bitmap.cells ++ ([.slice x.sibs.A x.sibs.n x.sibs.c] ++ []))))
def zProof : Proof := ⟨0, 0, zLeaf, zB32, ⟨none, 0, 0⟩⟩
theorem Proof.cells_length (x : Proof) : x.cells.length = 99 := by simp [Proof.cells, B32.cells_length, Leaf.cells_length, Item.cells_length]
theorem Proof.cells_one (x : Proof) : ∀ v ∈ x.cells, v.oneCell' = true := by
  intro v hv
  simp only [Proof.cells, List.mem_append, List.mem_singleton, List.not_mem_nil, or_false] at hv
  rcases hv with rfl | rfl | h | h | rfl
  · exact rfl
  · exact rfl
  · exact Leaf.cells_one _ v h
  · exact B32.cells_one _ v h
  · exact rfl
instance (x : Proof) : Row x.cells 99 := ⟨Proof.cells_length x, Proof.cells_one x⟩
instance (x : Proof) : RowAt x.cells 0 99 x.cells := .whole (Proof.cells_length x)
instance (x y : Proof) : SetAt x.cells 0 y.cells y.cells := .whole (by rw [Proof.cells_length, Proof.cells_length])
instance (x : Proof) : CellAt x.cells 0 (.int .i64 x.kind) := .mk' (pre := []) (post := ([.int .i64 x.depth] ++ x.leaf.cells ++ x.bitmap.cells ++ [.slice x.sibs.A x.sibs.n x.sibs.c])) (by simp [Leaf.cells, Proof.cells]) (by rfl)
instance (x : Proof) (y : Int) : SetAt x.cells 0 [.int .i64 y] ({ x with kind := y } : Proof).cells := .mk' (pre := []) (old := [.int .i64 x.kind]) (post := ([.int .i64 x.depth] ++ x.leaf.cells ++ x.bitmap.cells ++ [.slice x.sibs.A x.sibs.n x.sibs.c])) (by simp [Leaf.cells, Proof.cells]) (by simp [Leaf.cells, Proof.cells]) (by rfl) rfl
instance (x : Proof) : CellAt x.cells 1 (.int .i64 x.depth) := .mk' (pre := ([.int .i64 x.kind])) (post := (x.leaf.cells ++ x.bitmap.cells ++ [.slice x.sibs.A x.sibs.n x.sibs.c])) (by simp [Leaf.cells, Proof.cells]) (by simp [B32.cells_length, Leaf.cells_length, Item.cells_length])
instance (x : Proof) (y : Int) : SetAt x.cells 1 [.int .i64 y] ({ x with depth := y } : Proof).cells := .mk' (pre := ([.int .i64 x.kind])) (old := [.int .i64 x.depth]) (post := (x.leaf.cells ++ x.bitmap.cells ++ [.slice x.sibs.A x.sibs.n x.sibs.c])) (by simp [Leaf.cells, Proof.cells]) (by simp [Leaf.cells, Proof.cells]) (by simp [B32.cells_length, Leaf.cells_length, Item.cells_length]) rfl
instance (x : Proof) : RowAt x.cells 2 64 x.leaf.cells := .mk' (pre := ([.int .i64 x.kind] ++ [.int .i64 x.depth])) (post := (x.bitmap.cells ++ [.slice x.sibs.A x.sibs.n x.sibs.c])) (by simp [Proof.cells]) (by simp [B32.cells_length, Leaf.cells_length, Item.cells_length]) (Leaf.cells_length _)
instance (x : Proof) (y : Leaf) : SetAt x.cells 2 y.cells ({ x with leaf := y } : Proof).cells := .mk' (pre := ([.int .i64 x.kind] ++ [.int .i64 x.depth])) (old := x.leaf.cells) (post := (x.bitmap.cells ++ [.slice x.sibs.A x.sibs.n x.sibs.c])) (by simp [Proof.cells]) (by simp [Proof.cells]) (by simp [B32.cells_length, Leaf.cells_length, Item.cells_length]) (by rw [Leaf.cells_length, Leaf.cells_length])
instance (x : Proof) : RowAt x.cells 2 32 x.leaf.key.cells := .mk' (pre := ([.int .i64 x.kind] ++ [.int .i64 x.depth])) (post := (x.leaf.value.cells ++ x.bitmap.cells ++ [.slice x.sibs.A x.sibs.n x.sibs.c])) (by simp [Leaf.cells, Proof.cells]) (by simp [B32.cells_length, Leaf.cells_length, Item.cells_length]) (B32.cells_length _)
instance (x : Proof) (y : B32) : SetAt x.cells 2 y.cells ({ x with leaf.key := y } : Proof).cells := .mk' (pre := ([.int .i64 x.kind] ++ [.int .i64 x.depth])) (old := x.leaf.key.cells) (post := (x.leaf.value.cells ++ x.bitmap.cells ++ [.slice x.sibs.A x.sibs.n x.sibs.c])) (by simp [Leaf.cells, Proof.cells]) (by simp [Leaf.cells, Proof.cells]) (by simp [B32.cells_length, Leaf.cells_length, Item.cells_length]) (by rw [B32.cells_length, B32.cells_length])
instance (x : Proof) : RowAt x.cells 34 32 x.leaf.value.cells := .mk' (pre := ([.int .i64 x.kind] ++ [.int .i64 x.depth] ++ x.leaf.key.cells)) (post := (x.bitmap.cells ++ [.slice x.sibs.A x.sibs.n x.sibs.c])) (by simp [Leaf.cells, Proof.cells]) (by simp [B32.cells_length, Leaf.cells_length, Item.cells_length]) (B32.cells_length _)
instance (x : Proof) (y : B32) : SetAt x.cells 34 y.cells ({ x with leaf.value := y } : Proof).cells := .mk' (pre := ([.int .i64 x.kind] ++ [.int .i64 x.depth] ++ x.leaf.key.cells)) (old := x.leaf.value.cells) (post := (x.bitmap.cells ++ [.slice x.sibs.A x.sibs.n x.sibs.c])) (by simp [Leaf.cells, Proof.cells]) (by simp [Leaf.cells, Proof.cells]) (by simp [B32.cells_length, Leaf.cells_length, Item.cells_length]) (by rw [B32.cells_length, B32.cells_length])
instance (x : Proof) : RowAt x.cells 66 32 x.bitmap.cells := .mk' (pre := ([.int .i64 x.kind] ++ [.int .i64 x.depth] ++ x.leaf.cells)) (post := ([.slice x.sibs.A x.sibs.n x.sibs.c])) (by simp [Leaf.cells, Proof.cells]) (by simp [B32.cells_length, Leaf.cells_length, Item.cells_length]) (B32.cells_length _)
instance (x : Proof) (y : B32) : SetAt x.cells 66 y.cells ({ x with bitmap := y } : Proof).cells := .mk' (pre := ([.int .i64 x.kind] ++ [.int .i64 x.depth] ++ x.leaf.cells)) (old := x.bitmap.cells) (post := ([.slice x.sibs.A x.sibs.n x.sibs.c])) (by simp [Leaf.cells, Proof.cells]) (by simp [Leaf.cells, Proof.cells]) (by simp [B32.cells_length, Leaf.cells_length, Item.cells_length]) (by rw [B32.cells_length, B32.cells_length])
instance (x : Proof) : CellAt x.cells 98 (.slice x.sibs.A x.sibs.n x.sibs.c) := .mk' (pre := ([.int .i64 x.kind] ++ [.int .i64 x.depth] ++ x.leaf.cells ++ x.bitmap.cells)) (post := []) (by simp [Leaf.cells, Proof.cells]) (by simp [B32.cells_length, Leaf.cells_length, Item.cells_length])
instance (x : Proof) (A : Option Addr) (m c : Nat) : SetAt x.cells 98 [.slice A m c] ({ x with sibs := ⟨A, m, c⟩ } : Proof).cells := .mk' (pre := ([.int .i64 x.kind] ++ [.int .i64 x.depth] ++ x.leaf.cells ++ x.bitmap.cells)) (old := [.slice x.sibs.A x.sibs.n x.sibs.c]) (post := []) (by simp [Leaf.cells, Proof.cells]) (by simp [Leaf.cells, Proof.cells]) (by simp [B32.cells_length, Leaf.cells_length, Item.cells_length]) rfl
instance (x : Proof) (y : Sl) : SetAt x.cells 98 [.slice y.A y.n y.c] ({ x with sibs := y } : Proof).cells := .mk' (pre := ([.int .i64 x.kind] ++ [.int .i64 x.depth] ++ x.leaf.cells ++ x.bitmap.cells)) (old := [.slice x.sibs.A x.sibs.n x.sibs.c]) (post := []) (by simp [Leaf.cells, Proof.cells]) (by simp [Leaf.cells, Proof.cells]) (by simp [B32.cells_length, Leaf.cells_length, Item.cells_length]) rfl
structure Entry where
  key : B32
  value : Sl
def Entry.cells (x : Entry) : List Value := x.key.cells ++ ([.slice x.value.A x.value.n x.value.c] ++ [])
def zEntry : Entry := ⟨zB32, ⟨none, 0, 0⟩⟩
theorem Entry.cells_length (x : Entry) : x.cells.length = 33 := by simp [Entry.cells, B32.cells_length, Leaf.cells_length, Item.cells_length]
theorem Entry.cells_one (x : Entry) : ∀ v ∈ x.cells, v.oneCell' = true := by
  intro v hv
  simp only [Entry.cells, List.mem_append, List.mem_singleton, List.not_mem_nil, or_false] at hv
  rcases hv with h | rfl
  · exact B32.cells_one _ v h
  · exact rfl
instance (x : Entry) : Row x.cells 33 := ⟨Entry.cells_length x, Entry.cells_one x⟩
instance (x : Entry) : RowAt x.cells 0 33 x.cells := .whole (Entry.cells_length x)
instance (x y : Entry) : SetAt x.cells 0 y.cells y.cells := .whole (by rw [Entry.cells_length, Entry.cells_length])
instance (x : Entry) : RowAt x.cells 0 32 x.key.cells := .mk' (pre := []) (post := ([.slice x.value.A x.value.n x.value.c])) (by simp [Entry.cells]) (by rfl) (B32.cells_length _)
instance (x : Entry) (y : B32) : SetAt x.cells 0 y.cells ({ x with key := y } : Entry).cells := .mk' (pre := []) (old := x.key.cells) (post := ([.slice x.value.A x.value.n x.value.c])) (by simp [Entry.cells]) (by simp [Entry.cells]) (by rfl) (by rw [B32.cells_length, B32.cells_length])
instance (x : Entry) : CellAt x.cells 32 (.slice x.value.A x.value.n x.value.c) := .mk' (pre := (x.key.cells)) (post := []) (by simp [Entry.cells]) (by simp [B32.cells_length, Leaf.cells_length, Item.cells_length])
instance (x : Entry) (A : Option Addr) (m c : Nat) : SetAt x.cells 32 [.slice A m c] ({ x with value := ⟨A, m, c⟩ } : Entry).cells := .mk' (pre := (x.key.cells)) (old := [.slice x.value.A x.value.n x.value.c]) (post := []) (by simp [Entry.cells]) (by simp [Entry.cells]) (by simp [B32.cells_length, Leaf.cells_length, Item.cells_length]) rfl
instance (x : Entry) (y : Sl) : SetAt x.cells 32 [.slice y.A y.n y.c] ({ x with value := y } : Entry).cells := .mk' (pre := (x.key.cells)) (old := [.slice x.value.A x.value.n x.value.c]) (post := []) (by simp [Entry.cells]) (by simp [Entry.cells]) (by simp [B32.cells_length, Leaf.cells_length, Item.cells_length]) rfl
structure Claim where
  key : Sl
  value : Sl
  present : Bool
def Claim.cells (x : Claim) : List Value := [.slice x.key.A x.key.n x.key.c] ++ ([.slice x.value.A x.value.n x.value.c] ++ ([.bool x.present] ++ []))
def zClaim : Claim := ⟨⟨none, 0, 0⟩, ⟨none, 0, 0⟩, false⟩
theorem Claim.cells_length (x : Claim) : x.cells.length = 3 := by simp [Claim.cells, B32.cells_length, Leaf.cells_length, Item.cells_length]
theorem Claim.cells_one (x : Claim) : ∀ v ∈ x.cells, v.oneCell' = true := by
  intro v hv
  simp only [Claim.cells, List.mem_append, List.mem_singleton, List.not_mem_nil, or_false] at hv
  rcases hv with rfl | rfl | rfl
  · exact rfl
  · exact rfl
  · exact rfl
instance (x : Claim) : Row x.cells 3 := ⟨Claim.cells_length x, Claim.cells_one x⟩
instance (x : Claim) : RowAt x.cells 0 3 x.cells := .whole (Claim.cells_length x)
instance (x y : Claim) : SetAt x.cells 0 y.cells y.cells := .whole (by rw [Claim.cells_length, Claim.cells_length])
instance (x : Claim) : CellAt x.cells 0 (.slice x.key.A x.key.n x.key.c) := .mk' (pre := []) (post := ([.slice x.value.A x.value.n x.value.c] ++ [.bool x.present])) (by simp [Claim.cells]) (by rfl)
instance (x : Claim) (A : Option Addr) (m c : Nat) : SetAt x.cells 0 [.slice A m c] ({ x with key := ⟨A, m, c⟩ } : Claim).cells := .mk' (pre := []) (old := [.slice x.key.A x.key.n x.key.c]) (post := ([.slice x.value.A x.value.n x.value.c] ++ [.bool x.present])) (by simp [Claim.cells]) (by simp [Claim.cells]) (by rfl) rfl
instance (x : Claim) (y : Sl) : SetAt x.cells 0 [.slice y.A y.n y.c] ({ x with key := y } : Claim).cells := .mk' (pre := []) (old := [.slice x.key.A x.key.n x.key.c]) (post := ([.slice x.value.A x.value.n x.value.c] ++ [.bool x.present])) (by simp [Claim.cells]) (by simp [Claim.cells]) (by rfl) rfl
instance (x : Claim) : CellAt x.cells 1 (.slice x.value.A x.value.n x.value.c) := .mk' (pre := ([.slice x.key.A x.key.n x.key.c])) (post := ([.bool x.present])) (by simp [Claim.cells]) (by simp [B32.cells_length, Leaf.cells_length, Item.cells_length])
instance (x : Claim) (A : Option Addr) (m c : Nat) : SetAt x.cells 1 [.slice A m c] ({ x with value := ⟨A, m, c⟩ } : Claim).cells := .mk' (pre := ([.slice x.key.A x.key.n x.key.c])) (old := [.slice x.value.A x.value.n x.value.c]) (post := ([.bool x.present])) (by simp [Claim.cells]) (by simp [Claim.cells]) (by simp [B32.cells_length, Leaf.cells_length, Item.cells_length]) rfl
instance (x : Claim) (y : Sl) : SetAt x.cells 1 [.slice y.A y.n y.c] ({ x with value := y } : Claim).cells := .mk' (pre := ([.slice x.key.A x.key.n x.key.c])) (old := [.slice x.value.A x.value.n x.value.c]) (post := ([.bool x.present])) (by simp [Claim.cells]) (by simp [Claim.cells]) (by simp [B32.cells_length, Leaf.cells_length, Item.cells_length]) rfl
instance (x : Claim) : CellAt x.cells 2 (.bool x.present) := .mk' (pre := ([.slice x.key.A x.key.n x.key.c] ++ [.slice x.value.A x.value.n x.value.c])) (post := []) (by simp [Claim.cells]) (by simp [B32.cells_length, Leaf.cells_length, Item.cells_length])
instance (x : Claim) (y : Bool) : SetAt x.cells 2 [.bool y] ({ x with present := y } : Claim).cells := .mk' (pre := ([.slice x.key.A x.key.n x.key.c] ++ [.slice x.value.A x.value.n x.value.c])) (old := [.bool x.present]) (post := []) (by simp [Claim.cells]) (by simp [Claim.cells]) (by simp [B32.cells_length, Leaf.cells_length, Item.cells_length]) rfl
structure End where
  item : Item
  depth : Int
def End.cells (x : End) : List Value := x.item.cells ++ ([.int .i64 x.depth] ++ [])
def zEnd : End := ⟨zItem, 0⟩
theorem End.cells_length (x : End) : x.cells.length = 98 := by simp [End.cells, B32.cells_length, Leaf.cells_length, Item.cells_length]
theorem End.cells_one (x : End) : ∀ v ∈ x.cells, v.oneCell' = true := by
  intro v hv
  simp only [End.cells, List.mem_append, List.mem_singleton, List.not_mem_nil, or_false] at hv
  rcases hv with h | rfl
  · exact Item.cells_one _ v h
  · exact rfl
instance (x : End) : Row x.cells 98 := ⟨End.cells_length x, End.cells_one x⟩
instance (x : End) : RowAt x.cells 0 98 x.cells := .whole (End.cells_length x)
instance (x y : End) : SetAt x.cells 0 y.cells y.cells := .whole (by rw [End.cells_length, End.cells_length])
instance (x : End) : RowAt x.cells 0 97 x.item.cells := .mk' (pre := []) (post := ([.int .i64 x.depth])) (by simp [Leaf.cells, End.cells]) (by rfl) (Item.cells_length _)
instance (x : End) (y : Item) : SetAt x.cells 0 y.cells ({ x with item := y } : End).cells := .mk' (pre := []) (old := x.item.cells) (post := ([.int .i64 x.depth])) (by simp [Leaf.cells, End.cells]) (by simp [Leaf.cells, End.cells]) (by rfl) (by rw [Item.cells_length, Item.cells_length])
instance (x : End) : CellAt x.cells 0 (.int .i64 x.item.kind) := .mk' (pre := []) (post := (x.item.digest.cells ++ x.item.leaf.cells ++ [.int .i64 x.depth])) (by simp [Leaf.cells, Item.cells, End.cells]) (by rfl)
instance (x : End) (y : Int) : SetAt x.cells 0 [.int .i64 y] ({ x with item.kind := y } : End).cells := .mk' (pre := []) (old := [.int .i64 x.item.kind]) (post := (x.item.digest.cells ++ x.item.leaf.cells ++ [.int .i64 x.depth])) (by simp [Leaf.cells, Item.cells, End.cells]) (by simp [Leaf.cells, Item.cells, End.cells]) (by rfl) rfl
instance (x : End) : RowAt x.cells 1 32 x.item.digest.cells := .mk' (pre := ([.int .i64 x.item.kind])) (post := (x.item.leaf.cells ++ [.int .i64 x.depth])) (by simp [Leaf.cells, Item.cells, End.cells]) (by simp [B32.cells_length, Leaf.cells_length, Item.cells_length]) (B32.cells_length _)
instance (x : End) (y : B32) : SetAt x.cells 1 y.cells ({ x with item.digest := y } : End).cells := .mk' (pre := ([.int .i64 x.item.kind])) (old := x.item.digest.cells) (post := (x.item.leaf.cells ++ [.int .i64 x.depth])) (by simp [Leaf.cells, Item.cells, End.cells]) (by simp [Leaf.cells, Item.cells, End.cells]) (by simp [B32.cells_length, Leaf.cells_length, Item.cells_length]) (by rw [B32.cells_length, B32.cells_length])
instance (x : End) : RowAt x.cells 33 64 x.item.leaf.cells := .mk' (pre := ([.int .i64 x.item.kind] ++ x.item.digest.cells)) (post := ([.int .i64 x.depth])) (by simp [Item.cells, End.cells]) (by simp [B32.cells_length, Leaf.cells_length, Item.cells_length]) (Leaf.cells_length _)
instance (x : End) (y : Leaf) : SetAt x.cells 33 y.cells ({ x with item.leaf := y } : End).cells := .mk' (pre := ([.int .i64 x.item.kind] ++ x.item.digest.cells)) (old := x.item.leaf.cells) (post := ([.int .i64 x.depth])) (by simp [Item.cells, End.cells]) (by simp [Item.cells, End.cells]) (by simp [B32.cells_length, Leaf.cells_length, Item.cells_length]) (by rw [Leaf.cells_length, Leaf.cells_length])
instance (x : End) : RowAt x.cells 33 32 x.item.leaf.key.cells := .mk' (pre := ([.int .i64 x.item.kind] ++ x.item.digest.cells)) (post := (x.item.leaf.value.cells ++ [.int .i64 x.depth])) (by simp [Leaf.cells, Item.cells, End.cells]) (by simp [B32.cells_length, Leaf.cells_length, Item.cells_length]) (B32.cells_length _)
instance (x : End) (y : B32) : SetAt x.cells 33 y.cells ({ x with item.leaf.key := y } : End).cells := .mk' (pre := ([.int .i64 x.item.kind] ++ x.item.digest.cells)) (old := x.item.leaf.key.cells) (post := (x.item.leaf.value.cells ++ [.int .i64 x.depth])) (by simp [Leaf.cells, Item.cells, End.cells]) (by simp [Leaf.cells, Item.cells, End.cells]) (by simp [B32.cells_length, Leaf.cells_length, Item.cells_length]) (by rw [B32.cells_length, B32.cells_length])
instance (x : End) : RowAt x.cells 65 32 x.item.leaf.value.cells := .mk' (pre := ([.int .i64 x.item.kind] ++ x.item.digest.cells ++ x.item.leaf.key.cells)) (post := ([.int .i64 x.depth])) (by simp [Leaf.cells, Item.cells, End.cells]) (by simp [B32.cells_length, Leaf.cells_length, Item.cells_length]) (B32.cells_length _)
instance (x : End) (y : B32) : SetAt x.cells 65 y.cells ({ x with item.leaf.value := y } : End).cells := .mk' (pre := ([.int .i64 x.item.kind] ++ x.item.digest.cells ++ x.item.leaf.key.cells)) (old := x.item.leaf.value.cells) (post := ([.int .i64 x.depth])) (by simp [Leaf.cells, Item.cells, End.cells]) (by simp [Leaf.cells, Item.cells, End.cells]) (by simp [B32.cells_length, Leaf.cells_length, Item.cells_length]) (by rw [B32.cells_length, B32.cells_length])
instance (x : End) : CellAt x.cells 97 (.int .i64 x.depth) := .mk' (pre := (x.item.cells)) (post := []) (by simp [Leaf.cells, Item.cells, End.cells]) (by simp [B32.cells_length, Leaf.cells_length, Item.cells_length])
instance (x : End) (y : Int) : SetAt x.cells 97 [.int .i64 y] ({ x with depth := y } : End).cells := .mk' (pre := (x.item.cells)) (old := [.int .i64 x.depth]) (post := []) (by simp [Leaf.cells, Item.cells, End.cells]) (by simp [Leaf.cells, Item.cells, End.cells]) (by simp [B32.cells_length, Leaf.cells_length, Item.cells_length]) rfl
structure Update where
  key : Sl
  value : Sl
  del : Bool
def Update.cells (x : Update) : List Value := [.slice x.key.A x.key.n x.key.c] ++ ([.slice x.value.A x.value.n x.value.c] ++ ([.bool x.del] ++ []))
theorem Update.cells_length (x : Update) : x.cells.length = 3 := by simp [Update.cells, B32.cells_length, Leaf.cells_length, Item.cells_length]
theorem Update.cells_one (x : Update) : ∀ v ∈ x.cells, v.oneCell' = true := by
  intro v hv
  simp only [Update.cells, List.mem_append, List.mem_singleton, List.not_mem_nil, or_false] at hv
  rcases hv with rfl | rfl | rfl
  · exact rfl
  · exact rfl
  · exact rfl
instance (x : Update) : Row x.cells 3 := ⟨Update.cells_length x, Update.cells_one x⟩
instance (x : Update) : RowAt x.cells 0 3 x.cells := .whole (Update.cells_length x)
instance (x y : Update) : SetAt x.cells 0 y.cells y.cells := .whole (by rw [Update.cells_length, Update.cells_length])
instance (x : Update) : CellAt x.cells 0 (.slice x.key.A x.key.n x.key.c) := .mk' (pre := []) (post := ([.slice x.value.A x.value.n x.value.c] ++ [.bool x.del])) (by simp [Update.cells]) (by rfl)
instance (x : Update) (A : Option Addr) (m c : Nat) : SetAt x.cells 0 [.slice A m c] ({ x with key := ⟨A, m, c⟩ } : Update).cells := .mk' (pre := []) (old := [.slice x.key.A x.key.n x.key.c]) (post := ([.slice x.value.A x.value.n x.value.c] ++ [.bool x.del])) (by simp [Update.cells]) (by simp [Update.cells]) (by rfl) rfl
instance (x : Update) (y : Sl) : SetAt x.cells 0 [.slice y.A y.n y.c] ({ x with key := y } : Update).cells := .mk' (pre := []) (old := [.slice x.key.A x.key.n x.key.c]) (post := ([.slice x.value.A x.value.n x.value.c] ++ [.bool x.del])) (by simp [Update.cells]) (by simp [Update.cells]) (by rfl) rfl
instance (x : Update) : CellAt x.cells 1 (.slice x.value.A x.value.n x.value.c) := .mk' (pre := ([.slice x.key.A x.key.n x.key.c])) (post := ([.bool x.del])) (by simp [Update.cells]) (by simp [B32.cells_length, Leaf.cells_length, Item.cells_length])
instance (x : Update) (A : Option Addr) (m c : Nat) : SetAt x.cells 1 [.slice A m c] ({ x with value := ⟨A, m, c⟩ } : Update).cells := .mk' (pre := ([.slice x.key.A x.key.n x.key.c])) (old := [.slice x.value.A x.value.n x.value.c]) (post := ([.bool x.del])) (by simp [Update.cells]) (by simp [Update.cells]) (by simp [B32.cells_length, Leaf.cells_length, Item.cells_length]) rfl
instance (x : Update) (y : Sl) : SetAt x.cells 1 [.slice y.A y.n y.c] ({ x with value := y } : Update).cells := .mk' (pre := ([.slice x.key.A x.key.n x.key.c])) (old := [.slice x.value.A x.value.n x.value.c]) (post := ([.bool x.del])) (by simp [Update.cells]) (by simp [Update.cells]) (by simp [B32.cells_length, Leaf.cells_length, Item.cells_length]) rfl
instance (x : Update) : CellAt x.cells 2 (.bool x.del) := .mk' (pre := ([.slice x.key.A x.key.n x.key.c] ++ [.slice x.value.A x.value.n x.value.c])) (post := []) (by simp [Update.cells]) (by simp [B32.cells_length, Leaf.cells_length, Item.cells_length])
instance (x : Update) (y : Bool) : SetAt x.cells 2 [.bool y] ({ x with del := y } : Update).cells := .mk' (pre := ([.slice x.key.A x.key.n x.key.c] ++ [.slice x.value.A x.value.n x.value.c])) (old := [.bool x.del]) (post := []) (by simp [Update.cells]) (by simp [Update.cells]) (by simp [B32.cells_length, Leaf.cells_length, Item.cells_length]) rfl
structure Change where
  key : B32
  value : Sl
  del : Bool
def Change.cells (x : Change) : List Value := x.key.cells ++ ([.slice x.value.A x.value.n x.value.c] ++ ([.bool x.del] ++ []))
theorem Change.cells_length (x : Change) : x.cells.length = 34 := by simp [Change.cells, B32.cells_length, Leaf.cells_length, Item.cells_length]
theorem Change.cells_one (x : Change) : ∀ v ∈ x.cells, v.oneCell' = true := by
  intro v hv
  simp only [Change.cells, List.mem_append, List.mem_singleton, List.not_mem_nil, or_false] at hv
  rcases hv with h | rfl | rfl
  · exact B32.cells_one _ v h
  · exact rfl
  · exact rfl
instance (x : Change) : Row x.cells 34 := ⟨Change.cells_length x, Change.cells_one x⟩
instance (x : Change) : RowAt x.cells 0 34 x.cells := .whole (Change.cells_length x)
instance (x y : Change) : SetAt x.cells 0 y.cells y.cells := .whole (by rw [Change.cells_length, Change.cells_length])
instance (x : Change) : RowAt x.cells 0 32 x.key.cells := .mk' (pre := []) (post := ([.slice x.value.A x.value.n x.value.c] ++ [.bool x.del])) (by simp [Change.cells]) (by rfl) (B32.cells_length _)
instance (x : Change) (y : B32) : SetAt x.cells 0 y.cells ({ x with key := y } : Change).cells := .mk' (pre := []) (old := x.key.cells) (post := ([.slice x.value.A x.value.n x.value.c] ++ [.bool x.del])) (by simp [Change.cells]) (by simp [Change.cells]) (by rfl) (by rw [B32.cells_length, B32.cells_length])
instance (x : Change) : CellAt x.cells 32 (.slice x.value.A x.value.n x.value.c) := .mk' (pre := (x.key.cells)) (post := ([.bool x.del])) (by simp [Change.cells]) (by simp [B32.cells_length, Leaf.cells_length, Item.cells_length])
instance (x : Change) (A : Option Addr) (m c : Nat) : SetAt x.cells 32 [.slice A m c] ({ x with value := ⟨A, m, c⟩ } : Change).cells := .mk' (pre := (x.key.cells)) (old := [.slice x.value.A x.value.n x.value.c]) (post := ([.bool x.del])) (by simp [Change.cells]) (by simp [Change.cells]) (by simp [B32.cells_length, Leaf.cells_length, Item.cells_length]) rfl
instance (x : Change) (y : Sl) : SetAt x.cells 32 [.slice y.A y.n y.c] ({ x with value := y } : Change).cells := .mk' (pre := (x.key.cells)) (old := [.slice x.value.A x.value.n x.value.c]) (post := ([.bool x.del])) (by simp [Change.cells]) (by simp [Change.cells]) (by simp [B32.cells_length, Leaf.cells_length, Item.cells_length]) rfl
instance (x : Change) : CellAt x.cells 33 (.bool x.del) := .mk' (pre := (x.key.cells ++ [.slice x.value.A x.value.n x.value.c])) (post := []) (by simp [Change.cells]) (by simp [B32.cells_length, Leaf.cells_length, Item.cells_length])
instance (x : Change) (y : Bool) : SetAt x.cells 33 [.bool y] ({ x with del := y } : Change).cells := .mk' (pre := (x.key.cells ++ [.slice x.value.A x.value.n x.value.c])) (old := [.bool x.del]) (post := []) (by simp [Change.cells]) (by simp [Change.cells]) (by simp [B32.cells_length, Leaf.cells_length, Item.cells_length]) rfl
structure Nd where
  c : Value
  dg : B32
def Nd.cells (x : Nd) : List Value := [x.c] ++ (x.dg.cells ++ [])
def zNd : Nd := ⟨.nilIface, zB32⟩
theorem Nd.cells_length (x : Nd) : x.cells.length = 33 := by simp [Nd.cells, B32.cells_length, Leaf.cells_length, Item.cells_length]
theorem Nd.cells_one (x : Nd) [hc : OneC x.c] : ∀ v ∈ x.cells, v.oneCell' = true := by
  intro v hv
  simp only [Nd.cells, List.mem_append, List.mem_singleton, List.not_mem_nil, or_false] at hv
  rcases hv with rfl | h
  · exact hc.one
  · exact B32.cells_one _ v h
instance (x : Nd) [OneC x.c] : Row x.cells 33 := ⟨Nd.cells_length x, Nd.cells_one x⟩
instance (x : Nd) : RowAt x.cells 0 33 x.cells := .whole (Nd.cells_length x)
instance (x y : Nd) : SetAt x.cells 0 y.cells y.cells := .whole (by rw [Nd.cells_length, Nd.cells_length])
instance (x : Nd) : CellAt x.cells 0 (x.c) := .mk' (pre := []) (post := (x.dg.cells)) (by simp [Nd.cells]) (by rfl)
instance (x : Nd) (y : Value) : SetAt x.cells 0 [y] ({ x with c := y } : Nd).cells := .mk' (pre := []) (old := [x.c]) (post := (x.dg.cells)) (by simp [Nd.cells]) (by simp [Nd.cells]) (by rfl) rfl
instance (x : Nd) : RowAt x.cells 1 32 x.dg.cells := .mk' (pre := ([x.c])) (post := []) (by simp [Nd.cells]) (by simp [B32.cells_length, Leaf.cells_length, Item.cells_length]) (B32.cells_length _)
instance (x : Nd) (y : B32) : SetAt x.cells 1 y.cells ({ x with dg := y } : Nd).cells := .mk' (pre := ([x.c])) (old := x.dg.cells) (post := []) (by simp [Nd.cells]) (by simp [Nd.cells]) (by simp [B32.cells_length, Leaf.cells_length, Item.cells_length]) (by rw [B32.cells_length, B32.cells_length])
structure NLeaf where
  leaf : Leaf
  value : Sl
def NLeaf.cells (x : NLeaf) : List Value := x.leaf.cells ++ ([.slice x.value.A x.value.n x.value.c] ++ [])
def zNLeaf : NLeaf := ⟨zLeaf, ⟨none, 0, 0⟩⟩
theorem NLeaf.cells_length (x : NLeaf) : x.cells.length = 65 := by simp [NLeaf.cells, B32.cells_length, Leaf.cells_length, Item.cells_length]
theorem NLeaf.cells_one (x : NLeaf) : ∀ v ∈ x.cells, v.oneCell' = true := by
  intro v hv
  simp only [NLeaf.cells, List.mem_append, List.mem_singleton, List.not_mem_nil, or_false] at hv
  rcases hv with h | rfl
  · exact Leaf.cells_one _ v h
  · exact rfl
instance (x : NLeaf) : Row x.cells 65 := ⟨NLeaf.cells_length x, NLeaf.cells_one x⟩
instance (x : NLeaf) : RowAt x.cells 0 65 x.cells := .whole (NLeaf.cells_length x)
instance (x y : NLeaf) : SetAt x.cells 0 y.cells y.cells := .whole (by rw [NLeaf.cells_length, NLeaf.cells_length])
instance (x : NLeaf) : RowAt x.cells 0 64 x.leaf.cells := .mk' (pre := []) (post := ([.slice x.value.A x.value.n x.value.c])) (by simp [NLeaf.cells]) (by rfl) (Leaf.cells_length _)
instance (x : NLeaf) (y : Leaf) : SetAt x.cells 0 y.cells ({ x with leaf := y } : NLeaf).cells := .mk' (pre := []) (old := x.leaf.cells) (post := ([.slice x.value.A x.value.n x.value.c])) (by simp [NLeaf.cells]) (by simp [NLeaf.cells]) (by rfl) (by rw [Leaf.cells_length, Leaf.cells_length])
instance (x : NLeaf) : RowAt x.cells 0 32 x.leaf.key.cells := .mk' (pre := []) (post := (x.leaf.value.cells ++ [.slice x.value.A x.value.n x.value.c])) (by simp [Leaf.cells, NLeaf.cells]) (by rfl) (B32.cells_length _)
instance (x : NLeaf) (y : B32) : SetAt x.cells 0 y.cells ({ x with leaf.key := y } : NLeaf).cells := .mk' (pre := []) (old := x.leaf.key.cells) (post := (x.leaf.value.cells ++ [.slice x.value.A x.value.n x.value.c])) (by simp [Leaf.cells, NLeaf.cells]) (by simp [Leaf.cells, NLeaf.cells]) (by rfl) (by rw [B32.cells_length, B32.cells_length])
instance (x : NLeaf) : RowAt x.cells 32 32 x.leaf.value.cells := .mk' (pre := (x.leaf.key.cells)) (post := ([.slice x.value.A x.value.n x.value.c])) (by simp [Leaf.cells, NLeaf.cells]) (by simp [B32.cells_length, Leaf.cells_length, Item.cells_length]) (B32.cells_length _)
instance (x : NLeaf) (y : B32) : SetAt x.cells 32 y.cells ({ x with leaf.value := y } : NLeaf).cells := .mk' (pre := (x.leaf.key.cells)) (old := x.leaf.value.cells) (post := ([.slice x.value.A x.value.n x.value.c])) (by simp [Leaf.cells, NLeaf.cells]) (by simp [Leaf.cells, NLeaf.cells]) (by simp [B32.cells_length, Leaf.cells_length, Item.cells_length]) (by rw [B32.cells_length, B32.cells_length])
instance (x : NLeaf) : CellAt x.cells 64 (.slice x.value.A x.value.n x.value.c) := .mk' (pre := (x.leaf.cells)) (post := []) (by simp [Leaf.cells, NLeaf.cells]) (by simp [B32.cells_length, Leaf.cells_length, Item.cells_length])
instance (x : NLeaf) (A : Option Addr) (m c : Nat) : SetAt x.cells 64 [.slice A m c] ({ x with value := ⟨A, m, c⟩ } : NLeaf).cells := .mk' (pre := (x.leaf.cells)) (old := [.slice x.value.A x.value.n x.value.c]) (post := []) (by simp [Leaf.cells, NLeaf.cells]) (by simp [Leaf.cells, NLeaf.cells]) (by simp [B32.cells_length, Leaf.cells_length, Item.cells_length]) rfl
instance (x : NLeaf) (y : Sl) : SetAt x.cells 64 [.slice y.A y.n y.c] ({ x with value := y } : NLeaf).cells := .mk' (pre := (x.leaf.cells)) (old := [.slice x.value.A x.value.n x.value.c]) (post := []) (by simp [Leaf.cells, NLeaf.cells]) (by simp [Leaf.cells, NLeaf.cells]) (by simp [B32.cells_length, Leaf.cells_length, Item.cells_length]) rfl
structure NInner where
  l : Option Addr
  r : Option Addr
  dl : B32
  dr : B32
  n : Int
def NInner.cells (x : NInner) : List Value := [.pointer x.l] ++ ([.pointer x.r] ++ (x.dl.cells ++ (x.dr.cells ++ ([.int .i64 x.n] ++ []))))
def zNInner : NInner := ⟨none, none, zB32, zB32, 0⟩
theorem NInner.cells_length (x : NInner) : x.cells.length = 67 := by simp [NInner.cells, B32.cells_length, Leaf.cells_length, Item.cells_length]
theorem NInner.cells_one (x : NInner) : ∀ v ∈ x.cells, v.oneCell' = true := by
  intro v hv
  simp only [NInner.cells, List.mem_append, List.mem_singleton, List.not_mem_nil, or_false] at hv
  rcases hv with rfl | rfl | h | h | rfl
  · exact rfl
  · exact rfl
  · exact B32.cells_one _ v h
  · exact B32.cells_one _ v h
  · exact rfl
instance (x : NInner) : Row x.cells 67 := ⟨NInner.cells_length x, NInner.cells_one x⟩
instance (x : NInner) : RowAt x.cells 0 67 x.cells := .whole (NInner.cells_length x)
instance (x y : NInner) : SetAt x.cells 0 y.cells y.cells := .whole (by rw [NInner.cells_length, NInner.cells_length])
instance (x : NInner) : CellAt x.cells 0 (.pointer x.l) := .mk' (pre := []) (post := ([.pointer x.r] ++ x.dl.cells ++ x.dr.cells ++ [.int .i64 x.n])) (by simp [NInner.cells]) (by rfl)
instance (x : NInner) (y : Option Addr) : SetAt x.cells 0 [.pointer y] ({ x with l := y } : NInner).cells := .mk' (pre := []) (old := [.pointer x.l]) (post := ([.pointer x.r] ++ x.dl.cells ++ x.dr.cells ++ [.int .i64 x.n])) (by simp [NInner.cells]) (by simp [NInner.cells]) (by rfl) rfl
instance (x : NInner) : CellAt x.cells 1 (.pointer x.r) := .mk' (pre := ([.pointer x.l])) (post := (x.dl.cells ++ x.dr.cells ++ [.int .i64 x.n])) (by simp [NInner.cells]) (by simp [B32.cells_length, Leaf.cells_length, Item.cells_length])
instance (x : NInner) (y : Option Addr) : SetAt x.cells 1 [.pointer y] ({ x with r := y } : NInner).cells := .mk' (pre := ([.pointer x.l])) (old := [.pointer x.r]) (post := (x.dl.cells ++ x.dr.cells ++ [.int .i64 x.n])) (by simp [NInner.cells]) (by simp [NInner.cells]) (by simp [B32.cells_length, Leaf.cells_length, Item.cells_length]) rfl
instance (x : NInner) : RowAt x.cells 2 32 x.dl.cells := .mk' (pre := ([.pointer x.l] ++ [.pointer x.r])) (post := (x.dr.cells ++ [.int .i64 x.n])) (by simp [NInner.cells]) (by simp [B32.cells_length, Leaf.cells_length, Item.cells_length]) (B32.cells_length _)
instance (x : NInner) (y : B32) : SetAt x.cells 2 y.cells ({ x with dl := y } : NInner).cells := .mk' (pre := ([.pointer x.l] ++ [.pointer x.r])) (old := x.dl.cells) (post := (x.dr.cells ++ [.int .i64 x.n])) (by simp [NInner.cells]) (by simp [NInner.cells]) (by simp [B32.cells_length, Leaf.cells_length, Item.cells_length]) (by rw [B32.cells_length, B32.cells_length])
instance (x : NInner) : RowAt x.cells 34 32 x.dr.cells := .mk' (pre := ([.pointer x.l] ++ [.pointer x.r] ++ x.dl.cells)) (post := ([.int .i64 x.n])) (by simp [NInner.cells]) (by simp [B32.cells_length, Leaf.cells_length, Item.cells_length]) (B32.cells_length _)
instance (x : NInner) (y : B32) : SetAt x.cells 34 y.cells ({ x with dr := y } : NInner).cells := .mk' (pre := ([.pointer x.l] ++ [.pointer x.r] ++ x.dl.cells)) (old := x.dr.cells) (post := ([.int .i64 x.n])) (by simp [NInner.cells]) (by simp [NInner.cells]) (by simp [B32.cells_length, Leaf.cells_length, Item.cells_length]) (by rw [B32.cells_length, B32.cells_length])
instance (x : NInner) : CellAt x.cells 66 (.int .i64 x.n) := .mk' (pre := ([.pointer x.l] ++ [.pointer x.r] ++ x.dl.cells ++ x.dr.cells)) (post := []) (by simp [NInner.cells]) (by simp [B32.cells_length, Leaf.cells_length, Item.cells_length])
instance (x : NInner) (y : Int) : SetAt x.cells 66 [.int .i64 y] ({ x with n := y } : NInner).cells := .mk' (pre := ([.pointer x.l] ++ [.pointer x.r] ++ x.dl.cells ++ x.dr.cells)) (old := [.int .i64 x.n]) (post := []) (by simp [NInner.cells]) (by simp [NInner.cells]) (by simp [B32.cells_length, Leaf.cells_length, Item.cells_length]) rfl
structure Chk where
  h : Option Addr
  root : Sl
  c : Claim
  b : Sl
  p : Proof
def Chk.cells (x : Chk) : List Value := [.pointer x.h] ++ ([.slice x.root.A x.root.n x.root.c] ++ (x.c.cells ++ ([.slice x.b.A x.b.n x.b.c] ++ (x.p.cells ++ []))))
def zChk : Chk := ⟨none, ⟨none, 0, 0⟩, zClaim, ⟨none, 0, 0⟩, zProof⟩
theorem Chk.cells_length (x : Chk) : x.cells.length = 105 := by simp [Chk.cells, B32.cells_length, Leaf.cells_length, Item.cells_length, Claim.cells_length, Proof.cells_length]
theorem Chk.cells_one (x : Chk) : ∀ v ∈ x.cells, v.oneCell' = true := by
  intro v hv
  simp only [Chk.cells, List.mem_append, List.mem_singleton, List.not_mem_nil, or_false] at hv
  rcases hv with rfl | rfl | h | rfl | h
  · exact rfl
  · exact rfl
  · exact Claim.cells_one _ v h
  · exact rfl
  · exact Proof.cells_one _ v h
instance (x : Chk) : Row x.cells 105 := ⟨Chk.cells_length x, Chk.cells_one x⟩
instance (x : Chk) : RowAt x.cells 0 105 x.cells := .whole (Chk.cells_length x)
instance (x y : Chk) : SetAt x.cells 0 y.cells y.cells := .whole (by rw [Chk.cells_length, Chk.cells_length])
instance (x : Chk) : CellAt x.cells 0 (.pointer x.h) := .mk' (pre := []) (post := ([.slice x.root.A x.root.n x.root.c] ++ x.c.cells ++ [.slice x.b.A x.b.n x.b.c] ++ x.p.cells)) (by simp [Leaf.cells, Claim.cells, Proof.cells, Chk.cells]) (by rfl)
instance (x : Chk) (y : Option Addr) : SetAt x.cells 0 [.pointer y] ({ x with h := y } : Chk).cells := .mk' (pre := []) (old := [.pointer x.h]) (post := ([.slice x.root.A x.root.n x.root.c] ++ x.c.cells ++ [.slice x.b.A x.b.n x.b.c] ++ x.p.cells)) (by simp [Leaf.cells, Claim.cells, Proof.cells, Chk.cells]) (by simp [Leaf.cells, Claim.cells, Proof.cells, Chk.cells]) (by rfl) rfl
instance (x : Chk) : CellAt x.cells 1 (.slice x.root.A x.root.n x.root.c) := .mk' (pre := ([.pointer x.h])) (post := (x.c.cells ++ [.slice x.b.A x.b.n x.b.c] ++ x.p.cells)) (by simp [Leaf.cells, Claim.cells, Proof.cells, Chk.cells]) (by simp [B32.cells_length, Leaf.cells_length, Claim.cells_length, Proof.cells_length])
instance (x : Chk) (A : Option Addr) (m c : Nat) : SetAt x.cells 1 [.slice A m c] ({ x with root := ⟨A, m, c⟩ } : Chk).cells := .mk' (pre := ([.pointer x.h])) (old := [.slice x.root.A x.root.n x.root.c]) (post := (x.c.cells ++ [.slice x.b.A x.b.n x.b.c] ++ x.p.cells)) (by simp [Leaf.cells, Claim.cells, Proof.cells, Chk.cells]) (by simp [Leaf.cells, Claim.cells, Proof.cells, Chk.cells]) (by simp [B32.cells_length, Leaf.cells_length, Claim.cells_length, Proof.cells_length]) rfl
instance (x : Chk) (y : Sl) : SetAt x.cells 1 [.slice y.A y.n y.c] ({ x with root := y } : Chk).cells := .mk' (pre := ([.pointer x.h])) (old := [.slice x.root.A x.root.n x.root.c]) (post := (x.c.cells ++ [.slice x.b.A x.b.n x.b.c] ++ x.p.cells)) (by simp [Leaf.cells, Claim.cells, Proof.cells, Chk.cells]) (by simp [Leaf.cells, Claim.cells, Proof.cells, Chk.cells]) (by simp [B32.cells_length, Leaf.cells_length, Claim.cells_length, Proof.cells_length]) rfl
instance (x : Chk) : RowAt x.cells 2 3 x.c.cells := .mk' (pre := ([.pointer x.h] ++ [.slice x.root.A x.root.n x.root.c])) (post := ([.slice x.b.A x.b.n x.b.c] ++ x.p.cells)) (by simp [Leaf.cells, Proof.cells, Chk.cells]) (by simp [B32.cells_length, Leaf.cells_length, Claim.cells_length, Proof.cells_length]) (Claim.cells_length _)
instance (x : Chk) (y : Claim) : SetAt x.cells 2 y.cells ({ x with c := y } : Chk).cells := .mk' (pre := ([.pointer x.h] ++ [.slice x.root.A x.root.n x.root.c])) (old := x.c.cells) (post := ([.slice x.b.A x.b.n x.b.c] ++ x.p.cells)) (by simp [Leaf.cells, Proof.cells, Chk.cells]) (by simp [Leaf.cells, Proof.cells, Chk.cells]) (by simp [B32.cells_length, Leaf.cells_length, Claim.cells_length, Proof.cells_length]) (by rw [Claim.cells_length, Claim.cells_length])
instance (x : Chk) : CellAt x.cells 2 (.slice x.c.key.A x.c.key.n x.c.key.c) := .mk' (pre := ([.pointer x.h] ++ [.slice x.root.A x.root.n x.root.c])) (post := ([.slice x.c.value.A x.c.value.n x.c.value.c] ++ [.bool x.c.present] ++ [.slice x.b.A x.b.n x.b.c] ++ x.p.cells)) (by simp [Leaf.cells, Claim.cells, Proof.cells, Chk.cells]) (by simp [B32.cells_length, Leaf.cells_length, Claim.cells_length, Proof.cells_length])
instance (x : Chk) (A : Option Addr) (m c : Nat) : SetAt x.cells 2 [.slice A m c] ({ x with c.key := ⟨A, m, c⟩ } : Chk).cells := .mk' (pre := ([.pointer x.h] ++ [.slice x.root.A x.root.n x.root.c])) (old := [.slice x.c.key.A x.c.key.n x.c.key.c]) (post := ([.slice x.c.value.A x.c.value.n x.c.value.c] ++ [.bool x.c.present] ++ [.slice x.b.A x.b.n x.b.c] ++ x.p.cells)) (by simp [Leaf.cells, Claim.cells, Proof.cells, Chk.cells]) (by simp [Leaf.cells, Claim.cells, Proof.cells, Chk.cells]) (by simp [B32.cells_length, Leaf.cells_length, Claim.cells_length, Proof.cells_length]) rfl
instance (x : Chk) (y : Sl) : SetAt x.cells 2 [.slice y.A y.n y.c] ({ x with c.key := y } : Chk).cells := .mk' (pre := ([.pointer x.h] ++ [.slice x.root.A x.root.n x.root.c])) (old := [.slice x.c.key.A x.c.key.n x.c.key.c]) (post := ([.slice x.c.value.A x.c.value.n x.c.value.c] ++ [.bool x.c.present] ++ [.slice x.b.A x.b.n x.b.c] ++ x.p.cells)) (by simp [Leaf.cells, Claim.cells, Proof.cells, Chk.cells]) (by simp [Leaf.cells, Claim.cells, Proof.cells, Chk.cells]) (by simp [B32.cells_length, Leaf.cells_length, Claim.cells_length, Proof.cells_length]) rfl
instance (x : Chk) : CellAt x.cells 3 (.slice x.c.value.A x.c.value.n x.c.value.c) := .mk' (pre := ([.pointer x.h] ++ [.slice x.root.A x.root.n x.root.c] ++ [.slice x.c.key.A x.c.key.n x.c.key.c])) (post := ([.bool x.c.present] ++ [.slice x.b.A x.b.n x.b.c] ++ x.p.cells)) (by simp [Leaf.cells, Claim.cells, Proof.cells, Chk.cells]) (by simp [B32.cells_length, Leaf.cells_length, Claim.cells_length, Proof.cells_length])
instance (x : Chk) (A : Option Addr) (m c : Nat) : SetAt x.cells 3 [.slice A m c] ({ x with c.value := ⟨A, m, c⟩ } : Chk).cells := .mk' (pre := ([.pointer x.h] ++ [.slice x.root.A x.root.n x.root.c] ++ [.slice x.c.key.A x.c.key.n x.c.key.c])) (old := [.slice x.c.value.A x.c.value.n x.c.value.c]) (post := ([.bool x.c.present] ++ [.slice x.b.A x.b.n x.b.c] ++ x.p.cells)) (by simp [Leaf.cells, Claim.cells, Proof.cells, Chk.cells]) (by simp [Leaf.cells, Claim.cells, Proof.cells, Chk.cells]) (by simp [B32.cells_length, Leaf.cells_length, Claim.cells_length, Proof.cells_length]) rfl
instance (x : Chk) (y : Sl) : SetAt x.cells 3 [.slice y.A y.n y.c] ({ x with c.value := y } : Chk).cells := .mk' (pre := ([.pointer x.h] ++ [.slice x.root.A x.root.n x.root.c] ++ [.slice x.c.key.A x.c.key.n x.c.key.c])) (old := [.slice x.c.value.A x.c.value.n x.c.value.c]) (post := ([.bool x.c.present] ++ [.slice x.b.A x.b.n x.b.c] ++ x.p.cells)) (by simp [Leaf.cells, Claim.cells, Proof.cells, Chk.cells]) (by simp [Leaf.cells, Claim.cells, Proof.cells, Chk.cells]) (by simp [B32.cells_length, Leaf.cells_length, Claim.cells_length, Proof.cells_length]) rfl
instance (x : Chk) : CellAt x.cells 4 (.bool x.c.present) := .mk' (pre := ([.pointer x.h] ++ [.slice x.root.A x.root.n x.root.c] ++ [.slice x.c.key.A x.c.key.n x.c.key.c] ++ [.slice x.c.value.A x.c.value.n x.c.value.c])) (post := ([.slice x.b.A x.b.n x.b.c] ++ x.p.cells)) (by simp [Leaf.cells, Claim.cells, Proof.cells, Chk.cells]) (by simp [B32.cells_length, Leaf.cells_length, Claim.cells_length, Proof.cells_length])
instance (x : Chk) (y : Bool) : SetAt x.cells 4 [.bool y] ({ x with c.present := y } : Chk).cells := .mk' (pre := ([.pointer x.h] ++ [.slice x.root.A x.root.n x.root.c] ++ [.slice x.c.key.A x.c.key.n x.c.key.c] ++ [.slice x.c.value.A x.c.value.n x.c.value.c])) (old := [.bool x.c.present]) (post := ([.slice x.b.A x.b.n x.b.c] ++ x.p.cells)) (by simp [Leaf.cells, Claim.cells, Proof.cells, Chk.cells]) (by simp [Leaf.cells, Claim.cells, Proof.cells, Chk.cells]) (by simp [B32.cells_length, Leaf.cells_length, Claim.cells_length, Proof.cells_length]) rfl
instance (x : Chk) : CellAt x.cells 5 (.slice x.b.A x.b.n x.b.c) := .mk' (pre := ([.pointer x.h] ++ [.slice x.root.A x.root.n x.root.c] ++ x.c.cells)) (post := (x.p.cells)) (by simp [Leaf.cells, Claim.cells, Proof.cells, Chk.cells]) (by simp [B32.cells_length, Leaf.cells_length, Claim.cells_length, Proof.cells_length])
instance (x : Chk) (A : Option Addr) (m c : Nat) : SetAt x.cells 5 [.slice A m c] ({ x with b := ⟨A, m, c⟩ } : Chk).cells := .mk' (pre := ([.pointer x.h] ++ [.slice x.root.A x.root.n x.root.c] ++ x.c.cells)) (old := [.slice x.b.A x.b.n x.b.c]) (post := (x.p.cells)) (by simp [Leaf.cells, Claim.cells, Proof.cells, Chk.cells]) (by simp [Leaf.cells, Claim.cells, Proof.cells, Chk.cells]) (by simp [B32.cells_length, Leaf.cells_length, Claim.cells_length, Proof.cells_length]) rfl
instance (x : Chk) (y : Sl) : SetAt x.cells 5 [.slice y.A y.n y.c] ({ x with b := y } : Chk).cells := .mk' (pre := ([.pointer x.h] ++ [.slice x.root.A x.root.n x.root.c] ++ x.c.cells)) (old := [.slice x.b.A x.b.n x.b.c]) (post := (x.p.cells)) (by simp [Leaf.cells, Claim.cells, Proof.cells, Chk.cells]) (by simp [Leaf.cells, Claim.cells, Proof.cells, Chk.cells]) (by simp [B32.cells_length, Leaf.cells_length, Claim.cells_length, Proof.cells_length]) rfl
instance (x : Chk) : RowAt x.cells 6 99 x.p.cells := .mk' (pre := ([.pointer x.h] ++ [.slice x.root.A x.root.n x.root.c] ++ x.c.cells ++ [.slice x.b.A x.b.n x.b.c])) (post := []) (by simp [Leaf.cells, Claim.cells, Chk.cells]) (by simp [B32.cells_length, Leaf.cells_length, Claim.cells_length, Proof.cells_length]) (Proof.cells_length _)
instance (x : Chk) (y : Proof) : SetAt x.cells 6 y.cells ({ x with p := y } : Chk).cells := .mk' (pre := ([.pointer x.h] ++ [.slice x.root.A x.root.n x.root.c] ++ x.c.cells ++ [.slice x.b.A x.b.n x.b.c])) (old := x.p.cells) (post := []) (by simp [Leaf.cells, Claim.cells, Chk.cells]) (by simp [Leaf.cells, Claim.cells, Chk.cells]) (by simp [B32.cells_length, Leaf.cells_length, Claim.cells_length, Proof.cells_length]) (by rw [Proof.cells_length, Proof.cells_length])
end Go.Proofs.YtjhocljhhpkiiaaGreatDoor
/- S3 -/
namespace Go.Proofs.YtjhocljhhpkiiaaGreatDoor
set_option linter.unusedSimpArgs false
set_option linter.unusedVariables false
open Go.RowKit
/-! ### builds -/
class TB (P : Program) (T : TypeId) (z : outParam (List Value)) (pl : outParam (Nat → Option (Nat × Nat))) : Prop where
  run : ∀ (w : World) (ps : List (Nat × Value)) (cells : Array Value), Instr.fill pl z.toArray ps = some cells → (Instr.build T ps.toArray).run P w = .ok (.agg cells) w
class Place (pl : Nat → Option (Nat × Nat)) (i : Nat) (off n : outParam Nat) : Prop where
  eq : pl i = some (off, n)
def plArr (n : Nat) : Nat → Option (Nat × Nat) := fun i => some (i * n, n)
instance (n i : Nat) : Place (plArr n) i (i * n) n := ⟨rfl⟩
class Fills (pl : Nat → Option (Nat × Nat)) (cs : List Value) (ps : List (Nat × Value)) (out : outParam (List Value)) : Prop where
  eq : Instr.fill pl cs.toArray ps = some out.toArray
instance (pl : Nat → Option (Nat × Nat)) (cs : List Value) : Fills pl cs [] cs := ⟨rfl⟩
instance (pl : Nat → Option (Nat × Nat)) (cs cs' out new : List Value) (i off n : Nat) (v : Value) (ps : List (Nat × Value)) [hp : Place pl i off n] [hv : VCells v new] [hn : Row new n] [hs : SetAt cs off new cs'] [hf : Fills pl cs' ps out] : Fills pl cs ((i, v) :: ps) out := by
  have hl := hn.len
  have hfit := hs.fit
  refine ⟨?_⟩
  rw [fill_one pl _ i v ps off n hp.eq (by rw [hv.eq]; simpa using hl) (by simp; omega), ← hf.eq, hs.eq, hv.eq]
  simp [hl]
theorem row_one {v : Value} (h : v.oneCell' = true) : Row [v] 1 := ⟨rfl, by simpa using h⟩
instance (k : IntKind) (n : Int) : Row [.int k n] 1 := row_one rfl
instance (b : Bool) : Row [.bool b] 1 := row_one rfl
instance (s : ByteArray) : Row [.string s] 1 := row_one rfl
instance (p : Option Addr) : Row [.pointer p] 1 := row_one rfl
instance (A : Option Addr) (n c : Nat) : Row [.slice A n c] 1 := row_one rfl
instance : Row [.nilIface] 1 := row_one rfl
instance (t : TypeId) (v : Value) : Row [.iface t v] 1 := row_one rfl
instance : Row [.nilFunc] 1 := row_one rfl
instance (f : Fn) (c d : Array Value) : Row [.func f c d] 1 := row_one rfl
instance : Row [] 0 := ⟨rfl, by simp⟩
instance (priority := 50) (v : Value) (l : List Value) (n : Nat) [h : Row [v] 1] [k : Row l n] : Row (v :: l) (n + 1) := ⟨by simp [k.len], fun u hu => (List.mem_cons.1 hu).elim (fun e => h.one u (by simp [e])) (k.one u)⟩
instance (priority := 50) (cs new : List Value) (n : Nat) [h : Row cs n] [k : Row new n] : SetAt cs 0 new new := .whole (by rw [h.len, k.len])
instance (priority := 50) (cs : List Value) (n : Nat) [h : Row cs n] : RowAt cs 0 n cs := .whole h.len
instance (priority := 40) (cs : List Value) : RowAt cs 0 0 [] := ⟨fun j v hv => by simp at hv, rfl⟩
instance (priority := 40) (v : Value) (cs out : List Value) (n : Nat) [h : RowAt cs 0 n out] : RowAt (v :: cs) 0 (n + 1) (v :: out) := ⟨fun j u hu => by
  cases j with
  | zero => simpa using hu
  | succ j => have := h.at_ j u (by simpa using hu); rw [Nat.zero_add] at this ⊢; simpa using this, by simp [h.len]⟩
instance (priority := 40) (v : Value) (cs out : List Value) (off n : Nat) [h : RowAt cs off n out] : RowAt (v :: cs) (off + 1) n out := ⟨fun j u hu => by
  have := h.at_ j u hu
  rw [Nat.add_right_comm]; simpa using this, h.len⟩
/-- equality of two values of many cells -/
class TEq (P : Program) (T : TypeId) (xs ys : List Value) (p : outParam Bool) : Prop where
  eq : ∀ (w : World) (d : Nat), (Op.equalIn (d + 6) T (.agg xs.toArray) (.agg ys.toArray)).run P w = .ok p w
  guard : P.eqGuardType P.depth T = false
section
variable {P : Program} {a : Act} {w : World} {o : Oper}
theorem xBuild {T : TypeId} {z out : List Value} {pl : Nat → Option (Nat × Nat)} [hT : TB P T z pl] {l : List (Nat × Operand)} {ps : List (Nat × Value)} (ho : o.op = .build T l.toArray) (hp : (l.map fun p => (p.1, a.eval p.2)) = ps) [hf : Fills pl z ps out] :
    (execOp a.eval o).run P w = .ok (.value (.agg out.toArray)) w := ex_build ho ps hp (hT.run w ps _ hf.eq)
theorem xEql {T T' : TypeId} {x y : Operand} {xs ys : List Value} {p : Bool} (ho : o.op = .binOp .eql T x y T') (hx : a.eval x = .agg xs.toArray) (hy : a.eval y = .agg ys.toArray) [h : TEq P T xs ys p] :
    (execOp a.eval o).run P w = .ok (.value (.bool p)) w := ex_eql ho hx hy h.guard (by rw [run_eql_struct, h.eq w 9994]; rfl)
theorem xNeq {T T' : TypeId} {x y : Operand} {xs ys : List Value} {p : Bool} (ho : o.op = .binOp .neq T x y T') (hx : a.eval x = .agg xs.toArray) (hy : a.eval y = .agg ys.toArray) [h : TEq P T xs ys p] :
    (execOp a.eval o).run P w = .ok (.value (.bool (!p))) w := ex_neq ho hx hy h.guard (by rw [run_neq_struct, h.eq w 9994]; rfl)
end
/-! ### slices that are made and grow -/
section
variable {P : Program} {X : List Nat} {w0 w : World} {L L' : List Fc} {a : Act} {ops : Array Oper} {rest : List Oper} {Q : Exit → Act → World → Prop} {d : Option Tmp} {ty : TypeId} {pos : String} {af : Array Edge}
theorem append_where {base : Nat} {t ty e : TypeId} {i : TypeInfo} {z : Value} {size bytes : Nat} (ht : P.underlying t = some (.slice e)) (hi : P.info? e = some i) (hz : i.zero = some z)
    (hsize : i.size = size) (hby : i.bytes = bytes) {v : Value} {n : Nat} {xs : List Value} (hown : w.ownsRow base e size v n xs)
    {a : Addr} {m c : Nat} {news : List Value} (hl : news.length = m * size) (hnews : ∀ j u, news[j]? = some u → w.cell? (a.add j) = some u) (h1 : ∀ u ∈ news, u.oneCell' = true)
    (h63 : n + m ≤ maxLen) (hbytes : (n + m) * bytes ≤ 140737488355328) {v' : Value} {w' : World} (hr : (Builtin.append_ #[t, t] ty #[v, .slice (some a) m c]).run P w = .ok v' w') (hnil : v' = .slice none 0 0 ↔ v = .slice none 0 0 ∧ m = 0) :
    v'.ownBlock = v.ownBlock ∨ v'.ownBlock = some w.heap.size := by
  subst hsize hby
  have hsmall : n + m ≤ 9223372036854775807 := by simp only [maxLen] at h63; omega
  rcases hown.2 with ⟨rfl, rfl⟩ | ⟨g, cap, cur, rfl, hbg, hg, hnc, hcm, hcs, htake⟩
  · by_cases hm : m = 0
    · rw [hnil.2 ⟨rfl, hm⟩]; exact .inl rfl
    · have hr2 := run_append_nil (P := P) w t ty e i z ht hi hz a m c news hl hnews (by omega) (by omega) (by have hb := hbytes; simp only [Nat.zero_add] at hb; omega)
      rw [hr2] at hr
      injection hr with hr _
      rw [← hr]
      exact .inr rfl
  · by_cases hroom : n + m ≤ cap
    · have hfit : n * i.size + news.length ≤ cur.size := by rw [hl, hcs, ← Nat.add_mul]; exact Nat.mul_le_mul_right _ hroom
      have hr2 := run_append_room (P := P) w t ty e i ht hi g n cap cur hg a m c news hl hnews h1 hroom hfit
      rw [hr2] at hr
      injection hr with hr _
      rw [← hr]
      exact .inl rfl
    · have holds : ∀ j u, xs[j]? = some u → w.cell? ((⟨g, 0, none⟩ : Addr).add j) = some u := hown.cells (g := g) rfl
      have hr2 := run_append_grow (P := P) w t ty e i z ht hi hz ⟨g, 0, none⟩ n cap xs hown.1 holds a m c news hl hnews (by omega) (by omega) (growslice_fits (by omega) hbytes)
      rw [hr2] at hr
      injection hr with hr _
      rw [← hr]
      exact .inr rfl
theorem xAppend {o : Oper} {s x : Operand} {t e : TypeId} {size bytes : Nat} {z : Value} (ho : o.op = .call { callee := .builtin .append, args := #[s, x], argTypes := #[t, t] }) (E : ElT P t e size bytes z)
    {base n : Nat} {v : Value} {xs : List Value} (hs : a.eval s = v) (hown : w.ownsRow base e size v n xs) {A : Option Addr} {m c : Nat} {news : List Value} (hx : a.eval x = .slice A m c) (hA : A = none → m = 0 ∧ c = 0) (hl : news.length = m * size) (hr : Rd w A news)
    (h1 : ∀ u ∈ news, u.oneCell' = true) (hb : (n + m) * bytes ≤ 140737488355328) (hbase : base ≤ w.heap.size) :
    ∃ v' w', (execOp a.eval o).run P w = .ok (.value v') w' ∧ w'.ownsRow base e size v' (n + m) (xs ++ news) ∧ w.grownBy w' v.ownBlock ∧ (v'.ownBlock = v.ownBlock ∨ v'.ownBlock = some w.heap.size) := by
  obtain ⟨i, hi, hz, hsz, hby⟩ := info_parts E.hi
  have hnm : n + m ≤ maxLen := by
    have : n + m ≤ (n + m) * bytes := Nat.le_mul_of_pos_right _ E.hb
    unfold maxLen
    omega
  cases A with
  | none =>
    obtain ⟨rfl, rfl⟩ := hA rfl
    have hn0 : news = [] := List.eq_nil_of_length_eq_zero (by simpa using hl)
    subst hn0
    have hrun := run_append_owned_none (P := P) w base t o.type e i size E.ht hi v n xs hown
    refine ⟨v, w, ?_, by simpa using hown, World.grownBy.refl _ _, .inl rfl⟩
    unfold execOp
    simp only [ho, resolve, invoke, builtin, Sem.run_bind, Sem.run_pure, Result.andThen_ok, List.map_toArray, List.map_cons, List.map_nil, hs, hx, hrun]
  | some ad =>
    have hnews : ∀ j u, news[j]? = some u → w.cell? (ad.add j) = some u := fun j u hu => by
      obtain ⟨b, o', e, hc⟩ := hr j u hu
      obtain rfl := Option.some.inj e
      rw [Addr.add_mid]
      exact hc
    obtain ⟨v', w', hrun, h2, h3, h4⟩ := run_append_own (P := P) w base t o.type e i z size bytes E.ht hi hz hsz hby E.hz E.h0 v n xs hown ad m c news hl hnews h1 hnm hb hbase
    refine ⟨v', w', ?_, h2, h3, append_where E.ht hi hz hsz hby hown hl hnews h1 hnm hb hrun h4⟩
    unfold execOp
    simp only [ho, resolve, invoke, builtin, Sem.run_bind, Sem.run_pure, Result.andThen_ok, List.map_toArray, List.map_cons, List.map_nil, hs, hx, hrun]
theorem St.grow (h : St X w0 w L) {w' : World} {v v' : Value} {n n' : Nat} {e : TypeId} {size : Nat} {xs xs' : List Value} (hr : Repl (.own v n e size xs) (.own v' n' e size xs') L L') (hw : w'.ownsRow w0.heap.size e size v' n' xs') (hg : w.grownBy w' v.ownBlock)
    (hwh : v'.ownBlock = v.ownBlock ∨ v'.ownBlock = some w.heap.size) : St X w0 w' L' := by
  -- where v' stands in a block of its own, that block is new: every fact stands apart from it
  rcases hwh with h1 | h1
  · refine h.turn hr rfl (fun k hk => by show v.ownBlock = some k; rw [← h1]; exact hk) hw hg.os hg.tape hg.output hg.size fun k hk hne => hg.block k hk fun e => hne e.symm
  · have hsep : ∀ {M M' : List Fc}, Repl (.own v n e size xs) (.own v' n' e size xs') M M' → (∀ f ∈ M, f ∈ L) → M.Pairwise Fc.sep → M'.Pairwise Fc.sep := by
      intro M M' hM
      induction hM with
      | head =>
        intro hL hp
        obtain ⟨h2, h3⟩ := List.pairwise_cons.1 hp
        refine List.pairwise_cons.2 ⟨fun g hg' _ k a b => ?_, h3⟩
        have a' : v'.ownBlock = some k := a
        rw [h1] at a'
        have hlt := Fc.bound (h.ok g (hL g (List.mem_cons_of_mem _ hg'))) b
        injection a' with a'
        omega
      | tail hM ih =>
        intro hL hp
        obtain ⟨h2, h3⟩ := List.pairwise_cons.1 hp
        refine List.pairwise_cons.2 ⟨fun g hg' => ?_, ih (fun f hf => hL f (List.mem_cons_of_mem _ hf)) h3⟩
        rcases hM.old g hg' with rfl | ⟨h5, _⟩
        · intro _ k a b
          have b' : v'.ownBlock = some k := b
          rw [h1] at b'
          have hlt := Fc.bound (h.ok _ (hL _ (List.mem_cons_self ..))) a
          injection b' with b'
          omega
        · exact h2 g h5
    have hfr := h.fresh _ hr.mem rfl
    refine ⟨⟨hg.os.trans h.bel.os, hg.tape.trans h.bel.tape, hg.output.trans h.bel.output, Nat.le_trans h.size hg.size, fun k hlt hX => ?_⟩, fun f hf => ?_, hsep hr (fun _ h => h) h.sep, fun f hf hfw k hk => ?_⟩
    · refine (hg.block k (Nat.lt_of_lt_of_le hlt h.size) fun e => ?_).trans (h.bel.block k hlt hX)
      rcases hfr k e.symm with h2 | h2
      · omega
      · exact hX h2
    · rcases hr.old f hf with rfl | ⟨h3, h4⟩
      · exact hw
      · refine Fc.kept (h.ok f h3) hg.size fun k hk => hg.block k (Fc.bound (h.ok f h3) hk) fun e => ?_
        rcases h4 h.sep with h5 | h5
        · exact h5 (by rw [Bool.or_eq_true]; exact .inr rfl) k hk e.symm
        · exact h5
    · rcases hr.old f hf with rfl | ⟨h3, _⟩
      · have hk' : v'.ownBlock = some k := hk
        rw [h1] at hk'
        injection hk' with hk'
        exact .inl (by have := h.size; omega)
      · exact h.fresh f h3 hfw k hk
end
end Go.Proofs.YtjhocljhhpkiiaaGreatDoor
/- S4 -/
namespace Go.Proofs.YtjhocljhhpkiiaaGreatDoor
set_option linter.unusedSimpArgs false
set_option linter.unusedVariables false
open Go.RowKit
/-! where a cell stands, in a block of one's own or in what is read -/
class HasC (b O : Nat) (L : List Fc) (off : outParam Nat) (cs : outParam (List Value)) : Prop where
  cell : ∀ {X : List Nat} {w0 w : World}, St X w0 w L → ∀ j v, cs[off + j]? = some v → w.cell? ⟨b, O + j, none⟩ = some v
instance (priority := 100) (b O : Nat) (L : List Fc) (cs : List Value) (T : TypeId) [h : HasB b L cs T] : HasC b O L O cs :=
  ⟨fun hS j v hv => by rw [cell_of_row _ b (O + j) cs.toArray T (0, 0) (hS.blk h.mem)]; simpa using hv⟩
instance (b O : Nat) (L : List Fc) (o off : Nat) (cs : List Value) [h : HasR b O L o off cs] : HasC b O L off cs :=
  ⟨fun hS j v hv => by have := (hS.rd h.mem).range _ v hv; rwa [← Nat.add_assoc, ← h.off] at this⟩
/-- field i of a struct type: where it stands -/
class TFA (P : Program) (T : TypeId) (i : Nat) (off : outParam Nat) : Prop where
  fld : ∃ (fs : Array Field) (f : Field) (s : Nat), P.underlying T = some (.struct fs) ∧ fs[i]? = some f ∧ f.offset = off ∧ (P.info? f.type).map (·.size) = some (s + 1)
section
variable {P : Program} {X : List Nat} {w0 w : World} {L : List Fc} {a : Act} {o : Oper}
theorem xField {T : TypeId} {x : Operand} {i off : Nat} [h : TFA P T i off] {b O : Nat} (ho : o.op = .fieldAddr T x i) (hx : a.eval x = .pointer (some ⟨b, O, none⟩)) :
    (execOp a.eval o).run P w = .ok (.value (.pointer (some ⟨b, O + off, none⟩))) w := by
  obtain ⟨fs, f, s, h1, h2, h3, h4⟩ := h.fld
  exact ex_fieldAt ho hx h1 h2 h4 (by rw [h3])
theorem xInt {op : BinOp} {T T' : TypeId} {x y : Operand} {k : IntKind} {m n : Int} {v : Value} (ho : o.op = .binOp op T x y T') (hx : a.eval x = .int k m) (hy : a.eval y = .int k n) (hg : (eqGuard op T x y (.int k m) (.int k n)).run P w = .ok () w) (hv : (binOp op T (.int k m) (.int k n)).run P w = .ok v w) :
    (execOp a.eval o).run P w = .ok (.value v) w := by
  unfold execOp
  simp only [ho, hx, hy, Sem.run_bind, hg, Result.andThen_ok, hv]
  rfl
theorem xAdd {T T' : TypeId} {x y : Operand} {m n : Int} (ho : o.op = .binOp .add T x y T') (hx : a.eval x = .int .i64 m) (hy : a.eval y = .int .i64 n) (h : -9223372036854775808 ≤ m + n ∧ m + n ≤ 9223372036854775807) :
    (execOp a.eval o).run P w = .ok (.value (.int .i64 (m + n))) w := by
  unfold execOp
  simp only [ho, hx, hy]
  have e : (binOp .add T (.int .i64 m) (.int .i64 n)).run P w = .ok (.int .i64 (m + n)) w := by
    rw [← IntWalk.i64_in (m + n) h]
    rfl
  rw [Sem.run_bind, Sem.run_bind]
  have g : (eqGuard .add T x y (.int .i64 m) (.int .i64 n)).run P w = .ok () w := rfl
  rw [g, Result.andThen_ok, e]
  rfl
theorem xSub {T T' : TypeId} {x y : Operand} {m n : Int} (ho : o.op = .binOp .sub T x y T') (hx : a.eval x = .int .i64 m) (hy : a.eval y = .int .i64 n) (h : -9223372036854775808 ≤ m - n ∧ m - n ≤ 9223372036854775807) :
    (execOp a.eval o).run P w = .ok (.value (.int .i64 (m - n))) w := by
  unfold execOp
  simp only [ho, hx, hy]
  have e : (binOp .sub T (.int .i64 m) (.int .i64 n)).run P w = .ok (.int .i64 (m - n)) w := by
    rw [← IntWalk.i64_in (m - n) h]
    rfl
  rw [Sem.run_bind, Sem.run_bind]
  have g : (eqGuard .sub T x y (.int .i64 m) (.int .i64 n)).run P w = .ok () w := rfl
  rw [g, Result.andThen_ok, e]
  rfl
theorem xEqI {T T' : TypeId} {x y : Operand} {k : IntKind} {m n : Int} (ho : o.op = .binOp .eql T x y T') (hx : a.eval x = .int k m) (hy : a.eval y = .int k n) : (execOp a.eval o).run P w = .ok (.value (.bool (m == n))) w := ex_eqlI ho hx hy rfl
theorem xNeI {T T' : TypeId} {x y : Operand} {k : IntKind} {m n : Int} (ho : o.op = .binOp .neq T x y T') (hx : a.eval x = .int k m) (hy : a.eval y = .int k n) : (execOp a.eval o).run P w = .ok (.value (.bool (m != n))) w := ex_neqI ho hx hy rfl
theorem xCmp {op : BinOp} {T T' : TypeId} {x y : Operand} {k : IntKind} {m n : Int} {p : Bool} (ho : o.op = .binOp op T x y T') (hx : a.eval x = .int k m) (hy : a.eval y = .int k n) (hp : (binOp op T (.int k m) (.int k n)).run P w = .ok (.bool p) w) (hg : (eqGuard op T x y (.int k m) (.int k n)).run P w = .ok () w) :
    (execOp a.eval o).run P w = .ok (.value (.bool p)) w := xInt ho hx hy hg hp
theorem xLss {T T' : TypeId} {x y : Operand} {k : IntKind} {m n : Int} (ho : o.op = .binOp .lss T x y T') (hx : a.eval x = .int k m) (hy : a.eval y = .int k n) : (execOp a.eval o).run P w = .ok (.value (.bool (decide (m < n)))) w := xCmp ho hx hy (by cases k <;> rfl) rfl
theorem xLeq {T T' : TypeId} {x y : Operand} {k : IntKind} {m n : Int} (ho : o.op = .binOp .leq T x y T') (hx : a.eval x = .int k m) (hy : a.eval y = .int k n) : (execOp a.eval o).run P w = .ok (.value (.bool (decide (m ≤ n)))) w := xCmp ho hx hy (by cases k <;> rfl) rfl
theorem xGtr {T T' : TypeId} {x y : Operand} {k : IntKind} {m n : Int} (ho : o.op = .binOp .gtr T x y T') (hx : a.eval x = .int k m) (hy : a.eval y = .int k n) : (execOp a.eval o).run P w = .ok (.value (.bool (decide (m > n)))) w := xCmp ho hx hy (by cases k <;> rfl) rfl
theorem xGeq {T T' : TypeId} {x y : Operand} {k : IntKind} {m n : Int} (ho : o.op = .binOp .geq T x y T') (hx : a.eval x = .int k m) (hy : a.eval y = .int k n) : (execOp a.eval o).run P w = .ok (.value (.bool (decide (m ≥ n)))) w := xCmp ho hx hy (by cases k <;> rfl) rfl
theorem xNot {T : TypeId} {x : Operand} {b : Bool} (ho : o.op = .unOp .not T x) (hx : a.eval x = .bool b) : (execOp a.eval o).run P w = .ok (.value (.bool (!b))) w := by
  unfold execOp
  simp only [ho, hx]
  rfl
theorem xLen {T e size bytes : Nat} {z : Value} [E : TS P T e size bytes z] {x : Operand} {A : Option Addr} {n c : Nat} (ho : o.op = .call { callee := .builtin .len, args := #[x], argTypes := #[T] }) (hx : a.eval x = .slice A n c) : (execOp a.eval o).run P w = .ok (.value (.int .i64 n)) w := by
  unfold execOp
  simp only [ho, resolve, invoke, builtin, Sem.run_bind, Sem.run_pure, Result.andThen_ok, List.map_toArray, List.map_cons, List.map_nil, hx]
  simp [Builtin.len_, goInt, run_underlying E.el.ht]
theorem xExtract {x : Operand} {i : Nat} {vs : List Value} {v : Value} (ho : o.op = .extract x i) (hx : a.eval x = .tuple vs.toArray) (hv : vs[i]? = some v) : (execOp a.eval o).run P w = .ok (.value v) w := by
  unfold execOp
  simp only [ho, hx, Instr.extract]
  simp [hv]
end
/-! ### a region that draws its order -/
/-! ### steps that leave their side conditions as goals, one after the other -/
class TArr (P : Program) (T : TypeId) (len e size : outParam Nat) : Prop where
  und : P.underlying T = some (.array len e)
  size : (P.info? e).map (·.size) = some size
section
variable {P : Program} {a : Act} {ops : Array Oper} {rest : List Oper} {Q : Exit → Act → World → Prop} {d : Option Tmp} {ty : TypeId} {pos : String} {af : Array Edge} {gd : Option (Nat × Bool)} {w : World} {o : Oper}
theorem run_idx {T len e size : Nat} [hT : TArr P T len e size] {cs : List Value} {k : IntKind} {n : Int} (h0 : 0 ≤ n) (h1 : n < len) {v : Value} (hp : (part e cs.toArray (n.toNat * size)).run P w = .ok v w) : (Instr.index T (.agg cs.toArray) (.int k n)).run P w = .ok v w := by
  obtain ⟨j, hj, hjs⟩ := Option.map_eq_some_iff.1 hT.size
  subst hjs
  simp only [Instr.index, asIntOf, Sem.run_bind, Sem.run_pure, Result.andThen_ok, run_underlying hT.und, if_pos (show 0 ≤ n ∧ n < (len : Int) from ⟨h0, h1⟩), sizeOf, typeInfo]
  simp [hj, hp]
end
/-! ### results that lie in blocks -/
end Go.Proofs.YtjhocljhhpkiiaaGreatDoor
/- S5 -/
namespace Go.Proofs.YtjhocljhhpkiiaaGreatDoor
set_option linter.unusedSimpArgs false
set_option linter.unusedVariables false
open Go.RowKit
/-- a row of one's own, and the other facts -/
class DropO (v : Value) (e : TypeId) (L : List Fc) (n size : outParam Nat) (xs : outParam (List Value)) (M : outParam (List Fc)) : Prop where
  perm : L.Perm (.own v n e size xs :: M)
instance (priority := 100) (v : Value) (e : TypeId) (f : Fc) (L : List Fc) (n size : Nat) (xs : List Value) (M : List Fc) [h : DropO v e L n size xs M] : DropO v e (f :: L) n size xs (f :: M) := ⟨(h.perm.cons f).trans (List.Perm.swap _ _ _)⟩
instance (v : Value) (e : TypeId) (L : List Fc) (n size : Nat) (xs : List Value) : DropO v e (.own v n e size xs :: L) n size xs L := ⟨List.Perm.refl _⟩
instance (priority := 90) (b O : Nat) (f : Fc) (L : List Fc) (off : Nat) (cs : List Value) [h : HasC b O L off cs] : HasC b O (f :: L) off cs := ⟨fun hS => h.cell (hS.tail rfl)⟩
theorem own_cell {w : World} {B g n c : Nat} {e : TypeId} {size : Nat} {xs : List Value} (h : w.ownsRow B e size (.slice (some ⟨g, 0, none⟩) n c) n xs) {j : Nat} {v : Value} (hv : xs[j]? = some v) : w.cell? ⟨g, j, none⟩ = some v := by
  have := h.cells (g := g) rfl j v hv
  rwa [Addr.add_mid, Nat.zero_add] at this
instance (b O : Nat) (L : List Fc) (n c e size : Nat) (xs : List Value) : HasC b O (.own (.slice (some ⟨b, 0, none⟩) n c) n e size xs :: L) O xs :=
  ⟨fun hS j v hv => own_cell (hS.ok _ (List.mem_cons_self ..)) hv⟩
/-! ### a slice built of its parts -/
class Parts (n k : Nat) (ps : List (Nat × Value)) (out : outParam (List Value)) : Prop where
  fill : ∀ pre Z : List Value, pre.length = k * n → Z.length = ps.length * n → Instr.fill (fun i => some (i * n, n)) (pre ++ Z).toArray ps = some (pre ++ out).toArray
instance (n k : Nat) : Parts n k [] [] := ⟨fun pre Z _ hZ => by
  obtain rfl : Z = [] := List.eq_nil_of_length_eq_zero (by simpa using hZ)
  simp [Instr.fill]⟩
theorem Parts.cons {n k : Nat} {v : Value} {ps : List (Nat × Value)} {new out : List Value} (hv : VCells v new) (hn : Row new n) (hp : Parts n (k + 1) ps out) : Parts n k ((k, v) :: ps) (new ++ out) := ⟨fun pre Z hpre hZ => by
  have hl := hn.len
  rw [fill_one _ _ k v ps (k * n) n rfl (by rw [hv.eq]; simpa using hl) (by simp [hpre, hZ, Nat.succ_mul])]
  have e1 : List.take (k * n) (pre ++ Z).toArray.toList = pre := by simp [← hpre]
  have e2 : List.drop (k * n + n) (pre ++ Z).toArray.toList = Z.drop n := by simp [← hpre]
  have ih := hp.fill (pre ++ new) (Z.drop n) (by simp [hpre, hl, Nat.succ_mul]) (by simp [hZ, Nat.succ_mul])
  rw [e1, e2, hv.eq, ← List.append_assoc]
  exact ih⟩
instance (n k : Nat) (v : Value) (ps : List (Nat × Value)) (new out : List Value) [hv : VCells v new] [hn : Row new n] [hp : Parts n (k + 1) ps out] : Parts n k ((k, v) :: ps) (new ++ out) := .cons hv hn hp
instance (n k : Nat) (v : Value) (new : List Value) [hv : VCells v new] [hn : Row new n] : Parts n k [(k, v)] new := by
  have h := Parts.cons (k := k) hv hn (inferInstance : Parts n (k + 1) [] [])
  rwa [List.append_nil] at h
section
variable {P : Program} {X : List Nat} {w0 w w' : World} {L M : List Fc} {a : Act} {o : Oper}
theorem xIndexS {T e size bytes : Nat} {z : Value} [E : TS P T e size bytes z] {x i : Operand} {b off n c : Nat} {k : IntKind} {I : Int} (ho : o.op = .indexAddr T x i) (hx : a.eval x = .slice (some ⟨b, off, none⟩) n c) (hi : a.eval i = .int k I) (h : 0 ≤ I ∧ I < n) :
    (execOp a.eval o).run P w = .ok (.value (.pointer (some ⟨b, off + I.toNat * size, none⟩))) w := by
  obtain ⟨i, h1, _, h2, _⟩ := info_parts E.el.hi
  exact ex_index ho E.el.ht (by rw [h1, Option.map_some, h2]) hx hi h.1 h.2
end
/-! ### append of zeros to nil -/
section
variable {P : Program} {X : List Nat} {w0 w : World} {L M : List Fc} {a : Act} {o : Oper}
theorem xAppendZ {s x : Operand} {t e xt : TypeId} {size bytes : Nat} {z : Value} {n : Nat} [E : TS P t e size bytes z] {k : IntKind} (hxt : P.underlying xt = some (.int k)) (ho : o.op = .call { callee := .builtin .append, args := #[s, x], argTypes := #[t, xt] }) (hs : a.eval s = .slice none 0 0) (hx : a.eval x = .int .i64 n)
    (h0 : 0 < n) (hb : n * bytes ≤ 140737488355328) {base : Nat} (hbase : base ≤ w.heap.size) :
    ∃ v' w', (execOp a.eval o).run P w = .ok (.value v') w' ∧ w'.ownsRow base e size v' n ((List.range (n * size)).map fun i => z.cells[i % size]!) ∧ w.grownBy w' none ∧ v'.ownBlock = some w.heap.size := by
  obtain ⟨i, hi, hz, hsz, hby⟩ := info_parts E.el.hi
  have hzs := E.el.hz
  have hpos := E.el.h0
  have hbp := E.el.hb
  subst hsz hby
  have hn : n ≤ n * i.bytes := Nat.le_mul_of_pos_right _ hbp
  have hn0 : n ≠ 0 := by omega
  have hw : IntKind.i64.wrap (n : Int) = n := IntWalk.i64_in _ (by omega)
  have h48 : ¬ (281474976710656 < Builtin.nextslicecap n 0 * i.bytes) := by rw [nextslicecap_zero h0]; omega
  have h48' : ¬ (281474976710656 : Int) < (n : Int) * (i.bytes : Int) := by
    have : ((n * i.bytes : Nat) : Int) ≤ 140737488355328 := by omega
    rw [Int.natCast_mul] at this
    omega
  have h63 : ¬ (9223372036854775807 < (n : Int)) := by omega
  have hs0 : ¬ (n = 0 ∨ i.size = 0) := by omega
  have hneg : ¬ ((n : Int) < 0) := by omega
  have hns : ¬ n * i.size = 0 := Nat.mul_ne_zero hn0 (by omega)
  refine ⟨.slice (some ⟨w.heap.size, 0, none⟩) n (grownCap w n 0 e), w.drew.alloc (.cells (Builtin.zeroCells z.cells n ++ Builtin.zeroCells z.cells (grownCap w n 0 e - n)) e), ?_, ⟨by simp, .inr ⟨w.heap.size, _, _, rfl, hbase, heap_alloc_new w.drew _, grownCap_ge w n 0 e, grownCap_le_maxLen w n 0 e (by unfold maxLen; omega), ?_, ?_⟩⟩, ⟨rfl, rfl, rfl, by simp, fun k hk _ => Below.heap_alloc w.drew _ k hk⟩, rfl⟩
  · unfold execOp
    simp only [ho, resolve, invoke, builtin, Sem.run_bind, Sem.run_pure, Result.andThen_ok, List.map_toArray, List.map_cons, List.map_nil, hs, hx]
    simp [Builtin.append_, run_underlying E.el.ht, run_underlying hxt, sizeOf, typeInfo, zeroValue, hi, hz, asInt, asIntOf, hw, hneg, h48, h48', h63, hs0, hn0, hns, Question.forced, run_firstCells_none, Builtin.firstCells, newRow, grownCap]
  · simp only [Array.size_append, size_zeroCells, hzs, ← Nat.add_mul]
    congr 1
    have := grownCap_ge w n 0 e
    omega
  · rw [Array.toList_append, List.take_append_of_le_length (by simp [size_zeroCells, hzs]), List.take_of_length_le (by simp [size_zeroCells, hzs])]
    simp [Builtin.zeroCells, hzs]
/-- less of a row of one's own -/
theorem St.shrink (h : St X w0 w L) {A : Option Addr} {c e n m size : Nat} {xs : List Value} [hd : DropO (.slice A n c) e L n size xs M] (hm : m ≤ n) (hA : A ≠ none) : St X w0 w (.own (.slice A m c) m e size (xs.take (m * size)) :: M) := by
  have h2 := h.perm hd.perm.symm
  have ho : w.ownsRow w0.heap.size e size (.slice A n c) n xs := h2.ok _ (List.mem_cons_self ..)
  obtain ⟨h3, h4⟩ := List.pairwise_cons.1 h2.sep
  have hfr := h2.fresh _ (List.mem_cons_self ..) rfl
  have hbk : (Value.slice A m c).ownBlock = (Value.slice A n c).ownBlock := by cases A <;> rfl
  refine (h2.tail rfl).cons ?_ ?_ fun _ k hk => hfr k (by show (Value.slice A n c).ownBlock = some k; rw [← hbk]; exact hk)
  · refine ⟨by rw [List.length_take, ho.1]; exact Nat.min_eq_left (Nat.mul_le_mul_right _ hm), ?_⟩
    rcases ho.2 with ⟨h5, _⟩ | ⟨g, cap, cur, h5, hg, hh, hn, hmx, hcs, ht⟩
    · injection h5 with h5; exact (hA h5).elim
    · injection h5 with h5 _ h6
      subst h5 h6
      refine .inr ⟨g, c, cur, rfl, hg, hh, by omega, hmx, hcs, ?_⟩
      rw [← ht, List.take_take, Nat.min_eq_left (Nat.mul_le_mul_right _ hm)]
  · intro g hg _ k hk hk'
    exact h3 g hg rfl k (by show (Value.slice A n c).ownBlock = some k; rw [← hbk]; exact hk) hk'
end
end Go.Proofs.YtjhocljhhpkiiaaGreatDoor
/- S6 -/
namespace Go.Proofs.YtjhocljhhpkiiaaGreatDoor
set_option linter.unusedSimpArgs false
set_option linter.unusedVariables false
open Go.RowKit
instance (priority := 2000) (k : Nat) (v : Value) (ps : List (Nat × Value)) (out : List Value) [hv : VCells v [v]] [hn : Row [v] 1] [hp : Parts 1 (k + 1) ps out] : Parts 1 k ((k, v) :: ps) (v :: out) := .cons hv hn hp
instance (priority := 30) (xs ys : List Value) (n m : Nat) [h : Row xs n] [k : Row ys m] : Row (xs ++ ys) (n + m) := ⟨by rw [List.length_append, h.len, k.len], fun v hv => (List.mem_append.1 hv).elim (h.one v) (k.one v)⟩
section
variable {P : Program} {X : List Nat} {w0 w : World} {L M : List Fc} {a : Act} {ops : Array Oper} {rest : List Oper} {Q : Exit → Act → World → Prop} {d : Option Tmp} {ty : TypeId} {pos : String} {af : Array Edge} {gd : Option (Nat × Bool)}
theorem St.blkOwn {g n e size : Nat} {cs : List Value} (h : St X w0 w (.blk g cs e :: L)) (hX : X = []) (hl : cs.length = n * size) (hn : n ≤ 9223372036854775807) : St X w0 w (.own (.slice (some ⟨g, 0, none⟩) n n) n e size cs :: L) := by
  obtain ⟨h3, h4⟩ := List.pairwise_cons.1 h.sep
  have hb := h.blk (List.mem_cons_self ..)
  have hfr := h.fresh _ (List.mem_cons_self ..) rfl g rfl
  subst hX
  have hg : w0.heap.size ≤ g := hfr.elim id (fun h => by simp at h)
  refine (h.tail rfl).cons ⟨hl, .inr ⟨g, n, cs.toArray, rfl, hg, hb, Nat.le_refl _, by unfold maxLen; omega, by simpa using hl, by rw [← hl]; simp⟩⟩ (fun f hf _ k hk hk' => ?_) (fun _ k hk => .inl ?_)
  · have hk2 : some g = some k := hk
    injection hk2 with hk2
    exact h3 f hf rfl k hk2.symm hk'
  · have hk2 : some g = some k := hk
    injection hk2 with hk2
    omega
theorem madeBytes (n : Nat) : (madeCells (Value.int .u8 0).cells (n * 1)).toList = bc (List.replicate n 0) := by
  rw [Nat.mul_one]
  apply List.ext_getElem?
  intro j
  by_cases h : j < n <;> simp [madeCells, bc, h, Value.cells, Nat.mod_one, List.getElem?_replicate]
end
theorem Res.own {w w' : World} {v : Value} {n e size : Nat} {xs : List Value} (h : Res [] w w' [.own v n e size xs]) : w'.ownsRow w.heap.size e size v n xs := h.ok _ (List.mem_singleton.2 rfl)
section
variable {P : Program} {X : List Nat} {w0 w : World} {L M : List Fc} {a : Act} {o : Oper}
theorem St.cast (h : St X w0 w L) {L' : List Fc} (e : L = L') : St X w0 w L' := e ▸ h
theorem St.elem {b o k : Nat} {cs out : List Value} (h : St X w0 w L) [hm : HasA (some ⟨b, o, none⟩) L cs] (hc : ∀ j v, out[j]? = some v → cs[0 + (k + j)]? = some v) : St X w0 w (.rd (some ⟨b, o + k, none⟩) out :: L) := by
  refine h.part hm.mem (fun j v hv => ⟨b, o + k, rfl, ?_⟩) ?_
  · have := (h.rd hm.mem).range _ v (hc j v hv)
    rw [Nat.zero_add] at this
    rwa [Nat.add_assoc]
  · rintro g ⟨hne, o', e⟩
    injection e with e
    injection e with e1 _
    subst e1
    refine ⟨fun hcs => ?_, o, rfl⟩
    cases out with
    | nil => exact hne rfl
    | cons x out => have := hc 0 x rfl; rw [hcs] at this; simp at this
theorem St.own_Rd (h : St X w0 w L) {A : Option Addr} {c e n size : Nat} {xs : List Value} [hd : DropO (.slice A n c) e L n size xs M] : Rd w A xs := by
  have ho : w.ownsRow w0.heap.size e size (.slice A n c) n xs := h.ok _ (hd.perm.mem_iff.2 (List.mem_cons_self ..))
  obtain ⟨A', c', e', _, hr⟩ := Go.Proofs.YtjhocljhhpkiiaaGreatDoor.own_Rd ho
  injection e' with e1 _ _
  subst e1
  exact hr
theorem xNil {x : Operand} {p : Addr} (ho : o.op = .nilCheck x) (hx : a.eval x = .pointer (some p)) : (execOp a.eval o).run P w = .ok (.value (.pointer (some p))) w := by
  unfold execOp
  simp only [ho, hx]
  rfl
theorem xMul {T T' : TypeId} {x y : Operand} {m n : Int} (ho : o.op = .binOp .mul T x y T') (hx : a.eval x = .int .i64 m) (hy : a.eval y = .int .i64 n) (h : -9223372036854775808 ≤ m * n ∧ m * n ≤ 9223372036854775807) :
    (execOp a.eval o).run P w = .ok (.value (.int .i64 (m * n))) w := by
  unfold execOp
  simp only [ho, hx, hy]
  have e : (binOp .mul T (.int .i64 m) (.int .i64 n)).run P w = .ok (.int .i64 (m * n)) w := by
    rw [← IntWalk.i64_in (m * n) h]
    rfl
  rw [Sem.run_bind, Sem.run_bind]
  have g : (eqGuard .mul T x y (.int .i64 m) (.int .i64 n)).run P w = .ok () w := rfl
  rw [g, Result.andThen_ok, e]
  rfl
theorem xSlA {T len e size : Nat} [hT : TArr P T len e size] {x : Operand} {b off : Nat} (ho : o.op = .slice T x none none none) (hx : a.eval x = .pointer (some ⟨b, off, none⟩)) (hn : 0 < len) : (execOp a.eval o).run P w = .ok (.value (.slice (some ⟨b, off, none⟩) len len)) w :=
  ex_slice_array ho hx hT.und hT.size hn
end
/-! ### two operations that make memory, in either order -/
end Go.Proofs.YtjhocljhhpkiiaaGreatDoor
/- S7 -/
namespace Go.Proofs.YtjhocljhhpkiiaaGreatDoor
set_option linter.unusedSimpArgs false
set_option linter.unusedVariables false
open Go.RowKit
end Go.Proofs.YtjhocljhhpkiiaaGreatDoor
