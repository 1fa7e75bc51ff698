/- slices.Clone of bytes, Few. -/
import Derived.Test.YthinpbgbnlohpaaM6
namespace Go.Proofs.Ythinpbgbnlohpaa
set_option linter.unusedSimpArgs false
set_option linter.unusedVariables false
open Go.RowKit
attribute [local irreducible] wpStill wpList

set_option maxRecDepth 100000 in
set_option maxHeartbeats 400000 in
theorem Clone_any (l : List UInt8) (A : Option Addr) (cap : Nat) (hA : A = none → cap = 0) (hl : l.length ≤ 1000000000) (hcap : l.length ≤ cap) (w : World) (hr : Rd w A (bc l)) :
    Calls Try.prog 20 #[.slice A l.length cap] w (BytesPost l w) := by
  cases A with
  | none =>
    have h0 : l = [] := by
      cases l with
      | nil => rfl
      | cons x l => obtain ⟨b, o, e, _⟩ := hr 0 (.int .u8 x.toNat) (by simp [bc]); cases e
    subst h0
    obtain rfl := hA rfl
    go_enter Try.func20, Try.ntmps20
    have hs := fun wx => Lib.run_eql_slice_nil (P := Try.prog) wx 25 5 none 0 0 0 0 Try.underlying25
    go_wp2
    go_ret
    exact ⟨_, rfl, World.ownsRow_nil _ _ _ _, brefl _⟩
  | some ad =>
    go_enter Try.func20, Try.ntmps20
    have hs := fun wx => Lib.run_eql_slice_nil (P := Try.prog) wx 25 5 (some ad) l.length cap 0 0 Try.underlying25
    go_wp2_with (first | (at_builtin; refine wplAppend rfl _ _ rfl elB rfl (own_lit w w.heap.size 5 1 0 [] (Nat.le_refl _) (by omega) rfl) rfl (fun h => by cases h) (by rw [bc_length, Nat.mul_one]) (hr.below (balloc (brefl _) _)) (bc_one _) (by omega) (by simp) ?_; intro v1 w1 hown1 hg1))
    go_ret
    refine ⟨_, rfl, by simpa using hown1, ?_⟩
    exact grow_below (balloc (brefl _) _) (own_lit w w.heap.size 5 1 0 [] (Nat.le_refl _) (by omega) rfl) hg1 (Nat.le_refl _) (by simp)
theorem Few_any (l : List Item) (A : Option Addr) (cap : Nat) (w : World) :
    Calls Try.prog 11 #[.slice A l.length cap] w fun e w' => e = .returned (.int .i64 (if l.length ≤ 1200 then 1 else 0)) ∧ w = w' := by
  by_cases h : l.length ≤ 1200
  · have h1 : ¬ (1200 : Int) < l.length := by omega
    rw [if_pos h]
    clear h
    go_enter Try.func11, Try.ntmps11
    go_wp2
    go_ret
    exact ⟨rfl, rfl⟩
  · have h1 : (1200 : Int) < l.length := by omega
    rw [if_neg h]
    clear h
    go_enter Try.func11, Try.ntmps11
    go_wp2
    go_ret
    exact ⟨rfl, rfl⟩
end Go.Proofs.Ythinpbgbnlohpaa
