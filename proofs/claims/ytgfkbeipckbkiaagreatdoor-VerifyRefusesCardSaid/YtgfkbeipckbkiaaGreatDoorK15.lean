/- verify: Verify, Claim, Accepts; The library's comparison of byte slices; A slice cut at its length and its capacity; Calls of the library's entries (reflection), as single operations; errors.As at the errors of this program; fault.Code, First; errors.As at the errors of this program; fault.Code, First; verify.Check; errors.As at the errors of this program; fault.Code, First; The condition of two laid variables (the table of rounds, errors.errorType's handle); arguments that are claims, pairs of byte slices, roots with proofs, opened; When a proof is well-formed: plain; The reference's depths and expansion; The reference's check; The reference: parts of bytes, decoding of proofs (joined texts: U92 N15 N16 N17 U93 U94 U95 TV U26p U23 U26 U97) -/
import Derived.Test.YtgfkbeipckbkiaaGreatDoorK14
import Derived.Lib.BytesEntry
import Derived.Lib.Bytealg
import Derived.Stop.Asserts
import Derived.LaidEql
import Derived.LaidHandle
set_option linter.all false
/- U92 -/
namespace Go.Proofs.YtgfkbeipckbkiaaGreatDoor
set_option linter.unusedSimpArgs false
set_option linter.unusedVariables false
open Go.RowKit
instance : TIf Tryz.prog 76 := ⟨by kernel_rfl⟩
def plFl : Nat → Option (Nat × Nat) := fun i => ([(0, 1), (1, 1), (2, 1)] : List (Nat × Nat)).toArray[i]?
instance : Place plFl 0 0 1 := ⟨rfl⟩
instance : Place plFl 1 1 1 := ⟨rfl⟩
instance : Place plFl 2 2 1 := ⟨rfl⟩
instance : TB Tryz.prog 166 [.string ⟨#[]⟩, .int .i64 0, .nilIface] plFl := ⟨fun w ps cells h => run_build_struct (fl := _) Tryz.underlying166 (z := ([.string ⟨#[]⟩, .int .i64 0, .nilIface] : List Value).toArray) (n := 3) (by kernel_rfl) (pl := [(0, 1), (1, 1), (2, 1)]) (by kernel_rfl) h⟩
/-- an error with the operation in which it occurred -/
abbrev fltC (op : ByteArray) (i e : Int) : List Value := [.string op, .int .i64 i, .iface 31 (.int .i64 e)]
theorem fNew_s (op : ByteArray) (i e : Int) : Spec Tryz.prog 79 [.string op, .int .i64 i, .iface 31 (.int .i64 e)].toArray [] [] (fun g : Nat => .iface 162 (.pointer (some ⟨g, 0, none⟩))) (fun g => [.blk g (fltC op i e) 166]) := by
  refine spec_of Tryz.func79 rfl (n := 15) rfl rfl ?_
  intro W
  refine h_seq ?_
  refine h_reg ?_
  refine h_op (r_assign rfl) ?_
  refine h_nil ?_
  refine q_then ?_
  refine h_seq ?_
  refine h_seq ?_
  refine h_reg ?_
  refine h_op (r_move rfl) ?_
  refine h_op (r_ifnil rfl) ?_
  refine h_nil ?_
  refine q_then ?_
  refine h_condF rfl ?_
  refine h_skip ?_
  refine q_then ?_
  refine h_seq ?_
  refine h_reg ?_
  refine h_op (r_move rfl) ?_
  refine h_op (r_move rfl) ?_
  refine h_op (r_move rfl) ?_
  refine h_op (r_build rfl) ?_
  refine h_opX (x_box rfl) fun g13 => ?_
  refine h_op (r_mkI rfl) ?_
  refine h_op (r_assign rfl) ?_
  refine h_nil ?_
  refine q_then ?_
  refine h_ret ?_
  exact h_ret1 rfl rfl fun w s => ⟨g13, rfl, (same (L' := [.blk g13 (fltC op i e) 166]) w s).res (List.Sublist.refl _) (by simp [Fa.wr])⟩
def stepV : Nat → Value
  | 0 => .func (.func 113) #[] #[]
  | 1 => .func (.func 115) #[] #[]
  | 2 => .func (.func 116) #[] #[]
  | 3 => .func (.func 117) #[] #[]
  | 4 => .func (.func 119) #[] #[]
  | _ => .func (.func 120) #[] #[]
instance (i : Nat) : Row [stepV i] 1 := ⟨rfl, by intro v hv; rw [List.mem_singleton.1 hv]; unfold stepV; split <;> rfl⟩
def stepsV : List Value := [stepV 0, stepV 1, stepV 2, stepV 3, stepV 4, stepV 5]
theorem stepsV_at (i : Nat) (f : Value) (h : stepsV[i]? = some f) : ∀ j v, [f][j]? = some v → stepsV[i + j]? = some v := fun j v hv => by
  cases j with
  | zero => obtain rfl : f = v := by simpa using hv
            exact h
  | succ j => simp at hv
theorem steps_s : Spec Tryz.prog 78 ([] : List Value).toArray [] [] (fun g : Nat => .slice (some ⟨g, 0, none⟩) 6 6) (fun g => [.own (.slice (some ⟨g, 0, none⟩) 6 6) 6 160 1 stepsV]) := by
  refine spec_of Tryz.func78 rfl (n := 8) rfl rfl ?_
  intro W
  refine h_seq ?_
  refine h_reg ?_
  refine h_op (r_assign rfl) ?_
  refine h_nil ?_
  refine q_then ?_
  refine h_seq ?_
  refine h_reg ?_
  refine h_op (r_build rfl) ?_
  refine h_op (r_build rfl) ?_
  refine h_op (r_build rfl) ?_
  refine h_op (r_build rfl) ?_
  refine h_op (r_build rfl) ?_
  refine h_op (r_build rfl) ?_
  refine h_opX (x_bsl rfl rfl) fun g7 => ?_
  refine h_op (r_assign rfl) ?_
  refine h_nil ?_
  refine q_then ?_
  refine h_ret ?_
  change H _ _ _ _ _ (.own _ _ _ _ stepsV :: _) _
  exact h_ret1 rfl rfl fun w s => ⟨g7, rfl, (same (L' := [.own (.slice (some ⟨g7, 0, none⟩) 6 6) 6 160 1 stepsV]) w s).res (List.Sublist.refl _) (by simp [Fa.wr])⟩
def codeD : Except Int DP → Int
  | .ok _ => 0
  | .error e => e
def prD : Except Int DP → Option Addr → Nat → Proof
  | .ok p, A, c => p.pr A c
  | .error _, _, _ => zProof
theorem step3_s (z : Zh) (g : Nat) (x : Chk) (bb : List UInt8) [hb : SlZ z x.b bb] (hbl : bb.length ≤ 100000000) (r : Except Int DP) (hr : decB bb = r) : Spec Tryz.prog 117 [.pointer (some ⟨g, 0, none⟩)].toArray [] [.zone true z, .blk g x.cells 155] (fun u : {u : Zh × Option Addr × Nat // LeZ z u.1 ∧ ∀ p, r = .ok p → RdZ u.1 u.2.1 (dgs p.ss)} => .int .i64 (codeD r)) (fun u => [.zone true u.1.1, .blk g (Chk.cells { x with p := prD r u.1.2.1 u.1.2.2 }) 155]) := by
  have hbn := hb.len
  have hbc := hb.cap
  have hbr : RdZ z x.b.A (bc bb) := hb.rd
  have hD := Decode_s z bb hbl x.b.A x.b.c (by omega)
  rw [hr, ← hbn] at hD
  rcases r with e | p
  · replace hD : Spec Tryz.prog 118 [.slice x.b.A x.b.n x.b.c].toArray [.zone false z] [] (fun _ : Option Addr × Nat => .tuple #[.agg zProof.cells.toArray, .int .i64 e]) (fun _ => []) := hD
    refine spec_of Tryz.func117 rfl (n := 15) rfl rfl ?_
    intro W
    refine h_seq ?_
    refine h_reg ?_
    refine h_op (r_assign rfl) ?_
    refine h_nil ?_
    refine q_then ?_
    refine h_seq ?_
    refine h_reg ?_
    refine h_op (r_move rfl) ?_
    refine h_op (r_move rfl) ?_
    refine h_op (r_nilc rfl) ?_
    refine h_op (r_field rfl) ?_
    refine h_op (r_loadc rfl) ?_
    refine h_call (hD.comes) rfl rfl rfl fun u => ?_
    refine h_op (r_move rfl) ?_
    refine h_op (r_extract rfl rfl) ?_
    refine h_op (r_extract rfl rfl) ?_
    refine h_op (r_nilc rfl) ?_
    refine h_op (r_field rfl) ?_
    refine h_opS (s_storer rfl rfl) ?_
    refine h_op (r_assign rfl) ?_
    refine h_nil ?_
    refine q_then ?_
    refine h_seq ?_
    refine h_reg ?_
    refine h_op (r_move rfl) ?_
    refine h_op (r_assign rfl) ?_
    refine h_nil ?_
    refine q_then ?_
    refine h_ret ?_
    exact h_ret1 rfl rfl fun w s => ⟨⟨(z, none, 0), LeZ.refl z, fun p h => by cases h⟩, rfl, (same (L' := [.zone true z, .blk g (Chk.cells { x with p := zProof }) 155]) w s).res (List.Sublist.refl _) (by simp [Fa.wr])⟩
  · replace hD : Spec Tryz.prog 118 [.slice x.b.A x.b.n x.b.c].toArray [.zone false z] [] (fun u : Option Addr × Nat => .tuple #[.agg (p.pr u.1 u.2).cells.toArray, .int .i64 0]) (fun u => [.own (.slice u.1 p.ss.length u.2) p.ss.length 41 32 (dgs p.ss)]) := hD
    refine spec_of Tryz.func117 rfl (n := 15) rfl rfl ?_
    intro W
    refine h_seq ?_
    refine h_reg ?_
    refine h_op (r_assign rfl) ?_
    refine h_nil ?_
    refine q_then ?_
    refine h_seq ?_
    refine h_reg ?_
    refine h_op (r_move rfl) ?_
    refine h_op (r_move rfl) ?_
    refine h_op (r_nilc rfl) ?_
    refine h_op (r_field rfl) ?_
    refine h_op (r_loadc rfl) ?_
    refine h_call (hD.comes) rfl rfl rfl fun ⟨A9, c9⟩ => ?_
    dsimp only
    refine h_freezeO (.slice A9 p.ss.length c9) fun z2 B2 c2 e2 hle2 hlen2 hnil2 hz2 hr2 => ?_
    injection e2 with e2 _ e3
    subst e2 e3
    refine h_op (r_move rfl) ?_
    refine h_op (r_extract rfl rfl) ?_
    refine h_op (r_extract rfl rfl) ?_
    refine h_op (r_nilc rfl) ?_
    refine h_op (r_field rfl) ?_
    refine h_opS (s_storer rfl rfl) ?_
    refine h_op (r_assign rfl) ?_
    refine h_nil ?_
    refine q_then ?_
    refine h_seq ?_
    refine h_reg ?_
    refine h_op (r_move rfl) ?_
    refine h_op (r_assign rfl) ?_
    refine h_nil ?_
    refine q_then ?_
    refine h_ret ?_
    exact h_ret1 rfl rfl fun w s => ⟨⟨(z2, A9, c9), hz2, fun q h => by injection h with h; subst h; exact hr2⟩, rfl, (same (L' := [.zone true z2, .blk g (Chk.cells { x with p := p.pr A9 c9 }) 155]) w s).res (List.Sublist.refl _) (by simp [Fa.wr])⟩
section
variable (n : Nat) (hn : n ≤ 256) (h : Zh) [hT : RdZ h (some ⟨2, 0, none⟩) hashT] (gh gc k g : Nat) (hk : k ≤ 1000000000) (x : Chk) (hxh : x.h = some ⟨gh, 0, none⟩) (kb vb : List UInt8) [hK : SlZ h x.c.key kb] (hkl : kb.length = 32)
include hn hk hxh hkl
theorem step4_s [hV : SlZ h x.c.value vb] (hvl : vb.length ≤ 100000000) (b : Bool) (hb : supP x.p (keyOf kb) (valD n x.c.present vb) x.c.present = b) : Spec Tryz.prog 119 [.pointer (some ⟨g, 0, none⟩)].toArray [HR gh gc n, .zone false h, .rd (some ⟨g, 0, none⟩) x.cells] [CN gc k] (fun _ : Unit => .int .i64 (if b then 0 else 12)) (fun _ => [CN gc (k + if x.c.present then 1 else 0)]) := by
  have hS := supports_s n hn h gh gc k g hk x hxh kb vb hkl hvl
  have hw := when_s (!b) 12
  rw [hb] at hS
  rw [show (if b then (0 : Int) else 12) = if (!b) then 12 else 0 by cases b <;> rfl]
  refine spec_of Tryz.func119 rfl (n := 7) rfl rfl ?_
  intro W
  refine h_seq ?_
  refine h_reg ?_
  refine h_op (r_assign rfl) ?_
  refine h_nil ?_
  refine q_then ?_
  refine h_seq ?_
  refine h_reg ?_
  refine h_op (r_move rfl) ?_
  refine h_call (hS.comes) rfl rfl rfl fun _ => ?_
  refine h_op (r_not rfl) ?_
  refine h_call (hw.comes) rfl rfl rfl fun _ => ?_
  refine h_op (r_assign rfl) ?_
  refine h_nil ?_
  refine q_then ?_
  refine h_ret ?_
  exact h_ret1 rfl rfl fun w s => ⟨(), rfl, (same (L' := [CN gc (k + if x.c.present then 1 else 0)]) w s).res (List.Sublist.refl _) (by simp [Fa.wr])⟩
theorem step5_s (rb : List UInt8) [hR : SlZ h x.root rb] (hrl : rb.length = 32) (p : DP) (A : Option Addr) (c : Nat) (hp : x.p = p.pr A c) (hck : checkP (p.pr none 0) = 0) [hS : RdZ h A (dgs p.ss)] (b : Bool) (hb : decide (rootP n p (keyOf kb) = keyOf rb) = b) : Spec Tryz.prog 120 [.pointer (some ⟨g, 0, none⟩)].toArray [HR gh gc n, .zone false h, .rd (some ⟨g, 0, none⟩) x.cells] [CN gc k] (fun _ : Unit => .int .i64 (if b then 0 else 13)) (fun _ => [CN gc (k + 1 + p.d + 1)]) := by
  have hL := leads_s n hn h gh gc k g hk x hxh kb hkl rb hrl p A c hp hck
  have hw := when_s (!b) 13
  rw [hb] at hL
  rw [show (if b then (0 : Int) else 13) = if (!b) then 13 else 0 by cases b <;> rfl]
  refine spec_of Tryz.func120 rfl (n := 7) rfl rfl ?_
  intro W
  refine h_seq ?_
  refine h_reg ?_
  refine h_op (r_assign rfl) ?_
  refine h_nil ?_
  refine q_then ?_
  refine h_seq ?_
  refine h_reg ?_
  refine h_op (r_move rfl) ?_
  refine h_call (hL.comes) rfl rfl rfl fun _ => ?_
  refine h_op (r_not rfl) ?_
  refine h_call (hw.comes) rfl rfl rfl fun _ => ?_
  refine h_op (r_assign rfl) ?_
  refine h_nil ?_
  refine q_then ?_
  refine h_ret ?_
  exact h_ret1 rfl rfl fun w s => ⟨(), rfl, (same (L' := [CN gc (k + 1 + p.d + 1)]) w s).res (List.Sublist.refl _) (by simp [Fa.wr])⟩
end
/-- what each step of a check finds -/
def vcode (n : Nat) (root : Sl) (c : Claim) (rb kb vb bb : List UInt8) : Nat → Int
  | 0 => code3 ⟨none, root, c, ⟨none, 0, 0⟩, zProof⟩ 0
  | 1 => code3 ⟨none, root, c, ⟨none, 0, 0⟩, zProof⟩ 1
  | 2 => code3 ⟨none, root, c, ⟨none, 0, 0⟩, zProof⟩ 2
  | 3 => codeD (decB bb)
  | 4 => match decB bb with
    | .ok p => if supP (p.pr none 0) (keyOf kb) (valD n c.present vb) c.present then 0 else 12
    | .error _ => 0
  | _ => match decB bb with
    | .ok p => if decide (rootP n p (keyOf kb) = keyOf rb) then 0 else 13
    | .error _ => 0
/-- the first step that finds something -/
def firstF (code : Nat → Int) : Nat → Nat → Option (Nat × Int)
  | 0, _ => none
  | m + 1, i => if code i = 0 then firstF code m (i + 1) else some (i, code i)
def firstC (code : Nat → Int) : Option (Nat × Int) := firstF code 6 0
theorem firstF_none (code : Nat → Int) : ∀ m i, (∀ j, i ≤ j → j < i + m → code j = 0) → firstF code m i = none
  | 0, _, _ => rfl
  | m + 1, i, h => by
    unfold firstF
    rw [if_pos (h i (Nat.le_refl _) (by omega))]
    exact firstF_none code m (i + 1) fun j h1 h2 => h j (by omega) (by omega)
theorem firstF_some (code : Nat → Int) (e : Nat) (he : code e ≠ 0) : ∀ m i, i ≤ e → e < i + m → (∀ j, i ≤ j → j < e → code j = 0) → firstF code m i = some (e, code e)
  | 0, i, h1, h2, _ => by omega
  | m + 1, i, h1, h2, h => by
    unfold firstF
    rcases Nat.lt_or_ge i e with h3 | h3
    · rw [if_pos (h i (Nat.le_refl _) h3)]
      exact firstF_some code e he m (i + 1) h3 (by omega) fun j a b => h j (by omega) b
    · obtain rfl : i = e := by omega
      rw [if_neg he]
/-- what stands while a check goes on -/
structure VInv (n k : Nat) (h : Zh) (root : Sl) (c : Claim) (rb kb vb bb : List UInt8) (i : Nat) (z : Zh) (p : Proof) (k' : Nat) : Prop where
  le : LeZ h z
  i6 : i ≤ 6
  zero : ∀ j, j < i → vcode n root c rb kb vb bb j = 0
  dec : 4 ≤ i → ∃ q A c', decB bb = .ok q ∧ p = q.pr A c' ∧ RdZ z A (dgs q.ss)
  cnt : k' ≤ k + (if i ≤ 4 then 0 else if i = 5 then 1 else 259)
theorem decB_ok {l : List UInt8} {p : DP} (h : decB l = .ok p) : checkP (p.pr none 0) = 0 := by
  unfold decB at h
  split at h
  · cases h
  · split at h
    · cases h
    · split at h
      · cases h
      · split at h
        · cases h
        · split at h
          · injection h with h
            subst h
            assumption
          · cases h
theorem decB_err {l : List UInt8} {e : Int} (h : decB l = .error e) : e ≠ 0 := by
  unfold decB at h
  split at h
  · injection h with h; omega
  · split at h
    · injection h with h; omega
    · split at h
      · injection h with h; omega
      · split at h
        · injection h with h; omega
        · split at h
          · cases h
          · injection h with h; omega
def verifyB : ByteArray := ⟨#[118, 101, 114, 105, 102, 121]⟩
def errV : Option (Nat × Int) → Nat → Value
  | none, _ => .nilIface
  | some _, g => .iface 162 (.pointer (some ⟨g, 0, none⟩))
def errN : Option (Nat × Int) → Nat → List Fa
  | none, _ => []
  | some (i, e), g => [.blk g (fltC verifyB (i : Int) e) 166]
section
variable (n : Nat) (hn : n ≤ 256) (h : Zh) [hT : RdZ h (some ⟨2, 0, none⟩) hashT] (gh gc k : Nat) (hk : k ≤ 100000000) (root : Sl) (c : Claim) (b : Sl) (rb kb vb bb : List UInt8) [hR : SlZ h root rb] [hK : SlZ h c.key kb] [hV : SlZ h c.value vb] [hB : SlZ h b bb] (hvl : vb.length ≤ 100000000) (hbl : bb.length ≤ 100000000)
include hn hk hvl hbl
theorem Verify_s : Spec Tryz.prog 36 [.pointer (some ⟨gh, 0, none⟩), .slice root.A root.n root.c, .agg c.cells.toArray, .slice b.A b.n b.c].toArray [HR gh gc n] [.zone true h, CN gc k] (fun u : {u : Nat × Zh × Nat // LeZ h u.2.1 ∧ u.2.2 ≤ k + 259} => errV (firstC (vcode n root c rb kb vb bb)) u.1.1) (fun u => .zone true u.1.2.1 :: CN gc u.1.2.2 :: errN (firstC (vcode n root c rb kb vb bb)) u.1.1) := by
  have hkn := hK.len
  have hrn := hR.len
  refine spec_of Tryz.func36 rfl (n := 37) rfl rfl ?_
  intro W
  refine h_seq ?_
  refine h_reg ?_
  refine h_opX (x_box rfl) fun g6 => ?_
  refine h_op (r_assign rfl) ?_
  refine h_nil ?_
  refine q_then ?_
  refine h_seq ?_
  refine h_reg ?_
  refine h_op (r_move rfl) ?_
  refine h_op (r_move rfl) ?_
  refine h_op (r_loadr rfl) ?_
  refine h_op (r_move rfl) ?_
  refine h_op (r_build rfl) ?_
  refine h_opX (x_box rfl) fun g18 => ?_
  refine h_op (r_assign rfl) ?_
  refine h_nil ?_
  refine q_then ?_
  refine h_seq ?_
  refine h_seq ?_
  refine h_reg ?_
  refine h_call (steps_s.comes) rfl rfl rfl fun g19 => ?_
  dsimp only
  refine h_op (r_len rfl) ?_
  refine h_op (r_move rfl) ?_
  refine h_nil ?_
  refine q_then ?_
  refine h_block ?_
  change H _ _ _ _ _ (_ :: .blk g18 (Chk.cells ⟨some ⟨gh, 0, none⟩, root, c, b, zProof⟩) _ :: _) _
  refine h_loop (fun (s : Nat × Zh × Proof × Nat) => VInv n k h root c rb kb vb bb s.1 s.2.1 s.2.2.1 s.2.2.2) (fun (s : Nat × Zh × Proof × Nat) => [(9, .pointer (some ⟨g18, 0, none⟩)), (19, .slice (some ⟨g19, 0, none⟩) 6 6), (20, .int .i64 6), (21, .int .i64 (s.1 : Int))]) (fun (s : Nat × Zh × Proof × Nat) => [.zone true s.2.1, .own (.slice (some ⟨g19, 0, none⟩) 6 6) 6 160 1 stepsV, .blk g18 (Chk.cells ⟨some ⟨gh, 0, none⟩, root, c, b, s.2.2.1⟩) 155, CN gc s.2.2.2, HR gh gc n]) (fun (s : Nat × Zh × Proof × Nat) => 6 - s.1) (0, h, zProof, k) (⟨LeZ.refl h, Nat.zero_le _, fun j h => absurd h (Nat.not_lt_zero _), fun h => absurd h (by dsimp only; decide), by simp⟩) ⟨rfl, rfl, rfl, rfl, trivial⟩ (same) ?_
  rintro ⟨i, z, p, k'⟩ hI
  have hle := hI.le
  have hi6 := hI.i6
  have hz := hI.zero
  have hde := hI.dec
  have hkc := hI.cnt
  clear hI
  dsimp only at hle hi6 hz hde hkc ⊢
  have hTz : RdZ z (some ⟨2, 0, none⟩) hashT := hT.mono hle
  have hKz : SlZ z c.key kb := hK.mono hle
  have hVz : SlZ z c.value vb := hV.mono hle
  have hRz : SlZ z root rb := hR.mono hle
  have hBz : SlZ z b bb := hB.mono hle
  rcases (by omega : i = 0 ∨ i = 1 ∨ i = 2 ∨ i = 3 ∨ i = 4 ∨ i = 5 ∨ i = 6) with rfl | rfl | rfl | rfl | rfl | rfl | rfl
  · refine h_seq ?_
    refine h_reg ?_
    refine h_op (r_bool (r_lss rfl rfl) rfl) ?_
    refine h_nil ?_
    refine q_then ?_
    refine h_seq ?_
    refine h_condT rfl ?_
    have hs := step0_s ⟨some ⟨gh, 0, none⟩, root, c, b, p⟩ g18
    rw [show code3 ⟨some ⟨gh, 0, none⟩, root, c, b, p⟩ 0 = vcode n root c rb kb vb bb 0 from rfl] at hs
    refine h_skip ?_
    refine q_then ?_
    refine h_seq ?_
    refine h_block ?_
    refine h_seq ?_
    refine h_reg ?_
    refine h_op (r_move rfl) ?_
    refine h_op (r_idx rfl rfl (m := 0) (hm := by decide)) ?_
    refine h_op (r_nthr (off := 0) rfl (out := [stepV 0]) rfl (stepsV_at 0 _ rfl)) ?_
    refine h_opX (x_alloc) fun g11 => ?_
    refine h_op (r_assign rfl) ?_
    refine h_opS (s_storer rfl rfl) ?_
    refine h_nil ?_
    refine q_then ?_
    refine h_seq ?_
    refine h_reg ?_
    refine h_op (r_field rfl) ?_
    refine h_op (r_loadc rfl) ?_
    refine h_op (r_move rfl) ?_
    refine h_call (hs.comes) rfl rfl rfl fun _ => ?_
    by_cases hc0 : vcode n root c rb kb vb bb 0 = 0
    · rw [hc0]
      refine h_op (r_assign rfl) ?_
      refine h_nil ?_
      refine q_then ?_
      refine h_seq ?_
      refine h_reg ?_
      refine h_op (r_move rfl) ?_
      refine h_op (r_bool (r_neq rfl rfl) rfl) ?_
      refine h_nil ?_
      refine q_then ?_
      refine h_condF rfl ?_
      refine h_skip ?_
      refine q_block ?_
      refine q_then ?_
      refine h_reg ?_
      refine h_op (r_add rfl rfl) ?_
      refine h_op (r_move rfl) ?_
      refine h_nil ?_
      exact h_back (1, z, p, k') (⟨hle, by dsimp only; decide, fun j hj => (Nat.lt_or_ge j 0).elim (hz j) fun h8 => by (obtain rfl : j = 0 := by omega); exact hc0, fun h9 => absurd h9 (by dsimp only; decide), by simpa using hkc⟩) ((show 6 - 1 < 6 - 0 by decide)) ⟨rfl, rfl, rfl, rfl, trivial⟩ (same)
    · rw [show firstC (vcode n root c rb kb vb bb) = some (0, vcode n root c rb kb vb bb 0) from firstF_some (vcode n root c rb kb vb bb) 0 hc0 6 0 (by decide) (by decide) (fun j _ hj => hz j hj)]
      refine h_op (r_assign rfl) ?_
      refine h_nil ?_
      refine q_then ?_
      refine h_seq ?_
      refine h_reg ?_
      refine h_op (r_move rfl) ?_
      refine h_op (r_bool (r_neq rfl rfl) (decide_eq_true hc0)) ?_
      refine h_nil ?_
      refine q_then ?_
      refine h_condT rfl ?_
      refine h_seq ?_
      refine h_reg ?_
      refine h_op (r_move rfl) ?_
      refine h_op (r_move rfl) ?_
      refine h_op (r_mkI rfl) ?_
      refine h_call ((fNew_s verifyB 0 (vcode n root c rb kb vb bb 0)).comes) rfl rfl rfl fun g35 => ?_
      refine h_op (r_assign rfl) ?_
      refine h_nil ?_
      refine q_then ?_
      refine h_ret ?_
      refine q_blockR ?_
      refine q_thenR ?_
      refine q_thenR ?_
      refine q_blockR ?_
      refine q_thenR ?_
      exact h_ret1 rfl rfl fun w s => ⟨⟨(g35, z, k'), hle, by dsimp only; simp at hkc; omega⟩, rfl, (same (L' := [.zone true z, CN gc k', .blk g35 (fltC verifyB 0 (vcode n root c rb kb vb bb 0)) 166]) w s).res (List.Sublist.refl _) (by simp [Fa.wr, errN])⟩
  · refine h_seq ?_
    refine h_reg ?_
    refine h_op (r_bool (r_lss rfl rfl) rfl) ?_
    refine h_nil ?_
    refine q_then ?_
    refine h_seq ?_
    refine h_condT rfl ?_
    have hs := step1_s ⟨some ⟨gh, 0, none⟩, root, c, b, p⟩ g18
    rw [show code3 ⟨some ⟨gh, 0, none⟩, root, c, b, p⟩ 1 = vcode n root c rb kb vb bb 1 from rfl] at hs
    refine h_skip ?_
    refine q_then ?_
    refine h_seq ?_
    refine h_block ?_
    refine h_seq ?_
    refine h_reg ?_
    refine h_op (r_move rfl) ?_
    refine h_op (r_idx rfl rfl (m := 1) (hm := by decide)) ?_
    refine h_op (r_nthr (off := 1) rfl (out := [stepV 1]) rfl (stepsV_at 1 _ rfl)) ?_
    refine h_opX (x_alloc) fun g11 => ?_
    refine h_op (r_assign rfl) ?_
    refine h_opS (s_storer rfl rfl) ?_
    refine h_nil ?_
    refine q_then ?_
    refine h_seq ?_
    refine h_reg ?_
    refine h_op (r_field rfl) ?_
    refine h_op (r_loadc rfl) ?_
    refine h_op (r_move rfl) ?_
    refine h_call (hs.comes) rfl rfl rfl fun _ => ?_
    by_cases hc0 : vcode n root c rb kb vb bb 1 = 0
    · rw [hc0]
      refine h_op (r_assign rfl) ?_
      refine h_nil ?_
      refine q_then ?_
      refine h_seq ?_
      refine h_reg ?_
      refine h_op (r_move rfl) ?_
      refine h_op (r_bool (r_neq rfl rfl) rfl) ?_
      refine h_nil ?_
      refine q_then ?_
      refine h_condF rfl ?_
      refine h_skip ?_
      refine q_block ?_
      refine q_then ?_
      refine h_reg ?_
      refine h_op (r_add rfl rfl) ?_
      refine h_op (r_move rfl) ?_
      refine h_nil ?_
      exact h_back (2, z, p, k') (⟨hle, by dsimp only; decide, fun j hj => (Nat.lt_or_ge j 1).elim (hz j) fun h8 => by (obtain rfl : j = 1 := by omega); exact hc0, fun h9 => absurd h9 (by dsimp only; decide), by simpa using hkc⟩) ((show 6 - 2 < 6 - 1 by decide)) ⟨rfl, rfl, rfl, rfl, trivial⟩ (same)
    · rw [show firstC (vcode n root c rb kb vb bb) = some (1, vcode n root c rb kb vb bb 1) from firstF_some (vcode n root c rb kb vb bb) 1 hc0 6 0 (by decide) (by decide) (fun j _ hj => hz j hj)]
      refine h_op (r_assign rfl) ?_
      refine h_nil ?_
      refine q_then ?_
      refine h_seq ?_
      refine h_reg ?_
      refine h_op (r_move rfl) ?_
      refine h_op (r_bool (r_neq rfl rfl) (decide_eq_true hc0)) ?_
      refine h_nil ?_
      refine q_then ?_
      refine h_condT rfl ?_
      refine h_seq ?_
      refine h_reg ?_
      refine h_op (r_move rfl) ?_
      refine h_op (r_move rfl) ?_
      refine h_op (r_mkI rfl) ?_
      refine h_call ((fNew_s verifyB 1 (vcode n root c rb kb vb bb 1)).comes) rfl rfl rfl fun g35 => ?_
      refine h_op (r_assign rfl) ?_
      refine h_nil ?_
      refine q_then ?_
      refine h_ret ?_
      refine q_blockR ?_
      refine q_thenR ?_
      refine q_thenR ?_
      refine q_blockR ?_
      refine q_thenR ?_
      exact h_ret1 rfl rfl fun w s => ⟨⟨(g35, z, k'), hle, by dsimp only; simp at hkc; omega⟩, rfl, (same (L' := [.zone true z, CN gc k', .blk g35 (fltC verifyB 1 (vcode n root c rb kb vb bb 1)) 166]) w s).res (List.Sublist.refl _) (by simp [Fa.wr, errN])⟩
  · refine h_seq ?_
    refine h_reg ?_
    refine h_op (r_bool (r_lss rfl rfl) rfl) ?_
    refine h_nil ?_
    refine q_then ?_
    refine h_seq ?_
    refine h_condT rfl ?_
    have hs := step2_s ⟨some ⟨gh, 0, none⟩, root, c, b, p⟩ g18
    rw [show code3 ⟨some ⟨gh, 0, none⟩, root, c, b, p⟩ 2 = vcode n root c rb kb vb bb 2 from rfl] at hs
    refine h_skip ?_
    refine q_then ?_
    refine h_seq ?_
    refine h_block ?_
    refine h_seq ?_
    refine h_reg ?_
    refine h_op (r_move rfl) ?_
    refine h_op (r_idx rfl rfl (m := 2) (hm := by decide)) ?_
    refine h_op (r_nthr (off := 2) rfl (out := [stepV 2]) rfl (stepsV_at 2 _ rfl)) ?_
    refine h_opX (x_alloc) fun g11 => ?_
    refine h_op (r_assign rfl) ?_
    refine h_opS (s_storer rfl rfl) ?_
    refine h_nil ?_
    refine q_then ?_
    refine h_seq ?_
    refine h_reg ?_
    refine h_op (r_field rfl) ?_
    refine h_op (r_loadc rfl) ?_
    refine h_op (r_move rfl) ?_
    refine h_call (hs.comes) rfl rfl rfl fun _ => ?_
    by_cases hc0 : vcode n root c rb kb vb bb 2 = 0
    · rw [hc0]
      refine h_op (r_assign rfl) ?_
      refine h_nil ?_
      refine q_then ?_
      refine h_seq ?_
      refine h_reg ?_
      refine h_op (r_move rfl) ?_
      refine h_op (r_bool (r_neq rfl rfl) rfl) ?_
      refine h_nil ?_
      refine q_then ?_
      refine h_condF rfl ?_
      refine h_skip ?_
      refine q_block ?_
      refine q_then ?_
      refine h_reg ?_
      refine h_op (r_add rfl rfl) ?_
      refine h_op (r_move rfl) ?_
      refine h_nil ?_
      exact h_back (3, z, p, k') (⟨hle, by dsimp only; decide, fun j hj => (Nat.lt_or_ge j 2).elim (hz j) fun h8 => by (obtain rfl : j = 2 := by omega); exact hc0, fun h9 => absurd h9 (by dsimp only; decide), by simpa using hkc⟩) ((show 6 - 3 < 6 - 2 by decide)) ⟨rfl, rfl, rfl, rfl, trivial⟩ (same)
    · rw [show firstC (vcode n root c rb kb vb bb) = some (2, vcode n root c rb kb vb bb 2) from firstF_some (vcode n root c rb kb vb bb) 2 hc0 6 0 (by decide) (by decide) (fun j _ hj => hz j hj)]
      refine h_op (r_assign rfl) ?_
      refine h_nil ?_
      refine q_then ?_
      refine h_seq ?_
      refine h_reg ?_
      refine h_op (r_move rfl) ?_
      refine h_op (r_bool (r_neq rfl rfl) (decide_eq_true hc0)) ?_
      refine h_nil ?_
      refine q_then ?_
      refine h_condT rfl ?_
      refine h_seq ?_
      refine h_reg ?_
      refine h_op (r_move rfl) ?_
      refine h_op (r_move rfl) ?_
      refine h_op (r_mkI rfl) ?_
      refine h_call ((fNew_s verifyB 2 (vcode n root c rb kb vb bb 2)).comes) rfl rfl rfl fun g35 => ?_
      refine h_op (r_assign rfl) ?_
      refine h_nil ?_
      refine q_then ?_
      refine h_ret ?_
      refine q_blockR ?_
      refine q_thenR ?_
      refine q_thenR ?_
      refine q_blockR ?_
      refine q_thenR ?_
      exact h_ret1 rfl rfl fun w s => ⟨⟨(g35, z, k'), hle, by dsimp only; simp at hkc; omega⟩, rfl, (same (L' := [.zone true z, CN gc k', .blk g35 (fltC verifyB 2 (vcode n root c rb kb vb bb 2)) 166]) w s).res (List.Sublist.refl _) (by simp [Fa.wr, errN])⟩
  · refine h_seq ?_
    refine h_reg ?_
    refine h_op (r_bool (r_lss rfl rfl) rfl) ?_
    refine h_nil ?_
    refine q_then ?_
    refine h_seq ?_
    refine h_condT rfl ?_
    refine h_skip ?_
    refine q_then ?_
    refine h_seq ?_
    refine h_block ?_
    refine h_seq ?_
    refine h_reg ?_
    refine h_op (r_move rfl) ?_
    refine h_op (r_idx rfl rfl (m := 3) (hm := by decide)) ?_
    refine h_op (r_nthr (off := 3) rfl (out := [stepV 3]) rfl (stepsV_at 3 _ rfl)) ?_
    refine h_opX (x_alloc) fun g11 => ?_
    refine h_op (r_assign rfl) ?_
    refine h_opS (s_storer rfl rfl) ?_
    refine h_nil ?_
    refine q_then ?_
    refine h_seq ?_
    refine h_reg ?_
    refine h_op (r_field rfl) ?_
    refine h_op (r_loadc rfl) ?_
    refine h_op (r_move rfl) ?_
    refine h_call ((step3_s z g18 ⟨some ⟨gh, 0, none⟩, root, c, b, p⟩ bb hbl _ rfl).comes) rfl rfl rfl fun ⟨⟨z2, A9, c9⟩, hz2, hr2⟩ => ?_
    dsimp only at hz2 hr2 ⊢
    rw [show codeD (decB bb) = vcode n root c rb kb vb bb 3 from rfl]
    by_cases hc0 : vcode n root c rb kb vb bb 3 = 0
    · rw [hc0]
      refine h_op (r_assign rfl) ?_
      refine h_nil ?_
      refine q_then ?_
      refine h_seq ?_
      refine h_reg ?_
      refine h_op (r_move rfl) ?_
      refine h_op (r_bool (r_neq rfl rfl) rfl) ?_
      refine h_nil ?_
      refine q_then ?_
      refine h_condF rfl ?_
      refine h_skip ?_
      refine q_block ?_
      refine q_then ?_
      refine h_reg ?_
      refine h_op (r_add rfl rfl) ?_
      refine h_op (r_move rfl) ?_
      refine h_nil ?_
      have hd3 : ∃ q A c', decB bb = .ok q ∧ prD (decB bb) A9 c9 = q.pr A c' ∧ RdZ z2 A (dgs q.ss) := by
        rcases hd : decB bb with e | q
        · refine (decB_err hd ?_).elim
          rw [show vcode n root c rb kb vb bb 3 = codeD (decB bb) from rfl, hd] at hc0
          exact hc0
        · exact ⟨q, A9, c9, rfl, rfl, hr2 q hd⟩
      exact h_back (4, z2, (prD (decB bb) A9 c9), k') (⟨hle.trans hz2, by dsimp only; decide, fun j hj => (Nat.lt_or_ge j 3).elim (hz j) fun h8 => by (obtain rfl : j = 3 := by omega); exact hc0, fun _ => hd3, by simpa using hkc⟩) ((show 6 - 4 < 6 - 3 by decide)) ⟨rfl, rfl, rfl, rfl, trivial⟩ (same)
    · rw [show firstC (vcode n root c rb kb vb bb) = some (3, vcode n root c rb kb vb bb 3) from firstF_some (vcode n root c rb kb vb bb) 3 hc0 6 0 (by decide) (by decide) (fun j _ hj => hz j hj)]
      refine h_op (r_assign rfl) ?_
      refine h_nil ?_
      refine q_then ?_
      refine h_seq ?_
      refine h_reg ?_
      refine h_op (r_move rfl) ?_
      refine h_op (r_bool (r_neq rfl rfl) (decide_eq_true hc0)) ?_
      refine h_nil ?_
      refine q_then ?_
      refine h_condT rfl ?_
      refine h_seq ?_
      refine h_reg ?_
      refine h_op (r_move rfl) ?_
      refine h_op (r_move rfl) ?_
      refine h_op (r_mkI rfl) ?_
      refine h_call ((fNew_s verifyB 3 (vcode n root c rb kb vb bb 3)).comes) rfl rfl rfl fun g35 => ?_
      refine h_op (r_assign rfl) ?_
      refine h_nil ?_
      refine q_then ?_
      refine h_ret ?_
      refine q_blockR ?_
      refine q_thenR ?_
      refine q_thenR ?_
      refine q_blockR ?_
      refine q_thenR ?_
      exact h_ret1 rfl rfl fun w s => ⟨⟨(g35, z2, k'), hle.trans hz2, by dsimp only; simp at hkc; omega⟩, rfl, (same (L' := [.zone true z2, CN gc k', .blk g35 (fltC verifyB 3 (vcode n root c rb kb vb bb 3)) 166]) w s).res (List.Sublist.refl _) (by simp [Fa.wr, errN])⟩
  · refine h_seq ?_
    refine h_reg ?_
    refine h_op (r_bool (r_lss rfl rfl) rfl) ?_
    refine h_nil ?_
    refine q_then ?_
    refine h_seq ?_
    refine h_condT rfl ?_
    obtain ⟨q, A9, c9, hq, rfl, hqs⟩ := hde (by decide)
    have hkn2 : kb.length = 32 := by
      have h1 := hz 1 (by decide)
      rw [show vcode n root c rb kb vb bb 1 = if c.key.n = 32 then 0 else 2 from rfl] at h1
      split at h1
      · omega
      · cases h1
    have hck := decB_ok hq
    have hs := step4_s n hn z gh gc k' g18 (by simp at hkc; omega) ⟨some ⟨gh, 0, none⟩, root, c, b, q.pr A9 c9⟩ rfl kb vb hkn2 hvl _ rfl
    rw [show (if supP (q.pr A9 c9) (keyOf kb) (valD n c.present vb) c.present then (0 : Int) else 12) = vcode n root c rb kb vb bb 4 by unfold vcode; rw [hq]; rfl] at hs
    refine h_skip ?_
    refine q_then ?_
    refine h_seq ?_
    refine h_block ?_
    refine h_seq ?_
    refine h_reg ?_
    refine h_op (r_move rfl) ?_
    refine h_op (r_idx rfl rfl (m := 4) (hm := by decide)) ?_
    refine h_op (r_nthr (off := 4) rfl (out := [stepV 4]) rfl (stepsV_at 4 _ rfl)) ?_
    refine h_opX (x_alloc) fun g11 => ?_
    refine h_op (r_assign rfl) ?_
    refine h_opS (s_storer rfl rfl) ?_
    refine h_nil ?_
    refine q_then ?_
    refine h_seq ?_
    refine h_reg ?_
    refine h_op (r_field rfl) ?_
    refine h_op (r_loadc rfl) ?_
    refine h_op (r_move rfl) ?_
    refine h_call (hs.comes) rfl rfl rfl fun _ => ?_
    by_cases hc0 : vcode n root c rb kb vb bb 4 = 0
    · rw [hc0]
      refine h_op (r_assign rfl) ?_
      refine h_nil ?_
      refine q_then ?_
      refine h_seq ?_
      refine h_reg ?_
      refine h_op (r_move rfl) ?_
      refine h_op (r_bool (r_neq rfl rfl) rfl) ?_
      refine h_nil ?_
      refine q_then ?_
      refine h_condF rfl ?_
      refine h_skip ?_
      refine q_block ?_
      refine q_then ?_
      refine h_reg ?_
      refine h_op (r_add rfl rfl) ?_
      refine h_op (r_move rfl) ?_
      refine h_nil ?_
      exact h_back (5, z, (q.pr A9 c9), (k' + if c.present then 1 else 0)) (⟨hle, by dsimp only; decide, fun j hj => (Nat.lt_or_ge j 4).elim (hz j) fun h8 => by (obtain rfl : j = 4 := by omega); exact hc0, fun _ => ⟨q, A9, c9, hq, rfl, hqs⟩, by simp at hkc ⊢; split <;> omega⟩) ((show 6 - 5 < 6 - 4 by decide)) ⟨rfl, rfl, rfl, rfl, trivial⟩ (same)
    · rw [show firstC (vcode n root c rb kb vb bb) = some (4, vcode n root c rb kb vb bb 4) from firstF_some (vcode n root c rb kb vb bb) 4 hc0 6 0 (by decide) (by decide) (fun j _ hj => hz j hj)]
      refine h_op (r_assign rfl) ?_
      refine h_nil ?_
      refine q_then ?_
      refine h_seq ?_
      refine h_reg ?_
      refine h_op (r_move rfl) ?_
      refine h_op (r_bool (r_neq rfl rfl) (decide_eq_true hc0)) ?_
      refine h_nil ?_
      refine q_then ?_
      refine h_condT rfl ?_
      refine h_seq ?_
      refine h_reg ?_
      refine h_op (r_move rfl) ?_
      refine h_op (r_move rfl) ?_
      refine h_op (r_mkI rfl) ?_
      refine h_call ((fNew_s verifyB 4 (vcode n root c rb kb vb bb 4)).comes) rfl rfl rfl fun g35 => ?_
      refine h_op (r_assign rfl) ?_
      refine h_nil ?_
      refine q_then ?_
      refine h_ret ?_
      refine q_blockR ?_
      refine q_thenR ?_
      refine q_thenR ?_
      refine q_blockR ?_
      refine q_thenR ?_
      exact h_ret1 rfl rfl fun w s => ⟨⟨(g35, z, (k' + if c.present then 1 else 0)), hle, by dsimp only; simp at hkc; split <;> omega⟩, rfl, (same (L' := [.zone true z, CN gc (k' + if c.present then 1 else 0), .blk g35 (fltC verifyB 4 (vcode n root c rb kb vb bb 4)) 166]) w s).res (List.Sublist.refl _) (by simp [Fa.wr, errN])⟩
  · refine h_seq ?_
    refine h_reg ?_
    refine h_op (r_bool (r_lss rfl rfl) rfl) ?_
    refine h_nil ?_
    refine q_then ?_
    refine h_seq ?_
    refine h_condT rfl ?_
    obtain ⟨q, A9, c9, hq, rfl, hqs⟩ := hde (by decide)
    have hkn2 : kb.length = 32 := by
      have h1 := hz 1 (by decide)
      rw [show vcode n root c rb kb vb bb 1 = if c.key.n = 32 then 0 else 2 from rfl] at h1
      split at h1
      · omega
      · cases h1
    have hck := decB_ok hq
    have hrl2 : rb.length = 32 := by
      have h1 := hz 0 (by decide)
      rw [show vcode n root c rb kb vb bb 0 = if root.n = 32 then 0 else 4 from rfl] at h1
      split at h1
      · omega
      · cases h1
    have hdd : q.d ≤ 256 := by
      have h1 := ok_depth hck
      have h2 : (q.pr none 0).depth = (q.d : Int) := rfl
      omega
    have hs := step5_s n hn z gh gc k' g18 (by simp at hkc; omega) ⟨some ⟨gh, 0, none⟩, root, c, b, q.pr A9 c9⟩ rfl kb hkn2 rb hrl2 q A9 c9 rfl hck _ rfl
    rw [show (if decide (rootP n q (keyOf kb) = keyOf rb) then (0 : Int) else 13) = vcode n root c rb kb vb bb 5 by unfold vcode; rw [hq]; rfl] at hs
    refine h_skip ?_
    refine q_then ?_
    refine h_seq ?_
    refine h_block ?_
    refine h_seq ?_
    refine h_reg ?_
    refine h_op (r_move rfl) ?_
    refine h_op (r_idx rfl rfl (m := 5) (hm := by decide)) ?_
    refine h_op (r_nthr (off := 5) rfl (out := [stepV 5]) rfl (stepsV_at 5 _ rfl)) ?_
    refine h_opX (x_alloc) fun g11 => ?_
    refine h_op (r_assign rfl) ?_
    refine h_opS (s_storer rfl rfl) ?_
    refine h_nil ?_
    refine q_then ?_
    refine h_seq ?_
    refine h_reg ?_
    refine h_op (r_field rfl) ?_
    refine h_op (r_loadc rfl) ?_
    refine h_op (r_move rfl) ?_
    refine h_call (hs.comes) rfl rfl rfl fun _ => ?_
    by_cases hc0 : vcode n root c rb kb vb bb 5 = 0
    · rw [hc0]
      refine h_op (r_assign rfl) ?_
      refine h_nil ?_
      refine q_then ?_
      refine h_seq ?_
      refine h_reg ?_
      refine h_op (r_move rfl) ?_
      refine h_op (r_bool (r_neq rfl rfl) rfl) ?_
      refine h_nil ?_
      refine q_then ?_
      refine h_condF rfl ?_
      refine h_skip ?_
      refine q_block ?_
      refine q_then ?_
      refine h_reg ?_
      refine h_op (r_add rfl rfl) ?_
      refine h_op (r_move rfl) ?_
      refine h_nil ?_
      exact h_back (6, z, (q.pr A9 c9), (k' + 1 + q.d + 1)) (⟨hle, by dsimp only; decide, fun j hj => (Nat.lt_or_ge j 5).elim (hz j) fun h8 => by (obtain rfl : j = 5 := by omega); exact hc0, fun _ => ⟨q, A9, c9, hq, rfl, hqs⟩, by simp at hkc ⊢; omega⟩) ((show 6 - 6 < 6 - 5 by decide)) ⟨rfl, rfl, rfl, rfl, trivial⟩ (same)
    · rw [show firstC (vcode n root c rb kb vb bb) = some (5, vcode n root c rb kb vb bb 5) from firstF_some (vcode n root c rb kb vb bb) 5 hc0 6 0 (by decide) (by decide) (fun j _ hj => hz j hj)]
      refine h_op (r_assign rfl) ?_
      refine h_nil ?_
      refine q_then ?_
      refine h_seq ?_
      refine h_reg ?_
      refine h_op (r_move rfl) ?_
      refine h_op (r_bool (r_neq rfl rfl) (decide_eq_true hc0)) ?_
      refine h_nil ?_
      refine q_then ?_
      refine h_condT rfl ?_
      refine h_seq ?_
      refine h_reg ?_
      refine h_op (r_move rfl) ?_
      refine h_op (r_move rfl) ?_
      refine h_op (r_mkI rfl) ?_
      refine h_call ((fNew_s verifyB 5 (vcode n root c rb kb vb bb 5)).comes) rfl rfl rfl fun g35 => ?_
      refine h_op (r_assign rfl) ?_
      refine h_nil ?_
      refine q_then ?_
      refine h_ret ?_
      refine q_blockR ?_
      refine q_thenR ?_
      refine q_thenR ?_
      refine q_blockR ?_
      refine q_thenR ?_
      exact h_ret1 rfl rfl fun w s => ⟨⟨(g35, z, (k' + 1 + q.d + 1)), hle, by dsimp only; simp at hkc; omega⟩, rfl, (same (L' := [.zone true z, CN gc (k' + 1 + q.d + 1), .blk g35 (fltC verifyB 5 (vcode n root c rb kb vb bb 5)) 166]) w s).res (List.Sublist.refl _) (by simp [Fa.wr, errN])⟩
  · rw [show firstC (vcode n root c rb kb vb bb) = none from firstF_none _ 6 0 (fun j _ hj => hz j (by omega))]
    refine h_seq ?_
    refine h_reg ?_
    refine h_op (r_bool (r_lss rfl rfl) rfl) ?_
    refine h_nil ?_
    refine q_then ?_
    refine h_seq ?_
    refine h_condF rfl ?_
    refine h_exit ?_
    refine q_thenE ?_
    refine q_thenE ?_
    refine q_blockE ?_
    refine q_then ?_
    refine h_seq ?_
    refine h_reg ?_
    refine h_op (r_assign rfl) ?_
    refine h_nil ?_
    refine q_then ?_
    refine h_ret ?_
    exact h_ret1 rfl rfl fun w s => ⟨⟨(0, z, k'), hle, by dsimp only; simp at hkc; omega⟩, rfl, (same (L' := [.zone true z, CN gc k']) w s).res (List.Sublist.refl _) (by simp [Fa.wr, errN])⟩
end
/-! Claim -/
def claimE (c : Claim) : Int := if c.key.n = 32 then (if c.present = true ∧ 65535 < c.value.n then 3 else 0) else 2
theorem Claim_s (c : Claim) : Spec Tryz.prog 40 [.agg c.cells.toArray].toArray [] [] (fun _ : Unit => .int .i64 (claimE c)) (fun _ => []) := by
  have h1 := fun g => step1_s ⟨none, ⟨none, 0, 0⟩, c, ⟨none, 0, 0⟩, zProof⟩ g
  have h2 := fun g => step2_s ⟨none, ⟨none, 0, 0⟩, c, ⟨none, 0, 0⟩, zProof⟩ g
  refine spec_of Tryz.func40 rfl (n := 25) rfl rfl ?_
  intro W
  refine h_seq ?_
  refine h_reg ?_
  refine h_opX (x_box rfl) fun g1 => ?_
  refine h_op (r_assign rfl) ?_
  refine h_nil ?_
  refine q_then ?_
  refine h_seq ?_
  refine h_reg ?_
  refine h_op (r_loadr rfl) ?_
  refine h_op (r_build rfl) ?_
  refine h_opX (x_box rfl) fun g9 => ?_
  refine h_op (r_assign rfl) ?_
  refine h_nil ?_
  refine q_then ?_
  refine h_seq ?_
  refine h_seq ?_
  refine h_reg ?_
  refine h_call (steps_s.comes) rfl rfl rfl fun g10 => ?_
  refine h_op (r_slLHb rfl rfl rfl (m := 2) (c' := 5) (O' := 1)) ?_
  refine h_op (r_len rfl) ?_
  refine h_op (r_move rfl) ?_
  refine h_nil ?_
  refine q_then ?_
  refine h_block ?_
  change H _ _ _ _ _ (_ :: .blk g9 (Chk.cells ⟨none, ⟨none, 0, 0⟩, c, ⟨none, 0, 0⟩, zProof⟩) _ :: _) _
  refine h_loop (fun (i : Nat) => i ≤ 2 ∧ (1 ≤ i → c.key.n = 32) ∧ (2 ≤ i → ¬ (c.present = true ∧ 65535 < c.value.n))) (fun (i : Nat) => [(3, .pointer (some ⟨g9, 0, none⟩)), (11, .slice (some ⟨g10, 1, none⟩) 2 5), (12, .int .i64 2), (13, .int .i64 (i : Int))]) (fun (i : Nat) => [.own (.slice (some ⟨g10, 0, none⟩) 6 6) 6 160 1 stepsV, .blk g9 (Chk.cells ⟨none, ⟨none, 0, 0⟩, c, ⟨none, 0, 0⟩, zProof⟩) 155]) (fun (i : Nat) => 2 - i) 0 (⟨by decide, fun h => absurd h (by decide), fun h => absurd h (by decide)⟩) ⟨rfl, rfl, rfl, rfl, trivial⟩ (same) ?_
  rintro i ⟨hi, hi1, hi2⟩
  rcases (by omega : i = 0 ∨ i = 1 ∨ i = 2) with rfl | rfl | rfl
  · by_cases hk : c.key.n = 32
    · have h1 := h1 g9
      rw [show code3 ⟨none, ⟨none, 0, 0⟩, c, ⟨none, 0, 0⟩, zProof⟩ 1 = 0 from if_pos hk] at h1
      refine h_seq ?_
      refine h_reg ?_
      refine h_op (r_bool (r_lss rfl rfl) rfl) ?_
      refine h_nil ?_
      refine q_then ?_
      refine h_seq ?_
      refine h_condT rfl ?_
      refine h_skip ?_
      refine q_then ?_
      refine h_seq ?_
      refine h_block ?_
      refine h_seq ?_
      refine h_reg ?_
      refine h_op (r_idx rfl rfl (m := 0) (hm := by decide)) ?_
      refine h_op (r_nthr (off := 1) rfl (out := [stepV 1]) rfl (stepsV_at 1 _ rfl)) ?_
      refine h_opX (x_alloc) fun g5 => ?_
      refine h_opS (s_storer rfl rfl) ?_
      refine h_nil ?_
      refine q_then ?_
      refine h_seq ?_
      refine h_reg ?_
      refine h_op (r_field rfl) ?_
      refine h_op (r_loadc rfl) ?_
      refine h_op (r_move rfl) ?_
      refine h_call (h1.comes) rfl rfl rfl fun _ => ?_
      refine h_op (r_assign rfl) ?_
      refine h_nil ?_
      refine q_then ?_
      refine h_seq ?_
      refine h_reg ?_
      refine h_op (r_move rfl) ?_
      refine h_op (r_bool (r_neq rfl rfl) rfl) ?_
      refine h_nil ?_
      refine q_then ?_
      refine h_condF rfl ?_
      refine h_skip ?_
      refine q_block ?_
      refine q_then ?_
      refine h_reg ?_
      refine h_op (r_add rfl rfl) ?_
      refine h_op (r_move rfl) ?_
      refine h_nil ?_
      exact h_back 1 (⟨by decide, fun _ => hk, fun h => absurd h (by decide)⟩) ((show 2 - 1 < 2 - 0 by decide)) ⟨rfl, rfl, rfl, rfl, trivial⟩ (same)
    · have h1 := h1 g9
      rw [show code3 ⟨none, ⟨none, 0, 0⟩, c, ⟨none, 0, 0⟩, zProof⟩ 1 = 2 from if_neg hk] at h1
      rw [show claimE c = 2 from if_neg hk]
      refine h_seq ?_
      refine h_reg ?_
      refine h_op (r_bool (r_lss rfl rfl) rfl) ?_
      refine h_nil ?_
      refine q_then ?_
      refine h_seq ?_
      refine h_condT rfl ?_
      refine h_skip ?_
      refine q_then ?_
      refine h_seq ?_
      refine h_block ?_
      refine h_seq ?_
      refine h_reg ?_
      refine h_op (r_idx rfl rfl (m := 0) (hm := by decide)) ?_
      refine h_op (r_nthr (off := 1) rfl (out := [stepV 1]) rfl (stepsV_at 1 _ rfl)) ?_
      refine h_opX (x_alloc) fun g5 => ?_
      refine h_opS (s_storer rfl rfl) ?_
      refine h_nil ?_
      refine q_then ?_
      refine h_seq ?_
      refine h_reg ?_
      refine h_op (r_field rfl) ?_
      refine h_op (r_loadc rfl) ?_
      refine h_op (r_move rfl) ?_
      refine h_call (h1.comes) rfl rfl rfl fun _ => ?_
      refine h_op (r_assign rfl) ?_
      refine h_nil ?_
      refine q_then ?_
      refine h_seq ?_
      refine h_reg ?_
      refine h_op (r_move rfl) ?_
      refine h_op (r_bool (r_neq rfl rfl) rfl) ?_
      refine h_nil ?_
      refine q_then ?_
      refine h_condT rfl ?_
      refine h_seq ?_
      refine h_reg ?_
      refine h_op (r_move rfl) ?_
      refine h_op (r_assign rfl) ?_
      refine h_nil ?_
      refine q_then ?_
      refine h_ret ?_
      refine q_blockR ?_
      refine q_thenR ?_
      refine q_thenR ?_
      refine q_blockR ?_
      refine q_thenR ?_
      exact h_ret1 rfl rfl fun w s => ⟨(), rfl, s.res (List.nil_sublist _) (by simp)⟩
  · have hk := hi1 (by decide)
    by_cases hv : c.present = true ∧ 65535 < c.value.n
    · have h2 := h2 g9
      rw [show code3 ⟨none, ⟨none, 0, 0⟩, c, ⟨none, 0, 0⟩, zProof⟩ 2 = 3 from if_pos hv] at h2
      rw [show claimE c = 3 by unfold claimE; rw [if_pos hk, if_pos hv]]
      refine h_seq ?_
      refine h_reg ?_
      refine h_op (r_bool (r_lss rfl rfl) rfl) ?_
      refine h_nil ?_
      refine q_then ?_
      refine h_seq ?_
      refine h_condT rfl ?_
      refine h_skip ?_
      refine q_then ?_
      refine h_seq ?_
      refine h_block ?_
      refine h_seq ?_
      refine h_reg ?_
      refine h_op (r_idx rfl rfl (m := 1) (hm := by decide)) ?_
      refine h_op (r_nthr (off := 2) rfl (out := [stepV 2]) rfl (stepsV_at 2 _ rfl)) ?_
      refine h_opX (x_alloc) fun g5 => ?_
      refine h_opS (s_storer rfl rfl) ?_
      refine h_nil ?_
      refine q_then ?_
      refine h_seq ?_
      refine h_reg ?_
      refine h_op (r_field rfl) ?_
      refine h_op (r_loadc rfl) ?_
      refine h_op (r_move rfl) ?_
      refine h_call (h2.comes) rfl rfl rfl fun _ => ?_
      refine h_op (r_assign rfl) ?_
      refine h_nil ?_
      refine q_then ?_
      refine h_seq ?_
      refine h_reg ?_
      refine h_op (r_move rfl) ?_
      refine h_op (r_bool (r_neq rfl rfl) rfl) ?_
      refine h_nil ?_
      refine q_then ?_
      refine h_condT rfl ?_
      refine h_seq ?_
      refine h_reg ?_
      refine h_op (r_move rfl) ?_
      refine h_op (r_assign rfl) ?_
      refine h_nil ?_
      refine q_then ?_
      refine h_ret ?_
      refine q_blockR ?_
      refine q_thenR ?_
      refine q_thenR ?_
      refine q_blockR ?_
      refine q_thenR ?_
      exact h_ret1 rfl rfl fun w s => ⟨(), rfl, s.res (List.nil_sublist _) (by simp)⟩
    · have h2 := h2 g9
      rw [show code3 ⟨none, ⟨none, 0, 0⟩, c, ⟨none, 0, 0⟩, zProof⟩ 2 = 0 from if_neg hv] at h2
      refine h_seq ?_
      refine h_reg ?_
      refine h_op (r_bool (r_lss rfl rfl) rfl) ?_
      refine h_nil ?_
      refine q_then ?_
      refine h_seq ?_
      refine h_condT rfl ?_
      refine h_skip ?_
      refine q_then ?_
      refine h_seq ?_
      refine h_block ?_
      refine h_seq ?_
      refine h_reg ?_
      refine h_op (r_idx rfl rfl (m := 1) (hm := by decide)) ?_
      refine h_op (r_nthr (off := 2) rfl (out := [stepV 2]) rfl (stepsV_at 2 _ rfl)) ?_
      refine h_opX (x_alloc) fun g5 => ?_
      refine h_opS (s_storer rfl rfl) ?_
      refine h_nil ?_
      refine q_then ?_
      refine h_seq ?_
      refine h_reg ?_
      refine h_op (r_field rfl) ?_
      refine h_op (r_loadc rfl) ?_
      refine h_op (r_move rfl) ?_
      refine h_call (h2.comes) rfl rfl rfl fun _ => ?_
      refine h_op (r_assign rfl) ?_
      refine h_nil ?_
      refine q_then ?_
      refine h_seq ?_
      refine h_reg ?_
      refine h_op (r_move rfl) ?_
      refine h_op (r_bool (r_neq rfl rfl) rfl) ?_
      refine h_nil ?_
      refine q_then ?_
      refine h_condF rfl ?_
      refine h_skip ?_
      refine q_block ?_
      refine q_then ?_
      refine h_reg ?_
      refine h_op (r_add rfl rfl) ?_
      refine h_op (r_move rfl) ?_
      refine h_nil ?_
      exact h_back 2 (⟨by decide, fun _ => hk, fun _ => hv⟩) ((show 2 - 2 < 2 - 1 by decide)) ⟨rfl, rfl, rfl, rfl, trivial⟩ (same)
  · have hk := hi1 (by decide)
    have hv := hi2 (by decide)
    rw [show claimE c = 0 by unfold claimE; rw [if_pos hk, if_neg hv]]
    refine h_seq ?_
    refine h_reg ?_
    refine h_op (r_bool (r_lss rfl rfl) rfl) ?_
    refine h_nil ?_
    refine q_then ?_
    refine h_seq ?_
    refine h_condF rfl ?_
    refine h_exit ?_
    refine q_thenE ?_
    refine q_thenE ?_
    refine q_blockE ?_
    refine q_then ?_
    refine h_seq ?_
    refine h_reg ?_
    refine h_op (r_assign rfl) ?_
    refine h_nil ?_
    refine q_then ?_
    refine h_ret ?_
    exact h_ret1 rfl rfl fun w s => ⟨(), rfl, s.res (List.nil_sublist _) (by simp)⟩
end Go.Proofs.YtgfkbeipckbkiaaGreatDoor
/- N15 -/
namespace Go.Proofs.YtgfkbeipckbkiaaGreatDoor
set_option linter.unusedSimpArgs false
set_option linter.unusedVariables false
open Go.RowKit
end Go.Proofs.YtgfkbeipckbkiaaGreatDoor
/- N16 -/
namespace Go.Proofs.YtgfkbeipckbkiaaGreatDoor
set_option linter.unusedSimpArgs false
set_option linter.unusedVariables false
open Go.RowKit
end Go.Proofs.YtgfkbeipckbkiaaGreatDoor
/- N17 -/
namespace Go.Proofs.YtgfkbeipckbkiaaGreatDoor
set_option linter.unusedSimpArgs false
set_option linter.unusedVariables false
open Go.RowKit
section
variable {P : Program} {A : List Fa} {W : World} {n : Nat} {D : List Deferred} {E : Env} {L : List Fa} {f : FuncId} {l : List Operand} {ts : Array TypeId} {vs : List Value} {v : Value}
theorem run_fun {a : Act} {w : World} {o : Oper} {x : Next} {w' : World} (ka : Kn n D E a) (ho : o.op = .call ⟨.value (.func f), l.toArray, ts⟩) (ha : evs E l = some vs) (hb : (callFunc f vs.toArray).run P w = .ok x w') : (execOp a.eval o).run P w = .ok x w' := by
  have e0 : ev E (.func f) = some (.func (.func f) #[] #[]) := rfl
  unfold execOp
  simp only [ho, resolve, ka.ev e0, Deferred.ofValue, Sem.run_bind, Sem.run_pure, Result.andThen_ok, invoke]
  rw [List.map_toArray, ka.evs ha]
  simpa using hb
theorem r_fun (hb : ∀ w, (callFunc f vs.toArray).run P w = .ok (.value v) w) (ha : evs E l = some vs) : Runs0 P n D E L (.call ⟨.value (.func f), l.toArray, ts⟩) v := fun a w ka s o ho => run_fun ka ho ha (hb w)
/-- one that reads a cell -/
theorem r_funC {b : Nat} {u : Value} [hc : Cells b 0 L 0 [u]] (hb : ∀ w, w.cell? ⟨b, 0, none⟩ = some u → (callFunc f vs.toArray).run P w = .ok (.value v) w) (ha : evs E l = some vs) : Runs0 P n D E L (.call ⟨.value (.func f), l.toArray, ts⟩) v := fun a w ka s o ho => run_fun ka ho ha (hb w (hc.cell s 0 u rfl))
/-- one that makes a block -/
theorem x_fun {cs : List Value} {T : TypeId} {u : Nat → Value} (hb : ∀ w, (callFunc f vs.toArray).run P w = .ok (.value (u w.heap.size)) (w.alloc (.cells cs.toArray T))) (ha : evs E l = some vs) : RunsX P A W n D E L (.call ⟨.value (.func f), l.toArray, ts⟩) u (fun g => .blk g cs T :: L) := fun a w ka s o ho =>
  ⟨w.heap.size, _, run_fun ka ho ha (hb w), s.alloc cs T⟩
/-- one that stores a cell into a block -/
theorem x_setV {g b : Nat} {T : TypeId} {old u : Value} {M : List Fa} [hm : TakeB g L [old] T M] [hc : Cells b 0 L 0 [u]] (hb : ∀ w, w.cell? ⟨b, 0, none⟩ = some u → w.heap[g]? = some (.cells #[old] T (0, 0)) → (callFunc f vs.toArray).run P w = .ok (.value (.tuple #[])) (w.setCell ⟨g, 0, none⟩ u)) (ha : evs E l = some vs) : RunsX P A W n D E L (.call ⟨.value (.func f), l.toArray, ts⟩) (fun _ : Unit => .tuple #[]) (fun _ => .blk g [u] T :: M) := fun a w ka s o ho => by
  have h2 := s.perm hm.perm
  have hbk : w.heap[g]? = some (.cells [old].toArray T (0, 0)) := h2.ok (.blk _ _ _) (List.mem_cons_self ..)
  refine ⟨(), _, run_fun ka ho ha (hb w (hc.cell s.toFx 0 u rfl) hbk), h2.put ?_ (fun B w0 hB hg => hB.setCell hg u) (by simp) (fun k hk => heap_setCell_other w _ k u hk)⟩
  rw [heap_setCell_same w g 0 _ T u hbk]
  rfl
/-- a method's entry, through an interface value -/
theorem r_inv {x : Operand} {T : TypeId} {u : Value} {name : String} (hb : ∀ w, (callMethod (.iface T u) name vs.toArray).run P w = .ok (.value v) w) (hx : ev E x = some (.iface T u)) (ha : evs E l = some vs) : Runs0 P n D E L (.call ⟨.invoke x name, l.toArray, ts⟩) v := fun a w ka s o ho => by
  unfold execOp
  simp only [ho, resolve, ka.ev hx, Sem.run_bind, Sem.run_pure, Result.andThen_ok, invoke]
  rw [List.map_toArray, ka.evs ha]
  have e0 : ((#[Value.iface T u] : Array Value) ++ vs.toArray)[0]? = some (.iface T u) := by simp
  rw [e0]
  simp only []
  have e : ((#[Value.iface T u] : Array Value) ++ vs.toArray).extract 1 ((#[Value.iface T u] : Array Value) ++ vs.toArray).size = vs.toArray := by simp
  rw [e]
  exact hb w
theorem r_slAH {D : List Deferred} {T : TypeId} {x q : Operand} {len e size : Nat} [hT : TArr P T len e size] {b off h : Nat} {j : Int} {k : IntKind} (hx : ev E x = some (.pointer (some ⟨b, off, none⟩))) (hq : ev E q = some (.int k j)) [hj : NatOf j h] (h0 : 0 < len := by decide) (hl : h ≤ len := by decide) : Runs0 P n D E L (.slice T x none (some q) none) (.slice (some ⟨b, off, none⟩) h len) := fun a w ka s o ho => by
  obtain rfl := hj.eq
  obtain ⟨jj, hjj, hjs⟩ := Option.map_eq_some_iff.1 hT.size
  have c1 : (0 : Int) ≤ (h : Int) ∧ (h : Int) ≤ (len : Int) := ⟨by omega, by omega⟩
  have c2 : (0 : Int) ≤ (0 : Int) ∧ (0 : Int) ≤ (h : Int) := ⟨by omega, by omega⟩
  have c3 : (0 : Int) ≤ (len : Int) ∧ (len : Int) ≤ (len : Int) := ⟨by omega, by omega⟩
  unfold execOp
  simp only [ho, ka.ev hx, ka.ev hq, Option.map_none, Option.map_some]
  simp [Instr.sliceAt, run_underlying hT.und, Instr.sureAddr, Instr.sliceBounds, Instr.sliceBound, asIntOf, sizeOf, typeInfo, hjj, Addr.add_mid, c1, c2, c3, hl]
theorem r_eqS {T T' : TypeId} {x y : Operand} {a b : ByteArray} (hx : ev E x = some (.string a)) (hy : ev E y = some (.string b)) : Runs0 P n D E L (.binOp .eql T x y T') (.bool (a.toList == b.toList)) := fun act w ka s o ho => run_bin ho (ka.ev hx) (ka.ev hy) rfl (by rw [binOp_string_eql]; rfl)
end
end Go.Proofs.YtgfkbeipckbkiaaGreatDoor
/- U93 -/
namespace Go.Proofs.YtgfkbeipckbkiaaGreatDoor
set_option linter.unusedSimpArgs false
set_option linter.unusedVariables false
open Go.RowKit Go.Extern.Stop Go.Stop Go.Extern
abbrev hdl (T : Nat) : Value := .pointer (some ⟨3, T, none⟩)
abbrev rty (T : Nat) : Value := .iface 244 (.agg #[hdl T])
abbrev rval (T b : Nat) (fl : Int) : Value := .agg #[hdl T, .pointer (some ⟨b, 0, none⟩), .int .u64 fl]
theorem rf_val1 (t : Addr) (w : World) : (callFunc 121 #[.iface 164 (.pointer (some t))]).run Tryz.prog w = .ok (.value (rval 164 w.heap.size 150)) (w.alloc (.cells #[.pointer (some t)] 164)) := by kernel_rfl
theorem rf_val2 (t : Addr) (w : World) : (callFunc 121 #[.iface 167 (.pointer (some t))]).run Tryz.prog w = .ok (.value (rval 167 w.heap.size 150)) (w.alloc (.cells #[.pointer (some t)] 167)) := by kernel_rfl
theorem rf_val3 (t : Addr) (w : World) : (callFunc 121 #[.iface 162 (.pointer (some t))]).run Tryz.prog w = .ok (.value (rval 162 w.heap.size 150)) (w.alloc (.cells #[.pointer (some t)] 162)) := by kernel_rfl
theorem rf_val4 (e : Int) (w : World) : (callFunc 121 #[.iface 31 (.int .i64 e)]).run Tryz.prog w = .ok (.value (rval 31 w.heap.size 130)) (w.alloc (.cells #[.int .i64 e] 31)) := by kernel_rfl
theorem rf_type1 (b : Nat) (w : World) : (callFunc 122 #[rval 164 b 150]).run Tryz.prog w = .ok (.value (rty 164)) w := by kernel_rfl
theorem rf_type2 (b : Nat) (w : World) : (callFunc 122 #[rval 167 b 150]).run Tryz.prog w = .ok (.value (rty 167)) w := by kernel_rfl
theorem rf_kind1 (w : World) : (callMethod (rty 164) "Kind" #[]).run Tryz.prog w = .ok (.value (.int .u8 22)) w := by kernel_rfl
theorem rf_kind2 (w : World) : (callMethod (rty 167) "Kind" #[]).run Tryz.prog w = .ok (.value (.int .u8 22)) w := by kernel_rfl
theorem rf_kind3 (w : World) : (callMethod (rty 162) "Kind" #[]).run Tryz.prog w = .ok (.value (.int .u8 22)) w := by kernel_rfl
theorem rf_kind4 (w : World) : (callMethod (rty 31) "Kind" #[]).run Tryz.prog w = .ok (.value (.int .u8 2)) w := by kernel_rfl
theorem rf_elem1 (w : World) : (callMethod (rty 164) "Elem" #[]).run Tryz.prog w = .ok (.value (rty 162)) w := by kernel_rfl
theorem rf_elem2 (w : World) : (callMethod (rty 167) "Elem" #[]).run Tryz.prog w = .ok (.value (rty 31)) w := by kernel_rfl
theorem rf_impl3 (w : World) : (callMethod (rty 162) "Implements" #[rty 76]).run Tryz.prog w = .ok (.value (.bool true)) w := by kernel_rfl
theorem rf_impl4 (w : World) : (callMethod (rty 31) "Implements" #[rty 76]).run Tryz.prog w = .ok (.value (.bool true)) w := by kernel_rfl
theorem rf_typeOf3 (v : Value) (w : World) : (callFunc 153 #[.iface 162 v]).run Tryz.prog w = .ok (.value (rty 162)) w := by kernel_rfl
theorem rf_typeOf4 (v : Value) (w : World) : (callFunc 153 #[.iface 31 v]).run Tryz.prog w = .ok (.value (rty 31)) w := by kernel_rfl
theorem rf_asg33 (w : World) : (callMethod (rty 162) "AssignableTo" #[rty 162]).run Tryz.prog w = .ok (.value (.bool true)) w := by kernel_rfl
theorem rf_asg34 (w : World) : (callMethod (rty 162) "AssignableTo" #[rty 31]).run Tryz.prog w = .ok (.value (.bool false)) w := by kernel_rfl
theorem rf_asg44 (w : World) : (callMethod (rty 31) "AssignableTo" #[rty 31]).run Tryz.prog w = .ok (.value (.bool true)) w := by kernel_rfl
end Go.Proofs.YtgfkbeipckbkiaaGreatDoor
/- U94 -/
namespace Go.Proofs.YtgfkbeipckbkiaaGreatDoor
set_option linter.unusedSimpArgs false
set_option linter.unusedVariables false
open Go.RowKit Go.Extern.Stop Go.Stop Go.Extern
theorem rlm (z : Sem Value) (f : TypeId → Addr → Nat → Nat → Sem Value) (v : Value) :
    ReflectliteValue.method z f #[v] = (do match ← ReflectliteValue.parts v with | none => z | some (t, a, fl) => f t a fl (fl % 32)) := rfl
theorem rls (v x : Value) : ReflectliteValue.set #[v, x] = (do
    let (some (dst, a, fl), some (src, b, _)) := (← ReflectliteValue.parts v, ← ReflectliteValue.parts x)
      | unsupported (.noEntry "extern/(internal/reflectlite.Value).Set.zeroValue")
    if fl / ReflectliteValue.flagAddr % 2 == 0 then unsupported (.noEntry "extern/(internal/reflectlite.Value).Set.unaddressable")
    let val ← loadVar src b
    if ← Rtype.directlyAssignable dst src then storeVar dst a val
    else if ← Rtype.implements dst src then
      if (← Rtype.kind src) == 20 then
        match val with
        | .nilIface => unsupported (.noEntry "extern/reflectlite: a nil value of one interface type handed on as a value of another")
        | _ => storeVar dst a val
      else storeVar dst a (.iface src val)
    else panicString ("reflectlite.Set: value of type " ++ (← Rtype.spelt src) ++ " is not assignable to type " ++ (← Rtype.spelt dst))
    pure (.tuple #[])) := rfl
theorem rf_pP1 (b : Nat) (w : World) : (ReflectliteValue.parts (rval 164 b 150)).run Tryz.prog w = .ok (some (164, ⟨b, 0, none⟩, 150)) w := by kernel_rfl
theorem rf_pA1 (b : Nat) (w : World) : (ReflectliteValue.parts (rval 162 b 406)).run Tryz.prog w = .ok (some (162, ⟨b, 0, none⟩, 406)) w := by kernel_rfl
theorem rf_pE1 (b : Nat) (w : World) : (ReflectliteValue.parts (rval 162 b 150)).run Tryz.prog w = .ok (some (162, ⟨b, 0, none⟩, 150)) w := by kernel_rfl
theorem rf_nil1 (b : Nat) (p : Addr) (w : World) (ha : w.cell? ⟨b, 0, none⟩ = some (.pointer (some p))) : (callFunc 123 #[rval 164 b 150]).run Tryz.prog w = .ok (.value (.bool false)) w := by
  have h : (ReflectliteValue.method (ReflectliteValue.valueError "reflectlite.Value.IsNil" 0) ReflectliteValue.isNil #[rval 164 b 150]).run Tryz.prog w = .ok (.bool false) w := by
    rw [rlm]
    simp only [Sem.run_bind, rf_pP1, Result.andThen]
    simp [ReflectliteValue.isNil, loadVar, isAgg, underlying, Tryz.underlying164, ha, Result.andThen]
  have hF := @run_callFunc_extern Tryz.prog 123 _ (ReflectliteValue.method (ReflectliteValue.valueError "reflectlite.Value.IsNil" 0) ReflectliteValue.isNil) Tryz.func123 (by kernel_rfl) (by kernel_rfl) (by kernel_rfl) (by kernel_rfl)
  rw [hF, h]
  rfl
theorem rf_eO1 (w : World) : (Rtype.elem? 164).run Tryz.prog w = .ok (some 162) w := by kernel_rfl
theorem rf_mk1 (p : Nat) (w : World) : (ReflectliteValue.mk 162 ⟨p, 0, none⟩ ReflectliteValue.flagAddr).run Tryz.prog w = .ok (rval 162 p 406) w := by kernel_rfl
theorem rf_elemV1 (b p : Nat) (w : World) (ha : w.cell? ⟨b, 0, none⟩ = some (.pointer (some ⟨p, 0, none⟩))) : (callFunc 154 #[rval 164 b 150]).run Tryz.prog w = .ok (.value (rval 162 p 406)) w := by
  have h : (ReflectliteValue.method (ReflectliteValue.valueError "reflectlite.Value.Elem" 0) ReflectliteValue.elem #[rval 164 b 150]).run Tryz.prog w = .ok (rval 162 p 406) w := by
    rw [rlm]
    simp only [Sem.run_bind, rf_pP1, Result.andThen]
    simp [ReflectliteValue.elem, loadVar, isAgg, underlying, Tryz.underlying164, ha, Result.andThen, rf_eO1, rf_mk1]
  have hF := @run_callFunc_extern Tryz.prog 154 _ (ReflectliteValue.method (ReflectliteValue.valueError "reflectlite.Value.Elem" 0) ReflectliteValue.elem) Tryz.func154 (by kernel_rfl) (by kernel_rfl) (by kernel_rfl) (by kernel_rfl)
  rw [hF, h]
  rfl
theorem rf_dA1 (w : World) : (Rtype.directlyAssignable 162 162).run Tryz.prog w = .ok true w := by kernel_rfl
theorem rf_set1 (t b : Nat) (e : Addr) (old : Value) (w : World) (hb : w.cell? ⟨b, 0, none⟩ = some (.pointer (some e))) (ht : w.heap[t]? = some (.cells #[old] 162 (0, 0))) : (callFunc 155 #[rval 162 t 406, rval 162 b 150]).run Tryz.prog w = .ok (.value (.tuple #[])) (w.setCell ⟨t, 0, none⟩ (.pointer (some e))) := by
  obtain ⟨hc, hf⟩ := blk_cells ht
  have h : (ReflectliteValue.set #[rval 162 t 406, rval 162 b 150]).run Tryz.prog w = .ok (.tuple #[]) (w.setCell ⟨t, 0, none⟩ (.pointer (some e))) := by
    rw [rls]
    simp only [Sem.run_bind, rf_pA1, rf_pE1, Result.andThen]
    simp [ReflectliteValue.flagAddr, loadVar, isAgg, underlying, Tryz.underlying162, hb, Result.andThen, rf_dA1, storeVar, Value.cells, storeCells, Addr.add]
    rw [run_store Tryz.prog w ⟨t, 0, none⟩ _ _ (by rfl)]
    simp [hc, hf]
  have hF := @run_callFunc_extern Tryz.prog 155 _ ReflectliteValue.set Tryz.func155 (by kernel_rfl) (by kernel_rfl) (by kernel_rfl) (by kernel_rfl)
  rw [hF, h]
  rfl
theorem rf_pP2 (b : Nat) (w : World) : (ReflectliteValue.parts (rval 167 b 150)).run Tryz.prog w = .ok (some (167, ⟨b, 0, none⟩, 150)) w := by kernel_rfl
theorem rf_pA2 (b : Nat) (w : World) : (ReflectliteValue.parts (rval 31 b 386)).run Tryz.prog w = .ok (some (31, ⟨b, 0, none⟩, 386)) w := by kernel_rfl
theorem rf_pE2 (b : Nat) (w : World) : (ReflectliteValue.parts (rval 31 b 130)).run Tryz.prog w = .ok (some (31, ⟨b, 0, none⟩, 130)) w := by kernel_rfl
theorem rf_nil2 (b : Nat) (p : Addr) (w : World) (ha : w.cell? ⟨b, 0, none⟩ = some (.pointer (some p))) : (callFunc 123 #[rval 167 b 150]).run Tryz.prog w = .ok (.value (.bool false)) w := by
  have h : (ReflectliteValue.method (ReflectliteValue.valueError "reflectlite.Value.IsNil" 0) ReflectliteValue.isNil #[rval 167 b 150]).run Tryz.prog w = .ok (.bool false) w := by
    rw [rlm]
    simp only [Sem.run_bind, rf_pP2, Result.andThen]
    simp [ReflectliteValue.isNil, loadVar, isAgg, underlying, Tryz.underlying167, ha, Result.andThen]
  have hF := @run_callFunc_extern Tryz.prog 123 _ (ReflectliteValue.method (ReflectliteValue.valueError "reflectlite.Value.IsNil" 0) ReflectliteValue.isNil) Tryz.func123 (by kernel_rfl) (by kernel_rfl) (by kernel_rfl) (by kernel_rfl)
  rw [hF, h]
  rfl
theorem rf_eO2 (w : World) : (Rtype.elem? 167).run Tryz.prog w = .ok (some 31) w := by kernel_rfl
theorem rf_mk2 (p : Nat) (w : World) : (ReflectliteValue.mk 31 ⟨p, 0, none⟩ ReflectliteValue.flagAddr).run Tryz.prog w = .ok (rval 31 p 386) w := by kernel_rfl
theorem rf_elemV2 (b p : Nat) (w : World) (ha : w.cell? ⟨b, 0, none⟩ = some (.pointer (some ⟨p, 0, none⟩))) : (callFunc 154 #[rval 167 b 150]).run Tryz.prog w = .ok (.value (rval 31 p 386)) w := by
  have h : (ReflectliteValue.method (ReflectliteValue.valueError "reflectlite.Value.Elem" 0) ReflectliteValue.elem #[rval 167 b 150]).run Tryz.prog w = .ok (rval 31 p 386) w := by
    rw [rlm]
    simp only [Sem.run_bind, rf_pP2, Result.andThen]
    simp [ReflectliteValue.elem, loadVar, isAgg, underlying, Tryz.underlying167, ha, Result.andThen, rf_eO2, rf_mk2]
  have hF := @run_callFunc_extern Tryz.prog 154 _ (ReflectliteValue.method (ReflectliteValue.valueError "reflectlite.Value.Elem" 0) ReflectliteValue.elem) Tryz.func154 (by kernel_rfl) (by kernel_rfl) (by kernel_rfl) (by kernel_rfl)
  rw [hF, h]
  rfl
theorem rf_dA2 (w : World) : (Rtype.directlyAssignable 31 31).run Tryz.prog w = .ok true w := by kernel_rfl
theorem rf_set2 (t b : Nat) (e : Int) (old : Value) (w : World) (hb : w.cell? ⟨b, 0, none⟩ = some (.int .i64 e)) (ht : w.heap[t]? = some (.cells #[old] 31 (0, 0))) : (callFunc 155 #[rval 31 t 386, rval 31 b 130]).run Tryz.prog w = .ok (.value (.tuple #[])) (w.setCell ⟨t, 0, none⟩ (.int .i64 e)) := by
  obtain ⟨hc, hf⟩ := blk_cells ht
  have h : (ReflectliteValue.set #[rval 31 t 386, rval 31 b 130]).run Tryz.prog w = .ok (.tuple #[]) (w.setCell ⟨t, 0, none⟩ (.int .i64 e)) := by
    rw [rls]
    simp only [Sem.run_bind, rf_pA2, rf_pE2, Result.andThen]
    simp [ReflectliteValue.flagAddr, loadVar, isAgg, underlying, Tryz.underlying31, hb, Result.andThen, rf_dA2, storeVar, Value.cells, storeCells, Addr.add]
    rw [run_store Tryz.prog w ⟨t, 0, none⟩ _ _ (by rfl)]
    simp [hc, hf]
  have hF := @run_callFunc_extern Tryz.prog 155 _ ReflectliteValue.set Tryz.func155 (by kernel_rfl) (by kernel_rfl) (by kernel_rfl) (by kernel_rfl)
  rw [hF, h]
  rfl
end Go.Proofs.YtgfkbeipckbkiaaGreatDoor
/- U95 -/
namespace Go.Proofs.YtgfkbeipckbkiaaGreatDoor
set_option linter.unusedSimpArgs false
set_option linter.unusedVariables false
open Go.RowKit Go.Extern.Stop Go.Stop Go.Extern
instance : TIf Tryz.prog 20 := ⟨by kernel_rfl⟩
instance : MethT Tryz.prog 162 "Unwrap" 222 := ⟨fun v args w => by kernel_rfl⟩
instance : TRow Tryz.prog 206 3 := ⟨⟨_, Tryz.underlying206, rfl⟩, by kernel_rfl⟩
instance : TZ Tryz.prog 206 [.pointer none, .pointer none, .int .u64 0] := ⟨⟨.agg #[.pointer none, .pointer none, .int .u64 0], by kernel_rfl, rfl⟩⟩
instance : TOne Tryz.prog 209 := ⟨⟨_, Tryz.underlying209, rfl⟩, by kernel_rfl⟩
abbrev ERT : Fa := .rd (some ⟨0, 0, none⟩) [rty 76]
theorem r_asLack {P : Program} {n : Nat} {D : List Deferred} {E : Env} {L : List Fa} {x : Operand} {xT T t : TypeId} {v z : Value} {want : Array (String × TypeId)} (hu : P.underlying T = some (.interface want)) (h : (P.info? t).map (fun i => (lacking want i.methods).isEmpty) = some false) (hz : (P.info? T).map (·.zero) = some (some z)) (hx : ev E x = some (.iface t v)) : Runs0 P n D E L (.typeAssert x xT T true) (.tuple #[z, .bool false]) := fun a w ka s o ho => by
  unfold execOp
  simp only [ho, ka.ev hx]
  rw [Sem.run_bind, run_typeAssert_lacksB hu h hz]
  rfl
theorem r_asHas {P : Program} {n : Nat} {D : List Deferred} {E : Env} {L : List Fa} {x : Operand} {xT T t : TypeId} {v : Value} {want : Array (String × TypeId)} (hu : P.underlying T = some (.interface want)) (h : (P.info? t).map (fun i => (lacking want i.methods).isEmpty) = some true) (hx : ev E x = some (.iface t v)) : Runs0 P n D E L (.typeAssert x xT T true) (.tuple #[.iface t v, .bool true]) := fun a w ka s o ho => by
  unfold execOp
  simp only [ho, ka.ev hx]
  rw [Sem.run_bind, run_typeAssert_hasB hu h]
  rfl
theorem fUnwrap_s (e : Nat) (op : ByteArray) (i c : Int) : Spec Tryz.prog 222 [.pointer (some ⟨e, 0, none⟩)].toArray [.rd (some ⟨e, 0, none⟩) (fltC op i c)] [] (fun _ : Unit => .iface 31 (.int .i64 c)) (fun _ => []) := by
  refine spec_of Tryz.func222 rfl (n := 9) rfl rfl ?_
  intro W
  refine h_seq ?_
  refine h_reg ?_
  refine h_op (r_assign rfl) ?_
  refine h_nil ?_
  refine q_then ?_
  refine h_seq ?_
  refine h_seq ?_
  refine h_reg ?_
  refine h_op (r_move rfl) ?_
  refine h_op (r_nilR rfl rfl) ?_
  refine h_nil ?_
  refine q_then ?_
  refine h_condF rfl ?_
  refine h_skip ?_
  refine q_then ?_
  refine h_seq ?_
  refine h_reg ?_
  refine h_op (r_move rfl) ?_
  refine h_op (r_nilc rfl) ?_
  refine h_op (r_field rfl) ?_
  refine h_op (r_loadc rfl) ?_
  refine h_op (r_assign rfl) ?_
  refine h_nil ?_
  refine q_then ?_
  refine h_ret ?_
  exact h_ret1 rfl rfl fun w s => ⟨(), rfl, s.res (List.nil_sublist _) (by simp)⟩
theorem as_in1 (e t b : Nat) : Spec Tryz.prog 124 [.iface 162 (.pointer (some ⟨e, 0, none⟩)), .iface 164 (.pointer (some ⟨t, 0, none⟩)), rval 164 b 150, rty 162].toArray [.rd (some ⟨b, 0, none⟩) [.pointer (some ⟨t, 0, none⟩)]] [.blk t [.pointer none] 162] (fun _ : Unit => .bool true) (fun _ => [.blk t [.pointer (some ⟨e, 0, none⟩)] 162]) := by
  refine spec_of Tryz.func124 rfl (n := 62) rfl rfl ?_
  intro W
  refine h_seq ?_
  refine h_reg ?_
  refine h_opX (x_box rfl) fun g6 => ?_
  refine h_op (r_assign rfl) ?_
  refine h_nil ?_
  refine q_then ?_
  refine h_block ?_
  refine h_loop (fun (s : Unit) => True) (fun (s : Unit) => [(0, .iface 162 (.pointer (some ⟨e, 0, none⟩))), (3, rty 162), (6, .pointer (some ⟨g6, 0, none⟩))]) (fun (s : Unit) => [.blk g6 [hdl 164, .pointer (some ⟨b, 0, none⟩), .int .u64 150] 206, .blk t [.pointer none] 162, .rd (some ⟨b, 0, none⟩) [.pointer (some ⟨t, 0, none⟩)]]) (fun (s : Unit) => 0) () (trivial) ⟨rfl, rfl, rfl, trivial⟩ (same) ?_
  rintro _ _
  refine h_block ?_
  refine h_seq ?_
  refine h_seq ?_
  refine h_reg ?_
  refine h_op (r_move rfl) ?_
  refine h_op (r_fun (rf_typeOf3 _) rfl) ?_
  refine h_op (r_move rfl) ?_
  refine h_op (r_inv rf_asg33 rfl rfl) ?_
  refine h_nil ?_
  refine q_then ?_
  refine h_condT rfl ?_
  refine h_seq ?_
  refine h_reg ?_
  refine h_op (r_loadr rfl) ?_
  refine h_op (r_funC (u := .pointer (some ⟨t, 0, none⟩)) (fun w hw => rf_elemV1 b t w hw) rfl) ?_
  refine h_op (r_move rfl) ?_
  refine h_opX (x_fun (u := fun b => rval 162 b 150) (cs := [.pointer (some ⟨e, 0, none⟩)]) (rf_val3 ⟨e, 0, none⟩) rfl) fun g23 => ?_
  refine h_opX (x_setV (g := t) (u := .pointer (some ⟨e, 0, none⟩)) (fun w h1 h2 => rf_set1 t g23 ⟨e, 0, none⟩ _ w h1 h2) rfl) fun g24 => ?_
  refine h_nil ?_
  refine q_then ?_
  refine h_seq ?_
  refine h_reg ?_
  refine h_op (r_assign rfl) ?_
  refine h_nil ?_
  refine q_then ?_
  refine h_ret ?_
  refine q_thenR ?_
  refine q_blockR ?_
  refine q_thenR ?_
  refine q_blockR ?_
  exact h_ret1 rfl rfl fun w s => ⟨(), rfl, (same (L' := [.blk t [.pointer (some ⟨e, 0, none⟩)] 162]) w s).res (List.Sublist.refl _) (by simp [Fa.wr])⟩
theorem as_s1 (e t : Nat) : Spec Tryz.prog 80 [.iface 162 (.pointer (some ⟨e, 0, none⟩)), .iface 164 (.pointer (some ⟨t, 0, none⟩))].toArray [ERT] [.blk t [.pointer none] 162] (fun _ : Unit => .bool true) (fun _ => [.blk t [.pointer (some ⟨e, 0, none⟩)] 162]) := by
  refine spec_of Tryz.func80 rfl (n := 42) rfl rfl ?_
  intro W
  refine h_seq ?_
  refine h_reg ?_
  refine h_op (r_assign rfl) ?_
  refine h_nil ?_
  refine q_then ?_
  refine h_seq ?_
  refine h_seq ?_
  refine h_reg ?_
  refine h_op (r_move rfl) ?_
  refine h_op (r_ifnil rfl) ?_
  refine h_nil ?_
  refine q_then ?_
  refine h_condF rfl ?_
  refine h_skip ?_
  refine q_then ?_
  refine h_seq ?_
  refine h_seq ?_
  refine h_reg ?_
  refine h_op (r_move rfl) ?_
  refine h_op (r_ifnil rfl) ?_
  refine h_nil ?_
  refine q_then ?_
  refine h_condF rfl ?_
  refine h_skip ?_
  refine q_then ?_
  refine h_seq ?_
  refine h_reg ?_
  refine h_op (r_move rfl) ?_
  refine h_opX (x_fun (u := fun b => rval 164 b 150) (cs := [.pointer (some ⟨t, 0, none⟩)]) (rf_val1 ⟨t, 0, none⟩) rfl) fun g14 => ?_
  refine h_opX (x_alloc) fun g5 => ?_
  refine h_opS (s_storer rfl rfl) ?_
  refine h_nil ?_
  refine q_then ?_
  refine h_seq ?_
  refine h_reg ?_
  refine h_op (r_loadr rfl) ?_
  refine h_op (r_fun (rf_type1 g14) rfl) ?_
  refine h_op (r_assign rfl) ?_
  refine h_nil ?_
  refine q_then ?_
  refine h_seq ?_
  refine h_seq ?_
  refine h_reg ?_
  refine h_op (r_move rfl) ?_
  refine h_op (r_inv rf_kind1 rfl rfl) ?_
  refine h_op (r_bool (r_neq rfl rfl) rfl) ?_
  refine h_op (r_move rfl) ?_
  refine h_op (r_loadr rfl) ?_
  refine h_op (r_funC (u := .pointer (some ⟨t, 0, none⟩)) (fun w hw => rf_nil1 g14 ⟨t, 0, none⟩ w hw) rfl) ?_
  refine h_op (r_pick rfl rfl) ?_
  refine h_nil ?_
  refine q_then ?_
  refine h_condF rfl ?_
  refine h_skip ?_
  refine q_then ?_
  refine h_seq ?_
  refine h_reg ?_
  refine h_op (r_move rfl) ?_
  refine h_op (r_inv rf_elem1 rfl rfl) ?_
  refine h_op (r_assign rfl) ?_
  refine h_nil ?_
  refine q_then ?_
  refine h_seq ?_
  refine h_seq ?_
  refine h_reg ?_
  refine h_op (r_move rfl) ?_
  refine h_op (r_inv rf_kind3 rfl rfl) ?_
  refine h_op (r_bool (r_neq rfl rfl) rfl) ?_
  refine h_op (r_move rfl) ?_
  refine h_op (r_move rfl) ?_
  refine h_op (r_loadc rfl) ?_
  refine h_op (r_inv rf_impl3 rfl rfl) ?_
  refine h_op (r_not rfl) ?_
  refine h_op (r_pick rfl rfl) ?_
  refine h_nil ?_
  refine q_then ?_
  refine h_condF rfl ?_
  refine h_skip ?_
  refine q_then ?_
  refine h_seq ?_
  refine h_reg ?_
  refine h_op (r_move rfl) ?_
  refine h_op (r_move rfl) ?_
  refine h_op (r_loadr rfl) ?_
  refine h_op (r_move rfl) ?_
  refine h_call ((as_in1 e t g14).comes) rfl rfl rfl fun _ => ?_
  refine h_op (r_assign rfl) ?_
  refine h_nil ?_
  refine q_then ?_
  refine h_ret ?_
  exact h_ret1 rfl rfl fun w s => ⟨(), rfl, (same (L' := [.blk t [.pointer (some ⟨e, 0, none⟩)] 162]) w s).res (List.Sublist.refl _) (by simp [Fa.wr])⟩
theorem as_in2 (e t b : Nat) (op : ByteArray) (i c : Int) : Spec Tryz.prog 124 [.iface 162 (.pointer (some ⟨e, 0, none⟩)), .iface 167 (.pointer (some ⟨t, 0, none⟩)), rval 167 b 150, rty 31].toArray [.rd (some ⟨b, 0, none⟩) [.pointer (some ⟨t, 0, none⟩)], .rd (some ⟨e, 0, none⟩) (fltC op i c)] [.blk t [.int .i64 0] 31] (fun _ : Unit => .bool true) (fun _ => [.blk t [.int .i64 c] 31]) := by
  refine spec_of Tryz.func124 rfl (n := 62) rfl rfl ?_
  intro W
  refine h_seq ?_
  refine h_reg ?_
  refine h_opX (x_box rfl) fun g6 => ?_
  refine h_op (r_assign rfl) ?_
  refine h_nil ?_
  refine q_then ?_
  refine h_block ?_
  refine h_loop (fun (s : Bool) => True) (fun (s : Bool) => [(0, if s then .iface 31 (.int .i64 c) else .iface 162 (.pointer (some ⟨e, 0, none⟩))), (3, rty 31), (6, .pointer (some ⟨g6, 0, none⟩))]) (fun (s : Bool) => [.blk g6 [hdl 167, .pointer (some ⟨b, 0, none⟩), .int .u64 150] 206, .blk t [.int .i64 0] 31, .rd (some ⟨b, 0, none⟩) [.pointer (some ⟨t, 0, none⟩)], .rd (some ⟨e, 0, none⟩) (fltC op i c)]) (fun (s : Bool) => (if s then 0 else 1)) false (trivial) ⟨rfl, rfl, rfl, trivial⟩ (same) ?_
  rintro s _
  cases s
  · refine h_block ?_
    refine h_seq ?_
    refine h_seq ?_
    refine h_reg ?_
    refine h_op (r_move rfl) ?_
    refine h_op (r_fun (rf_typeOf3 _) rfl) ?_
    refine h_op (r_move rfl) ?_
    refine h_op (r_inv rf_asg34 rfl rfl) ?_
    refine h_nil ?_
    refine q_then ?_
    refine h_condF rfl ?_
    refine h_skip ?_
    refine q_then ?_
    refine h_seq ?_
    refine h_seq ?_
    refine h_reg ?_
    refine h_op (r_move rfl) ?_
    refine h_op (r_asLack (t := 162) (z := .nilIface) Tryz.underlying249 (by kernel_rfl) (by kernel_rfl) rfl) ?_
    refine h_op (r_move rfl) ?_
    refine h_op (r_extract rfl rfl) ?_
    refine h_op (r_extract rfl rfl) ?_
    refine h_op (r_assign rfl) ?_
    refine h_op (r_assign rfl) ?_
    refine h_nil ?_
    refine q_then ?_
    refine h_seq ?_
    refine h_reg ?_
    refine h_op (r_move rfl) ?_
    refine h_op (r_move rfl) ?_
    refine h_opOff ?_
    refine h_opOff ?_
    refine h_opOff ?_
    refine h_op (r_pick rfl rfl) ?_
    refine h_nil ?_
    refine q_then ?_
    refine h_condF rfl ?_
    refine h_skip ?_
    refine q_then ?_
    refine h_seq ?_
    refine h_reg ?_
    refine h_op (r_move rfl) ?_
    refine h_nil ?_
    refine q_then ?_
    refine h_block ?_
    refine h_seq ?_
    refine h_reg ?_
    refine h_op (r_asHas (t := 162) Tryz.underlying252 (by kernel_rfl) rfl) ?_
    refine h_op (r_extract rfl rfl) ?_
    refine h_op (r_extract rfl rfl) ?_
    refine h_nil ?_
    refine q_then ?_
    refine h_condT rfl ?_
    refine h_seq ?_
    refine h_reg ?_
    refine h_op (r_assign rfl) ?_
    refine h_nil ?_
    refine q_then ?_
    refine h_seq ?_
    refine h_reg ?_
    refine h_op (r_move rfl) ?_
    refine h_callM ((fUnwrap_s e op i c).comes) rfl rfl rfl fun _ => ?_
    refine h_op (r_assign rfl) ?_
    refine h_nil ?_
    refine q_then ?_
    refine h_seq ?_
    refine h_reg ?_
    refine h_op (r_move rfl) ?_
    refine h_op (r_ifnil rfl) ?_
    refine h_nil ?_
    refine q_then ?_
    refine h_condF rfl ?_
    refine h_skip ?_
    refine q_block ?_
    refine q_block ?_
    exact h_back true (trivial) ((show 0 < 1 by decide)) ⟨rfl, rfl, rfl, trivial⟩ (same)
  · refine h_block ?_
    refine h_seq ?_
    refine h_seq ?_
    refine h_reg ?_
    refine h_op (r_move rfl) ?_
    refine h_op (r_fun (rf_typeOf4 _) rfl) ?_
    refine h_op (r_move rfl) ?_
    refine h_op (r_inv rf_asg44 rfl rfl) ?_
    refine h_nil ?_
    refine q_then ?_
    refine h_condT rfl ?_
    refine h_seq ?_
    refine h_reg ?_
    refine h_op (r_loadr rfl) ?_
    refine h_op (r_funC (u := .pointer (some ⟨t, 0, none⟩)) (fun w hw => rf_elemV2 b t w hw) rfl) ?_
    refine h_op (r_move rfl) ?_
    refine h_opX (x_fun (u := fun b => rval 31 b 130) (cs := [.int .i64 c]) (rf_val4 c) rfl) fun g23 => ?_
    refine h_opX (x_setV (g := t) (u := .int .i64 c) (fun w h1 h2 => rf_set2 t g23 c _ w h1 h2) rfl) fun g24 => ?_
    refine h_nil ?_
    refine q_then ?_
    refine h_seq ?_
    refine h_reg ?_
    refine h_op (r_assign rfl) ?_
    refine h_nil ?_
    refine q_then ?_
    refine h_ret ?_
    refine q_thenR ?_
    refine q_blockR ?_
    refine q_thenR ?_
    refine q_blockR ?_
    exact h_ret1 rfl rfl fun w s => ⟨(), rfl, (same (L' := [.blk t [.int .i64 c] 31]) w s).res (List.Sublist.refl _) (by simp [Fa.wr])⟩
theorem as_s2 (e t : Nat) (op : ByteArray) (i c : Int) : Spec Tryz.prog 80 [.iface 162 (.pointer (some ⟨e, 0, none⟩)), .iface 167 (.pointer (some ⟨t, 0, none⟩))].toArray [ERT, .rd (some ⟨e, 0, none⟩) (fltC op i c)] [.blk t [.int .i64 0] 31] (fun _ : Unit => .bool true) (fun _ => [.blk t [.int .i64 c] 31]) := by
  refine spec_of Tryz.func80 rfl (n := 42) rfl rfl ?_
  intro W
  refine h_seq ?_
  refine h_reg ?_
  refine h_op (r_assign rfl) ?_
  refine h_nil ?_
  refine q_then ?_
  refine h_seq ?_
  refine h_seq ?_
  refine h_reg ?_
  refine h_op (r_move rfl) ?_
  refine h_op (r_ifnil rfl) ?_
  refine h_nil ?_
  refine q_then ?_
  refine h_condF rfl ?_
  refine h_skip ?_
  refine q_then ?_
  refine h_seq ?_
  refine h_seq ?_
  refine h_reg ?_
  refine h_op (r_move rfl) ?_
  refine h_op (r_ifnil rfl) ?_
  refine h_nil ?_
  refine q_then ?_
  refine h_condF rfl ?_
  refine h_skip ?_
  refine q_then ?_
  refine h_seq ?_
  refine h_reg ?_
  refine h_op (r_move rfl) ?_
  refine h_opX (x_fun (u := fun b => rval 167 b 150) (cs := [.pointer (some ⟨t, 0, none⟩)]) (rf_val2 ⟨t, 0, none⟩) rfl) fun g14 => ?_
  refine h_opX (x_alloc) fun g5 => ?_
  refine h_opS (s_storer rfl rfl) ?_
  refine h_nil ?_
  refine q_then ?_
  refine h_seq ?_
  refine h_reg ?_
  refine h_op (r_loadr rfl) ?_
  refine h_op (r_fun (rf_type2 g14) rfl) ?_
  refine h_op (r_assign rfl) ?_
  refine h_nil ?_
  refine q_then ?_
  refine h_seq ?_
  refine h_seq ?_
  refine h_reg ?_
  refine h_op (r_move rfl) ?_
  refine h_op (r_inv rf_kind2 rfl rfl) ?_
  refine h_op (r_bool (r_neq rfl rfl) rfl) ?_
  refine h_op (r_move rfl) ?_
  refine h_op (r_loadr rfl) ?_
  refine h_op (r_funC (u := .pointer (some ⟨t, 0, none⟩)) (fun w hw => rf_nil2 g14 ⟨t, 0, none⟩ w hw) rfl) ?_
  refine h_op (r_pick rfl rfl) ?_
  refine h_nil ?_
  refine q_then ?_
  refine h_condF rfl ?_
  refine h_skip ?_
  refine q_then ?_
  refine h_seq ?_
  refine h_reg ?_
  refine h_op (r_move rfl) ?_
  refine h_op (r_inv rf_elem2 rfl rfl) ?_
  refine h_op (r_assign rfl) ?_
  refine h_nil ?_
  refine q_then ?_
  refine h_seq ?_
  refine h_seq ?_
  refine h_reg ?_
  refine h_op (r_move rfl) ?_
  refine h_op (r_inv rf_kind4 rfl rfl) ?_
  refine h_op (r_bool (r_neq rfl rfl) rfl) ?_
  refine h_op (r_move rfl) ?_
  refine h_op (r_move rfl) ?_
  refine h_op (r_loadc rfl) ?_
  refine h_op (r_inv rf_impl4 rfl rfl) ?_
  refine h_op (r_not rfl) ?_
  refine h_op (r_pick rfl rfl) ?_
  refine h_nil ?_
  refine q_then ?_
  refine h_condF rfl ?_
  refine h_skip ?_
  refine q_then ?_
  refine h_seq ?_
  refine h_reg ?_
  refine h_op (r_move rfl) ?_
  refine h_op (r_move rfl) ?_
  refine h_op (r_loadr rfl) ?_
  refine h_op (r_move rfl) ?_
  refine h_call ((as_in2 e t g14 op i c).comes) rfl rfl rfl fun _ => ?_
  refine h_op (r_assign rfl) ?_
  refine h_nil ?_
  refine q_then ?_
  refine h_ret ?_
  exact h_ret1 rfl rfl fun w s => ⟨(), rfl, (same (L' := [.blk t [.int .i64 c] 31]) w s).res (List.Sublist.refl _) (by simp [Fa.wr])⟩
theorem Code_s (e : Nat) (op : ByteArray) (i c : Int) : Spec Tryz.prog 38 [.iface 162 (.pointer (some ⟨e, 0, none⟩))].toArray [ERT, .rd (some ⟨e, 0, none⟩) (fltC op i c)] [] (fun _ : Unit => .int .i64 c) (fun _ => []) := by
  refine spec_of Tryz.func38 rfl (n := 12) rfl rfl ?_
  intro W
  refine h_seq ?_
  refine h_reg ?_
  refine h_op (r_assign rfl) ?_
  refine h_nil ?_
  refine q_then ?_
  refine h_seq ?_
  refine h_reg ?_
  refine h_opX (x_alloc) fun g3 => ?_
  refine h_nil ?_
  refine q_then ?_
  refine h_seq ?_
  refine h_block ?_
  refine h_seq ?_
  refine h_reg ?_
  refine h_op (r_move rfl) ?_
  refine h_op (r_ifnil rfl) ?_
  refine h_op (r_assign rfl) ?_
  refine h_nil ?_
  refine q_then ?_
  refine h_condF rfl ?_
  refine h_seq ?_
  refine h_reg ?_
  refine h_op (r_move rfl) ?_
  refine h_op (r_mkI rfl) ?_
  refine h_call ((as_s2 e g3 op i c).comes) rfl rfl rfl fun _ => ?_
  refine h_op (r_assign rfl) ?_
  refine h_nil ?_
  refine q_then ?_
  refine h_condT rfl ?_
  refine h_seq ?_
  refine h_reg ?_
  refine h_op (r_loadc rfl) ?_
  refine h_op (r_assign rfl) ?_
  refine h_nil ?_
  refine q_then ?_
  refine h_ret ?_
  refine q_blockR ?_
  refine q_thenR ?_
  exact h_ret1 rfl rfl fun w s => ⟨(), rfl, s.res (List.nil_sublist _) (by simp)⟩
theorem First_s (e : Nat) (op : ByteArray) (i c : Int) : Spec Tryz.prog 37 [.iface 162 (.pointer (some ⟨e, 0, none⟩))].toArray [ERT, .rd (some ⟨e, 0, none⟩) (fltC op i c)] [] (fun _ : Unit => .tuple #[.string op, .int .i64 i, .bool true]) (fun _ => []) := by
  refine spec_of Tryz.func37 rfl (n := 18) rfl rfl ?_
  intro W
  refine h_seq ?_
  refine h_reg ?_
  refine h_op (r_assign rfl) ?_
  refine h_op (r_assign rfl) ?_
  refine h_op (r_assign rfl) ?_
  refine h_nil ?_
  refine q_then ?_
  refine h_seq ?_
  refine h_reg ?_
  refine h_opX (x_alloc) fun g5 => ?_
  refine h_nil ?_
  refine q_then ?_
  refine h_seq ?_
  refine h_seq ?_
  refine h_reg ?_
  refine h_op (r_move rfl) ?_
  refine h_op (r_mkI rfl) ?_
  refine h_call ((as_s1 e g5).comes) rfl rfl rfl fun _ => ?_
  refine h_op (r_not rfl) ?_
  refine h_nil ?_
  refine q_then ?_
  refine h_condF rfl ?_
  refine h_skip ?_
  refine q_then ?_
  refine h_seq ?_
  refine ha_start [.blk g5 [.pointer (some ⟨e, 0, none⟩)] 162, .rd (some ⟨e, 0, none⟩) (fltC op i c)] [] mixed (same) ?_
  refine ha_take 0 rfl (r_loadc rfl) ?_
  refine ha_takeP 1 rfl (r_nilc rfl) ?_
  refine ha_takeP 2 rfl (r_field rfl) ?_
  refine ha_take 3 rfl (r_loadc rfl) ?_
  refine ha_take 4 rfl (r_loadc rfl) ?_
  refine ha_takeP 5 rfl (r_nilc rfl) ?_
  refine ha_takeP 6 rfl (r_field rfl) ?_
  refine ha_take 7 rfl (r_loadc rfl) ?_
  refine ha_takeP 8 rfl (r_assign rfl) ?_
  refine ha_takeP 9 rfl (r_assign rfl) ?_
  refine ha_takeP 10 rfl (r_assign rfl) ?_
  refine ha_done (by kernel_rfl) ?_
  refine q_then ?_
  refine h_ret ?_
  exact h_ret3 rfl rfl rfl rfl fun w s => ⟨(), rfl, s.res (List.nil_sublist _) (by simp)⟩
end Go.Proofs.YtgfkbeipckbkiaaGreatDoor
/- TV -/
namespace Go.Proofs.YtgfkbeipckbkiaaGreatDoor
set_option linter.unusedSimpArgs false
set_option linter.unusedVariables false
open Go.RowKit Go.ChangeShapes Go.WideShapes
section
variable {H : Type} {enc : TypeId × Value → H} {w : World} {base : Nat} {spare : Nat → Bool} {held : Bool} {v : Value} {d : DataW H} {ps : List MemPlace} {r : Reach} {b0 : Nat}
theorem c_bool : Tryz.prog.cellsOf 4 = 1 := by kernel_rfl
theorem c_Claim : Tryz.prog.cellsOf 70 = 3 := by kernel_rfl
theorem claimFields' : ∃ f1 f2 f3 : Field, Tryz.prog.underlying 70 = some (.struct #[f1, f2, f3]) ∧ f1.type = 66 ∧ f2.type = 66 ∧ f3.type = 4 ∧ f1.offset = 0 ∧ f2.offset = 1 ∧ f3.offset = 2 :=
  ⟨_, _, _, Tryz.underlying70, rfl, rfl, rfl, rfl, rfl, rfl⟩
/-- a byte slice inside an argument -/
theorem dec_bytes {fuel : Nat} {cs : List Value} {x : DataW H × List MemPlace} (h : DataW.trod enc Tryz.prog w base spare held fuel 66 cs = some x) : ∃ (s : Sl) (l : List UInt8), cs = [.slice s.A s.n s.c] ∧ SlZ (World.zh w) s l := by
  obtain ⟨l, A, c, e2, hlc, -, hA, hr, -⟩ := open_rows_t (f := fun b : UInt8 => [Value.int .u8 b.toNat]) (fun _ => rfl) Nat.one_pos Tryz.underlying66 c_u8 (fun _ => True) (fun fuel cs x h => by
    obtain ⟨n, rfl, _, hw⟩ := DataW.trod_int Tryz.underlying5 h
    have := bounds_u8 hw
    exact ⟨toByte (.int .u8 n), by rw [toByte_int this.1 this.2], trivial⟩) h
  rw [byteOf_bc] at hr
  refine ⟨⟨A, l.length, c⟩, l, e2, ⟨rfl, hlc, fun h0 => ?_, RdZ.of hr⟩⟩
  have := hA h0
  exact ⟨(show l.length = 0 by omega), this⟩
set_option maxRecDepth 100000 in
theorem openClaim (hval : Value.okWide Tryz.prog w r b0 70 v) (hd : DataW.Trod enc Tryz.prog w base spare held 70 v d ps) :
    ∃ (c : Claim) (kb vb : List UInt8), v = .agg c.cells.toArray ∧ SlZ (World.zh w) c.key kb ∧ SlZ (World.zh w) c.value vb := by
  obtain ⟨f1, f2, f3, hT, t1, t2, t3, o1, o2, o3⟩ := claimFields'
  obtain ⟨cs, rfl, -⟩ := okWide_struct hT hval
  obtain ⟨fuel, hf⟩ := hd
  obtain ⟨cs⟩ := cs
  have hf' : DataW.trod enc Tryz.prog w base spare held fuel 70 cs = some (d, ps) := by simpa [Value.cells] using hf
  obtain ⟨xs, n, -, -, hl, hxl, hx⟩ := DataW.trod_struct hT hf'
  rw [c_Claim] at hl
  have hxl' : xs.length = 3 := hxl
  have k1 := hx 0 f1 rfl
  have k2 := hx 1 f2 rfl
  have k3 := hx 2 f3 rfl
  rw [List.getElem?_eq_getElem (by omega)] at k1 k2 k3
  rw [o1, t1, c_bytes, List.drop_zero] at k1
  rw [o2, t2, c_bytes] at k2
  rw [o3, t3, c_bool] at k3
  obtain ⟨s1, l1, e1, z1⟩ := dec_bytes k1
  obtain ⟨s2, l2, e2, z2⟩ := dec_bytes k2
  obtain ⟨b, e3, -⟩ := DataW.trod_bool Tryz.underlying4 k3
  refine ⟨⟨s1, s2, b⟩, l1, l2, ?_, z1, z2⟩
  have r1 : cs = cs.take 1 ++ ((cs.drop 1).take 1 ++ (cs.drop 2).take 1) := by
    rw [List.take_of_length_le (l := cs.drop 2) (by simp; omega)]
    rw [show cs.drop 2 = (cs.drop 1).drop 1 by rw [List.drop_drop], List.take_append_drop, List.take_append_drop]
  rw [r1, e1, e2, e3]
  rfl
end
/-! the two laid variables -/
abbrev laidR2 : List (String × DataW Unit) := [("errors.errorType", Rows.laid_errors_errorType), ("sparsetree/sha.rounds", Rows.laid_sparsetree_sha_rounds)]
theorem gET : Tryz.prog.globalNamed "errors.errorType" = some 0 := by kernel_rfl
theorem rtET : (Tryz.prog.cutTypes.find? (·.1 == "internal/reflectlite.rtype")).map (·.2) = some 244 := by kernel_rfl
theorem oneError : ((List.range Tryz.prog.types.size).filter fun t => Tryz.prog.rowNamed t [101, 114, 114, 111, 114]) = [76] := by kernel_rfl
theorem laid_both {W : World} (h : laidMetH Tryz.prog laidR2 W) : laidMetH Tryz.prog laidR W ∧ handlesMet Tryz.prog [("errors.errorType", Rows.laid_errors_errorType)] W := by
  have h' : laidMet Tryz.prog laidR W ∧ handlesMet Tryz.prog [("errors.errorType", Rows.laid_errors_errorType)] W := h
  refine ⟨?_, h'.2⟩
  rw [MakeChecks.laidMetH_plain _ _ _ (by kernel_rfl)]
  exact h'.1
theorem error_of {W : World} (h : laidMetH Tryz.prog laidR2 W) : Rd W (some ⟨0, 0, none⟩) [rty 76] := by
  obtain ⟨name, u, ty, e1, e2, e3, e4, e5⟩ := (laid_both h).2 _ (List.mem_singleton.2 rfl)
  have en : name = [101, 114, 114, 111, 114] := (Option.some.inj e1).symm
  subst en
  obtain rfl := Option.some.inj (rtET.symm.trans e2)
  have hm : ty ∈ (List.range Tryz.prog.types.size).filter fun t => Tryz.prog.rowNamed t [101, 114, 114, 111, 114] := List.mem_filter.2 ⟨List.mem_range.2 e3, e4⟩
  rw [oneError] at hm
  obtain rfl := List.mem_singleton.1 hm
  have hh : typeHandle Tryz.prog 76 = hdl 76 := by kernel_rfl
  rw [hh] at e5
  have hc := World.var?_cell gET e5 0
  intro j u hu
  refine ⟨0, 0, rfl, ?_⟩
  match j, hu with
  | 0, hu =>
    rw [← hu]
    simpa using hc
  | j + 1, hu => exact absurd hu (by simp)
theorem door_met2 (os : Os) (args : Array Value) : laidMetH Tryz.prog laidR2 ((World.doorLaid Tryz.prog 21 os).forCall (fun _ _ => 0) ⟨#[], args, []⟩).memory :=
  laidMetH_of_parts3 (fuel := 8) (laidMet_of_run' 8 (by kernel_rfl) (by kernel_rfl)) (by kernel_rfl) (by kernel_rfl)
end Go.Proofs.YtgfkbeipckbkiaaGreatDoor
/- U26p -/
namespace Go.Proofs.YtgfkbeipckbkiaaGreatDoor
set_option linter.unusedSimpArgs false
set_option linter.unusedVariables false
open Go.RowKit
theorem checkP_ok {p : Proof} (h0 : okJ p 0 = true) (h1 : okJ p 1 = true) (h2 : okJ p 2 = true) (h3 : okJ p 3 = true) (h4 : okJ p 4 = true) : checkP p = 0 := by
  unfold checkP
  rw [h0, if_neg (by simp), h1, if_neg (by simp), h2, if_neg (by simp), h3, if_neg (by simp), h4, if_neg (by simp)]
theorem lastI_pos {b : B32} (h : 0 < (depths b).length) : lastI b 256 = (((depths b).getD ((depths b).length - 1) 0 : Nat) : Int) := by
  rw [lastI_depths, List.getLast?_eq_getElem?, List.getD]
  cases hx : (depths b)[(depths b).length - 1]? with
  | none => rw [List.getElem?_eq_none_iff] at hx; omega
  | some i => rfl
theorem lastI_nil {b : B32} (h : (depths b).length = 0) : lastI b 256 = -1 := by
  rw [lastI_depths, List.eq_nil_of_length_eq_zero h]
  rfl
end Go.Proofs.YtgfkbeipckbkiaaGreatDoor
/- U23 -/
namespace Go.Proofs.YtgfkbeipckbkiaaGreatDoor
set_option linter.unusedSimpArgs false
set_option linter.unusedVariables false
open Go.RowKit
end Go.Proofs.YtgfkbeipckbkiaaGreatDoor
/- U26 -/
namespace Go.Proofs.YtgfkbeipckbkiaaGreatDoor
set_option linter.unusedSimpArgs false
set_option linter.unusedVariables false
open Go.RowKit
end Go.Proofs.YtgfkbeipckbkiaaGreatDoor
/- U97 -/
namespace Go.Proofs.YtgfkbeipckbkiaaGreatDoor
set_option linter.unusedSimpArgs false
set_option linter.unusedVariables false
open Go.RowKit
end Go.Proofs.YtgfkbeipckbkiaaGreatDoor
