/- An argument that is a root with a proof, opened; The reference's proof of a map: List, Bytes, End, Sibling; The reference's proof of a map; The laws' trees: inputs that they leave out; a key's way; law15: ProofIsTrue is true; The zero proof is well-formed; law16.alive: it is true; law16: FoldLeads is true; A proof's bytes, decoded; a claim against a map's proof: plain; law18: VerifyCompletes is true (joined texts: TR U49 U50 U51t U52 U26z U27 U55 E25 U103) -/
import Derived.Test.YtgfkbeipckbkiaaGreatDoorW17
set_option linter.all false
/- TR -/
namespace Go.Proofs.YtgfkbeipckbkiaaGreatDoor
set_option linter.unusedSimpArgs false
set_option linter.unusedVariables false
open Go.RowKit Go.ChangeShapes Go.WideShapes
section
variable {H : Type} {enc : TypeId × Value → H} {w : World} {base : Nat} {spare : Nat → Bool} {held : Bool} {v : Value} {d : DataW H} {ps : List MemPlace} {r : Reach} {b0 : Nat}
theorem c_RootProof : Tryz.prog.cellsOf 89 = 131 := by kernel_rfl
theorem rootProofFields : ∃ f1 f2 : Field, Tryz.prog.underlying 89 = some (.struct #[f1, f2]) ∧ f1.type = 41 ∧ f2.type = 87 ∧ f1.offset = 0 ∧ f2.offset = 32 :=
  ⟨_, _, Tryz.underlying89, rfl, rfl, rfl, rfl⟩
set_option maxRecDepth 100000 in
theorem dec_Proof {fuel : Nat} {cs : List Value} {x : DataW H × List MemPlace} (h : DataW.trod enc Tryz.prog w base spare held fuel 87 cs = some x) : ∃ (p : Proof) (q : List B32), cs = p.cells ∧ p.sibs.n = q.length ∧ Rd w p.sibs.A (dgs q) := by
  obtain ⟨f1, f2, f3, f4, f5, hT, t1, t2, t3, t4, t5, o1, o2, o3, o4, o5⟩ := proofFields'
  obtain ⟨g1, g2, hL, -, -, s1, s2, p1, p2⟩ := leafFields'
  obtain ⟨xs, n, -, -, hl, hxl, hx⟩ := DataW.trod_struct hT h
  rw [c_Proof] at hl
  have hxl' : xs.length = 5 := hxl
  have k1 := hx 0 f1 rfl
  have k2 := hx 1 f2 rfl
  have k3 := hx 2 f3 rfl
  have k4 := hx 3 f4 rfl
  have k5 := hx 4 f5 rfl
  rw [List.getElem?_eq_getElem (by omega)] at k1 k2 k3 k4 k5
  rw [o1, t1, c_int, List.drop_zero] at k1
  rw [o2, t2, c_int] at k2
  rw [o3, t3, c_Leaf] at k3
  rw [o4, t4, c_u8x32] at k4
  rw [o5, t5, c_Digests] at k5
  obtain ⟨m1, e1, -, -⟩ := DataW.trod_int Tryz.underlying3 k1
  obtain ⟨m2, e2, -, -⟩ := DataW.trod_int Tryz.underlying3 k2
  obtain ⟨y3, e3⟩ := dec_Leaf hL c_Leaf p1 p2 (by rw [s1]; exact Tryz.underlying39) (by rw [s2]; exact Tryz.underlying41) (by rw [s1]; exact c_Key) (by rw [s2]; exact c_Digest) Tryz.underlying5 c_u8 k3
  obtain ⟨y4, e4⟩ := dec_B32 Tryz.underlying38 c_u8x32 Tryz.underlying5 c_u8 k4
  have : Inhabited B32 := ⟨zB32⟩
  obtain ⟨q, A, c, e5, -, -, -, hr, -⟩ := open_rows_t B32.cells_length (by omega) Tryz.underlying85 c_Digest (fun _ => True) (fun fuel cs x h => (dec_B32 Tryz.underlying41 c_Digest Tryz.underlying5 c_u8 h).imp fun _ h => ⟨h, trivial⟩) k5
  refine ⟨⟨m1, m2, y3, y4, ⟨A, q.length, c⟩⟩, q, ?_, rfl, hr⟩
  have r1 : cs = cs.take 1 ++ ((cs.drop 1).take 1 ++ ((cs.drop 2).take 64 ++ ((cs.drop 66).take 32 ++ (cs.drop 98).take 1))) := by
    rw [List.take_of_length_le (l := cs.drop 98) (by simp; omega)]
    rw [show cs.drop 98 = (cs.drop 66).drop 32 by rw [List.drop_drop], List.take_append_drop]
    rw [show cs.drop 66 = (cs.drop 2).drop 64 by rw [List.drop_drop], List.take_append_drop]
    rw [show cs.drop 2 = (cs.drop 1).drop 1 by rw [List.drop_drop], List.take_append_drop, List.take_append_drop]
  rw [r1, e1, e2, e3, e4, e5]
  rfl
set_option maxRecDepth 100000 in
theorem openRootProof (hval : Value.okWide Tryz.prog w r b0 89 v) (hd : DataW.Trod enc Tryz.prog w base spare held 89 v d ps) :
    ∃ (y : B32) (p : Proof) (q : List B32), v = .agg (RtP.cells ⟨y, p⟩).toArray ∧ p.sibs.n = q.length ∧ Rd w p.sibs.A (dgs q) := by
  obtain ⟨f1, f2, hT, t1, t2, o1, o2⟩ := rootProofFields
  obtain ⟨cs, rfl, -⟩ := okWide_struct hT hval
  obtain ⟨fuel, hf⟩ := hd
  obtain ⟨cs⟩ := cs
  have hf' : DataW.trod enc Tryz.prog w base spare held fuel 89 cs = some (d, ps) := by simpa [Value.cells] using hf
  obtain ⟨xs, n, -, -, hl, hxl, hx⟩ := DataW.trod_struct hT hf'
  rw [c_RootProof] at hl
  have hxl' : xs.length = 2 := hxl
  have k1 := hx 0 f1 rfl
  have k2 := hx 1 f2 rfl
  rw [List.getElem?_eq_getElem (by omega)] at k1 k2
  rw [o1, t1, c_Digest, List.drop_zero] at k1
  rw [o2, t2, c_Proof] at k2
  obtain ⟨y, e1⟩ := dec_B32 Tryz.underlying41 c_Digest Tryz.underlying5 c_u8 k1
  obtain ⟨p, q, e2, hn, hr⟩ := dec_Proof k2
  refine ⟨y, p, q, ?_, hn, hr⟩
  have r1 : cs = cs.take 32 ++ ((cs.drop 32).take 99 ++ []) := by
    rw [List.take_of_length_le (l := cs.drop 32) (by simp; omega), List.append_nil, List.take_append_drop]
  rw [r1, e1, e2]
  rfl
end
end Go.Proofs.YtgfkbeipckbkiaaGreatDoor
/- U49 -/
namespace Go.Proofs.YtgfkbeipckbkiaaGreatDoor
set_option linter.unusedSimpArgs false
set_option linter.unusedVariables false
open Go.RowKit
/-! sets of depths -/
/-! the way of a key -/
end Go.Proofs.YtgfkbeipckbkiaaGreatDoor
/- U50 -/
namespace Go.Proofs.YtgfkbeipckbkiaaGreatDoor
set_option linter.unusedSimpArgs false
set_option linter.unusedVariables false
open Go.RowKit
/-- the loop over the depths -/
theorem leafT_one (n : Nat) (e : En) {d : Nat} (h : d ≤ 256) : leafT n (mkT [e] d) = leafOf n e.key e.val := by rw [mkT_one e h]; rfl
theorem leafT_nil (n d : Nat) : leafT n (mkT [] d) = zLeaf := by rw [mkT_nil]; rfl
theorem kind_one (e : En) {d : Nat} (h : d ≤ 256) : (mkT [e] d).kind = 1 := by rw [mkT_one e h]; rfl
theorem kind_nil (d : Nat) : (mkT [] d).kind = 0 := by rw [mkT_nil]; rfl
end Go.Proofs.YtgfkbeipckbkiaaGreatDoor
/- U51t -/
namespace Go.Proofs.YtgfkbeipckbkiaaGreatDoor
set_option linter.unusedSimpArgs false
set_option linter.unusedVariables false
open Go.RowKit
instance : TBool Tryz.prog 4 := ⟨Tryz.underlying4⟩
theorem New_no (i : Int) (h : ¬ (0 ≤ i ∧ i ≤ 256)) : Spec Tryz.prog 53 [.int .i64 i].toArray [] [] (fun _ : Unit => .tuple #[.pointer none, .int .i64 4]) (fun _ => []) := by
  refine spec_of Tryz.func53 rfl (n := 15) rfl rfl ?_
  intro W
  by_cases h0 : i < 0
  · refine h_seq ?_
    refine h_reg ?_
    refine h_op (r_assign rfl) ?_
    refine h_op (r_assign rfl) ?_
    refine h_nil ?_
    refine q_then ?_
    refine h_seq ?_
    refine h_seq ?_
    refine h_reg ?_
    refine h_op (r_move rfl) ?_
    refine h_op (r_bool (r_lss rfl rfl) (decide_eq_true h0)) ?_
    refine h_op (r_move rfl) ?_
    refine h_opOff ?_
    refine h_opOff ?_
    refine h_op (r_pick rfl rfl) ?_
    refine h_nil ?_
    refine q_then ?_
    refine h_condT rfl ?_
    refine h_seq ?_
    refine h_reg ?_
    refine h_op (r_assign rfl) ?_
    refine h_op (r_assign rfl) ?_
    refine h_nil ?_
    refine q_then ?_
    refine h_ret ?_
    refine q_thenR ?_
    exact h_ret2 rfl rfl rfl fun w s => ⟨(), rfl, s.res (List.nil_sublist _) (by simp)⟩
  · refine h_seq ?_
    refine h_reg ?_
    refine h_op (r_assign rfl) ?_
    refine h_op (r_assign rfl) ?_
    refine h_nil ?_
    refine q_then ?_
    refine h_seq ?_
    refine h_seq ?_
    refine h_reg ?_
    refine h_op (r_move rfl) ?_
    refine h_op (r_bool (r_lss rfl rfl) (decide_eq_false h0)) ?_
    refine h_op (r_move rfl) ?_
    refine h_op (r_move rfl) ?_
    refine h_op (r_bool (r_gtr rfl rfl) (decide_eq_true (by omega))) ?_
    refine h_op (r_pick rfl rfl) ?_
    refine h_nil ?_
    refine q_then ?_
    refine h_condT rfl ?_
    refine h_seq ?_
    refine h_reg ?_
    refine h_op (r_assign rfl) ?_
    refine h_op (r_assign rfl) ?_
    refine h_nil ?_
    refine q_then ?_
    refine h_ret ?_
    refine q_thenR ?_
    exact h_ret2 rfl rfl rfl fun w s => ⟨(), rfl, s.res (List.nil_sublist _) (by simp)⟩
theorem Hash_no (i : Int) (h : ¬ (0 ≤ i ∧ i ≤ 256)) : Spec Tryz.prog 13 [.int .i64 i].toArray [] [] (fun _ : Unit => .pointer none) (fun _ => []) := by
  refine spec_of Tryz.func13 rfl (n := 13) rfl rfl ?_
  intro W
  refine h_seq ?_
  refine h_reg ?_
  refine h_op (r_assign rfl) ?_
  refine h_nil ?_
  refine q_then ?_
  refine h_seq ?_
  refine h_reg ?_
  refine h_op (r_move rfl) ?_
  refine h_call ((New_no i h).comes) rfl rfl rfl fun _ => ?_
  refine h_op (r_move rfl) ?_
  refine h_op (r_extract rfl rfl) ?_
  refine h_op (r_extract rfl rfl) ?_
  refine h_op (r_assign rfl) ?_
  refine h_op (r_assign rfl) ?_
  refine h_nil ?_
  refine q_then ?_
  refine h_seq ?_
  refine h_seq ?_
  refine h_reg ?_
  refine h_op (r_move rfl) ?_
  refine h_op (r_neq rfl rfl) ?_
  refine h_nil ?_
  refine q_then ?_
  refine h_yes rfl ((by decide)) ?_
  refine h_seq ?_
  refine h_reg ?_
  refine h_op (r_assign rfl) ?_
  refine h_nil ?_
  refine q_then ?_
  refine h_ret ?_
  refine q_thenR ?_
  exact h_ret1 rfl rfl fun w s => ⟨(), rfl, s.res (List.nil_sublist _) (by simp)⟩
theorem Few_long (l : List En) (B : Option Addr) (c : Nat) (hl : 12 < l.length) : Spec Tryz.prog 50 [.slice B l.length c].toArray [.rd B (ents l)] [] (fun _ : Unit => .bool (fewM l)) (fun _ => []) := by
  unfold fewM
  rw [decide_eq_false (by omega), Bool.false_and]
  refine spec_of Tryz.func50 rfl (n := 20) rfl rfl ?_
  intro W
  refine h_seq ?_
  refine h_reg ?_
  refine h_op (r_assign rfl) ?_
  refine h_nil ?_
  refine q_then ?_
  refine h_seq ?_
  refine h_seq ?_
  refine h_reg ?_
  refine h_op (r_move rfl) ?_
  refine h_op (r_len rfl) ?_
  refine h_op (r_gtr rfl rfl) ?_
  refine h_nil ?_
  refine q_then ?_
  refine h_yes rfl ((by omega)) ?_
  refine h_seq ?_
  refine h_reg ?_
  refine h_op (r_assign rfl) ?_
  refine h_nil ?_
  refine q_then ?_
  refine h_ret ?_
  refine q_thenR ?_
  exact h_ret1 rfl rfl fun w s => ⟨(), rfl, s.res (List.nil_sublist _) (by simp)⟩
theorem Few_any (l : List En) (B : Option Addr) (c : Nat) : Spec Tryz.prog 50 [.slice B l.length c].toArray [.rd B (ents l)] [] (fun _ : Unit => .bool (fewM l)) (fun _ => []) := by
  by_cases hl : 12 < l.length
  · exact Few_long l B c hl
  · exact Few_s l B c (by omega)
theorem Tree_bits (i : Int) (hi : ¬ (0 ≤ i ∧ i ≤ 256)) (l : List En) (B : Option Addr) (c : Nat) : Spec Tryz.prog 12 [.int .i64 i, .slice B l.length c].toArray [] [] (fun _ : Unit => .tuple #[.slice none 0 0, .pointer none, .bool false]) (fun _ => []) := by
  refine spec_of Tryz.func12 rfl (n := 27) rfl rfl ?_
  intro W
  refine h_seq ?_
  refine h_reg ?_
  refine h_op (r_assign rfl) ?_
  refine h_op (r_assign rfl) ?_
  refine h_op (r_assign rfl) ?_
  refine h_nil ?_
  refine q_then ?_
  refine h_seq ?_
  refine h_seq ?_
  refine h_reg ?_
  refine h_op (r_move rfl) ?_
  refine h_call ((Right_no i hi).comes) rfl rfl rfl fun _ => ?_
  refine h_op (r_not rfl) ?_
  refine h_op (r_move rfl) ?_
  refine h_opOff ?_
  refine h_opOff ?_
  refine h_opOff ?_
  refine h_op (r_pick rfl rfl) ?_
  refine h_nil ?_
  refine q_then ?_
  refine h_condT rfl ?_
  refine h_seq ?_
  refine h_reg ?_
  refine h_op (r_assign rfl) ?_
  refine h_op (r_assign rfl) ?_
  refine h_op (r_assign rfl) ?_
  refine h_nil ?_
  refine q_then ?_
  refine h_ret ?_
  refine q_thenR ?_
  exact h_ret3 rfl rfl rfl rfl fun w s => ⟨(), rfl, s.res (List.nil_sublist _) (by simp)⟩
theorem Tree_few (n : Nat) (hn : n ≤ 256) (l : List En) (B : Option Addr) (c : Nat) (hf : fewM l = false) : Spec Tryz.prog 12 [.int .i64 (n : Int), .slice B l.length c].toArray [.rd B (ents l)] [] (fun _ : Unit => .tuple #[.slice none 0 0, .pointer none, .bool false]) (fun _ => []) := by
  refine spec_of Tryz.func12 rfl (n := 27) rfl rfl ?_
  intro W
  refine h_seq ?_
  refine h_reg ?_
  refine h_op (r_assign rfl) ?_
  refine h_op (r_assign rfl) ?_
  refine h_op (r_assign rfl) ?_
  refine h_nil ?_
  refine q_then ?_
  refine h_seq ?_
  refine h_seq ?_
  refine h_reg ?_
  refine h_op (r_move rfl) ?_
  refine h_call ((Right_yes n hn).comes) rfl rfl rfl fun _ => ?_
  refine h_op (r_not rfl) ?_
  refine h_op (r_move rfl) ?_
  refine h_op (r_move rfl) ?_
  refine h_call ((Few_any l B c).comes) rfl rfl rfl fun _ => ?_
  rw [hf]
  refine h_op (r_not rfl) ?_
  refine h_op (r_pick rfl rfl) ?_
  refine h_nil ?_
  refine q_then ?_
  refine h_condT rfl ?_
  refine h_seq ?_
  refine h_reg ?_
  refine h_op (r_assign rfl) ?_
  refine h_op (r_assign rfl) ?_
  refine h_op (r_assign rfl) ?_
  refine h_nil ?_
  refine q_then ?_
  refine h_ret ?_
  refine q_thenR ?_
  exact h_ret3 rfl rfl rfl rfl fun w s => ⟨(), rfl, s.res (List.nil_sublist _) (by simp)⟩
/-- entries whose values lie in memory -/
def SlsZ (h : Zh) (l : List En) : Prop := ∀ e ∈ l, SlZ h e.e.value e.val
theorem SlsZ.few {h : Zh} {l : List En} (x : SlsZ h l) (hf : fewM l = true) : ValsZ h l := fun e he => by
  unfold fewM at hf
  rw [Bool.and_eq_true, List.all_eq_true] at hf
  have h1 := of_decide_eq_true (hf.2 e he)
  have h2 := (x e he).len
  exact ⟨x e he, by omega⟩
theorem ValsZ.few {h h' : Zh} {l : List En} (x : ValsZ h l) (hl : LeZ h h') : ValsZ h' (ofM l) := (ValsZ.of x).mono hl
/-- the tree of a map, along a key's way -/
structure WayM (key : B32) (m : List En) (D : Nat) : Prop where
  way : WayTo key (mkT m 0) D
  last : (atM key m D).length ≤ 1
  more : ∀ i, i < D → 1 < (atM key m i).length
  on : ∀ i, i ≤ D → wayK key (mkT m 0) i = mkT (atM key m i) i
theorem wayM {key : B32} {m : List En} (h : Alike m 0) : ∃ D, WayM key m D := by
  obtain ⟨D, a, b, c, d, e⟩ := wayTo_mkT (key := key) h
  exact ⟨D, a, c, d, e⟩
theorem WayM.sib {key : B32} {m : List En} {D : Nat} (w : WayM key m D) : ∀ i, i < D → sibK key (mkT m 0) i = mkT (sibM key m i) (i + 1) := fun i hi => by
  unfold sibK
  have hle := w.way.le
  rw [w.on i (by omega), mkT_two (w.more i hi) (by omega)]
  unfold sibM
  cases bitAt key i <;> rfl
theorem WayM.lastOk {key : B32} {m : List En} {D : Nat} (w : WayM key m D) : LastOk key (mkT m 0) D := by
  intro i hi
  have hle := w.way.le
  rw [w.sib i (by omega), mkT_kind _ (by omega)]
  have h1 := w.more i (by omega)
  have h2 := w.last
  rw [hi] at h2
  change (part (atM key m i) i (bitAt key i)).length ≤ 1 at h2
  have h3 := part_len (atM key m i) i
  show min (part (atM key m i) i (!bitAt key i)).length 2 ≠ 0
  cases hb : bitAt key i <;> rw [hb] at h2 <;> simp only [Bool.not_true, Bool.not_false] <;> omega
end Go.Proofs.YtgfkbeipckbkiaaGreatDoor
/- U52 -/
namespace Go.Proofs.YtgfkbeipckbkiaaGreatDoor
set_option linter.unusedSimpArgs false
set_option linter.unusedVariables false
open Go.RowKit
theorem first_diff (a b : B32) : ∀ n, (∀ j, j < n → (bitAt a j ^^ bitAt b j) = false) ∨ ∃ k, k < n ∧ (∀ j, j < k → (bitAt a j ^^ bitAt b j) = false) ∧ (bitAt a k ^^ bitAt b k) = true
  | 0 => .inl fun j hj => by omega
  | n + 1 => by
    rcases first_diff a b n with h | ⟨k, h1, h2, h3⟩
    · cases hb : bitAt a n ^^ bitAt b n
      · refine .inl fun j hj => ?_
        rcases Nat.lt_or_ge j n with h4 | h4
        · exact h j h4
        · obtain rfl : j = n := by omega
          exact hb
      · exact .inr ⟨n, by omega, h, hb⟩
    · exact .inr ⟨k, by omega, h2, h3⟩
theorem common_ge {a b : B32} {D : Nat} (hD : D ≤ 256) (h : ∀ i, i < D → bitAt a i = bitAt b i) : D ≤ common a b := by
  rcases first_diff a b 256 with h1 | ⟨k, h1, h2, h3⟩
  · rw [common_of (Nat.le_refl _) h1 (.inl rfl)]; exact hD
  · rw [common_of (by omega) h2 (.inr h3)]
    rcases Nat.lt_or_ge k D with h4 | h4
    · rw [h k h4] at h3; simp at h3
    · exact h4
theorem atM_bits {key : B32} {m : List En} : ∀ {D : Nat} {e : En}, e ∈ atM key m D → e ∈ m ∧ ∀ i, i < D → bitAt e.key i = bitAt key i
  | 0, e, h => ⟨h, fun i hi => by omega⟩
  | D + 1, e, h => by
    obtain ⟨h1, h2⟩ := part_mem.1 h
    obtain ⟨h3, h4⟩ := atM_bits h1
    refine ⟨h3, fun i hi => ?_⟩
    rcases Nat.lt_or_ge i D with h5 | h5
    · exact h4 i h5
    · obtain rfl : i = D := by omega
      exact h2
theorem atM_key {key : B32} {m : List En} {e : En} (h : e ∈ m) (hk : e.key = key) : ∀ D, e ∈ atM key m D
  | 0 => h
  | D + 1 => part_mem.2 ⟨atM_key h hk D, by rw [hk]⟩
/-- what a map holds for a key -/
def getE' (m : List En) (key : B32) : Option En := m.find? fun e => decide (e.key = key)
def getV : Option En → List UInt8
  | some e => e.val
  | none => []
def getS : Option En → Sl
  | some e => e.e.value
  | none => ⟨none, 0, 0⟩
theorem getS_ok {h : Zh} {m : List En} (hv : ValsZ h m) (key : B32) : SlZ h (getS (getE' m key)) (getV (getE' m key)) ∧ (getV (getE' m key)).length ≤ 10000000 := by
  cases hg : getE' m key with
  | none => exact ⟨⟨rfl, Nat.le_refl _, fun _ => ⟨rfl, rfl⟩, RdZ.nil _ _⟩, Nat.zero_le _⟩
  | some e => exact hv e (List.mem_of_find?_eq_some hg)
/-- the end of the way, against what the map holds -/
theorem end_get {key : B32} {m : List En} {D : Nat} (hl : (atM key m D).length ≤ 1) : (atM key m D = [] ∧ getE' m key = none) ∨ ∃ e, atM key m D = [e] ∧ (∀ i, i < D → bitAt e.key i = bitAt key i) ∧ ((e.key = key ∧ getE' m key = some e) ∨ (e.key ≠ key ∧ getE' m key = none)) := by
  have hno : ∀ {e : En}, getE' m key = some e → e ∈ atM key m D ∧ e.key = key := fun {e} he => by
    have h2 := List.find?_some he
    have h3 : e.key = key := by simpa using h2
    exact ⟨atM_key (List.mem_of_find?_eq_some he) h3 D, h3⟩
  cases hg : getE' m key with
  | none =>
    match hq : atM key m D, hl with
    | [], _ => exact .inl ⟨rfl, rfl⟩
    | [e], _ =>
      have hm : e ∈ atM key m D := by rw [hq]; simp
      obtain ⟨h1, h2⟩ := atM_bits hm
      refine .inr ⟨e, rfl, h2, .inr ⟨fun hk => ?_, rfl⟩⟩
      have := List.find?_eq_none.1 hg e h1
      simp [hk] at this
    | _ :: _ :: _, hl => exact absurd hl (by simp)
  | some f =>
    obtain ⟨h1, h2⟩ := hno hg
    match hq : atM key m D, hl with
    | [], _ => rw [hq] at h1; cases h1
    | [e], _ =>
      rw [hq] at h1
      obtain rfl : f = e := by simpa using h1
      exact .inr ⟨f, rfl, fun i _ => by rw [h2], .inl ⟨h2, rfl⟩⟩
    | _ :: _ :: _, hl => exact absurd hl (by simp)
/-- what the proof shows -/
theorem sup_true {key : B32} {m : List En} {D : Nat} (w : WayM key m D) (n : Nat) (A : Option Addr) (c : Nat) : supP (prfK n key (mkT m 0) D A c) key (sumB n (preV (getV (getE' m key)))) true = (getE' m key).isSome ∧ supP (prfK n key (mkT m 0) D A c) key (sumB n (preV (getV (getE' m key)))) false = !(getE' m key).isSome ∧ ∀ other, other ≠ sumB n (preV (getV (getE' m key))) → supP (prfK n key (mkT m 0) D A c) key other true = false := by
  have hon := w.on D (Nat.le_refl _)
  have hD := w.way.le
  unfold prfK supP
  rw [hon]
  rcases end_get w.last with ⟨h1, h2⟩ | ⟨e, h1, hb, ⟨hk, h2⟩ | ⟨hk, h2⟩⟩
  · rw [h1, h2, kind_nil, leafT_nil]
    refine ⟨?_, ?_, fun other _ => ?_⟩
    · rw [if_pos rfl]; exact decide_eq_false fun e => absurd (show ((0 : Nat) : Int) = 1 from e.1) (by decide)
    · rw [if_neg (by simp), if_neg (show ¬ ((0 : Nat) : Int) = 1 by decide)]; exact decide_eq_true rfl
    · rw [if_pos rfl]; exact decide_eq_false fun e => absurd (show ((0 : Nat) : Int) = 1 from e.1) (by decide)
  · rw [h1, h2, kind_one e hD, leafT_one n e hD, hk]
    refine ⟨?_, ?_, fun other ho => ?_⟩
    · rw [if_pos rfl]; exact decide_eq_true ⟨rfl, rfl⟩
    · rw [if_neg (by simp)]; refine (if_pos (show _ = (1 : Int) from rfl)).trans ?_; exact decide_eq_false fun e => e.1 rfl
    · rw [if_pos rfl]; exact decide_eq_false fun e => ho (congrArg Leaf.value e.2).symm
  · rw [h1, h2, kind_one e hD, leafT_one n e hD]
    refine ⟨?_, ?_, fun other _ => ?_⟩
    · rw [if_pos rfl]; exact decide_eq_false fun e' => hk (congrArg Leaf.key e'.2)
    · rw [if_neg (by simp)]; refine (if_pos (show _ = (1 : Int) from rfl)).trans ?_; exact decide_eq_true ⟨hk, Int.ofNat_le.2 (common_ge hD hb)⟩
    · rw [if_pos rfl]; exact decide_eq_false fun e' => hk (congrArg Leaf.key e'.2)
theorem find_take {m : List En} {key : B32} {k : Nat} {e : En} (he : m[k]? = some e) (hk : e.key = key) (ha : ∀ f ∈ m.take k, f.key ≠ key) : getE' m key = some e := by
  have e1 : m = m.take k ++ e :: m.drop (k + 1) := by
    have h1 := List.take_append_drop k m
    have hl := (List.getElem?_eq_some_iff.1 he)
    obtain ⟨hl, hx⟩ := hl
    rw [List.drop_eq_getElem_cons hl, hx] at h1
    exact h1.symm
  unfold getE'
  rw [e1, List.find?_append]
  have h2 : (m.take k).find? (fun f => decide (f.key = key)) = none := List.find?_eq_none.2 fun f hf => by simpa using ha f hf
  rw [h2, List.find?_cons_of_pos (by simpa using hk)]
  rfl
theorem Get_s (m : List En) (B : Option Addr) (c : Nat) (key : B32) (hm : m.length ≤ 100000000) : Spec Tryz.prog 46 [.slice B m.length c, .agg key.cells.toArray].toArray [.rd B (ents m)] [] (fun _ : Unit => .tuple #[.slice (getS (getE' m key)).A (getS (getE' m key)).n (getS (getE' m key)).c, .bool (getE' m key).isSome]) (fun _ => []) := by
  refine spec_of Tryz.func46 rfl (n := 25) rfl rfl ?_
  intro W
  refine h_seq ?_
  refine h_reg ?_
  refine h_opX (x_box rfl) fun g3 => ?_
  refine h_op (r_assign rfl) ?_
  refine h_op (r_assign rfl) ?_
  refine h_nil ?_
  refine q_then ?_
  refine h_seq ?_
  refine h_seq ?_
  refine h_reg ?_
  refine h_op (r_assign rfl) ?_
  refine h_nil ?_
  refine q_then ?_
  refine h_block ?_
  refine h_loop (fun (k : Nat) => k ≤ m.length ∧ ∀ f ∈ m.take k, f.key ≠ key) (fun (k : Nat) => [(6, .int .i64 (k : Int)), (0, .slice B m.length c), (3, .pointer (some ⟨g3, 0, none⟩))]) (fun (k : Nat) => [.blk g3 key.cells 39, .rd B (ents m)]) (fun (k : Nat) => m.length - k) 0 (⟨Nat.zero_le _, fun f hf => by simp at hf⟩) ⟨rfl, rfl, rfl, trivial⟩ (same) ?_
  rintro k ⟨hk, ha⟩
  refine h_seq ?_
  refine h_seq ?_
  refine h_reg ?_
  refine h_op (r_move rfl) ?_
  refine h_op (r_move rfl) ?_
  refine h_op (r_len rfl) ?_
  refine h_op (r_lss rfl rfl) ?_
  refine h_nil ?_
  refine q_then ?_
  refine h_cond rfl (fun h => ?_) (fun h => ?_)
  · obtain ⟨e, he⟩ := getE (l := m) (k := k) (by omega)
    refine h_pure (φ := ∃ b o, B = some ⟨b, o, none⟩) (fun w s => Rd.some (s.ok (.rd B (ents m)) (by simp)) (by rw [ents_len]; omega)) ?_
    rintro ⟨bb, o, rfl⟩
    refine h_skip ?_
    refine q_then ?_
    refine h_seq ?_
    refine h_block ?_
    refine h_seq ?_
    refine ha_start [.blk g3 key.cells 39, .rd (some ⟨bb, o, none⟩) (ents m)] [] mixed (same) ?_
    refine ha_takeP 0 rfl (r_move rfl) ?_
    refine ha_takeP 1 rfl (r_move rfl) ?_
    refine ha_takeP 2 rfl (r_idx rfl rfl) ?_
    refine ha_takeP 3 rfl (r_field rfl) ?_
    refine ha_take 4 rfl (r_nthr rfl (out := e.key.cells) (B32.cells_length _) (ents_key he)) ?_
    refine ha_take 5 rfl (r_loadr rfl) ?_
    refine ha_takeP 6 rfl (r_eqr rfl rfl) ?_
    refine ha_done (by kernel_rfl) ?_
    refine q_then ?_
    refine h_cond rfl (fun h2 => ?_) (fun h2 => ?_)
    · rw [find_take he (by simpa using h2) ha]
      refine h_seq ?_
      refine h_reg ?_
      refine h_op (r_move rfl) ?_
      refine h_op (r_move rfl) ?_
      refine h_op (r_idx rfl rfl) ?_
      refine h_op (r_field rfl (O' := o + (k * 33 + 32)) (by omega)) ?_
      refine h_op (r_nth rfl (ents_val he)) ?_
      refine h_op (r_assign rfl) ?_
      refine h_op (r_assign rfl) ?_
      refine h_nil ?_
      refine q_then ?_
      refine h_ret ?_
      refine q_blockR ?_
      refine q_thenR ?_
      refine q_thenR ?_
      refine q_blockR ?_
      refine q_thenR ?_
      exact h_ret2 rfl rfl rfl fun w s => ⟨(), rfl, s.res (List.nil_sublist _) (by simp)⟩
    · have ha2 : ∀ f ∈ m.take (k + 1), f.key ≠ key := fun f hf => by
        rw [take_snocE he] at hf
        rcases List.mem_append.1 hf with hf | hf
        · exact ha f hf
        · rw [List.mem_singleton.1 hf]; simpa using h2
      refine h_skip ?_
      refine q_block ?_
      refine q_then ?_
      refine h_reg ?_
      refine h_op (r_move rfl) ?_
      refine h_op (r_add rfl rfl) ?_
      refine h_op (r_assign rfl) ?_
      refine h_nil ?_
      exact h_back (k + 1) (⟨by omega, ha2⟩) (by omega) ⟨rfl, rfl, rfl, trivial⟩ (same)
  · obtain rfl : k = m.length := by omega
    rw [List.take_length] at ha
    have : getE' m key = none := List.find?_eq_none.2 fun f hf => by simpa using ha f hf
    rw [this]
    refine h_exit ?_
    refine q_thenE ?_
    refine q_thenE ?_
    refine q_blockE ?_
    refine q_then ?_
    refine h_seq ?_
    refine h_reg ?_
    refine h_op (r_assign rfl) ?_
    refine h_op (r_assign rfl) ?_
    refine h_nil ?_
    refine q_then ?_
    refine h_ret ?_
    exact h_ret2 rfl rfl rfl fun w s => ⟨(), rfl, s.res (List.nil_sublist _) (by simp)⟩
end Go.Proofs.YtgfkbeipckbkiaaGreatDoor
/- U26z -/
namespace Go.Proofs.YtgfkbeipckbkiaaGreatDoor
set_option linter.unusedSimpArgs false
set_option linter.unusedVariables false
open Go.RowKit
instance (L : List Fa) (A : Option Addr) : Rd1 L (.rd A (dgs [])) := inferInstanceAs (Rd1 L (.rd A []))
end Go.Proofs.YtgfkbeipckbkiaaGreatDoor
/- U27 -/
namespace Go.Proofs.YtgfkbeipckbkiaaGreatDoor
set_option linter.unusedSimpArgs false
set_option linter.unusedVariables false
open Go.RowKit
def k5 : B32 := ⟨5 :: List.replicate 31 0, rfl⟩
end Go.Proofs.YtgfkbeipckbkiaaGreatDoor
/- U55 -/
namespace Go.Proofs.YtgfkbeipckbkiaaGreatDoor
set_option linter.unusedSimpArgs false
set_option linter.unusedVariables false
open Go.RowKit
theorem kind_zero {t : Tr} (h : ¬ t.kind ≠ 0) : t = .nil := by
  cases t with
  | nil => rfl
  | leaf k v => exact (h (by simp [Tr.kind])).elim
  | node l r => exact (h (by simp [Tr.kind])).elim
theorem dep_dsK {key : B32} {t : Tr} {D : Nat} (hD : D ≤ 256) : ∀ i, i ≤ D → dep (dset (dsK key t D)) i = dsK key t i := fun i hi => by
  show (List.range i).filter _ = (List.range i).filter _
  apply List.filter_congr
  intro j hj
  have hj := List.mem_range.1 hj
  rw [dset_bit _ j (by omega)]
  refine decide_eq_decide.2 ⟨fun h => by simpa using (List.mem_filter.1 h).2, fun h => List.mem_filter.2 ⟨List.mem_range.2 (by omega), by simpa using h⟩⟩
theorem dsK_pre (key : B32) (t : Tr) (i : Nat) : ∀ j, ∃ r, dsK key t (i + j) = dsK key t i ++ r
  | 0 => ⟨[], by simp⟩
  | j + 1 => by
    obtain ⟨r, hr⟩ := dsK_pre key t i j
    by_cases h : (sibK key t (i + j)).kind ≠ 0
    · exact ⟨r ++ [i + j], by rw [← Nat.add_assoc, dsK_yes h, hr, List.append_assoc]⟩
    · exact ⟨r, by rw [← Nat.add_assoc, dsK_no h, hr]⟩
theorem expL_prf (n : Nat) {key : B32} {t : Tr} {D : Nat} (hD : D ≤ 256) : expL (sumB n preE) (dset (dsK key t D)) (rsK n key t D) D = (List.range D).map fun i => dgT n (sibK key t i) := by
  rw [expL_eq]
  apply List.map_congr_left
  intro i hi
  have hi := List.mem_range.1 hi
  rw [dset_bit _ i (by omega), dep_dsK hD i (by omega)]
  by_cases h : (sibK key t i).kind ≠ 0
  · have hm : i ∈ dsK key t D := List.mem_filter.2 ⟨List.mem_range.2 hi, by simpa using h⟩
    rw [decide_eq_true hm, if_pos rfl]
    obtain ⟨r, hr⟩ := dsK_pre key t (i + 1) (D - (i + 1))
    rw [show i + 1 + (D - (i + 1)) = D by omega, dsK_yes h] at hr
    unfold rsK
    rw [hr, List.getD_eq_getElem?_getD, List.map_append, List.map_append, List.append_assoc, List.getElem?_append_right (by simp)]
    simp
  · have hm : i ∉ dsK key t D := fun hm => h (by simpa using (List.mem_filter.1 hm).2)
    rw [decide_eq_false hm, if_neg (by simp), kind_zero h]
    rfl
theorem wayP_prf (n : Nat) {key : B32} {t : Tr} {D : Nat} (hw : WayTo key t D) (A : Option Addr) (c : Nat) : ∀ k, k ≤ D → sumB n (wayP n key ((List.range D).map fun i => dgT n (sibK key t i)) (endP (prfK n key t D A c)) k) = dgT n (wayK key t (D - k))
  | 0, _ => by
    have he := hw.end_
    show sumB n (if (((wayK key t D).kind : Nat) : Int) = 1 then preL (leafT n (wayK key t D)) else preE) = dgT n (wayK key t D)
    generalize wayK key t D = x at *
    cases x with
    | nil => rfl
    | leaf k v => rfl
    | node l r => exact (he rfl).elim
  | k + 1, hk => by
    have ih := wayP_prf n hw A c k (by omega)
    have hlen : ((List.range D).map fun i => dgT n (sibK key t i)).length = D := by simp
    have hi : D - 1 - k < D := by omega
    have hget : ((List.range D).map fun i => dgT n (sibK key t i)).getD (D - 1 - k) zB32 = dgT n (sibK key t (D - 1 - k)) := by
      rw [List.getD_eq_getElem?_getD, List.getElem?_map, List.getElem?_range hi]; rfl
    rw [wayP, hlen, hget, ih, show D - (k + 1) = D - 1 - k by omega, show D - k = (D - 1 - k) + 1 by omega]
    have hon := hw.on (D - 1 - k) hi
    unfold sibK
    show sumB n _ = _
    rw [show wayK key t (D - 1 - k + 1) = (wayK key t (D - 1 - k)).sub (bitAt key (D - 1 - k)) from rfl]
    generalize wayK key t (D - 1 - k) = x at *
    cases x with
    | nil => cases hon
    | leaf k v => cases hon
    | node l r => cases bitAt key (D - 1 - k) <;> rfl
end Go.Proofs.YtgfkbeipckbkiaaGreatDoor
/- E25 -/
namespace Go.Proofs.YtgfkbeipckbkiaaGreatDoor
set_option linter.unusedSimpArgs false
set_option linter.unusedVariables false
open Go.RowKit
theorem b32At_of {l pre post : List UInt8} {x : B32} {o : Nat} (h : l = pre ++ (x.1 ++ post)) (hp : pre.length = o) : b32At l o = x := by
  subst hp
  subst h
  apply Subtype.ext
  apply List.ext_getElem?
  intro j
  show ((List.range 32).map fun j => (pre ++ (x.1 ++ post)).getD (pre.length + j) 0)[j]? = _
  have hx := x.2
  by_cases hj : j < 32
  · rw [List.getElem?_map, List.getElem?_range hj]
    simp only [Option.map_some, List.getD_eq_getElem?_getD]
    rw [List.getElem?_append_right (by omega), Nat.add_sub_cancel_left, List.getElem?_append_left (by omega), List.getElem?_eq_getElem (by omega)]
    rfl
  · rw [List.getElem?_eq_none (by simp; omega), List.getElem?_eq_none (by omega)]
theorem sibsAt_of {l pre : List UInt8} {ss : List B32} {base : Nat} (h : l = pre ++ ss.flatMap (·.1)) (hp : pre.length = base) : sibsAt l base ss.length = ss := by
  apply List.ext_getElem?
  intro i
  unfold sibsAt
  by_cases hi : i < ss.length
  · rw [List.getElem?_map, List.getElem?_range hi, List.getElem?_eq_getElem hi]
    refine congrArg some (b32At_of (pre := pre ++ (ss.take i).flatMap (·.1)) (post := (ss.drop (i + 1)).flatMap (·.1)) ?_ ?_)
    · rw [h, List.append_assoc]
      congr 1
      rw [← List.append_assoc, ← List.flatMap_singleton (f := fun b : B32 => b.1) (x := ss[i]), ← List.flatMap_append, ← List.flatMap_append]
      congr 1
      rw [List.append_assoc, List.singleton_append, List.getElem_cons_drop, List.take_append_drop]
    · rw [List.length_append, flat_len, List.length_take, hp, Nat.min_eq_left (by omega)]
  · rw [List.getElem?_eq_none (by simp; omega), List.getElem?_eq_none (by omega)]
theorem u8n_nat {m : Nat} (h : m < 256) : (u8n m).toNat = m := by
  unfold u8n
  rw [UInt8.toNat_ofNat']
  exact Nat.mod_eq_of_lt h
theorem decB_enc (p : DP) (hc : checkP (p.pr none 0) = 0) : decB (encC p.k p.d p.lf p.bm p.ss) = .ok p := by
  have hk := ok_kind hc
  have hd := ok_depth hc
  have hs := ok_sibs hc
  have hle := depths_le (p.pr none 0).bitmap
  have hz : p.k = 1 ∨ p.lf = zLeaf := by
    have := checkP_zero hc 2 (by omega)
    simp only [okJ, Bool.or_eq_true, decide_eq_true_eq] at this
    exact this.imp (fun h => by have h : (p.k : Int) = 1 := h; omega) id
  have hk1 : p.k = 0 ∨ p.k = 1 := by
    have h : (p.k : Int) = 0 ∨ (p.k : Int) = 1 := hk
    omega
  have hd' : p.d ≤ 256 := by
    have h : (p.d : Int) ≤ 256 := hd.2
    omega
  rw [hs] at hle
  have hss : p.ss.length ≤ 256 := hle
  obtain ⟨k, d, lf, bm, ss⟩ := p
  dsimp only at *
  have hlen := encC_len k d lf bm ss
  obtain ⟨l, hl⟩ : ∃ l, encC k d lf bm ss = l := ⟨_, rfl⟩
  rw [hl] at hlen ⊢
  have hK : dK l = k := by
    rw [← hl]
    show (u8n k).toNat = k
    exact u8n_nat (by omega)
  have hbl := bm.2
  have hkl := lf.key.2
  have hvl := lf.value.2
  have hB : dBase l = 36 + 64 * k := by unfold dBase; rw [hK]
  have hll : l.length = 36 + 64 * k + 32 * ss.length := by
    rw [hlen]
    unfold lenC
    rcases hk1 with rfl | rfl <;> simp
  have h2 : l.getD 0 0 = 1 := by rw [← hl]; rfl
  have hE := decB_end (l := l) (by omega) h2 (by omega) (N := ss.length) (by rw [hB]; exact hll) (by omega)
  have hD : dDP l ss.length = ⟨k, d, lf, bm, ss⟩ := by
    unfold dDP
    rw [hB, hK]
    have e1 : (l.getD 2 0).toNat * 256 + (l.getD 3 0).toNat = d := by
      rw [← hl]
      show (u8n (d / 256)).toNat * 256 + (u8n d).toNat = d
      rw [u8n_nat (by omega)]
      unfold u8n
      rw [UInt8.toNat_ofNat']
      omega
    have e2 : b32At l 4 = bm := b32At_of (pre := [1, u8n k, u8n (d / 256), u8n d]) (hl.symm.trans rfl) rfl
    have e3 : dLf l = lf := by
      unfold dLf
      rw [hK]
      rcases hk1 with rfl | rfl
      · rw [if_neg (by omega)]
        rcases hz with h | h
        · omega
        · exact h.symm
      · rw [if_pos rfl]
        have h36 : b32At l 36 = lf.key := b32At_of (pre := [1, u8n 1, u8n (d / 256), u8n d] ++ bm.1) (post := lf.value.1 ++ ss.flatMap (·.1)) (hl.symm.trans (by unfold encC; rw [if_pos rfl]; simp)) (by simp [hbl])
        have h68 : b32At l 68 = lf.value := b32At_of (pre := [1, u8n 1, u8n (d / 256), u8n d] ++ bm.1 ++ lf.key.1) (post := ss.flatMap (·.1)) (hl.symm.trans (by unfold encC; rw [if_pos rfl]; simp)) (by simp [hbl, hkl])
        rw [h36, h68]
    have e4 : sibsAt l (36 + 64 * k) ss.length = ss := by
      refine sibsAt_of (pre := [1, u8n k, u8n (d / 256), u8n d] ++ (bm.1 ++ (if k = 1 then lf.key.1 ++ lf.value.1 else []))) (hl.symm.trans ?_) ?_
      · unfold encC; simp
      · rcases hk1 with rfl | rfl <;> simp [hbl, hkl, hvl]
    rw [e1, e2, e3, e4]
  rw [hD, if_pos hc] at hE
  exact hE
/-- the proof of a map, as what is decoded -/
def dpK (n : Nat) (key : B32) (t : Tr) (D : Nat) : DP := ⟨(wayK key t D).kind, D, leafT n (wayK key t D), dset (dsK key t D), rsK n key t D⟩
theorem dpK_pr (n : Nat) (key : B32) (t : Tr) (D : Nat) (A : Option Addr) (c : Nat) : (dpK n key t D).pr A c = prfK n key t D A c := by
  unfold DP.pr dpK prfK
  dsimp only
  rw [rsK_len]
theorem rootP_prf (n : Nat) {key : B32} {t : Tr} {D : Nat} (hw : WayTo key t D) : rootP n (dpK n key t D) key = dgT n t := by
  have h2 := wayP_prf n hw none 0 D (Nat.le_refl _)
  rw [Nat.sub_self] at h2
  unfold rootP
  rw [dpK_pr]
  rw [show (dpK n key t D).bm = dset (dsK key t D) from rfl, show (dpK n key t D).ss = rsK n key t D from rfl, show (dpK n key t D).d = D from rfl, expL_prf n hw.le]
  exact h2
/-- the bytes of a map's proof -/
def encK (n : Nat) (key : B32) (t : Tr) (D : Nat) : List UInt8 := encC (wayK key t D).kind D (leafT n (wayK key t D)) (dset (dsK key t D)) (rsK n key t D)
theorem decB_prf (n : Nat) {key : B32} {t : Tr} {D : Nat} (hw : WayTo key t D) (hL : LastOk key t D) : decB (encK n key t D) = .ok (dpK n key t D) :=
  decB_enc (dpK n key t D) (by rw [dpK_pr]; exact prf_ok n hw hL none 0)
theorem encK_len (n : Nat) {key : B32} {t : Tr} {D : Nat} (hw : WayTo key t D) : (encK n key t D).length ≤ 100000 := by
  unfold encK
  rw [encC_len]
  unfold lenC
  have h1 := dsK_len key t D
  have h2 := hw.le
  rw [rsK_len]
  split <;> omega
/-- a claim whose form is right, against a map's root and proof -/
theorem first_prf (n : Nat) {t : Tr} {D : Nat} {kb : List UInt8} (hw : WayTo (keyOf kb) t D) (hL : LastOk (keyOf kb) t D) (root : Sl) (hr : root.n = 32) (c : Claim) (hc : claimE c = 0) (rb vb : List UInt8) (hrb : keyOf rb = dgT n t) :
    errE (firstC (vcode n root c rb kb vb (encK n (keyOf kb) t D))) = if supP (prfK n (keyOf kb) t D none 0) (keyOf kb) (valD n c.present vb) c.present then 0 else 12 := by
  have hd := decB_prf n hw hL
  have hk32 : c.key.n = 32 := by
    unfold claimE at hc
    split at hc
    · assumption
    · cases hc
  have hp3 : ¬ (c.present = true ∧ 65535 < c.value.n) := fun hh => by unfold claimE at hc; rw [if_pos hk32, if_pos hh] at hc; cases hc
  have v0 : vcode n root c rb kb vb (encK n (keyOf kb) t D) 0 = 0 := if_pos hr
  have v1 : vcode n root c rb kb vb (encK n (keyOf kb) t D) 1 = 0 := if_pos hk32
  have v2 : vcode n root c rb kb vb (encK n (keyOf kb) t D) 2 = 0 := if_neg hp3
  have v3 : vcode n root c rb kb vb (encK n (keyOf kb) t D) 3 = 0 := by
    show codeD (decB _) = 0
    rw [hd]; rfl
  have v4 : vcode n root c rb kb vb (encK n (keyOf kb) t D) 4 = if supP (prfK n (keyOf kb) t D none 0) (keyOf kb) (valD n c.present vb) c.present then 0 else 12 := by
    unfold vcode; rw [hd, ← dpK_pr]; rfl
  have v5 : vcode n root c rb kb vb (encK n (keyOf kb) t D) 5 = 0 := by
    unfold vcode
    rw [hd]
    show (if decide (rootP n (dpK n (keyOf kb) t D) (keyOf kb) = keyOf rb) then (0 : Int) else 13) = 0
    rw [rootP_prf n hw, hrb, if_pos (by simp)]
  by_cases hs : supP (prfK n (keyOf kb) t D none 0) (keyOf kb) (valD n c.present vb) c.present = true
  · rw [if_pos hs] at v4 ⊢
    rw [firstC_no (fun j hj => by rcases (by omega : j = 0 ∨ j = 1 ∨ j = 2 ∨ j = 3 ∨ j = 4 ∨ j = 5) with rfl | rfl | rfl | rfl | rfl | rfl <;> assumption)]
    rfl
  · rw [if_neg hs] at v4 ⊢
    rw [firstC_at (i := 4) (e := 12) (by decide) (fun j hj => by rcases (by omega : j = 0 ∨ j = 1 ∨ j = 2 ∨ j = 3) with rfl | rfl | rfl | rfl <;> assumption) v4 (by decide)]
    rfl
/-- what a map's proof says of a claim -/
theorem sup_claim {key : B32} {m : List En} {D : Nat} (w : WayM key m D) (n : Nat) (present : Bool) (vb : List UInt8) :
    supP (prfK n key (mkT m 0) D none 0) key (valD n present vb) present = ((present == (getE' m key).isSome) && (!(getE' m key).isSome || decide (sumB n (preV (getV (getE' m key))) = sumB n (preV vb)))) := by
  obtain ⟨h1, h2, h3⟩ := sup_true w n none 0
  cases present with
  | false =>
    have e : supP (prfK n key (mkT m 0) D none 0) key (valD n false vb) false = supP (prfK n key (mkT m 0) D none 0) key (sumB n (preV (getV (getE' m key)))) false := rfl
    rw [e, h2]
    cases (getE' m key).isSome <;> rfl
  | true =>
    show supP _ key (sumB n (preV vb)) true = _
    by_cases hq : sumB n (preV (getV (getE' m key))) = sumB n (preV vb)
    · rw [decide_eq_true hq, ← hq, h1]
      cases (getE' m key).isSome <;> rfl
    · rw [h3 _ (fun h => hq h.symm), decide_eq_false hq]
      cases (getE' m key).isSome <;> rfl
theorem first_map (n : Nat) {key : B32} {m : List En} {D : Nat} {kb : List UInt8} (hk : keyOf kb = key) (w : WayM key m D) (root : Sl) (hr : root.n = 32) (c : Claim) (hc : claimE c = 0) (rb vb : List UInt8) (hrb : keyOf rb = dgT n (mkT m 0)) :
    errE (firstC (vcode n root c rb kb vb (encK n key (mkT m 0) D))) = if ((c.present == (getE' m key).isSome) && (!(getE' m key).isSome || decide (sumB n (preV (getV (getE' m key))) = sumB n (preV vb)))) then 0 else 12 := by
  subst hk
  rw [first_prf n w.way w.lastOk root hr c hc rb vb hrb, sup_claim w]
theorem getS_few {l : List En} (hf : fewM l = true) (key : B32) : (getS (getE' (ofM l) key)).n ≤ 200 := by
  cases hg : getE' (ofM l) key with
  | none => exact Nat.zero_le _
  | some e =>
    have h1 := ofM_mem (List.mem_of_find?_eq_some hg)
    unfold fewM at hf
    rw [Bool.and_eq_true, List.all_eq_true] at hf
    exact of_decide_eq_true (hf.2 e h1)
theorem kind_01 {key : B32} {m : List En} {D : Nat} (w : WayM key m D) : (wayK key (mkT m 0) D).kind = 0 ∨ (wayK key (mkT m 0) D).kind = 1 := by
  have h2 := mkT_kind (atM key m D) w.way.le
  have h3 := w.last
  rw [w.on D (Nat.le_refl _)]
  omega
end Go.Proofs.YtgfkbeipckbkiaaGreatDoor
/- U103 -/
namespace Go.Proofs.YtgfkbeipckbkiaaGreatDoor
set_option linter.unusedSimpArgs false
set_option linter.unusedVariables false
open Go.RowKit
theorem Encode_prf (n : Nat) {key : B32} {m : List En} {D : Nat} (w : WayM key m D) (A : Option Addr) (c : Nat) : Spec Tryz.prog 47 [.agg (prfK n key (mkT m 0) D A c).cells.toArray].toArray [.rd A (dgs (rsK n key (mkT m 0) D))] [] (fun u : Option Addr × Nat => .tuple #[.slice u.1 (encK n key (mkT m 0) D).length u.2, .int .i64 0]) (fun u => [.own (.slice u.1 (encK n key (mkT m 0) D).length u.2) (encK n key (mkT m 0) D).length 5 1 (bc (encK n key (mkT m 0) D))]) :=
  cEncode_s (prfK n key (mkT m 0) D A c) (wayK key (mkT m 0) D).kind D (prf_ok n w.way w.lastOk A c) rfl rfl (kind_01 w) (rsK n key (mkT m 0) D) (rsK_len n key (mkT m 0) D).symm
section
variable (h : Zh) [hT : RdZ h (some ⟨2, 0, none⟩) hashT] [hE : RdZ h (some ⟨0, 0, none⟩) [rty 76]]
theorem VerifyCompletes_s (i : Int) (l : List En) (B : Option Addr) (c : Nat) [hB : RdZ h B (ents l)] (hv : SlsZ h l) (key : B32) : Spec Tryz.prog 10 [.int .i64 i, .slice B l.length c, .agg key.cells.toArray].toArray [] [.zone true h] (fun _ : {x : Zh // LeZ h x} => .bool true) (fun x => [.zone true x.1]) := by
  refine spec_of Tryz.func10 rfl (n := 61) rfl rfl ?_
  intro W
  by_cases hi : 0 ≤ i ∧ i ≤ 256
  · obtain ⟨n, rfl⟩ : ∃ n : Nat, i = (n : Int) := ⟨i.toNat, by omega⟩
    have hn : n ≤ 256 := by omega
    by_cases hf : fewM l = true
    · have hvl := hv.few hf
      have hal : Alike (ofM l) 0 := Alike.start (ofM_nodup l)
      obtain ⟨D, hw⟩ := wayM (key := key) hal
      have hD := hw.way.le
      have hlm : (ofM l).length ≤ 12 := Nat.le_trans (ofM_len l) (by unfold fewM at hf; rw [Bool.and_eq_true, decide_eq_true_eq] at hf; exact hf.1)
      have hgs := fun (h' : Zh) (hv' : ValsZ h' (ofM l)) => getS_ok hv' key
      have hget := fun A c => Get_s (ofM l) A c key (by omega)
      have hgf := getS_few hf key
      have hfm := fun root hr c hc rb vb hrb => first_map n (keyOf_val key) hw root hr c hc rb vb hrb
      have hEnc := fun A c => Encode_prf n hw A c
      have hel := encK_len n hw.way
      generalize getE' (ofM l) key = g at *
      generalize encK n key (mkT (ofM l) 0) D = E at *
      refine h_seq ?_
      refine h_reg ?_
      refine h_opX (x_box rfl) fun g5 => ?_
      refine h_op (r_assign rfl) ?_
      refine h_nil ?_
      refine q_then ?_
      refine h_seq ?_
      refine h_reg ?_
      refine h_op (r_move rfl) ?_
      refine h_op (r_move rfl) ?_
      refine h_call ((Tree_yes n hn l B c hf h hvl).comes) rfl rfl rfl fun ⟨⟨h1, q1, A1, c1⟩, hle1, ht1⟩ => ?_
      dsimp only at hle1 ht1 ⊢
      refine h_freezeO (.slice A1 (ofM l).length c1) fun h2 B2 c2 e2 hle2 hlen2 hnil2 hz2 hr2 => ?_
      injection e2 with e2 _ e3
      subst e2 e3
      have hT2 : RdZ h2 (some ⟨2, 0, none⟩) hashT := (hT.mono hle1).mono hz2
      have hE2 : RdZ h2 (some ⟨0, 0, none⟩) [rty 76] := (hE.mono hle1).mono hz2
      obtain ⟨hgv, hgl⟩ := hgs h2 (ValsZ.few hvl (hle1.trans hz2))
      have hroot := Root_any n hn h2 (show 0 ≤ 256 by omega) hal (by omega) (ValsZ.few hvl (hle1.trans hz2)) A1 c1
      rw [show rootM n (ofM l) 0 = dgT n (mkT (ofM l) 0) from rfl] at hroot
      refine h_op (r_move rfl) ?_
      refine h_op (r_extract rfl rfl) ?_
      refine h_op (r_extract rfl rfl) ?_
      refine h_op (r_extract rfl rfl) ?_
      refine h_op (r_assign rfl) ?_
      refine h_op (r_assign rfl) ?_
      refine h_op (r_assign rfl) ?_
      refine h_nil ?_
      refine q_then ?_
      refine h_seq ?_
      refine h_reg ?_
      refine h_op (r_move rfl) ?_
      refine h_call ((Hash_s n hn).comes) rfl rfl rfl fun ⟨gh, gc⟩ => ?_
      dsimp only
      refine h_op (r_assign rfl) ?_
      refine h_nil ?_
      refine q_then ?_
      refine h_seq ?_
      refine h_seq ?_
      refine h_reg ?_
      refine h_op (r_move rfl) ?_
      refine h_op (r_not rfl) ?_
      refine h_nil ?_
      refine q_then ?_
      refine h_condF rfl ?_
      refine h_skip ?_
      refine q_then ?_
      refine h_seq ?_
      refine h_reg ?_
      refine h_op (r_move rfl) ?_
      refine h_op (r_move rfl) ?_
      refine h_call (hroot.comes) rfl rfl rfl fun _ => ?_
      refine h_opX (x_alloc) fun g11 => ?_
      refine h_opS (s_storer rfl rfl) ?_
      refine h_nil ?_
      refine q_then ?_
      refine h_seq ?_
      refine h_reg ?_
      refine h_op (r_move rfl) ?_
      refine h_op (r_loadr rfl) ?_
      refine h_call ((hget A1 c1).comes) rfl rfl rfl fun _ => ?_
      refine h_op (r_move rfl) ?_
      refine h_op (r_extract rfl rfl) ?_
      refine h_op (r_extract rfl rfl) ?_
      refine h_op (r_assign rfl) ?_
      refine h_op (r_assign rfl) ?_
      refine h_nil ?_
      refine q_then ?_
      refine h_seq ?_
      refine h_reg ?_
      refine h_op (r_move rfl) ?_
      refine h_op (r_move rfl) ?_
      refine h_op (r_loadr rfl) ?_
      refine h_call ((Prove_s n hn gh gc 0 (by decide) h2 (mkT (ofM l) 0) q1 key D hw.way).comes) rfl rfl rfl fun ⟨A41, c41⟩ => ?_
      dsimp only
      refine h_call ((hEnc A41 c41).comes (hr := inferInstanceAs (Rds _ [.rd A41 (dgs (rsK n key (mkT (ofM l) 0) D))]))) rfl rfl rfl fun ⟨A42, c42⟩ => ?_
      dsimp only
      refine h_op (r_move rfl) ?_
      refine h_op (r_extract rfl rfl) ?_
      refine h_op (r_extract rfl rfl) ?_
      refine h_op (r_assign rfl) ?_
      refine h_op (r_assign rfl) ?_
      refine h_nil ?_
      refine q_then ?_
      refine h_seq ?_
      refine h_freezeO (.slice A42 E.length c42) fun z3 B3 c3 e3 hle3 hlen3 hnil3 hz3 hr3 => ?_
      injection e3 with e3 _ e3'
      subst e3 e3'
      refine h_freeze g11 (cs := (dgT n (mkT (ofM l) 0)).cells) (T := 41) fun z4 hz4 hr4 => ?_
      refine h_freeze g5 (cs := key.cells) (T := 39) fun z5 hz5 hr5 => ?_
      have hT5 : RdZ z5 (some ⟨2, 0, none⟩) hashT := ((hT2.mono hz3).mono hz4).mono hz5
      have hE5 : RdZ z5 (some ⟨0, 0, none⟩) [rty 76] := ((hE2.mono hz3).mono hz4).mono hz5
      have sb : SlZ z5 ⟨A42, E.length, c42⟩ E := ⟨rfl, hle3, hnil3, (hr3.mono hz4).mono hz5⟩
      have sr : SlZ z5 ⟨some ⟨g11, 0, none⟩, 32, 32⟩ (dgT n (mkT (ofM l) 0)).1 := sl32 (hr4.mono hz5)
      have sk : SlZ z5 ⟨some ⟨g5, 0, none⟩, 32, 32⟩ key.1 := sl32 hr5
      have sg : SlZ z5 (getS g) (getV g) := ((hgv.mono hz3).mono hz4).mono hz5
      have hres := hfm ⟨some ⟨g11, 0, none⟩, 32, 32⟩ rfl ⟨⟨some ⟨g5, 0, none⟩, 32, 32⟩, getS g, g.isSome⟩ (by unfold claimE; rw [if_pos rfl, if_neg (fun hh => by have h9 : 65535 < (getS g).n := hh.2; omega)]) (dgT n (mkT (ofM l) 0)).1 (getV g) (keyOf_val _)
      rw [if_pos (by cases g <;> simp)] at hres
      have hC := fun (z : Zh) (_ : RdZ z (some ⟨2, 0, none⟩) hashT) (_ : RdZ z (some ⟨0, 0, none⟩) [rty 76]) (h1 : SlZ z ⟨some ⟨g11, 0, none⟩, 32, 32⟩ (dgT n (mkT (ofM l) 0)).1) (h2 : SlZ z ⟨some ⟨g5, 0, none⟩, 32, 32⟩ key.1) (h3 : SlZ z (getS g) (getV g)) (h4 : SlZ z ⟨A42, E.length, c42⟩ E) => vCheck_s n hn z gh gc 0 (by decide) ⟨some ⟨g11, 0, none⟩, 32, 32⟩ ⟨⟨some ⟨g5, 0, none⟩, 32, 32⟩, getS g, g.isSome⟩ ⟨A42, E.length, c42⟩ (dgT n (mkT (ofM l) 0)).1 key.1 (getV g) E (hR := h1) (hK := h2) (hV := h3) (hB := h4) (by omega) (by omega)
      simp only [hres] at hC
      refine ha_start [] [] mixed (same) ?_
      refine ha_one 0 ?_
      refine ho_C 0 rfl ((alive18_s z5).comes) rfl rfl rfl (fun xx => same) fun ⟨z6, hz6⟩ => ?_
      refine ha_takeP 1 rfl (r_move rfl) ?_
      refine ha_takeP 2 rfl (r_move rfl) ?_
      refine ha_takeP 3 rfl (r_bool (r_eql rfl rfl) (show _ = true from rfl)) ?_
      refine ha_takeP 4 rfl (r_pick rfl rfl) ?_
      refine ha_takeP 5 rfl (r_move rfl) ?_
      refine ha_takeP 6 rfl (r_move rfl) ?_
      refine ha_takeP 7 rfl (r_slA rfl) ?_
      refine ha_takeP 8 rfl (r_slA rfl) ?_
      refine ha_takeP 9 rfl (r_move rfl) ?_
      refine ha_takeP 10 rfl (r_move rfl) ?_
      refine ha_takeP 11 rfl (r_build rfl) ?_
      refine ha_takeP 12 rfl (r_move rfl) ?_
      refine ha_one 13 ?_
      refine ho_C 13 rfl ((hC z6 (hT5.mono hz6) (hE5.mono hz6) (sr.mono hz6) (sk.mono hz6) (sg.mono hz6) (sb.mono hz6)).comes) rfl rfl rfl (fun xx => same) fun ⟨⟨z7, k7⟩, hz7, hk7⟩ => ?_
      refine ha_takeP 14 rfl (r_bool (r_eql rfl rfl) (show _ = true from rfl)) ?_
      refine ha_takeP 15 rfl (r_pick rfl rfl) ?_
      refine ha_takeP 16 rfl (r_assign rfl) ?_
      refine ha_done (by kernel_rfl) ?_
      refine q_then ?_
      refine h_ret ?_
      exact h_ret1 rfl rfl fun w s => ⟨⟨z7, ((hle1.trans hz2).trans ((hz3.trans hz4).trans hz5)).trans (LeZ.trans hz6 hz7)⟩, rfl, (same (L' := [.zone true z7]) w s).res (List.Sublist.refl _) (by simp [Fa.wr])⟩
    · refine h_seq ?_
      refine h_reg ?_
      refine h_opX (x_box rfl) fun g5 => ?_
      refine h_op (r_assign rfl) ?_
      refine h_nil ?_
      refine q_then ?_
      refine h_seq ?_
      refine h_reg ?_
      refine h_op (r_move rfl) ?_
      refine h_op (r_move rfl) ?_
      refine h_call ((Tree_few n hn l B c (by simpa using hf)).comes) rfl rfl rfl fun _ => ?_
      refine h_op (r_move rfl) ?_
      refine h_op (r_extract rfl rfl) ?_
      refine h_op (r_extract rfl rfl) ?_
      refine h_op (r_extract rfl rfl) ?_
      refine h_op (r_assign rfl) ?_
      refine h_op (r_assign rfl) ?_
      refine h_op (r_assign rfl) ?_
      refine h_nil ?_
      refine q_then ?_
      refine h_seq ?_
      refine h_reg ?_
      refine h_op (r_move rfl) ?_
      refine h_call ((Hash_s n hn).comes) rfl rfl rfl fun ⟨gh, gc⟩ => ?_
      dsimp only
      refine h_op (r_assign rfl) ?_
      refine h_nil ?_
      refine q_then ?_
      refine h_seq ?_
      refine h_seq ?_
      refine h_reg ?_
      refine h_op (r_move rfl) ?_
      refine h_op (r_not rfl) ?_
      refine h_nil ?_
      refine q_then ?_
      refine h_condT rfl ?_
      refine h_seq ?_
      refine h_reg ?_
      refine h_call ((alive18_s h).comes) rfl rfl rfl fun ⟨h1, hle1⟩ => ?_
      dsimp only
      refine h_op (r_assign rfl) ?_
      refine h_nil ?_
      refine q_then ?_
      refine h_ret ?_
      refine q_thenR ?_
      exact h_ret1 rfl rfl fun w s => ⟨⟨h1, hle1⟩, rfl, (same (L' := [.zone true h1]) w s).res (List.Sublist.refl _) (by simp [Fa.wr])⟩
  · refine h_seq ?_
    refine h_reg ?_
    refine h_opX (x_box rfl) fun g5 => ?_
    refine h_op (r_assign rfl) ?_
    refine h_nil ?_
    refine q_then ?_
    refine h_seq ?_
    refine h_reg ?_
    refine h_op (r_move rfl) ?_
    refine h_op (r_move rfl) ?_
    refine h_call ((Tree_bits i hi l B c).comes) rfl rfl rfl fun _ => ?_
    refine h_op (r_move rfl) ?_
    refine h_op (r_extract rfl rfl) ?_
    refine h_op (r_extract rfl rfl) ?_
    refine h_op (r_extract rfl rfl) ?_
    refine h_op (r_assign rfl) ?_
    refine h_op (r_assign rfl) ?_
    refine h_op (r_assign rfl) ?_
    refine h_nil ?_
    refine q_then ?_
    refine h_seq ?_
    refine h_reg ?_
    refine h_op (r_move rfl) ?_
    refine h_call ((Hash_no i hi).comes) rfl rfl rfl fun _ => ?_
    refine h_op (r_assign rfl) ?_
    refine h_nil ?_
    refine q_then ?_
    refine h_seq ?_
    refine h_seq ?_
    refine h_reg ?_
    refine h_op (r_move rfl) ?_
    refine h_op (r_not rfl) ?_
    refine h_nil ?_
    refine q_then ?_
    refine h_condT rfl ?_
    refine h_seq ?_
    refine h_reg ?_
    refine h_call ((alive18_s h).comes) rfl rfl rfl fun ⟨h1, hle1⟩ => ?_
    dsimp only
    refine h_op (r_assign rfl) ?_
    refine h_nil ?_
    refine q_then ?_
    refine h_ret ?_
    refine q_thenR ?_
    exact h_ret1 rfl rfl fun w s => ⟨⟨h1, hle1⟩, rfl, (same (L' := [.zone true h1]) w s).res (List.Sublist.refl _) (by simp [Fa.wr])⟩
end
end Go.Proofs.YtgfkbeipckbkiaaGreatDoor
